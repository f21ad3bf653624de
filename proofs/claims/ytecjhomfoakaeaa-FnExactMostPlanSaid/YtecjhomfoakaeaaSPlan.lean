/-
  MostPlan of the reference.
-/
import Derived.Test.YtecjhomfoakaeaaPMem
import Derived.Test.YtecjhomfoakaeaaSMost4
import Derived.Test.YtecjhomfoakaeaaEnough
import Derived.Deep.QuietTactic
import Derived.BigQuiet
import Derived.Deep.CutRange
import Derived.Laws.Cover1
namespace Go.Proofs.Ytecjhomfoakaeaa
open Go.ChangeShapes Go.WideShapes Go.ChangeAt Go.RowKit

/-- A plan that the call has made. -/
def PlanRes (w : World) (rows : List (List Int)) (e : Ending) (w' : World) : Prop :=
  ∃ (g n c : Nat) (gs : List Nat), e = .returned (.slice (some ⟨g, 0, none⟩) n c) ∧ w'.ownsRow w.heap.size 23 1 (.slice (some ⟨g, 0, none⟩) n c) n (outc gs rows).flatten ∧ RowsOwn w' w.heap.size w'.heap.size gs rows ∧ (∀ x ∈ gs, x ≠ g) ∧ n = rows.length ∧ Below w.heap.size w w'

theorem split_okP {ns : List N4} {feed : List Int} (h : ¬ (needsB ns = true ∧ feedB feed = true)) : needsB ns = false ∨ feedB feed = false := by
  cases h1 : needsB ns
  · exact .inl rfl
  · cases h2 : feedB feed
    · exact .inr rfl
    · exact absurd ⟨h1, h2⟩ h
theorem set_set_at {xs : List Int} {k : Nat} {a b : Int} : (xs.set k a).set k b = xs.set k b := by simp
theorem own_flat {w : World} {base n : Nat} {v : Value} {gs : List Nat} {rows : List (List Int)} (h : w.ownsRow base 23 1 v n (outc gs rows).flatten) : OwnAt w base 23 1 v n (outc gs rows) := by
  refine ⟨h, ?_, outc_one gs rows⟩
  have h1 := h.1
  have : ∀ (l : List (List Value)), (∀ r ∈ l, r.length = 1) → l.flatten.length = l.length := by
    intro l
    induction l with
    | nil => simp
    | cons r l ih => intro hl; simp only [List.flatten_cons, List.length_append, List.length_cons, ih (fun r hr => hl r (by simp [hr])), hl r (by simp)]; omega
  rw [this _ (outc_one gs rows)] at h1
  omega

theorem to_zero (x : MS) (k q u v : Nat) (h : k < x.ws.length) (hq : q < x.fs.length) : (x.to k q u).ws.getD k 0 = x.ws.getD k 0 - u ∧ (x.to k q u).fs.getD q 0 = x.fs.getD q 0 - u ∧ (x.to k q u).ws.set k (x.ws.getD k 0 - v) = (x.to k q v).ws ∧ (x.to k q u).fs.set q (x.fs.getD q 0 - v) = (x.to k q v).fs ∧ (x.to k q u).rs = (x.to k q v).rs := by
  refine ⟨getD_set_self _ _ _ _ h, getD_set_self _ _ _ _ hq, ?_, ?_, rfl⟩ <;> simp [MS.to]

set_option maxRecDepth 100000 in
set_option maxHeartbeats 8000000 in
theorem specMostPlan_any (A : Option Addr) (n c : Nat) (ns : List N4) (F : Option Addr) (m fc : Nat) (feed : List Int) (w : World)
    (hn : n ≤ 9223372036854775807) (hx : NeedsAt w A n ns) (hm : m ≤ 9223372036854775807) (hf : IntsAt w F m feed) :
    Calls Try.prog 5 #[.slice A n c, .slice F m fc] w (PlanRes w (planR ns feed)) := by
  have hbs1 : ∀ w : World, (Instr.buildSlice 23 0 #[]).run Try.prog w = .ok (.slice (some ⟨w.heap.size, 0, none⟩) 0 0) (w.alloc (.cells #[] 3)) := fun _ => by kernel_rfl
  have hbs2 : ∀ w : World, (Instr.buildSlice 25 0 #[]).run Try.prog w = .ok (.slice (some ⟨w.heap.size, 0, none⟩) 0 0) (w.alloc (.cells #[] 23)) := fun _ => by kernel_rfl
  have hmk : ∀ w : World, (Instr.makeSlice 23 (.int .i64 6) (.int .i64 6)).run Try.prog w = .ok (.slice (some ⟨w.heap.size, 0, none⟩) 6 6) (w.alloc (.cells #[.int .i64 0, .int .i64 0, .int .i64 0, .int .i64 0, .int .i64 0, .int .i64 0] 3)) := fun _ => by kernel_rfl
  have hO0 := own0S (w1 := w) (Nat.le_refl w.heap.size)
  have hb0 : Below w.heap.size w (w.alloc (.cells #[] 23)) := (Below.refl _ _).alloc (Nat.le_refl _) _
  by_cases hok : needsB ns = true ∧ feedB feed = true
  case neg =>
    have HM := Lib.hid (mostR_no (split_okP hok))
    have HP := Lib.hid (planR_no (split_okP hok))
    clear hok
    go_enter Try.func5, Try.ntmps5
    go_wp2_with fail
    refine (specMostUnits_any A n c ns F m fc feed _ hn (hx.below hb0) hm (hf.below hb0)).mono ?_; rintro e w2 ⟨rfl, hb2⟩
    rw [HM.out]
    go_wp2
    go_ret
    refine ⟨w.heap.size, 0, 0, [], rfl, ?_, ?_, by simp, ?_, below_next hb0 hb2⟩
    · rw [HP.out]; exact own_keep hO0 hb2
    · rw [HP.out]; exact RowsOwn.nil _ _ _
    · rw [HP.out]; rfl
  have HOK := Lib.hid hok
  have HP := Lib.hid (planR_yes hok.1 hok.2)
  have HM := Lib.hid (mostR_yes hok.1 hok.2)
  have HST := Lib.hid (start_ok hok.1 hok.2)
  have HL := Lib.hid hx.len
  have hn5 : n ≤ 5 := by have := (needsB_ok hok.1).1; have := hx.len; omega
  have hm6 : m = 6 := by have := (feedB_small hok.2).1; have := hf.len; omega
  subst hm6
  clear hok
  obtain ⟨lf, HLF⟩ : ∃ lf, Hid (lf = mostI ns feed) := ⟨_, rfl⟩
  have hlf : 0 ≤ lf := by rw [HLF.out]; exact (mostI_bd HOK.out.1 HOK.out.2).1
  go_enter Try.func5, Try.ntmps5
  go_wp2_with fail
  refine (specMostUnits_any A n c ns F _ fc feed _ hn (hx.below hb0) hm (hf.below hb0)).mono ?_; rintro e w2 ⟨rfl, hb2⟩
  rw [HM.out, ← HLF.out]
  have hO2 := own_keep hO0 hb2
  have hB2 := below_next hb0 hb2
  have hs2 : w.heap.size < w2.heap.size := by have := hb2.size; simp at this; omega
  clear hO0 hb0 hb2
  go_wp2_with fail
  clear hbs2
  have hA0 : PA ((w2.alloc (.cells #[] 3)).alloc (.cells #[] 23)) w2.heap.size 0 w2.heap.size 0 (w2.heap.size + 1) 0 [] [] [] :=
    ⟨by have h := own_keep (own0 (base := w2.heap.size) (w1 := w2) (Nat.le_refl _)) ((Below.refl _ _).alloc (Nat.le_refl _) (.cells #[] 23)); simpa using h,
      by have h := own0S (base := w2.heap.size) (w1 := w2.alloc (.cells #[] 3)) (by simp); simpa using h, rfl, by simp, by omega, by simp, by simp⟩
  have hAB : Below w2.heap.size w2 ((w2.alloc (.cells #[] 3)).alloc (.cells #[] 23)) := ((Below.refl _ _).alloc (Nat.le_refl _) _).alloc (by simp) _
  obtain ⟨B, HB⟩ : ∃ B, Hid (B = w2.heap.size) := ⟨_, rfl⟩
  rw [← HB.out] at hA0 hAB
  have hBs : w.heap.size < B := by rw [HB.out]; exact hs2
  go_loopw [7, 8, 9] (fun vu vr i wr => ∃ (k gU cU gR cR : Nat) (vs : List (Nat × Nat)), k ≤ n ∧ i = .int .i64 k ∧ vu = .slice (some ⟨gU, 0, none⟩) k cU ∧ vr = .slice (some ⟨gR, 0, none⟩) k cR ∧ PA wr B k gU cU gR cR vs ((wants ns).take k) ((rates ns).take k) ∧ Below B w2 wr) (fun _ _ i _ => n - (intOf i).toNat)
  case atStart => exact ⟨0, B, 0, B + 1, 0, [], Nat.zero_le _, rfl, by rw [HB.out], by rw [HB.out], by simpa using hA0, hAB⟩
  case round =>
    obtain ⟨k, gU, cU, gR, cR, vs, hk, rfl, rfl, rfl, hA, hbw⟩ := hrel
    obtain ⟨wo, rfl⟩ : ∃ wo : World, wo = wr := ⟨_, rfl⟩
    clear hA0 hAB
    have hbw' : Below w2.heap.size w2 wo := by rw [← HB.out]; exact hbw
    have hB3 := below_next hB2 hbw'
    have hBw : B ≤ wo.heap.size := by rw [HB.out]; exact hbw'.size
    by_cases hlt : k < n
    · obtain ⟨x, b, off, HX, rfl, hbl, hc0, hc1, hc2, hc3⟩ := (hx.below hB3).get hlt
      have hdk : decide ((k : Int) < (n : Int)) = true := by simp; omega
      go_wp2
      try rw [hdk]
      clear hdk
      go_loopw [10, 11] (fun vv i wr => ∃ (h g cc : Nat), h ≤ 6 ∧ i = .int .i64 h ∧ vv = .slice (some ⟨g, 0, none⟩) h cc ∧ wr.ownsRow wo.heap.size 3 1 (.slice (some ⟨g, 0, none⟩) h cc) h (((ratesOf x).take h).map (Value.int .i64)) ∧ Below wo.heap.size wo wr) (fun _ i _ => 6 - (intOf i).toNat)
      case atStart => exact ⟨0, _, _, by omega, rfl, rfl, own0 (Nat.le_refl _), (Below.refl _ _).alloc (Nat.le_refl _) _⟩
      case round =>
        obtain ⟨h, g, cc, hh, rfl, rfl, hO, hbi⟩ := hrel
        obtain ⟨wi, rfl⟩ : ∃ wi : World, wi = wr := ⟨_, rfl⟩
        have hd0 := (hbi.cell (p := ⟨b, off + k * 4, none⟩) hbl).trans hc0
        have hd1 := (hbi.cell (p := ⟨b, off + k * 4 + 1, none⟩) hbl).trans hc1
        have hd2 := (hbi.cell (p := ⟨b, off + k * 4 + 2, none⟩) hbl).trans hc2
        have hd3 := (hbi.cell (p := ⟨b, off + k * 4 + 3, none⟩) hbl).trans hc3
        by_cases hh6 : h < 6
        · have HRG : Hid ((ratesOf x)[h]? = some (rateI x.f x.t x.r x.u (h : Int))) := ratesOf_get x hh6
          generalize hrt : rateI x.f x.t x.r x.u (h : Int) = y at *
          have HRT := Lib.hid hrt
          clear hrt
          go_wp2_with fail
          refine (specRateIn_any _ _ _ _ _ _).mono ?_; rintro e w3 ⟨rfl, hb3⟩
          rw [HRT.out]
          have hO3 := own_keep hO hb3
          have hbi3 := hbi.trans (hb3.mono hbi.size)
          go_wp2_with (at_builtin; refine wpList_more (base := wo.heap.size) rfl (.tmp 37) (.tmp 44) rfl hbi3.size hO3 y rfl rfl (by omega) ?_; intro ga capa wa hGa hba)
          go_roundw
          case rel => exact ⟨h + 1, ga, capa, by omega, by go_num, rfl, by rw [take_next HRG]; exact hGa, hbi3.trans hba⟩
          case measure => simp [intOf]; omega
        · obtain rfl : h = 6 := by omega
          have hA1 := hA.below hbi
          have hAl := hA.lt
          have hgb := (ownG_far hO).1
          have hBi : B ≤ wi.heap.size := Nat.le_trans hBw hbi.size
          go_wp2_with (first
            | (at_builtin; refine wpList_moreG (base := B) rfl (.tmp 46) (.tmp 52) rfl hBi hA1.u x.u rfl rfl (by omega) ?_; intro gU' cU' wu hu hg1 he1; have hr1 := hA1.keepR hg1; have hBu : B ≤ wu.heap.size := (by have := hg1.size; simp at this; omega))
            | (at_builtin; refine wpList_moreS (base := B) rfl (.tmp 54) (.tmp 56) rfl hBu hr1 (.slice (some ⟨g, 0, none⟩) 6 cc) rfl rfl rfl (by omega) ?_; intro gR' cR' wv hr hg2 he2))
          go_roundw
          case rel =>
            refine ⟨k + 1, gU', cU', gR', cR', vs ++ [(g, cc)], by omega, by go_num, rfl, rfl, ?_, ?_⟩
            · have hrow : wi.ownsRow B 3 1 (rowV (g, cc)) 6 ((ratesOf x).map (Value.int .i64)) := by
                rw [List.take_of_length_le (by rw [ratesOf_len]; omega)] at hO
                refine ⟨hO.1, ?_⟩
                rcases hO.2 with hv | ⟨g', c', cur, h1, h3, h4⟩
                · exact .inl hv
                · exact .inr ⟨g', c', cur, h1, by omega, h4⟩
              rw [take_next (x := x.u) (by have h := HX.out; simp [wants, Hid, h]), take_next (x := ratesOf x) (by have h := HX.out; simp [rates, Hid, h])]
              exact hA1.next hrow (by show g ≠ gU; omega) (by show g ≠ gR; omega) (fun q hq => by have := hAl.2.2 q hq; show q.1 ≠ g; omega) hu hg1 he1 hr hg2 he2
            · have h1 : Below B w2 wi := hbw.trans (hbi.mono hBw)
              have h2 := (h1.alloc hBi (.cells #[.int .i64 x.u] 3)).grown hg1 (by simp; omega) (fun q hq => (hA1.u.lt q hq).1)
              exact (h2.alloc hBu (.cells #[.slice (some ⟨g, 0, none⟩) 6 cc] 23)).grown hg2 (by simp; omega) (fun q hq => (hr1.lt q hq).1)
          case measure => simp [intOf]; omega
    · obtain rfl : k = n := by omega
      have hlw : (wants ns).length = k := by simp [wants]; exact HL.out
      have hlr : (rates ns).length = k := by simp [rates]; exact HL.out
      rw [take_all hlw (Nat.le_refl _), take_all hlr (Nat.le_refl _)] at hA
      have hf3 := hf.below hB3
      have hF6 := hf3.len
      obtain ⟨gf, of, rfl⟩ : ∃ gf of, F = some ⟨gf, of, none⟩ := by
        obtain ⟨_, b, off, _, hA', _⟩ := hf3.get (k := 0) (by omega)
        exact ⟨b, off, hA'⟩
      go_wp2_with (at_builtin; refine wpList_copyF rfl (.tmp 58) (.tmp 59) rfl hf3 rfl rfl (by omega) ?_; intro vF wF hOF hbF; obtain ⟨A5, cF, rfl, hc51, hc52⟩ := (own_ints hOF).form; obtain ⟨gF, rfl⟩ := own_block hOF (by omega))
      have hPM := hA.with_feed hbF hOF hBw rfl
      have hO4 := own_keep (own_keep hO2 hbw') hbF
      have hB4 := below_next hB3 hbF
      obtain ⟨T, HT⟩ : ∃ T, Hid (T = wF.heap.size) := ⟨_, rfl⟩
      rw [← HT.out] at hPM
      have hBT : B ≤ T := by rw [HT.out]; exact Nat.le_trans hBw hbF.size
      have hS0 : SO0 w wF w.heap.size B T w.heap.size 0 0 [] [] := ⟨hO4, RowsOwn.nil _ _ _, .inl hBs, by simp, by rw [HT.out]; exact Nat.le_refl _, hB4, Nat.le_of_lt hBs⟩
      have hPM0 : PMx wF B T k gU cU gF cF gR cR vs ((MS.start ns feed).all 0) := hPM
      have HL0 : Hid (lf = ((MS.start ns feed).all 0).left) := HLF.out
      rw [HL0.out]
      clear hA hPM hO2 hO4 hB4 hB3 hbw hbw' hOF hbF hf3 hc51 hc52 hBw
      go_loopw [5, 6, 13] (fun vo vl i wr => ∃ (j gO cO : Nat) (gs : List Nat), j ≤ k ∧ i = .int .i64 j ∧ vo = .slice (some ⟨gO, 0, none⟩) j cO ∧ vl = .int .i64 ((MS.start ns feed).all j).left ∧ PMx wr B T k gU cU gF cF gR cR vs ((MS.start ns feed).all j) ∧ SO0 w wr w.heap.size B T gO cO j gs (((MS.start ns feed).plan k).take j)) (fun _ _ i _ => k - (intOf i).toNat)
      case atStart => exact ⟨0, _, _, [], Nat.zero_le _, rfl, rfl, rfl, hPM0, by simpa using hS0⟩
      case round =>
        obtain ⟨j, gO, cO, gs, hj, rfl, rfl, rfl, hPM, hS⟩ := hrel
        obtain ⟨wo, rfl⟩ : ∃ wo : World, wo = wr := ⟨_, rfl⟩
        clear hPM0 hS0
        by_cases hjk : j < k
        · have HX0 := Lib.hid (HST.out.all j (by rw [HL.out]; omega))
          rw [HL.out] at HX0
          obtain ⟨x0, hx0⟩ : ∃ x0, Hid (x0 = (MS.start ns feed).all j) := ⟨_, rfl⟩
          rw [← hx0.out] at HX0 hPM ⊢
          have hS1 := hS.start
          have hPM1 : PMx (wo.alloc (.cells #[.int .i64 0, .int .i64 0, .int .i64 0, .int .i64 0, .int .i64 0, .int .i64 0] 3)) B T k gU cU gF cF gR cR vs (x0.run j 0) := hPM.far fun q _ hq => Below.heap_alloc wo _ q (by have := hS.top; omega)
          have htop := hS.top
          have hdj : decide ((j : Int) < (k : Int)) = true := by simp; omega
          clear hS hPM
          rw [show x0.left = (x0.run j 0).left from rfl]
          go_wp2
          try rw [hdj]
          clear hdj
          obtain ⟨gW, HW⟩ : ∃ gW, Hid (gW = wo.heap.size) := ⟨_, rfl⟩
          rw [← HW.out] at hS1 htop ⊢
          go_loopw [6, 15] (fun vl i wr => ∃ h : Nat, h ≤ 6 ∧ i = .int .i64 h ∧ vl = .int .i64 (x0.run j h).left ∧ PMx wr B T k gU cU gF cF gR cR vs (x0.run j h) ∧ SO w wr w.heap.size B T gO cO j gs (((MS.start ns feed).plan k).take j) gW h ((x0.row j).take h)) (fun _ i _ => 6 - (intOf i).toNat)
          case atStart => exact ⟨0, by omega, rfl, rfl, hPM1, by simpa using hS1⟩
          case round =>
            obtain ⟨h, hh, rfl, rfl, hPM, hS⟩ := hrel
            obtain ⟨wi, rfl⟩ : ∃ wi : World, wi = wr := ⟨_, rfl⟩
            clear hPM1 hS1
            by_cases hh6 : h < 6
            · have HXH := Lib.hid (HX0.out.run hjk h (by omega))
              obtain ⟨x, hxe⟩ : ∃ x, Hid (x = x0.run j h) := ⟨_, rfl⟩
              rw [← hxe.out] at HXH hPM ⊢
              obtain ⟨⟨pg, pc⟩, hp⟩ := hPM.getV hjk
              have hdV := hPM.dV _ (List.mem_of_getElem? hp)
              have hBp := hPM.base (List.mem_of_getElem? hp)
              have hTp := hPM.low.2.2.2 _ (List.mem_of_getElem? hp)
              have hBU := (ownG_far hPM.u).1
              have hBF := (ownG_far hPM.f).1
              have hTU := hPM.low.1
              have hTF := hPM.low.2.1
              simp only at hdV hBp hTp
              obtain ⟨dp1, dp2, dp3⟩ := hdV
              have hUF := hPM.dUF
              have hUR := hPM.dUR
              have hFR := hPM.dFR
              have HP := Lib.hid hp
              have hro := HXH.out.row hjk
              obtain ⟨r, hr⟩ : ∃ r, x.rs[j]? = some r := ⟨_, List.getElem?_eq_getElem (by have := HXH.out.rl; omega)⟩
              have her : x.rs.getD j [] = r := by simp [List.getD_eq_getElem?_getD, hr]
              rw [her] at hro
              obtain ⟨a, ha⟩ : ∃ a, r[h]? = some a := ⟨_, List.getElem?_eq_getElem (by have := hro.1; omega)⟩
              obtain ⟨b, hb⟩ : ∃ b, x.ws[j]? = some b := ⟨_, List.getElem?_eq_getElem (by have := HXH.out.wl; omega)⟩
              obtain ⟨f, hf0⟩ : ∃ f, x.fs[h]? = some f := ⟨_, List.getElem?_eq_getElem (by have := HXH.out.fl; omega)⟩
              have hab := small_at hro.2 (show Hid _ from ha)
              have hbb := small_at HXH.out.wsm (show Hid _ from hb)
              have hfb := small_at HXH.out.fsm (show Hid _ from hf0)
              have dR := hPM.cellR hp
              have dA := hPM.cellRow hp hr ha
              have dU := hPM.cellU hb
              have dF := hPM.cellF hf0
              have zA := ownG_free (hPM.row j _ r hp hr) h
              simp only [rowV] at dR
              simp only at dA zA
              obtain ⟨u0, hu0⟩ : ∃ u0, Hid (u0 = x.top j h) := ⟨_, rfl⟩
              have hu0i : (u0 : Int) = min (min a b) f := by
                have e1 : r.getD h 0 = a := by simp [List.getD_eq_getElem?_getD, ha]
                have e2 : x.ws.getD j 0 = b := by simp [List.getD_eq_getElem?_getD, hb]
                have e3 : x.fs.getD h 0 = f := by simp [List.getD_eq_getElem?_getD, hf0]
                rw [hu0.out]; unfold MS.top; rw [her, e1, e2, e3]; omega
              have hmin : ∀ (ts : Array TypeId) (ty : TypeId) (w : World), (Builtin.min_ ts ty #[.int .i64 a, .int .i64 b, .int .i64 f]).run Try.prog w = .ok (.int .i64 (u0 : Int)) w := by
                intro ts ty w
                rw [run_min_int3]
                have e : (if f < (if b < a then b else a) then f else (if b < a then b else a)) = (u0 : Int) := by rw [hu0i]; split <;> split <;> omega
                rw [e]
              have hu0b : (u0 : Int) ≤ b ∧ (u0 : Int) ≤ f := by omega
              clear hu0i
              have i1 : (0 : Int) ≤ (j : Int) := by omega
              have i2 : (j : Int) < (k : Int) := by omega
              have i3 : (0 : Int) ≤ (h : Int) := by omega
              have i4 : (h : Int) < 6 := by omega
              go_wp2
              go_quiet (fail)
              go_upto_region 27 with fail
              have hP1 := PM.setRow (hPM.far (w' := wi.drewN nq) fun _ _ _ => rfl) hp h 0
              have hS1 := (hS.belowN (below_drewN (Below.refl _ wi) nq) (ownG_far hS.out).2).low (p := ⟨pg, h, none⟩) hBp hTp (.int .i64 0)
              simp only at hP1
              generalize (wi.drewN nq).setCell ⟨pg, h, none⟩ (.int .i64 0) = wa at *
              clear hPM hS dR dA dU dF zA
              have dU := hP1.cellU hb
              have zU := ownG_free hP1.u j
              have hwb : IntKind.i64.wrap (b - (u0 : Int)) = b - (u0 : Int) := IntWalk.i64_in _ (by omega)
              have hwf : IntKind.i64.wrap (f - (u0 : Int)) = f - (u0 : Int) := IntWalk.i64_in _ (by omega)
              go_upto_region 28 with fail
              have hP2 := hP1.setU j (b - (u0 : Int))
              have hS2 := hS1.low (p := ⟨gU, j, none⟩) hBU hTU (.int .i64 (b - (u0 : Int)))
              generalize wa.setCell ⟨gU, j, none⟩ (.int .i64 (b - (u0 : Int))) = wb at *
              clear hP1 hS1 dU zU
              have dF := hP2.cellF hf0
              have zF := ownG_free hP2.f h
              go_wp2
              have hP3 := hP2.setF h (f - (u0 : Int))
              have hS3 := hS2.low (p := ⟨gF, h, none⟩) hBF hTF (.int .i64 (f - (u0 : Int)))
              generalize wb.setCell ⟨gF, h, none⟩ (.int .i64 (f - (u0 : Int))) = wc at *
              clear hP2 hS2 dF zF hwb hwf hmin
              have hbe : x.ws.getD j 0 = b := by simp [List.getD_eq_getElem?_getD, hb]
              have hfe : x.fs.getD h 0 = f := by simp [List.getD_eq_getElem?_getD, hf0]
              have hP4 : PMx wc B T k gU cU gF cF gR cR vs (x.to j h u0) := by
                unfold PMx MS.to setR; rw [hbe, hfe]; exact hP3
              have HUN := Lib.hid (HXH.out.under_top hjk hh6)
              have HDN : Hid (down (x.goal j h) (x.top j h) = x.pick j h) := rfl
              rw [← hu0.out] at HUN HDN
              have hut : u0 ≤ x.top j h := by rw [hu0.out]; exact Nat.le_refl _
              clear hP3
              have hxl := HXH.out.bd
              have hwl6 : x.ws.length = k := HXH.out.wl
              have hfl6 : x.fs.length = 6 := HXH.out.fl
              go_loopw [16] (fun vu wr => ∃ u : Nat, vu = .int .i64 u ∧ u ≤ x.top j h ∧ x.under j h u ∧ down (x.goal j h) u = x.pick j h ∧ PMx wr B T k gU cU gF cF gR cR vs (x.to j h u) ∧ SO w wr w.heap.size B T gO cO j gs (((MS.start ns feed).plan k).take j) gW h ((x0.row j).take h)) (fun v _ => (intOf v).toNat)
              case atStart => exact ⟨u0, rfl, hut, HUN.out, HDN.out, hP4, hS3⟩
              case round =>
                obtain ⟨u, rfl, hut2, hun, hdn, hPu, hSu⟩ := hrel
                obtain ⟨we, rfl⟩ : ∃ we : World, we = wr := ⟨_, rfl⟩
                have HUN2 := Lib.hid hun
                have HDN2 := Lib.hid hdn
                clear hun hdn hP4 hS3 HUN HDN hut
                obtain ⟨q1, q2, q3⟩ := HXH.out.to_small hjk hut2
                have hub := HXH.out.top_le j h hjk
                have hub2 : (u : Int) ≤ b ∧ (u : Int) ≤ f := by
                  have h1 := hub.2.1
                  have h2 := hub.2.2.1
                  rw [hbe] at h1; rw [hfe] at h2; omega
                clear hub
                have hcu : Hid (leastI (cutOfI (x.to j h u).ws (x.to j h u).rs (x.to j h u).fs) 63 = x.cutU j h u) := rfl
                have cub : 0 ≤ x.cutU j h u ∧ x.cutU j h u ≤ 330 := by
                  refine leastI_bd (fun s => ?_) 63
                  have h1 := cutOfI_bd q1 q2 q3 s
                  have h2 : (x.to j h u).ws.length = k := by simp [MS.to, hwl6]
                  have h3 : (x.to j h u).fs.length = 6 := by simp [MS.to, hfl6]
                  omega
                have HG : Hid (x.goal j h u = decide (x.left ≤ u + x.cutU j h u)) := rfl
                have HSM := Lib.hid (And.intro q1 (And.intro q2 q3))
                obtain ⟨cu, HCU⟩ : ∃ z, Hid (x.cutU j h u = z) := ⟨_, rfl⟩
                rw [HCU.out] at cub HG hcu
                clear q1 q2 q3
                cases hg : x.goal j h u
                · have hcd : decide ((u : Int) + cu < x.left) = true := by
                    have h1 := HG.out; rw [hg] at h1; simp at h1 ⊢; omega
                  obtain ⟨v, hv, hun3⟩ := HXH.out.lower hjk hh6 HUN2.out hut2 hg
                  have HUN3 := Lib.hid hun3
                  have HDN3 : Hid (down (x.goal j h) v = x.pick j h) := by
                    have h1 := HDN2.out
                    rw [hv, down_no (by rw [← hv]; exact hg)] at h1; exact h1
                  have HV := Lib.hid hv
                  have hu1 : 1 ≤ u := by omega
                  clear hg hun3 HG hv
                  have hwu : (x.to j h u).ws[j]? = some (b - (u : Int)) := by
                    show (x.ws.set j (x.ws.getD j 0 - (u : Int)))[j]? = _
                    rw [List.getElem?_set_self (by omega), hbe]
                  have hwf : (x.to j h u).fs[h]? = some (f - (u : Int)) := by
                    show (x.fs.set h (x.fs.getD h 0 - (u : Int)))[h]? = _
                    rw [List.getElem?_set_self (by omega), hfe]
                  have dU := hPu.cellU hwu
                  have zU := ownG_free hPu.u j
                  have hq1 : IntKind.i64.wrap (b - (u : Int) + 1) = b - (u : Int) + 1 := IntWalk.i64_in _ (by omega)
                  have hq2 : IntKind.i64.wrap (f - (u : Int) + 1) = f - (u : Int) + 1 := IntWalk.i64_in _ (by omega)
                  go_wp2_with fail
                  refine (l4Most_any _ _ _ k cU cR cF _ _ _ we hn5 HSM.out.1 HSM.out.2.1 HSM.out.2.2 hPu.intsU (hPu.rows fun r hr => (HSM.out.2.1 r hr).1) hPu.intsF).mono ?_; rintro e w9 ⟨rfl, rfl⟩
                  rw [hcu.out]
                  go_upto_region 32 with fail
                  have hP5 := hPu.setU j (b - (u : Int) + 1)
                  have hS5 := hSu.low (p := ⟨gU, j, none⟩) hBU hTU (.int .i64 (b - (u : Int) + 1))
                  generalize we.setCell ⟨gU, j, none⟩ (.int .i64 (b - (u : Int) + 1)) = wd at *
                  clear hPu hSu dU zU
                  have dF := hP5.cellF hwf
                  have zF := ownG_free hP5.f h
                  go_wp2
                  go_roundw
                  case rel =>
                    have hv := HV.out
                    refine ⟨v, by go_num, by omega, HUN3.out, HDN3.out, ?_, hS5.low (p := ⟨gF, h, none⟩) hBF hTF _⟩
                    have h1 := hP5.setF h (f - (u : Int) + 1)
                    obtain ⟨-, -, e1, e2, e3⟩ := to_zero x j h u v (by omega) (by omega)
                    rw [hbe, show b - (v : Int) = b - (u : Int) + 1 by omega] at e1
                    rw [hfe, show f - (v : Int) = f - (u : Int) + 1 by omega] at e2
                    rw [e1, e2, e3] at h1
                    exact h1
                  case measure => simp [intOf]; omega
                · have hcd : decide ((u : Int) + cu < x.left) = false := by
                    have h1 := HG.out; rw [hg] at h1; simp at h1 ⊢; omega
                  have HPK : Hid (u = x.pick j h) := by have h1 := HDN2.out; rw [down_yes hg] at h1; exact h1
                  clear hg HG
                  obtain ⟨uu, dW⟩ := hSu.fill.cell (j := h) (by omega)
                  have zW := hSu.fill.free h
                  have hq3 : IntKind.i64.wrap (x.left - (u : Int)) = x.left - (u : Int) := IntWalk.i64_in _ (by omega)
                  go_wp2_with fail
                  refine (l4Most_any _ _ _ k cU cR cF _ _ _ we hn5 HSM.out.1 HSM.out.2.1 HSM.out.2.2 hPu.intsU (hPu.rows fun r hr => (HSM.out.2.1 r hr).1) hPu.intsF).mono ?_; rintro e w9 ⟨rfl, rfl⟩
                  rw [hcu.out]
                  go_wp2
                  refine ⟨?rel, ?measure⟩
                  case rel =>
                    have he : x0.run j (h + 1) = x.to j h u := by
                      show (x0.run j h).step j h = _
                      rw [← hxe.out]; unfold MS.step; rw [← HPK.out]
                    have hrow : (x0.row j)[h]? = some (u : Int) := by
                      unfold MS.row
                      rw [List.getElem?_map, List.getElem?_range hh6]
                      show some (((x0.run j h).pick j h : Nat) : Int) = _
                      rw [← hxe.out, ← HPK.out]
                    refine ⟨h + 1, by omega, by go_num, by rw [he]; rfl, ?_, ?_⟩
                    · rw [he]
                      exact hPu.far fun q _ hq => Below.heap_setCell we ⟨gW, h, none⟩ _ q (by show q ≠ gW; omega)
                    · rw [take_next (x := (u : Int)) hrow]
                      exact hSu.put hh6 _ (by omega)
                  case measure => simp [intOf]; omega
            · obtain rfl : h = 6 := by omega
              have h6 : ((x0.row j).take 6).length = 6 := by rw [List.length_take, row_len]; omega
              have hbo := (ownG_far hS.out).1
              have hbs : w.heap.size ≤ wi.heap.size := by have := (ownG_far hS.out).2; omega
              go_wp2_with (at_builtin; refine wpList_moreS (base := w.heap.size) rfl (.tmp 145) (.tmp 147) rfl hbs hS.out (.slice (some ⟨gW, 0, none⟩) 6 6) rfl rfl rfl (by omega) ?_; intro gO' cO' wv hr hg2 he2)
              go_roundw
              case rel =>
                have hal : (MS.start ns feed).all (j + 1) = x0.run j 6 := by
                  show ((MS.start ns feed).all j).run j 6 = _
                  rw [← hx0.out]
                have hpl : ((MS.start ns feed).plan k)[j]? = some (x0.row j) := by
                  unfold MS.plan
                  rw [List.getElem?_map, List.getElem?_range hjk]
                  show some (((MS.start ns feed).all j).row j) = _
                  rw [← hx0.out]
                have hSn := hS.next h6 hr hg2 he2
                rw [show (x0.row j).take 6 = x0.row j from List.take_of_length_le (by rw [row_len]; omega)] at hSn
                refine ⟨j + 1, gO', cO', gs ++ [gW], by omega, by go_num, rfl, by rw [hal], ?_, ?_⟩
                · rw [hal]
                  exact hPM.over hg2 hS.pos (by have := hS.fill.lt; omega)
                · rw [take_next (x := x0.row j) hpl]
                  exact hSn
              case measure => simp [intOf]; omega
        · obtain rfl : j = k := by omega
          go_wp2
          go_ret
          have hpl : ((MS.start ns feed).plan j).length = j := plan_len _ _
          rw [take_all hpl (Nat.le_refl _)] at hS
          have hTb : w.heap.size ≤ T := by omega
          refine ⟨gO, j, cO, gs, rfl, ?_, ?_, hS.nin, ?_, hS.bel⟩
          · rw [HP.out, HL.out]; exact hS.out
          · rw [HP.out, HL.out]
            exact ⟨hS.ro.len, fun a g r h1 h2 => by obtain ⟨e1, e2, e3⟩ := hS.ro.each a g r h1 h2; exact ⟨by omega, e2, e3⟩, hS.ro.up⟩
          · rw [HP.out, HL.out, hpl]
end Go.Proofs.Ytecjhomfoakaeaa
