/-
  The reference's draw of needs, a feed and a plan: its walk.
-/
import Derived.Test.YtobkljhbmeglpaaDoorDrPlan
import Derived.Deep.CutRange
namespace Go.Proofs.YtobkljhbmeglpaaDoor
open Go.ChangeShapes Go.WideShapes Go.ChangeAt Go.RowKit

theorem PC.lower {w : World} {B B' gO n cO : Nat} {gs : List Nat} {rows : List (List Int)} (h : PC w B gO n cO gs rows) (hb : B' ≤ B) : PC w B' gO n cO gs rows := by
  refine ⟨⟨h.out.1, ?_⟩, h.len, fun j g r hg hr => by obtain ⟨h1, h2⟩ := h.each j g r hg hr; exact ⟨by omega, h2⟩, h.inj⟩
  rcases h.out.2 with hv | ⟨g, c, cur, h1, h3, h4⟩
  · exact .inl hv
  · exact .inr ⟨g, c, cur, h1, by omega, h4⟩
theorem rowsTo.snoc {b : Nat} {rows : List (List Int)} (h : rowsTo b rows) : rowsTo b (rows ++ [[0, 0, 0, 0, 0, 0]]) := by
  intro q hq
  rcases List.mem_append.1 hq with hq | hq
  · exact h q hq
  · simp at hq; subst hq
    exact ⟨rfl, by intro x hx; simp at hx; omega⟩
def DrawCh (w0 w : World) (R : Nat) (A : Option Addr) (n c : Nat) (bs : List Int) (K : Nat) (e : Ending) (w' : World) : Prop :=
  ∃ (v1 v2 : Value) (gO n3 cO : Nat) (gs : List Nat) (rows : List (List Int)), e = .returned (.tuple #[v1, v2, .slice (some ⟨gO, 0, none⟩) n3 cO]) ∧ PC w' w.heap.size gO n3 cO gs rows ∧ planD rows ∧ Rd w0 w' R A n c bs K ∧ Fr1 R w w'

set_option maxRecDepth 100000 in
set_option maxHeartbeats 8000000 in
theorem l20Charge_any (w0 w : World) (R : Nat) (A : Option Addr) (n c : Nat) (bs : List Int) (J : Nat) (h : Rd w0 w R A n c bs J) (hJ : J ≤ 700000) :
    Calls Tryd.prog 58 #[.pointer (some ⟨R, 0, none⟩)] w (DrawCh w0 w R A n c bs (J + 1000)) := by
  have hRl := h.lt
  have hbsN : ∀ w : World, (Instr.buildSlice 35 0 #[]).run Tryd.prog w = .ok (.slice (some ⟨w.heap.size, 0, none⟩) 0 0) (w.alloc (.cells #[] 24)) := fun _ => by kernel_rfl
  have hmk : ∀ w : World, (Instr.makeSlice 29 (.int .i64 6) (.int .i64 6)).run Tryd.prog w = .ok (.slice (some ⟨w.heap.size, 0, none⟩) 6 6) (w.alloc (.cells #[.int .i64 0, .int .i64 0, .int .i64 0, .int .i64 0, .int .i64 0, .int .i64 0] 3)) := fun _ => by kernel_rfl
  go_enter Tryd.func58, Tryd.ntmps58
  go_wp2_with fail
  refine (l20Needs_any w0 w R A n c bs J 14 h (by omega) (by omega) (by omega)).mono ?_; rintro e w1 ⟨g, m, d, ns, rfl, hO1, hm, hR1, hf1⟩
  have hR1l := hR1.lt
  go_wp2_with fail
  refine (l20Feed_any w0 w1 R A n c bs (J + 100) 14 hR1 (by omega) (by omega) (by omega)).mono ?_; rintro e w2 ⟨g2, off, m2, d2, xs, rfl, hI2, hm2, -, hR2, hf2⟩
  have hN2 : OwnAt w2 w.heap.size 24 4 (.slice (some ⟨g, 0, none⟩) m d) m (nc ns) := ⟨ownsRow_fr1 hO1.own hf2 hRl, hO1.len, hO1.one⟩
  have hF2 := hf1.trans hf2
  clear hO1 hR1 hf1 hf2 h
  go_wp2_with fail
  refine (specMostPlan_any _ m d ns _ m2 d2 xs w2 (by omega) hN2.slAt (by omega) hI2.ints).mono ?_; rintro e w3 ⟨gO, n3, cO, gs, rfl, p1, p2, p3, p4, hb3⟩
  obtain ⟨hto, hl5⟩ := planR_to ns xs
  have hPC3 := PlanRes.pc p1 p2 p3 fun r hr => (hto r hr).1
  have hn5 : n3 ≤ 5 := by omega
  clear p1 p2 p3 p4 hl5
  obtain ⟨rows, HROWS⟩ : ∃ rows, Hid (rows = planR ns xs) := ⟨_, rfl⟩
  rw [← HROWS.out] at hto hPC3
  have HTO := Lib.hid hto
  clear hto HROWS
  have hR3 := hR2.below hb3
  have hF3 := hF2.below hb3
  have hN3 := hN2.below hb3
  have hI3 := hI2.below hb3
  obtain ⟨B, HB⟩ : ∃ B, Hid (B = w2.heap.size) := ⟨_, rfl⟩
  rw [← HB.out] at hPC3
  have hRB : R < B := by rw [HB.out]; exact hR2.lt
  have hwB : w.heap.size ≤ B := by rw [HB.out]; exact hF2.size
  clear hN2 hI2 hR2 hF2 hb3
  go_wp2_with fail
  refine (pick_any w0 _ R A n c bs (J + 110) 4 hR3 (by omega)).mono ?_; rintro e w4 ⟨y, rfl, hy0, -, -, hR4, hf4⟩
  have hPC4 := hPC3.fr1 hf4 hRB
  have hF4 := hF3.trans hf4
  have hN4 : OwnAt w4 w.heap.size 24 4 (.slice (some ⟨g, 0, none⟩) m d) m (nc ns) := ⟨ownsRow_fr1 hN3.own hf4 hRl, hN3.len, hN3.one⟩
  have hI4 := hI3.fr1 hf4 hR1l
  clear hPC3 hF3 hN3 hI3 hR3 hf4
  go_upto_if 23 with fail
  go_cut [8, 9, 10, 11] from 24 to 65 (fun _a _b _c _d wc => ∃ (gs' : List Nat) (rows' : List (List Int)), PC wc B gO n3 cO gs' rows' ∧ rowsTo 30 rows' ∧ Rd w0 wc R A n c bs (J + 111) ∧ Fr1 R w wc)
  case first =>
    by_cases hy : y = 0
    · subst hy
      go_wp2
      clear hbsN
      go_loopw [8, 9] (fun v i wr => ∃ (j q g3 cc : Nat) (ts : List N4), j + q = m ∧ i = .int .i64 ((q : Int) - 1) ∧ v = .slice (some ⟨g3, 0, none⟩) j cc ∧ ts.length = j ∧ wr.ownsRow w4.heap.size 24 4 (.slice (some ⟨g3, 0, none⟩) j cc) j (nc ts).flatten ∧ Below w4.heap.size w4 wr) (fun _ i _ => (intOf i + 1).toNat)
      case atStart => exact ⟨0, m, _, _, [], by omega, rfl, rfl, rfl, ownN0 (Nat.le_refl _), (Below.refl _ _).alloc (Nat.le_refl _) _⟩
      case round =>
        obtain ⟨j, q, g3, cc, ts, hjq, rfl, rfl, hts, hO, hbw⟩ := hrel
        by_cases hq : 0 < q
        · obtain ⟨p, rfl⟩ : ∃ p, q = p + 1 := ⟨q - 1, by omega⟩
          rw [show (((p + 1 : Nat) : Int) - 1) = (p : Int) by omega]
          have hN5 : NeedsAt wr (some ⟨g, 0, none⟩) m ns := (hN4.below hbw).slAt
          obtain ⟨x, b, of, HX, he, hbl, hc0, hc1, hc2, hc3⟩ := hN5.get (k := p) (by omega)
          injection he with he; injection he with e1 e2; subst e1; subst e2
          simp only [Nat.zero_add] at hc0 hc1 hc2 hc3
          have i1 : (0 : Int) ≤ (p : Int) := by omega
          have i2 : (p : Int) < (m : Int) := by omega
          clear HX hN5
          go_wp2_with (at_builtin; refine wpList_moreN (base := w4.heap.size) rfl (.tmp 32) (.tmp 37) rfl hbw.size hO x rfl rfl (by omega) ?_; intro ga ca wa hGa hba)
          go_roundw
          case rel => exact ⟨j + 1, p, by omega, rfl, ga, ca, ⟨rfl, rfl, rfl⟩, _, by rw [List.length_append, hts]; rfl, hGa, hbw.trans hba⟩
          case measure => simp [intOf]; omega
        · obtain rfl : q = 0 := by omega
          obtain rfl : j = m := by omega
          have hT5 := own_needs hO hts
          have hcc := ownG_cap hO
          have hPC5 := hPC4.below hbw
          have hR5 := hR4.below hbw
          have hF5 := hF4.below hbw
          have hI5 := hI4.below hbw
          have hlt5 : ∀ x ∈ gs, x < wr.heap.size := fun x hx => (hPC5.mem hx).2.2
          have hgO5 := (ownG_far hPC5.out)
          obtain ⟨wr5, rfl⟩ : ∃ wr5 : World, wr5 = wr := ⟨_, rfl⟩
          clear hPC4 hR4 hF4 hI4 hN4 hbw hO
          go_wp2_with fail
          refine (specMostPlan_any _ j cc ts _ m2 d2 xs wr5 (by omega) hT5.slAt (by omega) hI5.ints).mono ?_; rintro e w6 ⟨gO2, n4, cO2, gs2, rfl, p1, p2, p3, p4, hb6⟩
          obtain ⟨hto2, -⟩ := planR_to ts xs
          have hQ6 := PlanRes.pc p1 p2 p3 fun r hr => (hto2 r hr).1
          clear p1 p2 p3 p4
          obtain ⟨rows2, HR2⟩ : ∃ rows2, Hid (rows2 = planR ts xs) := ⟨_, rfl⟩
          rw [← HR2.out] at hto2 hQ6
          have HTO2 := Lib.hid hto2
          clear hto2 HR2
          have hPC6 := hPC5.below hb6
          have hR6 := hR5.below hb6
          have hF6 := hF5.below hb6
          obtain ⟨L, HL⟩ : ∃ L, Hid (L = wr5.heap.size) := ⟨_, rfl⟩
          rw [← HL.out] at hQ6 hlt5 hgO5
          clear hPC5 hR5 hF5 hI5 hb6 hT5
          by_cases hnn : n4 = n3
          · subst hnn
            have hee : ((n4 : Int) == (n4 : Int)) = true := by simp
            go_wp2
            go_loopw [11] (fun i wr => ∃ (k : Nat) (gs' : List Nat) (rows' : List (List Int)), k ≤ n4 ∧ i = .int .i64 k ∧ PC wr B gO n4 cO gs' rows' ∧ PC wr L gO2 n4 cO2 gs2 rows2 ∧ rowsTo 30 rows' ∧ (∀ x ∈ gs', x < L ∨ ∃ i, i < k ∧ gs2[n4 - 1 - i]? = some x) ∧ Rd w0 wr R A n c bs (J + 111) ∧ Fr1 R w wr) (fun i _ => n4 - (intOf i).toNat)
            case atStart => exact ⟨0, gs, rows, by omega, rfl, hPC6, hQ6, HTO.out, fun x hx => .inl (hlt5 x hx), hR6, hF6⟩
            case round =>
              obtain ⟨k, gs', rows', hk, rfl, hP, hQ, hto, hold, hRr, hFr⟩ := hrel
              clear hPC6 hQ6 hR6 hF6
              by_cases hkn : k < n4
              · obtain ⟨q, hq⟩ : ∃ q : Nat, q = n4 - 1 - k := ⟨_, rfl⟩
                have hqi : (n4 : Int) - 1 - (k : Int) = (q : Int) := by omega
                obtain ⟨gq, rq, hgq, hrq⟩ := hQ.get (j := q) (by omega)
                obtain ⟨gk, rk, hgk, hrk⟩ := hP.get hkn
                have hw1 : IntKind.i64.wrap ((n4 : Int) - 1 - (k : Int)) = (q : Int) := by rw [hqi]; exact IntWalk.i64_in _ (by omega)
                have hw2 : IntKind.i64.wrap ((n4 : Int) - 1) = (n4 : Int) - 1 := IntWalk.i64_in _ (by omega)
                have dQ := hQ.cell hgq
                have dP := hP.cell hgk
                have zP := ownG_free hP.out k
                simp only [slv] at dQ dP
                have j1 : (0 : Int) ≤ (q : Int) := by omega
                have j2 : (q : Int) < (n4 : Int) := by omega
                have j3 : (0 : Int) ≤ (k : Int) := by omega
                have j4 : (k : Int) < (n4 : Int) := by omega
                have hkd : decide ((k : Int) < (n4 : Int)) = true := by simp; omega
                have HQI := Lib.hid hqi
                have HQQ := Lib.hid hq
                clear hqi hq
                go_wp2
                go_roundw
                case rel =>
                  obtain ⟨e1, e2, e3, e4⟩ := hQ.each q gq rq hgq hrq
                  have hq := HQQ.out
                  have hgLq : gO < L := hgO5.2
                  have hnin : gq ∉ gs' := by
                    intro hm
                    rcases hold gq hm with h1 | ⟨i, h1, h2⟩
                    · omega
                    · have := hQ.inj _ _ _ h2 hgq; omega
                  refine ⟨k + 1, gs'.set k gq, rows'.set k rq, by omega, by go_num, hP.swap hkn e4 e3 (by omega) (by omega) hnin, hQ.far (fun a h1 _ => blk_other _ _ _ (by show a ≠ gO; omega)), hto.swap k (HTO2.out rq (List.mem_of_getElem? hrq)), fun x hx => ?_, hRr.set (p := ⟨gO, k, none⟩) (by show R < gO; omega) _, hFr.far (p := ⟨gO, k, none⟩) (by show w.heap.size ≤ gO; omega) _⟩
                  rcases List.mem_or_eq_of_mem_set hx with hx | rfl
                  · rcases hold x hx with h1 | ⟨i, h1, h2⟩
                    · exact .inl h1
                    · exact .inr ⟨i, by omega, h2⟩
                  · exact .inr ⟨k, by omega, by rw [show n4 - 1 - k = q by omega]; exact hgq⟩
                case measure => simp [intOf]; omega
              · obtain rfl : k = n4 := by omega
                have hkd : decide ((k : Int) < (k : Int)) = false := by simp
                go_wp2
                go_meet
                case rel => exact ⟨_, _, hP, hto, hRr, hFr⟩
          · have hee : ((n4 : Int) == (n3 : Int)) = false := by simp; omega
            go_wp2
            go_loopw [11] (fun i wr => i = .int .i64 0 ∧ wr = w6) (fun i _ => (intOf i).toNat)
            case atStart => exact ⟨rfl, rfl⟩
            case round =>
              obtain ⟨rfl, rfl⟩ := hrel
              by_cases h0 : 0 < n3
              all_goals
                go_wp2
                go_meet
                case rel => exact ⟨_, _, hPC6, HTO.out, hR6, hF6⟩
    · have hyd : (y == 0) = false := by simpa using hy
      go_wp2
      go_meet
      case rel => exact ⟨_, _, hPC4, HTO.out, hR4, hF4⟩
  case rest =>
  obtain ⟨gs1, rows1, hPC5, hto5, hR5, hF5⟩ := hcut
  clear hPC4 hR4 hF4 hN4 hI4
  go_wp2
  go_loopw [12] (fun i wr => ∃ (k : Nat) (gs' : List Nat) (rows' : List (List Int)), k ≤ n3 ∧ i = .int .i64 k ∧ PC wr B gO n3 cO gs' rows' ∧ rowsTo (30 + 6 * k) rows' ∧ Rd w0 wr R A n c bs (J + 111 + 12 * k) ∧ Fr1 R w wr) (fun i _ => n3 - (intOf i).toNat)
  case atStart => exact ⟨0, gs1, rows1, by omega, rfl, hPC5, hto5, hR5, hF5⟩
  case round =>
    obtain ⟨k, gs', rows', hk, rfl, hP, hto, hR, hF⟩ := hrel
    obtain ⟨wo, rfl⟩ : ∃ wo : World, wo = wr := ⟨_, rfl⟩
    clear hPC5 hto5 hR5 hF5
    by_cases hkn : k < n3
    · have hdk : decide ((k : Int) < (n3 : Int)) = true := by simp; omega
      go_wp2
      try rw [hdk]
      clear hdk
      go_loopw [13] (fun i wr => ∃ (h : Nat) (rows'' : List (List Int)), h ≤ 6 ∧ i = .int .i64 h ∧ PC wr B gO n3 cO gs' rows'' ∧ rowsTo (30 + 6 * k + h) rows'' ∧ Rd w0 wr R A n c bs (J + 111 + 12 * k + 2 * h) ∧ Fr1 R w wr) (fun i _ => 6 - (intOf i).toNat)
      case atStart => exact ⟨0, rows', by omega, rfl, hP, hto, hR, hF⟩
      case round =>
        obtain ⟨h, ra, hh, rfl, hPa, hta, hRa, hFa⟩ := hrel
        obtain ⟨wi, rfl⟩ : ∃ wi : World, wi = wr := ⟨_, rfl⟩
        clear hP hto hR hF
        by_cases hh6 : h < 6
        · obtain ⟨gk, rk, hgk, hrk⟩ := hPa.get hkn
          obtain ⟨x, hxk⟩ : ∃ x, rk[h]? = some x := ⟨_, List.getElem?_eq_getElem (by have := (hPa.each k gk rk hgk hrk).2.2.1; omega)⟩
          have hx0 := hta.at hrk hxk
          have hgm := hPa.mem (List.mem_of_getElem? hgk)
          have j1 : (0 : Int) ≤ (k : Int) := by omega
          have j2 : (k : Int) < (n3 : Int) := by omega
          have j3 : (0 : Int) ≤ (h : Int) := by omega
          have j4 : (h : Int) < 6 := by omega
          go_wp2_with fail
          refine (pick_any w0 _ R A n c bs (J + 111 + 12 * k + 2 * h) 20 hRa (by omega)).mono ?_; rintro e w5 ⟨y1, rfl, hy10, -, -, hR5, hf5⟩
          have hP5 := hPa.fr1 hf5 hRB
          have hF5 := hFa.trans hf5
          clear hPa hRa hFa hf5
          by_cases hy1 : y1 = 0
          · subst hy1
            obtain ⟨t, ht⟩ : ∃ t : Int, (if 0 > x - 1 then 0 else x - 1) = t := ⟨_, rfl⟩
            have htb : 0 ≤ t ∧ t ≤ x := by rw [← ht]; split <;> omega
            have hmax : ∀ (ts : Array TypeId) (ty : TypeId) (w : World), (Builtin.max_ ts ty #[.int .i64 (x - 1), .int .i64 0]).run Tryd.prog w = .ok (.int .i64 t) w := fun ts ty w => by rw [run_max_int2, ht]
            clear ht
            have hwx : IntKind.i64.wrap (x - 1) = x - 1 := IntWalk.i64_in _ (by omega)
            have dP := hP5.cell hgk
            have dX := hP5.cell2 hgk hrk hxk
            have zX := (hP5.each k gk rk hgk hrk).2.2.2.free h
            simp only [slv] at dP
            go_wp2
            go_region
            have hP6 : PC (w5.setCell ⟨gk, h, none⟩ (.int .i64 t)).drew B gO n3 cO gs' (ra.set k (rk.set h t)) := (hP5.put hgk hrk h t).below (Below.refl _ _).drew
            have ht6 := hta.set hrk (i := h) (z := t) htb.1 (by omega)
            have hR6 : Rd w0 (w5.setCell ⟨gk, h, none⟩ (.int .i64 t)).drew R A n c bs (J + 111 + 12 * k + 2 * h + 1) := (hR5.set (p := ⟨gk, h, none⟩) (by show R < gk; omega) _).below (Below.refl _ _).drew
            have hF6 : Fr1 R w (w5.setCell ⟨gk, h, none⟩ (.int .i64 t)).drew := (hF5.far (p := ⟨gk, h, none⟩) (by show w.heap.size ≤ gk; omega) _).below (Below.refl _ _).drew
            generalize (w5.setCell ⟨gk, h, none⟩ (.int .i64 t)).drew = w6 at hP6 hR6 hF6 ⊢
            have hrk6 : (ra.set k (rk.set h t))[k]? = some (rk.set h t) := List.getElem?_set_self (List.getElem?_eq_some_iff.1 hrk).1
            have hxk6 : (rk.set h t)[h]? = some t := List.getElem?_set_self (List.getElem?_eq_some_iff.1 hxk).1
            clear hP5 hR5 hF5 dP dX zX hmax hwx
            go_wp2_with fail
            refine (pick_any w0 _ R A n c bs (J + 111 + 12 * k + 2 * h + 1) 90 hR6 (by omega)).mono ?_; rintro e w7 ⟨y2, rfl, hy20, -, -, hR7, hf7⟩
            have hP7 := hP6.fr1 hf7 hRB
            have hF7 := hF6.trans hf7
            clear hP6 hR6 hF6 hf7
            by_cases hy2 : y2 = 0
            · subst hy2
              have hwx : IntKind.i64.wrap (t + 1) = t + 1 := IntWalk.i64_in _ (by omega)
              have dP := hP7.cell hgk
              have dX := hP7.cell2 hgk hrk6 hxk6
              have zX := (hP7.each k gk _ hgk hrk6).2.2.2.free h
              simp only [slv] at dP
              go_wp2
              go_region
              go_wp2
              go_roundw
              case rel => exact ⟨h + 1, _, by omega, by go_num, (hP7.put hgk hrk6 h (t + 1)).below (Below.refl _ _).drew, (ht6.more (by omega)).set hrk6 (by omega) (by omega), ((hR7.set (p := ⟨gk, h, none⟩) (by show R < gk; omega) _).below (Below.refl _ _).drew).more (by omega), (hF7.far (p := ⟨gk, h, none⟩) (by show w.heap.size ≤ gk; omega) _).below (Below.refl _ _).drew⟩
              case measure => simp [intOf]; omega
            · have hyd : (y2 == 0) = false := by simpa using hy2
              go_wp2
              go_roundw
              case rel => exact ⟨h + 1, _, by omega, by go_num, hP7, ht6.more (by omega), hR7.more (by omega), hF7⟩
              case measure => simp [intOf]; omega
          · have hyd1 : (y1 == 0) = false := by simpa using hy1
            go_wp2_with fail
            refine (pick_any w0 _ R A n c bs (J + 111 + 12 * k + 2 * h + 1) 90 hR5 (by omega)).mono ?_; rintro e w7 ⟨y2, rfl, hy20, -, -, hR7, hf7⟩
            have hP7 := hP5.fr1 hf7 hRB
            have hF7 := hF5.trans hf7
            clear hP5 hR5 hF5 hf7
            by_cases hy2 : y2 = 0
            · subst hy2
              have hwx : IntKind.i64.wrap (x + 1) = x + 1 := IntWalk.i64_in _ (by omega)
              have dP := hP7.cell hgk
              have dX := hP7.cell2 hgk hrk hxk
              have zX := (hP7.each k gk _ hgk hrk).2.2.2.free h
              simp only [slv] at dP
              go_wp2
              go_region
              go_wp2
              go_roundw
              case rel => exact ⟨h + 1, _, by omega, by go_num, (hP7.put hgk hrk h (x + 1)).below (Below.refl _ _).drew, (hta.more (by omega)).set hrk (by omega) (by omega), ((hR7.set (p := ⟨gk, h, none⟩) (by show R < gk; omega) _).below (Below.refl _ _).drew).more (by omega), (hF7.far (p := ⟨gk, h, none⟩) (by show w.heap.size ≤ gk; omega) _).below (Below.refl _ _).drew⟩
              case measure => simp [intOf]; omega
            · have hyd : (y2 == 0) = false := by simpa using hy2
              go_wp2
              go_roundw
              case rel => exact ⟨h + 1, ra, by omega, by go_num, hP7, hta.more (by omega), hR7.more (by omega), hF7⟩
              case measure => simp [intOf]; omega
        · obtain rfl : h = 6 := by omega
          go_wp2
          go_roundw
          case rel => exact ⟨k + 1, gs', ra, by omega, by go_num, hPa, hta.more (by omega), hRa.more (by omega), hFa⟩
          case measure => simp [intOf]; omega
    · obtain rfl : k = n3 := by omega
      go_wp2_with fail
      refine (odd_any w0 _ R A n c bs (J + 111 + 12 * k) 20 hR (by omega) (by omega) (by omega)).mono ?_; rintro e w7 ⟨o, rfl, -, hR7, hf7⟩
      have hP7 := hP.fr1 hf7 hRB
      have hF7 := hF.trans hf7
      have hnum := hP.num
      clear hP hR hF hf7
      cases o
      · go_wp2
        exact bodyPost_ret (v := .tuple #[.slice (some ⟨g, 0, none⟩) m d, .slice (some ⟨g2, off, none⟩) m2 d2, .slice (some ⟨gO, 0, none⟩) k cO]) (by simp [results, Tryd.results58, go_sem]) rfl ⟨_, _, gO, k, cO, gs', rows', rfl, hP7.lower hwB, hto.plan (by omega) (by omega), hR7.more (by omega), hF7⟩
      · have hW8 := Whole.new w7 3 [.int .i64 0, .int .i64 0, .int .i64 0, .int .i64 0, .int .i64 0, .int .i64 0]
        have hb8 : Below w7.heap.size w7 (w7.alloc (.cells #[.int .i64 0, .int .i64 0, .int .i64 0, .int .i64 0, .int .i64 0, .int .i64 0] 3)) := (Below.refl _ _).alloc (Nat.le_refl _) _
        have hP8 := hP7.below hb8
        have hsz : (w7.alloc (.cells #[.int .i64 0, .int .i64 0, .int .i64 0, .int .i64 0, .int .i64 0, .int .i64 0] 3)).heap.size = w7.heap.size + 1 := by simp
        have hB7 : B ≤ w7.heap.size := by have := ownG_far hP7.out; omega
        go_wp2_with (at_builtin; refine wpList_moreS (base := B) rfl (.tmp 113) (.tmp 115) rfl (by simp; omega) hP8.out (.slice (some ⟨w7.heap.size, 0, none⟩) 6 6) rfl rfl (by rw [hsz]; rfl) (by omega) ?_; intro gO' cO' w9 hown hg9 he9)
        have hb9 : Below B w7 w9 := (((Below.refl B w7).alloc hB7 _).alloc (by simp; omega) _).grown hg9 (by simp; omega) (fun q hq => (hP8.out.lt q hq).1)
        have hP9 := hP8.push (r := [0, 0, 0, 0, 0, 0]) hW8 rfl hB7 (by have := ownG_far hP7.out; omega) (fun hm => by have := (hP7.mem hm).2.2; omega) hown hg9 he9
        exact bodyPost_ret (v := .tuple #[.slice (some ⟨g, 0, none⟩) m d, .slice (some ⟨g2, off, none⟩) m2 d2, .slice (some ⟨gO', 0, none⟩) (k + 1) cO']) (by simp [results, Tryd.results58, go_sem]) rfl ⟨_, _, gO', k + 1, cO', _, _, rfl, hP9.lower hwB, (rowsTo.snoc hto).plan (by omega) (by simp; omega), (hR7.belowB hb9 hRB).more (by omega), hF7.belowB hb9 hwB⟩
end Go.Proofs.YtobkljhbmeglpaaDoor
