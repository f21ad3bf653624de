/-
  MostPlan of the program.
-/
import Derived.Test.YtecjhomfoakaeaaSPlan
import Derived.Laws.CopyOwn
import Derived.Deep.CutRange
namespace Go.Proofs.Ytecjhomfoakaeaa
open Go.ChangeShapes Go.WideShapes Go.ChangeAt Go.RowKit

/-- The program's plan: nil, or one that it has made. -/
def IPlanRes (w : World) (rows : List (List Int)) (e : Ending) (w' : World) : Prop :=
  (e = .returned (.slice none 0 0) ∧ rows = [] ∧ Below w.heap.size w w') ∨ PlanRes w rows e w'

theorem whole_row {w : World} {B g : Nat} {r : List Int} (h : Whole w g 3 (r.map (Value.int .i64))) (hl : r.length = 6) (hB : B ≤ g) : w.ownsRow B 3 1 (.slice (some ⟨g, 0, none⟩) 6 6) 6 (r.map (Value.int .i64)) :=
  ⟨by simp [hl], .inr ⟨g, 6, _, rfl, hB, h, Nat.le_refl _, by unfold maxLen; omega, by simp [hl], by simp [List.take_of_length_le, hl]⟩⟩
theorem outc_rowV {gs : List Nat} {rows : List (List Int)} (hl : gs.length = rows.length) (h : ∀ r ∈ rows, r.length = 6) : (outc gs rows).flatten = (gs.map fun g => (g, 6)).map rowV := by
  induction gs generalizing rows with
  | nil => cases rows with
    | nil => rfl
    | cons r rows => simp at hl
  | cons g gs ih =>
    cases rows with
    | nil => simp at hl
    | cons r rows =>
      have e := ih (rows := rows) (by simpa using hl) fun x hx => h x (by simp [hx])
      have h6 := h r (by simp)
      unfold outc at e ⊢
      simp only [List.zipWith_cons_cons, List.flatten_cons, List.map_cons, h6]
      rw [e]; rfl
/-- The lists of needLists, and the feed beside them. -/
theorem pm_start {w1 w2 w4 : World} {B T R gF n : Nat} {gs : List Nat} {ns : List N4} {fs : List Int} (hB : B = w1.heap.size) (hn : n ≤ 5) (hR : w1.heap.size < R) (hRl : R < w2.heap.size)
    (hFw : Fill w2 w1.heap.size 3 1 n n (ic (wants ns))) (hFr : Fill w2 R 23 1 n n (outc gs (rates ns))) (hRo : RowsOwn w2 (R + 1) w2.heap.size gs (rates ns))
    (hF : Whole w4 gF 3 (fs.map (Value.int .i64))) (hf : fs.length = 6) (hgF : gF = w2.heap.size) (hb : ∀ k, k < w2.heap.size → w4.heap[k]? = w2.heap[k]?) (hT : gF < T) :
    PM w4 B T n B n gF 6 R n (gs.map fun g => (g, 6)) (wants ns) fs (rates ns) := by
  subst hB
  have h6 : ∀ r ∈ rates ns, r.length = 6 := by
    intro r hr
    simp only [rates, List.mem_map] at hr
    obtain ⟨x, _, rfl⟩ := hr
    exact ratesOf_len x
  have hw1l := hFw.lt
  have hu := (hFw.done rfl (Nat.le_refl _) (by unfold maxLen; omega)).own
  have hr := (hFr.done (base := w1.heap.size) rfl (by omega) (by unfold maxLen; omega)).own
  rw [ic_flat] at hu
  rw [outc_rowV hRo.len h6] at hr
  have hget : ∀ (j : Nat) (p : Nat × Nat), (gs.map fun g => (g, 6))[j]? = some p → ∃ g, gs[j]? = some g ∧ p = (g, 6) := by
    intro j p hp
    rw [List.getElem?_map] at hp
    obtain ⟨g, h1, h2⟩ := Option.map_eq_some_iff.1 hp
    exact ⟨g, h1, h2.symm⟩
  have hin : ∀ p ∈ (gs.map fun g => (g, 6)), R < p.1 ∧ p.1 < w2.heap.size := by
    intro p hp
    obtain ⟨j, hj, he⟩ := List.getElem_of_mem hp
    obtain ⟨g, h1, rfl⟩ := hget j p (by rw [List.getElem?_eq_getElem hj, he])
    have hjl : j < (rates ns).length := by rw [← hRo.len]; exact (List.getElem?_eq_some_iff.1 h1).1
    obtain ⟨e1, e2, _⟩ := hRo.each j g _ h1 (List.getElem?_eq_getElem hjl)
    exact ⟨by show R < g; omega, e2⟩
  refine ⟨ownG_blk hu (hb _ hw1l), whole_row hF hf (by omega), ownG_blk hr (hb _ hRl), by simp [hRo.len], fun j p r hp hr => ?_, by omega, by omega, by omega, fun p hp => ?_, fun i j p q hp hq hij => ?_, ⟨by omega, by omega, by omega, fun p hp => ?_⟩⟩
  · obtain ⟨g, h1, rfl⟩ := hget j p hp
    obtain ⟨e1, e2, e3⟩ := hRo.each j g r h1 hr
    exact whole_row ((hb g e2).trans e3) (h6 r (List.mem_of_getElem? hr)) (by omega)
  · have := hin p hp; omega
  · obtain ⟨g, h1, rfl⟩ := hget i p hp
    obtain ⟨g', h2, rfl⟩ := hget j q hq
    show g ≠ g'
    rcases Nat.lt_trichotomy i j with h | h | h
    · have := hRo.up i j g g' h h1 h2; omega
    · exact absurd h hij
    · have := hRo.up j i g' g h h2 h1; omega
  · have := hin p hp; omega

theorem own_less {w : World} {B g n c : Nat} {e : TypeId} {xs : List Value} (h : w.ownsRow B e 1 (.slice (some ⟨g, 0, none⟩) n c) n xs) : w.ownsRow B e 1 (.slice (some ⟨g, 0, none⟩) 0 c) 0 [] := by
  rcases h.2 with ⟨hv, _⟩ | ⟨g', cap, cur, hv, hg, hcur, h1, h2, h3, h4⟩
  · cases hv
  injection hv with e1 _ e2; injection e1 with e1; injection e1 with e1; subst e1; subst e2
  exact ⟨rfl, .inr ⟨g, c, cur, rfl, hg, hcur, by omega, h2, h3, by simp⟩⟩
theorem own_more {w : World} {B g n c : Nat} {e : TypeId} {xs : List Value} {v : Value} (h : w.ownsRow B e 1 (.slice (some ⟨g, 0, none⟩) n c) n xs) (hn : n < c) (hv : w.cell? ⟨g, n, none⟩ = some v) : w.ownsRow B e 1 (.slice (some ⟨g, 0, none⟩) (n + 1) c) (n + 1) (xs ++ [v]) := by
  have hl := h.1
  rcases h.2 with ⟨hv, _⟩ | ⟨g', cap, cur, hv', hg, hcur, h1, h2, h3, h4⟩
  · cases hv
  injection hv' with e1 _ e2; injection e1 with e1; injection e1 with e1; subst e1; subst e2
  rw [Joins.cell_of_block hcur] at hv
  refine ⟨by simp; omega, .inr ⟨g, c, cur, rfl, hg, hcur, hn, h2, h3, ?_⟩⟩
  simp only [Nat.mul_one] at h4 ⊢
  rw [List.take_add_one, h4]
  congr 1
  have : cur.toList[n]? = some v := by simpa using hv
  rw [this]; rfl
theorem own_at {w : World} {B g n c j : Nat} {e : TypeId} {xs : List Value} (h : w.ownsRow B e 1 (.slice (some ⟨g, 0, none⟩) n c) n xs) (hj : j < c) : ∃ u, w.cell? ⟨g, j, none⟩ = some u := by
  rcases h.2 with ⟨hv, _⟩ | ⟨g', cap, cur, hv', hg, hcur, h1, h2, h3, h4⟩
  · cases hv
  injection hv' with e1 _ e2; injection e1 with e1; injection e1 with e1; subst e1; subst e2
  exact ⟨cur[j]'(by omega), by rw [Joins.cell_of_block hcur]; exact Array.getElem?_eq_getElem (by omega)⟩
theorem own_beyond {w : World} {B g n c j : Nat} {e : TypeId} {xs : List Value} (h : w.ownsRow B e 1 (.slice (some ⟨g, 0, none⟩) n c) n xs) (hj : n ≤ j) (v : Value) : (w.setCell ⟨g, j, none⟩ v).ownsRow B e 1 (.slice (some ⟨g, 0, none⟩) n c) n xs := by
  have h2 := ownG_set h j v
  have hl := h.1
  have e1 : xs.set j v = xs := List.set_eq_of_length_le (by omega)
  rw [e1] at h2; exact h2
section
variable {w wr : World} {b0 B T gO cO k : Nat} {gs : List Nat} {rows : List (List Int)} {gW h : Nat} {row : List Int}
theorem SO.head (s : SO w wr b0 B T gO cO k gs rows gW h row) (v : Value) : SO w (wr.setCell ⟨gO, k, none⟩ v) b0 B T gO cO k gs rows gW h row :=
  ⟨own_beyond s.out (Nat.le_refl _) v, ⟨s.ro.len, fun j g r h1 h2 => by obtain ⟨e1, e2, e3⟩ := s.ro.each j g r h1 h2; exact ⟨e1, e2, e3.far (s.nin g (List.mem_of_getElem? h1)) v⟩, s.ro.up⟩, s.pos, s.ne, s.nin, s.fill.far (by have := s.ne; show gW ≠ gO; omega) v, s.top, s.bel.setCell (ownG_far s.out).1 v, s.b0B⟩
theorem SO0.head (s : SO0 w wr b0 B T gO cO k gs rows) (v : Value) : SO0 w (wr.setCell ⟨gO, k, none⟩ v) b0 B T gO cO k gs rows :=
  ⟨own_beyond s.out (Nat.le_refl _) v, ⟨s.ro.len, fun j g r h1 h2 => by obtain ⟨e1, e2, e3⟩ := s.ro.each j g r h1 h2; exact ⟨e1, by simpa [World.setCell] using e2, e3.far (s.nin g (List.mem_of_getElem? h1)) v⟩, s.ro.up⟩, s.pos, s.nin, by simpa [World.setCell] using s.top, s.bel.setCell (ownG_far s.out).1 v, s.b0B⟩
theorem SO.done (s : SO w wr b0 B T gO cO k gs rows gW 6 row) (hl : row.length = 6) (hk : k < cO) (hc : wr.cell? ⟨gO, k, none⟩ = some (slv gW 6)) : SO0 w wr b0 B T gO cO (k + 1) (gs ++ [gW]) (rows ++ [row]) := by
  have hW := s.fill.whole rfl
  rw [ic_flat] at hW
  have hWl := s.fill.lt
  have hne := s.ne
  refine ⟨?_, (s.ro.snoc (r := row) s.top (Nat.le_refl _) hW).top (by omega), s.pos, fun g hm => ?_, by have := s.top; omega, s.bel, s.b0B⟩
  · rw [outc_snoc s.ro.len, hl, List.flatten_append]
    exact own_more s.out hk hc
  · rcases List.mem_append.1 hm with hm | hm
    · exact s.nin g hm
    · simp at hm; omega
end
theorem cell_keep {w : World} {g h i j : Nat} {v u : Value} (hne : g ≠ h) (hc : w.cell? ⟨g, i, none⟩ = some u) : (w.setCell ⟨h, j, none⟩ v).cell? ⟨g, i, none⟩ = some u := by
  simp only [World.cell?] at hc ⊢
  rw [Below.heap_setCell w ⟨h, j, none⟩ v g hne]; exact hc
theorem cell_self {w : World} {B g n c i : Nat} {e : TypeId} {xs : List Value} (h : w.ownsRow B e 1 (.slice (some ⟨g, 0, none⟩) n c) n xs) (hi : i < c) (v : Value) : (w.setCell ⟨g, i, none⟩ v).cell? ⟨g, i, none⟩ = some v := by
  rcases h.2 with ⟨hv, _⟩ | ⟨g', cap, cur, hv', hg, hcur, h1, h2, h3, h4⟩
  · cases hv
  injection hv' with e1 _ e2; injection e1 with e1; injection e1 with e1; subst e1; subst e2
  have hW : Whole w g e cur.toList := by unfold Whole; simpa using hcur
  rw [(hW.set_ i v).cell]
  exact List.getElem?_set_self (by simp; omega)
theorem src_cells {w : World} {g off n : Nat} {xs : List Int} (h : IntsAt w (some ⟨g, off, none⟩) n xs) : ∀ (j : Nat) (v : Value), (xs.map (Value.int .i64))[j]? = some v → w.cell? ((⟨g, off, none⟩ : Addr).add j) = some v := by
  intro j u hu
  rw [List.getElem?_map] at hu
  obtain ⟨z, hz, rfl⟩ := Option.map_eq_some_iff.1 hu
  obtain ⟨b, of2, hA, hlt, _, hc⟩ := SlAt.row h j [.int .i64 z] (by rw [List.getElem?_map, hz]; rfl)
  injection hA with hA; injection hA with e1 e2; subst e1; subst e2
  have h1 := hc 0 _ rfl
  have e : (⟨g, off, none⟩ : Addr).add j = ⟨g, off + j, none⟩ := by unfold Addr.add; split <;> simp_all
  rw [e]
  simpa using h1

set_option maxRecDepth 100000 in
set_option maxHeartbeats 8000000 in
theorem mostPlan_any (A : Option Addr) (n c : Nat) (ns : List N4) (F : Option Addr) (m fc : Nat) (feed : List Int) (w : World)
    (hn : n ≤ 9223372036854775807) (hx : NeedsAt w A n ns) (hm : m ≤ 9223372036854775807) (hf : IntsAt w F m feed) :
    Calls Try.prog 8 #[.slice A n c, .slice F m fc] w (IPlanRes w (planR ns feed)) := by
  have hmk : ∀ w : World, (Instr.makeSlice 23 (.int .i64 6) (.int .i64 6)).run Try.prog w = .ok (.slice (some ⟨w.heap.size, 0, none⟩) 6 6) (w.alloc (.cells #[.int .i64 0, .int .i64 0, .int .i64 0, .int .i64 0, .int .i64 0, .int .i64 0] 3)) := fun _ => by kernel_rfl
  by_cases hok : needsB ns = true ∧ feedB feed = true
  case neg =>
    have HM := Lib.hid (mostR_no (split_okP hok))
    have HP := Lib.hid (planR_no (split_okP hok))
    clear hok
    go_enter Try.func8, Try.ntmps8
    go_wp2_with fail
    refine (mostUnits_any A n c ns F m fc feed _ hn hx hm hf).mono ?_; rintro e w2 ⟨rfl, hb2⟩
    rw [HM.out]
    go_wp2
    go_ret
    exact .inl ⟨rfl, HP.out, hb2⟩
  have HOK := Lib.hid hok
  have HP := Lib.hid (planR_yes hok.1 hok.2)
  have HM := Lib.hid (mostR_yes hok.1 hok.2)
  have HST := Lib.hid (start_ok hok.1 hok.2)
  have HL := Lib.hid hx.len
  have hn5 : n ≤ 5 := by have := (needsB_ok hok.1).1; have := hx.len; omega
  have hm6 : m = 6 := by have := (feedB_small hok.2).1; have := hf.len; omega
  have hfl : feed.length = 6 := (feedB_small hok.2).1
  subst hm6
  clear hok
  obtain ⟨lf, HLF⟩ : ∃ lf, Hid (lf = mostI ns feed) := ⟨_, rfl⟩
  have hlf : 0 ≤ lf := by rw [HLF.out]; exact (mostI_bd HOK.out.1 HOK.out.2).1
  obtain ⟨j0, hj0, hy0, hy1, hy2⟩ := info_parts intsl_info
  go_enter Try.func8, Try.ntmps8
  go_wp2_with fail
  refine (mostUnits_any A n c ns F _ fc feed _ hn hx hm hf).mono ?_; rintro e w1 ⟨rfl, hb1⟩
  rw [HM.out, ← HLF.out]
  go_wp2_with fail
  refine (needLists_any A n c ns w1 hn5 (hx.below hb1)).mono ?_; rintro e w2 ⟨R, gs, rfl, hR, hFw, hFr, hRo, hb2⟩
  simp only [slv]
  have hf2 := (hf.below hb1).below hb2
  have hB2 := below_next hb1 hb2
  have hRl := hFr.lt
  obtain ⟨gf, of, rfl⟩ : ∃ gf of, F = some ⟨gf, of, none⟩ := by
    obtain ⟨_, b, off, _, hA', _⟩ := hf2.get (k := 0) (by omega)
    exact ⟨b, off, hA'⟩
  have hz6 := Whole.new w2 3 [.int .i64 0, .int .i64 0, .int .i64 0, .int .i64 0, .int .i64 0, .int .i64 0]
  have hf3 : IntsAt (w2.alloc (.cells #[.int .i64 0, .int .i64 0, .int .i64 0, .int .i64 0, .int .i64 0, .int .i64 0] 3)) (some ⟨gf, of, none⟩) 6 feed := hf2.below ((Below.refl _ _).alloc (Nat.le_refl _) _)
  go_wp2_with (first
    | (refine wpList_copy_splice rfl (.tmp 24) (.tmp 25) 23 23 rfl 3 Try.underlying23 (by kernel_rfl) (some ⟨w2.heap.size, 0, none⟩) (some ⟨gf, of, none⟩) 6 6 6 fc rfl rfl w2.heap.size 0 [.int .i64 0, .int .i64 0, .int .i64 0, .int .i64 0, .int .i64 0, .int .i64 0] 3 hz6 (feed.map (Value.int .i64)) (by simp [hfl]) (fun _ => ⟨rfl, _, rfl, src_cells hf3⟩) (by simp [hfl]) (by intro v hv; obtain ⟨z, _, rfl⟩ := List.mem_map.1 hv; rfl) w2.heap.size w2 ((Below.refl _ _).alloc (Nat.le_refl _) _) (Nat.le_refl _) ?_; intro w3 hw3 hb3)
    | (at_make; refine wpList_make_full _ rfl (.tmp 28) (.tmp 28) 25 rfl w3.heap.size 23 j0 _ 1 Try.underlying25 hj0 hy0 hy1 .i64 .i64 _ _ n rfl rfl rfl rfl (by rw [hy2]; omega) (by unfold maxLen; omega) (Nat.le_refl _) ?_; intro w4 hown4 hg4))
  have hF3 : Whole w3 w2.heap.size 3 (feed.map (Value.int .i64)) := by
    have h := hw3.out
    have e : splice [Value.int .i64 0, .int .i64 0, .int .i64 0, .int .i64 0, .int .i64 0, .int .i64 0] 0 (feed.map (Value.int .i64)) = feed.map (Value.int .i64) := by
      unfold splice
      rw [List.take_zero, List.nil_append, List.drop_eq_nil_of_le (by simp [hfl]), List.append_nil]
    rw [e] at h; exact h
  have hF3l := hF3.lt
  have hO4 := own_less hown4
  have hg34 : ∀ k, k < w3.heap.size → w4.heap[k]? = w3.heap[k]? := fun k hk => hg4.block k hk (by simp)
  obtain ⟨T, HT⟩ : ∃ T, Hid (T = w3.heap.size) := ⟨_, rfl⟩
  obtain ⟨B, HB⟩ : ∃ B, Hid (B = w1.heap.size) := ⟨_, rfl⟩
  obtain ⟨gU, HGU⟩ : ∃ gU, Hid (gU = w1.heap.size) := ⟨_, rfl⟩
  have hPM0 : PMx w4 B T n gU n w2.heap.size 6 R n (gs.map fun g => (g, 6)) ((MS.start ns feed).all 0) := by
    rw [show gU = B by rw [HGU.out, HB.out]]
    exact pm_start HB.out hn5 hR hRl hFw hFr hRo ((hg34 _ hF3l).trans hF3) hfl rfl (fun k hk => (hg34 k (by omega)).trans (hb3.block k hk)) (by rw [HT.out]; exact hF3l)
  have hwB : w.heap.size ≤ B := by rw [HB.out]; exact hb1.size
  have hBT : B ≤ T := by rw [HB.out, HT.out]; have := hb2.size; omega
  have hb34 : Below w3.heap.size w3 w4 := Below.grown (Below.refl _ _) hg4 (Nat.le_refl _) (by simp)
  have hB4 : Below w.heap.size w w4 := (below_next hB2 hb3).trans (hb34.mono (by have := hb1.size; have := hb2.size; omega))
  have hT4 : T ≤ w4.heap.size := by rw [HT.out]; exact hg4.size
  have hS0 : SO0 w w4 w.heap.size B T w3.heap.size n 0 [] [] := ⟨Joins.ownsRow_le hO4 (by have := hb1.size; have := hb2.size; omega), RowsOwn.nil _ _ _, .inr (by rw [HT.out]; exact Nat.le_refl _), by simp, hT4, hB4, hwB⟩
  have HL0 : Hid (lf = ((MS.start ns feed).all 0).left) := HLF.out
  rw [HL0.out]
  obtain ⟨gO, HGO⟩ : ∃ gO, Hid (gO = w3.heap.size) := ⟨_, rfl⟩
  obtain ⟨gF, HGF⟩ : ∃ gF, Hid (gF = w2.heap.size) := ⟨_, rfl⟩
  rw [← HGO.out] at hS0 ⊢
  rw [← HGF.out] at hPM0 ⊢
  rw [← HGU.out]
  have hTO : T ≤ gO := by rw [HGO.out, HT.out]; exact Nat.le_refl _
  generalize (gs.map fun g => (g, 6)) = vs at hPM0
  clear hF3 hF3l hO4 hg34 hb34 hB4 hT4 hown4 hg4 hw3 hb3 hz6 hf3 hFw hFr hRo hb2 hf2 hB2 hb1
  go_loopw [5, 32] (fun vl i wr => ∃ (j : Nat) (gs : List Nat), j ≤ n ∧ i = .int .i64 j ∧ vl = .int .i64 ((MS.start ns feed).all j).left ∧ PMx wr B T n gU n gF 6 R n vs ((MS.start ns feed).all j) ∧ SO0 w wr w.heap.size B T gO n j gs (((MS.start ns feed).plan n).take j)) (fun _ i _ => n - (intOf i).toNat)
  case atStart => exact ⟨0, [], Nat.zero_le _, rfl, rfl, hPM0, by simpa using hS0⟩
  case round =>
    obtain ⟨j, gs, hj, rfl, rfl, hPM, hS⟩ := hrel
    obtain ⟨wo, rfl⟩ : ∃ wo : World, wo = wr := ⟨_, rfl⟩
    clear hPM0 hS0
    by_cases hjk : j < n
    · have HX0 := Lib.hid (HST.out.all j (by rw [HL.out]; omega))
      rw [HL.out] at HX0
      obtain ⟨x0, hx0⟩ : ∃ x0, Hid (x0 = (MS.start ns feed).all j) := ⟨_, rfl⟩
      rw [← hx0.out] at HX0 hPM ⊢
      obtain ⟨u, hu⟩ := own_at hS.out (j := j) hjk
      have hz := ownG_free hS.out j
      have hgl := (ownG_far hS.out).2
      have htop := hS.top
      have hS1 := (hS.head (.slice (some ⟨wo.heap.size, 0, none⟩) 6 6)).start
      rw [show (wo.setCell ⟨gO, j, none⟩ (.slice (some ⟨wo.heap.size, 0, none⟩) 6 6)).heap.size = wo.heap.size by simp [World.setCell]] at hS1
      have hc0 := cell_self hS.out hjk (.slice (some ⟨wo.heap.size, 0, none⟩) 6 6)
      have hc1 : ((wo.setCell ⟨gO, j, none⟩ (.slice (some ⟨wo.heap.size, 0, none⟩) 6 6)).alloc (.cells #[.int .i64 0, .int .i64 0, .int .i64 0, .int .i64 0, .int .i64 0, .int .i64 0] 3)).cell? ⟨gO, j, none⟩ = some (.slice (some ⟨wo.heap.size, 0, none⟩) 6 6) := by
        rw [World.cell?_alloc_lt _ _ _ (by simpa [World.setCell] using hgl)]; exact hc0
      have hPM1 : PMx ((wo.setCell ⟨gO, j, none⟩ (.slice (some ⟨wo.heap.size, 0, none⟩) 6 6)).alloc (.cells #[.int .i64 0, .int .i64 0, .int .i64 0, .int .i64 0, .int .i64 0, .int .i64 0] 3)) B T n gU n gF 6 R n vs (x0.run j 0) :=
        hPM.far fun q _ hq => (Below.heap_alloc _ _ q (by simp [World.setCell]; omega)).trans (Below.heap_setCell wo ⟨gO, j, none⟩ _ q (by show q ≠ gO; omega))
      have hdj : decide ((j : Int) < (n : Int)) = true := by simp; omega
      clear hS hPM hc0
      rw [show x0.left = (x0.run j 0).left from rfl]
      obtain ⟨gW, HW⟩ : ∃ gW, Hid (gW = wo.heap.size) := ⟨_, rfl⟩
      go_wp2
      try rw [hdj]
      clear hdj
      rw [← HW.out] at hS1 hPM1 hc1 htop ⊢
      have hOW : gO < gW := by rw [HW.out]; exact hgl
      generalize (wo.setCell ⟨gO, j, none⟩ (.slice (some ⟨gW, 0, none⟩) 6 6)).alloc (.cells #[.int .i64 0, .int .i64 0, .int .i64 0, .int .i64 0, .int .i64 0, .int .i64 0] 3) = wp at *
      clear hu hz hgl
      go_loopw [5, 41] (fun vl i wr => ∃ h : Nat, h ≤ 6 ∧ i = .int .i64 h ∧ vl = .int .i64 (x0.run j h).left ∧ PMx wr B T n gU n gF 6 R n vs (x0.run j h) ∧ SO w wr w.heap.size B T gO n j gs (((MS.start ns feed).plan n).take j) gW h ((x0.row j).take h) ∧ wr.cell? ⟨gO, j, none⟩ = some (.slice (some ⟨gW, 0, none⟩) 6 6)) (fun _ i _ => 6 - (intOf i).toNat)
      case atStart => exact ⟨0, by omega, rfl, rfl, hPM1, by simpa using hS1, hc1⟩
      case round =>
        obtain ⟨h, hh, rfl, rfl, hPM, hS, hC⟩ := hrel
        obtain ⟨wi, rfl⟩ : ∃ wi : World, wi = wr := ⟨_, rfl⟩
        clear hPM1 hS1 hc1
        by_cases hh6 : h < 6
        · have HXH := Lib.hid (HX0.out.run hjk h (by omega))
          obtain ⟨x, hxe⟩ : ∃ x, Hid (x = x0.run j h) := ⟨_, rfl⟩
          rw [← hxe.out] at HXH hPM ⊢
          obtain ⟨⟨pg, pc⟩, hp⟩ := hPM.getV hjk
          have hdV := hPM.dV _ (List.mem_of_getElem? hp)
          have hBp := hPM.base (List.mem_of_getElem? hp)
          have hTp := hPM.low.2.2.2 _ (List.mem_of_getElem? hp)
          have hBU := (ownG_far hPM.u).1
          have hBF := (ownG_far hPM.f).1
          have hTU := hPM.low.1
          have hTF := hPM.low.2.1
          simp only at hdV hBp hTp
          obtain ⟨dp1, dp2, dp3⟩ := hdV
          have hUF := hPM.dUF
          have hUR := hPM.dUR
          have hFR := hPM.dFR
          have HP := Lib.hid hp
          have hro := HXH.out.row hjk
          obtain ⟨r, hr⟩ : ∃ r, x.rs[j]? = some r := ⟨_, List.getElem?_eq_getElem (by have := HXH.out.rl; omega)⟩
          have her : x.rs.getD j [] = r := by simp [List.getD_eq_getElem?_getD, hr]
          rw [her] at hro
          obtain ⟨a, ha⟩ : ∃ a, r[h]? = some a := ⟨_, List.getElem?_eq_getElem (by have := hro.1; omega)⟩
          obtain ⟨b, hb⟩ : ∃ b, x.ws[j]? = some b := ⟨_, List.getElem?_eq_getElem (by have := HXH.out.wl; omega)⟩
          obtain ⟨f, hf0⟩ : ∃ f, x.fs[h]? = some f := ⟨_, List.getElem?_eq_getElem (by have := HXH.out.fl; omega)⟩
          have hab := small_at hro.2 (show Hid _ from ha)
          have hbb := small_at HXH.out.wsm (show Hid _ from hb)
          have hfb := small_at HXH.out.fsm (show Hid _ from hf0)
          have dR := hPM.cellR hp
          have dA := hPM.cellRow hp hr ha
          have dU := hPM.cellU hb
          have dF := hPM.cellF hf0
          have zA := ownG_free (hPM.row j _ r hp hr) h
          simp only [rowV] at dR
          simp only at dA zA
          obtain ⟨u0, hu0⟩ : ∃ u0, Hid (u0 = x.top j h) := ⟨_, rfl⟩
          have hu0i : (u0 : Int) = min (min a b) f := by
            have e1 : r.getD h 0 = a := by simp [List.getD_eq_getElem?_getD, ha]
            have e2 : x.ws.getD j 0 = b := by simp [List.getD_eq_getElem?_getD, hb]
            have e3 : x.fs.getD h 0 = f := by simp [List.getD_eq_getElem?_getD, hf0]
            rw [hu0.out]; unfold MS.top; rw [her, e1, e2, e3]; omega
          have hmin : ∀ (ts : Array TypeId) (ty : TypeId) (w : World), (Builtin.min_ ts ty #[.int .i64 a, .int .i64 b, .int .i64 f]).run Try.prog w = .ok (.int .i64 (u0 : Int)) w := by
            intro ts ty w
            rw [run_min_int3]
            have e : (if f < (if b < a then b else a) then f else (if b < a then b else a)) = (u0 : Int) := by rw [hu0i]; split <;> split <;> omega
            rw [e]
          have hu0b : (u0 : Int) ≤ b ∧ (u0 : Int) ≤ f := by omega
          clear hu0i
          have i1 : (0 : Int) ≤ (j : Int) := by omega
          have i2 : (j : Int) < (n : Int) := by omega
          have i3 : (0 : Int) ≤ (h : Int) := by omega
          have i4 : (h : Int) < 6 := by omega
          go_wp2
          go_quiet (fail)
          have hCq : (wi.drewN nq).cell? ⟨gO, j, none⟩ = some (.slice (some ⟨gW, 0, none⟩) 6 6) := hC
          go_upto_region 17 with fail
          have hP1 := PM.setRow (hPM.far (w' := wi.drewN nq) fun _ _ _ => rfl) hp h 0
          have hS1 := (hS.belowN (below_drewN (Below.refl _ wi) nq) (ownG_far hS.out).2).low (p := ⟨pg, h, none⟩) hBp hTp (.int .i64 0)
          have hC1 := cell_keep (h := pg) (j := h) (v := .int .i64 0) (by omega) hCq
          simp only at hP1
          generalize (wi.drewN nq).setCell ⟨pg, h, none⟩ (.int .i64 0) = wa at *
          clear hPM hS hC hCq dR dA dU dF zA
          have dU := hP1.cellU hb
          have zU := ownG_free hP1.u j
          have hwb : IntKind.i64.wrap (b - (u0 : Int)) = b - (u0 : Int) := IntWalk.i64_in _ (by omega)
          have hwf : IntKind.i64.wrap (f - (u0 : Int)) = f - (u0 : Int) := IntWalk.i64_in _ (by omega)
          go_upto_region 18 with fail
          have hP2 := hP1.setU j (b - (u0 : Int))
          have hS2 := hS1.low (p := ⟨gU, j, none⟩) hBU hTU (.int .i64 (b - (u0 : Int)))
          have hC2 := cell_keep (h := gU) (j := j) (v := .int .i64 (b - (u0 : Int))) (by omega) hC1
          generalize wa.setCell ⟨gU, j, none⟩ (.int .i64 (b - (u0 : Int))) = wb at *
          clear hP1 hS1 hC1 dU zU
          have dF := hP2.cellF hf0
          have zF := ownG_free hP2.f h
          go_wp2
          have hP3 := hP2.setF h (f - (u0 : Int))
          have hS3 := hS2.low (p := ⟨gF, h, none⟩) hBF hTF (.int .i64 (f - (u0 : Int)))
          have hC3 := cell_keep (h := gF) (j := h) (v := .int .i64 (f - (u0 : Int))) (by omega) hC2
          generalize wb.setCell ⟨gF, h, none⟩ (.int .i64 (f - (u0 : Int))) = wc at *
          clear hP2 hS2 hC2 dF zF hwb hwf hmin
          have hbe : x.ws.getD j 0 = b := by simp [List.getD_eq_getElem?_getD, hb]
          have hfe : x.fs.getD h 0 = f := by simp [List.getD_eq_getElem?_getD, hf0]
          have hP4 : PMx wc B T n gU n gF 6 R n vs (x.to j h u0) := by
            unfold PMx MS.to setR; rw [hbe, hfe]; exact hP3
          have HUN := Lib.hid (HXH.out.under_top hjk hh6)
          have HDN : Hid (down (x.goal j h) (x.top j h) = x.pick j h) := rfl
          rw [← hu0.out] at HUN HDN
          have hut : u0 ≤ x.top j h := by rw [hu0.out]; exact Nat.le_refl _
          clear hP3
          have hxl := HXH.out.bd
          have hwl6 : x.ws.length = n := HXH.out.wl
          have hfl6 : x.fs.length = 6 := HXH.out.fl
          go_loopw [12] (fun vu wr => ∃ u : Nat, vu = .int .i64 u ∧ u ≤ x.top j h ∧ x.under j h u ∧ down (x.goal j h) u = x.pick j h ∧ PMx wr B T n gU n gF 6 R n vs (x.to j h u) ∧ SO w wr w.heap.size B T gO n j gs (((MS.start ns feed).plan n).take j) gW h ((x0.row j).take h) ∧ wr.cell? ⟨gO, j, none⟩ = some (.slice (some ⟨gW, 0, none⟩) 6 6)) (fun v _ => (intOf v).toNat)
          case atStart => exact ⟨u0, rfl, hut, HUN.out, HDN.out, hP4, hS3, hC3⟩
          case round =>
            obtain ⟨u, rfl, hut2, hun, hdn, hPu, hSu, hCu⟩ := hrel
            obtain ⟨we, rfl⟩ : ∃ we : World, we = wr := ⟨_, rfl⟩
            have HUN2 := Lib.hid hun
            have HDN2 := Lib.hid hdn
            clear hun hdn hP4 hS3 hC3 HUN HDN hut
            obtain ⟨q1, q2, q3⟩ := HXH.out.to_small hjk hut2
            have hub := HXH.out.top_le j h hjk
            have hub2 : (u : Int) ≤ b ∧ (u : Int) ≤ f := by
              have h1 := hub.2.1
              have h2 := hub.2.2.1
              rw [hbe] at h1; rw [hfe] at h2; omega
            clear hub
            obtain ⟨uu, dW⟩ := hSu.fill.cell (j := h) (by omega)
            have zW := hSu.fill.free h
            have hq3 : IntKind.i64.wrap (x.left - (u : Int)) = x.left - (u : Int) := IntWalk.i64_in _ (by omega)
            by_cases hu0z : u = 0
            · have HPK : Hid (u = x.pick j h) := by
                have h1 := HDN2.out
                rw [hu0z] at h1 ⊢
                exact h1
              have hgt : decide (0 < (u : Int)) = false := by simp; omega
              have hgt2 : ¬ 0 < u := by omega
              have hgt3 : ¬ (0 : Int) < (u : Int) := by omega
              have hgt4 : u ≤ 0 := by omega
              clear hu0z q1 q2 q3
              go_wp2
              refine ⟨?rel, ?measure⟩
              case rel =>
                have he : x0.run j (h + 1) = x.to j h u := by
                  show (x0.run j h).step j h = _
                  rw [← hxe.out]; unfold MS.step; rw [← HPK.out]
                have hrow : (x0.row j)[h]? = some (u : Int) := by
                  unfold MS.row
                  rw [List.getElem?_map, List.getElem?_range hh6]
                  show some (((x0.run j h).pick j h : Nat) : Int) = _
                  rw [← hxe.out, ← HPK.out]
                refine ⟨h + 1, by omega, by go_num, by rw [he]; rfl, ?_, ?_, cell_keep (by omega) hCu⟩
                · rw [he]
                  exact hPu.far fun q _ hq => Below.heap_setCell we ⟨gW, h, none⟩ _ q (by show q ≠ gW; omega)
                · rw [take_next (x := (u : Int)) hrow]
                  exact hSu.put hh6 _ (by omega)
              case measure => simp [intOf]; omega
            have hcu : Hid (leastI (cutOfI (x.to j h u).ws (x.to j h u).rs (x.to j h u).fs) 63 = x.cutU j h u) := rfl
            have cub : 0 ≤ x.cutU j h u ∧ x.cutU j h u ≤ 330 := by
              refine leastI_bd (fun s => ?_) 63
              have h1 := cutOfI_bd q1 q2 q3 s
              have h2 : (x.to j h u).ws.length = n := by simp [MS.to, hwl6]
              have h3 : (x.to j h u).fs.length = 6 := by simp [MS.to, hfl6]
              omega
            have HG : Hid (x.goal j h u = decide (x.left ≤ u + x.cutU j h u)) := rfl
            have HSM := Lib.hid (And.intro q1 (And.intro q2 q3))
            obtain ⟨cu, HCU⟩ : ∃ z, Hid (x.cutU j h u = z) := ⟨_, rfl⟩
            rw [HCU.out] at cub HG hcu
            have hgt : decide (0 < (u : Int)) = true := by simp; omega
            have hup : 1 ≤ u := by omega
            clear q1 q2 q3 hu0z
            cases hg : x.goal j h u
            · have hcd : decide ((u : Int) + cu < x.left) = true := by
                have h1 := HG.out; rw [hg] at h1; simp at h1 ⊢; omega
              obtain ⟨v, hv, hun3⟩ := HXH.out.lower hjk hh6 HUN2.out hut2 hg
              have HUN3 := Lib.hid hun3
              have HDN3 : Hid (down (x.goal j h) v = x.pick j h) := by
                have h1 := HDN2.out
                rw [hv, down_no (by rw [← hv]; exact hg)] at h1; exact h1
              have HV := Lib.hid hv
              clear hg hun3 HG hv dW zW hq3
              have hwu : (x.to j h u).ws[j]? = some (b - (u : Int)) := by
                show (x.ws.set j (x.ws.getD j 0 - (u : Int)))[j]? = _
                rw [List.getElem?_set_self (by omega), hbe]
              have hwf : (x.to j h u).fs[h]? = some (f - (u : Int)) := by
                show (x.fs.set h (x.fs.getD h 0 - (u : Int)))[h]? = _
                rw [List.getElem?_set_self (by omega), hfe]
              have dU := hPu.cellU hwu
              have zU := ownG_free hPu.u j
              have hq1 : IntKind.i64.wrap (b - (u : Int) + 1) = b - (u : Int) + 1 := IntWalk.i64_in _ (by omega)
              have hq2 : IntKind.i64.wrap (f - (u : Int) + 1) = f - (u : Int) + 1 := IntWalk.i64_in _ (by omega)
              go_wp2_with fail
              refine (leastCut_any _ _ _ n n n 6 6 _ _ _ we hn5 (by omega) HSM.out.1 HSM.out.2.1 HSM.out.2.2 hPu.intsU (hPu.rows fun r hr => (HSM.out.2.1 r hr).1) hPu.intsF).mono ?_; rintro e w9 ⟨rfl, rfl⟩
              rw [hcu.out]
              go_upto_region 22 with fail
              have hP5 := hPu.setU j (b - (u : Int) + 1)
              have hS5 := hSu.low (p := ⟨gU, j, none⟩) hBU hTU (.int .i64 (b - (u : Int) + 1))
              have hC5 := cell_keep (h := gU) (j := j) (v := .int .i64 (b - (u : Int) + 1)) (by omega) hCu
              generalize we.setCell ⟨gU, j, none⟩ (.int .i64 (b - (u : Int) + 1)) = wd at *
              clear hPu hSu hCu dU zU
              have dF := hP5.cellF hwf
              have zF := ownG_free hP5.f h
              go_wp2
              go_roundw
              case rel =>
                have hv := HV.out
                refine ⟨v, by go_num, by omega, HUN3.out, HDN3.out, ?_, hS5.low (p := ⟨gF, h, none⟩) hBF hTF _, cell_keep (by omega) hC5⟩
                have h1 := hP5.setF h (f - (u : Int) + 1)
                obtain ⟨-, -, e1, e2, e3⟩ := to_zero x j h u v (by omega) (by omega)
                rw [hbe, show b - (v : Int) = b - (u : Int) + 1 by omega] at e1
                rw [hfe, show f - (v : Int) = f - (u : Int) + 1 by omega] at e2
                rw [e1, e2, e3] at h1
                exact h1
              case measure => simp [intOf]; omega
            · have hcd : decide ((u : Int) + cu < x.left) = false := by
                have h1 := HG.out; rw [hg] at h1; simp at h1 ⊢; omega
              have HPK : Hid (u = x.pick j h) := by have h1 := HDN2.out; rw [down_yes hg] at h1; exact h1
              clear hg HG
              go_wp2_with fail
              refine (leastCut_any _ _ _ n n n 6 6 _ _ _ we hn5 (by omega) HSM.out.1 HSM.out.2.1 HSM.out.2.2 hPu.intsU (hPu.rows fun r hr => (HSM.out.2.1 r hr).1) hPu.intsF).mono ?_; rintro e w9 ⟨rfl, rfl⟩
              rw [hcu.out]
              go_wp2
              refine ⟨?rel, ?measure⟩
              case rel =>
                have he : x0.run j (h + 1) = x.to j h u := by
                  show (x0.run j h).step j h = _
                  rw [← hxe.out]; unfold MS.step; rw [← HPK.out]
                have hrow : (x0.row j)[h]? = some (u : Int) := by
                  unfold MS.row
                  rw [List.getElem?_map, List.getElem?_range hh6]
                  show some (((x0.run j h).pick j h : Nat) : Int) = _
                  rw [← hxe.out, ← HPK.out]
                refine ⟨h + 1, by omega, by go_num, by rw [he]; rfl, ?_, ?_, cell_keep (by omega) hCu⟩
                · rw [he]
                  exact hPu.far fun q _ hq => Below.heap_setCell we ⟨gW, h, none⟩ _ q (by show q ≠ gW; omega)
                · rw [take_next (x := (u : Int)) hrow]
                  exact hSu.put hh6 _ (by omega)
              case measure => simp [intOf]; omega
        · obtain rfl : h = 6 := by omega
          go_wp2
          go_roundw
          case rel =>
            have h6 : ((x0.row j).take 6).length = 6 := by rw [List.length_take, row_len]; omega
            have hal : (MS.start ns feed).all (j + 1) = x0.run j 6 := by
              show ((MS.start ns feed).all j).run j 6 = _
              rw [← hx0.out]
            have hpl : ((MS.start ns feed).plan n)[j]? = some (x0.row j) := by
              unfold MS.plan
              rw [List.getElem?_map, List.getElem?_range hjk]
              show some (((MS.start ns feed).all j).row j) = _
              rw [← hx0.out]
            have hSn := hS.done h6 hjk hC
            rw [show (x0.row j).take 6 = x0.row j from List.take_of_length_le (by rw [row_len]; omega)] at hSn
            refine ⟨j + 1, gs ++ [gW], by omega, by go_num, by rw [hal], by rw [hal]; exact hPM, ?_⟩
            rw [take_next (x := x0.row j) hpl]
            exact hSn
          case measure => simp [intOf]; omega
    · obtain rfl : j = n := by omega
      go_wp2
      go_ret
      have hpl : ((MS.start ns feed).plan j).length = j := plan_len _ _
      rw [take_all hpl (Nat.le_refl _)] at hS
      have hTb : w.heap.size ≤ T := by omega
      refine .inr ⟨gO, j, j, gs, rfl, ?_, ?_, hS.nin, ?_, hS.bel⟩
      · rw [HP.out, HL.out]; exact hS.out
      · rw [HP.out, HL.out]
        exact ⟨hS.ro.len, fun a g r h1 h2 => by obtain ⟨e1, e2, e3⟩ := hS.ro.each a g r h1 h2; exact ⟨by omega, e2, e3⟩, hS.ro.up⟩
      · rw [HP.out, HL.out, hpl]
end Go.Proofs.Ytecjhomfoakaeaa
