/-
  The law FnNeedsValid: without the first one valid needs are valid; with one that wants nothing they are not.
-/
import Derived.Test.YtobkljhbmeglpaaDoorDrNeeds
import Derived.Test.YtobkljhbmeglpaaDoorAlive
namespace Go.Proofs.YtobkljhbmeglpaaDoor
open Go.ChangeShapes Go.WideShapes Go.ChangeAt Go.RowKit

def DrawNsR (w : World) (e : Ending) (w' : World) : Prop :=
  ∃ (g m d : Nat) (ns : List N4), e = .returned (.slice (some ⟨g, 0, none⟩) m d) ∧ OwnAt w' w.heap.size 24 4 (.slice (some ⟨g, 0, none⟩) m d) m (nc ns) ∧ m ≤ 7 ∧ Below w.heap.size w w'
set_option maxHeartbeats 1000000 in
theorem drawNeedsValid_any (w : World) (A : Option Addr) (n c : Nat) (bs : List Int) (hn : n ≤ c ∧ c ≤ 9223372036854775807) (hb : BytesAt w A n bs) :
    Calls Tryd.prog 23 #[.slice A n c] w (DrawNsR w) := by
  go_enter Tryd.func23, Tryd.ntmps23
  go_wp2_with fail
  refine (open_any w A n c bs hn hb).mono ?_; rintro e w2 ⟨R, A1, n1, c1, bs1, rfl, hR2⟩
  go_wp2_with fail
  refine (l20Needs_any w w2 R A1 n1 c1 bs1 0 2 hR2 (by omega) (by omega) (by omega)).mono ?_; rintro e w3 ⟨g, m, d, ns, rfl, hO, hm, hR3, hf3⟩
  go_wp2
  go_ret
  exact ⟨g, m, d, ns, rfl, hO.base hR2.bw.size, hm, hR3.bw⟩

theorem needsB_tail {ns : List N4} (h : needsB ns = true) : needsB (ns.drop 1) = true := by
  cases ns with
  | nil => exact h
  | cons x xs =>
    simp [needsB] at h ⊢
    exact ⟨by omega, h.2.2⟩
theorem needsB_none (ns : List N4) : needsB (ns ++ [⟨0, 1, 1, 0⟩]) = false := by
  simp [needsB, N4.ok, nvB]

theorem needs_cut4 {w : World} {g m : Nat} {ns : List N4} (h : NeedsAt w (some ⟨g, 0, none⟩) m ns) : NeedsAt w (some ⟨g, 4, none⟩) (m - 1) (ns.drop 1) := by
  refine ⟨by simp [nc, h.len], fun j r hr => ?_⟩
  have hr2 : (nc ns)[j + 1]? = some r := by
    unfold nc at hr ⊢
    rw [List.map_drop, List.getElem?_drop] at hr
    rw [Nat.add_comm]; exact hr
  obtain ⟨b, off, hA, hlt, hl, hc⟩ := SlAt.row h (j + 1) r hr2
  injection hA with hA; injection hA with e1 e2; subst e1; subst e2
  refine ⟨g, 4, rfl, hlt, hl, fun i v hv => ?_⟩
  have h1 := hc i v hv
  have e : 0 + (j + 1) * 4 + i = 4 + j * 4 + i := by omega
  rw [e] at h1; exact h1
theorem needs_cut0 {w : World} {A B : Option Addr} {m : Nat} {ns : List N4} (h : NeedsAt w A m ns) (hm : m ≤ 1) : NeedsAt w B (m - 1) (ns.drop 1) := by
  have h0 : m - 1 = 0 := by omega
  have h1 : ns.drop 1 = [] := List.drop_eq_nil_of_le (by have := h.len; omega)
  rw [h0, h1]; exact SlAt.nil _ _ _

set_option maxRecDepth 100000 in
set_option maxHeartbeats 1500000 in
theorem lawNeedsValid (A : Option Addr) (n c : Nat) (bs : List Int) (w : World) (hn : n ≤ c ∧ c ≤ 9223372036854775807) (hb : BytesAt w A n bs) :
    Calls Tryd.prog 6 #[.slice A n c] w (RV w (.bool true)) := by
  obtain ⟨hn1, hn2⟩ := hn
  by_cases hbig : 1048576 < n
  · have hd : decide (1048576 < n) = true := by simpa using hbig
    go_enter Tryd.func6, Tryd.ntmps6
    go_wp2
    go_ret
    exact ⟨rfl, Below.refl _ _⟩
  have hd : decide (1048576 < n) = false := by simpa using hbig
  have HB := Lib.hid hb
  clear hb
  have hbs : ∀ w : World, (Instr.buildSlice 35 0 #[]).run Tryd.prog w = .ok (.slice (some ⟨w.heap.size, 0, none⟩) 0 0) (w.alloc (.cells #[] 24)) := fun _ => by kernel_rfl
  go_enter Tryd.func6, Tryd.ntmps6
  go_wp2_with fail
  refine (drawNeedsValid_any w A n c bs ⟨hn1, hn2⟩ HB.out).mono ?_; rintro e w1 ⟨g, m, d, ns, rfl, hO1, hm, hb1⟩
  clear HB hn1 hn2 hbig hd
  obtain ⟨A1, c1, he1, hm1, hm2⟩ := hO1.form
  injection he1 with e1 e2 e3
  subst e1; subst e3
  unfold maxLen at hm2
  go_wp2_with fail
  refine (needsValid_any _ m d ns w1 (by omega) hO1.slAt).mono ?_; rintro e w2 ⟨rfl, hb2⟩
  have hO2 := hO1.below hb2
  have hB2 := below_next hb1 hb2
  clear hO1 hb1 hb2
  go_wp2_with fail
  refine (specNeedsValid_any _ m d ns w2 (by omega) hO2.slAt).mono ?_; rintro e w3 ⟨rfl, hb3⟩
  have hO3 := hO2.below hb3
  have hB3 := below_next hB2 hb3
  clear hO2 hB2 hb3
  have hsame : (needsB ns == needsB ns) = true := by simp
  have HLN := Lib.hid (NeedsAt.len hO3.slAt)
  by_cases hv : needsB ns = true
  · rw [hv] at hsame ⊢
    have HV := Lib.hid hv
    clear hv
    by_cases hm0 : m = 0
    · have hmb : ((m : Int) == 0) = true := by simp; omega
      clear hm0
      go_wp2_with (first
        | (at_builtin; refine wpList_on rfl ?_; refine wpList_copyN rfl (.tmp 29) (.tmp 30) rfl hO3 rfl rfl (by omega) ?_; intro v6 w6 hO6 hb6)
        | (at_builtin; refine wpList_on rfl ?_; refine wpList_moreN (base := w3.heap.size) rfl (.tmp 31) (.tmp 33) rfl hb6.size hO6 ⟨0, 1, 1, 0⟩ rfl rfl (by omega) ?_; intro g7 cap7 w7 hO7 hb7))
      have hB7 : Below w.heap.size w w7 := hB3.trans ((hb6.trans hb7).mono hB3.size)
      have hlen : (ns ++ [(⟨0, 1, 1, 0⟩ : N4)]).length = m + 1 := by rw [List.length_append, HLN.out]; rfl
      refine (needsValid_any _ (m + 1) cap7 (ns ++ [(⟨0, 1, 1, 0⟩ : N4)]) w7 (by omega) ((own_needs hO7 hlen).slAt)).mono ?_; rintro e w8 ⟨rfl, hb8⟩
      rw [needsB_none]
      have hB8 := below_next hB7 hb8
      clear hB7 hb8 hO7 hb7 hO6 hb6 hbs
      go_wp2_with fail
      refine (needsValid_any none 0 0 [] w8 (by omega) (SlAt.nil _ _ _)).mono ?_; rintro e w9 ⟨rfl, hb9⟩
      rw [show needsB [] = true from rfl]
      have hB9 := below_next hB8 hb9
      clear hB8 hb9
      go_wp2_with fail
      refine (alive_any w9).mono ?_; rintro e wa ⟨rfl, hba⟩
      have hBa := below_next hB9 hba
      go_wp2
      go_ret
      exact ⟨rfl, hBa⟩
    · have hmb : ((m : Int) == 0) = false := by simp; omega
      by_cases hd1 : d = 1
      · subst hd1
        go_wp2_with fail
        have hcut : NeedsAt w3 (some ⟨g, 0, none⟩) 0 (ns.drop 1) := by have h := needs_cut0 (B := some ⟨g, 0, none⟩) hO3.slAt (by omega); rwa [show m - 1 = 0 by omega] at h
        refine (needsValid_any (some ⟨g, 0, none⟩) 0 0 (ns.drop 1) w3 (by omega) hcut).mono ?_
        clear hcut
        rintro e w4 ⟨rfl, hb4⟩
        rw [needsB_tail HV.out]
        have hO4 := hO3.below hb4
        have hB4 := below_next hB3 hb4
        clear hb4 hO3 hB3
        go_wp2_with (first
          | (at_builtin; refine wpList_on rfl ?_; refine wpList_copyN rfl (.tmp 29) (.tmp 30) rfl hO4 rfl rfl (by omega) ?_; intro v6 w6 hO6 hb6)
          | (at_builtin; refine wpList_on rfl ?_; refine wpList_moreN (base := w4.heap.size) rfl (.tmp 31) (.tmp 33) rfl hb6.size hO6 ⟨0, 1, 1, 0⟩ rfl rfl (by omega) ?_; intro g7 cap7 w7 hO7 hb7))
        have hB7 : Below w.heap.size w w7 := hB4.trans ((hb6.trans hb7).mono hB4.size)
        have hlen : (ns ++ [(⟨0, 1, 1, 0⟩ : N4)]).length = m + 1 := by rw [List.length_append, HLN.out]; rfl
        refine (needsValid_any _ (m + 1) cap7 (ns ++ [(⟨0, 1, 1, 0⟩ : N4)]) w7 (by omega) ((own_needs hO7 hlen).slAt)).mono ?_; rintro e w8 ⟨rfl, hb8⟩
        rw [needsB_none]
        have hB8 := below_next hB7 hb8
        clear hB7 hb8 hO7 hb7 hO6 hb6 hbs
        go_wp2_with fail
        refine (needsValid_any none 0 0 [] w8 (by omega) (SlAt.nil _ _ _)).mono ?_; rintro e w9 ⟨rfl, hb9⟩
        rw [show needsB [] = true from rfl]
        have hB9 := below_next hB8 hb9
        clear hB8 hb9
        go_wp2_with fail
        refine (alive_any w9).mono ?_; rintro e wa ⟨rfl, hba⟩
        have hBa := below_next hB9 hba
        go_wp2
        go_ret
        exact ⟨rfl, hBa⟩
      · go_wp2_with fail
        refine (needsValid_any (some ⟨g, 4, none⟩) (m - 1) _ (ns.drop 1) w3 (by omega) (needs_cut4 hO3.slAt)).mono ?_
        rintro e w4 ⟨rfl, hb4⟩
        rw [needsB_tail HV.out]
        have hO4 := hO3.below hb4
        have hB4 := below_next hB3 hb4
        clear hb4 hO3 hB3
        go_wp2_with (first
          | (at_builtin; refine wpList_on rfl ?_; refine wpList_copyN rfl (.tmp 29) (.tmp 30) rfl hO4 rfl rfl (by omega) ?_; intro v6 w6 hO6 hb6)
          | (at_builtin; refine wpList_on rfl ?_; refine wpList_moreN (base := w4.heap.size) rfl (.tmp 31) (.tmp 33) rfl hb6.size hO6 ⟨0, 1, 1, 0⟩ rfl rfl (by omega) ?_; intro g7 cap7 w7 hO7 hb7))
        have hB7 : Below w.heap.size w w7 := hB4.trans ((hb6.trans hb7).mono hB4.size)
        have hlen : (ns ++ [(⟨0, 1, 1, 0⟩ : N4)]).length = m + 1 := by rw [List.length_append, HLN.out]; rfl
        refine (needsValid_any _ (m + 1) cap7 (ns ++ [(⟨0, 1, 1, 0⟩ : N4)]) w7 (by omega) ((own_needs hO7 hlen).slAt)).mono ?_; rintro e w8 ⟨rfl, hb8⟩
        rw [needsB_none]
        have hB8 := below_next hB7 hb8
        clear hB7 hb8 hO7 hb7 hO6 hb6 hbs
        go_wp2_with fail
        refine (needsValid_any none 0 0 [] w8 (by omega) (SlAt.nil _ _ _)).mono ?_; rintro e w9 ⟨rfl, hb9⟩
        rw [show needsB [] = true from rfl]
        have hB9 := below_next hB8 hb9
        clear hB8 hb9
        go_wp2_with fail
        refine (alive_any w9).mono ?_; rintro e wa ⟨rfl, hba⟩
        have hBa := below_next hB9 hba
        go_wp2
        go_ret
        exact ⟨rfl, hBa⟩
  · replace hv : needsB ns = false := by simpa using hv
    rw [hv] at hsame ⊢
    clear hv
    go_wp2_with (first
      | (at_builtin; refine wpList_on rfl ?_; refine wpList_copyN rfl (.tmp 29) (.tmp 30) rfl hO3 rfl rfl (by omega) ?_; intro v6 w6 hO6 hb6)
      | (at_builtin; refine wpList_on rfl ?_; refine wpList_moreN (base := w3.heap.size) rfl (.tmp 31) (.tmp 33) rfl hb6.size hO6 ⟨0, 1, 1, 0⟩ rfl rfl (by omega) ?_; intro g7 cap7 w7 hO7 hb7))
    have hB7 : Below w.heap.size w w7 := hB3.trans ((hb6.trans hb7).mono hB3.size)
    have hlen : (ns ++ [(⟨0, 1, 1, 0⟩ : N4)]).length = m + 1 := by rw [List.length_append, HLN.out]; rfl
    refine (needsValid_any _ (m + 1) cap7 (ns ++ [(⟨0, 1, 1, 0⟩ : N4)]) w7 (by omega) ((own_needs hO7 hlen).slAt)).mono ?_; rintro e w8 ⟨rfl, hb8⟩
    rw [needsB_none]
    have hB8 := below_next hB7 hb8
    clear hB7 hb8 hO7 hb7 hO6 hb6 hbs
    go_wp2_with fail
    refine (needsValid_any none 0 0 [] w8 (by omega) (SlAt.nil _ _ _)).mono ?_; rintro e w9 ⟨rfl, hb9⟩
    rw [show needsB [] = true from rfl]
    have hB9 := below_next hB8 hb9
    clear hB8 hb9
    go_wp2_with fail
    refine (alive_any w9).mono ?_; rintro e wa ⟨rfl, hba⟩
    have hBa := below_next hB9 hba
    go_wp2
    go_ret
    exact ⟨rfl, hBa⟩
end Go.Proofs.YtobkljhbmeglpaaDoor
