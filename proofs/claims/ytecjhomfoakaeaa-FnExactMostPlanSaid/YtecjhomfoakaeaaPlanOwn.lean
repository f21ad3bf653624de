/-
  A list of lists of numbers in memory of the call's own: each row in a block of its own.
-/
import Derived.Test.YtecjhomfoakaeaaPlans
namespace Go.Proofs.Ytecjhomfoakaeaa
open Go.ChangeShapes Go.WideShapes Go.ChangeAt Go.RowKit

theorem intsl_info : (Try.prog.info? 23).map (fun i => (i.zero, i.size, i.bytes)) = some (some (.slice none 0 0), 1, 24) := by kernel_rfl
def slv (g n : Nat) : Value := .slice (some ⟨g, 0, none⟩) n n
/-- The rows of a list of lists of numbers: each in a block of its own, known whole, in ascending order. -/
structure RowsOwn (w : World) (base top : Nat) (gs : List Nat) (rows : List (List Int)) : Prop where
  len : gs.length = rows.length
  each : ∀ (j g : Nat) (r : List Int), gs[j]? = some g → rows[j]? = some r → base ≤ g ∧ g < top ∧ Whole w g 3 (r.map (Value.int .i64))
  up : ∀ i j g g' : Nat, i < j → gs[i]? = some g → gs[j]? = some g' → g < g'
theorem RowsOwn.nil (w : World) (base top : Nat) : RowsOwn w base top [] [] := ⟨rfl, fun j g r h => by simp at h, fun i j g g' _ h => by simp at h⟩
theorem RowsOwn.belowN {w w' : World} {base top N : Nat} {gs : List Nat} {rows : List (List Int)} (h : RowsOwn w base top gs rows) (hb : Below N w w') (ht : top ≤ N) : RowsOwn w' base top gs rows :=
  ⟨h.len, fun j g r hg hr => by obtain ⟨h1, h2, h3⟩ := h.each j g r hg hr; exact ⟨h1, h2, h3.belowN hb (by omega)⟩, h.up⟩
theorem RowsOwn.low {w : World} {base top : Nat} {gs : List Nat} {rows : List (List Int)} (h : RowsOwn w base top gs rows) {p : Addr} (hp : p.block < base) (v : Value) : RowsOwn (w.setCell p v) base top gs rows :=
  ⟨h.len, fun j g r hg hr => by obtain ⟨h1, h2, h3⟩ := h.each j g r hg hr; exact ⟨h1, h2, h3.far (by omega) v⟩, h.up⟩
theorem RowsOwn.alloc {w : World} {base top : Nat} {gs : List Nat} {rows : List (List Int)} (h : RowsOwn w base top gs rows) (o : Obj) : RowsOwn (w.alloc o) base top gs rows :=
  ⟨h.len, fun j g r hg hr => by obtain ⟨h1, h2, h3⟩ := h.each j g r hg hr; exact ⟨h1, h2, h3.alloc o⟩, h.up⟩
theorem RowsOwn.top {w : World} {base top top' : Nat} {gs : List Nat} {rows : List (List Int)} (h : RowsOwn w base top gs rows) (ht : top ≤ top') : RowsOwn w base top' gs rows :=
  ⟨h.len, fun j g r hg hr => by obtain ⟨h1, h2, h3⟩ := h.each j g r hg hr; exact ⟨h1, by omega, h3⟩, h.up⟩
theorem RowsOwn.snoc {w : World} {base top g : Nat} {gs : List Nat} {rows : List (List Int)} {r : List Int} (h : RowsOwn w base top gs rows) (hb : base ≤ g) (ht : top ≤ g) (hw : Whole w g 3 (r.map (Value.int .i64))) :
    RowsOwn w base (g + 1) (gs ++ [g]) (rows ++ [r]) := by
  refine ⟨by simp [h.len], fun j g' r' hg hr => ?_, fun i j a b hij ha hb' => ?_⟩
  · by_cases hj : j < gs.length
    · rw [List.getElem?_append_left hj] at hg
      rw [List.getElem?_append_left (by rw [← h.len]; exact hj)] at hr
      obtain ⟨h1, h2, h3⟩ := h.each j g' r' hg hr
      exact ⟨h1, by omega, h3⟩
    · rw [List.getElem?_append_right (by omega)] at hg
      rw [List.getElem?_append_right (by rw [← h.len]; omega)] at hr
      rw [← h.len] at hr
      cases hz : j - gs.length with
      | zero => rw [hz] at hg hr; simp at hg hr; subst hg; subst hr; exact ⟨hb, by omega, hw⟩
      | succ q => rw [hz] at hg; simp at hg
  · by_cases hj : j < gs.length
    · rw [List.getElem?_append_left hj] at hb'
      rw [List.getElem?_append_left (by omega)] at ha
      exact h.up i j a b hij ha hb'
    · rw [List.getElem?_append_right (by omega)] at hb'
      have hja : j = gs.length := by
        have := (List.getElem?_eq_some_iff.1 hb').1; simp at this; omega
      subst hja
      simp at hb'; subst hb'
      rw [List.getElem?_append_left hij] at ha
      have hr : rows[i]? = some (rows[i]'(by rw [← h.len]; exact hij)) := List.getElem?_eq_getElem _
      obtain ⟨_, h2, _⟩ := h.each i a _ ha hr
      omega
def outc (gs : List Nat) (rows : List (List Int)) : List (List Value) := List.zipWith (fun g (r : List Int) => [slv g r.length]) gs rows
theorem outc_snoc {gs : List Nat} {rows : List (List Int)} (h : gs.length = rows.length) (g : Nat) (r : List Int) : outc (gs ++ [g]) (rows ++ [r]) = outc gs rows ++ [[slv g r.length]] := by
  unfold outc; rw [List.zipWith_append h]; rfl
theorem outc_get {gs : List Nat} {rows : List (List Int)} {k g : Nat} {r : List Int} (hg : gs[k]? = some g) (hr : rows[k]? = some r) : (outc gs rows)[k]? = some [slv g r.length] := by
  unfold outc; rw [List.getElem?_zipWith, hg, hr]
theorem outc_one (gs : List Nat) (rows : List (List Int)) : ∀ r ∈ outc gs rows, r.length = 1 := by
  intro r hr
  unfold outc at hr
  obtain ⟨i, hi, rfl⟩ := List.getElem_of_mem hr
  simp
theorem ints_whole {w : World} {g n : Nat} {r : List Int} (h : Whole w g 3 (r.map (Value.int .i64))) (hl : r.length = n) : IntsAt w (some ⟨g, 0, none⟩) n r := by
  refine ⟨by simp [hl], fun k c hc => ?_⟩
  rw [List.getElem?_map] at hc
  obtain ⟨x, hx, rfl⟩ := Option.map_eq_some_iff.1 hc
  refine ⟨g, 0, rfl, h.lt, rfl, fun j v hv => ?_⟩
  match j, hv with
  | 0, hv => simp at hv; subst hv; rw [h.cell]; simp [hx]
theorem RowsOwn.rowsAt {w : World} {base top n : Nat} {A : Option Addr} {gs : List Nat} {rows : List (List Int)} (h : RowsOwn w base top gs rows) (hs : SlAt w 1 A n (outc gs rows))
    (hl : ∀ r ∈ rows, r.length ≤ 9223372036854775807) : RowsAt w A n rows := by
  have hlen : (outc gs rows).length = rows.length := by unfold outc; rw [List.length_zipWith, h.len, Nat.min_self]
  refine ⟨by rw [← hlen]; exact hs.len, fun k r hr => ?_⟩
  have hk : k < rows.length := (List.getElem?_eq_some_iff.1 hr).1
  have hg : gs[k]? = some (gs[k]'(by rw [h.len]; exact hk)) := List.getElem?_eq_getElem _
  obtain ⟨b, off, hA, hlt, _, hc⟩ := hs.row k _ (outc_get hg hr)
  obtain ⟨_, _, hw⟩ := h.each k _ r hg hr
  exact ⟨b, off, _, _, hA, hlt, by simpa [slv] using hc 0 _ rfl, ints_whole hw rfl, hl r (List.mem_of_getElem? hr)⟩

end Go.Proofs.Ytecjhomfoakaeaa
