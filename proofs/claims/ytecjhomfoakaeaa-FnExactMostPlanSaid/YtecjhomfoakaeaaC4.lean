/-
  Chapter 4 in plain words: needs, feeds, cuts, the most units. No program is in sight here.
-/
import Derived.Test.YtecjhomfoakaeaaNeed1
import Derived.Test.YtecjhomfoakaeaaSum
namespace Go.Proofs.Ytecjhomfoakaeaa
open Go.ChangeShapes Go.WideShapes Go.ChangeAt Go.RowKit

/-- What a car wants. -/
structure N4 where
  f : Int
  t : Int
  r : Int
  u : Int
def N4.ok (n : N4) : Bool := nvB n.f n.t n.r n.u
def N4.val (n : N4) : Value := .agg #[.int .i64 n.f, .int .i64 n.t, .int .i64 n.r, .int .i64 n.u]
def nc (ns : List N4) : List (List Value) := ns.map fun n => [.int .i64 n.f, .int .i64 n.t, .int .i64 n.r, .int .i64 n.u]

def needsB (ns : List N4) : Bool := decide (ns.length ≤ 5) && ns.all N4.ok
theorem needsE_next {ns : List N4} {k : Nat} {x : N4} (h : Hid (ns[k]? = some x)) : (ns.take (k + 1)).all N4.ok = ((ns.take k).all N4.ok && x.ok) := by
  rw [take_next h]; simp
theorem needsB_bad {ns : List N4} {k : Nat} {x : N4} (h : Hid (ns[k]? = some x)) (hx : x.ok = false) : needsB ns = false := by
  have hm : x ∈ ns := List.mem_of_getElem? h.out
  simp only [needsB, Bool.and_eq_false_iff, List.all_eq_false]
  exact .inr ⟨x, hm, by simp [hx]⟩
theorem needsB_all {ns : List N4} {k n : Nat} (hl : ns.length = n) (hk : n ≤ k) (h : (ns.take k).all N4.ok = true) (h5 : n ≤ 5) : needsB ns = true := by
  rw [take_all hl hk] at h
  simp only [needsB, Bool.and_eq_true, decide_eq_true_eq]
  exact ⟨by omega, h⟩
theorem needsB_long {ns : List N4} {n : Nat} (hl : ns.length = n) (h5 : 5 < n) : needsB ns = false := by
  simp only [needsB, Bool.and_eq_false_iff, decide_eq_false_iff_not]; exact .inl (by omega)

/-- Of the first k numbers those whose bit in s is b. -/
def selS (b : Bool) (s : Nat) (xs : List Int) : Nat → Int
  | 0 => 0
  | k + 1 => selS b s xs k + if s.testBit k = b then xs.getD k 0 else 0
/-- Of the first k cars what each wants, or, if that is less, all that it can take in the hours that are not in s. -/
def cutW (s : Nat) (ws : List Int) (rs : List (List Int)) : Nat → Int
  | 0 => 0
  | k + 1 => cutW s ws rs k + min (ws.getD k 0) (selS false s (rs.getD k []) (rs.getD k []).length)
def cutOfI (ws : List Int) (rs : List (List Int)) (feed : List Int) (s : Nat) : Int := selS true s feed feed.length + cutW s ws rs ws.length

/-- Numbers in 0..30. -/
def small (xs : List Int) : Prop := ∀ x ∈ xs, 0 ≤ x ∧ x ≤ 30
theorem small_get {xs : List Int} (h : small xs) (k : Nat) : 0 ≤ xs.getD k 0 ∧ xs.getD k 0 ≤ 30 := by
  rw [List.getD_eq_getElem?_getD]
  cases hk : xs[k]? with
  | none => simp
  | some x => simpa using h x (List.mem_of_getElem? hk)
theorem small_at {xs : List Int} (h : small xs) {k : Nat} {x : Int} (hk : Hid (xs[k]? = some x)) : 0 ≤ x ∧ x ≤ 30 := h x (List.mem_of_getElem? hk.out)
theorem selS_bd {xs : List Int} (h : small xs) (b : Bool) (s : Nat) : ∀ k : Nat, 0 ≤ selS b s xs k ∧ selS b s xs k ≤ 30 * k
  | 0 => by simp [selS]
  | k + 1 => by
    have ih := selS_bd h b s k
    have hg := small_get h k
    simp only [selS]
    split <;> omega
theorem selS_next {xs : List Int} {k : Nat} {x : Int} (h : Hid (xs[k]? = some x)) (b : Bool) (s : Nat) : selS b s xs (k + 1) = selS b s xs k + if s.testBit k = b then x else 0 := by
  have h' := h.out
  simp [selS, List.getD_eq_getElem?_getD, h']

/-- The rates of a need in the six hours. -/
def ratesOf (n : N4) : List Int := (List.range 6).map fun h : Nat => rateI n.f n.t n.r n.u (h : Int)
theorem ratesOf_len (n : N4) : (ratesOf n).length = 6 := by simp [ratesOf]
theorem ratesOf_get (n : N4) {h : Nat} (hh : h < 6) : (ratesOf n)[h]? = some (rateI n.f n.t n.r n.u (h : Int)) := by
  simp [ratesOf, List.getElem?_range hh]
theorem nvB_spec {a b c d : Int} (h : nvB a b c d = true) : 0 ≤ a ∧ a < 6 ∧ a < b ∧ b ≤ 6 ∧ 1 ≤ c ∧ c ≤ 30 ∧ 1 ≤ d ∧ d ≤ 30 := by
  simp [nvB] at h; omega
theorem rateI_bd {a b c d : Int} (hv : nvB a b c d = true) (h : Int) : 0 ≤ rateI a b c d h ∧ rateI a b c d h ≤ 30 := by
  have := nvB_spec hv
  unfold rateI; rw [if_pos hv]; split <;> omega
theorem ratesOf_small {n : N4} (h : n.ok = true) : small (ratesOf n) := by
  intro x hx
  simp only [ratesOf, List.mem_map] at hx
  obtain ⟨i, _, rfl⟩ := hx
  exact rateI_bd h _
def wants (ns : List N4) : List Int := ns.map N4.u
def rates (ns : List N4) : List (List Int) := ns.map ratesOf
theorem needsB_ok {ns : List N4} (h : needsB ns = true) : ns.length ≤ 5 ∧ ∀ n ∈ ns, n.ok = true := by
  simp only [needsB, Bool.and_eq_true, decide_eq_true_eq, List.all_eq_true] at h; exact h
theorem wants_small {ns : List N4} (h : needsB ns = true) : small (wants ns) := by
  intro x hx
  simp only [wants, List.mem_map] at hx
  obtain ⟨n, hn, rfl⟩ := hx
  have := nvB_spec ((needsB_ok h).2 n hn); omega
def rowsSmall (rs : List (List Int)) : Prop := ∀ r ∈ rs, r.length = 6 ∧ small r
theorem rates_small {ns : List N4} (h : needsB ns = true) : rowsSmall (rates ns) := by
  intro r hr
  simp only [rates, List.mem_map] at hr
  obtain ⟨n, hn, rfl⟩ := hr
  exact ⟨ratesOf_len n, ratesOf_small ((needsB_ok h).2 n hn)⟩
theorem feedB_small {xs : List Int} (h : feedB xs = true) : xs.length = 6 ∧ small xs := by
  simp only [feedB, Bool.and_eq_true, decide_eq_true_eq, List.all_eq_true] at h
  exact ⟨h.1, fun x hx => by have := h.2 x hx; omega⟩
theorem feedB_mk {xs : List Int} (hl : xs.length = 6) (h : small xs) : feedB xs = true := by
  simp only [feedB, Bool.and_eq_true, decide_eq_true_eq, List.all_eq_true]
  exact ⟨hl, fun x hx => by have := h x hx; omega⟩
theorem row_get {rs : List (List Int)} (h : rowsSmall rs) (k : Nat) : small (rs.getD k []) ∧ (rs.getD k []).length ≤ 6 := by
  rw [List.getD_eq_getElem?_getD]
  cases hk : rs[k]? with
  | none => simp [small]
  | some r => have := h r (List.mem_of_getElem? hk); simp only [Option.getD_some]; exact ⟨this.2, by omega⟩
theorem cutW_bd {ws : List Int} {rs : List (List Int)} (hw : small ws) (hr : rowsSmall rs) (s : Nat) : ∀ k : Nat, 0 ≤ cutW s ws rs k ∧ cutW s ws rs k ≤ 30 * k
  | 0 => by simp [cutW]
  | k + 1 => by
    have ih := cutW_bd hw hr s k
    have hg := small_get hw k
    have h2 := selS_bd (row_get hr k).1 false s (rs.getD k []).length
    simp only [cutW]
    omega
theorem cutW_next {ws : List Int} {rs : List (List Int)} {k : Nat} {x : Int} {r : List Int} (h : Hid (ws[k]? = some x)) (h2 : Hid (rs[k]? = some r)) (s : Nat) :
    cutW s ws rs (k + 1) = cutW s ws rs k + min x (selS false s r r.length) := by
  have h' := h.out
  have h2' := h2.out
  simp [cutW, List.getD_eq_getElem?_getD, h', h2']
theorem cutOfI_bd {ws : List Int} {rs : List (List Int)} {feed : List Int} (hw : small ws) (hr : rowsSmall rs) (hf : small feed) (s : Nat) : 0 ≤ cutOfI ws rs feed s ∧ cutOfI ws rs feed s ≤ 30 * feed.length + 30 * ws.length := by
  have h1 := selS_bd hf true s feed.length
  have h2 := cutW_bd hw hr s ws.length
  unfold cutOfI; omega

/-- The bound of a set of hours. -/
def cutI (ns : List N4) (feed : List Int) (s : Nat) : Int := cutOfI (wants ns) (rates ns) feed s
/-- The least of g 0 .. g k. -/
def leastI (g : Nat → Int) : Nat → Int
  | 0 => g 0
  | k + 1 => min (leastI g k) (g (k + 1))
theorem leastI_le (g : Nat → Int) : ∀ (n k : Nat), k ≤ n → leastI g n ≤ g k
  | 0, k, h => by have : k = 0 := by omega
                  subst this; simp [leastI]
  | n + 1, k, h => by
    simp only [leastI]
    by_cases hk : k = n + 1
    · subst hk; omega
    · have := leastI_le g n k (by omega); omega
theorem leastI_at (g : Nat → Int) : ∀ n : Nat, ∃ k, k ≤ n ∧ g k = leastI g n
  | 0 => ⟨0, Nat.le_refl _, rfl⟩
  | n + 1 => by
    obtain ⟨k, hk, he⟩ := leastI_at g n
    simp only [leastI]
    by_cases h : leastI g n ≤ g (n + 1)
    · exact ⟨k, by omega, by rw [he]; omega⟩
    · exact ⟨n + 1, Nat.le_refl _, by omega⟩
def mostI (ns : List N4) (feed : List Int) : Int := leastI (cutI ns feed) 63
theorem leastI_bd {g : Nat → Int} {b : Int} (h : ∀ k, 0 ≤ g k ∧ g k ≤ b) (n : Nat) : 0 ≤ leastI g n ∧ leastI g n ≤ b := by
  obtain ⟨k, _, he⟩ := leastI_at g n
  have := h k; omega
theorem leastI_congr {g g' : Nat → Int} : ∀ n : Nat, (∀ k, k ≤ n → g k = g' k) → leastI g n = leastI g' n
  | 0, h => h 0 (Nat.le_refl _)
  | n + 1, h => by simp only [leastI]; rw [leastI_congr n (fun k hk => h k (by omega)), h (n + 1) (Nat.le_refl _)]
theorem cutI_bd {ns : List N4} {feed : List Int} (h : needsB ns = true) (hf : feedB feed = true) (s : Nat) : 0 ≤ cutI ns feed s ∧ cutI ns feed s ≤ 330 := by
  have h1 := cutOfI_bd (wants_small h) (rates_small h) (feedB_small hf).2 s
  have h2 := (needsB_ok h).1
  have h3 := (feedB_small hf).1
  have h4 : (wants ns).length = ns.length := by simp [wants]
  unfold cutI; omega
theorem mostI_bd {ns : List N4} {feed : List Int} (h : needsB ns = true) (hf : feedB feed = true) : 0 ≤ mostI ns feed ∧ mostI ns feed ≤ 330 := leastI_bd (cutI_bd h hf) 63

/-- MostUnits as it is answered. -/
def mostR (ns : List N4) (feed : List Int) : Int := if needsB ns && feedB feed then mostI ns feed else -1
def cutR (ns : List N4) (feed : List Int) (s : Int) : Int := if needsB ns && feedB feed && decide (0 ≤ s) && decide (s ≤ 63) then cutI ns feed s.toNat else -1
/-- All that is wanted. -/
def wantAll (ns : List N4) : Nat → Int
  | 0 => 0
  | k + 1 => wantAll ns k + (wants ns).getD k 0
theorem wantAll_next {ns : List N4} {k : Nat} {x : N4} (h : Hid (ns[k]? = some x)) : wantAll ns (k + 1) = wantAll ns k + x.u := by
  have h' := h.out
  simp [wantAll, wants, List.getD_eq_getElem?_getD, h']
theorem wantAll_bd {ns : List N4} (h : needsB ns = true) : ∀ k : Nat, 0 ≤ wantAll ns k ∧ wantAll ns k ≤ 30 * k
  | 0 => by simp [wantAll]
  | k + 1 => by
    have ih := wantAll_bd h k
    have := small_get (wants_small h) k
    simp only [wantAll]; omega
def enoughR (ns : List N4) (feed : List Int) : Bool := needsB ns && feedB feed && decide (mostI ns feed = wantAll ns ns.length)

/-- k is the first at which p holds, below n; -1 if there is none. -/
def FirstIs (p : Nat → Bool) (n : Nat) (r : Int) : Prop := (∃ k : Nat, k < n ∧ r = k ∧ p k = true ∧ ∀ j, j < k → p j = false) ∨ (r = -1 ∧ ∀ j, j < n → p j = false)
theorem FirstIs.same {p : Nat → Bool} {n : Nat} {r r' : Int} (h : FirstIs p n r) (h' : FirstIs p n r') : r = r' := by
  rcases h with ⟨k, hk, rfl, hp, hlt⟩ | ⟨rfl, hno⟩
  · rcases h' with ⟨k', hk', rfl, hp', hlt'⟩ | ⟨rfl, hno'⟩
    · rcases Nat.lt_trichotomy k k' with h | h | h
      · have := hlt' k h; rw [hp] at this; cases this
      · rw [h]
      · have := hlt k' h; rw [hp'] at this; cases this
    · have := hno' k hk; rw [hp] at this; cases this
  · rcases h' with ⟨k', hk', rfl, hp', hlt'⟩ | ⟨rfl, hno'⟩
    · have := hno k' hk'; rw [hp'] at this; cases this
    · rfl
end Go.Proofs.Ytecjhomfoakaeaa
