/-
  The cars by descending sums, and the list that gives each the first place that is left; of nested cars it gives as many a place as at most. No program is in sight here.
-/
import Derived.Test.YtmmaeninlhbaaaaDoorHallP
namespace Go.Proofs.YtmmaeninlhbaaaaDoor
open Go.ChangeShapes Go.WideShapes Go.ChangeAt Go.RowKit

def szC (x : C4) : Int := x.t + x.r + x.u
def szAt (cs : List C4) (i : Nat) : Int := match cs[i]? with | some x => szC x | none => 0
theorem szAt_get {cs : List C4} {i : Nat} {x : C4} (h : Hid (cs[i]? = some x)) : szAt cs i = szC x := by have h := h.out; simp only [szAt, h]
/-- Car a comes before car b. -/
def ahead (cs : List C4) (a b : Nat) : Prop := szAt cs b < szAt cs a ∨ (szAt cs a = szAt cs b ∧ a < b)
theorem ahead_not {cs : List C4} {a b : Nat} (h : ahead cs a b) : ¬ ahead cs b a := by unfold ahead at *; omega
theorem ahead_total {cs : List C4} {a b : Nat} (h : a ≠ b) : ahead cs a b ∨ ahead cs b a := by unfold ahead; omega
theorem ahead_trans {cs : List C4} {a b c : Nat} (h : ahead cs a b) (h2 : ahead cs b c) : ahead cs a c := by unfold ahead at *; omega
structure IsDown (cs : List C4) (n : Nat) (l : List Nat) : Prop where
  all : ∀ c, c ∈ l ↔ c < n
  down : l.Pairwise (ahead cs)
theorem down_same {cs : List C4} : ∀ {l l' : List Nat}, l.Pairwise (ahead cs) → l'.Pairwise (ahead cs) → (∀ c, c ∈ l ↔ c ∈ l') → l = l'
  | [], [], _, _, _ => rfl
  | [], x :: l', _, _, h => by have := (h x).2 (by simp); cases this
  | x :: l, [], _, _, h => by have := (h x).1 (by simp); cases this
  | x :: l, y :: l', h1, h2, h => by
    obtain ⟨a1, b1⟩ := List.pairwise_cons.1 h1
    obtain ⟨a2, b2⟩ := List.pairwise_cons.1 h2
    have e : x = y := by
      by_cases hxy : x = y
      · exact hxy
      · have h3 : x ∈ l' := (List.mem_cons.1 ((h x).1 (by simp))).resolve_left hxy
        have h4 : y ∈ l := (List.mem_cons.1 ((h y).2 (by simp))).resolve_left (fun e => hxy e.symm)
        exact absurd (a1 y h4) (ahead_not (a2 x h3))
    subst e
    have hx1 : x ∉ l := fun hm => absurd (a1 x hm) (ahead_not (a1 x hm))
    have hx2 : x ∉ l' := fun hm => absurd (a2 x hm) (ahead_not (a2 x hm))
    rw [down_same b1 b2 fun c => ?_]
    have hc := h c
    simp only [List.mem_cons] at hc
    by_cases hcx : c = x
    · subst hcx; exact ⟨fun hm => absurd hm hx1, fun hm => absurd hm hx2⟩
    · exact ⟨fun hm => (hc.1 (.inr hm)).resolve_left hcx, fun hm => (hc.2 (.inr hm)).resolve_left hcx⟩
theorem IsDown.same {cs : List C4} {n : Nat} {l l' : List Nat} (h : IsDown cs n l) (h' : IsDown cs n l') : l = l' := down_same h.down h'.down fun c => by rw [h.all, h'.all]
theorem IsDown.nodup {cs : List C4} {n : Nat} {l : List Nat} (h : IsDown cs n l) : l.Nodup := h.down.imp fun {a b} hab e => by subst e; exact ahead_not hab hab
instance (cs : List C4) (a b : Nat) : Decidable (ahead cs a b) := by unfold ahead; infer_instance
def insD (cs : List C4) (c : Nat) : List Nat → List Nat
  | [] => [c]
  | x :: l => if ahead cs c x then c :: x :: l else x :: insD cs c l
theorem mem_insD {cs : List C4} {c x : Nat} : ∀ {l : List Nat}, x ∈ insD cs c l ↔ x = c ∨ x ∈ l
  | [] => by simp [insD]
  | y :: l => by
    unfold insD
    split
    · simp
    · simp only [List.mem_cons, mem_insD (l := l)]
      constructor
      · rintro (h | h | h)
        · exact .inr (.inl h)
        · exact .inl h
        · exact .inr (.inr h)
      · rintro (h | h | h)
        · exact .inr (.inl h)
        · exact .inl h
        · exact .inr (.inr h)
theorem insD_down {cs : List C4} {c : Nat} : ∀ {l : List Nat}, l.Pairwise (ahead cs) → c ∉ l → (insD cs c l).Pairwise (ahead cs)
  | [], _, _ => by simp [insD]
  | y :: l, h, hc => by
    obtain ⟨a1, b1⟩ := List.pairwise_cons.1 h
    unfold insD
    split
    · rename_i hy
      refine List.pairwise_cons.2 ⟨fun z hz => ?_, h⟩
      rcases List.mem_cons.1 hz with rfl | hz
      · exact hy
      · exact ahead_trans hy (a1 z hz)
    · rename_i hy
      simp only [List.mem_cons, not_or] at hc
      refine List.pairwise_cons.2 ⟨fun z hz => ?_, insD_down b1 hc.2⟩
      rcases mem_insD.1 hz with rfl | hz
      · exact (ahead_total hc.1).resolve_left hy
      · exact a1 z hz
def downK (cs : List C4) : Nat → List Nat
  | 0 => []
  | k + 1 => insD cs k (downK cs k)
theorem downK_is (cs : List C4) : ∀ k, IsDown cs k (downK cs k)
  | 0 => ⟨fun c => by simp [downK], List.Pairwise.nil⟩
  | k + 1 => by
    have ih := downK_is cs k
    refine ⟨fun c => by show c ∈ insD cs k (downK cs k) ↔ _; rw [mem_insD, ih.all]; omega, insD_down ih.down ?_⟩
    rw [ih.all]; omega
theorem downK_len {cs : List C4} {n : Nat} {l : List Nat} (h : IsDown cs n l) : l.length = n := by
  have e : ∀ k, (downK cs k).length = k := by
    intro k
    induction k with
    | zero => rfl
    | succ k ih =>
      have hi : ∀ l, (insD cs k l).length = l.length + 1 := by
        intro l
        induction l with
        | nil => rfl
        | cons x l ih2 => unfold insD; split <;> simp [ih2]
      show (insD cs k (downK cs k)).length = k + 1
      rw [hi, ih]
  rw [h.same (downK_is cs n), e]
def toI (l : List Nat) : List Int := l.map fun (i : Nat) => (i : Int)
/-- The order of valid cars. -/
def downL (cs : List C4) : List Int := if carsB cs then toI (downK cs cs.length) else []
theorem downL_yes {cs : List C4} (h : carsB cs = true) {l : List Nat} (hl : IsDown cs cs.length l) : downL cs = toI l := by simp only [downL, h, if_true]; rw [hl.same (downK_is _ _)]
theorem downL_no {cs : List C4} (h : carsB cs = false) : downL cs = [] := by simp [downL, h]
theorem downL_short (cs : List C4) : (downL cs).length ≤ 6 := by
  unfold downL
  split
  · rename_i h
    simp only [toI, List.length_map, downK_len (downK_is cs cs.length)]
    exact carsB_len h
  · simp

/-! The list that is made car by car. -/
def firstP (cs : List C4) (ps : List P3) (g : List Int) (c : Nat) : Option Nat := (List.range ps.length).find? fun p => adjC cs ps c p && !hasB g (p : Int)
def stepD (cs : List C4) (ps : List P3) (g : List Int) (c : Nat) : List Int := match firstP cs ps g c with | some p => g.set c (p : Int) | none => g
def giveK (cs : List C4) (ps : List P3) (l : List Nat) : List Int := l.foldl (stepD cs ps) (List.replicate cs.length (-1))
theorem giveK_snoc (cs : List C4) (ps : List P3) (l : List Nat) (c : Nat) : giveK cs ps (l ++ [c]) = stepD cs ps (giveK cs ps l) c := by simp [giveK]
def giveDL (cs : List C4) (ps : List P3) : List Int := if carsB cs && placesB ps then giveK cs ps (downK cs cs.length) else []
theorem gM_set {g : List Int} {c : Nat} {z : Int} (hc : c < g.length) : gM (g.set c z) = upd (gM g) c z := by
  funext i
  unfold gM upd
  simp only [List.getD_eq_getElem?_getD]
  by_cases h : i = c
  · subst h; simp [hc]
  · rw [if_neg h, List.getElem?_set_ne (by omega)]
theorem hasB_gM {g : List Int} {p : Nat} : hasB g (p : Int) = true ↔ ∃ c, c < g.length ∧ gM g c = p := by
  rw [hasB_iff]
  constructor
  · intro h
    obtain ⟨c, hc⟩ := List.getElem?_of_mem h
    exact ⟨c, (List.getElem?_eq_some_iff.1 hc).1, by simp [gM, List.getD_eq_getElem?_getD, hc]⟩
  · rintro ⟨c, hc, h⟩
    have hz : g[c]? = some g[c] := List.getElem?_eq_getElem hc
    rw [gM, List.getD_eq_getElem?_getD, hz] at h
    exact List.mem_of_getElem? (i := c) (by rw [hz]; simpa using h)
/-- Behind the cars l. -/
structure DownI (cs : List C4) (ps : List P3) (l : List Nat) (g : List Int) : Prop where
  len : g.length = cs.length
  val : Val (adjC cs ps) cs.length (gM g)
  rest : ∀ c, c < cs.length → c ∉ l → gM g c = -1
  out : (∀ a b p, (∃ l1 l2, l = l1 ++ l2 ∧ a ∈ l1 ∧ b ∈ l2) → adjC cs ps a p = true → adjC cs ps b p = true) →
    ∃ R : Nat → Prop, (∀ c, R c → c ∈ l) ∧ (∀ c ∈ l, ¬ R c → 0 ≤ gM g c) ∧ ∀ p, (∃ c, R c ∧ adjC cs ps c p = true) → ∃ b, R b ∧ gM g b = p
theorem firstP_some {cs : List C4} {ps : List P3} {g : List Int} {c p : Nat} (h : firstP cs ps g c = some p) : adjC cs ps c p = true ∧ hasB g (p : Int) = false := by
  have := List.find?_some h
  simpa using this
theorem firstP_none {cs : List C4} {ps : List P3} {g : List Int} {c p : Nat} (h : firstP cs ps g c = none) (ha : adjC cs ps c p = true) : hasB g (p : Int) = true := by
  have h1 := List.find?_eq_none.1 h p (by simpa using adjC_lt ha)
  rw [ha] at h1
  simpa using h1
theorem giveK_rev {cs : List C4} {ps : List P3} (r : List Nat) : (∀ c ∈ r.reverse, c < cs.length) → r.reverse.Nodup → DownI cs ps r.reverse (giveK cs ps r.reverse) := by
  induction r with
  | nil =>
    intro _ _
    rw [List.reverse_nil]
    have e : ∀ c, gM (giveK cs ps []) c = -1 := by
      intro c
      simp only [giveK, List.foldl_nil, gM, List.getD_eq_getElem?_getD, List.getElem?_replicate]
      split <;> rfl
    exact ⟨by simp [giveK], ⟨fun c _ => .inl (e c), fun a b _ _ _ h0 => by rw [e] at h0; omega⟩, fun c _ _ => e c, fun _ => ⟨fun _ => False, fun _ h => h.elim, fun c hc => by simp at hc, fun p ⟨c, hc, _⟩ => hc.elim⟩⟩
  | cons c r ih =>
    rw [List.reverse_cons]
    generalize r.reverse = l at ih ⊢
    intro hlt hnd
    have hc : c < cs.length := hlt c (by simp)
    rw [List.nodup_append] at hnd
    have hcl : c ∉ l := fun hm => hnd.2.2 c hm c (by simp) rfl
    have h := ih (fun x hx => hlt x (by simp [hx])) hnd.1
    rw [giveK_snoc]
    generalize giveK cs ps l = g at h ⊢
    unfold stepD
    cases hf : firstP cs ps g c with
    | some p =>
      obtain ⟨h1, h2⟩ := firstP_some hf
      have hno : ∀ b, b < cs.length → gM g b ≠ p := fun b hb e => by
        have := hasB_gM.2 ⟨b, by rw [h.len]; exact hb, e⟩
        rw [h2] at this; cases this
      have hcg : c < g.length := by rw [h.len]; exact hc
      refine ⟨by simp [h.len], by rw [gM_set hcg]; exact h.val.give h1 fun b hb _ => hno b hb, fun b hb hm => ?_, fun hn => ?_⟩
      · simp only [List.mem_append, List.mem_singleton, not_or] at hm
        rw [gM_set hcg, upd, if_neg hm.2]
        exact h.rest b hb hm.1
      · obtain ⟨R, r1, r2, r3⟩ := h.out fun a b p ⟨l1, l2, e, ha, hb⟩ => hn a b p ⟨l1, l2 ++ [c], by rw [e]; simp, ha, by simp [hb]⟩
        refine ⟨R, fun b hb => by simp [r1 b hb], fun b hb hR => ?_, fun q hq => ?_⟩
        · rw [gM_set hcg, upd]
          by_cases hbc : b = c
          · rw [if_pos hbc]; omega
          · rw [if_neg hbc]
            refine r2 b ?_ hR
            simp only [List.mem_append, List.mem_singleton] at hb
            exact hb.resolve_right hbc
        · obtain ⟨b, hb, e⟩ := r3 q hq
          refine ⟨b, hb, ?_⟩
          rw [gM_set hcg, upd, if_neg]
          · exact e
          · rintro rfl; exact hcl (r1 _ hb)
    | none =>
      refine ⟨h.len, h.val, fun b hb hm => h.rest b hb fun hm2 => hm (by simp [hm2]), fun hn => ?_⟩
      refine ⟨fun x => x ∈ l ++ [c], fun x hx => hx, fun x hx hR => absurd hx hR, fun q ⟨x, hx, ha⟩ => ?_⟩
      have hcq : adjC cs ps c q = true := by
        simp only [List.mem_append, List.mem_singleton] at hx
        rcases hx with hx | rfl
        · exact hn x c q ⟨l, [c], rfl, hx, by simp⟩ ha
        · exact ha
      obtain ⟨b, hb, e⟩ := hasB_gM.1 (firstP_none hf hcq)
      refine ⟨b, ?_, e⟩
      by_cases hbl : b ∈ l
      · simp [hbl]
      · have := h.rest b (by rw [← h.len]; exact hb) hbl
        omega
theorem giveK_inv {cs : List C4} {ps : List P3} (l : List Nat) (h1 : ∀ c ∈ l, c < cs.length) (h2 : l.Nodup) : DownI cs ps l (giveK cs ps l) := by
  have h := giveK_rev (cs := cs) (ps := ps) l.reverse
  rw [List.reverse_reverse] at h
  exact h h1 h2
theorem tight {n m : Nat} {M : Nat → Int} (R r : Nat → Bool) (h1 : ∀ p, p < m → r p = true → ∃ b, b < n ∧ R b = true ∧ M b = p) (h2 : ∀ c, c < n → R c = false → 0 ≤ M c) :
    n + cnt r m ≤ cnt (has M) n + cnt R n := by
  have g1 : cnt r m ≤ cnt (fun c => has M c && R c) n := by
    refine cnt_onto (f := fun c => (M c).toNat) fun p hp hrp => ?_
    obtain ⟨b, hb, hR, e⟩ := h1 p hp hrp
    refine ⟨b, hb, ?_, by simp [e]⟩
    simp only [Bool.and_eq_true, decide_eq_true_eq, has]
    exact ⟨by omega, hR⟩
  have g2 := cnt_split (has M) R n
  have g3 := cnt_split (fun _ => true) R n
  rw [cnt_all] at g3
  have g4 : cnt (fun c => true && !R c) n ≤ cnt (fun c => has M c && !R c) n := cnt_mono fun c hc hq => by
    simp only [Bool.true_and, Bool.not_eq_true'] at hq
    simp only [Bool.and_eq_true, Bool.not_eq_true']
    exact ⟨by simp [has, h2 c hc hq], hq⟩
  have g5 : cnt (fun i => true && R i) n = cnt R n := cnt_congr fun i _ => by simp
  omega
theorem giveDL_yes {cs : List C4} {ps : List P3} (h1 : carsB cs = true) (h2 : placesB ps = true) : giveDL cs ps = giveK cs ps (downK cs cs.length) := by simp [giveDL, h1, h2]
theorem giveDL_inv (cs : List C4) (ps : List P3) : DownI cs ps (downK cs cs.length) (giveK cs ps (downK cs cs.length)) :=
  giveK_inv _ (fun c hc => (downK_is cs cs.length).all c |>.1 hc) (downK_is cs cs.length).nodup
theorem list_eq_map {g : List Int} {n : Nat} (h : g.length = n) : g = (List.range n).map (gM g) := by
  refine List.ext_getElem? fun i => ?_
  by_cases hi : i < n
  · have hz : g[i]? = some g[i] := List.getElem?_eq_getElem (by omega)
    rw [List.getElem?_map, List.getElem?_range hi, hz]
    show _ = some (gM g i)
    rw [gM, List.getD_eq_getElem?_getD, hz]; rfl
  · rw [List.getElem?_eq_none (by omega), List.getElem?_eq_none (by simp; omega)]
theorem giveDL_valid {cs : List C4} {ps : List P3} (h1 : carsB cs = true) (h2 : placesB ps = true) : giveB cs ps (giveDL cs ps) = true := by
  rw [giveDL_yes h1 h2]
  have h := giveDL_inv cs ps
  rw [list_eq_map h.len]
  exact val_giveB h1 h2 h.val
theorem giveDL_short (cs : List C4) (ps : List P3) : (giveDL cs ps).length ≤ 6 := by
  unfold giveDL
  split
  · rename_i h
    simp only [Bool.and_eq_true] at h
    rw [(giveDL_inv cs ps).len]; exact carsB_len h.1
  · simp
theorem adjC_under {cs : List C4} {ps : List P3} {a b p : Nat} {x y : C4} (hx : cs[a]? = some x) (hy : cs[b]? = some y) (h1 : y.t ≤ x.t) (h2 : y.r ≤ x.r) (h3 : y.u ≤ x.u) (h : adjC cs ps a p = true) : adjC cs ps b p = true := by
  simp only [adjC, hx, hy, fitAt] at h ⊢
  cases hp : ps[p]? with
  | none => rw [hp] at h; cases h
  | some z =>
    rw [hp] at h
    have := fitP_iff.1 h
    exact fitP_iff.2 (by omega)
/-- Of nested cars as many have a place as at most. -/
theorem giveDL_most {cs : List C4} {ps : List P3} (h1 : carsB cs = true) (h2 : placesB ps = true)
    (hn : ∀ (a b : Nat) (x y : C4), a ≠ b → cs[a]? = some x → cs[b]? = some y → (x.t ≤ y.t ∧ x.r ≤ y.r ∧ x.u ≤ y.u) ∨ (y.t ≤ x.t ∧ y.r ≤ x.r ∧ y.u ≤ x.u)) : manyL (giveDL cs ps) = manyL (bestAll cs ps) := by
  classical
  refine Int.le_antisymm (bestAll_many (giveDL_valid h1 h2)) ?_
  have hi := giveDL_inv cs ps
  have hd := downK_is cs cs.length
  obtain ⟨R, r1, r2, r3⟩ := hi.out fun a b p ⟨l1, l2, e, ha, hb⟩ hab => by
    have hpw := hd.down
    rw [e, List.pairwise_append] at hpw
    have hah := hpw.2.2 a ha b hb
    have hal : a < cs.length := (hd.all a).1 (by rw [e]; simp [ha])
    have hbl : b < cs.length := (hd.all b).1 (by rw [e]; simp [hb])
    have hx : cs[a]? = some cs[a] := List.getElem?_eq_getElem hal
    have hy : cs[b]? = some cs[b] := List.getElem?_eq_getElem hbl
    have hne : a ≠ b := by rintro rfl; exact ahead_not hah hah
    have h3 := hn a b _ _ hne hx hy
    unfold ahead at hah
    rw [szAt_get (Lib.hid hx), szAt_get (Lib.hid hy)] at hah
    unfold szC at hah
    exact adjC_under hx hy (by omega) (by omega) (by omega) hab
  have ht := tight (n := cs.length) (m := ps.length) (M := gM (giveK cs ps (downK cs cs.length))) (fun c => decide (R c)) (ofAt cs ps (selK (fun c => decide (R c)) cs.length)) (fun p hp hr => by
    obtain ⟨c, hc, hR, ha⟩ := ofAt_selK.1 hr
    obtain ⟨b, hb, e⟩ := r3 p ⟨c, of_decide_eq_true hR, ha⟩
    exact ⟨b, (hd.all b).1 (r1 b hb), by simpa using hb, e⟩) (fun c hc hR => r2 c ((hd.all c).2 hc) (by simpa using hR))
  have hb := many_le (bestAll_giveB h1 h2) (fun c => decide (R c))
  have hl := cnt_le (fun c => decide (R c)) cs.length
  unfold mostF at hb
  rw [ofL_cnt h1 h2, selK_cnt] at hb
  rw [giveDL_yes h1 h2, manyL_cnt (giveK cs ps _), hi.len]
  omega
end Go.Proofs.YtmmaeninlhbaaaaDoor
