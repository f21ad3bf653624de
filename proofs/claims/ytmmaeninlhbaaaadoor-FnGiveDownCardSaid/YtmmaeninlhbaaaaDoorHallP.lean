/-
  The law of the deficiency: as many cars have a place at most as all but by how many some cars are more than the places into which one of them fits; and for one set it is exactly so many. No program is in sight here.
-/
import Derived.Test.YtmmaeninlhbaaaaDoorBestX
import Derived.Test.YtmmaeninlhbaaaaDoorOfP
namespace Go.Proofs.YtmmaeninlhbaaaaDoor
open Go.ChangeShapes Go.WideShapes Go.ChangeAt Go.RowKit

def cnt (q : Nat → Bool) : Nat → Nat
  | 0 => 0
  | k + 1 => cnt q k + (if q k then 1 else 0)
theorem cnt_mono {q r : Nat → Bool} : ∀ {n : Nat}, (∀ i, i < n → q i = true → r i = true) → cnt q n ≤ cnt r n
  | 0, _ => Nat.le_refl _
  | n + 1, h => by
    have ih := cnt_mono (n := n) fun i hi => h i (by omega)
    have h1 := h n (by omega)
    simp only [cnt]
    cases hq : q n
    · simp; omega
    · simp [h1 hq]; omega
theorem cnt_congr {q r : Nat → Bool} {n : Nat} (h : ∀ i, i < n → q i = r i) : cnt q n = cnt r n :=
  Nat.le_antisymm (cnt_mono fun i hi hq => by rw [← h i hi]; exact hq) (cnt_mono fun i hi hq => by rw [h i hi]; exact hq)
theorem cnt_le (q : Nat → Bool) : ∀ n, cnt q n ≤ n
  | 0 => Nat.le_refl _
  | n + 1 => by have := cnt_le q n; simp only [cnt]; split <;> omega
theorem cnt_split (q r : Nat → Bool) : ∀ n, cnt q n = cnt (fun i => q i && r i) n + cnt (fun i => q i && !r i) n
  | 0 => rfl
  | n + 1 => by
    have ih := cnt_split q r n
    simp only [cnt]
    by_cases h1 : q n = true <;> by_cases h2 : r n = true <;> simp [h1, h2] <;> omega
theorem cnt_all (n : Nat) : cnt (fun _ => true) n = n := by
  induction n with
  | zero => rfl
  | succ n ih => simp [cnt, ih]
theorem cnt_add {q : Nat → Bool} {u : Nat} : ∀ {n : Nat}, u < n → q u = false → cnt (fun i => decide (i = u) || q i) n = cnt q n + 1
  | 0, h, _ => by omega
  | n + 1, h, hq => by
    by_cases hu : u = n
    · subst hu
      have e : cnt (fun i => decide (i = u) || q i) u = cnt q u := cnt_congr fun i hi => by simp; omega
      simp only [cnt, e, hq]; simp
    · have ih := cnt_add (q := q) (u := u) (n := n) (by omega) hq
      have e : (decide (n = u) || q n) = q n := by simp; omega
      simp only [cnt, ih, e]; omega
theorem cnt_inj : ∀ (n : Nat) (q r : Nat → Bool) (m : Nat) (f : Nat → Nat), (∀ c, c < n → q c = true → f c < m ∧ r (f c) = true) →
    (∀ a b, a < n → b < n → q a = true → q b = true → f a = f b → a = b) → cnt q n ≤ cnt r m
  | 0, _, _, _, _, _, _ => Nat.zero_le _
  | n + 1, q, r, m, f, h1, h2 => by
    simp only [cnt]
    cases hq : q n
    · have := cnt_inj n q r m f (fun c hc => h1 c (by omega)) (fun a b ha hb => h2 a b (by omega) (by omega))
      simpa using this
    · obtain ⟨g1, g2⟩ := h1 n (by omega) hq
      have ih := cnt_inj n q (fun p => r p && !decide (p = f n)) m f (fun c hc hqc => by
        obtain ⟨g3, g4⟩ := h1 c (by omega) hqc
        refine ⟨g3, ?_⟩
        simp only [g4, Bool.true_and, Bool.not_eq_true', decide_eq_false_iff_not]
        intro he
        have := h2 c n (by omega) (by omega) hqc hq he
        omega) (fun a b ha hb => h2 a b (by omega) (by omega))
      have e : cnt r m = cnt (fun p => r p && !decide (p = f n)) m + 1 := by
        rw [← cnt_add (q := fun p => r p && !decide (p = f n)) g1 (by simp)]
        refine cnt_congr fun i _ => ?_
        by_cases hi : i = f n
        · subst hi; simp [g2]
        · simp [hi]
      simp; omega
theorem cnt_onto {n m : Nat} {q r : Nat → Bool} {f : Nat → Nat} (h : ∀ p, p < m → r p = true → ∃ c, c < n ∧ q c = true ∧ f c = p) : cnt r m ≤ cnt q n := by
  classical
  have hg : ∀ p, ∃ c, p < m → r p = true → c < n ∧ q c = true ∧ f c = p := by
    intro p
    by_cases h1 : p < m ∧ r p = true
    · obtain ⟨c, hc⟩ := h p h1.1 h1.2
      exact ⟨c, fun _ _ => hc⟩
    · exact ⟨0, fun a b => absurd ⟨a, b⟩ h1⟩
  let g : Nat → Nat := fun p => Classical.choose (hg p)
  have gs : ∀ p, p < m → r p = true → g p < n ∧ q (g p) = true ∧ f (g p) = p := fun p => Classical.choose_spec (hg p)
  refine cnt_inj m r q n g (fun p hp hr => ⟨(gs p hp hr).1, (gs p hp hr).2.1⟩) fun a b ha hb hra hrb he => ?_
  rw [← (gs a ha hra).2.2, ← (gs b hb hrb).2.2, he]

/-! Cars 0 .. n-1, each given a place or -1. -/
structure Val (adj : Nat → Nat → Bool) (n : Nat) (M : Nat → Int) : Prop where
  fit : ∀ c, c < n → M c = -1 ∨ (0 ≤ M c ∧ adj c (M c).toNat = true)
  one : ∀ a b, a < n → b < n → a ≠ b → 0 ≤ M a → M a ≠ M b
def has (M : Nat → Int) (c : Nat) : Bool := decide (0 ≤ M c)
def upd (M : Nat → Int) (u : Nat) (v : Int) : Nat → Int := fun c => if c = u then v else M c
theorem Val.give {adj : Nat → Nat → Bool} {n : Nat} {M : Nat → Int} (h : Val adj n M) {u p : Nat} (ha : adj u p = true) (hf : ∀ c, c < n → c ≠ u → M c ≠ p) : Val adj n (upd M u p) := by
  refine ⟨fun c hc => ?_, fun a b ha hb hab h0 => ?_⟩
  · unfold upd
    split
    · rename_i e; subst e; exact .inr ⟨by omega, by simpa using ha⟩
    · exact h.fit c hc
  · unfold upd at h0 ⊢
    by_cases h1 : a = u
    · subst h1
      rw [if_pos rfl, if_neg (by omega)]
      exact fun e => hf b hb (by omega) e.symm
    · rw [if_neg h1] at h0 ⊢
      by_cases h2 : b = u
      · rw [if_pos h2]; exact hf a ha h1
      · rw [if_neg h2]; exact h.one a b ha hb hab h0
theorem Val.drop {adj : Nat → Nat → Bool} {n : Nat} {M : Nat → Int} (h : Val adj n M) (u : Nat) : Val adj n (upd M u (-1)) := by
  refine ⟨fun c hc => ?_, fun a b ha hb hab h0 => ?_⟩
  · unfold upd
    split
    · exact .inl rfl
    · exact h.fit c hc
  · unfold upd at h0 ⊢
    by_cases h1 : a = u
    · rw [if_pos h1] at h0; omega
    · rw [if_neg h1] at h0 ⊢
      by_cases h2 : b = u
      · rw [if_pos h2]; omega
      · rw [if_neg h2]; exact h.one a b ha hb hab h0
theorem has_give {n : Nat} {M : Nat → Int} {u : Nat} {p : Int} (hu : u < n) (h : M u = -1) (hp : 0 ≤ p) : cnt (has (upd M u p)) n = cnt (has M) n + 1 := by
  rw [← cnt_add (q := has M) (u := u) hu (by simp [has, h])]
  refine cnt_congr fun i _ => ?_
  unfold has upd
  by_cases hi : i = u <;> simp [hi, hp]
theorem has_drop {n : Nat} {M : Nat → Int} {u : Nat} (hu : u < n) (h : 0 ≤ M u) : cnt (has (upd M u (-1))) n + 1 = cnt (has M) n := by
  rw [← cnt_add (q := has (upd M u (-1))) (u := u) hu (by simp [has, upd])]
  refine cnt_congr fun i _ => ?_
  unfold has upd
  by_cases hi : i = u
  · subst hi; simp [h]
  · simp [hi]

def Way (adj : Nat → Nat → Bool) (M : Nat → Int) (n : Nat) : Nat → List Nat → Prop
  | _, [] => True
  | u, c :: l => c < n ∧ 0 ≤ M c ∧ adj u (M c).toNat = true ∧ Way adj M n c l
def endp : Nat → List Nat → Nat
  | u, [] => u
  | _, c :: l => endp c l
theorem Way.congr {adj : Nat → Nat → Bool} {M M' : Nat → Int} {n : Nat} : ∀ {l : List Nat} {u : Nat}, Way adj M n u l → (∀ c ∈ l, M' c = M c) → Way adj M' n u l
  | [], _, _, _ => trivial
  | c :: l, u, ⟨h1, h2, h3, h4⟩, h => by
    have e := h c (by simp)
    exact ⟨h1, by rw [e]; exact h2, by rw [e]; exact h3, Way.congr h4 fun x hx => h x (by simp [hx])⟩
theorem Way.snoc {adj : Nat → Nat → Bool} {M : Nat → Int} {n : Nat} : ∀ {l : List Nat} {u c : Nat}, Way adj M n u l → c < n → 0 ≤ M c → adj (endp u l) (M c).toNat = true → Way adj M n u (l ++ [c]) ∧ endp u (l ++ [c]) = c
  | [], u, c, _, h1, h2, h3 => ⟨⟨h1, h2, h3, trivial⟩, rfl⟩
  | x :: l, u, c, ⟨g1, g2, g3, g4⟩, h1, h2, h3 => by
    have ih := Way.snoc (l := l) (u := x) g4 h1 h2 h3
    exact ⟨⟨g1, g2, g3, ih.1⟩, ih.2⟩
theorem Way.cut {adj : Nat → Nat → Bool} {M : Nat → Int} {n : Nat} : ∀ {l : List Nat} {u x : Nat}, Way adj M n u l → x ∈ u :: l → ∃ l', l'.Sublist l ∧ Way adj M n u l' ∧ endp u l' = x
  | [], u, x, _, hx => by
    simp at hx; subst hx
    exact ⟨[], List.Sublist.refl _, trivial, rfl⟩
  | c :: l, u, x, ⟨g1, g2, g3, g4⟩, hx => by
    rcases List.mem_cons.1 hx with rfl | hx
    · exact ⟨[], List.nil_sublist _, trivial, rfl⟩
    · obtain ⟨l', h1, h2, h3⟩ := Way.cut (l := l) (u := c) g4 hx
      exact ⟨c :: l', h1.cons_cons c, ⟨g1, g2, g3, h2⟩, h3⟩
theorem augment {adj : Nat → Nat → Bool} {n : Nat} : ∀ (l : List Nat) (M : Nat → Int) (u : Nat), Val adj n M → u < n → M u = -1 → (u :: l).Nodup → Way adj M n u l →
    ∀ p : Nat, adj (endp u l) p = true → (∀ c, c < n → M c ≠ p) → ∃ M', Val adj n M' ∧ cnt (has M') n = cnt (has M) n + 1
  | [], M, u, hV, hu, h0, _, _, p, ha, hf => ⟨upd M u p, hV.give ha fun c hc _ => hf c hc, has_give hu h0 (by omega)⟩
  | c :: l, M, u, hV, hu, h0, hd, ⟨g1, g2, g3, g4⟩, p, ha, hf => by
    have hcu : c ≠ u := by
      rintro rfl
      simp at hd
    obtain ⟨q, hq⟩ : ∃ q : Nat, M c = q := ⟨(M c).toNat, by omega⟩
    rw [hq] at g3
    simp at g3
    have e1 : upd M c (-1) u = -1 := by unfold upd; rw [if_neg (by omega)]; exact h0
    have v1 := (hV.drop c)
    have v2 : Val adj n (upd (upd M c (-1)) u q) := v1.give g3 fun b hb hbu => by
      unfold upd
      by_cases hbc : b = c
      · rw [if_pos hbc]; omega
      · rw [if_neg hbc, ← hq]
        exact fun e => hV.one c b g1 hb (by omega) (by omega) e.symm
    have n1 := has_drop (M := M) g1 g2
    have n2 := has_give (M := upd M c (-1)) (p := (q : Int)) hu e1 (by omega)
    have hd2 : (c :: l).Nodup := (List.nodup_cons.1 hd).2
    have hul : u ∉ c :: l := (List.nodup_cons.1 hd).1
    have hcl : c ∉ l := (List.nodup_cons.1 hd2).1
    obtain ⟨M', h1, h2⟩ := augment l (upd (upd M c (-1)) u q) c v2 g1 (by unfold upd; rw [if_neg hcu, if_pos rfl]) hd2
      (g4.congr fun x hx => by
        have hxu : x ≠ u := by rintro rfl; exact hul (by simp [hx])
        have hxc : x ≠ c := by rintro rfl; exact hcl hx
        unfold upd; rw [if_neg hxu, if_neg hxc]) p ha (fun b hb => by
        unfold upd
        by_cases hbu : b = u
        · rw [if_pos hbu, ← hq]; exact hf c g1
        · rw [if_neg hbu]
          by_cases hbc : b = c
          · rw [if_pos hbc]; omega
          · rw [if_neg hbc]; exact hf b hb)
    exact ⟨M', h1, by omega⟩
/-- Where no one can be given more there is a set of cars that shows it. -/
theorem shows {adj : Nat → Nat → Bool} {n m : Nat} {M : Nat → Int} (hV : Val adj n M) (hmax : ∀ M', Val adj n M' → cnt (has M') n ≤ cnt (has M) n) :
    ∃ R : Nat → Bool, ∀ r : Nat → Bool, (∀ p, p < m → r p = true → ∃ c, c < n ∧ R c = true ∧ adj c p = true) → n + cnt r m ≤ cnt (has M) n + cnt R n := by
  classical
  let RP : Nat → Prop := fun c => c < n ∧ ∃ u l, u < n ∧ M u = -1 ∧ (u :: l).Nodup ∧ Way adj M n u l ∧ endp u l = c
  refine ⟨fun c => decide (RP c), fun r hr => ?_⟩
  have h1 : cnt r m ≤ cnt (fun c => has M c && decide (RP c)) n := by
    refine cnt_onto (f := fun c => (M c).toNat) fun p hp hrp => ?_
    obtain ⟨c, hc, hR, ha⟩ := hr p hp hrp
    obtain ⟨_, u, l, hu, h0, hd, hw, he⟩ := of_decide_eq_true hR
    by_cases hfree : ∀ b, b < n → M b ≠ p
    · obtain ⟨M', v', c'⟩ := augment l M u hV hu h0 hd hw p (by rw [he]; exact ha) hfree
      have := hmax M' v'
      omega
    · obtain ⟨b, hb⟩ : ∃ b, b < n ∧ M b = p := by
        simp only [Classical.not_forall] at hfree
        obtain ⟨b, h1, h2⟩ := hfree
        exact ⟨b, h1, Classical.not_not.1 h2⟩
      refine ⟨b, hb.1, ?_, by simp [hb.2]⟩
      simp only [Bool.and_eq_true, decide_eq_true_eq, has]
      refine ⟨by omega, hb.1, ?_⟩
      by_cases hin : b ∈ u :: l
      · obtain ⟨l', g1, g2, g3⟩ := hw.cut hin
        exact ⟨u, l', hu, h0, hd.sublist (g1.cons_cons u), g2, g3⟩
      · obtain ⟨g1, g2⟩ := hw.snoc (c := b) hb.1 (by omega) (by rw [he, hb.2]; simpa using ha)
        refine ⟨u, l ++ [b], hu, h0, ?_, g1, g2⟩
        rw [← List.cons_append, List.nodup_append]
        exact ⟨hd, by simp, fun x hx y hy => by simp at hy; subst hy; rintro rfl; exact hin hx⟩
  have h2 := cnt_split (has M) (fun c => decide (RP c)) n
  have h3 := cnt_split (fun _ => true) (fun c => decide (RP c)) n
  rw [cnt_all] at h3
  have h4 : cnt (fun c => true && !decide (RP c)) n ≤ cnt (fun c => has M c && !decide (RP c)) n := cnt_mono fun c hc hq => by
    simp only [Bool.true_and, Bool.not_eq_true', decide_eq_false_iff_not] at hq
    simp only [Bool.and_eq_true, Bool.not_eq_true', decide_eq_false_iff_not]
    refine ⟨?_, hq⟩
    rcases hV.fit c hc with h | h
    · exact absurd ⟨hc, c, [], hc, h, by simp, trivial, rfl⟩ hq
    · simp [has, h.1]
  simp only [Bool.true_and] at h3 h4
  omega
/-- For every set of cars. -/
theorem bound {adj : Nat → Nat → Bool} {n m : Nat} {M : Nat → Int} (hV : Val adj n M) (hm : ∀ c p, adj c p = true → p < m) (R r : Nat → Bool) (hr : ∀ c p, c < n → R c = true → adj c p = true → r p = true) :
    cnt (has M) n + cnt R n ≤ n + cnt r m := by
  have h1 := cnt_inj n (fun c => has M c && R c) r m (fun c => (M c).toNat) (fun c hc hq => by
    simp only [Bool.and_eq_true, has, decide_eq_true_eq] at hq
    rcases hV.fit c hc with h | h
    · omega
    · exact ⟨hm _ _ h.2, hr c _ hc hq.2 h.2⟩) (fun a b ha hb hqa hqb he => by
    simp only [Bool.and_eq_true, has, decide_eq_true_eq] at hqa hqb
    by_cases hab : a = b
    · exact hab
    · exact absurd (by omega) (hV.one a b ha hb hab hqa.1))
  have h2 := cnt_split (has M) R n
  have h3 := cnt_split (fun _ => true) R n
  rw [cnt_all] at h3
  have h4 : cnt (fun c => has M c && !R c) n ≤ cnt (fun c => true && !R c) n := cnt_mono fun c _ hq => by
    simp only [Bool.and_eq_true] at hq
    simp [hq.2]
  have h5 : cnt (fun i => true && R i) n = cnt R n := cnt_congr fun i _ => by simp
  omega

/-! Lists of places. -/
def adjC (cs : List C4) (ps : List P3) (c p : Nat) : Bool := match cs[c]? with | some x => fitAt x ps p | none => false
def gM (g : List Int) (c : Nat) : Int := g.getD c (-1)
theorem adjC_lt {cs : List C4} {ps : List P3} {c p : Nat} (h : adjC cs ps c p = true) : p < ps.length := by
  unfold adjC at h; split at h
  · exact fitAt_lt h
  · cases h
theorem manyL_cnt (g : List Int) : manyL g = ((cnt (has (gM g)) g.length : Nat) : Int) := by
  have h : ∀ k, k ≤ g.length → ((g.take k).filter fun z => decide (0 ≤ z)).length = cnt (has (gM g)) k := by
    intro k
    induction k with
    | zero => intro _; rfl
    | succ k ih =>
      intro hk
      have hz : g[k]? = some g[k] := List.getElem?_eq_getElem (by omega)
      rw [List.take_add_one, hz, List.filter_append, List.length_append, ih (by omega)]
      simp only [cnt, has, gM, List.getD_eq_getElem?_getD, hz, Option.getD_some, Option.toList_some]
      by_cases h0 : 0 ≤ g[k] <;> simp [h0]
  have := h g.length (Nat.le_refl _)
  rw [List.take_length] at this
  unfold manyL
  rw [this]
theorem gM_val {cs : List C4} {ps : List P3} {g : List Int} (h : giveB cs ps g = true) : Val (adjC cs ps) cs.length (gM g) := by
  obtain ⟨h1, h2, h3, h4⟩ := giveB_parts h
  have key : ∀ c, c < cs.length → ∃ z x, g[c]? = some z ∧ gM g c = z ∧ cs[c]? = some x ∧ okZ x ps (g.take c) z = true := by
    intro c hc
    have hz : g[c]? = some g[c] := List.getElem?_eq_getElem (by omega)
    have hx : cs[c]? = some cs[c] := List.getElem?_eq_getElem hc
    have := h4 c (by omega)
    rw [okAt_get (Lib.hid hz) (Lib.hid hx)] at this
    exact ⟨_, _, hz, by simp [gM, List.getD_eq_getElem?_getD, hz], hx, this⟩
  refine ⟨fun c hc => ?_, fun a b ha hb hab h0 he => ?_⟩
  · obtain ⟨z, x, hz, e, hx, ho⟩ := key c hc
    rw [e]
    simp only [okZ, Bool.or_eq_true, Bool.and_eq_true, decide_eq_true_eq] at ho
    rcases ho with ho | ⟨⟨ho, hf⟩, _⟩
    · exact .inl ho
    · exact .inr ⟨ho, by simp only [adjC, hx]; exact hf⟩
  · have two : ∀ a b, a < cs.length → b < cs.length → a < b → 0 ≤ gM g a → gM g a = gM g b → False := by
      intro a b ha hb hab h0 he
      obtain ⟨z, x, hz, e, hx, ho⟩ := key a ha
      obtain ⟨z', x', hz', e', hx', ho'⟩ := key b hb
      simp only [okZ, Bool.or_eq_true, Bool.and_eq_true, decide_eq_true_eq, Bool.not_eq_true'] at ho'
      rcases ho' with ho' | ⟨_, hc⟩
      · omega
      · rw [List.contains_eq_mem, decide_eq_false_iff_not] at hc
        refine hc ?_
        have hzz : z' = z := by omega
        subst hzz
        refine List.mem_of_getElem? (i := a) ?_
        rw [List.getElem?_take, if_pos hab]; exact hz
    by_cases h : a < b
    · exact two a b ha hb h h0 he
    · exact two b a hb ha (by omega) (by omega) he.symm
theorem val_giveB {cs : List C4} {ps : List P3} {M : Nat → Int} (h1 : carsB cs = true) (h2 : placesB ps = true) (h : Val (adjC cs ps) cs.length M) : giveB cs ps ((List.range cs.length).map M) = true := by
  refine giveB_all h1 h2 (by simp) fun i hi => ?_
  simp at hi
  have hx : cs[i]? = some cs[i] := List.getElem?_eq_getElem hi
  rw [okAt_get (z := M i) (x := cs[i]) (Lib.hid (by simp [hi])) (Lib.hid hx)]
  simp only [okZ, Bool.or_eq_true, Bool.and_eq_true, decide_eq_true_eq, Bool.not_eq_true']
  rcases h.fit i hi with h0 | ⟨h0, hf⟩
  · exact .inl h0
  · refine .inr ⟨⟨h0, by unfold adjC at hf; rw [hx] at hf; exact hf⟩, ?_⟩
    rw [List.contains_eq_mem, decide_eq_false_iff_not]
    intro hm
    obtain ⟨j, hj⟩ := List.getElem?_of_mem hm
    rw [List.getElem?_take] at hj
    split at hj
    · rename_i hji
      simp [show j < cs.length by omega] at hj
      exact h.one i j hi (by omega) (by omega) h0 hj.symm
    · cases hj
theorem gM_map (n : Nat) (M : Nat → Int) : cnt (has (gM ((List.range n).map M))) n = cnt (has M) n := cnt_congr fun i hi => by simp [has, gM, List.getD_eq_getElem?_getD, hi]
theorem selK_cnt (f : Nat → Bool) : ∀ k, (selK f k).length = cnt f k
  | 0 => rfl
  | k + 1 => by
    cases h : f k
    · rw [selK_no h, selK_cnt f k]; simp [cnt, h]
    · rw [selK_yes h, List.length_append, selK_cnt f k]; simp [cnt, h]
theorem fitZ_adj (cs : List C4) (ps : List P3) (p i : Nat) : fitZ cs ps p (i : Int) = adjC cs ps i p := by
  unfold fitZ adjC
  rw [show ((i : Int)).toNat = i by omega]
  cases cs[i]? <;> rfl
theorem ofAt_selK {cs : List C4} {ps : List P3} {f : Nat → Bool} {p : Nat} : ofAt cs ps (selK f cs.length) p = true ↔ ∃ c, c < cs.length ∧ f c = true ∧ adjC cs ps c p = true := by
  unfold ofAt
  rw [List.any_eq_true]
  constructor
  · rintro ⟨z, hz, hf⟩
    obtain ⟨i, rfl, hi, hfi⟩ := mem_selK.1 hz
    exact ⟨i, hi, hfi, by rw [← fitZ_adj]; exact hf⟩
  · rintro ⟨c, hc, hfc, ha⟩
    exact ⟨c, mem_selK.2 ⟨c, rfl, hc, hfc⟩, by rw [fitZ_adj]; exact ha⟩
theorem ofB_selK {cs : List C4} {ps : List P3} {f : Nat → Bool} (h1 : carsB cs = true) (h2 : placesB ps = true) : ofB cs ps (selK f cs.length) = true := by
  simp only [ofB, h1, h2, Bool.true_and, List.all_eq_true]
  intro z hz
  obtain ⟨i, rfl, hi, _⟩ := mem_selK.1 hz
  simp [idxB]; omega
theorem ofL_cnt {cs : List C4} {ps : List P3} {f : Nat → Bool} (h1 : carsB cs = true) (h2 : placesB ps = true) : (ofL cs ps (selK f cs.length)).length = cnt (ofAt cs ps (selK f cs.length)) ps.length := by
  rw [ofL_yes (ofB_selK h1 h2), selK_cnt]
/-- So many may have a place, for a set of cars. -/
def mostF (cs : List C4) (ps : List P3) (f : Nat → Bool) : Int := cs.length - (selK f cs.length).length + (ofL cs ps (selK f cs.length)).length
theorem many_le {cs : List C4} {ps : List P3} {g : List Int} (h : giveB cs ps g = true) (f : Nat → Bool) : manyL g ≤ mostF cs ps f := by
  obtain ⟨h1, h2, h3, _⟩ := giveB_parts h
  have hb := bound (m := ps.length) (gM_val h) (fun c p => adjC_lt) f (ofAt cs ps (selK f cs.length)) fun c p hc hR ha => ofAt_selK.2 ⟨c, hc, hR, ha⟩
  have hl := cnt_le f cs.length
  unfold mostF
  rw [ofL_cnt h1 h2, selK_cnt, manyL_cnt, h3]
  omega
theorem many_places {cs : List C4} {ps : List P3} {g : List Int} (h : giveB cs ps g = true) : manyL g ≤ ps.length := by
  obtain ⟨h1, h2, h3, _⟩ := giveB_parts h
  have hb := bound (m := ps.length) (gM_val h) (fun c p => adjC_lt) (fun _ => true) (fun _ => true) fun c p _ _ _ => rfl
  rw [cnt_all, cnt_all] at hb
  rw [manyL_cnt, h3]
  omega
theorem best_max {cs : List C4} {ps : List P3} (h1 : carsB cs = true) (h2 : placesB ps = true) : ∃ f, manyL (bestAll cs ps) = mostF cs ps f := by
  have hg := bestAll_giveB h1 h2
  obtain ⟨_, _, h3, _⟩ := giveB_parts hg
  obtain ⟨R, hR⟩ := shows (m := ps.length) (gM_val hg) (fun M' hM' => by
    have hm := bestAll_many (val_giveB h1 h2 hM')
    rw [manyL_cnt, manyL_cnt, h3] at hm
    simp only [List.length_map, List.length_range] at hm
    rw [gM_map] at hm
    omega)
  refine ⟨R, Int.le_antisymm (many_le hg R) ?_⟩
  have := hR (ofAt cs ps (selK R cs.length)) fun p _ hp => ofAt_selK.1 hp
  have hl := cnt_le R cs.length
  unfold mostF
  rw [ofL_cnt h1 h2, selK_cnt, manyL_cnt, h3]
  omega
/-- Every set of cars has a number. -/
theorem set_number (f : Nat → Bool) : ∀ n, ∃ s : Nat, s < 2 ^ n ∧ ∀ k, k < n → decide (s / 2 ^ k % 2 = 1) = f k
  | 0 => ⟨0, by simp, fun k h => by omega⟩
  | n + 1 => by
    obtain ⟨s, h1, h2⟩ := set_number f n
    have hp : 0 < 2 ^ n := Nat.pow_pos (by omega)
    refine ⟨s + (if f n then 2 ^ n else 0), by rw [Nat.pow_succ]; split <;> omega, fun k hk => ?_⟩
    by_cases hkn : k = n
    · subst hkn
      cases hf : f k
      · have : s / 2 ^ k = 0 := Nat.div_eq_of_lt h1
        simp [this]
      · have : (s + 2 ^ k) / 2 ^ k = 1 := by rw [Nat.add_div_right _ hp, Nat.div_eq_of_lt h1]
        simp [this]
    · rw [← h2 k (by omega)]
      cases hf : f n
      · simp
      · obtain ⟨j, rfl⟩ : ∃ j, n = k + (j + 1) := ⟨n - k - 1, by omega⟩
        have e : s + 2 ^ (k + (j + 1)) = s + 2 ^ k * (2 * 2 ^ j) := by rw [Nat.pow_add, Nat.pow_succ, Nat.mul_comm (2 ^ j) 2]
        have : (s + 2 ^ (k + (j + 1))) / 2 ^ k % 2 = s / 2 ^ k % 2 := by
          rw [e, Nat.add_mul_div_left _ _ (Nat.pow_pos (by omega))]; omega
        simp only [if_true, this]
theorem mostF_congr {cs : List C4} {ps : List P3} {f g : Nat → Bool} (h : ∀ k, k < cs.length → f k = g k) : mostF cs ps f = mostF cs ps g := by
  unfold mostF; rw [selK_congr h]
def bitF (s k : Nat) : Bool := decide (s / 2 ^ k % 2 = 1)
theorem best_set {cs : List C4} {ps : List P3} (h1 : carsB cs = true) (h2 : placesB ps = true) : ∃ s : Nat, s < 2 ^ cs.length ∧ manyL (bestAll cs ps) = mostF cs ps (bitF s) := by
  obtain ⟨f, hf⟩ := best_max h1 h2
  obtain ⟨s, hs, hb⟩ := set_number f cs.length
  exact ⟨s, hs, by rw [hf]; exact mostF_congr fun k hk => (hb k hk).symm⟩
end Go.Proofs.YtmmaeninlhbaaaaDoor
