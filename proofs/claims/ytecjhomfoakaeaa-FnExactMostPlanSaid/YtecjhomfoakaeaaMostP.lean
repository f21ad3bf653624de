/-
  MostPlan in plain words: car by car and hour by hour the most that leaves enough for the others. No program is in sight here.
-/
import Derived.Test.YtecjhomfoakaeaaC4
namespace Go.Proofs.Ytecjhomfoakaeaa

/-- What is chosen: the greatest number from u down at which g holds, 0 if there is none. -/
def down (g : Nat → Bool) : Nat → Nat
  | 0 => 0
  | u + 1 => if g (u + 1) then u + 1 else down g u

theorem getD_set_self {α : Type} (xs : List α) (k : Nat) (z d : α) (h : k < xs.length) : (xs.set k z).getD k d = z := by
  simp [List.getD_eq_getElem?_getD, h]
theorem getD_set_ne {α : Type} (xs : List α) (k j : Nat) (z d : α) (h : k ≠ j) : (xs.set k z).getD j d = xs.getD j d := by
  simp [List.getD_eq_getElem?_getD, List.getElem?_set_ne h]

theorem selS_set (b : Bool) (s : Nat) (xs : List Int) (k : Nat) (z : Int) (hk : k < xs.length) : ∀ n : Nat, selS b s (xs.set k z) n = selS b s xs n + if k < n ∧ s.testBit k = b then z - xs.getD k 0 else 0
  | 0 => by simp [selS]
  | n + 1 => by
    have ih := selS_set b s xs k z hk n
    simp only [selS, ih]
    by_cases hkn : k = n
    · subst hkn
      rw [getD_set_self _ _ _ _ hk]
      by_cases hb : s.testBit k = b
      · simp [hb]; omega
      · simp [hb]
    · rw [getD_set_ne _ _ _ _ _ hkn]
      by_cases h1 : k < n
      · simp only [h1, show k < n + 1 by omega, true_and]; omega
      · have h2 : ¬ k < n + 1 := by omega
        simp [h1, h2]
theorem cutW_set (s : Nat) (ws : List Int) (rs : List (List Int)) (k : Nat) (z : Int) (r : List Int) (hk : k < ws.length) (hk2 : k < rs.length) : ∀ n : Nat, cutW s (ws.set k z) (rs.set k r) n = cutW s ws rs n +
    if k < n then min z (selS false s r r.length) - min (ws.getD k 0) (selS false s (rs.getD k []) (rs.getD k []).length) else 0
  | 0 => by simp [cutW]
  | n + 1 => by
    have ih := cutW_set s ws rs k z r hk hk2 n
    simp only [cutW, ih]
    by_cases hkn : k = n
    · subst hkn
      rw [getD_set_self _ _ _ _ hk, getD_set_self _ _ _ _ hk2]
      simp; omega
    · rw [getD_set_ne _ _ _ _ _ hkn, getD_set_ne _ _ _ _ _ hkn]
      by_cases h1 : k < n
      · simp only [h1, show k < n + 1 by omega, if_true]; omega
      · have h2 : ¬ k < n + 1 := by omega
        simp [h1, h2]

theorem selS_mod (b : Bool) (s t : Nat) (xs : List Int) : ∀ n : Nat, selS b (s ||| t) xs n + selS b (s &&& t) xs n = selS b s xs n + selS b t xs n
  | 0 => by simp [selS]
  | n + 1 => by
    have ih := selS_mod b s t xs n
    simp only [selS, Nat.testBit_or, Nat.testBit_and]
    cases s.testBit n <;> cases t.testBit n <;> cases b <;> simp <;> omega
theorem selS_mono {b : Bool} {s t : Nat} {xs : List Int} (h : small xs) (hst : ∀ j, s.testBit j = b → t.testBit j = b) : ∀ n : Nat, selS b s xs n ≤ selS b t xs n
  | 0 => by simp [selS]
  | n + 1 => by
    have ih := selS_mono h hst n
    have hg := small_get h n
    have hj := hst n
    simp only [selS]
    by_cases h1 : s.testBit n = b
    · rw [if_pos h1, if_pos (hj h1)]; omega
    · rw [if_neg h1]; split <;> omega
theorem or_out (s t : Nat) : ∀ j, (s ||| t).testBit j = false → s.testBit j = false := by
  intro j hj; rw [Nat.testBit_or] at hj; cases h : s.testBit j <;> simp_all
theorem or_out2 (s t : Nat) : ∀ j, (s ||| t).testBit j = false → t.testBit j = false := by
  intro j hj; rw [Nat.testBit_or] at hj; cases h : t.testBit j <;> simp_all
theorem cutW_sub {ws : List Int} {rs : List (List Int)} (hw : small ws) (hr : rowsSmall rs) (s t : Nat) : ∀ n : Nat, cutW (s ||| t) ws rs n + cutW (s &&& t) ws rs n ≤ cutW s ws rs n + cutW t ws rs n
  | 0 => by simp [cutW]
  | n + 1 => by
    have ih := cutW_sub hw hr s t n
    have hm := selS_mod false s t (rs.getD n []) (rs.getD n []).length
    have h1 := selS_mono (row_get hr n).1 (or_out s t) (rs.getD n []).length
    have h2 := selS_mono (row_get hr n).1 (or_out2 s t) (rs.getD n []).length
    simp only [cutW]; omega
theorem selS_or {xs : List Int} (h : small xs) (t q : Nat) : ∀ n : Nat, selS true (t ||| 2 ^ q) xs n ≤ selS true t xs n + if q < n then xs.getD q 0 else 0
  | 0 => by simp [selS]
  | n + 1 => by
    have ih := selS_or h t q n
    have hg := small_get h n
    simp only [selS, Nat.testBit_or, Nat.testBit_two_pow]
    by_cases hq : q = n
    · subst hq
      have e : (t.testBit q || decide (q = q)) = true := by simp
      rw [if_neg (Nat.lt_irrefl _)] at ih
      rw [e, if_pos rfl, if_pos (Nat.lt_succ_self _)]
      split <;> omega
    · have h1 : decide (q = n) = false := by simp [hq]
      rw [h1, Bool.or_false]
      by_cases hn : q < n
      · rw [if_pos hn] at ih; rw [if_pos (show q < n + 1 by omega)]; omega
      · rw [if_neg hn] at ih; rw [if_neg (show ¬ q < n + 1 by omega)]; omega
theorem cutW_mono {ws : List Int} {rs : List (List Int)} (hr : rowsSmall rs) {s t : Nat} (hst : ∀ j, s.testBit j = false → t.testBit j = false) : ∀ n : Nat, cutW s ws rs n ≤ cutW t ws rs n
  | 0 => by simp [cutW]
  | n + 1 => by
    have ih := cutW_mono (ws := ws) hr hst n
    have h1 := selS_mono (row_get hr n).1 hst (rs.getD n []).length
    simp only [cutW]; omega

/-- What is left at some point: what the cars want, what they can take, what the feed has, and how much is to be given. -/
structure MS where
  ws : List Int
  rs : List (List Int)
  fs : List Int
  left : Int
structure MS.ok (x : MS) (n : Nat) : Prop where
  n5 : n ≤ 5
  wl : x.ws.length = n
  rl : x.rs.length = n
  fl : x.fs.length = 6
  wsm : small x.ws
  rsm : rowsSmall x.rs
  fsm : small x.fs
  most : x.left = leastI (cutOfI x.ws x.rs x.fs) 63

def setR (rs : List (List Int)) (k h : Nat) : List (List Int) := rs.set k ((rs.getD k []).set h 0)
/-- Behind a choice of u. -/
def MS.to (x : MS) (k h : Nat) (u : Nat) : MS := ⟨x.ws.set k (x.ws.getD k 0 - u), setR x.rs k h, x.fs.set h (x.fs.getD h 0 - u), x.left - u⟩
def MS.top (x : MS) (k h : Nat) : Nat := (min (min ((x.rs.getD k []).getD h 0) (x.ws.getD k 0)) (x.fs.getD h 0)).toNat
def MS.cutU (x : MS) (k h u : Nat) : Int := leastI (cutOfI (x.to k h u).ws (x.to k h u).rs (x.to k h u).fs) 63
def MS.goal (x : MS) (k h : Nat) (u : Nat) : Bool := decide (x.left ≤ u + x.cutU k h u)
def MS.pick (x : MS) (k h : Nat) : Nat := down (x.goal k h) (x.top k h)
def MS.step (x : MS) (k h : Nat) : MS := x.to k h (x.pick k h)
def MS.run (x : MS) (k : Nat) : Nat → MS
  | 0 => x
  | h + 1 => (x.run k h).step k h
def MS.row (x : MS) (k : Nat) : List Int := (List.range 6).map fun h => (((x.run k h).pick k h : Nat) : Int)
def MS.all (x : MS) : Nat → MS
  | 0 => x
  | k + 1 => (x.all k).run k 6
def MS.plan (x : MS) (n : Nat) : List (List Int) := (List.range n).map fun k => (x.all k).row k

theorem MS.ok.row {x : MS} {n k : Nat} (h : x.ok n) (hk : k < n) : (x.rs.getD k []).length = 6 ∧ small (x.rs.getD k []) := by
  have hk2 : k < x.rs.length := by rw [h.rl]; exact hk
  rw [List.getD_eq_getElem?_getD, List.getElem?_eq_getElem hk2]
  exact h.rsm _ (List.getElem_mem hk2)
theorem MS.ok.le {x : MS} {n : Nat} (h : x.ok n) {s : Nat} (hs : s < 64) : x.left ≤ cutOfI x.ws x.rs x.fs s := by
  rw [h.most]; exact leastI_le _ 63 s (by omega)
theorem MS.ok.bd {x : MS} {n : Nat} (h : x.ok n) : 0 ≤ x.left ∧ x.left ≤ 330 := by
  rw [h.most]
  refine leastI_bd (fun k => ?_) 63
  have h1 := cutOfI_bd h.wsm h.rsm h.fsm k
  have h2 := h.n5; have h3 := h.wl; have h4 := h.fl
  omega
theorem MS.ok.top_le {x : MS} {n : Nat} (h : x.ok n) (k q : Nat) (hk : k < n) : ((x.top k q : Nat) : Int) ≤ (x.rs.getD k []).getD q 0 ∧ ((x.top k q : Nat) : Int) ≤ x.ws.getD k 0 ∧ ((x.top k q : Nat) : Int) ≤ x.fs.getD q 0 ∧
    (((x.top k q : Nat) : Int) = (x.rs.getD k []).getD q 0 ∨ ((x.top k q : Nat) : Int) = x.ws.getD k 0 ∨ ((x.top k q : Nat) : Int) = x.fs.getD q 0) := by
  have h1 := small_get (h.row hk).2 q
  have h2 := small_get h.wsm k
  have h3 := small_get h.fsm q
  unfold MS.top; omega

/-- What a set lets through by all but car k. -/
def MS.rest (x : MS) (k s : Nat) : Int := cutOfI x.ws x.rs x.fs s - min (x.ws.getD k 0) (selS false s (x.rs.getD k []) 6)
/-- What car k can take in the hours that are not in the set, but for hour q. -/
def MS.oth (x : MS) (k q s : Nat) : Int := selS false s ((x.rs.getD k []).set q 0) 6

theorem small_set {xs : List Int} (h : small xs) (k : Nat) {z : Int} (h0 : 0 ≤ z) (h1 : z ≤ 30) : small (xs.set k z) := by
  intro y hy
  rcases List.mem_or_eq_of_mem_set hy with hy | rfl
  · exact h y hy
  · exact ⟨h0, h1⟩
theorem MS.ok.oth_eq {x : MS} {n k : Nat} (h : x.ok n) (hk : k < n) {q : Nat} (hq : q < 6) (s : Nat) : selS false s (x.rs.getD k []) 6 = x.oth k q s + if s.testBit q = false then (x.rs.getD k []).getD q 0 else 0 := by
  have hr := h.row hk
  unfold MS.oth
  rw [selS_set _ _ _ _ _ (by omega)]
  by_cases hb : s.testBit q = false
  · simp only [hq, hb, and_self, if_true]; omega
  · rw [if_neg (fun h => hb h.2), if_neg hb]; omega
theorem MS.ok.cut_to {x : MS} {n k : Nat} (h : x.ok n) (hk : k < n) {q : Nat} (hq : q < 6) (u s : Nat) :
    cutOfI (x.to k q u).ws (x.to k q u).rs (x.to k q u).fs s = x.rest k s + (if s.testBit q then -(u : Int) else 0) + min (x.ws.getD k 0 - u) (x.oth k q s) := by
  have hr := h.row hk
  have hwk : k < x.ws.length := by rw [h.wl]; exact hk
  have hrk : k < x.rs.length := by rw [h.rl]; exact hk
  unfold MS.to setR cutOfI
  simp only [List.length_set]
  rw [selS_set _ _ _ _ _ (by rw [h.fl]; exact hq), cutW_set _ _ _ _ _ _ hwk hrk, if_pos hwk, List.length_set, hr.1, h.fl]
  unfold MS.rest cutOfI MS.oth
  rw [h.fl]
  simp only [hq, true_and]
  cases s.testBit q <;> simp <;> omega
theorem MS.ok.cut {x : MS} {n k : Nat} (_ : x.ok n) (s : Nat) : cutOfI x.ws x.rs x.fs s = x.rest k s + min (x.ws.getD k 0) (selS false s (x.rs.getD k []) 6) := by unfold MS.rest; omega
theorem MS.ok.rest_sub {x : MS} {n k : Nat} (h : x.ok n) (hk : k < n) (s t : Nat) : x.rest k (s ||| t) + x.rest k (s &&& t) ≤ x.rest k s + x.rest k t := by
  have hr := h.row hk
  have hwk : k < x.ws.length := by rw [h.wl]; exact hk
  have hrk : k < x.rs.length := by rw [h.rl]; exact hk
  have hz : ∀ s, x.rest k s = selS true s x.fs 6 + cutW s (x.ws.set k 0) (x.rs.set k (x.rs.getD k [])) x.ws.length := by
    intro s
    have hb := (selS_bd hr.2 false s 6).1
    rw [cutW_set _ _ _ _ _ _ hwk hrk, if_pos hwk, hr.1]
    unfold MS.rest cutOfI
    rw [h.fl]; omega
  have hrs : x.rs.set k (x.rs.getD k []) = x.rs := by
    rw [List.getD_eq_getElem?_getD, List.getElem?_eq_getElem hrk]; simp
  have h1 := selS_mod true s t x.fs 6
  have h2 := cutW_sub (small_set h.wsm k (z := 0) (by omega) (by omega)) h.rsm s t x.ws.length
  rw [hz, hz, hz, hz, hrs]; omega

theorem or_lt64 {s t : Nat} (hs : s < 64) (ht : t < 64) : s ||| t < 64 := Nat.or_lt_two_pow (n := 6) hs ht
theorem and_lt64 {s t : Nat} (hs : s < 64) : s &&& t < 64 := Nat.lt_of_le_of_lt Nat.and_le_left hs
theorem pow_lt64 {q : Nat} (hq : q < 6) : 2 ^ q < 64 := by
  have : ∀ q : Nat, q < 6 → 2 ^ q < 64 := by decide
  exact this q hq

/-- No set without hour q lets too little through at u. -/
def MS.under (x : MS) (k q u : Nat) : Prop := ∀ t, t < 64 → t.testBit q = false → x.left ≤ u + (x.rest k t + min (x.ws.getD k 0 - u) (x.oth k q t))

theorem MS.ok.under_top {x : MS} {n k : Nat} (h : x.ok n) (hk : k < n) {q : Nat} (hq : q < 6) : x.under k q (x.top k q) := by
  intro t ht hb
  obtain ⟨h1, h2, h3, h4⟩ := h.top_le k q hk
  have ho := h.oth_eq hk hq t
  rw [if_pos hb] at ho
  have hc := h.cut (k := k) t
  have hl := h.le ht
  have hr := h.row hk
  have hop := (selS_bd (small_set hr.2 q (z := 0) (by omega) (by omega)) false t 6).1
  have hop2 : 0 ≤ x.oth k q t := hop
  rcases h4 with h4 | h4 | h4
  · omega
  · omega
  · have hT := h.le (or_lt64 ht (pow_lt64 hq))
    have hcT := h.cut (k := k) (t ||| 2 ^ q)
    have hoT := h.oth_eq hk hq (t ||| 2 ^ q)
    have hbT : (t ||| 2 ^ q).testBit q = true := by simp [Nat.testBit_or]
    rw [if_neg (by rw [hbT]; simp)] at hoT
    have hm : x.oth k q (t ||| 2 ^ q) ≤ x.oth k q t := selS_mono (small_set hr.2 q (z := 0) (by omega) (by omega)) (or_out t (2 ^ q)) 6
    have hf := selS_or h.fsm t q 6
    rw [if_pos hq] at hf
    have hcw := cutW_mono (ws := x.ws.set k 0) h.rsm (or_out t (2 ^ q)) x.ws.length
    have hwk : k < x.ws.length := by rw [h.wl]; exact hk
    have hrk : k < x.rs.length := by rw [h.rl]; exact hk
    have hrs : x.rs.set k (x.rs.getD k []) = x.rs := by
      rw [List.getD_eq_getElem?_getD, List.getElem?_eq_getElem hrk]; simp
    have hz : ∀ s, x.rest k s = selS true s x.fs 6 + cutW s (x.ws.set k 0) x.rs x.ws.length := by
      intro s
      have hb := (selS_bd hr.2 false s 6).1
      have he := cutW_set s x.ws x.rs k 0 (x.rs.getD k []) hwk hrk x.ws.length
      rw [hrs, if_pos hwk, hr.1] at he
      unfold MS.rest cutOfI
      rw [he, h.fl]; omega
    have hz1 := hz t
    have hz2 := hz (t ||| 2 ^ q)
    omega

theorem MS.ok.lower {x : MS} {n k : Nat} (h : x.ok n) (hk : k < n) {q : Nat} (hq : q < 6) {u : Nat} (hu : x.under k q u) (htop : u ≤ x.top k q) (hg : x.goal k q u = false) : ∃ v, u = v + 1 ∧ x.under k q v := by
  have hg' : ¬ x.left ≤ u + x.cutU k q u := by simpa [MS.goal] using hg
  obtain ⟨s, hs, he⟩ := leastI_at (cutOfI (x.to k q u).ws (x.to k q u).rs (x.to k q u).fs) 63
  unfold MS.cutU at hg'
  rw [← he, h.cut_to hk hq] at hg'
  have hr := h.row hk
  obtain ⟨t1, t2, t3, -⟩ := h.top_le k q hk
  have hsm := small_set hr.2 q (z := 0) (by omega) (by omega)
  cases hb : s.testBit q
  · exfalso
    have := hu s (by omega) hb
    simp only [hb, Bool.false_eq_true, if_false] at hg'
    omega
  · simp only [hb, if_true] at hg'
    have ho := h.oth_eq hk hq s
    rw [if_neg (by rw [hb]; simp)] at ho
    have hc := h.cut (k := k) s
    have hl := h.le (show s < 64 by omega)
    cases u with
    | zero => exfalso; omega
    | succ v =>
      refine ⟨v, rfl, fun t ht htb => ?_⟩
      have hot := h.oth_eq hk hq t
      rw [if_pos htb] at hot
      have hct := h.cut (k := k) t
      have hlt := h.le ht
      have hsub := h.rest_sub hk s t
      have hlo := h.le (or_lt64 (show s < 64 by omega) ht)
      have hla := h.le (and_lt64 (s := s) (t := t) (by omega))
      have hco := h.cut (k := k) (s ||| t)
      have hca := h.cut (k := k) (s &&& t)
      have hoo := h.oth_eq hk hq (s ||| t)
      rw [if_neg (by rw [Nat.testBit_or, hb]; simp)] at hoo
      have hm : x.oth k q (s ||| t) ≤ x.oth k q t := selS_mono hsm (or_out2 s t) 6
      omega

theorem down_le (g : Nat → Bool) : ∀ u, down g u ≤ u
  | 0 => Nat.le_refl _
  | u + 1 => by
    have := down_le g u
    unfold down; split <;> omega
theorem down_yes {g : Nat → Bool} {u : Nat} (h : g u = true) : down g u = u := by
  cases u with
  | zero => rfl
  | succ u => unfold down; rw [if_pos h]
theorem down_no {g : Nat → Bool} {u : Nat} (h : g (u + 1) = false) : down g (u + 1) = down g u := by
  rw [down, if_neg (by simp [h])]
theorem MS.ok.down_goal {x : MS} {n k : Nat} (h : x.ok n) (hk : k < n) {q : Nat} (hq : q < 6) : ∀ u, x.under k q u → u ≤ x.top k q → x.goal k q (down (x.goal k q) u) = true
  | 0, hu, ht => by
    cases hg : x.goal k q 0
    · obtain ⟨v, hv, _⟩ := h.lower hk hq hu ht hg; omega
    · exact hg
  | u + 1, hu, ht => by
    cases hg : x.goal k q (u + 1)
    · obtain ⟨v, hv, hv2⟩ := h.lower hk hq hu ht hg
      obtain rfl : u = v := by omega
      rw [down_no hg]; exact h.down_goal hk hq u hv2 (by omega)
    · rw [down_yes hg]; exact hg
theorem MS.ok.pick_goal {x : MS} {n k : Nat} (h : x.ok n) (hk : k < n) {q : Nat} (hq : q < 6) : x.goal k q (x.pick k q) = true := h.down_goal hk hq _ (h.under_top hk hq) (Nat.le_refl _)
theorem MS.pick_le (x : MS) (k q : Nat) : x.pick k q ≤ x.top k q := down_le _ _

/-- The lists behind a choice are small, too. -/
theorem MS.ok.to_small {x : MS} {n k : Nat} (h : x.ok n) (hk : k < n) {q : Nat} {u : Nat} (hu : u ≤ x.top k q) : small (x.to k q u).ws ∧ rowsSmall (x.to k q u).rs ∧ small (x.to k q u).fs := by
  obtain ⟨h1, h2, h3, -⟩ := h.top_le k q hk
  have g1 := small_get h.wsm k
  have g2 := small_get h.fsm q
  have hr := h.row hk
  refine ⟨small_set h.wsm k (by omega) (by omega), ?_, small_set h.fsm q (by omega) (by omega)⟩
  intro r hm
  rcases List.mem_or_eq_of_mem_set hm with hm | rfl
  · exact h.rsm r hm
  · exact ⟨by rw [List.length_set]; exact hr.1, small_set hr.2 q (by omega) (by omega)⟩
theorem MS.ok.step {x : MS} {n k : Nat} (h : x.ok n) (hk : k < n) {q : Nat} (hq : q < 6) : (x.step k q).ok n := by
  have hp := x.pick_le k q
  obtain ⟨h1, h2, h3⟩ := h.to_small hk hp
  have hg := h.pick_goal hk hq
  refine ⟨h.n5, by simp [MS.step, MS.to, h.wl], by simp [MS.step, MS.to, setR, h.rl], by simp [MS.step, MS.to, h.fl], h1, h2, h3, ?_⟩
  unfold MS.step
  have hg' : x.left ≤ x.pick k q + x.cutU k q (x.pick k q) := by simpa [MS.goal] using hg
  show x.left - (x.pick k q : Int) = x.cutU k q (x.pick k q)
  obtain ⟨s, hs, he⟩ := leastI_at (cutOfI x.ws x.rs x.fs) 63
  have hle : x.cutU k q (x.pick k q) ≤ cutOfI (x.to k q (x.pick k q)).ws (x.to k q (x.pick k q)).rs (x.to k q (x.pick k q)).fs s := leastI_le _ 63 s hs
  rw [h.cut_to hk hq] at hle
  have hm := h.most
  have hc := h.cut (k := k) s
  have ho := h.oth_eq hk hq s
  obtain ⟨t1, t2, t3, -⟩ := h.top_le k q hk
  generalize x.pick k q = u at *
  cases hb : s.testBit q
  · rw [if_pos hb] at ho
    simp only [hb, Bool.false_eq_true, if_false] at hle
    omega
  · rw [if_neg (by rw [hb]; simp)] at ho
    simp only [hb, if_true] at hle
    omega
theorem MS.ok.run {x : MS} {n k : Nat} (h : x.ok n) (hk : k < n) : ∀ q, q ≤ 6 → (x.run k q).ok n
  | 0, _ => h
  | q + 1, hq => (h.run hk q (by omega)).step hk (by omega)
theorem MS.ok.all {x : MS} {n : Nat} (h : x.ok n) : ∀ k, k ≤ n → (x.all k).ok n
  | 0, _ => h
  | k + 1, hk => (h.all k (by omega)).run (by omega) 6 (Nat.le_refl _)

/-- Where MostPlan begins. -/
def MS.start (ns : List N4) (feed : List Int) : MS := ⟨wants ns, rates ns, feed, mostI ns feed⟩
theorem start_ok {ns : List N4} {feed : List Int} (hN : needsB ns = true) (hF : feedB feed = true) : (MS.start ns feed).ok ns.length :=
  ⟨(needsB_ok hN).1, by simp [MS.start, wants], by simp [MS.start, rates], (feedB_small hF).1, wants_small hN, rates_small hN, (feedB_small hF).2, rfl⟩
/-- MostPlan as it is answered. -/
def planR (ns : List N4) (feed : List Int) : List (List Int) := if needsB ns && feedB feed then (MS.start ns feed).plan ns.length else []
theorem planR_yes {ns : List N4} {feed : List Int} (hN : needsB ns = true) (hF : feedB feed = true) : planR ns feed = (MS.start ns feed).plan ns.length := by unfold planR; rw [hN, hF]; rfl
theorem planR_no {ns : List N4} {feed : List Int} (h : needsB ns = false ∨ feedB feed = false) : planR ns feed = [] := by
  unfold planR; rcases h with h | h <;> simp [h]
theorem plan_len (x : MS) (n : Nat) : (x.plan n).length = n := by simp [MS.plan]
theorem row_len (x : MS) (k : Nat) : (x.row k).length = 6 := by simp [MS.row]
end Go.Proofs.Ytecjhomfoakaeaa
