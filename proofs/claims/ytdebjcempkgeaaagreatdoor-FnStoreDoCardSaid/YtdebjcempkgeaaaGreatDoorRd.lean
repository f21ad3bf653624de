/-
  The reference's reader of a code: what it lies in, pick, odd.
-/
import Derived.Test.YtdebjcempkgeaaaGreatDoorInts
import Derived.IntWalk
import Derived.Deep.RegionHeld3
namespace Go.Proofs.YtdebjcempkgeaaaGreatDoor
open Go.ChangeShapes Go.WideShapes Go.ChangeAt Go.RowKit

def BytesAt (w : World) (A : Option Addr) (n : Nat) (bs : List Int) : Prop := SlAt w 1 A n (bs.map fun b => [.int .u8 b]) ∧ ∀ b ∈ bs, 0 ≤ b ∧ b ≤ 255
theorem BytesAt.below {w w' : World} {A : Option Addr} {n : Nat} {bs : List Int} (h : BytesAt w A n bs) (hb : Below w.heap.size w w') : BytesAt w' A n bs := ⟨SlAt.below h.1 hb, h.2⟩
theorem BytesAt.get {w : World} {A : Option Addr} {n k : Nat} {bs : List Int} (h : BytesAt w A n bs) (hk : k < n) :
    ∃ x b off, (0 ≤ x ∧ x ≤ 255) ∧ A = some ⟨b, off, none⟩ ∧ b < w.heap.size ∧ w.cell? ⟨b, off + k, none⟩ = some (.int .u8 x) := by
  have hl := h.1.len
  simp at hl
  obtain ⟨x, hx⟩ : ∃ x, bs[k]? = some x := ⟨_, List.getElem?_eq_getElem (by omega)⟩
  obtain ⟨b, off, hA, hlt, _, hc⟩ := SlAt.row h.1 k [.int .u8 x] (by simp [hx])
  exact ⟨x, b, off, h.2 x (List.mem_of_getElem? hx), hA, hlt, by simpa using hc 0 _ rfl⟩
/-- Below the heap's size all blocks but R are as they were. -/
structure Fr1 (R : Nat) (w w' : World) : Prop where
  size : w.heap.size ≤ w'.heap.size
  block : ∀ k, k < w.heap.size → k ≠ R → w'.heap[k]? = w.heap[k]?
theorem Fr1.refl (R : Nat) (w : World) : Fr1 R w w := ⟨Nat.le_refl _, fun _ _ _ => rfl⟩
theorem Fr1.trans {R : Nat} {w w1 w2 : World} (h : Fr1 R w w1) (h2 : Fr1 R w1 w2) : Fr1 R w w2 :=
  ⟨Nat.le_trans h.size h2.size, fun k hk h3 => (h2.block k (Nat.lt_of_lt_of_le hk h.size) h3).trans (h.block k hk h3)⟩
theorem Fr1.below {R : Nat} {w w1 w2 : World} (h : Fr1 R w w1) (hb : Below w1.heap.size w1 w2) : Fr1 R w w2 := h.trans ⟨hb.size, fun k hk _ => hb.block k hk⟩
theorem Fr1.set {R : Nat} {w w1 : World} (h : Fr1 R w w1) (i : Nat) (v : Value) : Fr1 R w (w1.setCell ⟨R, i, none⟩ v) :=
  h.trans ⟨by simp [World.setCell], fun k _ h1 => Below.heap_setCell w1 ⟨R, i, none⟩ v k (by simpa using h1)⟩
theorem Fr1.drewN {R : Nat} {w w1 : World} (h : Fr1 R w w1) (m : Nat) : Fr1 R w (w1.drewN m) := h.trans ⟨Nat.le_refl _, fun _ _ _ => rfl⟩
theorem Whole.fr1 {R g : Nat} {w w' : World} {e : TypeId} {cs : List Value} (h : Whole w g e cs) (hf : Fr1 R w w') (h1 : g ≠ R) : Whole w' g e cs := (hf.block g h.lt h1).trans h
theorem ownsRow_fr1 {w w' : World} {R base sz n : Nat} {e : TypeId} {v : Value} {xs : List Value} (h : w.ownsRow base e sz v n xs) (hf : Fr1 R w w') (hb : R < base) : w'.ownsRow base e sz v n xs := by
  refine ⟨h.1, ?_⟩
  rcases h.2 with h2 | ⟨g, cap, cur, h2, h3, h4, h5⟩
  · exact .inl h2
  · exact .inr ⟨g, cap, cur, h2, h3, (hf.block g (Array.getElem?_eq_some_iff.1 h4).1 (by omega)).trans h4, h5⟩
/-- The reader lies in block R; at most K bytes have been asked for. -/
structure Rd (w0 w : World) (R : Nat) (A : Option Addr) (n c : Nat) (bs : List Int) (K : Nat) : Prop where
  blk : ∃ p : Nat, p ≤ K ∧ Whole w R 54 [.slice A n c, .int .i64 (p : Int)]
  bytes : BytesAt w0 A n bs
  small : n ≤ 2000
  bR : w0.heap.size ≤ R
  bw : Below w0.heap.size w0 w
theorem Rd.more {w0 w : World} {R : Nat} {A : Option Addr} {n c : Nat} {bs : List Int} {K K' : Nat} (h : Rd w0 w R A n c bs K) (hk : K ≤ K') : Rd w0 w R A n c bs K' := by
  obtain ⟨p, h1, h2⟩ := h.blk
  exact ⟨⟨p, by omega, h2⟩, h.bytes, h.small, h.bR, h.bw⟩
theorem Rd.below {w0 w w' : World} {R : Nat} {A : Option Addr} {n c : Nat} {bs : List Int} {K : Nat} (h : Rd w0 w R A n c bs K) (hb : Below w.heap.size w w') : Rd w0 w' R A n c bs K := by
  obtain ⟨p, h1, h2⟩ := h.blk
  exact ⟨⟨p, h1, h2.below hb⟩, h.bytes, h.small, h.bR, h.bw.trans (hb.mono h.bw.size)⟩
/-- What a pick answers. -/
def PickR (w0 w : World) (R : Nat) (A : Option Addr) (n c : Nat) (bs : List Int) (K : Nat) (m : Int) (e : Ending) (w' : World) : Prop :=
  ∃ v : Int, e = .returned (.int .i64 v) ∧ 0 ≤ v ∧ (1 ≤ m → v < m) ∧ (m < 1 → v = 0) ∧ Rd w0 w' R A n c bs (K + 1) ∧ Fr1 R w w'
theorem tmod_range {x m : Int} (hx : 0 ≤ x) (hm : 1 ≤ m) : 0 ≤ x.tmod m ∧ x.tmod m < m := ⟨Int.tmod_nonneg _ hx, Int.tmod_lt_of_pos _ (by omega)⟩

theorem xor_pos (a b : Int) (ha : 0 ≤ a) (ha2 : a < 4611686018427387904) (hb : 0 ≤ b) (hb2 : b < 4611686018427387904) : 0 ≤ bits .xor .i64 a b := by
  obtain ⟨x, rfl⟩ : ∃ x : Nat, a = x := ⟨a.toNat, by omega⟩
  obtain ⟨y, rfl⟩ : ∃ y : Nat, b = y := ⟨b.toNat, by omega⟩
  have hx : x ^^^ y < 2 ^ 62 := Nat.xor_lt_two_pow (by omega) (by omega)
  have h1 : (BitVec.ofInt 64 (x : Int)).toNat = x := by
    rw [BitVec.ofInt_natCast, BitVec.toNat_ofNat]; exact Nat.mod_eq_of_lt (by omega)
  have h2 : (BitVec.ofInt 64 (y : Int)).toNat = y := by
    rw [BitVec.ofInt_natCast, BitVec.toNat_ofNat]; exact Nat.mod_eq_of_lt (by omega)
  have e : bits .xor .i64 (x : Int) (y : Int) = IntKind.i64.wrap ((BitVec.ofInt 64 (x : Int) ^^^ BitVec.ofInt 64 (y : Int)).toNat : Int) := rfl
  rw [e, BitVec.toNat_xor, h1, h2, IntWalk.i64_in _ (by omega)]
  omega
set_option maxRecDepth 100000 in
set_option maxHeartbeats 4000000 in
theorem pick_any (w0 w : World) (R : Nat) (A : Option Addr) (n c : Nat) (bs : List Int) (K : Nat) (m : Int) (h : Rd w0 w R A n c bs K) (hK : K ≤ 1000000) :
    Calls Tryz.prog 16 #[.pointer (some ⟨R, 0, none⟩), .int .i64 m] w (PickR w0 w R A n c bs K m) := by
  obtain ⟨p, hp, hW⟩ := h.blk
  have hc0 := hW.cell 0
  have hc1 := hW.cell 1
  simp only [List.getElem?_cons_zero, List.getElem?_cons_succ] at hc0 hc1
  have hf1 := hW.free 1
  have hn2 := h.small
  have hp6 : p ≤ 1000000 := by omega
  have hW2 : Whole (w.setCell ⟨R, 1, none⟩ (.int .i64 ((p : Int) + 1))) R 54 [.slice A n c, .int .i64 ((p + 1 : Nat) : Int)] := hW.set_ 1 _
  have hb2 : Below w0.heap.size w0 (w.setCell ⟨R, 1, none⟩ (.int .i64 ((p : Int) + 1))) := h.bw.setCell h.bR _
  have hR2 : Rd w0 (w.setCell ⟨R, 1, none⟩ (.int .i64 ((p : Int) + 1))) R A n c bs (K + 1) := ⟨⟨p + 1, by omega, hW2⟩, h.bytes, h.small, h.bR, hb2⟩
  have hF2 : Fr1 R w (w.setCell ⟨R, 1, none⟩ (.int .i64 ((p : Int) + 1))) := (Fr1.refl R w).set 1 _
  have HR2 := Lib.hid hR2
  have HF2 := Lib.hid hF2
  have HB := Lib.hid h.bytes
  have HB2 := Lib.hid hb2
  have HW2 := Lib.hid hW2
  clear hR2 hF2 hb2 hW2 h hW
  by_cases hm : m < 1
  · have hd : decide (m < 1) = true := by simpa using hm
    go_enter Tryz.func16, Tryz.ntmps16
    go_wp2
    go_ret
    exact ⟨0, rfl, by omega, fun h => by omega, fun _ => rfl, HR2.out, HF2.out⟩
  have hd : decide (m < 1) = false := by simpa using hm
  by_cases hn0 : n = 0
  · subst hn0
    go_enter Tryz.func16, Tryz.ntmps16
    go_wp2
    go_ret
    exact ⟨0, rfl, by omega, fun h => by omega, fun _ => rfl, HR2.out, HF2.out⟩
  have hn0' : ((n : Int) == 0) = false := by simp; omega
  have hn0'' : (n == 0) = false := by simp; omega
  by_cases hpn : p < n
  · obtain ⟨x, b, off, ⟨hx0, hx1⟩, rfl, hb, hc⟩ := HB.out.get hpn
    have hcb := (HB2.out.cell (p := ⟨b, off + p, none⟩) hb).trans hc
    have hpn1 : (p : Int) < (n : Int) := by omega
    have hp0 : (0 : Int) ≤ (p : Int) := by omega
    go_enter Tryz.func16, Tryz.ntmps16
    go_wp2
    go_ret
    have hr : 0 ≤ x % m ∧ x % m < m := ⟨Int.emod_nonneg _ (by omega), Int.emod_lt_of_pos _ (by omega)⟩
    exact ⟨x % m, rfl, hr.1, fun _ => hr.2, fun h => by omega, HR2.out, HF2.out⟩
  · have hn1 : 0 < n := by omega
    have hpn' : ¬ (p : Int) < (n : Int) := by omega
    obtain ⟨i1, hi1, he1⟩ : ∃ i1 : Nat, i1 < n ∧ Hid (p % n = i1) := ⟨_, Nat.mod_lt _ hn1, rfl⟩
    obtain ⟨i2, hi2, he2⟩ : ∃ i2 : Nat, i2 < n ∧ Hid ((p * 7 + 3) % n = i2) := ⟨_, Nat.mod_lt _ hn1, rfl⟩
    obtain ⟨q3, hq3, he3⟩ : ∃ q3 : Nat, q3 ≤ p ∧ Hid (p / n = q3) := ⟨_, Nat.div_le_self _ _, rfl⟩
    obtain ⟨x1, b, off, ⟨hx0, hx1⟩, rfl, hb, hc⟩ := HB.out.get hi1
    obtain ⟨x2, b', off', ⟨hz0, hz1⟩, hA', hb', hc'⟩ := HB.out.get hi2
    injection hA' with hA'; injection hA' with h1 h2; subst h1; subst h2
    have hcb := (HB2.out.cell (p := ⟨b, off + i1, none⟩) hb).trans hc
    have hcb' := (HB2.out.cell (p := ⟨b, off + i2, none⟩) hb).trans hc'
    obtain ⟨pp, hpp, hp0, hp6'⟩ : ∃ pp : Int, Hid ((p : Int) = pp) ∧ 0 ≤ pp ∧ pp ≤ 1000000 := ⟨_, rfl, by omega, by omega⟩
    obtain ⟨nn, hnn, hnn1, hnn2⟩ : ∃ nn : Int, Hid ((n : Int) = nn) ∧ 0 < nn ∧ nn ≤ 2000 := ⟨_, rfl, by omega, by omega⟩
    have t57 : ((p : Int)).tmod (n : Int) = (i1 : Int) := by rw [← he1.out]; rfl
    have t57b : ((p : Int)) % (n : Int) = (i1 : Int) := by rw [← he1.out]; rfl
    have t89 : ((p : Int)).tdiv (n : Int) = (q3 : Int) := by rw [← he3.out]; rfl
    have t89b : ((p : Int)) / (n : Int) = (q3 : Int) := by rw [← he3.out]; rfl
    obtain ⟨q2, hq2⟩ : ∃ q2 : Nat, Hid (p * 7 + 3 = q2) := ⟨_, rfl⟩
    have t67 : IntKind.i64.wrap ((p : Int) * 7) = (p : Int) * 7 := IntWalk.i64_in _ (by omega)
    have t68 : IntKind.i64.wrap ((p : Int) * 7 + 3) = (q2 : Int) := by rw [IntWalk.i64_in _ (by omega), ← hq2.out]; rfl
    have t74 : ((q2 : Int)).tmod (n : Int) = (i2 : Int) := by rw [← he2.out, hq2.out]; rfl
    have t74b : ((q2 : Int)) % (n : Int) = (i2 : Int) := by rw [← he2.out, hq2.out]; rfl
    have s1 : (0 : Int) ≤ (i1 : Int) := by omega
    have s2 : (i1 : Int) < (n : Int) := by omega
    have s3 : (0 : Int) ≤ (i2 : Int) := by omega
    have s4 : (i2 : Int) < (n : Int) := by omega
    have s5 : ((n : Int) == 0) = false := hn0'
    clear hc hc'
    have hc0w : (w.setCell ⟨R, 1, none⟩ (.int .i64 ((p : Int) + 1))).cell? ⟨R, 0, none⟩ = some (.slice (some ⟨b, off, none⟩) n c) := HW2.out.cell 0
    have q3b : (q3 : Int) ≤ 1000000 := by omega
    have p6b : (p : Int) ≤ 1000000 := by omega
    go_enter Tryz.func16, Tryz.ntmps16
    go_wp2
    refine wp_region_held_drew (S := (fun w' => w'.cell? ⟨R, 0, none⟩ = some (.slice (some ⟨b, off, none⟩) n c) ∧ w'.cell? ⟨b, off + i1, none⟩ = some (.int .u8 x1) ∧ w'.cell? ⟨b, off + i2, none⟩ = some (.int .u8 x2))) (by kernel_rfl) ?_ (fun hHeld => ?_)
    · (try dsimp only); exact ⟨hc0w, hcb, hcb'⟩
    refine wpAnyH_take (i := 0) (v := ?vq1_0_1) (by simp only [List.getElem?_toArray, List.getElem?_cons_zero]; rfl) (by kernel_rfl) (by kernel_rfl) (by kernel_rfl) (by exact fun _ _ _ h => h) (Or.inl ⟨by rfl, ?hq1_0_1⟩) hHeld ?rq1_0_1
    case hq1_0_1 => (intro w hSw; (try dsimp only at hSw); go_simp; (try with_reducible rfl))
    try simp only [put_laws]
    refine wpAnyH_take (i := 1) (v := ?vq1_1_2) (by simp only [List.getElem?_toArray, List.getElem?_cons_succ, List.getElem?_cons_zero]; rfl) (by kernel_rfl) (by kernel_rfl) (by kernel_rfl) (by exact fun _ _ _ h => h) (Or.inl ⟨by rfl, ?hq1_1_2⟩) hHeld ?rq1_1_2
    case hq1_1_2 => (intro w hSw; (try dsimp only at hSw); go_simp; (try with_reducible rfl))
    try simp only [put_laws]
    refine wpAnyH_take (i := 2) (v := ?vq1_2_3) (by simp only [List.getElem?_toArray, List.getElem?_cons_succ, List.getElem?_cons_zero]; rfl) (by kernel_rfl) (by kernel_rfl) (by kernel_rfl) (by exact fun _ _ _ h => h) (Or.inl ⟨by rfl, ?hq1_2_3⟩) hHeld ?rq1_2_3
    case hq1_2_3 => (intro w hSw; (try dsimp only at hSw); go_simp; (try with_reducible rfl))
    try simp only [put_laws]
    refine wpAnyH_take (i := 3) (v := ?vq1_3_4) (by simp only [List.getElem?_toArray, List.getElem?_cons_succ, List.getElem?_cons_zero]; rfl) (by kernel_rfl) (by kernel_rfl) (by kernel_rfl) (by exact fun _ _ _ h => h) (Or.inl ⟨by rfl, ?hq1_3_4⟩) hHeld ?rq1_3_4
    case hq1_3_4 => (intro w hSw; (try dsimp only at hSw); go_simp; (try with_reducible rfl))
    try simp only [put_laws]
    refine wpAnyH_take (i := 4) (v := ?vq1_4_5) (by simp only [List.getElem?_toArray, List.getElem?_cons_succ, List.getElem?_cons_zero]; rfl) (by kernel_rfl) (by kernel_rfl) (by kernel_rfl) (by exact fun _ _ _ h => h) (Or.inl ⟨by rfl, ?hq1_4_5⟩) hHeld ?rq1_4_5
    case hq1_4_5 => (intro w hSw; (try dsimp only at hSw); go_simp; (try with_reducible rfl))
    try simp only [put_laws]
    refine wpAnyH_take (i := 5) (v := ?vq1_5_6) (by simp only [List.getElem?_toArray, List.getElem?_cons_succ, List.getElem?_cons_zero]; rfl) (by kernel_rfl) (by kernel_rfl) (by kernel_rfl) (by exact fun _ _ _ h => h) (Or.inl ⟨by rfl, ?hq1_5_6⟩) hHeld ?rq1_5_6
    case hq1_5_6 => (intro w hSw; (try dsimp only at hSw); go_simp; (try with_reducible rfl))
    try simp only [put_laws]
    refine wpAnyH_take (i := 6) (v := ?vq1_6_7) (by simp only [List.getElem?_toArray, List.getElem?_cons_succ, List.getElem?_cons_zero]; rfl) (by kernel_rfl) (by kernel_rfl) (by kernel_rfl) (by exact fun _ _ _ h => h) (Or.inl ⟨by rfl, ?hq1_6_7⟩) hHeld ?rq1_6_7
    case hq1_6_7 => (intro w hSw; (try dsimp only at hSw); go_simp; (try with_reducible rfl))
    try simp only [put_laws]
    refine wpAnyH_take (i := 7) (v := ?vq1_7_8) (by simp only [List.getElem?_toArray, List.getElem?_cons_succ, List.getElem?_cons_zero]; rfl) (by kernel_rfl) (by kernel_rfl) (by kernel_rfl) (by exact fun _ _ _ h => h) (Or.inl ⟨by rfl, ?hq1_7_8⟩) hHeld ?rq1_7_8
    case hq1_7_8 => (intro w hSw; (try dsimp only at hSw); go_simp; (try with_reducible rfl))
    try simp only [put_laws]
    refine wpAnyH_take (i := 8) (v := ?vq1_8_9) (by simp only [List.getElem?_toArray, List.getElem?_cons_succ, List.getElem?_cons_zero]; rfl) (by kernel_rfl) (by kernel_rfl) (by kernel_rfl) (by exact fun _ _ _ h => h) (Or.inl ⟨by rfl, ?hq1_8_9⟩) hHeld ?rq1_8_9
    case hq1_8_9 => (intro w hSw; (try dsimp only at hSw); go_simp; (try with_reducible rfl))
    try simp only [put_laws]
    refine wpAnyH_take (i := 9) (v := ?vq1_9_10) (by simp only [List.getElem?_toArray, List.getElem?_cons_succ, List.getElem?_cons_zero]; rfl) (by kernel_rfl) (by kernel_rfl) (by kernel_rfl) (by exact fun _ _ _ h => h) (Or.inl ⟨by rfl, ?hq1_9_10⟩) hHeld ?rq1_9_10
    case hq1_9_10 => (intro w hSw; (try dsimp only at hSw); go_simp; (try with_reducible rfl))
    try simp only [put_laws]
    refine wpAnyH_take (i := 10) (v := ?vq1_10_11) (by simp only [List.getElem?_toArray, List.getElem?_cons_succ, List.getElem?_cons_zero]; rfl) (by kernel_rfl) (by kernel_rfl) (by kernel_rfl) (by exact fun _ _ _ h => h) (Or.inl ⟨by rfl, ?hq1_10_11⟩) hHeld ?rq1_10_11
    case hq1_10_11 => (intro w hSw; (try dsimp only at hSw); go_simp; (try with_reducible rfl))
    try simp only [put_laws]
    refine wpAnyH_take (i := 11) (v := ?vq1_11_12) (by simp only [List.getElem?_toArray, List.getElem?_cons_succ, List.getElem?_cons_zero]; rfl) (by kernel_rfl) (by kernel_rfl) (by kernel_rfl) (by exact fun _ _ _ h => h) (Or.inl ⟨by rfl, ?hq1_11_12⟩) hHeld ?rq1_11_12
    case hq1_11_12 => (intro w hSw; (try dsimp only at hSw); go_simp; (try with_reducible rfl))
    try simp only [put_laws]
    refine wpAnyH_take (i := 12) (v := ?vq1_12_13) (by simp only [List.getElem?_toArray, List.getElem?_cons_succ, List.getElem?_cons_zero]; rfl) (by kernel_rfl) (by kernel_rfl) (by kernel_rfl) (by exact fun _ _ _ h => h) (Or.inl ⟨by rfl, ?hq1_12_13⟩) hHeld ?rq1_12_13
    case hq1_12_13 => (intro w hSw; (try dsimp only at hSw); go_simp; (try with_reducible rfl))
    try simp only [put_laws]
    refine wpAnyH_take (i := 13) (v := ?vq1_13_14) (by simp only [List.getElem?_toArray, List.getElem?_cons_succ, List.getElem?_cons_zero]; rfl) (by kernel_rfl) (by kernel_rfl) (by kernel_rfl) (by exact fun _ _ _ h => h) (Or.inl ⟨by rfl, ?hq1_13_14⟩) hHeld ?rq1_13_14
    case hq1_13_14 => (intro w hSw; (try dsimp only at hSw); go_simp; (try with_reducible rfl))
    try simp only [put_laws]
    refine wpAnyH_take (i := 14) (v := ?vq1_14_15) (by simp only [List.getElem?_toArray, List.getElem?_cons_succ, List.getElem?_cons_zero]; rfl) (by kernel_rfl) (by kernel_rfl) (by kernel_rfl) (by exact fun _ _ _ h => h) (Or.inl ⟨by rfl, ?hq1_14_15⟩) hHeld ?rq1_14_15
    case hq1_14_15 => (intro w hSw; (try dsimp only at hSw); go_simp; (try with_reducible rfl))
    try simp only [put_laws]
    refine wpAnyH_take (i := 15) (v := ?vq1_15_16) (by simp only [List.getElem?_toArray, List.getElem?_cons_succ, List.getElem?_cons_zero]; rfl) (by kernel_rfl) (by kernel_rfl) (by kernel_rfl) (by exact fun _ _ _ h => h) (Or.inl ⟨by rfl, ?hq1_15_16⟩) hHeld ?rq1_15_16
    case hq1_15_16 => (intro w hSw; (try dsimp only at hSw); go_simp; (try with_reducible rfl))
    try simp only [put_laws]
    refine wpAnyH_take (i := 16) (v := ?vq1_16_17) (by simp only [List.getElem?_toArray, List.getElem?_cons_succ, List.getElem?_cons_zero]; rfl) (by kernel_rfl) (by kernel_rfl) (by kernel_rfl) (by exact fun _ _ _ h => h) (Or.inl ⟨by rfl, ?hq1_16_17⟩) hHeld ?rq1_16_17
    case hq1_16_17 => (intro w hSw; (try dsimp only at hSw); go_simp; (try with_reducible rfl))
    try simp only [put_laws]
    refine wpAnyH_take (i := 17) (v := ?vq1_17_18) (by simp only [List.getElem?_toArray, List.getElem?_cons_succ, List.getElem?_cons_zero]; rfl) (by kernel_rfl) (by kernel_rfl) (by kernel_rfl) (by exact fun _ _ _ h => h) (Or.inl ⟨by rfl, ?hq1_17_18⟩) hHeld ?rq1_17_18
    case hq1_17_18 => (intro w hSw; (try dsimp only at hSw); go_simp; (try with_reducible rfl))
    try simp only [put_laws]
    refine wpAnyH_take (i := 18) (v := ?vq1_18_19) (by simp only [List.getElem?_toArray, List.getElem?_cons_succ, List.getElem?_cons_zero]; rfl) (by kernel_rfl) (by kernel_rfl) (by kernel_rfl) (by exact fun _ _ _ h => h) (Or.inl ⟨by rfl, ?hq1_18_19⟩) hHeld ?rq1_18_19
    case hq1_18_19 => (intro w hSw; (try dsimp only at hSw); go_simp; (try with_reducible rfl))
    try simp only [put_laws]
    refine wpAnyH_take (i := 19) (v := ?vq1_19_20) (by simp only [List.getElem?_toArray, List.getElem?_cons_succ, List.getElem?_cons_zero]; rfl) (by kernel_rfl) (by kernel_rfl) (by kernel_rfl) (by exact fun _ _ _ h => h) (Or.inl ⟨by rfl, ?hq1_19_20⟩) hHeld ?rq1_19_20
    case hq1_19_20 => (intro w hSw; (try dsimp only at hSw); go_simp; (try with_reducible rfl))
    try simp only [put_laws]
    refine wpAnyH_take (i := 20) (v := ?vq1_20_21) (by simp only [List.getElem?_toArray, List.getElem?_cons_succ, List.getElem?_cons_zero]; rfl) (by kernel_rfl) (by kernel_rfl) (by kernel_rfl) (by exact fun _ _ _ h => h) (Or.inl ⟨by rfl, ?hq1_20_21⟩) hHeld ?rq1_20_21
    case hq1_20_21 => (intro w hSw; (try dsimp only at hSw); go_simp; (try with_reducible rfl))
    try simp only [put_laws]
    refine wpAnyH_take (i := 21) (v := ?vq1_21_22) (by simp only [List.getElem?_toArray, List.getElem?_cons_succ, List.getElem?_cons_zero]; rfl) (by kernel_rfl) (by kernel_rfl) (by kernel_rfl) (by exact fun _ _ _ h => h) (Or.inl ⟨by rfl, ?hq1_21_22⟩) hHeld ?rq1_21_22
    case hq1_21_22 => (intro w hSw; (try dsimp only at hSw); go_simp; (try with_reducible rfl))
    try simp only [put_laws]
    refine wpAnyH_take (i := 22) (v := ?vq1_22_23) (by simp only [List.getElem?_toArray, List.getElem?_cons_succ, List.getElem?_cons_zero]; rfl) (by kernel_rfl) (by kernel_rfl) (by kernel_rfl) (by exact fun _ _ _ h => h) (Or.inl ⟨by rfl, ?hq1_22_23⟩) hHeld ?rq1_22_23
    case hq1_22_23 => (intro w hSw; (try dsimp only at hSw); go_simp; (try with_reducible rfl))
    try simp only [put_laws]
    refine wpAnyH_take (i := 23) (v := ?vq1_23_24) (by simp only [List.getElem?_toArray, List.getElem?_cons_succ, List.getElem?_cons_zero]; rfl) (by kernel_rfl) (by kernel_rfl) (by kernel_rfl) (by exact fun _ _ _ h => h) (Or.inl ⟨by rfl, ?hq1_23_24⟩) hHeld ?rq1_23_24
    case hq1_23_24 => (intro w hSw; (try dsimp only at hSw); go_simp; (try with_reducible rfl))
    try simp only [put_laws]
    refine wpAnyH_take (i := 24) (v := ?vq1_24_25) (by simp only [List.getElem?_toArray, List.getElem?_cons_succ, List.getElem?_cons_zero]; rfl) (by kernel_rfl) (by kernel_rfl) (by kernel_rfl) (by exact fun _ _ _ h => h) (Or.inl ⟨by rfl, ?hq1_24_25⟩) hHeld ?rq1_24_25
    case hq1_24_25 => (intro w hSw; (try dsimp only at hSw); go_simp; (try with_reducible rfl))
    try simp only [put_laws]
    refine wpAnyH_take (i := 25) (v := ?vq1_25_26) (by simp only [List.getElem?_toArray, List.getElem?_cons_succ, List.getElem?_cons_zero]; rfl) (by kernel_rfl) (by kernel_rfl) (by kernel_rfl) (by exact fun _ _ _ h => h) (Or.inl ⟨by rfl, ?hq1_25_26⟩) hHeld ?rq1_25_26
    case hq1_25_26 => (intro w hSw; (try dsimp only at hSw); go_simp; (try with_reducible rfl))
    try simp only [put_laws]
    refine wpAnyH_take (i := 26) (v := ?vq1_26_27) (by simp only [List.getElem?_toArray, List.getElem?_cons_succ, List.getElem?_cons_zero]; rfl) (by kernel_rfl) (by kernel_rfl) (by kernel_rfl) (by exact fun _ _ _ h => h) (Or.inl ⟨by rfl, ?hq1_26_27⟩) hHeld ?rq1_26_27
    case hq1_26_27 => (intro w hSw; (try dsimp only at hSw); go_simp; (try with_reducible rfl))
    try simp only [put_laws]
    refine wpAnyH_take (i := 27) (v := ?vq1_27_28) (by simp only [List.getElem?_toArray, List.getElem?_cons_succ, List.getElem?_cons_zero]; rfl) (by kernel_rfl) (by kernel_rfl) (by kernel_rfl) (by exact fun _ _ _ h => h) (Or.inl ⟨by rfl, ?hq1_27_28⟩) hHeld ?rq1_27_28
    case hq1_27_28 => (intro w hSw; (try dsimp only at hSw); go_simp; (try with_reducible rfl))
    try simp only [put_laws]
    refine wpAnyH_take (i := 28) (v := ?vq1_28_29) (by simp only [List.getElem?_toArray, List.getElem?_cons_succ, List.getElem?_cons_zero]; rfl) (by kernel_rfl) (by kernel_rfl) (by kernel_rfl) (by exact fun _ _ _ h => h) (Or.inl ⟨by rfl, ?hq1_28_29⟩) hHeld ?rq1_28_29
    case hq1_28_29 => (intro w hSw; (try dsimp only at hSw); go_simp; (try with_reducible rfl))
    try simp only [put_laws]
    refine wpAnyH_take (i := 29) (v := ?vq1_29_30) (by simp only [List.getElem?_toArray, List.getElem?_cons_succ, List.getElem?_cons_zero]; rfl) (by kernel_rfl) (by kernel_rfl) (by kernel_rfl) (by exact fun _ _ _ h => h) (Or.inl ⟨by rfl, ?hq1_29_30⟩) hHeld ?rq1_29_30
    case hq1_29_30 => (intro w hSw; (try dsimp only at hSw); go_simp; (try with_reducible rfl))
    try simp only [put_laws]
    refine wpAnyH_take (i := 30) (v := ?vq1_30_31) (by simp only [List.getElem?_toArray, List.getElem?_cons_succ, List.getElem?_cons_zero]; rfl) (by kernel_rfl) (by kernel_rfl) (by kernel_rfl) (by exact fun _ _ _ h => h) (Or.inl ⟨by rfl, ?hq1_30_31⟩) hHeld ?rq1_30_31
    case hq1_30_31 => (intro w hSw; (try dsimp only at hSw); go_simp; (try with_reducible rfl))
    try simp only [put_laws]
    refine wpAnyH_take (i := 31) (v := ?vq1_31_32) (by simp only [List.getElem?_toArray, List.getElem?_cons_succ, List.getElem?_cons_zero]; rfl) (by kernel_rfl) (by kernel_rfl) (by kernel_rfl) (by exact fun _ _ _ h => h) (Or.inl ⟨by rfl, ?hq1_31_32⟩) hHeld ?rq1_31_32
    case hq1_31_32 => (intro w hSw; (try dsimp only at hSw); go_simp; (try with_reducible rfl))
    try simp only [put_laws]
    refine wpAnyH_take (i := 32) (v := ?vq1_32_33) (by simp only [List.getElem?_toArray, List.getElem?_cons_succ, List.getElem?_cons_zero]; rfl) (by kernel_rfl) (by kernel_rfl) (by kernel_rfl) (by exact fun _ _ _ h => h) (Or.inl ⟨by rfl, ?hq1_32_33⟩) hHeld ?rq1_32_33
    case hq1_32_33 => (intro w hSw; (try dsimp only at hSw); go_simp; (try with_reducible rfl))
    try simp only [put_laws]
    refine wpAnyH_take (i := 33) (v := ?vq1_33_34) (by simp only [List.getElem?_toArray, List.getElem?_cons_succ, List.getElem?_cons_zero]; rfl) (by kernel_rfl) (by kernel_rfl) (by kernel_rfl) (by exact fun _ _ _ h => h) (Or.inl ⟨by rfl, ?hq1_33_34⟩) hHeld ?rq1_33_34
    case hq1_33_34 => (intro w hSw; (try dsimp only at hSw); go_simp; (try with_reducible rfl))
    try simp only [put_laws]
    refine wpAnyH_take (i := 34) (v := ?vq1_34_35) (by simp only [List.getElem?_toArray, List.getElem?_cons_succ, List.getElem?_cons_zero]; rfl) (by kernel_rfl) (by kernel_rfl) (by kernel_rfl) (by exact fun _ _ _ h => h) (Or.inl ⟨by rfl, ?hq1_34_35⟩) hHeld ?rq1_34_35
    case hq1_34_35 => (intro w hSw; (try dsimp only at hSw); go_simp; (try with_reducible rfl))
    try simp only [put_laws]
    refine wpAnyH_take (i := 35) (v := ?vq1_35_36) (by simp only [List.getElem?_toArray, List.getElem?_cons_succ, List.getElem?_cons_zero]; rfl) (by kernel_rfl) (by kernel_rfl) (by kernel_rfl) (by exact fun _ _ _ h => h) (Or.inl ⟨by rfl, ?hq1_35_36⟩) hHeld ?rq1_35_36
    case hq1_35_36 => (intro w hSw; (try dsimp only at hSw); go_simp; (try with_reducible rfl))
    try simp only [put_laws]
    refine wpAnyH_take (i := 36) (v := ?vq1_36_37) (by simp only [List.getElem?_toArray, List.getElem?_cons_succ, List.getElem?_cons_zero]; rfl) (by kernel_rfl) (by kernel_rfl) (by kernel_rfl) (by exact fun _ _ _ h => h) (Or.inl ⟨by rfl, ?hq1_36_37⟩) hHeld ?rq1_36_37
    case hq1_36_37 => (intro w hSw; (try dsimp only at hSw); go_simp; (try with_reducible rfl))
    try simp only [put_laws]
    refine wpAnyH_take (i := 37) (v := ?vq1_37_38) (by simp only [List.getElem?_toArray, List.getElem?_cons_succ, List.getElem?_cons_zero]; rfl) (by kernel_rfl) (by kernel_rfl) (by kernel_rfl) (by exact fun _ _ _ h => h) (Or.inl ⟨by rfl, ?hq1_37_38⟩) hHeld ?rq1_37_38
    case hq1_37_38 => (intro w hSw; (try dsimp only at hSw); go_simp; (try with_reducible rfl))
    try simp only [put_laws]
    refine wpAnyH_take (i := 38) (v := ?vq1_38_39) (by simp only [List.getElem?_toArray, List.getElem?_cons_succ, List.getElem?_cons_zero]; rfl) (by kernel_rfl) (by kernel_rfl) (by kernel_rfl) (by exact fun _ _ _ h => h) (Or.inl ⟨by rfl, ?hq1_38_39⟩) hHeld ?rq1_38_39
    case hq1_38_39 => (intro w hSw; (try dsimp only at hSw); go_simp; (try with_reducible rfl))
    try simp only [put_laws]
    refine wpAnyH_take (i := 39) (v := ?vq1_39_40) (by simp only [List.getElem?_toArray, List.getElem?_cons_succ, List.getElem?_cons_zero]; rfl) (by kernel_rfl) (by kernel_rfl) (by kernel_rfl) (by exact fun _ _ _ h => h) (Or.inl ⟨by rfl, ?hq1_39_40⟩) hHeld ?rq1_39_40
    case hq1_39_40 => (intro w hSw; (try dsimp only at hSw); go_simp; (try with_reducible rfl))
    try simp only [put_laws]
    refine wpAnyH_take (i := 40) (v := ?vq1_40_41) (by simp only [List.getElem?_toArray, List.getElem?_cons_succ, List.getElem?_cons_zero]; rfl) (by kernel_rfl) (by kernel_rfl) (by kernel_rfl) (by exact fun _ _ _ h => h) (Or.inl ⟨by rfl, ?hq1_40_41⟩) hHeld ?rq1_40_41
    case hq1_40_41 => (intro w hSw; (try dsimp only at hSw); go_simp; (try with_reducible rfl))
    try simp only [put_laws]
    refine wpAnyH_take (i := 41) (v := ?vq1_41_42) (by simp only [List.getElem?_toArray, List.getElem?_cons_succ, List.getElem?_cons_zero]; rfl) (by kernel_rfl) (by kernel_rfl) (by kernel_rfl) (by exact fun _ _ _ h => h) (Or.inl ⟨by rfl, ?hq1_41_42⟩) hHeld ?rq1_41_42
    case hq1_41_42 => (intro w hSw; (try dsimp only at hSw); go_simp; (try with_reducible rfl))
    try simp only [put_laws]
    refine wpAnyH_take (i := 42) (v := ?vq1_42_43) (by simp only [List.getElem?_toArray, List.getElem?_cons_succ, List.getElem?_cons_zero]; rfl) (by kernel_rfl) (by kernel_rfl) (by kernel_rfl) (by exact fun _ _ _ h => h) (Or.inl ⟨by rfl, ?hq1_42_43⟩) hHeld ?rq1_42_43
    case hq1_42_43 => (intro w hSw; (try dsimp only at hSw); go_simp; (try with_reducible rfl))
    try simp only [put_laws]
    refine wpAnyH_take (i := 43) (v := ?vq1_43_44) (by simp only [List.getElem?_toArray, List.getElem?_cons_succ, List.getElem?_cons_zero]; rfl) (by kernel_rfl) (by kernel_rfl) (by kernel_rfl) (by exact fun _ _ _ h => h) (Or.inl ⟨by rfl, ?hq1_43_44⟩) hHeld ?rq1_43_44
    case hq1_43_44 => (intro w hSw; (try dsimp only at hSw); go_simp; (try with_reducible rfl))
    try simp only [put_laws]
    refine wpAnyH_take (i := 44) (v := ?vq1_44_45) (by simp only [List.getElem?_toArray, List.getElem?_cons_succ, List.getElem?_cons_zero]; rfl) (by kernel_rfl) (by kernel_rfl) (by kernel_rfl) (by exact fun _ _ _ h => h) (Or.inl ⟨by rfl, ?hq1_44_45⟩) hHeld ?rq1_44_45
    case hq1_44_45 => (intro w hSw; (try dsimp only at hSw); go_simp; (try with_reducible rfl))
    try simp only [put_laws]
    refine wpAnyH_take (i := 45) (v := ?vq1_45_46) (by simp only [List.getElem?_toArray, List.getElem?_cons_succ, List.getElem?_cons_zero]; rfl) (by kernel_rfl) (by kernel_rfl) (by kernel_rfl) (by exact fun _ _ _ h => h) (Or.inl ⟨by rfl, ?hq1_45_46⟩) hHeld ?rq1_45_46
    case hq1_45_46 => (intro w hSw; (try dsimp only at hSw); go_simp; (try with_reducible rfl))
    try simp only [put_laws]
    refine wpAnyH_done (by kernel_rfl) ?_ _
    clear t57 t57b t89 t89b t67 t68 t74 t74b
    go_wp2
    go_ret
    have hq3' : (0 : Int) ≤ (q3 : Int) := by omega
    have hp3' : (0 : Int) ≤ (p : Int) := by omega
    have hx := xor_pos (x1 * 131 + x2 * 1117 + (p : Int) * 29 + (q3 : Int) * 53) ((x1 * 131 + x2 * 1117 + (p : Int) * 29 + (q3 : Int) * 53) / 64) (by omega) (by omega) (by omega) (by omega)
    have hr := tmod_range (m := m) hx (by omega)
    exact ⟨_, rfl, hr.1, fun _ => hr.2, fun h => by omega, HR2.out.below (Below.refl _ _).drew, HF2.out.below (Below.refl _ _).drew⟩

/-- What odd answers. -/
def OddR (w0 w : World) (R : Nat) (A : Option Addr) (n c : Nat) (bs : List Int) (K : Nat) (m : Int) (e : Ending) (w' : World) : Prop :=
  ∃ v : Bool, e = .returned (.bool v) ∧ (m < 1 → v = false) ∧ Rd w0 w' R A n c bs (K + 1) ∧ Fr1 R w w'
set_option maxRecDepth 100000 in
set_option maxHeartbeats 2000000 in
theorem odd_any (w0 w : World) (R : Nat) (A : Option Addr) (n c : Nat) (bs : List Int) (K : Nat) (m : Int) (h : Rd w0 w R A n c bs K) (hK : K ≤ 1000000) (hm2 : m ≤ 1000000) (hm3 : 0 ≤ m) :
    Calls Tryz.prog 53 #[.pointer (some ⟨R, 0, none⟩), .int .i64 m] w (OddR w0 w R A n c bs K m) := by
  have HR := Lib.hid h
  by_cases hm : 0 < m
  · have hd : decide (0 < m) = true := by simpa using hm
    clear h
    go_enter Tryz.func53, Tryz.ntmps53
    go_wp2_with fail
    refine (pick_any w0 _ R A n c bs K m HR.out hK).mono ?_; rintro e w1 ⟨v, rfl, hv0, hv1, hv2, hR1, hf1⟩
    by_cases hv : v = m - 1
    · have hvb : (v == m - 1) = true := by simpa using hv
      clear hv
      go_wp2
      go_ret
      exact ⟨_, rfl, fun h => by omega, hR1, hf1⟩
    · have hvb : (v == m - 1) = false := by simpa using hv
      clear hv
      go_wp2
      go_ret
      exact ⟨_, rfl, fun h => by omega, hR1, hf1⟩
  · have hd : decide (0 < m) = false := by simpa using hm
    clear h
    go_enter Tryz.func53, Tryz.ntmps53
    go_wp2
    go_ret
    exact ⟨_, rfl, fun _ => rfl, HR.out.more (by omega), Fr1.refl _ _⟩

theorem BytesAt.take {w : World} {n k : Nat} {A : Option Addr} {bs : List Int} (h : BytesAt w A n bs) (hk : k ≤ n) : BytesAt w A k (bs.take k) := by
  refine ⟨?_, fun b hb => h.2 b (List.mem_of_mem_take hb)⟩
  have h1 := h.1
  refine ⟨by rw [List.length_map, List.length_take]; have := h1.len; simp at this; omega, fun j r hr => ?_⟩
  rw [List.map_take, List.getElem?_take] at hr
  split at hr
  · exact h1.row j r hr
  · cases hr
/-- What l20Open answers. -/
def OpenR (w : World) (e : Ending) (w' : World) : Prop := ∃ R A n c bs, e = .returned (.pointer (some ⟨R, 0, none⟩)) ∧ Rd w w' R A n c bs 0
set_option maxRecDepth 100000 in
set_option maxHeartbeats 2000000 in
theorem open_any (w : World) (A : Option Addr) (n c : Nat) (bs : List Int) (hn : n ≤ c ∧ c ≤ 9223372036854775807) (hb : BytesAt w A n bs) :
    Calls Tryz.prog 14 #[.slice A n c] w (OpenR w) := by
  obtain ⟨hnc, hcm⟩ := hn
  have HB := Lib.hid hb
  clear hb
  by_cases hbig : 2000 < n
  · have hd : decide (2000 < n) = true := by simpa using hbig
    have h1 : 2000 ≤ c := by omega
    go_enter Tryz.func14, Tryz.ntmps14
    go_wp2
    go_ret
    exact ⟨_, _, _, _, _, rfl, ⟨0, Nat.le_refl _, Whole.new w 54 [_, _]⟩, HB.out.take (by omega), Nat.le_refl _, Nat.le_refl _, (Below.refl _ _).alloc (Nat.le_refl _) _⟩
  · have hd : decide (2000 < n) = false := by simpa using hbig
    go_enter Tryz.func14, Tryz.ntmps14
    go_wp2
    go_ret
    exact ⟨_, _, _, _, _, rfl, ⟨0, Nat.le_refl _, Whole.new w 54 [_, _]⟩, HB.out, by omega, Nat.le_refl _, (Below.refl _ _).alloc (Nat.le_refl _) _⟩
end Go.Proofs.YtdebjcempkgeaaaGreatDoor
