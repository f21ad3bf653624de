/-
  The library's insertion sort and stable sort of at most six numbers, with the comparison of CarsDown.
-/
import Derived.Test.YtmmaeninlhbaaaaDoorSort
namespace Go.Proofs.YtmmaeninlhbaaaaDoor
open Go.ChangeShapes Go.WideShapes Go.ChangeAt Go.RowKit

theorem SlAt.belowB {w w' : World} {sz n B : Nat} {A : Option Addr} {rs : List (List Value)} (h : SlAt w sz A n rs) (hb : Below B w w') (hg : 0 < n → ∀ x, A = some x → x.block < B) : SlAt w' sz A n rs :=
  ⟨h.len, fun k r hr => by
    obtain ⟨b, off, hA, hlt, hl, hc⟩ := h.row k r hr
    exact ⟨b, off, hA, Nat.lt_of_lt_of_le hlt hb.size, hl, fun j v hv => (hb.cell (p := ⟨b, off + k * sz + j, none⟩) (show b < B from hg (by have := (List.getElem?_eq_some_iff.1 hr).1; have := h.len; omega) ⟨b, off, none⟩ hA)).trans (hc j v hv)⟩⟩
theorem own_drew {w : World} {base sz n : Nat} {e : TypeId} {v : Value} {xs : List Value} (h : w.ownsRow base e sz v n xs) : w.drew.ownsRow base e sz v n xs := h
def rowO (cs : List C4) (n i : Nat) : List Nat := if n = 0 then [] else downK cs i ++ List.range' i (n - i)
def oneCmp (kb : Nat) : Value := .func (.func 48) #[] #[.pointer (some ⟨kb, 0, none⟩)]
set_option maxRecDepth 100000 in
set_option maxHeartbeats 2000000 in
theorem insertion_any (kb : Nat) (A : Option Addr) (n c go oc B : Nat) (cs : List C4) (w : World) (hx : CarsAt w A n cs) (hcb : carsB cs = true) (hbox : w.cell? ⟨kb, 0, none⟩ = some (.slice A n c)) (hgB : 0 < n → ∀ x, A = some x → x.block < B) (hkB : kb < B) (hB : B ≤ w.heap.size)
    (hO : w.ownsRow B 3 1 (.slice (some ⟨go, 0, none⟩) n oc) n ((toI (rowO cs n 1)).map (Value.int .i64))) :
    Calls Tryd.prog 73 #[.slice (some ⟨go, 0, none⟩) n oc, .int .i64 0, .int .i64 (n : Int), .func (.func 48) #[] #[.pointer (some ⟨kb, 0, none⟩)]] w fun e w' =>
      e = .returned (.tuple #[]) ∧ w'.ownsRow B 3 1 (.slice (some ⟨go, 0, none⟩) n oc) n ((toI (downK cs n)).map (Value.int .i64)) ∧ Below B w w' := by
  have hn6 : n ≤ 6 := by rw [← CarsAt.len hx]; exact carsB_len hcb
  go_enter Tryd.func73, Tryd.ntmps73
  go_wp2
  go_loopw [8, 9] (fun vi _ wr => ∃ i : Nat, 1 ≤ i ∧ vi = .int .i64 i ∧ (0 < n → i ≤ n) ∧ wr.ownsRow B 3 1 (.slice (some ⟨go, 0, none⟩) n oc) n ((toI (rowO cs n i)).map (Value.int .i64)) ∧ Below B w wr) (fun i _ _ => n - (intOf i).toNat)
  case atStart => exact ⟨1, by omega, rfl, fun h => h, hO, Below.refl _ _⟩
  case round =>
    obtain ⟨i, hi1, rfl, hin, hOi, hbi⟩ := hrel
    clear hO
    by_cases hlt : i < n
    · have hOs : wr.ownsRow B 3 1 (.slice (some ⟨go, 0, none⟩) n oc) n ((toI (rowI n i (downK cs i) [])).map (Value.int .i64)) := by
        rw [← rowI_next hlt]; unfold rowO at hOi; rwa [if_neg (by omega)] at hOi
      have hlen : (downK cs i).length = i := downK_len (downK_is cs i)
      have HLEN := Lib.hid hlen
      clear hOi hin hlen
      go_wp2
      go_loopw [9] (fun vj wq => ∃ (l1 l2 : List Nat) (j : Nat), Ins cs i l1 l2 ∧ l1.length = j ∧ j ≤ i ∧ vj = .int .i64 j ∧ wq.ownsRow B 3 1 (.slice (some ⟨go, 0, none⟩) n oc) n ((toI (rowI n i l1 l2)).map (Value.int .i64)) ∧ Below B w wq) (fun j _ => (intOf j).toNat)
      case atStart => exact ⟨downK cs i, [], i, Ins.start cs i, HLEN.out, by omega, rfl, hOs, hbi⟩
      case round =>
        obtain ⟨l1, l2, j, hI, hl1, hji, rfl, hOj, hbj⟩ := hrel
        have HI := Lib.hid hI
        have HL1 := Lib.hid hl1
        clear hOs hbi hI hl1
        obtain ⟨w8, rfl⟩ : ∃ w8, w8 = wr := ⟨_, rfl⟩
        by_cases hj0 : j = 0
        · subst hj0
          go_upto_region 4 with fail
          refine wp_region_held_drew (S := (fun w' => w8.heap.size ≤ w'.heap.size)) (by kernel_rfl) ?_ (fun hHeld => ?_)
          · (try dsimp only); exact Nat.le_refl _
          refine wpAnyH_take (i := 0) (v := ?vq1_0) (by simp only [List.getElem?_toArray, List.getElem?_cons_zero]; rfl) (by kernel_rfl) (by kernel_rfl) (by kernel_rfl) (by exact fun _ _ _ h => h) (Or.inl ⟨by rfl, ?hq1_0⟩) hHeld ?rq1_0
          case hq1_0 => (intro w hSw; (try dsimp only at hSw); go_simp; (try with_reducible rfl))
          try simp only [put_laws]
          refine wpAnyH_take (i := 1) (v := ?vq1_1) (by simp only [List.getElem?_toArray, List.getElem?_cons_succ, List.getElem?_cons_zero]; rfl) (by kernel_rfl) (by kernel_rfl) (by kernel_rfl) (by exact fun _ _ _ h => h) (Or.inl ⟨by rfl, ?hq1_1⟩) hHeld ?rq1_1
          case hq1_1 => (intro w hSw; (try dsimp only at hSw); go_simp; (try with_reducible rfl))
          try simp only [put_laws]
          refine wpAnyH_take (i := 2) (v := ?vq1_2) (by simp only [List.getElem?_toArray, List.getElem?_cons_succ, List.getElem?_cons_zero]; rfl) (by kernel_rfl) (by kernel_rfl) (by kernel_rfl) (by exact fun _ _ _ h => h) (Or.inl ⟨by rfl, ?hq1_2⟩) hHeld ?rq1_2
          case hq1_2 => (intro w hSw; (try dsimp only at hSw); go_simp; (try with_reducible rfl))
          try simp only [put_laws]
          refine wpAnyH_take (i := 3) (v := ?vq1_3) (by simp only [List.getElem?_toArray, List.getElem?_cons_succ, List.getElem?_cons_zero]; rfl) (by kernel_rfl) (by kernel_rfl) (by kernel_rfl) (by exact fun _ _ _ h => h) (Or.inl ⟨by rfl, ?hq1_3⟩) hHeld ?rq1_3
          case hq1_3 => (intro w hSw; (try dsimp only at hSw); go_simp; (try with_reducible rfl))
          try simp only [put_laws]
          refine wpAnyH_take (i := 4) (v := undef) (by simp only [List.getElem?_toArray, List.getElem?_cons_succ, List.getElem?_cons_zero]; rfl) (by kernel_rfl) (by kernel_rfl) (by kernel_rfl) (by exact fun _ _ _ h => h) (Or.inr ⟨by rfl, rfl⟩) hHeld ?_
          try simp only [put_laws]
          refine wpAnyH_take (i := 5) (v := undef) (by simp only [List.getElem?_toArray, List.getElem?_cons_succ, List.getElem?_cons_zero]; rfl) (by kernel_rfl) (by kernel_rfl) (by kernel_rfl) (by exact fun _ _ _ h => h) (Or.inr ⟨by rfl, rfl⟩) hHeld ?_
          try simp only [put_laws]
          refine wpAnyH_take (i := 6) (v := undef) (by simp only [List.getElem?_toArray, List.getElem?_cons_succ, List.getElem?_cons_zero]; rfl) (by kernel_rfl) (by kernel_rfl) (by kernel_rfl) (by exact fun _ _ _ h => h) (Or.inr ⟨by rfl, rfl⟩) hHeld ?_
          try simp only [put_laws]
          refine wpAnyH_take (i := 7) (v := undef) (by simp only [List.getElem?_toArray, List.getElem?_cons_succ, List.getElem?_cons_zero]; rfl) (by kernel_rfl) (by kernel_rfl) (by kernel_rfl) (by exact fun _ _ _ h => h) (Or.inr ⟨by rfl, rfl⟩) hHeld ?_
          try simp only [put_laws]
          refine wpAnyH_take (i := 8) (v := undef) (by simp only [List.getElem?_toArray, List.getElem?_cons_succ, List.getElem?_cons_zero]; rfl) (by kernel_rfl) (by kernel_rfl) (by kernel_rfl) (by exact fun _ _ _ h => h) (Or.inr ⟨by rfl, rfl⟩) hHeld ?_
          try simp only [put_laws]
          refine wpAnyH_take (i := 9) (v := undef) (by simp only [List.getElem?_toArray, List.getElem?_cons_succ, List.getElem?_cons_zero]; rfl) (by kernel_rfl) (by kernel_rfl) (by kernel_rfl) (by exact fun _ _ _ h => h) (Or.inr ⟨by rfl, rfl⟩) hHeld ?_
          try simp only [put_laws]
          refine wpAnyH_take (i := 10) (v := undef) (by simp only [List.getElem?_toArray, List.getElem?_cons_succ, List.getElem?_cons_zero]; rfl) (by kernel_rfl) (by kernel_rfl) (by kernel_rfl) (by exact fun _ _ _ h => h) (Or.inr ⟨by rfl, rfl⟩) hHeld ?_
          try simp only [put_laws]
          refine wpAnyH_take (i := 11) (v := undef) (by simp only [List.getElem?_toArray, List.getElem?_cons_succ, List.getElem?_cons_zero]; rfl) (by kernel_rfl) (by kernel_rfl) (by kernel_rfl) (by exact fun _ _ _ h => h) (Or.inr ⟨by rfl, rfl⟩) hHeld ?_
          try simp only [put_laws]
          refine wpAnyH_take (i := 12) (v := undef) (by simp only [List.getElem?_toArray, List.getElem?_cons_succ, List.getElem?_cons_zero]; rfl) (by kernel_rfl) (by kernel_rfl) (by kernel_rfl) (by exact fun _ _ _ h => h) (Or.inr ⟨by rfl, rfl⟩) hHeld ?_
          try simp only [put_laws]
          refine wpAnyH_take (i := 13) (v := undef) (by simp only [List.getElem?_toArray, List.getElem?_cons_succ, List.getElem?_cons_zero]; rfl) (by kernel_rfl) (by kernel_rfl) (by kernel_rfl) (by exact fun _ _ _ h => h) (Or.inr ⟨by rfl, rfl⟩) hHeld ?_
          try simp only [put_laws]
          refine wpAnyH_take (i := 14) (v := undef) (by simp only [List.getElem?_toArray, List.getElem?_cons_succ, List.getElem?_cons_zero]; rfl) (by kernel_rfl) (by kernel_rfl) (by kernel_rfl) (by exact fun _ _ _ h => h) (Or.inr ⟨by rfl, rfl⟩) hHeld ?_
          try simp only [put_laws]
          refine wpAnyH_take (i := 15) (v := undef) (by simp only [List.getElem?_toArray, List.getElem?_cons_succ, List.getElem?_cons_zero]; rfl) (by kernel_rfl) (by kernel_rfl) (by kernel_rfl) (by exact fun _ _ _ h => h) (Or.inr ⟨by rfl, rfl⟩) hHeld ?_
          try simp only [put_laws]
          refine wpAnyH_take (i := 16) (v := ?vq1_16) (by simp only [List.getElem?_toArray, List.getElem?_cons_succ, List.getElem?_cons_zero]; rfl) (by kernel_rfl) (by kernel_rfl) (by kernel_rfl) (by exact fun _ _ _ h => h) (Or.inl ⟨by rfl, ?hq1_16⟩) hHeld ?rq1_16
          case hq1_16 => (intro w hSw; (try dsimp only at hSw); go_simp; (try with_reducible rfl))
          try simp only [put_laws]
          refine wpAnyH_done (by kernel_rfl) ?_ _
          clear hHeld
          go_wp2
          go_roundw
          case rel =>
            have hnil : l1 = [] := List.length_eq_zero_iff.1 HL1.out
            refine ⟨i + 1, by omega, by go_num, fun _ => by omega, ?_, hbj.drew⟩
            unfold rowO
            rw [if_neg (by omega), ← rowI_done (HI.out.done (.inl hnil))]
            exact hOj
          case measure => simp [intOf]; omega
        · obtain ⟨p, rfl⟩ : ∃ p, j = p + 1 := ⟨j - 1, by omega⟩
          obtain ⟨l, y, hl⟩ : ∃ l y, l1 = l ++ [y] := by
            have hne : l1 ≠ [] := fun e => by have := HL1.out; rw [e] at this; simp at this
            exact ⟨l1.dropLast, l1.getLast hne, (List.dropLast_concat_getLast hne).symm⟩
          subst hl
          have hlp : l.length = p := by have := HL1.out; simpa using this
          have hyi : y < i := HI.out.lt (by simp)
          have hrow1 : (rowI n i (l ++ [y]) l2)[p + 1]? = some i := by have h := rowI_here (n := n) (i := i) (l1 := l ++ [y]) (l2 := l2); rwa [HL1.out] at h
          have hrow0 : (rowI n i (l ++ [y]) l2)[p]? = some y := by have h := rowI_last (n := n) (i := i) (y := y) (l := l) (l2 := l2); rwa [hlp] at h
          obtain ⟨z1, b1, o1, HZ1, he1, hgo, q1⟩ := (OwnAt.farInts hOj).ints.get (show p + 1 < n by omega)
          injection he1 with he1; injection he1 with e1 e2; subst e1; subst e2
          obtain ⟨z0, b0, o0, HZ0, he0, -, q0⟩ := (OwnAt.farInts hOj).ints.get (show p < n by omega)
          injection he0 with he0; injection he0 with e1 e2; subst e1; subst e2
          obtain rfl : z1 = (i : Int) := by have := HZ1.out; rw [toI_get hrow1] at this; injection this with this; exact this.symm
          obtain rfl : z0 = (y : Int) := by have := HZ0.out; rw [toI_get hrow0] at this; injection this with this; exact this.symm
          simp only [Nat.zero_add] at q1 q0
          have HLP := Lib.hid hlp
          clear hrow1 hrow0 HZ1 HZ0 hlp
          have hgo2 : B ≤ go := (OwnAt.farInts hOj).far _ rfl
          have hcx : CarsAt w8 A n cs := SlAt.belowB hx hbj hgB
          have hbx : w8.cell? ⟨kb, 0, none⟩ = some (.slice A n c) := (hbj.cell (p := ⟨kb, 0, none⟩) hkB).trans hbox
          have hp1 : (p : Int) + 1 < (n : Int) := by omega
          have hp2 : (p : Int) < (n : Int) := by omega
          have hp3 : (0 : Int) < (p : Int) + 1 := by omega
          have hp4 : (0 : Int) ≤ (p : Int) + 1 := by omega
          have hp5 : (0 : Int) ≤ (p : Int) := by omega
          have hpw : IntKind.i64.wrap ((p : Int) + 1 - 1) = (p : Int) := by rw [IntWalk.i64_in _ (by omega)]; omega
          have hpw2 : IntKind.i64.wrap (p : Int) = (p : Int) := IntWalk.i64_in _ (by omega)
          have hpn : ((p : Int) + 1).toNat = p + 1 := by omega
          obtain ⟨D, HD⟩ : ∃ D : Int, Hid (szAt cs y - szAt cs i = D) := ⟨_, rfl⟩
          go_upto_region 4 with fail
          refine wp_region_held_drew (S := (fun w' => w'.cell? ⟨go, p + 1, none⟩ = some (.int .i64 (i : Int)) ∧ w'.cell? ⟨go, p, none⟩ = some (.int .i64 (y : Int)))) (by kernel_rfl) ?_ (fun hHeld => ?_)
          · (try dsimp only); first | exact ⟨q1, q0⟩ | exact ⟨(hb9.cell (p := ⟨go, p + 1, none⟩) hgo).trans q1, (hb9.cell (p := ⟨go, p, none⟩) hgo).trans q0⟩
          refine wpAnyH_take (i := 0) (v := ?vq2_0) (by simp only [List.getElem?_toArray, List.getElem?_cons_zero]; rfl) (by kernel_rfl) (by kernel_rfl) (by kernel_rfl) (by exact fun _ _ _ h => h) (Or.inl ⟨by rfl, ?hq2_0⟩) hHeld ?rq2_0
          case hq2_0 => (intro w hSw; (try dsimp only at hSw); go_simp; (try with_reducible rfl))
          try simp only [put_laws]
          refine wpAnyH_take (i := 1) (v := ?vq2_1) (by simp only [List.getElem?_toArray, List.getElem?_cons_succ, List.getElem?_cons_zero]; rfl) (by kernel_rfl) (by kernel_rfl) (by kernel_rfl) (by exact fun _ _ _ h => h) (Or.inl ⟨by rfl, ?hq2_1⟩) hHeld ?rq2_1
          case hq2_1 => (intro w hSw; (try dsimp only at hSw); go_simp; (try with_reducible rfl))
          try simp only [put_laws]
          refine wpAnyH_take (i := 2) (v := ?vq2_2) (by simp only [List.getElem?_toArray, List.getElem?_cons_succ, List.getElem?_cons_zero]; rfl) (by kernel_rfl) (by kernel_rfl) (by kernel_rfl) (by exact fun _ _ _ h => h) (Or.inl ⟨by rfl, ?hq2_2⟩) hHeld ?rq2_2
          case hq2_2 => (intro w hSw; (try dsimp only at hSw); go_simp; (try with_reducible rfl))
          try simp only [put_laws]
          refine wpAnyH_take (i := 3) (v := ?vq2_3) (by simp only [List.getElem?_toArray, List.getElem?_cons_succ, List.getElem?_cons_zero]; rfl) (by kernel_rfl) (by kernel_rfl) (by kernel_rfl) (by exact fun _ _ _ h => h) (Or.inl ⟨by rfl, ?hq2_3⟩) hHeld ?rq2_3
          case hq2_3 => (intro w hSw; (try dsimp only at hSw); go_simp; (try with_reducible rfl))
          try simp only [put_laws]
          refine wpAnyH_take (i := 4) (v := ?vq2_4) (by simp only [List.getElem?_toArray, List.getElem?_cons_succ, List.getElem?_cons_zero]; rfl) (by kernel_rfl) (by kernel_rfl) (by kernel_rfl) (by exact fun _ _ _ h => h) (Or.inl ⟨by rfl, ?hq2_4⟩) hHeld ?rq2_4
          case hq2_4 => (intro w hSw; (try dsimp only at hSw); go_simp; (try with_reducible rfl))
          try simp only [put_laws]
          refine wpAnyH_take (i := 5) (v := ?vq2_5) (by simp only [List.getElem?_toArray, List.getElem?_cons_succ, List.getElem?_cons_zero]; rfl) (by kernel_rfl) (by kernel_rfl) (by kernel_rfl) (by exact fun _ _ _ h => h) (Or.inl ⟨by rfl, ?hq2_5⟩) hHeld ?rq2_5
          case hq2_5 => (intro w hSw; (try dsimp only at hSw); go_simp; (try with_reducible rfl))
          try simp only [put_laws]
          refine wpAnyH_take (i := 6) (v := ?vq2_6) (by simp only [List.getElem?_toArray, List.getElem?_cons_succ, List.getElem?_cons_zero]; rfl) (by kernel_rfl) (by kernel_rfl) (by kernel_rfl) (by exact fun _ _ _ h => h) (Or.inl ⟨by rfl, ?hq2_6⟩) hHeld ?rq2_6
          case hq2_6 => (intro w hSw; (try dsimp only at hSw); go_simp; (try with_reducible rfl))
          try simp only [put_laws]
          refine wpAnyH_take (i := 7) (v := ?vq2_7) (by simp only [List.getElem?_toArray, List.getElem?_cons_succ, List.getElem?_cons_zero]; rfl) (by kernel_rfl) (by kernel_rfl) (by kernel_rfl) (by exact fun _ _ _ h => h) (Or.inl ⟨by rfl, ?hq2_7⟩) hHeld ?rq2_7
          case hq2_7 => (intro w hSw; (try dsimp only at hSw); go_simp; (try with_reducible rfl))
          try simp only [put_laws]
          refine wpAnyH_take (i := 8) (v := ?vq2_8) (by simp only [List.getElem?_toArray, List.getElem?_cons_succ, List.getElem?_cons_zero]; rfl) (by kernel_rfl) (by kernel_rfl) (by kernel_rfl) (by exact fun _ _ _ h => h) (Or.inl ⟨by rfl, ?hq2_8⟩) hHeld ?rq2_8
          case hq2_8 => (intro w hSw; (try dsimp only at hSw); go_simp; (try with_reducible rfl))
          try simp only [put_laws]
          refine wpAnyH_take (i := 9) (v := ?vq2_9) (by simp only [List.getElem?_toArray, List.getElem?_cons_succ, List.getElem?_cons_zero]; rfl) (by kernel_rfl) (by kernel_rfl) (by kernel_rfl) (by exact fun _ _ _ h => h) (Or.inl ⟨by rfl, ?hq2_9⟩) hHeld ?rq2_9
          case hq2_9 => (intro w hSw; (try dsimp only at hSw); go_simp; (try with_reducible rfl))
          try simp only [put_laws]
          refine wpAnyH_take (i := 10) (v := ?vq2_10) (by simp only [List.getElem?_toArray, List.getElem?_cons_succ, List.getElem?_cons_zero]; rfl) (by kernel_rfl) (by kernel_rfl) (by kernel_rfl) (by exact fun _ _ _ h => h) (Or.inl ⟨by rfl, ?hq2_10⟩) hHeld ?rq2_10
          case hq2_10 => (intro w hSw; (try dsimp only at hSw); go_simp; (try with_reducible rfl))
          try simp only [put_laws]
          refine wpAnyH_take (i := 11) (v := ?vq2_11) (by simp only [List.getElem?_toArray, List.getElem?_cons_succ, List.getElem?_cons_zero]; rfl) (by kernel_rfl) (by kernel_rfl) (by kernel_rfl) (by exact fun _ _ _ h => h) (Or.inl ⟨by rfl, ?hq2_11⟩) hHeld ?rq2_11
          case hq2_11 => (intro w hSw; (try dsimp only at hSw); go_simp; (try with_reducible rfl))
          try simp only [put_laws]
          refine wpAnyH_take (i := 12) (v := ?vq2_12) (by simp only [List.getElem?_toArray, List.getElem?_cons_succ, List.getElem?_cons_zero]; rfl) (by kernel_rfl) (by kernel_rfl) (by kernel_rfl) (by exact fun _ _ _ h => h) (Or.inl ⟨by rfl, ?hq2_12⟩) hHeld ?rq2_12
          case hq2_12 => (intro w hSw; (try dsimp only at hSw); go_simp; (try with_reducible rfl))
          try simp only [put_laws]
          refine wpAnyH_take (i := 13) (v := ?vq2_13) (by simp only [List.getElem?_toArray, List.getElem?_cons_succ, List.getElem?_cons_zero]; rfl) (by kernel_rfl) (by kernel_rfl) (by kernel_rfl) (by exact fun _ _ _ h => h) (Or.inl ⟨by rfl, ?hq2_13⟩) hHeld ?rq2_13
          case hq2_13 => (intro w hSw; (try dsimp only at hSw); go_simp; (try with_reducible rfl))
          try simp only [put_laws]
          refine wpAnyH_ready (rs := [14]) (by kernel_rfl) (by simp) ?_
          refine AllReadyH.cons (by simp only [List.getElem?_toArray, List.getElem?_cons_succ, List.getElem?_cons_zero]; rfl) (fun K hK => ?_) AllReadyH.nil
          go_simp
          refine (cmp_any kb A n c cs _ i y (hcx.below (Below.refl _ _).drew) hcb hbx (by omega) (by omega)).mono ?_; rintro e w9 ⟨rfl, hb9⟩; rw [HD.out]
          refine hK.out _ _ ?_ (fun hHeld => ?_)
          · (try dsimp only); first | exact ⟨q1, q0⟩ | exact ⟨(hb9.cell (p := ⟨go, p + 1, none⟩) hgo).trans q1, (hb9.cell (p := ⟨go, p, none⟩) hgo).trans q0⟩
          clear hK K
          try simp only [put_laws]
          refine wpAnyH_take (i := 15) (v := ?vq2_15) (by simp only [List.getElem?_toArray, List.getElem?_cons_succ, List.getElem?_cons_zero]; rfl) (by kernel_rfl) (by kernel_rfl) (by kernel_rfl) (by exact fun _ _ _ h => h) (Or.inl ⟨by rfl, ?hq2_15⟩) hHeld ?rq2_15
          case hq2_15 => (intro w hSw; (try dsimp only at hSw); go_simp; (try with_reducible rfl))
          try simp only [put_laws]
          refine wpAnyH_take (i := 16) (v := ?vq2_16) (by simp only [List.getElem?_toArray, List.getElem?_cons_succ, List.getElem?_cons_zero]; rfl) (by kernel_rfl) (by kernel_rfl) (by kernel_rfl) (by exact fun _ _ _ h => h) (Or.inl ⟨by rfl, ?hq2_16⟩) hHeld ?rq2_16
          case hq2_16 => (intro w hSw; (try dsimp only at hSw); go_simp; (try with_reducible rfl))
          try simp only [put_laws]
          refine wpAnyH_done (by kernel_rfl) ?_ _
          have hb89 : Below w8.heap.size w8 w9 := ((Below.refl w8.heap.size w8).drew).trans (hb9.mono (Nat.le_refl _))
          have hO9 := own_keep hOj hb89
          have hB9 : Below B w w9 := hbj.trans (hb89.mono (Nat.le_trans hB hbj.size))
          have r1 : w9.cell? ⟨go, p + 1, none⟩ = some (.int .i64 (i : Int)) := (hb9.cell (p := ⟨go, p + 1, none⟩) hgo).trans q1
          have r0 : w9.cell? ⟨go, p, none⟩ = some (.int .i64 (y : Int)) := (hb9.cell (p := ⟨go, p, none⟩) hgo).trans q0
          obtain ⟨-, f1, -, -⟩ := own_cell hO9 (show p + 1 < n by omega)
          obtain ⟨-, f0, -, -⟩ := own_cell hO9 (show p < n by omega)
          clear hHeld q1 q0 hb9 hb89 hOj hbj hcx hbx
          by_cases hah : szAt cs y < szAt cs i
          · have hd9 : decide (D < 0) = true := by have := HD.out; simp; omega
            have HAH := Lib.hid ((ahead_later hyi).2 hah)
            clear hah
            rw [hd9]
            go_upto_region 6 with fail
            go_region
            have hO10 := own_set (i := p) (own_set (i := p + 1) hO9 (y : Int)) (i : Int)
            have hB10 := ((hB9.setCell (p := ⟨go, p + 1, none⟩) hgo2 (.int .i64 (y : Int))).setCell (p := ⟨go, p, none⟩) hgo2 (.int .i64 (i : Int))).drew
            rw [toI_set, toI_set, ← HLP.out, rowI_swap] at hO10
            rw [HLP.out] at hO10
            have hO11 := own_drew hO10
            clear hO9 hB9 r1 r0 f1 f0 hO10
            generalize ((w9.setCell ⟨go, p + 1, none⟩ (.int .i64 (y : Int))).setCell ⟨go, p, none⟩ (.int .i64 (i : Int))).drew = w10 at hO11 hB10 ⊢
            go_wp2
            go_roundw
            case rel => exact ⟨l, y :: l2, p, HI.out.step HAH.out, HLP.out, by omega, rfl, hO11, hB10⟩
            case measure => simp [intOf]
          · have hd9 : decide (D < 0) = false := by have := HD.out; simp; omega
            have HAH := Lib.hid (fun h => hah ((ahead_later hyi).1 h))
            clear hah r1 r0 f1 f0
            rw [hd9]
            go_wp2
            go_roundw
            case rel =>
              refine ⟨i + 1, by omega, by go_num, fun _ => by omega, ?_, hB9⟩
              unfold rowO
              rw [if_neg (by omega), ← rowI_done (HI.out.done (.inr ⟨_, _, rfl, HAH.out⟩))]
              exact hO9
            case measure => simp [intOf]; omega
    · go_wp2
      have hfin : wr.ownsRow B 3 1 (.slice (some ⟨go, 0, none⟩) n oc) n ((toI (downK cs n)).map (Value.int .i64)) := by
       by_cases hn0 : n = 0
       · subst hn0; unfold rowO at hOi; rw [if_pos rfl] at hOi; exact hOi
       · obtain rfl : i = n := by omega
         unfold rowO at hOi
         rw [if_neg hn0, Nat.sub_self] at hOi
         simpa using hOi
      go_end0
      exact ⟨rfl, hfin, hbi⟩

set_option maxRecDepth 100000 in
set_option maxHeartbeats 2000000 in
theorem stable_any (kb : Nat) (A : Option Addr) (n c go oc B : Nat) (cs : List C4) (w : World) (hx : CarsAt w A n cs) (hcb : carsB cs = true) (hbox : w.cell? ⟨kb, 0, none⟩ = some (.slice A n c)) (hgB : 0 < n → ∀ x, A = some x → x.block < B) (hkB : kb < B) (hB : B ≤ w.heap.size)
    (hO : w.ownsRow B 3 1 (.slice (some ⟨go, 0, none⟩) n oc) n ((toI (rowO cs n 1)).map (Value.int .i64))) :
    Calls Tryd.prog 68 #[.slice (some ⟨go, 0, none⟩) n oc, .int .i64 (n : Int), .func (.func 48) #[] #[.pointer (some ⟨kb, 0, none⟩)]] w fun e w' =>
      e = .returned (.tuple #[]) ∧ w'.ownsRow B 3 1 (.slice (some ⟨go, 0, none⟩) n oc) n ((toI (downK cs n)).map (Value.int .i64)) ∧ Below B w w' := by
  have hn6 : n ≤ 6 := by rw [← CarsAt.len hx]; exact carsB_len hcb
  have hd1 : decide ((20 : Int) ≤ (n : Int)) = false := by simp; omega
  have hd2 : decide ((20 : Int) < (n : Int)) = false := by simp; omega
  go_enter Tryd.func68, Tryd.ntmps68
  go_wp2
  go_loopw [7, 8] (fun va vb wr => va = .int .i64 0 ∧ vb = .int .i64 20 ∧ wr = w) (fun _ _ _ => 0)
  case atStart => exact ⟨rfl, rfl, rfl⟩
  case round =>
    obtain ⟨rfl, rfl, rfl⟩ := hrel
    go_wp2_with fail
    refine (insertion_any kb A n c go oc B cs _ hx hcb hbox hgB hkB hB hO).mono ?_; rintro e w1 ⟨rfl, hO1, hb1⟩
    go_wp2
    go_loopw [6, 7, 8, 9] (fun v6 _ _ _ w2 => v6 = .int .i64 20 ∧ w2.ownsRow B 3 1 (.slice (some ⟨go, 0, none⟩) n oc) n ((toI (downK cs n)).map (Value.int .i64)) ∧ Below B wr w2) (fun _ _ _ _ _ => 0)
    case atStart => exact ⟨rfl, hO1, hb1⟩
    case round =>
      obtain ⟨rfl, hO2, hb2⟩ := hrel
      clear hO1 hb1
      go_wp2
      go_end0
      exact ⟨rfl, hO2, hb2⟩
set_option maxHeartbeats 1000000 in
theorem sortStable_any (kb : Nat) (A : Option Addr) (n c go oc B : Nat) (cs : List C4) (w : World) (hx : CarsAt w A n cs) (hcb : carsB cs = true) (hbox : w.cell? ⟨kb, 0, none⟩ = some (.slice A n c)) (hgB : 0 < n → ∀ x, A = some x → x.block < B) (hkB : kb < B) (hB : B ≤ w.heap.size)
    (hO : w.ownsRow B 3 1 (.slice (some ⟨go, 0, none⟩) n oc) n ((toI (rowO cs n 1)).map (Value.int .i64))) :
    Calls Tryd.prog 47 #[.slice (some ⟨go, 0, none⟩) n oc, .func (.func 48) #[] #[.pointer (some ⟨kb, 0, none⟩)]] w fun e w' =>
      e = .returned (.tuple #[]) ∧ w'.ownsRow B 3 1 (.slice (some ⟨go, 0, none⟩) n oc) n ((toI (downK cs n)).map (Value.int .i64)) ∧ Below B w w' := by
  go_enter Tryd.func47, Tryd.ntmps47
  go_wp2_with fail
  refine (stable_any kb A n c go oc B cs _ hx hcb hbox hgB hkB hB hO).mono ?_; rintro e w1 ⟨rfl, hO1, hb1⟩
  go_wp2
  go_end0
  exact ⟨rfl, hO1, hb1⟩
end Go.Proofs.YtmmaeninlhbaaaaDoor
