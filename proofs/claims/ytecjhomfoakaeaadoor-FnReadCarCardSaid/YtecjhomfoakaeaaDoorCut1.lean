/-
  l1Cut of the reference: what stands between the bytes sep of a text.
-/
import Derived.Test.YtecjhomfoakaeaaDoorInts
import Derived.Deep.AppendLies
import Derived.Deep.CutRange
namespace Go.Proofs.YtecjhomfoakaeaaDoor
open Go.ChangeShapes Go.WideShapes Go.ChangeAt Go.RowKit

def tx (l : List UInt8) : Value := .string ⟨l.toArray⟩
/-- What stands between the bytes sep. -/
def cutL (sep : UInt8) : List UInt8 → List (List UInt8)
  | [] => [[]]
  | b :: s => if b = sep then [] :: cutL sep s else match cutL sep s with
    | [] => [[b]]
    | p :: ps => (b :: p) :: ps
theorem cutL_ne (sep : UInt8) : ∀ s, cutL sep s ≠ []
  | [] => by simp [cutL]
  | b :: s => by
    unfold cutL
    split
    · simp
    · split <;> simp
theorem cutL_free {sep : UInt8} : ∀ {s : List UInt8}, (∀ b ∈ s, b ≠ sep) → cutL sep s = [s]
  | [], _ => rfl
  | b :: s, h => by
    have ih := cutL_free (s := s) fun x hx => h x (by simp [hx])
    unfold cutL
    rw [if_neg (h b (by simp)), ih]
theorem cutL_at {sep : UInt8} : ∀ {s t : List UInt8}, (∀ b ∈ s, b ≠ sep) → cutL sep (s ++ sep :: t) = s :: cutL sep t
  | [], t, _ => by simp [cutL]
  | b :: s, t, h => by
    have ih := cutL_at (s := s) (t := t) fun x hx => h x (by simp [hx])
    rw [List.cons_append, cutL, if_neg (h b (by simp)), ih]
theorem drop_mid {α : Type} (s : List α) {a k : Nat} {b : α} (h1 : a ≤ k) (hb : s[k]? = some b) : s.drop a = (s.drop a).take (k - a) ++ b :: s.drop (k + 1) := by
  have hk : k < s.length := (List.getElem?_eq_some_iff.1 hb).1
  have e1 : s.drop k = b :: s.drop (k + 1) := by
    rw [List.drop_eq_getElem_cons hk]
    congr 1
    exact (List.getElem?_eq_some_iff.1 hb).2
  have e2 : (s.drop a).drop (k - a) = s.drop k := by rw [List.drop_drop]; congr 1; omega
  rw [← e1, ← e2, List.take_append_drop]

theorem ext_list (s : List UInt8) (a k : Nat) : (⟨s.toArray⟩ : ByteArray).extract a k = ⟨((s.drop a).take (k - a)).toArray⟩ := by
  apply ByteArray.ext
  simp [List.extract_eq_take_drop]
theorem string_info : (Tryd.prog.info? 9).map (fun i => (i.zero, i.size, i.bytes)) = some (some (.string ByteArray.empty), 1, 16) := by kernel_rfl
theorem ownT0 {w1 : World} {base : Nat} (h : base ≤ w1.heap.size) : (w1.alloc (.cells #[] 9)).ownsRow base 9 1 (.slice (some ⟨w1.heap.size, 0, none⟩) 0 0) 0 [] :=
  ⟨rfl, .inr ⟨w1.heap.size, 0, #[], rfl, h, Whole.new w1 9 [], Nat.le_refl _, by unfold maxLen; omega, rfl, rfl⟩⟩
/-- One text more behind a list of the call's own. -/
theorem wpList_moreT {ops : Array Oper} {rest : List Oper} {o : Oper} {a : Act} {Q : Exit → Act → World → Prop} {base : Nat} {wr : World} (hgd : o.guard = none) (s x : Operand)
    (ho : o.op = .call { callee := .builtin .append, args := #[s, x], argTypes := #[35, 35] })
    {v : Value} {n : Nat} {vs : List Value} (hbase : base ≤ wr.heap.size) (hown : wr.ownsRow base 9 1 v n vs) (z : ByteArray) (hs : a.eval s = v)
    (hx : a.eval x = .slice (some ⟨wr.heap.size, 0, none⟩) 1 1) (hn : n ≤ 1048577)
    (h : ∀ g cap w', w'.ownsRow base 9 1 (.slice (some ⟨g, 0, none⟩) (n + 1) cap) (n + 1) (vs ++ [.string z]) → Below base wr w' → wpList Tryd.prog ops Q rest (a.put o.dst (.slice (some ⟨g, 0, none⟩) (n + 1) cap)) w') :
    wpList Tryd.prog ops Q (o :: rest) a (wr.alloc (.cells #[.string z] 9)) := by
  obtain ⟨i0, hi, hz0, hz1, hz2⟩ := info_parts string_info
  refine wpList_append_lies _ hgd s x 35 ho base 9 i0 (.string ByteArray.empty) 1 16 Tryd.underlying35 hi hz0 hz1 hz2 rfl (by decide) v n _ hs (hown.alloc _) ⟨wr.heap.size, 0, none⟩ 1 1 [.string z] hx rfl (new_cells wr _ [.string z]) ?_ (by omega) (by unfold maxLen; omega) (by omega) (by simp; omega) _ rfl ?_
  · intro u hu
    simp at hu; subst hu; rfl
  intro g cap w' hown' hgrow _ _
  exact h g cap w' hown' (((Below.refl base wr).alloc hbase _).grown hgrow (by simp; omega) (fun q hq => (hown.lt q hq).1))

set_option maxHeartbeats 2000000 in
theorem l1Cut_any (s : List UInt8) (sep : UInt8) (w : World) (hl : s.length ≤ 1048576) :
    Calls Tryd.prog 15 #[.string ⟨s.toArray⟩, .int .u8 sep.toNat] w fun e w' => ∃ g n c, e = .returned (.slice (some ⟨g, 0, none⟩) n c) ∧ n = (cutL sep s).length ∧ w'.ownsRow w.heap.size 9 1 (.slice (some ⟨g, 0, none⟩) n c) n ((cutL sep s).map tx) ∧ Below w.heap.size w w' := by
  have hbs : ∀ w : World, (Instr.buildSlice 35 0 #[]).run Tryd.prog w = .ok (.slice (some ⟨w.heap.size, 0, none⟩) 0 0) (w.alloc (.cells #[] 9)) := fun _ => by kernel_rfl
  go_enter Tryd.func15, Tryd.ntmps15
  go_wp2_with fail
  clear hbs
  go_loopw [5, 6, 7] (fun v f i wr => ∃ (k a n g c : Nat) (ps : List (List UInt8)), a ≤ k ∧ k ≤ s.length ∧ i = .int .i64 k ∧ f = .int .i64 a ∧ v = .slice (some ⟨g, 0, none⟩) n c ∧ n = ps.length ∧ n ≤ k ∧ Hid (cutL sep s = ps ++ cutL sep (s.drop a)) ∧ Hid (∀ b ∈ (s.drop a).take (k - a), b ≠ sep) ∧ wr.ownsRow w.heap.size 9 1 (.slice (some ⟨g, 0, none⟩) n c) n (ps.map tx) ∧ Below w.heap.size w wr) (fun _ _ i _ => s.length - (intOf i).toNat)
  case atStart => exact ⟨0, 0, 0, _, _, [], Nat.le_refl _, Nat.zero_le _, rfl, rfl, rfl, rfl, Nat.le_refl _, Lib.hid (by simp), Lib.hid (by simp), ownT0 (Nat.le_refl _), (Below.refl _ _).alloc (Nat.le_refl _) _⟩
  case round =>
    obtain ⟨k, a, n, g, c, ps, hak, hk, rfl, rfl, rfl, hn, hnk, HC, HF, hO, hbw⟩ := hrel
    have HN := Lib.hid hn
    clear hn
    by_cases hlt : k < s.length
    · obtain ⟨b, hb⟩ : ∃ b, s[k]? = some b := ⟨_, List.getElem?_eq_getElem hlt⟩
      have HB := Lib.hid hb
      have hbt : ((b.toNat : Int) == (sep.toNat : Int)) = decide (b = sep) := by
        rw [Bool.eq_iff_iff]; simp; constructor
        · intro h; exact UInt8.toNat_inj.1 (by omega)
        · intro h; rw [h]
      have hget : s[k]'hlt = b := (List.getElem?_eq_some_iff.1 hb).2
      have hbv : ∀ (h : k < (⟨s.toArray⟩ : ByteArray).size), (⟨s.toArray⟩ : ByteArray)[k]'h = b := fun h => by
        show s.toArray[k] = b
        simpa using hget
      clear hget
      by_cases hbs : b = sep
      · have hd : decide (b = sep) = true := by simpa using hbs
        have HBS := Lib.hid hbs
        rw [hd] at hbt
        clear hbs hd hb
        go_wp2_with (at_builtin; (refine wpList_moreT (base := w.heap.size) rfl (.tmp 20) (.tmp 25) rfl hbw.size hO ((⟨s.toArray⟩ : ByteArray).extract a k) rfl rfl (by omega) ?_; intro g' c' w4 hO4 hb4))
        have hs := HBS.out
        subst hs
        refine ⟨⟨k + 1, k + 1, n + 1, g', c', ps ++ [(s.drop a).take (k - a)], Nat.le_refl _, by omega, by go_num, by go_num, rfl, by simp [HN.out], by omega, ?_, ?_, ?_, hbw.trans hb4⟩, by simp [intOf]; omega⟩
        · refine Lib.hid ?_
          have h1 := HC.out
          rw [drop_mid s hak HB.out, cutL_at HF.out] at h1
          rw [h1, List.append_assoc]; rfl
        · exact Lib.hid (by simp)
        · rw [List.map_append]
          have e : tx ((s.drop a).take (k - a)) = .string ((⟨s.toArray⟩ : ByteArray).extract a k) := by
            unfold tx; rw [ext_list]
          simp only [List.map_cons, List.map_nil]
          rw [e]; exact hO4
      · have hd : decide (b = sep) = false := by simpa using hbs
        have HBS := Lib.hid hbs
        rw [hd] at hbt
        clear hbs hd hb
        go_wp2
        go_roundw
        case rel =>
          refine ⟨k + 1, a, n, g, c, ps, by omega, by omega, by go_num, rfl, rfl, HN.out, by omega, HC, ?_, hO, hbw⟩
          refine Lib.hid fun y hy => ?_
          rw [show k + 1 - a = (k - a) + 1 by omega, List.take_add_one] at hy
          rcases List.mem_append.1 hy with hy | hy
          · exact HF.out y hy
          · rw [List.getElem?_drop, show a + (k - a) = k by omega, HB.out] at hy
            simp at hy; subst hy; exact HBS.out
        case measure => simp [intOf]; omega
    · obtain rfl : k = s.length := by omega
      go_wp2_with (at_builtin; (refine wpList_moreT (base := w.heap.size) rfl (.tmp 29) (.tmp 33) rfl hbw.size hO ((⟨s.toArray⟩ : ByteArray).extract a s.length) rfl rfl (by omega) ?_; intro g' c' w4 hO4 hb4))
      have hC := HC.out
      have hF := HF.out
      have e0 : (s.drop a).take (s.length - a) = s.drop a := List.take_of_length_le (by simp)
      rw [e0] at hF
      rw [cutL_free hF] at hC
      refine bodyPost_ret (v := .slice (some ⟨g', 0, none⟩) (n + 1) c') (by simp [results, Tryd.results15, go_sem]) rfl ⟨g', n + 1, c', rfl, by rw [hC]; simp [HN.out], ?_, hbw.trans hb4⟩
      rw [hC, List.map_append]
      have e : tx (s.drop a) = .string ((⟨s.toArray⟩ : ByteArray).extract a s.length) := by
        unfold tx; rw [ext_list, e0]
      simp only [List.map_cons, List.map_nil]
      rw [e]; exact hO4
end Go.Proofs.YtecjhomfoakaeaaDoor
