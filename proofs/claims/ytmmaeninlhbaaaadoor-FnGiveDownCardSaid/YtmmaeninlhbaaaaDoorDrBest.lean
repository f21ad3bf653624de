/-
  Cars and places drawn together.
-/
import Derived.Test.YtmmaeninlhbaaaaDoorDrCars
import Derived.Test.YtmmaeninlhbaaaaDoorDrPlaces
namespace Go.Proofs.YtmmaeninlhbaaaaDoor
open Go.ChangeShapes Go.WideShapes Go.ChangeAt Go.RowKit

def DrawB (w : World) (e : Ending) (w' : World) : Prop :=
  ∃ (g m d : Nat) (cs : List C4) (g2 m2 d2 : Nat) (ps : List P3), e = .returned (.tuple #[.slice (some ⟨g, 0, none⟩) m d, .slice (some ⟨g2, 0, none⟩) m2 d2]) ∧ OwnAt w' w.heap.size 40 4 (.slice (some ⟨g, 0, none⟩) m d) m (cc cs) ∧ m ≤ 7 ∧
    OwnAt w' w.heap.size 48 3 (.slice (some ⟨g2, 0, none⟩) m2 d2) m2 (pc ps) ∧ m2 ≤ 7 ∧ Below w.heap.size w w'
theorem OwnAt.fr1 {w w' : World} {R base sz n : Nat} {e : TypeId} {v : Value} {rs : List (List Value)} (h : OwnAt w base e sz v n rs) (hf : Fr1 R w w') (hb : R < base) : OwnAt w' base e sz v n rs := ⟨ownsRow_fr1 h.own hf hb, h.len, h.one⟩
set_option maxHeartbeats 1000000 in
theorem drawGiveBest_any (w : World) (A : Option Addr) (n c : Nat) (bs : List Int) (hn : n ≤ c ∧ c ≤ 9223372036854775807) (hb : BytesAt w A n bs) :
    Calls Tryd.prog 33 #[.slice A n c] w (DrawB w) := by
  go_enter Tryd.func33, Tryd.ntmps33
  go_wp2_with fail
  refine (open_any w A n c bs hn hb).mono ?_; rintro e w2 ⟨R, A1, n1, c1, bs1, rfl, hR2⟩
  go_wp2_with fail
  refine (l20Cars_any w w2 R A1 n1 c1 bs1 0 9 hR2 (by omega) (by omega) (by omega)).mono ?_; rintro e w3 ⟨g, m, d, cs, rfl, hO, hm, hR3, hf3⟩
  have hlt := hR2.lt
  go_wp2_with fail
  refine (l20Places_any w w3 R A1 n1 c1 bs1 (0 + 100) 9 hR3 (by omega) (by omega) (by omega)).mono ?_; rintro e w4 ⟨g2, m2, d2, ps, rfl, hP, hm2, hR4, hf4⟩
  go_wp2
  exact bodyPost_ret (v := .tuple #[.slice (some ⟨g, 0, none⟩) m d, .slice (some ⟨g2, 0, none⟩) m2 d2]) (by simp [results, Tryd.results33, go_sem]) rfl ⟨g, m, d, cs, g2, m2, d2, ps, rfl, (hO.fr1 hf4 hlt).base hR2.bw.size, hm, hP.base hR3.bw.size, hm2, hR4.bw⟩
set_option maxHeartbeats 1000000 in
theorem drawGiveMost_any (w : World) (A : Option Addr) (n c : Nat) (bs : List Int) (hn : n ≤ c ∧ c ≤ 9223372036854775807) (hb : BytesAt w A n bs) :
    Calls Tryd.prog 30 #[.slice A n c] w (DrawB w) := by
  go_enter Tryd.func30, Tryd.ntmps30
  go_wp2_with fail
  refine (drawGiveBest_any w A n c bs hn hb).mono ?_; rintro e w3 ⟨g, m, d, cs, g2, m2, d2, ps, rfl, hO, hm, hP, hm2, hB⟩
  go_wp2
  exact bodyPost_ret (v := .tuple #[.slice (some ⟨g, 0, none⟩) m d, .slice (some ⟨g2, 0, none⟩) m2 d2]) (by simp [results, Tryd.results30, go_sem]) rfl ⟨g, m, d, cs, g2, m2, d2, ps, rfl, hO, hm, hP, hm2, hB⟩
set_option maxHeartbeats 1000000 in
theorem drawGiveDown_any (w : World) (A : Option Addr) (n c : Nat) (bs : List Int) (hn : n ≤ c ∧ c ≤ 9223372036854775807) (hb : BytesAt w A n bs) :
    Calls Tryd.prog 9 #[.slice A n c] w (DrawB w) := by
  go_enter Tryd.func9, Tryd.ntmps9
  go_wp2_with fail
  refine (drawGiveBest_any w A n c bs hn hb).mono ?_; rintro e w3 ⟨g, m, d, cs, g2, m2, d2, ps, rfl, hO, hm, hP, hm2, hB⟩
  go_wp2
  exact bodyPost_ret (v := .tuple #[.slice (some ⟨g, 0, none⟩) m d, .slice (some ⟨g2, 0, none⟩) m2 d2]) (by simp [results, Tryd.results9, go_sem]) rfl ⟨g, m, d, cs, g2, m2, d2, ps, rfl, hO, hm, hP, hm2, hB⟩
end Go.Proofs.YtmmaeninlhbaaaaDoor
