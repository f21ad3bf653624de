/-
  Cars and places drawn together.
-/
import Derived.Test.YtpipbkefelcmbaaDoorDrCars
import Derived.Test.YtpipbkefelcmbaaDoorDrPlaces
namespace Go.Proofs.YtpipbkefelcmbaaDoor
open Go.ChangeShapes Go.WideShapes Go.ChangeAt Go.RowKit

def DrawB (w : World) (e : Ending) (w' : World) : Prop :=
  ∃ (g m d : Nat) (cs : List C4) (g2 m2 d2 : Nat) (ps : List P3), e = .returned (.tuple #[.slice (some ⟨g, 0, none⟩) m d, .slice (some ⟨g2, 0, none⟩) m2 d2]) ∧ OwnAt w' w.heap.size 24 4 (.slice (some ⟨g, 0, none⟩) m d) m (cc cs) ∧ m ≤ 7 ∧
    OwnAt w' w.heap.size 26 3 (.slice (some ⟨g2, 0, none⟩) m2 d2) m2 (pc ps) ∧ m2 ≤ 7 ∧ Below w.heap.size w w'
theorem OwnAt.fr1 {w w' : World} {R base sz n : Nat} {e : TypeId} {v : Value} {rs : List (List Value)} (h : OwnAt w base e sz v n rs) (hf : Fr1 R w w') (hb : R < base) : OwnAt w' base e sz v n rs := ⟨ownsRow_fr1 h.own hf hb, h.len, h.one⟩
end Go.Proofs.YtpipbkefelcmbaaDoor
