/-
  A region that draws its order and ends in one and the same frame and world on every way: what follows is walked once. 'apply wp_one; case h => (the region; all_goals exact ⟨rfl, rfl, rfl⟩); case k => ..'; within a wide fence: 'wpIn_one'.
-/
import Derived.WalkKit
import Derived.OwnWalkIn
import Derived.TacticsInMore
namespace Go.Proofs.Ytkbaganbfcbioaa
open Go.RowKit
def OneWay (a9 : Act) (w9 : World) : Exit → Act → World → Prop := fun e a w => e = .normal ∧ a = a9 ∧ w = w9
theorem wp_one {P : Program} {c : Code} {Q : Exit → Act → World → Prop} {a : Act} {w : World} (a9 : Act) (w9 : World) (h : c.wp P (OneWay a9 w9) a w) (k : Q .normal a9 w9) : c.wp P Q a w :=
  wp_mono h (by rintro _ _ _ ⟨rfl, rfl, rfl⟩; exact k)
theorem wpIn_one {P : Program} {c : Code} {n : Nat} {Q : Exit → Act → World → Prop} {a : Act} {w : World} (a9 : Act) (w9 : World) (h : c.wp P (OneWay a9 w9) a w) (k : Q .normal a9 w9) : c.wpIn Fence.wide n P Q a w :=
  wpIn_wide.2 (wp_one a9 w9 h k)
end Go.Proofs.Ytkbaganbfcbioaa
