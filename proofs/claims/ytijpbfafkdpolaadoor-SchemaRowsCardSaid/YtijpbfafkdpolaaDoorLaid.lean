import Derived.Test.YtijpbfafkdpolaaDoorCards
import Derived.WalkKit
import Derived.ProofKit
import Derived.OpenShut
import Derived.Lib.LaidTab
import Derived.Test.YtijpbfafkdpolaaDoorTie
import Derived.Deep.DeepHandedRow
namespace Go.Proofs.YtijpbfafkdpolaaDoor.laids
open Go.ChangeShapes Go.WideShapes Go.ChangeAt Go.RowKit

/-- Go's table of first bytes, and its sixteen ranges, as cells -/
def firstCells : Array Value := (Go.Pinned.utf8FirstZ.map fun (n : Nat) => Value.int .u8 (Int.ofNat n)).toArray
def acceptCells : Array Value := #[.int .u8 128, .int .u8 191, .int .u8 160, .int .u8 191, .int .u8 128, .int .u8 159, .int .u8 144, .int .u8 191, .int .u8 128, .int .u8 143] ++ Array.replicate 22 (.int .u8 0)
def laidOver : Obj → Array Value → Obj
  | .cells _ t frozen, cs => .cells cs t frozen
  | o, _ => o
/-- A WORLD FOR THE WITNESS: the settled one, the two tables holding what is listed -/
noncomputable def laidWorld (os : Os) : World :=
  { World.holding Tryd.prog os ⟨#[], #[], []⟩ with heap := ((World.holding Tryd.prog os ⟨#[], #[], []⟩).heap.modify 1 (laidOver · firstCells)).modify 2 (laidOver · acceptCells) }
theorem met (os : Os) (args : Array Value) : laidMet Tryd.prog Rows.stampReadsRow.laid ((laidWorld os).forCall (fun _ _ => 0) ⟨#[], args, []⟩).memory :=
  laidMet_of_run' 8 (by kernel_rfl) (by kernel_rfl)
end Go.Proofs.YtijpbfafkdpolaaDoor.laids
