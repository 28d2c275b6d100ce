/-
  LaidN: for ProofErrors.
-/
import Derived.Test.YtfbfbijkkbflkaaGreatDoorRows
import Derived.Test.YtfbfbijkkbflkaaGreatDoorTie
import Derived.ProofKit
import Derived.LaidMore
import Derived.OpenShut
import Derived.Stop.Joined
import Derived.Test.YtfbfbijkkbflkaaGreatDoorMba
import Derived.Test.YtfbfbijkkbflkaaGreatDoorNab
namespace Go.Proofs.YtfbfbijkkbflkaaGreatDoor
open Go Go.ChangeShapes Go.WideShapes Go.ChangeAt Go.WideMaps Go.WideElems Go.RowKit

theorem rng_u8 {n : Int} (h : (Lit.int .u8 n).wf = true) : 0 ≤ n ∧ n ≤ 255 := by simpa [Lit.wf, IntKind.min, IntKind.max, IntKind.signed, IntKind.bits] using h
end Go.Proofs.YtfbfbijkkbflkaaGreatDoor
