/- A world in which the two listed tables lie: for the witness of a tied row. -/
import Derived.Test.YtombochecgjmjaaDoorRows
import Derived.ProofKit
import Derived.LaidMore
namespace Go.Proofs.YtombochecgjmjaaDoor
open Go.RowKit

mutual
def flat : DataW Unit → List Value
  | .lit (.int k n) => [.int k n]
  | .agg parts => flats parts
  | _ => []
def flats : List (DataW Unit) → List Value
  | [] => []
  | d :: r => flat d ++ flats r
end
def layObj (d : DataW Unit) : Obj → Obj
  | .cells _ t fr => .cells (flat d).toArray t fr
  | o => o
/-- The settled world, the two tables laid. -/
noncomputable def laidWorld (os : Os) : World :=
  let w0 := World.holding Tryd.prog os ⟨#[], #[], []⟩
  { w0 with heap := (w0.heap.modify 1 (layObj Rows.laid_unicode_utf8_first)).modify 2 (layObj Rows.laid_unicode_utf8_acceptRanges) }
end Go.Proofs.YtombochecgjmjaaDoor
