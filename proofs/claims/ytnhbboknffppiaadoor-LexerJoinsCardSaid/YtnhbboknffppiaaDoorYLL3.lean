/- Own work: LexerTwo. -/
import Derived.Test.YtnhbboknffppiaaDoorYLL2
namespace Go.Proofs.YtnhbboknffppiaaDoor
open Go.RowKit
set_option maxRecDepth 100000
set_option linter.unusedSimpArgs false

structure TwI (n : Int) (i : Int) : Prop where
  i0 : 0 ≤ i
  i1 : i ≤ n
end Go.Proofs.YtnhbboknffppiaaDoor
