-- Out of a text that the kit printed: what is used of it, the rest left out.
import Derived.Test.YtogpgkoelplknaaDoorWWords
import Derived.Laws.StructEq
/-! ### 53. '==' of structs as_ one Bool -/
namespace Go.Proofs.YtogpgkoelplknaaDoorW.PrintWords
open Go.RowKit
section
variable {P : Program} {d : Nat} {xs ys : Array Value} {f : Field} {fs : List Field} {a b : Value} {r s : Bool} {w : World}
end
end Go.Proofs.YtogpgkoelplknaaDoorW.PrintWords
