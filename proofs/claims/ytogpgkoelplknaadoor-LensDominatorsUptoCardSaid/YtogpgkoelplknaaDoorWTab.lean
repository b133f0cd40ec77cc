-- Out of a text that the kit printed: what is used of it, the rest left out.
import Derived.Test.YtogpgkoelplknaaDoorWLast
import Derived.Test.YtogpgkoelplknaaDoorWWords
/-! ### 50. A region's order in a table, made once a region: each step asks the table (numbers alone), not the operations -/
namespace Go.Proofs.YtogpgkoelplknaaDoorW.PrintLast
open Go.Proofs.YtogpgkoelplknaaDoorW.PrintWords (Aside0)
section
variable {md : Region.Mode} {ops : Array Oper} {T : Bool × List (List Nat × List Nat)} {l l' li lj lk : Array Bool} {ds : List Nat} {i j k : Nat}
end
end Go.Proofs.YtogpgkoelplknaaDoorW.PrintLast
