import Derived.Test.YtogpgkoelplknaaDoorWLast
import Derived.Test.YtogpgkoelplknaaDoorWWords
namespace Go.Proofs.YtogpgkoelplknaaDoorW.PrintLast
open Go.Proofs.YtogpgkoelplknaaDoorW.PrintWords (Aside0)
section
variable {md : Region.Mode} {ops : Array Oper} {T : Bool × List (List Nat × List Nat)} {l l' li lj lk : Array Bool} {ds : List Nat} {i j k : Nat}
end
end Go.Proofs.YtogpgkoelplknaaDoorW.PrintLast
