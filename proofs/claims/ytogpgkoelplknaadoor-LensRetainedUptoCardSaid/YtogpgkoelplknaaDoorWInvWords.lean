import Derived.Test.YtogpgkoelplknaaDoorWInv
import Derived.Test.YtogpgkoelplknaaDoorWFootNe
namespace Go.Proofs.YtogpgkoelplknaaDoorW.PrintWords
open Go.RowKit
end Go.Proofs.YtogpgkoelplknaaDoorW.PrintWords
namespace Go.Proofs.YtogpgkoelplknaaDoorW.PrintLast
section
variable {ops : Array Oper} {a : Act} {o og : Oper} {g : Nat} {t : Tmp} {u : Bool}
end
end Go.Proofs.YtogpgkoelplknaaDoorW.PrintLast
