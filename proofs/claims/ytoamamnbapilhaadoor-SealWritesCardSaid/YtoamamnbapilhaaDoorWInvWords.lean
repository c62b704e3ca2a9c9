import Derived.Test.YtoamamnbapilhaaDoorWInv
import Derived.Test.YtoamamnbapilhaaDoorWFootNe
namespace Go.Proofs.YtoamamnbapilhaaDoorW.PrintWords
open Go.RowKit
end Go.Proofs.YtoamamnbapilhaaDoorW.PrintWords
namespace Go.Proofs.YtoamamnbapilhaaDoorW.PrintLast
section
variable {ops : Array Oper} {a : Act} {o og : Oper} {g : Nat} {t : Tmp} {u : Bool}
end
end Go.Proofs.YtoamamnbapilhaaDoorW.PrintLast
