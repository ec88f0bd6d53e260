import Derived.Test.YtoaialdcgmkbgaaGreatRA21
import Derived.Lib.LaidU8
import Derived.LaidMore
import Derived.Lay
import Derived.Stop.Joined

set_option linter.all false
namespace Go.AM
open Go Go.RowKit Go.ChangeShapes Go.WideShapes Go.ChangeAt Go.Joins
section
variable {P : Program} {w : World} {base : Nat} {spare : Nat → Bool} {held : Bool} {enc : TypeId × Value → Unit}
end
end Go.AM

