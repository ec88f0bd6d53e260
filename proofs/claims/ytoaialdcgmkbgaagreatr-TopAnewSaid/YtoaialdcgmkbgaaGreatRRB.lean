import Derived.Test.YtoaialdcgmkbgaaGreatRA21
import Derived.Test.YtoaialdcgmkbgaaGreatRCode
import Derived.Test.YtoaialdcgmkbgaaGreatRRows

set_option linter.all false
namespace Go.Proofs.YtoaialdcgmkbgaaGreatR
open Go.ChangeShapes Go.WideShapes Go.ChangeAt Go.RowKit Go.Joins Go.AM
theorem Tryz.own : ownKnob Tryz.prog.godebug = none := by kernel_rfl
theorem Tryz.laidOut : laidOutB Tryz.prog = true := by kernel_rfl
theorem Tryz.boolUnd : Tryz.prog.underlying 4 = some .bool := Tryz.underlying4
theorem kz5 (K : Kn) : GlobOk zM K := fun g l h => by cases h
end Go.Proofs.YtoaialdcgmkbgaaGreatR
