
/- The rows' common part. -/
import Derived.Test.YthcfahdogpjkeaaA21
import Derived.Test.YthcfahdogpjkeaaCode
import Derived.Test.YthcfahdogpjkeaaRows
set_option linter.all false
namespace Go.Proofs.Ythcfahdogpjkeaa
open Go.ChangeShapes Go.WideShapes Go.ChangeAt Go.RowKit Go.Joins Go.AM

theorem Try.own : ownKnob Try.prog.godebug = none := by kernel_rfl
theorem Try.laidOut : laidOutB Try.prog = true := by kernel_rfl
theorem Try.boolUnd : Try.prog.underlying 4 = some .bool := Try.underlying4
theorem globNone (K : Kn) : GlobOk gtab K := fun g l h => by cases h
end Go.Proofs.Ythcfahdogpjkeaa
