
/- The rows' common part (laid variables). -/
import Derived.Test.YtoaialdcgmkbgaaDoorA21
import Derived.Test.YtoaialdcgmkbgaaDoorA22
import Derived.Test.YtoaialdcgmkbgaaDoorCode
import Derived.Test.YtoaialdcgmkbgaaDoorRows
import Derived.Test.YtoaialdcgmkbgaaDoorTie
import Derived.Test.YtoaialdcgmkbgaaDoorCards
import Derived.ProofKit
import Derived.OpenShut
import Derived.LaidMore
import Derived.Lay
import Derived.SevenTiedAt
import Derived.Stop.Joined
set_option linter.all false
namespace Go.Proofs.YtoaialdcgmkbgaaDoor
open Go.ChangeShapes Go.WideShapes Go.ChangeAt Go.RowKit Go.Joins Go.AM

theorem Tryd.own : ownKnob Tryd.prog.godebug = none := by kernel_rfl
theorem Tryd.laidOut : laidOutB Tryd.prog = true := by kernel_rfl
theorem Tryd.boolUnd : Tryd.prog.underlying 4 = some .bool := Tryd.underlying4
end Go.Proofs.YtoaialdcgmkbgaaDoor
