import Derived.Test.YtoaialdcgmkbgaaGreatRL7

set_option linter.all false
set_option maxHeartbeats 1000000
namespace Go.AM
open Go Go.RowKit Go.Proofs
def Ws.un (S : Ws) (l : List Nat) : PS := fun x y => ∃ k ∈ l, S.cl k x y
theorem Ws.Ok.vis_in {S : Ws} (h : S.Ok) {k : Nat} {x y : Int} (hv : S.vis k x y) : zN (S.B k) x y := by
 have h1 := (h.cl_sh hv.1).1
 rw [show x - -S.ox k - S.ox k = x by omega, show y - -S.oy k - S.oy k = y by omega] at h1
 exact h1
theorem Ws.Ok.visSq {S : Ws} (h : S.Ok) {k : Nat} : Sq (S.vis k) := by
 have hs := h.size k
 exact (ZW (b := S.B k) (by omega) (by omega)).sub fun x y hv => h.vis_in hv
end Go.AM
