import Derived.Test.YtoaialdcgmkbgaaGreatRZ3

set_option linter.all false
namespace Go.AM
open Go Go.Proofs
theorem kt7 {l : List D} {ver : Nat} : vT 67 [.own 0 ver] [.arr 45 4 ver l] (.fn 128 [.box 1 0]) [.arr 45 4 ver l, .cells [.own 0 ver]] := by
 refine jn7 (by rfl) ?_
 dsimp only [c_band_spans,Yt,jm,jo,jc,jn,jG,jF,je,jt,jr,jb,ja,jd,jA,jf,ji,jj,jk,jl,jL,kq,rd,get,jy,jz,jh,jg,jB,jP,jx,kj,jD,jX,jw,env0,bA,bN,qX,qH,j7,kr,j9,jT,jS,o1,Nat.reduceBEq,Nat.reduceAdd]
 exact Rt.id
def Kq : List Rc -> List Int
 | [] => []
 | r :: l => r.y :: (r.y + r.h) :: Kq l
theorem jt4 : ∀ l : List Rc, (Kq l).length = 2 * l.length
 | [] => rfl
 | r :: l => by simp only [Kq, List.length_cons, jt4 l]; omega
theorem jE0 : ∀ (l : List Rc) (r : Rc), Kq (l ++ [r]) = Kq l ++ [r.y, r.y + r.h]
 | [], r => rfl
 | s :: l, r => by simp only [List.cons_append, Kq, jE0 l r]
def k9 (l : List Rc) : List Int := Lib.compact (QG (Kq l))
theorem kt9 {l : List Rc} {ver : Nat} (hin : ∀ r ∈ l, Vr r) (hlen : l.length <= 1073741824) :
  vT 63 [.own 0 ver] [.arr 45 4 ver (kJ l)] (.ls 1 (iI (k9 l))) [.arr 45 4 ver (kJ l)] := by
 refine jn8 (by rfl) ?_
 dsimp only [c_band_edges,Yu,jm,jo,jc,jn,jU,jF,je,jt,jr,jb,ja,jd,jA,jf,ji,jj,jk,jl,kz,jL,rd,get,jy,jz,jh,jg,jB,jP,km,jx,jI,jD,jX,jw,env0,bA,bN,kU,jR,ji2,ko,jT,jS,o1,o0,Nat.reduceBEq,Nat.reduceAdd]
 rw [j8]
 refine ⟨rfl, by simp only [j5]; omega, by omega, rfl, ?_⟩
 refine kE (α := {i : Nat // i <= l.length})
  (fun i => ⟨[(3, [], .own 2 (i.1 + 1)), (10, [], .own 0 ver), (11, [], .int .i64 l.length), (12, [], .int .i64 i.1)], [.arr 45 4 ver (kJ l), .arr 3 1 0 [], .arr 3 1 (i.1 + 1) (iI (Kq (l.take i.1)))]⟩)
  (fun i => l.length - i.1) ?_ ⟨0, Nat.zero_le _⟩ (by simp [Kq, iI])
 rintro ⟨i, hi⟩ I ih
 dsimp only at hi |-
 dsimp only [jE,jm,jo,jc,jn,jU,kt,jK,ky,jF,je,j1,j3,kC,jt,jr,jb,ja,jd,jA,jf,jq,ku,ji,jj,jk,jl,ju,j6,jL,kq,rd,get,jy,jz,jh,jg,jB,jP,km,jx,jC,jI,jw,bA,bN,kU,jR,ko,qX,jT,jS,Nat.reduceBEq]
 refine ⟨fun hlt => ?_, fun hge => ?_⟩
 ·have hl : i < l.length := by simpa using hlt
  obtain ⟨r, hr⟩ : ∃ r, l[i]? = some r := ⟨_, List.getElem?_eq_getElem hl⟩
  have hV := hin r (List.mem_of_getElem? hr)
  have hV' := hV
  simp only [Vr] at hV'
  refine ⟨⟨rfl, rfl, by omega, by rw [j8]; omega⟩, ⟨rfl, rfl⟩, kh (rD r) (rD r) (qZ (by simpa using hr)) rfl ?_⟩
  dsimp only [rD,jm,jo,jc,jF,je,j0,kC,jt,jr,jb,ja,jd,jA,jf,ji,jj,jk,jl,ju,jJ,qg,jL,kq,rd,get,jy,jz,jh,jg,jB,jP,km,jx,jC,kj,kL,jH,kp,jI,jQ,jD,jX,kd,ki,jw,bA,bN,kU,jR,closed,jV,ql,ko,jT,jS,Nat.reduceBEq,Nat.reduceAdd]
  have hlen2 : (iI (Kq (l.take i))).length <= 2 * l.length := by rw [zI, jt4, List.length_take]; omega
  refine ⟨by simp only [j5]; omega, ⟨rfl, rfl, rfl, rfl, by simp only [List.length_cons, List.length_nil]; omega, by simp only [List.length_cons, List.length_nil]; omega⟩, by simp only [j5]; omega, ?_⟩
  refine kW (ih ⟨i + 1, by omega⟩ (by dsimp only; omega)) ⟨rfl, rfl, rfl, rfl, trivial⟩ ⟨rfl, rfl, ?_, trivial⟩ rfl rfl
  have ht : l.take (i + 1) = l.take i ++ [r] := by rw [List.take_add_one, hr]; rfl
  simp only [ht, jE0, iI, List.map_append]
  rfl
 ·have hil : i = l.length := by simp at hge; omega
  subst hil
  rw [List.take_length]
  have hel : (Kq l).length < 4611686018427387904 := by rw [jt4]; omega
  refine kY [2] (jP9 (ver := l.length + 1) hel) rfl rfl ?_
  dsimp only [jm,jo,jc,jn,jF,je,jt,jr,jb,ja,jd,jA,jf,jq,ji,jj,jk,jl,jL,kq,rd,get,jy,jz,jh,jg,jB,jP,jx,jQ,jD,jw,bA,bN,kV,qY,zp,kM,kO,Je,Jd,jT,jS,Nat.reduceBEq,Nat.reduceAdd]
  refine kY [2] (jg2 (ver := l.length + 1) (by rw [X0]; exact hel)) rfl rfl ?_
  dsimp only [jc,jG,jF,je,jt,jr,jb,ja,jd,jA,jf,ji,jj,jk,jl,jL,rd,get,jy,jz,jh,jg,jB,jP,jx,jQ,jD,jw,bA,bN,qX,qH,j7,kr,j9,kV,zp,kM,z6,kO,Je,Jd,jT,jS,Nat.reduceBEq,Nat.reduceAdd]
  refine Rt.trans (bx2 := [.arr 45 4 ver (kJ l), .arr 3 1 0 [], .gone]) (Rt.frz rfl (by simp)) (Rt.cut (Nat.le_refl _) ⟨rfl, trivial⟩ rfl rfl)
end Go.AM
