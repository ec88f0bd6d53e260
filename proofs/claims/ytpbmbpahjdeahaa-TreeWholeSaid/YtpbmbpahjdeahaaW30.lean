
/- Chapter 28: the tree is whole: plainly; a look into a map that is gone through. -/
import Derived.Test.YtpbmbpahjdeahaaW24
set_option linter.all false
namespace Go.AM
open Go Go.Proofs

section
open Go.RowKit
variable {P : Program} {gt : Nat → Option (List D)} {t k e : TypeId} {ik : IntKind}
theorem pr_lkpX {bx : List Ent} {j : Nat} {g : Gh} (hu : P.underlying t = some (.map k e)) (hk : P.underlying k = some (.int ik)) {z : Value} (hz : ZV P e z) {kv : KV} (hj : entN bx j = some (.mapx g (mpK ik kv) (mpV kv))) (hn : NdK kv) (n : Int) (c : Bool) {zd : D} (hzd : lk kv n = none → ∀ K pl, Rep K pl zd z) :
    PrM P gt (.lkp t c) [.ownm j 0, .int ik n] bx (lkD c (lk kv n) zd) bx := by
  intro F K pl w o ρ xs hF hρ hI hq hr
  obtain ⟨x, i, rfl, hop⟩ := lkp_op hq
  obtain ⟨h1, e2⟩ := repL2 hr
  simp only [Rep] at h1 e2
  rw [entN_eq] at hj
  obtain ⟨kvs, vvs, g1, g2, g3, g4, g5, _, g6, g7, g8⟩ := hI.tab.ok j _ hj
  have hkk := keys_eq g4
  subst hkk
  rw [h1.1] at g1
  injection g1 with g1
  obtain ⟨v, hv, hc⟩ := run_lookup hu hk hz g3 (K := K) (pl := pl) ⟨vvs, RepL.mono (KLe.refl _) (PLe.zero _) _ _ g5, g6⟩ hn n c
  refine ⟨v, w, K, pl, .inl ?_, KLe.refl _, PLe.refl _, hI, lkD_rep hc fun h => hzd h K pl⟩
  simp only [execOp, hop, g1, e2]
  simp [Sem.run_bind, hv]
end

theorem tMB : Try.prog.underlying 58 = some (.map 28 4) := by kernel_rfl
theorem zMB : ZV Try.prog 4 (.bool false) := by unfold ZV; kernel_rfl
/-- Those that are met. -/
def metK (l : List Int) : KV := l.map fun x => (x, .bool true)
theorem metK_nd {l : List Int} (h : l.Nodup) : NdK (metK l) := by
  unfold NdK metK
  rw [List.map_map]
  simpa [Function.comp_def] using h
theorem lk_metK (l : List Int) (x : Int) : lk (metK l) x = if x ∈ l then some (.bool true) else none := by
  induction l with
  | nil => rfl
  | cons y r ih =>
    simp only [metK, List.map_cons, lk] at ih ⊢
    rw [ih]
    by_cases e : y = x
    · simp [e]
    · simp [e, Ne.symm e]
theorem lk_met (l : List Int) (x : Int) : lkD false (lk (metK l) x) (.bool false) = .bool (decide (x ∈ l)) := by
  rw [lk_metK]
  by_cases h : x ∈ l <;> simp [h, lkD]
theorem pr_met {bx : List Ent} {j : Nat} {l : List Int} (hj : entN bx j = some (mapE .u32 (metK l))) (hn : l.Nodup) (x : Int) : PrM Try.prog gtab (.lkp 58 false) [.ownm j 0, .int .u32 x] bx (.bool (decide (x ∈ l))) bx := by
  have h := pr_lkpO (gt := gtab) tMB tI zMB hj (metK_nd hn) x false (zd := .bool false) (fun _ _ _ => by simp [Rep])
  rw [lk_met] at h; exact h
theorem pr_metX {bx : List Ent} {j : Nat} {g : Gh} {l : List Int} (hj : entN bx j = some (.mapx g (mpK .u32 (metK l)) (mpV (metK l)))) (hn : l.Nodup) (x : Int) : PrM Try.prog gtab (.lkp 58 false) [.ownm j 0, .int .u32 x] bx (.bool (decide (x ∈ l))) bx := by
  have h := pr_lkpX (gt := gtab) tMB tI zMB hj (metK_nd hn) x false (zd := .bool false) (fun _ _ _ => by simp [Rep])
  rw [lk_met] at h; exact h
theorem lowL_met {n : Nat} : ∀ {l : List Int}, lowL n (mpV (metK l)) = true
  | [] => rfl
  | p :: r => by simp only [metK, mpV, List.map_cons, lowL, low, Bool.true_and]; exact lowL_met (l := r)
theorem closedL_met : ∀ {l : List Int}, closedL (mpV (metK l)) = true
  | [] => rfl
  | p :: r => by simp only [metK, mpV, List.map_cons, closedL]; exact closedL_met (l := r)
theorem metK_put {l : List Int} {x : Int} (h : x ∉ l) : put (metK l) x (.bool true) = metK (l ++ [x]) := by
  rw [put_absent (by rw [lk_metK, if_neg h])]; simp [metK]
theorem metK_erase {l : List Int} {i : Nat} : (metK l).eraseIdx i = metK (l.eraseIdx i) := by
  unfold metK
  induction l generalizing i with
  | nil => simp
  | cons p r ih => cases i <;> simp [ih]

/-- The parent is ahead. -/
theorem par_ahead {L : Nodes} (hn : NdK L) : ∀ (n : Nat) {id x : Int} {A C : List Int}, belowF (kidsN L) n id = A ++ x :: C → (x = id ∧ A = []) ∨ ∃ u, lk L x = some u ∧ u ∈ A
  | 0, _, _, A, _, h => by cases A <;> simp [belowF] at h
  | n + 1, id, x, A, C, h => by
    rw [belowF] at h
    cases A with
    | nil => left; injection h with h; exact ⟨h.symm, rfl⟩
    | cons y A =>
      rw [List.cons_append] at h
      injection h with h1 h2
      subst h1
      right
      have key : ∀ (ks : List Int) {A : List Int}, (∀ k ∈ ks, k ∈ kidsN L id) → ks.flatMap (belowF (kidsN L) n) = A ++ x :: C → ∃ u, lk L x = some u ∧ u ∈ id :: A := by
        intro ks
        induction ks with
        | nil => intro A _ h; cases A <;> simp at h
        | cons k ks ih =>
          intro A hk h
          rw [List.flatMap_cons] at h
          by_cases hl : A.length < (belowF (kidsN L) n k).length
          · -- in the first one's
            obtain ⟨C', hC⟩ : ∃ C', belowF (kidsN L) n k = A ++ x :: C' := by
              have e1 := congrArg (List.take A.length) h
              have hx : (belowF (kidsN L) n k)[A.length]? = some x := by
                have := congrArg (fun l => l[A.length]?) h
                rw [List.getElem?_append_left hl] at this
                rw [this]; simp
              rw [List.take_append_of_le_length (by omega)] at e1
              simp only [List.take_left'] at e1
              refine ⟨(belowF (kidsN L) n k).drop (A.length + 1), ?_⟩
              have e2 := List.take_append_drop A.length (belowF (kidsN L) n k)
              rw [e1, List.drop_eq_getElem_cons hl] at e2
              rw [← e2]
              congr 2
              rw [List.getElem?_eq_getElem hl] at hx
              injection hx with hx
              rw [← e2] at hx
              simpa using hx.symm
            rcases par_ahead hn n hC with ⟨rfl, hA⟩ | ⟨u, hu, hm⟩
            · exact ⟨id, (kid_iff hn).1 (hk x (by simp)), by simp⟩
            · exact ⟨u, hu, by simp [hm]⟩
          · obtain ⟨A', hA'⟩ : ∃ A', A = belowF (kidsN L) n k ++ A' := by
              have e1 := congrArg (List.take (belowF (kidsN L) n k).length) h
              rw [List.take_left, List.take_append_of_le_length (by omega)] at e1
              exact ⟨A.drop (belowF (kidsN L) n k).length, by conv => lhs; rw [← List.take_append_drop (belowF (kidsN L) n k).length A, ← e1]⟩
            rw [hA', List.append_assoc] at h
            have h3 := List.append_cancel_left h
            obtain ⟨u, hu, hm⟩ := ih (fun q hq => hk q (by simp [hq])) h3
            refine ⟨u, hu, ?_⟩
            rw [hA']
            rcases List.mem_cons.1 hm with h4 | h4
            · simp [h4]
            · simp [h4]
      exact key _ (fun k hk => hk) h2

def sumK (L : Nodes) (l : List Int) : Nat := (l.map fun x => (kidsN L x).length).sum
theorem sumK_erase (L : Nodes) {l : List Int} {i : Nat} {x : Int} (h : l[i]? = some x) : sumK L l = (kidsN L x).length + sumK L (l.eraseIdx i) := by
  have := ((perm_erase h).map fun x => (kidsN L x).length).sum_nat
  unfold sumK
  rw [this]; simp
theorem sumK_nil (l : List Int) : sumK [] l = 0 := by
  induction l with
  | nil => rfl
  | cons x l ih =>
    unfold sumK at *
    rw [List.map_cons, List.sum_cons, ih]; simp [kidsN]
theorem sumK_cons (p : Int × Int) (r : Nodes) : ∀ (l : List Int), l.Nodup → sumK (p :: r) l = (if p.2 ∈ l then 1 else 0) + sumK r l
  | [], _ => by simp [sumK]
  | x :: l, hn => by
    have hn := List.nodup_cons.1 hn
    have ih := sumK_cons p r l hn.2
    unfold sumK at ih ⊢
    simp only [List.map_cons, List.sum_cons]
    rw [ih, kidsN_cons, List.length_append]
    by_cases e : p.2 = x
    · have h1 : p.2 ∈ x :: l := by simp [e]
      have h2 : ¬ p.2 ∈ l := by rw [e]; exact hn.1
      simp only [if_pos e, if_pos h1, if_neg h2, List.length_singleton]; omega
    · by_cases h : p.2 ∈ l
      · have h1 : p.2 ∈ x :: l := by simp [h]
        simp only [if_neg e, if_pos h1, if_pos h, List.length_nil]; omega
      · have h1 : ¬ p.2 ∈ x :: l := by simp [e, h]
        simp only [if_neg e, if_neg h1, if_neg h, List.length_nil]; omega
theorem sumK_all {l : List Int} (hn : l.Nodup) : ∀ (L : Nodes), (∀ p ∈ L, p.2 ∈ l) → sumK L l = L.length
  | [], _ => sumK_nil l
  | p :: r, h => by
    rw [sumK_cons p r l hn, if_pos (h p (by simp)), sumK_all hn r fun q hq => h q (by simp [hq])]
    simp; omega
end Go.AM
