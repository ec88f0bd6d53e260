
/- Chapter 29: orders, plainly. -/
import Derived.Test.YthcfahdogpjkeaaX12
set_option linter.all false
namespace Go.AM
open Go Go.Proofs

/-- Ids, by their numbers. -/
def cm (l : List Int) : List Int := l.map fun x => 1048576 + x
theorem cm_len (l : List Int) : (cm l).length = l.length := by simp [cm]
theorem cm_mem {l : List Int} {x : Int} : x ∈ cm l ↔ x - 1048576 ∈ l := by
  unfold cm
  rw [List.mem_map]
  constructor
  · rintro ⟨y, hy, rfl⟩
    rwa [show 1048576 + y - 1048576 = y by omega]
  · intro h
    exact ⟨_, h, by omega⟩
theorem cm_mem' {l : List Int} {x : Int} : 1048576 + x ∈ cm l ↔ x ∈ l := by
  rw [cm_mem, show 1048576 + x - 1048576 = x by omega]
theorem cm_nd {l : List Int} : (cm l).Nodup ↔ l.Nodup := by
  unfold cm List.Nodup
  rw [List.pairwise_map]
  refine ⟨fun h => h.imp fun h e => h (by rw [e]), fun h => h.imp fun h e => h (by omega)⟩
theorem cm_inj {a b : List Int} : cm a = cm b ↔ a = b := by
  constructor
  · intro h
    have := congrArg (List.map fun x : Int => x - 1048576) h
    have e : ((fun x : Int => x - 1048576) ∘ fun x => 1048576 + x) = id := by funext x; simp; omega
    simpa [cm, e] using this
  · rintro rfl; rfl
theorem cm_off (l : List Int) (a : Int) : offL (cm l) (1048576 + a) = cm (offL l a) := by
  unfold offL cm
  rw [List.filter_map]
  congr 1
  refine List.filter_congr fun x _ => ?_
  simp only [Function.comp]
  congr 1
  exact decide_eq_decide.2 ⟨fun h => by omega, fun h => by omega⟩
theorem cm_ins (l : List Int) (i : Nat) (a : Int) : ins (cm l) i (1048576 + a) = cm (ins l i a) := by simp [cm, ins]
theorem cm_idx {x : Int} : ∀ {l : List Int} {i : Int}, idxF (cm l) (1048576 + x) i = idxF l x i
  | [], i => rfl
  | y :: r, i => by
    have ih := cm_idx (x := x) (l := r) (i := i + 1)
    unfold cm at ih ⊢
    simp only [List.map_cons, idxF]
    by_cases h : x = y
    · rw [if_pos h, if_pos (by omega)]
    · rw [if_neg h, if_neg (by omega)]; exact ih
theorem cm_at {l : List Int} {i : Nat} (h : i < l.length) : (cm l).getD i 0 = 1048576 + l.getD i 0 := by
  unfold cm
  rw [List.getD_eq_getElem?_getD, List.getD_eq_getElem?_getD, List.getElem?_map, List.getElem?_eq_getElem h]; rfl

theorem idxF_mem {x : Int} {l : List Int} (h : x ∈ l) : 0 ≤ idxF l x 0 ∧ idxF l x 0 < l.length := by
  have h1 := (idxF_nn (x := x) (l := l) (i := 0) (Int.le_refl _)).2 h
  have h2 := idxF_lt (x := x) (l := l) (i := 0)
  omega
theorem idxF_no {x : Int} {l : List Int} (h : x ∉ l) : idxF l x 0 = -1 := by
  have h1 := idxF_nn (x := x) (l := l) (i := 0) (Int.le_refl _)
  have h2 := idxF_ge (x := x) (l := l) (i := 0) (Int.le_refl _)
  have : ¬ 0 ≤ idxF l x 0 := fun h' => h (h1.1 h')
  omega
/-- Where one is, in a list where each is once. -/
theorem idxF_at {l : List Int} (hn : l.Nodup) {k : Nat} (h : k < l.length) {i : Int} : idxF l l[k] i = i + k := by
  induction l generalizing k i with
  | nil => simp at h
  | cons y r ih =>
    obtain ⟨h1, h2⟩ := List.nodup_cons.1 hn
    match k with
    | 0 => simp [idxF]
    | k + 1 =>
      simp only [List.getElem_cons_succ, idxF]
      have hk : k < r.length := by simpa using h
      rw [if_neg (fun (e : r[k] = y) => h1 (e ▸ List.getElem_mem hk)), ih h2 hk]
      omega
theorem idxF_eq {l : List Int} (hn : l.Nodup) {x : Int} {k : Nat} (h : l[k]? = some x) : idxF l x 0 = k := by
  obtain ⟨hk, rfl⟩ := List.getElem?_eq_some_iff.1 h
  rw [idxF_at hn hk]; omega
theorem idxF_get {l : List Int} {x : Int} (h : x ∈ l) : l[(idxF l x 0).toNat]? = some x := by
  have : ∀ {l : List Int} {i : Int}, x ∈ l → ∃ k : Nat, idxF l x i = i + k ∧ l[k]? = some x := by
    intro l
    induction l with
    | nil => intro i h; cases h
    | cons y r ih =>
      intro i h
      simp only [idxF]
      by_cases e : x = y
      · rw [if_pos e]; exact ⟨0, by simp, by simp [e]⟩
      · rw [if_neg e]
        obtain ⟨k, h1, h2⟩ := ih (i := i + 1) ((List.mem_cons.1 h).resolve_left e)
        exact ⟨k + 1, by rw [h1]; omega, by simpa using h2⟩
  obtain ⟨k, h1, h2⟩ := this (i := 0) h
  rw [h1, show ((0 : Int) + (k : Int)).toNat = k by omega]
  exact h2

theorem offL_self {l : List Int} {id : Int} (h : id ∉ l) : offL l id = l := List.filter_eq_self.2 fun x hx => by
  have : x ≠ id := fun e => h (e ▸ hx)
  simpa using this
theorem offL_app (l m : List Int) (id : Int) : offL (l ++ m) id = offL l id ++ offL m id := by simp [offL]
theorem offL_not (l : List Int) (id : Int) : id ∉ offL l id := by simp [offL]
theorem offL_mem {l : List Int} {id x : Int} : x ∈ offL l id ↔ x ∈ l ∧ x ≠ id := by simp [offL]
theorem offL_nd {l : List Int} {id : Int} (h : l.Nodup) : (offL l id).Nodup := h.filter _
theorem offL_ins {l : List Int} {id : Int} (h : id ∉ l) (a : Nat) : offL (ins l a id) id = l := by
  unfold ins
  rw [offL_app, show id :: l.drop a = [id] ++ l.drop a from rfl, offL_app, offL_self (fun e => h (List.mem_of_mem_take e)), offL_self (fun e => h (List.mem_of_mem_drop e))]
  simp [offL]
theorem ins_mem {l : List Int} {a : Nat} {id x : Int} : x ∈ ins l a id ↔ x = id ∨ x ∈ l := by
  unfold ins
  rw [List.mem_append, List.mem_cons]
  constructor
  · rintro (h | h | h)
    · exact .inr (List.mem_of_mem_take h)
    · exact .inl h
    · exact .inr (List.mem_of_mem_drop h)
  · rintro (h | h)
    · exact .inr (.inl h)
    · rw [← List.take_append_drop a l] at h
      rcases List.mem_append.1 h with h | h
      · exact .inl h
      · exact .inr (.inr h)
theorem ins_nd {l : List Int} {a : Nat} {id : Int} (h : l.Nodup) (hi : id ∉ l) : (ins l a id).Nodup := by
  unfold ins
  have hd : l.take a ++ l.drop a = l := List.take_append_drop a l
  rw [← hd] at h
  obtain ⟨h1, h2, h3⟩ := List.nodup_append.1 h
  rw [List.nodup_append]
  refine ⟨h1, List.nodup_cons.2 ⟨fun e => hi (List.mem_of_mem_drop e), h2⟩, ?_⟩
  intro x hx y hy
  rcases List.mem_cons.1 hy with rfl | hy
  · rintro rfl; exact hi (List.mem_of_mem_take hx)
  · exact h3 x hx y hy
theorem ins_get {l : List Int} {a : Nat} {id : Int} (h : a ≤ l.length) : (ins l a id)[a]? = some id := by rw [ins_at h]; simp
/-- Put back where it was. -/
theorem ins_back {σ : List Int} (hn : σ.Nodup) {k : Nat} (h : k < σ.length) : ins (offL σ σ[k]) k σ[k] = σ := by
  have e : σ = σ.take k ++ σ[k] :: σ.drop (k + 1) := by rw [List.getElem_cons_drop]; exact (List.take_append_drop k σ).symm
  have hn' := hn
  rw [e] at hn'
  obtain ⟨_, h2, h3⟩ := List.nodup_append.1 hn'
  have h4 := (List.nodup_cons.1 h2).1
  have ho : offL σ σ[k] = σ.take k ++ σ.drop (k + 1) := by
    refine (congrArg (fun l => offL l σ[k]) e).trans ?_
    rw [offL_app, show σ[k] :: σ.drop (k + 1) = [σ[k]] ++ σ.drop (k + 1) from rfl, offL_app]
    rw [offL_self (l := σ.take k) (fun hm => h3 _ hm _ (List.mem_cons_self ..) rfl), offL_self (l := σ.drop (k + 1)) h4]
    simp [offL]
  rw [ho]
  unfold ins
  have hk : (σ.take k).length = k := by simp; omega
  rw [List.take_left' hk, List.drop_left' hk]
  exact e.symm
theorem ins_same {σ : List Int} (hn : σ.Nodup) {a : Int} (ha : a ∈ σ) {k : Nat} (h : k < σ.length) : ins (offL σ a) k a = σ ↔ σ.getD k 0 = a := by
  have hl := nd_off hn ha
  rw [List.getD_eq_getElem?_getD]
  constructor
  · intro e
    have := ins_get (l := offL σ a) (a := k) (id := a) (by omega)
    rw [e] at this
    rw [this]; rfl
  · intro e
    rw [List.getElem?_eq_getElem h] at e
    simp at e
    subst e
    exact ins_back hn h
theorem erase_off {σ : List Int} (hn : σ.Nodup) {k : Nat} (h : k < σ.length) : σ.eraseIdx k = offL σ σ[k] := by
  have e := ins_back hn h
  have hl := nd_off hn (List.getElem_mem h)
  have hk : ((offL σ σ[k]).take k).length = k := by simp; omega
  conv => lhs; rw [← e]
  unfold ins
  rw [List.eraseIdx_append_of_length_le (by omega), hk, Nat.sub_self]
  simp
end Go.AM
