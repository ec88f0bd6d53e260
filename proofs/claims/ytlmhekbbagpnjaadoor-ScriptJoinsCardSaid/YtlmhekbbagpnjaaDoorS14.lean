
/- slices.Insert, at rows of strings of one's own: as the little machine has it. -/
import Derived.Test.YtlmhekbbagpnjaaDoorS13
set_option linter.all false
namespace Go.AM
open Go Go.Proofs Go.RowKit Go.Lib

theorem rep_sL {K : Kn} {pl : Pl} : ∀ {l : List Bs}, RepL K pl (sL l) (l.map fun s => Value.string ⟨s.toArray⟩)
  | [] => by simp [sL, RepL]
  | x :: l => by
    simp only [sL, List.map_cons, RepL, Rep]
    exact ⟨_, _, rfl, rfl, rep_sL (l := l)⟩
theorem sized_strs (l : List Bs) : sized 1 (l.map fun s => Value.string ⟨s.toArray⟩) := fun v hv => by
  obtain ⟨n, _, rfl⟩ := List.mem_map.1 hv
  exact ⟨rfl, fun c hc => by simp [Value.cells] at hc; subst hc; rfl⟩

theorem own_set {gt : Nat → Option (List D)} {K : Kn} {pl : Pl} {bx : List Ent} {w w' : World} {k ver : Nat} {e : TypeId} {l l' : List Bs} {g' cap : Nat} {cur' : Array Value} (hmod : ∀ b o, K b = some o → w.heap[b]? = some o) (hglob : GlobOk gt K) (htab : Tab K pl w bx)
    (hk : bx[k]? = some (.arr e 1 ver (sL l))) {v : Value} (hv : pl k ver = some v) (hgg : v.ownBlock = some g' ∨ w.heap.size ≤ g') (hg' : w'.heap[g']? = some (.cells cur' e (0, 0))) (hsz : cur'.size = cap) (hcap : cap ≤ maxLen) (hn' : l'.length ≤ cap)
    (ht : cur'.toList.take l'.length = l'.map fun s => Value.string ⟨s.toArray⟩) (hc : Chg (fun b => v.ownBlock = some b) w w') :
    PLe pl (updPl pl k (ver + 1) (.slice (some ⟨g', 0, none⟩) l'.length cap)) ∧ Inv ⟨Own pl bx, w, K, bx.length, pl, gt⟩ K (updPl pl k (ver + 1) (.slice (some ⟨g', 0, none⟩) l'.length cap)) (bx.set k (.arr e 1 (ver + 1) (sL l'))) w' := by
  obtain ⟨v0, vs, h1, h2, h3, h4, h5, h6, h7⟩ := htab.ok k _ hk
  rw [hv] at h1
  injection h1 with h1
  subst h1
  have hI := Inv.start (gt := gt) hmod hglob htab
  have hp : PLe pl (updPl pl k (ver + 1) (.slice (some ⟨g', 0, none⟩) l'.length cap)) := updPl_le (h6 _ (by omega))
  have hblk : entBlk pl k (.arr e 1 ver (sL l)) = v.ownBlock := by
    rcases h2.2 with ⟨rfl, _⟩ | ⟨g, cap, cur, rfl, _⟩ <;> simp [entBlk, hv, blkV, Value.ownBlock]
  refine ⟨hp, hI.upd hk hp (fun k' ver' hk' => updPl_ne (.inl hk')) (fun b hb => ?_) ⟨hc.os, hc.tape, hc.output, hc.size, fun b hb hn => hc.block b hb fun e' => hn (by rw [hblk]; exact e')⟩ ?_⟩
  · simp [entBlk, updPl_self, blkV] at hb
    subst hb
    rcases hgg with h | h
    · exact .inl (by rw [hblk]; exact h)
    · exact .inr h
  · refine ⟨_, l'.map fun s => Value.string ⟨s.toArray⟩, updPl_self _ _ _ _, ?_, rep_sL, sized_strs l', fun b hb => ?_, fun ver' hlt => ?_, nofun⟩
    · refine ⟨by rw [flat_strs]; simp [sL], .inr ⟨g', cap, cur', by simp [sL], Nat.zero_le _, hg', by simpa [sL] using hn', hcap, by rw [hsz]; omega, ?_⟩⟩
      rw [flat_strs, sL_len, Nat.mul_one]; exact ht
    · simp [Value.ownBlock] at hb
      subst hb
      rcases hgg with h | h
      · exact h5 _ h
      · cases hK : K g' with
        | none => rfl
        | some o =>
          have := (Array.getElem?_eq_some_iff.1 (hmod _ _ hK)).1
          omega
    · rw [updPl_ne (.inr (by omega))]
      exact h6 _ (by omega)
theorem cell_of {w : World} {b : Nat} {cs : Array Value} {T : TypeId} {fz : Nat × Nat} (h : w.heap[b]? = some (.cells cs T fz)) (i : Nat) : w.cell? ⟨b, i, none⟩ = cs[i]? := by
  unfold World.cell?
  simp [h]
theorem frozen_of {w : World} {b : Nat} {cs : Array Value} {T : TypeId} (h : w.heap[b]? = some (.cells cs T (0, 0))) (i : Nat) : w.frozen? ⟨b, i, none⟩ = false := by
  unfold World.frozen?
  simp [h]
def wrt (cur : Array Value) (o : Nat) : List Value → Array Value
  | [] => cur
  | v :: r => wrt (cur.setIfInBounds o v) (o + 1) r
theorem wrt_size : ∀ {vs : List Value} {cur : Array Value} {o : Nat}, (wrt cur o vs).size = cur.size
  | [], _, _ => rfl
  | v :: r, cur, o => by simp only [wrt]; rw [wrt_size]; simp
theorem wrt_at : ∀ {vs : List Value} {cur : Array Value} {o j : Nat}, o + vs.length ≤ cur.size → (wrt cur o vs)[j]? = if o ≤ j ∧ j < o + vs.length then vs[j - o]? else cur[j]?
  | [], cur, o, j, _ => by
    rw [if_neg (by simp only [List.length_nil]; omega)]
    first | done | rfl
  | v :: r, cur, o, j, h => by
    simp only [List.length_cons] at h
    simp only [wrt]
    rw [wrt_at (by simp; omega)]
    simp only [List.length_cons]
    by_cases h1 : o + 1 ≤ j ∧ j < o + 1 + r.length
    · rw [if_pos h1, if_pos (by omega)]
      rw [show j - o = (j - (o + 1)) + 1 by omega, List.getElem?_cons_succ]
    · rw [if_neg h1]
      by_cases h2 : j = o
      · subst h2
        rw [if_pos (by omega), Array.getElem?_setIfInBounds_self_of_lt (by omega)]
        simp
      · rw [if_neg (by omega), Array.getElem?_setIfInBounds_ne (Ne.symm h2)]
theorem setCell_blk {w : World} {b o : Nat} {v : Value} {cur : Array Value} {e : TypeId} {fz : Nat × Nat} (h : w.heap[b]? = some (.cells cur e fz)) : (w.setCell ⟨b, o, none⟩ v).heap[b]? = some (.cells (cur.setIfInBounds o v) e fz) := by
  simp [World.setCell, Array.getElem?_modify, h]
theorem setCell_chg (w : World) (b o : Nat) (v : Value) : Chg (fun c => c = b) w (w.setCell ⟨b, o, none⟩ v) :=
  ⟨rfl, rfl, rfl, by simp [World.setCell], fun c _ hn => by simp [World.setCell, Array.getElem?_modify, Ne.symm hn]⟩
theorem setCells_blk {b : Nat} {e : TypeId} {fz : Nat × Nat} : ∀ {vs : List Value} {o : Nat} {w : World} {cur : Array Value}, w.heap[b]? = some (.cells cur e fz) → (w.setCells b o vs).heap[b]? = some (.cells (wrt cur o vs) e fz)
  | [], _, _, _, h => h
  | v :: r, o, w, cur, h => setCells_blk (vs := r) (setCell_blk h)
theorem setCells_chg {b : Nat} : ∀ (vs : List Value) (o : Nat) (w : World), Chg (fun c => c = b) w (w.setCells b o vs)
  | [], _, w => Chg.refl _ w
  | v :: r, o, w => (setCell_chg w b o v).trans (setCells_chg r (o + 1) _) fun c hc hs => hs
theorem Chg.own {w w' : World} {g n c : Nat} (h : Chg (fun b => b = g) w w') : Chg (fun b => (Value.slice (some ⟨g, 0, none⟩) n c).ownBlock = some b) w w' :=
  ⟨h.os, h.tape, h.output, h.size, fun b hb hn => h.block b hb fun e => hn (by rw [e]; rfl)⟩
theorem drew_chg (S : Nat → Prop) (w : World) : Chg S w w.drew := ⟨rfl, rfl, rfl, Nat.le_refl _, fun _ _ _ => rfl⟩

def ins (l : List Bs) (i : Nat) (x : Bs) : List Bs := l.take i ++ x :: l.drop i
theorem ins_len {l : List Bs} {i : Nat} {x : Bs} (h : i ≤ l.length) : (ins l i x).length = l.length + 1 := by simp [ins]; omega
theorem ins_at {l : List Bs} {i j : Nat} {x : Bs} (h : i ≤ l.length) : (ins l i x)[j]? = if j < i then l[j]? else if j = i then some x else l[j - 1]? := by
  unfold ins
  by_cases h1 : j < i
  · rw [if_pos h1, List.getElem?_append_left (by simp; omega), List.getElem?_take_of_lt h1]
  · rw [if_neg h1, List.getElem?_append_right (by simp; omega)]
    have e : (l.take i).length = i := by simp; omega
    rw [e]
    by_cases h2 : j = i
    · subst h2; simp
    · rw [if_neg h2, show j - i = (j - 1 - i) + 1 by omega, List.getElem?_cons_succ, List.getElem?_drop, show i + (j - 1 - i) = j - 1 by omega]
abbrev vS (l : List Bs) : List Value := l.map fun s => Value.string ⟨s.toArray⟩
theorem ext_take {cur : Array Value} {l : List Bs} (h : ∀ j, j < l.length → cur[j]? = some (Value.string ⟨(l[j]!).toArray⟩)) : cur.toList.take l.length = vS l := by
  refine List.ext_getElem? fun j => ?_
  by_cases hj : j < l.length
  · rw [List.getElem?_take_of_lt hj, Array.getElem?_toList, h j hj, List.getElem?_map, List.getElem?_eq_getElem hj, getElem!_pos l j hj]; rfl
  · have h2 : (vS l)[j]? = none := List.getElem?_eq_none (by simp; omega)
    rw [h2]
    exact List.getElem?_eq_none (by simp; omega)
theorem some_bang {l : List Bs} {j : Nat} {x : Bs} (h : l[j]? = some x) : l[j]! = x := by
  obtain ⟨h1, h2⟩ := List.getElem?_eq_some_iff.1 h
  rw [getElem!_pos l j h1, h2]

theorem sm_Insert {l : List Bs} (hl : l.length < 1000000) {ver at_ : Nat} (hat : at_ ≤ l.length) {id : Bs} :
    TSpM 43 [.own 0 ver, .int .i64 at_, .ls 1 (sL [id])] [.arr 9 1 ver (sL l)] (.own 0 (ver + 1)) [.arr 9 1 (ver + 1) (sL (ins l at_ id))] := by
  refine ⟨⟨_, Tryd.func43, by kernel_rfl, by kernel_rfl⟩, fun K pl w vs hmod hglob htab hrep => ?_⟩
  obtain ⟨vs⟩ := vs
  simp only [RepL, Rep] at hrep
  obtain ⟨v, _, rfl, ⟨hv, _⟩, n, _, rfl, rfl, u, _, rfl, ⟨ua, un, vc, rfl, hun, hvc, _, hul⟩, rfl⟩ := hrep
  obtain ⟨v0, vs0, h1, h2, h3, h4, h5, h6, h7⟩ := htab.ok 0 _ rfl
  rw [hv] at h1
  injection h1 with h1
  subst h1
  have e0 := repl_strs h3
  subst e0
  rw [flat_strs] at h2
  rw [sL_len] at h2
  obtain ⟨q1, q2⟩ := h2
  rcases hul with hul | ⟨vb, voff, us, rfl, hus, cs0, T0, fz0, hK0, hsz0, hpre⟩
  · simp [sL] at hul
  have e1 := repl_strs hus
  subst e1
  have r4 := hmod _ _ hK0
  rw [flat_strs] at hpre
  have hun1 : un = 1 := by rw [hun, sL_len]; rfl
  subst hun1
  obtain ⟨tl, htl⟩ := hpre
  have hc0 : cs0[voff]? = some (Value.string ⟨(id).toArray⟩) := by
    have := congrArg (fun x => x[0]?) htl
    rw [← Array.getElem?_toList]
    simpa using this.symm
  have hvcell : ∀ j x, (vS [id])[j]? = some x → w.cell? ⟨vb, voff + j, none⟩ = some x := fun j x hj => by
    have hj' : j < 1 := by
      have := (List.getElem?_eq_some_iff.1 hj).1
      simpa using this
    have : j = 0 := by omega
    subst this
    rw [Nat.add_zero, cell_of r4, hc0]; exact hj
  have hvsz : cs0.size ≠ 0 := by
    have := (Array.getElem?_eq_some_iff.1 hc0).1
    omega
  have h1v : ∀ x ∈ vS [id], x.oneCell' = true := fun x hx => by
    obtain ⟨y, _, rfl⟩ := List.mem_map.1 hx; rfl
  have h1c : ∀ x ∈ vS l, x.oneCell' = true := fun x hx => by
    obtain ⟨y, _, rfl⟩ := List.mem_map.1 hx; rfl
  have hil := ins_len (x := id) hat
  have fin : ∀ {w' : World} {g' cap : Nat} {cur' : Array Value}, (v.ownBlock = some g' ∨ w.heap.size ≤ g') → w'.heap[g']? = some (.cells cur' 9 (0, 0)) → cur'.size = cap → cap ≤ maxLen → l.length + 1 ≤ cap →
      (∀ j, j < l.length + 1 → cur'[j]? = some (Value.string ⟨((ins l at_ id)[j]!).toArray⟩)) → Chg (fun b => v.ownBlock = some b) w w' → ∃ v' K' pl', Ending.returned (Value.slice (some ⟨g', 0, none⟩) (l.length + 1) cap) = Ending.returned v' ∧ Inv ⟨Own pl [.arr 9 1 ver (sL l)], w, K, [Ent.arr 9 1 ver (sL l)].length, pl, gtab⟩ K' pl' [.arr 9 1 (ver + 1) (sL (ins l at_ id))] w' ∧ Rep K' pl' (.own 0 (ver + 1)) v' := by
    intro w' g' cap cur' hgg hg' hsz hcap hn ht hc
    have hset := own_set (gt := gtab) hmod hglob htab (k := 0) rfl hv hgg hg' hsz hcap (l' := ins l at_ id) (by omega) (ext_take (by rw [hil]; exact ht)) hc
    rw [hil] at hset
    refine ⟨_, K, _, rfl, hset.2, ?_⟩
    simp only [Rep]
    exact ⟨updPl_self _ _ _ _, _, _, _, rfl⟩
  have hbang : ∀ j, j < at_ → (ins l at_ id)[j]! = l[j]! := fun j hj => by
    have hjl : j < l.length := by omega
    exact some_bang (by rw [ins_at hat, if_pos hj, List.getElem?_eq_getElem hjl, getElem!_pos l j hjl])
  have hbangi : (ins l at_ id)[at_]! = id := some_bang (by rw [ins_at hat, if_neg (by omega), if_pos rfl])
  have hbangr : ∀ j, at_ < j → j < l.length + 1 → (ins l at_ id)[j]! = l[j - 1]! := fun j hj hj2 => by
    have hjl : j - 1 < l.length := by omega
    exact some_bang (by rw [ins_at hat, if_neg (by omega), if_neg (by omega), List.getElem?_eq_getElem hjl, getElem!_pos l _ hjl])
  have hvS : ∀ j, j < l.length → (vS l)[j]? = some (Value.string ⟨(l[j]!).toArray⟩) := fun j hj => by
    rw [List.getElem?_map, List.getElem?_eq_getElem hj, getElem!_pos l j hj]; rfl
  have maxl : maxLen = 9223372036854775807 := rfl
  rcases q2 with ⟨rfl, q2⟩ | ⟨g, cap, cur, rfl, _, q4, q5, q6, q7, q8⟩
  · have hnil : l = [] := List.eq_nil_of_length_eq_zero q2
    have hat0 : at_ = 0 := by omega
    subst hat0
    have h0 := grownCap_ge w 1 0 9
    have hgm := grownCap_le_maxLen w 1 0 9 (by omega)
    refine (Any2.slices_Insert_string_end_grow Tryd.lays2_22 none 0 0 vb voff 1 vc [] (vS [id]) w (by omega) (by omega) (by omega) (by omega) rfl rfl (fun _ => rfl) nofun hvcell h1v).mono ?_
    rintro e w' ⟨rfl, rfl⟩
    have hl0 : l.length = 0 := q2
    have := fin (g' := w.heap.size) (cap := grownCap w 1 0 9) (.inr (Nat.le_refl _)) (w' := w.drew.alloc (.cells (([] ++ vS [id]).toArray ++ Builtin.zeroCells (Value.string ⟨#[]⟩).cells (grownCap w (0 + 1) 0 9 - (0 + 1))) 9)) (heap_new w.drew _) (by simp [Builtin.zeroCells, Value.cells]; omega) hgm (by omega) (fun j hj => ?_) ((drew_chg _ w).trans (Chg.alloc _ _) fun c _ hs => hs.elim)
    · rw [hl0] at this; exact this
    · have : j = 0 := by omega
      subst this
      rw [hbangi, Array.getElem?_append_left (by simp)]; rfl
  rw [Nat.mul_one] at q7 q8
  have hcur : ∀ j, j < l.length → cur[j]? = some (Value.string ⟨(l[j]!).toArray⟩) := fun j hj => by
    have := congrArg (fun x => x[j]?) q8
    rw [List.getElem?_take_of_lt hj] at this
    rw [← Array.getElem?_toList, this]
    exact hvS j hj
  have hcs : ∀ j x, (vS l)[j]? = some x → w.cell? ⟨g, 0 + j, none⟩ = some x := fun j x hj => by
    have hj' : j < l.length := by
      have := (List.getElem?_eq_some_iff.1 hj).1
      simpa using this
    rw [Nat.zero_add, cell_of q4, hcur j hj', ← hvS j hj', hj]
  have hvg : vb ≠ g := fun e => by
    rw [e] at hK0
    rw [h5 g rfl] at hK0
    cases hK0
  have hsp : ∀ j, j < cap → (w.cell? ⟨g, 0 + j, none⟩).isSome = true := fun j hj => by
    rw [Nat.zero_add, cell_of q4, Array.getElem?_eq_getElem (by omega)]; rfl
  have hfz : ∀ j, w.frozen? ⟨g, j, none⟩ = false := fun j => frozen_of q4 j
  have hdl : ((vS l).drop at_).length = l.length - at_ := by simp
  have hdI : ∀ j, j < l.length - at_ → ((vS l).drop at_)[j]? = some (Value.string ⟨(l[at_ + j]!).toArray⟩) := fun j hj => by
    rw [List.getElem?_drop]; exact hvS _ (by omega)
  by_cases hroom : l.length + 1 ≤ cap
  · by_cases hlt : at_ < l.length
    · refine (insert_shift Tryd.lays2_22 g 0 l.length cap at_ vb voff 1 vc (vS l) (vS [id]) w hlt (by omega) hroom (by omega) hvg (by simp) rfl hcs (fun j hj => hsp j (by omega)) (fun j _ => hfz _) hvcell h1c h1v T0 9 cs0.size cur.size (by simp [World.shape?, r4]) (by simp [World.shape?, q4]) hvsz hfz).mono ?_
      rintro e w' ⟨rfl, rfl⟩
      have hb1 : (w.drew.setCells g (0 + (at_ + 1)) ((vS l).drop at_)).heap[g]? = some (.cells (wrt cur (0 + (at_ + 1)) ((vS l).drop at_)) 9 (0, 0)) := setCells_blk (w := w.drew) q4
      refine fin (.inl rfl) (setCells_blk hb1) (by rw [wrt_size, wrt_size]; exact q7) q6 hroom (fun j hj => ?_) (Chg.own (((drew_chg _ w).trans (setCells_chg _ _ _) fun c _ hs => hs).trans (setCells_chg _ _ _) fun c _ hs => hs))
      rw [wrt_at (by rw [wrt_size]; simp; omega), wrt_at (by rw [hdl]; omega), hdl]
      simp only [List.length_map, List.length_cons, List.length_nil]
      by_cases h1 : j < at_
      · rw [if_neg (by omega), if_neg (by omega), hbang j h1]; exact hcur j (by omega)
      · by_cases h2 : j = at_
        · subst h2
          rw [if_pos (by omega), hbangi]; simp
        · rw [if_neg (by omega), if_pos (by omega), hbangr j (by omega) hj, hdI _ (by omega)]
          congr 5
          omega
    · have : at_ = l.length := by omega
      subst this
      refine (Any2.slices_Insert_string_end_room Tryd.lays2_22 g 0 l.length cap vb voff 1 vc (vS [id]) w (by omega) hroom (by omega) rfl (fun j hj => by rw [Nat.add_assoc]; exact hsp _ (by omega)) (fun j _ => hfz _) hvcell h1v).mono ?_
      rintro e w' ⟨rfl, rfl⟩
      refine fin (.inl rfl) (setCells_blk q4) (by rw [wrt_size]; exact q7) q6 hroom (fun j hj => ?_) (Chg.own (setCells_chg _ _ _))
      rw [wrt_at (by simp; omega)]
      simp only [List.length_map, List.length_cons, List.length_nil]
      by_cases h1 : j < l.length
      · rw [if_neg (by omega), hbang j h1]; exact hcur j h1
      · have : j = l.length := by omega
        subst this
        rw [if_pos (by omega), hbangi]; simp
  · have hgc := grownCap_ge w (l.length + 1) cap 9
    have hgm := grownCap_le_maxLen w (l.length + 1) cap 9 (by omega)
    by_cases hlt : at_ < l.length
    · refine (Any2.slices_Insert_string_grow Tryd.lays2_22 g 0 l.length cap at_ vb voff 1 vc (vS l) (vS [id]) w hlt (by omega) q5 (by omega) (by omega) (by simp) rfl hcs hvcell h1c h1v).mono ?_
      rintro e w' ⟨rfl, rfl⟩
      simp only [show Tryd.lays2_22_ren.t 9 = 9 from rfl]
      generalize hG : grownCap w (l.length + 1) cap 9 = G at *
      obtain ⟨ROW, hROW⟩ : ∃ ROW : Array Value, ROW = ((vS l).take at_).toArray ++ Builtin.zeroCells (Value.string ⟨#[]⟩).cells (l.length + 1 - at_) ++ Builtin.zeroCells (Value.string ⟨#[]⟩).cells (G - (l.length + 1)) := ⟨_, rfl⟩
      rw [← hROW]
      have hRs : ROW.size = G := by rw [hROW]; simp [Builtin.zeroCells, Value.cells]; omega
      have hb0 : ((w.alloc (.cells ROW 9)).drew).heap[w.heap.size]? = some (.cells ROW 9 (0, 0)) := heap_new w _
      have hb1 := setCells_blk (vs := vS [id]) (o := at_) hb0
      have hb2 := setCells_blk (vs := (vS l).drop at_) (o := at_ + 1) (w := (((w.alloc (.cells ROW 9)).drew).setCells w.heap.size at_ (vS [id])).drew) hb1
      have hc0 : Chg (fun b => (Value.slice (some ⟨g, 0, none⟩) l.length cap).ownBlock = some b) w ((((w.alloc (.cells ROW 9)).drew).setCells w.heap.size at_ (vS [id])).drew.setCells w.heap.size (at_ + 1) ((vS l).drop at_)) := by
        have h1 := (setCells_chg (b := w.heap.size) (vS [id]) at_ ((w.alloc (.cells ROW 9)).drew))
        have h2 := (setCells_chg (b := w.heap.size) ((vS l).drop at_) (at_ + 1) (((w.alloc (.cells ROW 9)).drew).setCells w.heap.size at_ (vS [id])).drew)
        have h0 := Chg.alloc w (.cells ROW 9)
        refine ⟨by rw [h2.os]; exact h1.os, by rw [h2.tape]; exact h1.tape, by rw [h2.output]; exact h1.output, Nat.le_trans h0.size (Nat.le_trans h1.size h2.size), fun b hb hn => ?_⟩
        have hb' : b ≠ w.heap.size := by omega
        rw [h2.block b (Nat.lt_of_lt_of_le hb (Nat.le_trans h0.size h1.size)) hb', show (((w.alloc (.cells ROW 9)).drew).setCells w.heap.size at_ (vS [id])).drew.heap[b]? = (((w.alloc (.cells ROW 9)).drew).setCells w.heap.size at_ (vS [id])).heap[b]? from rfl, h1.block b (Nat.lt_of_lt_of_le hb h0.size) hb']
        exact h0.block b hb (fun h => h)
      refine fin (.inr (Nat.le_refl _)) hb2 (by rw [wrt_size, wrt_size]; exact hRs) hgm hgc (fun j hj => ?_) hc0
      rw [wrt_at (by rw [wrt_size, hdl]; omega), wrt_at (by simp; omega), hdl]
      simp only [List.length_map, List.length_cons, List.length_nil]
      by_cases h1 : j < at_
      · rw [if_neg (by omega), if_neg (by omega), hbang j h1, hROW]
        rw [Array.getElem?_append_left (by simp; omega), Array.getElem?_append_left (by simp; omega)]
        rw [List.getElem?_toArray, List.getElem?_take_of_lt h1]
        exact hvS j (by omega)
      · by_cases h2 : j = at_
        · subst h2
          rw [if_neg (by omega), if_pos (by omega), hbangi]; simp
        · rw [if_pos (by omega), hbangr j (by omega) hj, hdI _ (by omega)]
          congr 5
          omega
    · have : at_ = l.length := by omega
      subst this
      refine (Any2.slices_Insert_string_end_grow Tryd.lays2_22 (some ⟨g, 0, none⟩) l.length cap vb voff 1 vc (vS l) (vS [id]) w (by omega) q5 (by omega) (by omega) (by simp) rfl nofun (fun a ha j x hj => by
        injection ha with ha
        subst ha
        have := hcs j x hj
        rw [Addr.add_lit]; exact this) hvcell h1v).mono ?_
      rintro e w' ⟨rfl, rfl⟩
      simp only [show Tryd.lays2_22_ren.t 9 = 9 from rfl]
      generalize hG : grownCap w (l.length + 1) cap 9 = G at *
      refine fin (.inr (Nat.le_refl _)) (heap_new w.drew _) (by simp [Builtin.zeroCells, Value.cells]; omega) hgm hgc (fun j hj => ?_) ((drew_chg _ w).trans (Chg.alloc _ _) fun c _ hs => hs.elim)
      rw [Array.getElem?_append_left (by simp; omega), List.getElem?_toArray]
      by_cases h1 : j < l.length
      · rw [List.getElem?_append_left (by simpa using h1), hbang j h1]; exact hvS j h1
      · have : j = l.length := by omega
        subst this
        rw [hbangi]; simp
end Go.AM
