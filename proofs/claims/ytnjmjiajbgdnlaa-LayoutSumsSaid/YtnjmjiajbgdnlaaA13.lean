/- Appends, copies, parts of slices. -/
import Derived.Test.YtnjmjiajbgdnlaaA12
set_option linter.all false
namespace Go.AM
open Go Go.RowKit

theorem flat_append (a b : List Value) : flat (a ++ b) = flat a ++ flat b := by simp [flat]
theorem flat_one {sz : Nat} {vs : List Value} (h : sized sz vs) : ∀ u ∈ flat vs, u.oneCell' = true := fun u hu => by
  obtain ⟨v, hv, hu⟩ := List.mem_flatMap.1 hu
  exact (h v hv).2 u hu
theorem sized.take {sz : Nat} {vs : List Value} (h : sized sz vs) (n : Nat) : sized sz (vs.take n) := fun v hv => h v (List.mem_of_mem_take hv)
theorem sized.drop {sz : Nat} {vs : List Value} (h : sized sz vs) (n : Nat) : sized sz (vs.drop n) := fun v hv => h v (List.mem_of_mem_drop hv)
theorem flat_split {sz : Nat} {vs : List Value} (h : sized sz vs) (n : Nat) (hn : n ≤ vs.length) : (flat vs).take (n * sz) = flat (vs.take n) ∧ (flat vs).drop (n * sz) = flat (vs.drop n) := by
  have e : flat vs = flat (vs.take n) ++ flat (vs.drop n) := by rw [← flat_append, List.take_append_drop]
  have hl : (flat (vs.take n)).length = n * sz := by rw [flat_length (h.take n), List.length_take, Nat.min_eq_left hn]
  rw [e, ← hl]
  exact ⟨List.take_left, List.drop_left⟩

section
variable {P : Program} {gt : Nat → Option (List D)} {g : G} {env : Env} {bx : List Ent} {dst : Option Tmp} {ty : TypeId} {pos : String} {after : Array Edge} {guard : Option (Nat × Bool)}

/-- An append to an own row: where it lies then. -/
theorem run_append_all {w : World} {t e : TypeId} {i : TypeInfo} {z : Value} (ht : P.underlying t = some (.slice e)) (hi : P.info? e = some i) (hz : i.zero = some z) (hzs : z.cells.size = i.size) (hsz : 0 < i.size) (hby : i.bytes ≤ 64)
    {v : Value} {n : Nat} {xs : List Value} (hown : w.ownsRow 0 e i.size v n xs) {a : Option Addr} {m c : Nat} {news : List Value} (hl : news.length = m * i.size) (ha : a = none → m = 0 ∧ c = 0)
    (hnews : ∀ ad, a = some ad → ∀ j u, news[j]? = some u → w.cell? (ad.add j) = some u) (h1 : ∀ u ∈ news, u.oneCell' = true) (hlt : n + m < 2147483648)  :
    ∃ v' w', (Builtin.append_ #[t, t] ty #[v, .slice a m c]).run P w = .ok v' w' ∧ w'.ownsRow 0 e i.size v' (n + m) (xs ++ news) ∧ w.grownBy w' v.ownBlock ∧ (∀ b, v'.ownBlock = some b → v.ownBlock = some b ∨ w.heap.size ≤ b) := by
  cases a with
  | none =>
    obtain ⟨rfl, rfl⟩ := ha rfl
    have hnil : news = [] := List.eq_nil_of_length_eq_zero (by simpa using hl)
    subst hnil
    exact ⟨v, w, run_append_owned_none w 0 t ty e i i.size ht hi v n xs hown, by simpa using hown, ⟨rfl, rfl, rfl, Nat.le_refl _, fun _ _ _ => rfl⟩, fun b hb => .inl hb⟩
  | some ad =>
    have hnews := hnews ad rfl
    have hbytes : (n + m) * i.bytes ≤ 140737488355328 := Nat.le_trans (Nat.mul_le_mul (Nat.le_of_lt hlt) hby) (by omega)
    have hmax : n + m ≤ maxLen := by unfold maxLen; omega
    obtain ⟨v', w', h2, h3, h4, h5⟩ := run_append_own (P := P) w 0 t ty e i z i.size i.bytes ht hi hz rfl rfl hzs hsz v n xs hown ad m c news hl hnews h1 hmax hbytes (Nat.zero_le _)
    refine ⟨v', w', h2, h3, h4, fun b hb => ?_⟩
    rcases hown.2 with ⟨rfl, rfl⟩ | ⟨g, cap, cur, rfl, hbg, hg, hnc, hcm, hcs, htake⟩
    · right
      obtain ⟨v2, w2, h6, h7, _⟩ := run_append_own (P := P) w w.heap.size t ty e i z i.size i.bytes ht hi hz rfl rfl hzs hsz (.slice none 0 0) 0 xs ⟨hown.1, .inl ⟨rfl, rfl⟩⟩ ad m c news hl hnews h1 hmax hbytes (Nat.le_refl _)
      rw [h2] at h6; cases h6
      exact (h7.lt b hb).1
    · by_cases hroom : n + m ≤ cap
      · left
        have hfit : n * i.size + news.length ≤ cur.size := by rw [hl, hcs, ← Nat.add_mul]; exact Nat.mul_le_mul_right _ hroom
        have hr := run_append_room (P := P) w t ty e i ht hi g n cap cur hg ad m c news hl hnews h1 hroom hfit
        rw [h2] at hr; cases hr
        simpa [Value.ownBlock] using hb
      · right
        have holds : ∀ j u, xs[j]? = some u → w.cell? ((⟨g, 0, none⟩ : Addr).add j) = some u := hown.cells (g := g) rfl
        have hr := run_append_grow (P := P) w t ty e i z ht hi hz ⟨g, 0, none⟩ n cap xs hown.1 holds ad m c news hl hnews (by omega) (by unfold maxLen at hmax; omega) (growslice_fits (by omega) hbytes)
        rw [h2] at hr; cases hr
        simp [Value.ownBlock] at hb; omega


theorem blkV_own {v : Value} (h : ∃ a n c, v = .slice a n c) {b : Nat} : blkV v = some b ↔ v.ownBlock = some b := by
  obtain ⟨a, n, c, rfl⟩ := h
  cases a <;> simp [blkV, Value.ownBlock]

theorem owns_slice {w : World} {e : TypeId} {sz n : Nat} {v : Value} {xs : List Value} (h : w.ownsRow 0 e sz v n xs) : ∃ a n c, v = .slice a n c := by
  rcases h.2 with ⟨rfl, _⟩ | ⟨g, cap, cur, rfl, _⟩ <;> exact ⟨_, _, _, rfl⟩

/-- The rows of a plain slice, where they lie. -/
theorem ls_rows {K : Kn} {pl : Pl} {w : World} (hmod : ∀ b o, K b = some o → w.heap[b]? = some o) {sz : Nat} {m : List D} {v : Value} (h : Rep K pl (.ls sz m) v) :
    ∃ ao n c us, v = .slice ao n c ∧ n = m.length ∧ RepL K pl0 m us ∧ sized sz us ∧ (ao = none → m.length = 0 ∧ c = 0) ∧ (∀ ad, ao = some ad → ∀ j u, (flat us)[j]? = some u → w.cell? (ad.add j) = some u) := by
  simp only [Rep] at h
  obtain ⟨ao, n, c, h9, rfl, _, h10, h11⟩ := h
  rcases h11 with rfl | ⟨b, off, us, rfl, h12, cs, T, fz, h13, h14, h15⟩
  · exact ⟨ao, _, c, [], h9, rfl, by simp [RepL], fun v hv => (by cases hv), fun h => ⟨rfl, h10 h⟩, fun ad _ j u hju => by simp [flat] at hju⟩
  · refine ⟨_, _, c, us, h9, rfl, h12, h14, nofun, fun ad had j u hju => ?_⟩
    cases had
    rw [Addr.add_mid]
    exact range_of_prefix (hmod _ _ h13) h15 j u hju

/-- .. and of an own one. -/
theorem own_rows {K : Kn} {pl : Pl} {w : World} {k : Nat} {e : TypeId} {sz ver : Nat} {m : List D} (h : EntOk K pl w k (.arr e sz ver m)) :
    ∃ v ao n c us, pl k ver = some v ∧ v = .slice ao n c ∧ n = m.length ∧ RepL K pl0 m us ∧ sized sz us ∧ (ao = none → m.length = 0 ∧ c = 0) ∧ (∀ ad, ao = some ad → ∀ j u, (flat us)[j]? = some u → w.cell? (ad.add j) = some u) := by
  obtain ⟨v, us, h1, h2, h3, h4, h5, h6⟩ := h
  rcases h2.2 with ⟨rfl, h7⟩ | ⟨g, cap, cur, rfl, _, h9, h10, h11, h12, h13⟩
  · exact ⟨_, none, 0, 0, us, h1, rfl, h7.symm, h3, h4, fun _ => ⟨h7, rfl⟩, nofun⟩
  · refine ⟨_, _, _, _, us, h1, rfl, rfl, h3, h4, nofun, fun ad had j u hju => ?_⟩
    cases had
    exact h2.cells (g := g) rfl j u hju

theorem app_core {F : Fr} {K : Kn} {pl : Pl} {w : World} {t e : TypeId} {i : TypeInfo} {z : Value} (ht : P.underlying t = some (.slice e)) (hinf : P.info? e = some i) (hz : i.zero = some z) (hzs : z.cells.size = i.size) (hsz : 0 < i.size) (hby : i.bytes ≤ 64)
    (hi : Inv F K pl bx w) {k ver : Nat} {rows m : List D} (hk : bx[k]? = some (.arr e i.size ver rows)) {v0 : Value} (hv : pl k ver = some v0) {us : List Value} (hu1 : RepL K pl0 m us) (hu2 : sized i.size us) {ao : Option Addr} {c : Nat}
    (hao : ao = none → m.length = 0 ∧ c = 0) (hu3 : ∀ ad, ao = some ad → ∀ j u, (flat us)[j]? = some u → w.cell? (ad.add j) = some u) (hlt : rows.length + m.length < 2147483648) :
    ∃ v' w', (Builtin.append_ #[t, t] ty #[v0, .slice ao m.length c]).run P w = .ok v' w' ∧ PLe pl (updPl pl k (ver + 1) v') ∧ Inv F K (updPl pl k (ver + 1) v') (bx.set k (.arr e i.size (ver + 1) (rows ++ m))) w' ∧ ∃ a n c, v' = .slice a n c := by
  obtain ⟨v, vs, h3, h4, h5, h6, h7, h8⟩ := hi.tab.ok k _ hk
  rw [hv] at h3; cases h3
  have hul : (flat us).length = m.length * i.size := by rw [flat_length hu2, hu1.length]
  obtain ⟨v', w', h16, h17, h18, h19⟩ := run_append_all (P := P) (ty := ty) ht hinf hz hzs hsz hby h4 hul hao hu3 (flat_one hu2) hlt
  have hpl : PLe pl (updPl pl k (ver + 1) v') := updPl_le (h8 (ver + 1) (by omega))
  have hslice := owns_slice h17
  have hsl0 := owns_slice h4
  have hblk0 : ∀ b, v0.ownBlock = some b ↔ entBlk pl k (.arr e i.size ver rows) = some b := fun b => by
    simp only [entBlk, hv, Option.bind_some]; exact (blkV_own hsl0).symm
  refine ⟨v', w', h16, hpl, hi.upd hk hpl (fun k' ver' hne => updPl_ne (.inl hne)) (fun b hb => ?_) ⟨h18.os, h18.tape, h18.output, h18.size, fun b hb hn => h18.block b hb fun heq => hn ((hblk0 b).1 heq.symm)⟩ ?_, hslice⟩
  · simp only [entBlk, updPl_self, Option.bind_some] at hb
    rcases h19 b ((blkV_own hslice).1 hb) with h20 | h20
    · exact .inl ((hblk0 b).1 h20)
    · exact .inr h20
  · refine ⟨v', vs ++ us, updPl_self _ _ _ _, by simpa [flat_append] using h17, h5.append hu1, fun u hu => ?_, fun b hb => ?_, fun ver' hlt' => ?_⟩
    · rcases List.mem_append.1 hu with hu | hu
      · exact h6 u hu
      · exact hu2 u hu
    · rcases h19 b hb with h20 | h20
      · exact h7 b h20
      · cases hK : K b with
        | none => rfl
        | some o => have := (Array.getElem?_eq_some_iff.1 (hi.mod _ _ hK)).1; omega
    · rw [updPl_ne (.inr (by omega))]; exact h8 ver' (by omega)

theorem ok_app {t e : TypeId} {i : TypeInfo} {z : Value} {x y : Operand} {x' y' : X} (ht : P.underlying t = some (.slice e)) (hinf : P.info? e = some i) (hz : i.zero = some z) (hzs : z.cells.size = i.size) (hsz : 0 < i.size) (hby : i.bytes ≤ 64)
    (hx : opX P t x = some x') (hy : opX P t y = some y') :
    ResOk P gt ⟨dst, .call { callee := .builtin .append, args := #[x, y], argTypes := #[t, t] }, ty, pos, after, guard⟩ (.app e i.size i.bytes x' y') g env bx (stepF gt (.app e i.size i.bytes x' y') g env bx) := by
  simp only [stepF]
  split
  · cases hd : evX env [] x' with
    | none => simp [stepApp, ResOk]
    | some d0 =>
      cases d0 <;> try (simp [stepApp, ResOk]; done)
      rename_i k ver
      cases he : evX env [] y' with
      | none => simp [stepApp, ResOk]
      | some d1 =>
        cases d1 <;> try (simp [stepApp, ResOk]; done)
        case ls sz' m =>
          simp only [stepApp]
          split
          · rename_i e' sz'' ver' rows hk
            rw [entN_eq] at hk
            intro F K pl w a hF hi hs hg hq
            have h1 := ev_ok (K := K) (pl := pl) hx (fun s hs' => hs s (xslL hs')) (holds_nil a) hd
            have h2 := ev_ok (K := K) (pl := pl) hy (fun s hs' => hs s (xslR hs')) (holds_nil a) he
            obtain ⟨rfl, rfl, rfl, rfl, hlt⟩ := hq _ (List.mem_singleton.2 rfl)
            obtain ⟨ao, n, c, us, h9, rfl, hu1, hu2, hao, hu3⟩ := ls_rows hi.mod h2
            simp only [Rep] at h1
            obtain ⟨v', w', h16, h17, h18, h19⟩ := app_core (P := P) (ty := ty) ht hinf hz hzs hsz hby hi hk h1.1 hu1 hu2 hao hu3 hlt
            rw [setE_eq]
            exact ⟨v', w', K, _, .inl (run_builtin_op (cs := #[]) (fun cs => rfl) (by simp only [List.map_toArray, List.map_cons, List.map_nil]; rw [h9]; exact run_lift h16)), KLe.refl _, h17, h18, by simp only [Rep]; exact ⟨updPl_self _ _ _ _, h19⟩⟩
          · trivial
        case own k2 ver2 =>
          simp only [stepApp]
          split
          · rename_i e' sz'' ver' rows _ sz' ver2' m hk hk2
            rw [entN_eq] at hk hk2
            split
            · rename_i hne
              intro F K pl w a hF hi hs hg hq
              have h1 := ev_ok (K := K) (pl := pl) hx (fun s hs' => hs s (xslL hs')) (holds_nil a) hd
              have h2 := ev_ok (K := K) (pl := pl) hy (fun s hs' => hs s (xslR hs')) (holds_nil a) he
              obtain ⟨rfl, rfl, rfl, rfl, rfl, hlt⟩ := hq _ (List.mem_singleton.2 rfl)
              obtain ⟨v2, ao, n, c, us, h8, h9, rfl, hu1, hu2, hao, hu3⟩ := own_rows (hi.tab.ok _ _ hk2)
              simp only [Rep] at h1 h2
              rw [h2.1] at h8; cases h8
              obtain ⟨v', w', h16, h17, h18, h19⟩ := app_core (P := P) (ty := ty) ht hinf hz hzs hsz hby hi hk h1.1 hu1 hu2 hao hu3 hlt
              rw [setE_eq]
              exact ⟨v', w', K, _, .inl (run_builtin_op (cs := #[]) (fun cs => rfl) (by simp only [List.map_toArray, List.map_cons, List.map_nil]; rw [h9]; exact run_lift h16)), KLe.refl _, h17, h18, by simp only [Rep]; exact ⟨updPl_self _ _ _ _, h19⟩⟩
            · trivial
          · trivial
  · trivial

/-! ### Copies -/
theorem minN_eq (a b : Nat) : minN a b = Nat.min a b := by
  unfold minN; split
  · rename_i h; exact (Nat.min_eq_left h).symm
  · rename_i h; exact (Nat.min_eq_right (by omega)).symm

theorem set_same {α : Type} {x : α} : ∀ {l : List α} {k : Nat}, l[k]? = some x → l.set k x = l
  | [], _, h => by simp at h
  | y :: l, 0, h => by simp at h; simp [h]
  | y :: l, k + 1, h => by simp at h; simp [set_same h]

def overV (vs us : List Value) : List Value := us.take vs.length ++ vs.drop (minN us.length vs.length)

theorem RepL.over {K : Kn} {pl : Pl} {rows m : List D} {vs us : List Value} (h : RepL K pl rows vs) (h' : RepL K pl m us) : RepL K pl (AM.over rows m) (overV vs us) := by
  unfold AM.over overV
  rw [h.length, h'.length]
  exact (h'.take _).append (h.drop _)

theorem cpy_core {F : Fr} {K : Kn} {pl : Pl} {w : World} {t e : TypeId} {sz : Nat} (ht : P.underlying t = some (.slice e)) (hinf : szOf P e = some sz) (hsz : 0 < sz)
    (hi : Inv F K pl bx w) {k ver : Nat} {rows m : List D} (hk : bx[k]? = some (.arr e sz ver rows)) {v0 : Value} (hv : pl k ver = some v0) {us : List Value} (hu1 : RepL K pl0 m us) (hu2 : sized sz us) {ao : Option Addr} {c : Nat}
    (hao : ao = none → m.length = 0) (hu3 : ∀ ad, ao = some ad → ∀ j u, (flat us)[j]? = some u → w.cell? (ad.add j) = some u) :
    ∃ w', (Builtin.copy_ #[t, t] ty #[v0, .slice ao m.length c]).run P w = .ok (.int .i64 (minN m.length rows.length)) w' ∧ Inv F K pl (bx.set k (.arr e sz ver (over rows m))) w' := by
  obtain ⟨v, vs, h3, h4, h5, h6, h7, h8⟩ := hi.tab.ok k _ hk
  rw [hv] at h3; cases h3
  have hvl := h5.length
  have hul := hu1.length
  have hn1 : minN m.length rows.length ≤ us.length := by unfold minN; split <;> omega
  have hn2 : minN m.length rows.length ≤ vs.length := by unfold minN; split <;> omega
  have hn3 : minN us.length vs.length = minN m.length rows.length := by rw [hul, hvl]
  have hsp := flat_split hu2 _ hn1
  have hspv := flat_split h6 _ hn2
  have hlen : (flat (us.take (minN m.length rows.length))).length = minN m.length rows.length * sz := by rw [flat_length (hu2.take _), List.length_take, Nat.min_eq_left hn1]
  have hover : overV vs us = us.take (minN m.length rows.length) ++ vs.drop (minN m.length rows.length) := by
    unfold overV
    rw [hn3]
    congr 1
    unfold minN
    split
    · rw [List.take_of_length_le (by omega), List.take_of_length_le (by omega)]
    · rw [hvl]
  have hovl : (over rows m).length = rows.length := by unfold over minN; split <;> simp <;> omega
  have hovs : sized sz (overV vs us) := fun u hu => by
    rw [hover] at hu
    rcases List.mem_append.1 hu with hu | hu
    · exact (hu2.take _) u hu
    · exact (h6.drop _) u hu
  have hfirst : (Builtin.firstCells sz (minN m.length rows.length) (.slice ao m.length c)).run P w = .ok (flat (us.take (minN m.length rows.length))).toArray w := by
    cases ao with
    | none =>
      have h0 : minN m.length rows.length = 0 := by have := hao rfl; unfold minN; split <;> omega
      rw [h0, run_firstCells_none]; simp [flat]
    | some ad =>
      refine run_firstCells_some w sz _ ad m.length c _ hlen fun j u hu => hu3 ad rfl j u ?_
      rw [← hsp.1, List.getElem?_take] at hu
      split at hu
      · exact hu
      · cases hu
  have hsr := run_sizeOf' hinf w
  rcases h4.2 with ⟨rfl, h9⟩ | ⟨g', cap, cur, rfl, h9, h10, h11, h12, h13, h14⟩
  · have h0 : minN m.length rows.length = 0 := by unfold minN; split <;> omega
    refine ⟨w, ?_, ?_⟩
    · rw [h0] at hfirst
      have h0' : Nat.min m.length 0 = 0 := Nat.min_zero _
      rw [h0]
      simp [Builtin.copy_, Sem.run_bind, run_underlying ht, Builtin.lenOf, h0', hsr, hfirst, goInt]
    · have e1 : over rows m = rows := by
        have := List.eq_nil_of_length_eq_zero h9; subst this
        simp [over]
      rw [e1, set_same hk]; exact hi
  · have hmin : Nat.min m.length rows.length = minN m.length rows.length := (minN_eq _ _).symm
    have hfit : 0 + 0 + (flat (us.take (minN m.length rows.length))).length ≤ cur.size := by
      rw [hlen, h13]
      have : minN m.length rows.length * sz ≤ cap * sz := Nat.mul_le_mul_right _ (by unfold minN; split <;> omega)
      omega
    have hst := run_storeCells_at P g' 0 e (flat (us.take (minN m.length rows.length))) 0 cur w h10 hfit (flat_one (hu2.take _))
    refine ⟨_, ?_, hi.upd (w' := w.setRow g' (flat (us.take (minN m.length rows.length)) ++ cur.toList.drop (minN m.length rows.length * sz)).toArray) hk (PLe.refl _) (fun _ _ _ => rfl) (fun b hb => .inl (by simpa [entBlk] using hb)) ⟨rfl, rfl, rfl, by simp, fun c hc hn' => setRow_other _ _ _ _ (fun e' => hn' (by simp [entBlk, hv, blkV, e']))⟩ ?_⟩
    · simp only [Nat.add_zero, List.take_zero, List.nil_append, Nat.zero_add, hlen] at hst
      simp [Builtin.copy_, Sem.run_bind, run_underlying ht, Builtin.lenOf, hmin, hsr, hfirst, goInt, hst]
    · refine ⟨_, overV vs us, hv, ⟨?_, .inr ⟨g', cap, _, by rw [hovl], Nat.zero_le _, setRow_heap w g' _ _ e _ h10, by rw [hovl]; exact h11, h12, ?_, ?_⟩⟩, h5.over hu1, hovs, h7, h8⟩
      · rw [flat_length hovs, (h5.over hu1).length]
      · simp [hlen, h13]
        have : minN m.length rows.length * sz ≤ cap * sz := Nat.mul_le_mul_right _ (by unfold minN; split <;> omega)
        omega
      · rw [hovl, hover, flat_append, ← hspv.2]
        have hb : minN m.length rows.length * sz ≤ rows.length * sz := Nat.mul_le_mul_right _ (by omega)
        simp only [List.take_append, hlen]
        rw [List.take_of_length_le (by omega)]
        congr 1
        rw [← h14, List.drop_take]

theorem ok_cpy {t e : TypeId} {i : TypeInfo} {x y : Operand} {x' y' : X} (ht : P.underlying t = some (.slice e)) (hinf : P.info? e = some i) (hsz : 0 < i.size) (hx : opX P t x = some x') (hy : opX P t y = some y') :
    ResOk P gt ⟨dst, .call { callee := .builtin .copy, args := #[x, y], argTypes := #[t, t] }, ty, pos, after, guard⟩ (.cpy e i.size x' y') g env bx (stepF gt (.cpy e i.size x' y') g env bx) := by
  have hso : szOf P e = some i.size := by simp [szOf, hinf]
  simp only [stepF]
  split
  · cases hd : evX env [] x' with
    | none => simp [stepCpy, ResOk]
    | some d0 =>
      cases d0 <;> try (simp [stepCpy, ResOk]; done)
      rename_i k ver
      cases he : evX env [] y' with
      | none => simp [stepCpy, ResOk]
      | some d1 =>
        cases d1 <;> try (simp [stepCpy, ResOk]; done)
        case ls sz' m =>
          simp only [stepCpy]
          split
          · rename_i e' sz'' ver' rows hk
            rw [entN_eq] at hk
            intro F K pl w a hF hi hs hg hq
            have h1 := ev_ok (K := K) (pl := pl) hx (fun s hs' => hs s (xslL hs')) (holds_nil a) hd
            have h2 := ev_ok (K := K) (pl := pl) hy (fun s hs' => hs s (xslR hs')) (holds_nil a) he
            obtain ⟨rfl, rfl, rfl, rfl⟩ := hq _ (List.mem_singleton.2 rfl)
            obtain ⟨ao, n, c, us, h9, rfl, hu1, hu2, hao, hu3⟩ := ls_rows hi.mod h2
            simp only [Rep] at h1
            obtain ⟨w', h16, h18⟩ := cpy_core (P := P) (ty := ty) (c := c) ht hso hsz hi hk h1.1 hu1 hu2 (fun h => (hao h).1) hu3
            rw [setE_eq]
            exact ⟨_, w', K, pl, .inl (run_builtin_op (cs := #[]) (fun cs => rfl) (by simp only [List.map_toArray, List.map_cons, List.map_nil]; rw [h9]; exact run_lift h16)), KLe.refl _, PLe.refl _, h18, by simp only [Rep]⟩
          · trivial
        case own k2 ver2 =>
          simp only [stepCpy]
          split
          · rename_i e' sz'' ver' rows _ sz' ver2' m hk hk2
            rw [entN_eq] at hk hk2
            split
            · rename_i hne
              intro F K pl w a hF hi hs hg hq
              have h1 := ev_ok (K := K) (pl := pl) hx (fun s hs' => hs s (xslL hs')) (holds_nil a) hd
              have h2 := ev_ok (K := K) (pl := pl) hy (fun s hs' => hs s (xslR hs')) (holds_nil a) he
              obtain ⟨rfl, rfl, rfl, rfl, rfl⟩ := hq _ (List.mem_singleton.2 rfl)
              obtain ⟨v2, ao, n, c, us, h8, h9, rfl, hu1, hu2, hao, hu3⟩ := own_rows (hi.tab.ok _ _ hk2)
              simp only [Rep] at h1 h2
              rw [h2.1] at h8; cases h8
              obtain ⟨w', h16, h18⟩ := cpy_core (P := P) (ty := ty) (c := c) ht hso hsz hi hk h1.1 hu1 hu2 (fun h => (hao h).1) hu3
              rw [setE_eq]
              exact ⟨_, w', K, pl, .inl (run_builtin_op (cs := #[]) (fun cs => rfl) (by simp only [List.map_toArray, List.map_cons, List.map_nil]; rw [h9]; exact run_lift h16)), KLe.refl _, PLe.refl _, h18, by simp only [Rep]⟩
            · trivial
          · trivial
        case bsl k2 base sz2 len =>
          simp only [stepCpy]
          split
          · rename_i e' sz'' ver' rows l hk hk2
            rw [entN_eq] at hk hk2
            split
            · rename_i h1s
              have h1s := Nat.eq_of_beq_eq_true h1s
              intro F K pl w a hF hi hs hg hq
              have h1 := ev_ok (K := K) (pl := pl) hx (fun s hs' => hs s (xslL hs')) (holds_nil a) hd
              have h2 := ev_ok (K := K) (pl := pl) hy (fun s hs' => hs s (xslR hs')) (holds_nil a) he
              obtain ⟨rfl, rfl, rfl, rfl, hfit, hcl⟩ := hq _ (List.mem_singleton.2 rfl)

              simp only [Rep] at h1 h2
              obtain ⟨b, o, c, h3, h4, h5, h6⟩ := h2
              obtain ⟨b', T, cs, h7, h8, h9, h10, h11⟩ := hi.tab.ok k2 _ hk2
              rw [h3] at h7; cases h7
              have hu1 := closedL_rep _ _ hcl ((h10.drop base).take len)
              have hul := hu1.length
              have hml : ((l.drop base).take len).length = len := by simp; omega
              have hcell : ∀ u ∈ (cs.drop base).take len, u.oneCell' = true := fun u hu => h11 u (List.mem_of_mem_drop (List.mem_of_mem_take hu))
              have hone : ∀ u : Value, u.oneCell' = true → u.cells = #[u] := fun u hu => by cases u <;> first | rfl | (simp [Value.oneCell'] at hu)
              have hu2 : sized i.size ((cs.drop base).take len) := fun u hu => by
                have := hcell u hu
                rw [hone u this]
                exact ⟨h1s.symm, by simp [this]⟩
              have hflat : ∀ vs : List Value, (∀ u ∈ vs, u.oneCell' = true) → flat vs = vs := fun vs => by
                induction vs with
                | nil => intro _; rfl
                | cons v vs ih =>
                  intro h
                  have h1 := hone v (h v (by simp))
                  have h2 := ih fun u hu => h u (by simp [hu])
                  simp only [flat, List.flatMap_cons] at h2 ⊢
                  rw [h2, h1]; rfl
              have key := cpy_core (P := P) (ty := ty) (c := c) (ao := some ⟨b, o, none⟩) ht hso hsz hi hk h1.1 hu1 hu2 nofun (fun ad had j u hju => by
                cases had
                rw [Addr.add_mid]
                rw [hflat _ hcell] at hju
                rcases h6 with h6 | h6
                · subst h6; simp at hju
                · subst h6
                  rw [cell_of_heap h9, List.getElem?_toArray]
                  rw [List.getElem?_take] at hju
                  split at hju
                  · rwa [List.getElem?_drop] at hju
                  · cases hju)
              obtain ⟨w', h16, h18⟩ := key
              rw [hml] at h16
              rw [setE_eq]
              exact ⟨_, w', K, pl, .inl (run_builtin_op (cs := #[]) (fun cs => rfl) (by simp only [List.map_toArray, List.map_cons, List.map_nil]; rw [h4]; exact run_lift h16)), KLe.refl _, PLe.refl _, h18, by simp only [Rep]⟩
            · trivial
          · trivial
  · trivial
end
end Go.AM
