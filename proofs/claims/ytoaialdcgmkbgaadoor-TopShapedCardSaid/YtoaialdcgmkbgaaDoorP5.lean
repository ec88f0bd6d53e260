
/- Regions: turned, made thinner and wider; bits (no program in sight). -/
import Derived.Test.YtoaialdcgmkbgaaDoorP4
set_option linter.all false
namespace Go.AM

theorem pts_map {f : Rc → Rc} {l : List Rc} {x y x' y' : Int} (h : ∀ r ∈ l, (f r).has x y ↔ r.has x' y') : pts (l.map f) x y ↔ pts l x' y' := by
  unfold pts
  constructor
  · rintro ⟨q, hq, hh⟩
    obtain ⟨r, hr, rfl⟩ := List.mem_map.1 hq
    exact ⟨r, hr, (h r hr).1 hh⟩
  · rintro ⟨r, hr, hh⟩
    exact ⟨_, List.mem_map.2 ⟨r, hr, rfl⟩, (h r hr).2 hh⟩
def turnR (r : Rc) : Rc := ⟨r.y, r.x, r.h, r.w⟩
def thinR (n : Int) (r : Rc) : Rc := ⟨r.x + n, r.y, r.w - 2 * n, r.h⟩
def widR (n : Int) (r : Rc) : Rc := ⟨r.x - n, r.y - n, r.w + 2 * n, r.h + 2 * n⟩
def flxR (w : Int) (r : Rc) : Rc := ⟨w - r.x - r.w, r.y, r.w, r.h⟩
def flyR (h : Int) (r : Rc) : Rc := ⟨r.x, h - r.y - r.h, r.w, r.h⟩
theorem pts_turn {l : List Rc} {x y : Int} : pts (l.map turnR) x y ↔ pts l y x := pts_map fun r _ => by
  unfold Rc.has turnR; dsimp only; omega
theorem pts_flx {l : List Rc} {w x y : Int} : pts (l.map (flxR w)) x y ↔ pts l (w - 1 - x) y := pts_map fun r _ => by
  unfold Rc.has flxR; dsimp only; omega
theorem pts_fly {l : List Rc} {h x y : Int} : pts (l.map (flyR h)) x y ↔ pts l x (h - 1 - y) := pts_map fun r _ => by
  unfold Rc.has flyR; dsimp only; omega
theorem pts_thin {l : List Rc} (h : Canon l) (n : Nat) (x y : Int) : pts (l.map (thinR n)) x y ↔ ∀ d : Int, -n ≤ d → d ≤ n → pts l (x + d) y := by
  rw [← canon_thin h n x y]
  unfold pts
  constructor
  · rintro ⟨q, hq, hh⟩
    obtain ⟨r, hr, rfl⟩ := List.mem_map.1 hq
    exact ⟨r, hr, hh⟩
  · rintro ⟨r, hr, hh⟩
    exact ⟨_, List.mem_map.2 ⟨r, hr, rfl⟩, hh⟩
theorem pts_wid {l : List Rc} (hp : ∀ r ∈ l, Pos r) (n : Nat) (x y : Int) : pts (l.map (widR n)) x y ↔ ∃ a b : Int, (-n ≤ a ∧ a ≤ n) ∧ (-n ≤ b ∧ b ≤ n) ∧ pts l (x + a) (y + b) := by
  constructor
  · rintro ⟨q, hq, h1, h2⟩
    obtain ⟨r, hr, rfl⟩ := List.mem_map.1 hq
    have := hp r hr
    unfold Pos at this
    unfold widR at h1 h2
    dsimp only at h1 h2
    have key : ∀ (r0 rw x : Int), 0 < rw → r0 - n ≤ x → x < r0 - n + (rw + 2 * n) → ∃ a : Int, (-n ≤ a ∧ a ≤ n) ∧ r0 ≤ x + a ∧ x + a < r0 + rw := fun r0 rw x h3 h4 h5 => by
      by_cases h6 : x < r0
      · exact ⟨r0 - x, by omega, by omega, by omega⟩
      · by_cases h7 : r0 + rw ≤ x
        · exact ⟨r0 + rw - 1 - x, by omega, by omega, by omega⟩
        · exact ⟨0, by omega, by omega, by omega⟩
    obtain ⟨a, ha, ha2⟩ := key r.x r.w x this.1 h1.1 h1.2
    obtain ⟨b, hb, hb2⟩ := key r.y r.h y this.2 h2.1 h2.2
    exact ⟨a, b, ha, hb, r, hr, ha2, hb2⟩
  · rintro ⟨a, b, ha, hb, r, hr, h1, h2⟩
    exact ⟨_, List.mem_map.2 ⟨r, hr, rfl⟩, by unfold widR; dsimp only; omega, by unfold widR; dsimp only; omega⟩
/-- Those without a place count for nothing. -/
theorem allL_pts {l : List Rc} (h : ∀ r ∈ l, Pos r → Vr r) {x y : Int} : pts (l.filter cntB) x y ↔ pts l x y := by
  unfold pts
  constructor
  · rintro ⟨r, hr, hh⟩
    exact ⟨r, (List.mem_filter.1 hr).1, hh⟩
  · rintro ⟨r, hr, hh⟩
    refine ⟨r, List.mem_filter.2 ⟨hr, cntB_iff.2 (h r hr ?_)⟩, hh⟩
    unfold Rc.has at hh
    unfold Pos; omega
theorem filt_vr {l : List Rc} : ∀ r ∈ l.filter cntB, Vr r := fun r hr => cntB_iff.1 (List.mem_filter.1 hr).2
def Ero (n : Int) (P : Int → Int → Prop) : Int → Int → Prop := fun x y => ∀ d : Int, -n ≤ d → d ≤ n → P (x + d) y
def EroY (n : Int) (P : Int → Int → Prop) : Int → Int → Prop := fun x y => ∀ d : Int, -n ≤ d → d ≤ n → P x (y + d)
def Dil (n : Int) (P : Int → Int → Prop) : Int → Int → Prop := fun x y => ∃ a b : Int, (-n ≤ a ∧ a ≤ n) ∧ (-n ≤ b ∧ b ≤ n) ∧ P (x + a) (y + b)
theorem ero_sub {n : Int} (hn : 0 ≤ n) {P : Int → Int → Prop} {x y : Int} (h : Ero n P x y) : P x y := by
  have := h 0 (by omega) hn
  rwa [Int.add_zero] at this
theorem eroY_sub {n : Int} (hn : 0 ≤ n) {P : Int → Int → Prop} {x y : Int} (h : EroY n P x y) : P x y := by
  have := h 0 (by omega) hn
  rwa [Int.add_zero] at this
/-- Grown, and grown back, no place is lost. -/
theorem close_sub {n : Int} {P : Int → Int → Prop} {x y : Int} (h : P x y) : EroY n (Ero n (Dil n P)) x y := fun e h1 h2 d h3 h4 =>
  ⟨-d, -e, by omega, by omega, by rwa [show x + d + -d = x by omega, show y + e + -e = y by omega]⟩
theorem inner_sub {n : Int} (hn : 0 ≤ n) {P : Int → Int → Prop} {x y : Int} (h : EroY n (Ero n P) x y) : Ero n P x y ∧ EroY n P x y :=
  ⟨eroY_sub hn h, fun e h1 h2 => ero_sub hn (h e h1 h2)⟩

/-! ### Bits -/
def IsBits (P : Int → Int → Prop) (stride n : Nat) (s : List UInt8) : Prop :=
  s.length = n ∧ ∀ k b, k < n → b < 8 → ((s[k]!.toNat).testBit b = true ↔ P (((k % stride * 8 + b : Nat) : Int)) ((k / stride : Nat) : Int))
theorem bits_eq {P : Int → Int → Prop} {stride n : Nat} {s t : List UInt8} (hs : IsBits P stride n s) (ht : IsBits P stride n t) : s = t := by
  refine List.ext_getElem (by rw [hs.1, ht.1]) fun k h1 h2 => ?_
  have hk : k < n := by rw [← hs.1]; exact h1
  apply UInt8.toNat_inj.1
  refine Nat.eq_of_testBit_eq fun b => ?_
  rcases Nat.lt_or_ge b 8 with hb | hb
  · have e1 := hs.2 k b hk hb
    have e2 := ht.2 k b hk hb
    rw [getElem!_pos s k h1] at e1
    rw [getElem!_pos t k h2] at e2
    rw [Bool.eq_iff_iff, e1, e2]
  · have hlt : ∀ u : UInt8, u.toNat.testBit b = false := fun u => Nat.testBit_lt_two_pow (Nat.lt_of_lt_of_le u.toNat_lt (Nat.pow_le_pow_right (n := 2) (by omega) hb))
    rw [hlt, hlt]
open Classical in
noncomputable def bitsS (P : Int → Int → Prop) (stride n : Nat) : List UInt8 := if h : ∃ s, IsBits P stride n s then h.choose else []
theorem bitsS_eq {P : Int → Int → Prop} {stride n : Nat} {s : List UInt8} (hs : IsBits P stride n s) : bitsS P stride n = s := by
  have h : ∃ s, IsBits P stride n s := ⟨s, hs⟩
  unfold bitsS
  rw [dif_pos h]
  exact bits_eq h.choose_spec hs
def bitAt (s : List UInt8) (p : Nat) : Bool := (s[p / 8]!.toNat).testBit (p % 8)
def onP (stride p : Nat) : Int × Int := (((p / 8 % stride * 8 + p % 8 : Nat) : Int), ((p / 8 / stride : Nat) : Int))
/-- The places whose bits are 1, from place p on. -/
def onesAt (stride : Nat) (s : List UInt8) : Nat → Nat → List (Int × Int)
  | _, 0 => []
  | p, n + 1 => if bitAt s p then onP stride p :: onesAt stride s (p + 1) n else onesAt stride s (p + 1) n
theorem onesAt_mem {stride : Nat} {s : List UInt8} {q : Int × Int} : ∀ {n p : Nat}, q ∈ onesAt stride s p n ↔ ∃ k, p ≤ k ∧ k < p + n ∧ bitAt s k = true ∧ q = onP stride k
  | 0, p => by simp [onesAt]; intros; omega
  | n + 1, p => by
    have ih := onesAt_mem (stride := stride) (s := s) (q := q) (n := n) (p := p + 1)
    unfold onesAt
    constructor
    · intro h
      split at h
      · rename_i hb
        rcases List.mem_cons.1 h with rfl | h
        · exact ⟨p, Nat.le_refl _, by omega, hb, rfl⟩
        · obtain ⟨k, h1, h2, h3⟩ := ih.1 h
          exact ⟨k, by omega, by omega, h3⟩
      · obtain ⟨k, h1, h2, h3⟩ := ih.1 h
        exact ⟨k, by omega, by omega, h3⟩
    · rintro ⟨k, h1, h2, h3, h4⟩
      rcases Nat.lt_or_ge p k with h5 | h5
      · have := ih.2 ⟨k, h5, by omega, h3, h4⟩
        split
        · exact List.mem_cons_of_mem _ this
        · exact this
      · have : k = p := by omega
        subst this
        rw [if_pos h3, h4]; exact List.mem_cons_self ..
theorem onesAt_len {stride : Nat} {s : List UInt8} : ∀ (n p : Nat), (onesAt stride s p n).length ≤ n
  | 0, p => by simp [onesAt]
  | n + 1, p => by
    have := onesAt_len (stride := stride) (s := s) n (p + 1)
    unfold onesAt
    split
    · simp only [List.length_cons]; omega
    · omega
/-- The ones of a region's bits are its places. -/
theorem ones_bits {P : Int → Int → Prop} {stride rows : Nat} {s : List UInt8} (hs : IsBits P stride (stride * rows) s) (h0 : 0 < stride) (hP : ∀ x y, P x y → (0 ≤ x ∧ x < 8 * stride) ∧ 0 ≤ y ∧ y < rows) (x y : Int) :
    (x, y) ∈ onesAt stride s 0 (8 * s.length) ↔ P x y := by
  rw [onesAt_mem]
  constructor
  · rintro ⟨k, _, h2, h3, h4⟩
    have hk : k / 8 < stride * rows := by rw [← hs.1]; omega
    have := (hs.2 (k / 8) (k % 8) hk (Nat.mod_lt _ (by omega))).1 h3
    simp only [onP, Prod.mk.injEq] at h4
    rw [h4.1, h4.2]; exact this
  · intro h
    obtain ⟨⟨hx0, hx1⟩, hy0, hy1⟩ := hP x y h
    obtain ⟨a, rfl⟩ : ∃ a : Nat, x = a := ⟨x.toNat, by omega⟩
    obtain ⟨c, rfl⟩ : ∃ c : Nat, y = c := ⟨y.toNat, by omega⟩
    have ha : a / 8 < stride := by omega
    have hmul : stride * c + a / 8 < stride * rows := by
      have : stride * (c + 1) ≤ stride * rows := Nat.mul_le_mul_left _ (by omega)
      rw [Nat.mul_succ] at this; omega
    have e1 : (stride * c + a / 8) % stride = a / 8 := by rw [Nat.mul_add_mod, Nat.mod_eq_of_lt ha]
    have e2 : (stride * c + a / 8) / stride = c := by rw [Nat.mul_add_div h0, Nat.div_eq_of_lt ha]; omega
    have e3 : (8 * (stride * c + a / 8) + a % 8) / 8 = stride * c + a / 8 := by omega
    have e4 : (8 * (stride * c + a / 8) + a % 8) % 8 = a % 8 := by omega
    refine ⟨8 * (stride * c + a / 8) + a % 8, Nat.zero_le _, by rw [hs.1]; omega, ?_, ?_⟩
    · unfold bitAt
      rw [e3, e4]
      refine (hs.2 _ _ hmul (Nat.mod_lt _ (by omega))).2 ?_
      rw [e1, e2, show a / 8 * 8 + a % 8 = a by omega]; exact h
    · simp only [onP, e3, e4, e1, e2, Prod.mk.injEq]
      exact ⟨by congr 1; omega, trivial⟩
end Go.AM
