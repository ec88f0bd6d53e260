
/- Chapter 28: the laws, from their arguments. -/
import Derived.Test.YtpbmbpahjdeahaaW22
import Derived.Test.YtpbmbpahjdeahaaRB
set_option linter.all false
namespace Go.Proofs.Ytpbmbpahjdeahaa
open Go.AM

theorem sh_act8 {n : Nat} {d : D} (h : Sh Try.prog (n + 2) 51 d) : ∃ a : Act8, a.Ok ∧ d = acD a := by
  obtain ⟨c, rfl, hc⟩ := sh_fs (ts := [5, 28, 28, 3]) (by kernel_rfl) h
  obtain ⟨_, _, rfl, h0, _, _, rfl, h1, _, _, rfl, h2, _, _, rfl, h3, rfl⟩ := hc
  obtain ⟨x, rfl, hx⟩ := shC_int (k := .u8) (by kernel_rfl) h0
  obtain ⟨y, rfl, hy⟩ := shC_int (k := .u32) (by kernel_rfl) h1
  obtain ⟨w, rfl, hw⟩ := shC_int (k := .u32) (by kernel_rfl) h2
  obtain ⟨s, rfl, _⟩ := shC_int (k := .i64) (by kernel_rfl) h3
  exact ⟨⟨x, y, w, s⟩, ⟨hx.1, hy⟩, rfl⟩
theorem sh_acts8 {n : Nat} {d : D} (h : Sh Try.prog (n + 3) 36 d) : ∃ l : List Act8, d = .ls 4 (acL l) ∧ ∀ a ∈ l, a.Ok := by
  obtain ⟨l, h1, h2, h3⟩ := sh_slice (g := acD) (Q := fun a => a.Ok) Try.underlying36 h fun r hr => sh_act8 hr
  exact ⟨l, h1, h3⟩
theorem treeMeets_law {dl : List D} (h : ShL Try.prog 8 [36, 28, 28] dl) : Sp Try.prog gtab 5 dl (.bool true) := by
  obtain ⟨d0, _, rfl, h0, d1, _, rfl, h1, d2, _, rfl, h2, rfl⟩ := h
  obtain ⟨l, rfl, hl⟩ := sh_acts8 h0
  obtain ⟨f, rfl, _⟩ := sh_int Try.underlying28 h1
  obtain ⟨g, rfl, _⟩ := sh_int Try.underlying28 h2
  exact sp_law28_TreeMeets hl f g
end Go.Proofs.Ytpbmbpahjdeahaa
