/- The contract of sameRecords on journals that are the same. -/
import Derived.Test.YthghngphamimgaaRecIn
import Derived.Deep.QuietTactic
import Derived.BigQuiet
namespace Go.Proofs.Ythghngphamimgaa
open Go.RowKit
set_option linter.unusedVariables false

set_option linter.unusedSimpArgs false in
set_option maxHeartbeats 2000000 in
theorem sameRecs_same (A B : Option Addr) (c d : Nat) (l : List Rc) (w : World) (h1 : RecsIn w A l) (h2 : RecsIn w B l) (hl : l.length ≤ 1000000) :
    Calls Try.prog 35 #[.slice A l.length c, .slice B l.length d] w fun e w' => e = .returned (.bool true) ∧ ∃ q, w' = w.drewN q := by
  have hb : ((l.length : Int) != l.length) = false := by simp
  go_enter Try.func35, Try.ntmps35
  go_wp2
  go_loopw [5] (fun x wr => ∃ i q : Nat, i ≤ l.length ∧ x = .int .i64 i ∧ wr = w.drewN q) (fun x _ => l.length - (intOf x).toNat)
  case atStart => exact ⟨0, 0, Nat.zero_le _, rfl, rfl⟩
  case round =>
    obtain ⟨i, q, hi, rfl, rfl⟩ := hrel
    by_cases hlt : i < l.length
    · obtain ⟨b1, o1, rfl, c1⟩ := h1 (by omega)
      obtain ⟨b2, o2, rfl, c2⟩ := h2 (by omega)
      obtain ⟨x1, x2, x3, x4⟩ := c1 i hlt
      obtain ⟨y1, y2, y3, y4⟩ := c2 i hlt
      obtain ⟨⟨r1, r2, r3, r4⟩, hr⟩ : ∃ r : Rc, r = l[i] := ⟨_, rfl⟩
      rw [← hr] at x1 x2 x3 x4 y1 y2 y3 y4
      simp only at x1 x2 x3 x4 y1 y2 y3 y4
      have i0 : (0 : Int) ≤ (i : Int) := by omega
      have i1 : (i : Int) < (l.length : Int) := by omega
      clear c1 c2 h1 h2 hr
      go_wp2
      go_quiet (fail)
      go_wp2
      go_roundw
      case rel => exact ⟨i + 1, _, by omega, by go_num, rfl⟩
      case measure => simp [intOf]; omega
    · go_wp2
      go_ret
      exact ⟨rfl, q, rfl⟩
end Go.Proofs.Ythghngphamimgaa
