/- Contracts of the small range tests of both packages. -/
import Derived.Test.YtpfbkmpjneclpaaRows
import Derived.WalkKit
import Derived.Lib.Hide
import Derived.Deep.Draws
namespace Go.Proofs.Ytpfbkmpjneclpaa
open Go.RowKit

/-- n is lo to hi. -/
def inB (n lo hi : Int) : Bool := decide (lo ≤ n) && decide (n ≤ hi)
theorem inB_iff {n lo hi : Int} : inB n lo hi = true ↔ lo ≤ n ∧ n ≤ hi := by simp [inB]
theorem inB_not {n lo hi : Int} : inB n lo hi = false ↔ ¬ (lo ≤ n ∧ n ≤ hi) := by
  rw [← inB_iff]; cases inB n lo hi <;> simp
theorem inB_lo {n lo hi : Int} (h : ¬ lo ≤ n) : inB n lo hi = false := by simp [inB, h]
theorem inB_hi {n lo hi : Int} (h : lo ≤ n) : inB n lo hi = decide (n ≤ hi) := by simp [inB, h]
/-- Draws turn no block. -/
theorem below_drewN (B : Nat) (w : World) (n : Nat) : Below B w (w.drewN n) := ⟨rfl, rfl, rfl, Nat.le_refl _, fun _ _ => rfl⟩
theorem belowN {B : Nat} {a w : World} (h : Below B a w) (n : Nat) : Below B a (w.drewN n) := ⟨h.os, h.tape, h.output, h.size, h.block⟩
theorem ret_bool {a b : Bool} (h : a = b) : Ending.returned (.bool a) = .returned (.bool b) := by rw [h]
theorem ret_int {a b : Int} (h : a = b) : Ending.returned (.int .i64 a) = .returned (.int .i64 b) := by rw [h]

theorem within_any (n lo hi : Int) (w : World) :
    Calls Try.prog 44 #[.int .i64 n, .int .i64 lo, .int .i64 hi] w fun e w' => e = .returned (.bool (inB n lo hi)) ∧ w = w' := by
  by_cases h1 : lo ≤ n
  · go_enter Try.func44, Try.ntmps44
    go_wp2
    go_ret
    exact ⟨ret_bool (inB_hi h1).symm, rfl⟩
  · go_enter Try.func44, Try.ntmps44
    go_wp2
    go_ret
    exact ⟨ret_bool (inB_lo (by omega)).symm, rfl⟩

theorem l1In_any (n lo hi : Int) (w : World) :
    Calls Try.prog 42 #[.int .i64 n, .int .i64 lo, .int .i64 hi] w fun e w' => e = .returned (.bool (inB n lo hi)) ∧ w = w' := by
  by_cases h1 : lo ≤ n
  · go_enter Try.func42, Try.ntmps42
    go_wp2
    go_ret
    exact ⟨ret_bool (inB_hi h1).symm, rfl⟩
  · go_enter Try.func42, Try.ntmps42
    go_wp2
    go_ret
    exact ⟨ret_bool (inB_lo (by omega)).symm, rfl⟩

theorem within_is {n lo hi : Int} {b : Bool} (h : inB n lo hi = b) (w : World) :
    Calls Try.prog 44 #[.int .i64 n, .int .i64 lo, .int .i64 hi] w fun e w' => e = .returned (.bool b) ∧ w = w' := by
  subst h; exact within_any _ _ _ _
theorem l1In_is {n lo hi : Int} {b : Bool} (h : inB n lo hi = b) (w : World) :
    Calls Try.prog 42 #[.int .i64 n, .int .i64 lo, .int .i64 hi] w fun e w' => e = .returned (.bool b) ∧ w = w' := by
  subst h; exact l1In_any _ _ _ _
end Go.Proofs.Ytpfbkmpjneclpaa
