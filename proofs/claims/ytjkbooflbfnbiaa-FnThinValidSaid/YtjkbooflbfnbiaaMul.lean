/- Contracts of bits.Mul64 and bits.Mul at 1 and a small number. -/
import Derived.Test.YtjkbooflbfnbiaaBase
import Derived.Laws.BitsAllLaws
namespace Go.Proofs.Ytjkbooflbfnbiaa
open Go.RowKit
set_option linter.unusedVariables false

theorem and_mask (n : Int) (h0 : 0 ≤ n) (h1 : n ≤ 1000) : bits BinOp.and IntKind.u64 n 4294967295 = n := by
  rw [u64_and n 4294967295 h0 (by omega) (by omega) (by omega)]
  obtain ⟨k, rfl⟩ := Int.eq_ofNat_of_zero_le h0
  have : k &&& 4294967295 = k % 2 ^ 32 := Nat.and_two_pow_sub_one_eq_mod k 32
  simp only [Int.toNat_natCast]
  rw [show ((4294967295 : Int).toNat) = 4294967295 from rfl, this]
  omega

theorem mul64_one (n : Int) (w : World) (h0 : 0 ≤ n) (h1 : n ≤ 1000) :
    Calls Try.prog 59 #[.int .u64 1, .int .u64 n] w fun e w' => e = .returned (.tuple #[.int .u64 0, .int .u64 n]) ∧ w = w' := by
  have hm := and_mask n h0 h1
  have hm0 := and_mask 0 (by omega) (by omega)
  have hm1 := and_mask 1 (by omega) (by omega)
  have hd : n / 4294967296 = 0 := by omega
  go_enter Try.func59, Try.ntmps59
  go_wp2
  go_ret2
  exact ⟨rfl, rfl⟩

theorem mul_one (n : Int) (w : World) (h0 : 0 ≤ n) (h1 : n ≤ 1000) :
    Calls Try.prog 54 #[.int .u64 1, .int .u64 n] w fun e w' => e = .returned (.tuple #[.int .u64 0, .int .u64 n]) ∧ w = w' := by
  go_enter Try.func54, Try.ntmps54
  go_wp2_with (go_at_call 59; refine (mul64_one n _ h0 h1).mono ?_; rintro e w' ⟨rfl, rfl⟩)
  go_ret2
  exact ⟨rfl, rfl⟩
end Go.Proofs.Ytjkbooflbfnbiaa
