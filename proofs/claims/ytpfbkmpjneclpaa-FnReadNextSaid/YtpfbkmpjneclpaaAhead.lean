/- Contracts of AheadValid and ReadNext, the program's and the reference's. -/
import Derived.Test.YtpfbkmpjneclpaaOpenS
import Derived.Deep.QuietTactic
import Derived.BigQuiet
namespace Go.Proofs.Ytpfbkmpjneclpaa
open Go.RowKit
set_option linter.unusedVariables false

/-- What is known about a reader is valid: next sector n, window v. -/
def ahB (n v : Int) : Bool := inB n 0 100000 && inB v 0 32 && (bits BinOp.and IntKind.i64 v (v - 1) == 0)
def isWin (v : Int) : Prop := v = 0 ∨ v = 1 ∨ v = 2 ∨ v = 4 ∨ v = 8 ∨ v = 16 ∨ v = 32
theorem win_bits : ∀ k : Fin 33, (bits BinOp.and IntKind.i64 (k.val : Int) ((k.val : Int) - 1) == 0) = true → k.val = 0 ∨ k.val = 1 ∨ k.val = 2 ∨ k.val = 4 ∨ k.val = 8 ∨ k.val = 16 ∨ k.val = 32 := by decide
theorem ahB_iff {n v : Int} : ahB n v = true ↔ 0 ≤ n ∧ n ≤ 100000 ∧ isWin v := by
  unfold ahB isWin
  simp only [Bool.and_eq_true, inB_iff]
  constructor
  · rintro ⟨⟨⟨a, b⟩, c, d⟩, h⟩
    have := win_bits ⟨v.toNat, by omega⟩ (by rw [show ((v.toNat : Nat) : Int) = v by omega]; exact h)
    simp only at this
    omega
  · rintro ⟨a, b, h⟩
    refine ⟨⟨⟨a, b⟩, by omega, by omega⟩, ?_⟩
    rcases h with rfl | rfl | rfl | rfl | rfl | rfl | rfl <;> decide
/-- The reader behind a read. -/
def rnN (at_ c : Int) : Int := min (at_ + c) 100000
def rnW (n v at_ : Int) : Int := if at_ = n then min 32 (max 1 (2 * v)) else 0
theorem rnN_b {a c : Int} (h : 0 ≤ a) (h1 : 0 ≤ c) : 0 ≤ rnN a c ∧ rnN a c ≤ 100000 := by unfold rnN; omega
theorem rnW_win {n v a : Int} (h : isWin v) : isWin (rnW n v a) := by
  unfold rnW
  split
  · rcases h with rfl | rfl | rfl | rfl | rfl | rfl | rfl <;> (unfold isWin; decide)
  · exact .inl rfl
theorem win_b {v : Int} (h : isWin v) : 0 ≤ v ∧ v ≤ 32 := by unfold isWin at h; omega

theorem implAhead_any (n v : Int) (w : World) :
    Calls Try.prog 29 #[.agg #[.int .i64 n, .int .i64 v]] w fun e w' => e = .returned (.bool (ahB n v)) ∧ Below w.heap.size w w' := by
  cases h1 : inB n 0 100000
  · go_enter Try.func29, Try.ntmps29
    go_wp2_with (go_at_call 44; refine (within_is h1 _).mono ?_; rintro e w' ⟨rfl, rfl⟩)
    go_ret
    exact ⟨ret_bool (by simp [ahB, h1]), b_alloc (Below.refl _ _) _⟩
  · cases h2 : inB v 0 32
    · go_enter Try.func29, Try.ntmps29
      go_wp2_with (go_at_call 44; refine (within_any _ _ _ _).mono ?_; rintro e w' ⟨rfl, rfl⟩)
      go_ret
      exact ⟨ret_bool (by simp [ahB, h1, h2]), b_alloc (Below.refl _ _) _⟩
    · obtain ⟨b1, b2⟩ := inB_iff.1 h2
      go_enter Try.func29, Try.ntmps29
      go_wp2_with (go_at_call 44; refine (within_any _ _ _ _).mono ?_; rintro e w' ⟨rfl, rfl⟩)
      go_ret
      exact ⟨ret_bool (by simp [ahB, h1, h2]), b_alloc (Below.refl _ _) _⟩

theorem specAhead_any (n v : Int) (w : World) :
    Calls Try.prog 27 #[.agg #[.int .i64 n, .int .i64 v]] w fun e w' => e = .returned (.bool (ahB n v)) ∧ Below w.heap.size w w' := by
  cases h1 : inB n 0 100000
  · go_enter Try.func27, Try.ntmps27
    go_wp2_with (go_at_call 42; refine (l1In_is h1 _).mono ?_; rintro e w' ⟨rfl, rfl⟩)
    go_ret
    exact ⟨ret_bool (by simp [ahB, h1]), b_alloc (Below.refl _ _) _⟩
  · cases h2 : inB v 0 32
    · go_enter Try.func27, Try.ntmps27
      go_wp2_with (go_at_call 42; refine (l1In_any _ _ _ _).mono ?_; rintro e w' ⟨rfl, rfl⟩)
      go_ret
      exact ⟨ret_bool (by simp [ahB, h1, h2]), b_alloc (Below.refl _ _) _⟩
    · obtain ⟨b1, b2⟩ := inB_iff.1 h2
      go_enter Try.func27, Try.ntmps27
      go_wp2_with (go_at_call 42; refine (l1In_any _ _ _ _).mono ?_; rintro e w' ⟨rfl, rfl⟩)
      go_ret
      exact ⟨ret_bool (by simp [ahB, h1, h2]), b_alloc (Below.refl _ _) _⟩

theorem clip_any (n lo hi : Int) (w : World) :
    Calls Try.prog 51 #[.int .i64 n, .int .i64 lo, .int .i64 hi] w fun e w' => e = .returned (.int .i64 (max lo (min hi n))) ∧ w = w' := by
  go_enter Try.func51, Try.ntmps51
  go_wp2
  all_goals
    go_ret
    exact ⟨ret_int (by omega), rfl⟩

/-- readNext, of the program. -/
theorem implRN_any (n v a c : Int) (w : World) (hv : 0 ≤ v ∧ v ≤ 1000) (ha : 0 ≤ a ∧ a ≤ 1000000) (hc : 0 ≤ c ∧ c ≤ 1000000) :
    Calls Try.prog 50 #[.agg #[.int .i64 n, .int .i64 v], .int .i64 a, .int .i64 c] w fun e w' => e = .returned (.agg #[.int .i64 (rnN a c), .int .i64 (rnW n v a)]) ∧ Below w.heap.size w w' := by
  by_cases h : a = n
  · have hw := Lib.hid (show rnW n v a = min 32 (max 1 (2 * v)) from if_pos h)
    have hn := Lib.hid (show rnN a c = min (a + c) 100000 from rfl)
    subst h
    go_enter Try.func50, Try.ntmps50
    go_wp2
    all_goals
      refine bodyPost_ret (v := .agg #[.int .i64 (min (a + c) 100000), .int .i64 (min 32 (max 1 (2 * v)))]) (by simp [results, Try.results50, go_sem]; omega) rfl ⟨by rw [hw.out, hn.out], ?_⟩
      exact (b_alloc (b_alloc (Below.refl _ _) _) _)
  · have hw := Lib.hid (show rnW n v a = 0 from if_neg h)
    have hn := Lib.hid (show rnN a c = min (a + c) 100000 from rfl)
    have he : ((a : Int) == n) = false := by simpa using h
    go_enter Try.func50, Try.ntmps50
    go_wp2
    all_goals
      refine bodyPost_ret (v := .agg #[.int .i64 (min (a + c) 100000), .int .i64 0]) (by simp [results, Try.results50, go_sem]; omega) rfl ⟨by rw [hw.out, hn.out], ?_⟩
      exact (b_alloc (b_alloc (Below.refl _ _) _) _)
end Go.Proofs.Ytpfbkmpjneclpaa
