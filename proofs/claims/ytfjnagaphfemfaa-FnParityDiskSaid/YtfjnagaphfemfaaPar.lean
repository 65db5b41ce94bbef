/- Contracts of ParityDisk, the program's and the reference's: both return parD. -/
import Derived.Test.YtfjnagaphfemfaaBase
namespace Go.Proofs.Ytfjnagaphfemfaa
open Go.RowKit

def parD (row disks : Int) : Int := if inB row 0 15 = true ∧ inB disks 2 6 = true then disks - 1 - row % disks else -1
theorem parD_yes {row disks : Int} (h : 0 ≤ row ∧ row ≤ 15) (h2 : 2 ≤ disks ∧ disks ≤ 6) : parD row disks = disks - 1 - row % disks := by
  rw [parD, if_pos ⟨inB_iff.2 h, inB_iff.2 h2⟩]
theorem parD_no1 {row disks : Int} (h : inB row 0 15 = false) : parD row disks = -1 := by simp [parD, h]
theorem parD_no2 {row disks : Int} (h : inB disks 2 6 = false) : parD row disks = -1 := by simp [parD, h]

theorem implParity_any (row disks : Int) (w : World) :
    Calls Try.prog 14 #[.int .i64 row, .int .i64 disks] w fun e w' => e = .returned (.int .i64 (parD row disks)) ∧ w = w' := by
  cases h1 : inB row 0 15
  · have hr := parD_no1 (disks := disks) h1
    go_enter Try.func14, Try.ntmps14
    go_wp2_with (go_at_call 31; refine (within_any _ _ _ _).mono ?_; rintro e w' ⟨rfl, rfl⟩)
    go_ret
    exact ⟨ret_int hr.symm, rfl⟩
  · cases h2 : inB disks 2 6
    · have hr := parD_no2 (row := row) h2
      go_enter Try.func14, Try.ntmps14
      go_wp2_with (go_at_call 31; refine (within_any _ _ _ _).mono ?_; rintro e w' ⟨rfl, rfl⟩)
      go_ret
      exact ⟨ret_int hr.symm, rfl⟩
    · obtain ⟨a1, a2⟩ := inB_iff.1 h1
      obtain ⟨b1, b2⟩ := inB_iff.1 h2
      have hr := Lib.hid (parD_yes ⟨a1, a2⟩ ⟨b1, b2⟩)
      have m1 : 0 ≤ row % disks := Int.emod_nonneg _ (by omega)
      have m2 : row % disks < disks := Int.emod_lt_of_pos _ (by omega)
      go_enter Try.func14, Try.ntmps14
      go_wp2_with (first | (go_at_call 31; refine (within_any _ _ _ _).mono ?_; rintro e w' ⟨rfl, rfl⟩) | go_in)
      go_ret
      exact ⟨ret_int hr.out.symm, rfl⟩

theorem specParity_any (row disks : Int) (w : World) :
    Calls Try.prog 13 #[.int .i64 row, .int .i64 disks] w fun e w' => e = .returned (.int .i64 (parD row disks)) ∧ w = w' := by
  cases h1 : inB row 0 15
  · have hr := parD_no1 (disks := disks) h1
    go_enter Try.func13, Try.ntmps13
    go_wp2_with (go_at_call 30; refine (l1In_any _ _ _ _).mono ?_; rintro e w' ⟨rfl, rfl⟩)
    go_ret
    exact ⟨ret_int hr.symm, rfl⟩
  · cases h2 : inB disks 2 6
    · have hr := parD_no2 (row := row) h2
      go_enter Try.func13, Try.ntmps13
      go_wp2_with (go_at_call 30; refine (l1In_any _ _ _ _).mono ?_; rintro e w' ⟨rfl, rfl⟩)
      go_ret
      exact ⟨ret_int hr.symm, rfl⟩
    · obtain ⟨a1, a2⟩ := inB_iff.1 h1
      obtain ⟨b1, b2⟩ := inB_iff.1 h2
      have hr := Lib.hid (parD_yes ⟨a1, a2⟩ ⟨b1, b2⟩)
      have m1 : 0 ≤ row % disks := Int.emod_nonneg _ (by omega)
      have m2 : row % disks < disks := Int.emod_lt_of_pos _ (by omega)
      go_enter Try.func13, Try.ntmps13
      go_wp2_with (go_at_call 30; refine (l1In_any _ _ _ _).mono ?_; rintro e w' ⟨rfl, rfl⟩)
      go_ret
      exact ⟨ret_int hr.out.symm, rfl⟩
end Go.Proofs.Ytfjnagaphfemfaa
