/- Contracts of StripeSector, the program's and the reference's. -/
import Derived.Test.YtfjnagaphfemfaaStr
namespace Go.Proofs.Ytfjnagaphfemfaa
open Go.RowKit

theorem ss_facts (k a d c : Int) (ha : 0 ≤ a ∧ a ≤ 100000) (hd : 1 ≤ d ∧ d ≤ 6) (hc : 1 ≤ c ∧ c ≤ 16) (hk : 0 ≤ k ∧ k ≤ d - 1) :
    0 ≤ a / c * d ∧ a / c * d ≤ 600000 ∧ 0 ≤ (a / c * d + k) * c ∧ (a / c * d + k) * c ≤ 9700000 := by
  obtain ⟨f1, f2, f3, f4, f5, f6, f7, f8, f9, f10⟩ := sp_facts a d c ha.1 hd.1 hc.1
  have h1 : 0 ≤ a / c * d := Int.mul_nonneg f1 (by omega)
  have h2 : a / c * d ≤ a / c * 6 := Int.mul_le_mul_of_nonneg_left hd.2 f1
  have h3 : 0 ≤ (a / c * d + k) * c := Int.mul_nonneg (by omega) (by omega)
  have h4 : (a / c * d + k) * c ≤ (a / c * d + k) * 16 := Int.mul_le_mul_of_nonneg_left hc.2 (by omega)
  omega

def SecPost (k a d c : Int) (W : World) (e : Ending) (w' : World) : Prop :=
  e = .returned (.int .i64 (ssN k a d c)) ∧ ∃ q, w' = W.drewN q
theorem sec_no1 {k a d c : Int} {W : World} (h : strB a d c = false) : SecPost k a d c W (.returned (.int .i64 (-1))) W :=
  ⟨by simp [ssN, h], 0, rfl⟩
theorem sec_no2 {k a d c : Int} {W : World} (h : inB k 0 (d - 1) = false) : SecPost k a d c W (.returned (.int .i64 (-1))) W :=
  ⟨by simp [ssN, h], 0, rfl⟩
theorem sec_yes {k a d c : Int} {W : World} {q : Nat} (h : strB a d c = true) (h2 : inB k 0 (d - 1) = true) : SecPost k a d c W (.returned (.int .i64 ((a / c * d + k) * c + a % c))) (W.drewN q) :=
  ⟨by simp [ssN, h, h2], q, rfl⟩

theorem implSec_any (k a d c : Int) (w : World) :
    Calls Try.prog 16 #[.int .i64 k, .int .i64 a, .int .i64 d, .int .i64 c] w (SecPost k a d c w) := by
  cases h1 : inB a 0 100000
  · have hno := Lib.hid (sec_no1 (k := k) (a := a) (d := d) (c := c) (W := w) (by rw [strB, h1]; rfl))
    go_enter Try.func16, Try.ntmps16
    go_wp2_with (go_at_call 31; refine (within_any _ _ _ _).mono ?_; rintro e w' ⟨rfl, rfl⟩)
    go_ret
    exact hno.out
  · cases h2 : shB d c
    · have hno := Lib.hid (sec_no1 (k := k) (a := a) (d := d) (c := c) (W := w) (by rw [strB, h1, h2]; rfl))
      go_enter Try.func16, Try.ntmps16
      go_wp2_with (first
        | (go_at_call 31; refine (within_any _ _ _ _).mono ?_; rintro e w' ⟨rfl, rfl⟩)
        | (go_at_call 34; refine (areStripes_any _ _ _).mono ?_; rintro e w' ⟨rfl, rfl⟩))
      go_ret
      exact hno.out
    · obtain ⟨a0, a1⟩ := inB_iff.1 h1
      obtain ⟨⟨d0, d1⟩, c0, c1⟩ := shB_iff.1 h2
      cases h3 : inB k 0 (d - 1)
      · have hno := Lib.hid (sec_no2 (k := k) (a := a) (d := d) (c := c) (W := w) h3)
        go_enter Try.func16, Try.ntmps16
        go_wp2_with (first
          | (go_at_call 31; refine (within_any _ _ _ _).mono ?_; rintro e w' ⟨rfl, rfl⟩)
          | (go_at_call 34; refine (areStripes_any _ _ _).mono ?_; rintro e w' ⟨rfl, rfl⟩))
        go_ret
        exact hno.out
      · have hyes := Lib.hid (fun q => sec_yes (k := k) (a := a) (d := d) (c := c) (W := w) (q := q) (by rw [strB, h1, h2]; rfl) h3)
        obtain ⟨k0, k1⟩ := inB_iff.1 h3
        obtain ⟨f1, f2, f3, f4, f5, f6, f7, f8, f9, f10⟩ := sp_facts a d c a0 d0 c0
        obtain ⟨g1, g2, g3, g4⟩ := ss_facts k a d c ⟨a0, a1⟩ ⟨d0, d1⟩ ⟨c0, c1⟩ ⟨k0, k1⟩
        go_enter Try.func16, Try.ntmps16
        go_wp2_with (first
          | (go_at_call 31; refine (within_any _ _ _ _).mono ?_; rintro e w' ⟨rfl, rfl⟩)
          | (go_at_call 34; refine (areStripes_any _ _ _).mono ?_; rintro e w' ⟨rfl, rfl⟩))
        go_quiet (fail)
        go_wp2
        go_ret
        exact hyes.out _

theorem specSec_any (k a d c : Int) (w : World) :
    Calls Try.prog 15 #[.int .i64 k, .int .i64 a, .int .i64 d, .int .i64 c] w (SecPost k a d c w) := by
  cases h1 : inB a 0 100000
  · have hno := Lib.hid (sec_no1 (k := k) (a := a) (d := d) (c := c) (W := w) (by rw [strB, h1]; rfl))
    go_enter Try.func15, Try.ntmps15
    go_wp2_with (go_at_call 30; refine (l1In_any _ _ _ _).mono ?_; rintro e w' ⟨rfl, rfl⟩)
    go_ret
    exact hno.out
  · cases h2 : shB d c
    · have hno := Lib.hid (sec_no1 (k := k) (a := a) (d := d) (c := c) (W := w) (by rw [strB, h1, h2]; rfl))
      go_enter Try.func15, Try.ntmps15
      go_wp2_with (first
        | (go_at_call 30; refine (l1In_any _ _ _ _).mono ?_; rintro e w' ⟨rfl, rfl⟩)
        | (go_at_call 33; refine (l15Ok_any _ _ _).mono ?_; rintro e w' ⟨rfl, rfl⟩))
      go_ret
      exact hno.out
    · obtain ⟨a0, a1⟩ := inB_iff.1 h1
      obtain ⟨⟨d0, d1⟩, c0, c1⟩ := shB_iff.1 h2
      cases h3 : inB k 0 (d - 1)
      · have hno := Lib.hid (sec_no2 (k := k) (a := a) (d := d) (c := c) (W := w) h3)
        go_enter Try.func15, Try.ntmps15
        go_wp2_with (first
          | (go_at_call 30; refine (l1In_any _ _ _ _).mono ?_; rintro e w' ⟨rfl, rfl⟩)
          | (go_at_call 33; refine (l15Ok_any _ _ _).mono ?_; rintro e w' ⟨rfl, rfl⟩))
        go_ret
        exact hno.out
      · have hyes := Lib.hid (fun q => sec_yes (k := k) (a := a) (d := d) (c := c) (W := w) (q := q) (by rw [strB, h1, h2]; rfl) h3)
        obtain ⟨k0, k1⟩ := inB_iff.1 h3
        obtain ⟨f1, f2, f3, f4, f5, f6, f7, f8, f9, f10⟩ := sp_facts a d c a0 d0 c0
        obtain ⟨g1, g2, g3, g4⟩ := ss_facts k a d c ⟨a0, a1⟩ ⟨d0, d1⟩ ⟨c0, c1⟩ ⟨k0, k1⟩
        go_enter Try.func15, Try.ntmps15
        go_wp2_with (first
          | (go_at_call 30; refine (l1In_any _ _ _ _).mono ?_; rintro e w' ⟨rfl, rfl⟩)
          | (go_at_call 33; refine (l15Ok_any _ _ _).mono ?_; rintro e w' ⟨rfl, rfl⟩))
        go_quiet (fail)
        go_wp2
        go_ret
        exact hyes.out _
end Go.Proofs.Ytfjnagaphfemfaa
