/- Contracts of the stripes: StripePlace and StripeSector, the program's and the reference's. -/
import Derived.Test.YtfjnagaphfemfaaBase
import Derived.Deep.QuietTactic
import Derived.BigQuiet
namespace Go.Proofs.Ytfjnagaphfemfaa
open Go.RowKit

/-- Numbers of disks and of sectors of a chunk are valid. -/
def shB (disks chunk : Int) : Bool := inB disks 1 6 && inB chunk 1 16
/-- ... and the sector is. -/
def strB (at_ disks chunk : Int) : Bool := inB at_ 0 100000 && shB disks chunk
theorem shB_iff {d c : Int} : shB d c = true ↔ (1 ≤ d ∧ d ≤ 6) ∧ (1 ≤ c ∧ c ≤ 16) := by
  unfold shB; rw [Bool.and_eq_true, inB_iff, inB_iff]

theorem areStripes_any (d c : Int) (w : World) :
    Calls Try.prog 34 #[.int .i64 d, .int .i64 c] w fun e w' => e = .returned (.bool (shB d c)) ∧ w = w' := by
  cases h1 : inB d 1 6
  · go_enter Try.func34, Try.ntmps34
    go_wp2_with (go_at_call 31; refine (within_any _ _ _ _).mono ?_; rintro e w' ⟨rfl, rfl⟩)
    go_ret
    exact ⟨ret_bool (by rw [shB, h1]; rfl), rfl⟩
  · go_enter Try.func34, Try.ntmps34
    go_wp2_with (go_at_call 31; refine (within_any _ _ _ _).mono ?_; rintro e w' ⟨rfl, rfl⟩)
    go_ret
    exact ⟨ret_bool (by rw [shB, h1]; rfl), rfl⟩
theorem l15Ok_any (d c : Int) (w : World) :
    Calls Try.prog 33 #[.int .i64 d, .int .i64 c] w fun e w' => e = .returned (.bool (shB d c)) ∧ w = w' := by
  cases h1 : inB d 1 6
  · go_enter Try.func33, Try.ntmps33
    go_wp2_with (go_at_call 30; refine (l1In_any _ _ _ _).mono ?_; rintro e w' ⟨rfl, rfl⟩)
    go_ret
    exact ⟨ret_bool (by rw [shB, h1]; rfl), rfl⟩
  · go_enter Try.func33, Try.ntmps33
    go_wp2_with (go_at_call 30; refine (l1In_any _ _ _ _).mono ?_; rintro e w' ⟨rfl, rfl⟩)
    go_ret
    exact ⟨ret_bool (by rw [shB, h1]; rfl), rfl⟩

/-- The disk and the sector on it. -/
def spD (a d c : Int) : Int := if strB a d c = true then a / c % d else -1
def spK (a d c : Int) : Int := if strB a d c = true then a / c / d * c + a % c else -1
/-- The sector of the volume. -/
def ssN (k a d c : Int) : Int := if strB a d c = true ∧ inB k 0 (d - 1) = true then (a / c * d + k) * c + a % c else -1

theorem mul_le_of (q c a : Int) (h0 : 0 ≤ q) (h : q ≤ a / c) (hc : 1 ≤ c) : 0 ≤ q * c ∧ q * c ≤ a := by
  refine ⟨Int.mul_nonneg h0 (by omega), ?_⟩
  have h1 : q * c ≤ a / c * c := Int.mul_le_mul_of_nonneg_right h (by omega)
  have h2 : a / c * c ≤ a := Int.ediv_mul_le a (by omega)
  omega

theorem sp_facts (a d c : Int) (ha : 0 ≤ a) (hd : 1 ≤ d) (hc : 1 ≤ c) :
    0 ≤ a / c ∧ a / c ≤ a ∧ 0 ≤ a % c ∧ a % c < c ∧ 0 ≤ a / c % d ∧ a / c % d < d ∧ 0 ≤ a / c / d ∧ a / c / d ≤ a / c ∧ 0 ≤ a / c / d * c ∧ a / c / d * c ≤ a := by
  have h1 : 0 ≤ a / c := Int.ediv_nonneg ha (by omega)
  have h2 : a / c ≤ a := Int.ediv_le_self _ ha
  have h3 : 0 ≤ a / c / d := Int.ediv_nonneg h1 (by omega)
  have h4 : a / c / d ≤ a / c := Int.ediv_le_self _ h1
  have h5 := mul_le_of (a / c / d) c a h3 h4 hc
  exact ⟨h1, h2, Int.emod_nonneg _ (by omega), Int.emod_lt_of_pos _ (by omega), Int.emod_nonneg _ (by omega), Int.emod_lt_of_pos _ (by omega), h3, h4, h5.1, h5.2⟩

def PlaceIn (a d c : Int) (W : World) (e : Ending) (w' : World) : Prop :=
  e = .returned (.tuple #[.int .i64 (a / c % d), .int .i64 (a / c / d * c + a % c)]) ∧ ∃ q, w' = W.drewN q

theorem stripePlace_in (a d c : Int) (w : World) (ha : 0 ≤ a ∧ a ≤ 1000000) (hd : 1 ≤ d ∧ d ≤ 6) (hc : 1 ≤ c ∧ c ≤ 16) :
    Calls Try.prog 35 #[.int .i64 a, .int .i64 d, .int .i64 c] w (PlaceIn a d c w) := by
  obtain ⟨f1, f2, f3, f4, f5, f6, f7, f8, f9, f10⟩ := sp_facts a d c ha.1 hd.1 hc.1
  go_enter Try.func35, Try.ntmps35
  go_wp2
  go_quiet (fail)
  go_wp2
  go_ret2
  exact ⟨rfl, _, rfl⟩

def PlacePost (a d c : Int) (W : World) (e : Ending) (w' : World) : Prop :=
  e = .returned (.tuple #[.int .i64 (spD a d c), .int .i64 (spK a d c)]) ∧ ∃ q, w' = W.drewN q

theorem place_no {a d c : Int} {W : World} (h : strB a d c = false) : PlacePost a d c W (.returned (.tuple #[.int .i64 (-1), .int .i64 (-1)])) W :=
  ⟨by simp [spD, spK, h], 0, rfl⟩
theorem place_yes {a d c : Int} {W : World} {q : Nat} (h : strB a d c = true) : PlacePost a d c W (.returned (.tuple #[.int .i64 (a / c % d), .int .i64 (a / c / d * c + a % c)])) (W.drewN q) :=
  ⟨by simp [spD, spK, h], q, rfl⟩

theorem implPlace_any (a d c : Int) (w : World) :
    Calls Try.prog 18 #[.int .i64 a, .int .i64 d, .int .i64 c] w (PlacePost a d c w) := by
  cases h1 : inB a 0 100000
  · have hno := Lib.hid (place_no (a := a) (d := d) (c := c) (W := w) (by rw [strB, h1]; rfl))
    go_enter Try.func18, Try.ntmps18
    go_wp2_with (go_at_call 31; refine (within_any _ _ _ _).mono ?_; rintro e w' ⟨rfl, rfl⟩)
    go_ret2
    exact hno.out
  · cases h2 : shB d c
    · have hno := Lib.hid (place_no (a := a) (d := d) (c := c) (W := w) (by rw [strB, h1, h2]; rfl))
      go_enter Try.func18, Try.ntmps18
      go_wp2_with (first
        | (go_at_call 31; refine (within_any _ _ _ _).mono ?_; rintro e w' ⟨rfl, rfl⟩)
        | (go_at_call 34; refine (areStripes_any _ _ _).mono ?_; rintro e w' ⟨rfl, rfl⟩))
      go_ret2
      exact hno.out
    · have hyes := Lib.hid (fun q => place_yes (a := a) (d := d) (c := c) (W := w) (q := q) (by rw [strB, h1, h2]; rfl))
      obtain ⟨a0, a1⟩ := inB_iff.1 h1
      obtain ⟨⟨d0, d1⟩, c0, c1⟩ := shB_iff.1 h2
      go_enter Try.func18, Try.ntmps18
      go_wp2_with (first
        | (go_at_call 31; refine (within_any _ _ _ _).mono ?_; rintro e w' ⟨rfl, rfl⟩)
        | (go_at_call 34; refine (areStripes_any _ _ _).mono ?_; rintro e w' ⟨rfl, rfl⟩)
        | (go_at_call 35; refine (stripePlace_in _ _ _ _ (by omega) (by omega) (by omega)).mono ?_; rintro e w' ⟨rfl, q, rfl⟩))
      go_ret2
      exact hyes.out _

theorem specPlace_any (a d c : Int) (w : World) :
    Calls Try.prog 17 #[.int .i64 a, .int .i64 d, .int .i64 c] w (PlacePost a d c w) := by
  cases h1 : inB a 0 100000
  · have hno := Lib.hid (place_no (a := a) (d := d) (c := c) (W := w) (by rw [strB, h1]; rfl))
    go_enter Try.func17, Try.ntmps17
    go_wp2_with (go_at_call 30; refine (l1In_any _ _ _ _).mono ?_; rintro e w' ⟨rfl, rfl⟩)
    go_ret2
    exact hno.out
  · cases h2 : shB d c
    · have hno := Lib.hid (place_no (a := a) (d := d) (c := c) (W := w) (by rw [strB, h1, h2]; rfl))
      go_enter Try.func17, Try.ntmps17
      go_wp2_with (first
        | (go_at_call 30; refine (l1In_any _ _ _ _).mono ?_; rintro e w' ⟨rfl, rfl⟩)
        | (go_at_call 33; refine (l15Ok_any _ _ _).mono ?_; rintro e w' ⟨rfl, rfl⟩))
      go_ret2
      exact hno.out
    · have hyes := Lib.hid (fun q => place_yes (a := a) (d := d) (c := c) (W := w) (q := q) (by rw [strB, h1, h2]; rfl))
      obtain ⟨a0, a1⟩ := inB_iff.1 h1
      obtain ⟨⟨d0, d1⟩, c0, c1⟩ := shB_iff.1 h2
      obtain ⟨f1, f2, f3, f4, f5, f6, f7, f8, f9, f10⟩ := sp_facts a d c a0 d0 c0
      go_enter Try.func17, Try.ntmps17
      go_wp2_with (first
        | (go_at_call 30; refine (l1In_any _ _ _ _).mono ?_; rintro e w' ⟨rfl, rfl⟩)
        | (go_at_call 33; refine (l15Ok_any _ _ _).mono ?_; rintro e w' ⟨rfl, rfl⟩))
      go_quiet (fail)
      go_wp2
      go_ret2
      exact hyes.out _
end Go.Proofs.Ytfjnagaphfemfaa
