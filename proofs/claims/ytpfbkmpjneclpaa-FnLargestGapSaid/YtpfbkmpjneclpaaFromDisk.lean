/- Contracts of FromDisk, the program's and the reference's: both return fromDiskV. -/
import Derived.Test.YtpfbkmpjneclpaaToDisk
namespace Go.Proofs.Ytpfbkmpjneclpaa
open Go.RowKit
set_option linter.unusedVariables false

/-- The partition of a sector, from number k on. -/
def fdV (a : Int) : Nat → List (Int × Int) → Int × Int
  | _, [] => (-1, -1)
  | k, p :: r => if inB a p.1 (p.1 + p.2 - 1) = true then ((k : Int), a - p.1) else fdV a (k + 1) r
def fromDiskV (l : List (Int × Int)) (size a : Int) : Int × Int := if partsB l size = true then fdV a 0 l else (-1, -1)
def FDPost (l : List (Int × Int)) (size a : Int) (W : World) (e : Ending) (w' : World) : Prop :=
  e = .returned (.tuple #[.int .i64 (fromDiskV l size a).1, .int .i64 (fromDiskV l size a).2]) ∧ Below W.heap.size W w'
theorem fd_no {l : List (Int × Int)} {size a : Int} {W : World} (h : partsB l size = false) : ∀ w', Below W.heap.size W w' → FDPost l size a W (.returned (.tuple #[.int .i64 (-1), .int .i64 (-1)])) w' :=
  fun w' hb => ⟨by simp [fromDiskV, h], hb⟩
theorem fd_is {l : List (Int × Int)} {size a x y : Int} {W : World} (h : partsB l size = true) (hv : fdV a 0 l = (x, y)) : ∀ w', Below W.heap.size W w' → FDPost l size a W (.returned (.tuple #[.int .i64 x, .int .i64 y])) w' :=
  fun w' hb => ⟨by simp [fromDiskV, h, hv], hb⟩

set_option maxHeartbeats 1000000 in
theorem specFromDisk_any (A : Option Addr) (c : Nat) (l : List (Int × Int)) (size a : Int) (w : World) (h : PartsIn w A l) (hl : l.length ≤ 1000000000000) :
    Calls Try.prog 22 #[.slice A l.length c, .int .i64 size, .int .i64 a] w (FDPost l size a w) := by
  cases hv : partsB l size
  · have hno := Lib.hid (fd_no (a := a) (W := w) hv)
    have Hv := Lib.hid hv
    clear hv
    go_enter Try.func22, Try.ntmps22
    go_wp2_with (go_at_call 16; refine (specParts_any _ _ l _ _ h hl).mono ?_; rintro e w1 ⟨rfl, hb1⟩; rw [Hv.out])
    go_ret2
    exact hno.out _ hb1
  · have his := Lib.hid (fun x y hx => fd_is (W := w) (a := a) (x := x) (y := y) hv hx)
    have hrg := Lib.hid (fun k hk => parts_range hv k hk)
    have Hv := Lib.hid hv
    clear hv
    go_enter Try.func22, Try.ntmps22
    go_wp2_with (go_at_call 16; refine (specParts_any _ _ l _ _ h hl).mono ?_; rintro e w1 ⟨rfl, hb1⟩; rw [Hv.out])
    go_loopw [8] (fun x wr => ∃ k : Nat, k ≤ l.length ∧ x = .int .i64 k ∧ Hid (fdV a 0 l = fdV a k (l.drop k)) ∧ Below w.heap.size w wr) (fun x _ => l.length - (intOf x).toNat)
    case atStart => exact ⟨0, Nat.zero_le _, rfl, rfl, hb1⟩
    case round =>
      obtain ⟨k, hk, rfl, hp, hb⟩ := hrel
      clear hb1
      by_cases hlt : k < l.length
      · obtain ⟨b, off, rfl, hc⟩ := h.below hb (by omega)
        obtain ⟨c1, c2⟩ := hc k hlt
        obtain ⟨r1, r2, r3, r4⟩ := hrg.out k hlt
        have hd := hp.out
        rw [drop_cons hlt] at hd
        clear hc h hp hrg
        obtain ⟨⟨f, n⟩, hfn⟩ : ∃ p : Int × Int, p = l[k] := ⟨_, rfl⟩
        rw [← hfn] at c1 c2 hd r1 r2 r3
        simp only at c1 c2 hd r1 r2 r3
        clear hfn
        have hd2 : fdV a k ((f, n) :: l.drop (k + 1)) = if inB a f (f + n - 1) = true then ((k : Int), a - f) else fdV a (k + 1) (l.drop (k + 1)) := rfl
        rw [hd2] at hd
        clear hd2
        cases g1 : inB a f (f + n - 1)
        · have hd3 := Lib.hid (show fdV a 0 l = fdV a (k + 1) (l.drop (k + 1)) by rw [hd, g1]; rfl)
          have hb3 := Lib.hid (fun m => belowN hb m)
          clear hd hb
          go_wp2
          go_quiet ((go_at_call 42; exact Calls.quiet_of_same (quietl (l1In_is g1 _))))
          go_wp2
          go_roundw
          case rel => exact ⟨k + 1, by omega, by go_num, hd3.out, hb3.out _⟩
          case measure => simp [intOf]; omega
        · obtain ⟨a0, a1⟩ := inB_iff.1 g1
          have hyes := Lib.hid (his.out (k : Int) (a - f) (by rw [hd, g1]; rfl))
          have Hb := Lib.hid hb
          clear hd hb his
          go_wp2
          go_quiet ((go_at_call 42; exact Calls.quiet_of_same (quietl (l1In_is g1 _))))
          go_wp2
          go_quiet (fail)
          go_wp2
          go_ret2
          exact hyes.out _ (by repeat' (first | exact Hb.out | apply belowN))
      · have hd := hp.out
        rw [List.drop_of_length_le (by omega)] at hd
        have hyes := Lib.hid (his.out (-1) (-1) hd wr hb)
        clear hd hb hp his
        go_wp2
        go_ret2
        exact hyes.out

set_option maxHeartbeats 1000000 in
theorem implFromDisk_any (A : Option Addr) (c : Nat) (l : List (Int × Int)) (size a : Int) (w : World) (h : PartsIn w A l) (hl : l.length ≤ 1000000000000) :
    Calls Try.prog 23 #[.slice A l.length c, .int .i64 size, .int .i64 a] w (FDPost l size a w) := by
  cases hv : partsB l size
  · have hno := Lib.hid (fd_no (a := a) (W := w) hv)
    have Hv := Lib.hid hv
    clear hv
    go_enter Try.func23, Try.ntmps23
    go_wp2_with (go_at_call 18; refine (implParts_any _ _ l _ _ h hl).mono ?_; rintro e w1 ⟨rfl, hb1⟩; rw [Hv.out])
    go_ret2
    exact hno.out _ hb1
  · have his := Lib.hid (fun x y hx => fd_is (W := w) (a := a) (x := x) (y := y) hv hx)
    have hrg := Lib.hid (fun k hk => parts_range hv k hk)
    have Hv := Lib.hid hv
    clear hv
    go_enter Try.func23, Try.ntmps23
    go_wp2_with (go_at_call 18; refine (implParts_any _ _ l _ _ h hl).mono ?_; rintro e w1 ⟨rfl, hb1⟩; rw [Hv.out])
    go_loopw [16] (fun x wr => ∃ k : Nat, k ≤ l.length ∧ x = .int .i64 k ∧ Hid (fdV a 0 l = fdV a k (l.drop k)) ∧ Below w.heap.size w wr) (fun x _ => l.length - (intOf x).toNat)
    case atStart => exact ⟨0, Nat.zero_le _, rfl, rfl, hb1⟩
    case round =>
      obtain ⟨k, hk, rfl, hp, hb⟩ := hrel
      clear hb1
      by_cases hlt : k < l.length
      · obtain ⟨b, off, rfl, hc⟩ := h.below hb (by omega)
        obtain ⟨c1, c2⟩ := hc k hlt
        obtain ⟨r1, r2, r3, r4⟩ := hrg.out k hlt
        have hd := hp.out
        rw [drop_cons hlt] at hd
        clear hc h hp hrg
        obtain ⟨⟨f, n⟩, hfn⟩ : ∃ p : Int × Int, p = l[k] := ⟨_, rfl⟩
        rw [← hfn] at c1 c2 hd r1 r2 r3
        simp only at c1 c2 hd r1 r2 r3
        clear hfn
        have hd2 : fdV a k ((f, n) :: l.drop (k + 1)) = if inB a f (f + n - 1) = true then ((k : Int), a - f) else fdV a (k + 1) (l.drop (k + 1)) := rfl
        rw [hd2] at hd
        clear hd2
        have hb1 : Below w.heap.size w (wr.alloc (.cells #[.int .i64 f, .int .i64 n] 47)) := b_alloc hb _
        cases g1 : inB a f (f + n - 1)
        · have hd3 := Lib.hid (show fdV a 0 l = fdV a (k + 1) (l.drop (k + 1)) by rw [hd, g1]; rfl)
          have hb3 := Lib.hid hb1
          clear hd hb hb1
          go_wp2_with (go_at_call 44; refine (within_is g1 _).mono ?_; rintro e w' ⟨rfl, rfl⟩)
          go_roundw
          case rel => exact ⟨k + 1, by omega, by go_num, hd3.out, hb3.out⟩
          case measure => simp [intOf]; omega
        · obtain ⟨a0, a1⟩ := inB_iff.1 g1
          have hyes := Lib.hid (his.out (k : Int) (a - f) (by rw [hd, g1]; rfl))
          have Hb := Lib.hid hb1
          clear hd hb his hb1
          go_wp2_with (go_at_call 44; refine (within_is g1 _).mono ?_; rintro e w' ⟨rfl, rfl⟩)
          go_quiet (fail)
          go_wp2
          go_ret2
          exact hyes.out _ (by repeat' (first | exact Hb.out | apply belowN))
      · have hd := hp.out
        rw [List.drop_of_length_le (by omega)] at hd
        have hyes := Lib.hid (his.out (-1) (-1) hd wr hb)
        clear hd hb hp his
        go_wp2
        go_ret2
        exact hyes.out
end Go.Proofs.Ytpfbkmpjneclpaa
