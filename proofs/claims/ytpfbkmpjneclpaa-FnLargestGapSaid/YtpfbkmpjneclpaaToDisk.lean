/- Contracts of ToDisk, the program's and the reference's: both return toDiskV. -/
import Derived.Test.YtpfbkmpjneclpaaParts
namespace Go.Proofs.Ytpfbkmpjneclpaa
open Go.RowKit
set_option linter.unusedVariables false

theorem parts_range_aux (size : Int) : ∀ (l : List (Int × Int)) (last : Int), partsOk size last l = true → ∀ k (h : k < l.length), last ≤ l[k].1 ∧ 1 ≤ l[k].2 ∧ l[k].1 + l[k].2 ≤ size
  | [], _, _, k, h => absurd h (by simp)
  | p :: r, last, hp, k, h => by
    simp only [partsOk, Bool.and_eq_true, inB_iff] at hp
    cases k with
    | zero => simp only [List.getElem_cons_zero]; omega
    | succ k =>
      have := parts_range_aux size r (p.1 + p.2) hp.2 k (by simpa using h)
      simp only [List.getElem_cons_succ]
      omega
/-- In a valid list each partition lies on the disk. -/
theorem parts_range {l : List (Int × Int)} {size : Int} (h : partsB l size = true) (k : Nat) (hk : k < l.length) : 0 ≤ l[k].1 ∧ 1 ≤ l[k].2 ∧ l[k].1 + l[k].2 ≤ size ∧ size ≤ 100000 := by
  unfold partsB at h
  simp only [Bool.and_eq_true] at h
  have h1 := inB_iff.1 h.1.1
  have := parts_range_aux size l 0 h.2 k hk
  omega

def toDiskV (l : List (Int × Int)) (size n a : Int) : Int :=
  if (partsB l size && inB n 0 (l.length - 1) && inB a 0 ((l.getD n.toNat (0, 0)).2 - 1)) = true then (l.getD n.toNat (0, 0)).1 + a else -1
def TDPost (l : List (Int × Int)) (size n a : Int) (W : World) (e : Ending) (w' : World) : Prop := e = .returned (.int .i64 (toDiskV l size n a)) ∧ Below W.heap.size W w'
theorem td_no1 {l : List (Int × Int)} {size n a : Int} {W : World} (h : partsB l size = false) : ∀ w', Below W.heap.size W w' → TDPost l size n a W (.returned (.int .i64 (-1))) w' :=
  fun w' hb => ⟨by simp [toDiskV, h], hb⟩
theorem td_no2 {l : List (Int × Int)} {size n a : Int} {W : World} (h : inB n 0 (l.length - 1) = false) : ∀ w', Below W.heap.size W w' → TDPost l size n a W (.returned (.int .i64 (-1))) w' :=
  fun w' hb => ⟨by simp [toDiskV, h], hb⟩
theorem getD_at {l : List (Int × Int)} {k : Nat} {p : Int × Int} (hk : k < l.length) (e : p = l[k]) : l.getD ((k : Int)).toNat (0, 0) = p := by
  rw [Int.toNat_natCast, List.getD_eq_getElem?_getD, List.getElem?_eq_getElem hk, e]; rfl
theorem td_no3 {l : List (Int × Int)} {size a f q : Int} {k : Nat} {W : World} (hk : k < l.length) (e : (f, q) = l[k]) (h : inB a 0 (q - 1) = false) : ∀ w', Below W.heap.size W w' → TDPost l size k a W (.returned (.int .i64 (-1))) w' :=
  fun w' hb => ⟨by unfold toDiskV; rw [getD_at hk e]; simp [h], hb⟩
theorem td_yes {l : List (Int × Int)} {size a f q : Int} {k : Nat} {W : World} (hv : partsB l size = true) (hk : k < l.length) (hn : inB k 0 (l.length - 1) = true) (e : (f, q) = l[k]) (h : inB a 0 (q - 1) = true) :
    ∀ w', Below W.heap.size W w' → TDPost l size k a W (.returned (.int .i64 (f + a))) w' :=
  fun w' hb => ⟨by unfold toDiskV; rw [getD_at hk e]; simp [h, hv, hn], hb⟩

set_option maxHeartbeats 1000000 in
theorem specToDisk_any (A : Option Addr) (c : Nat) (l : List (Int × Int)) (size n a : Int) (w : World) (h : PartsIn w A l) (hl : l.length ≤ 1000000000000) :
    Calls Try.prog 20 #[.slice A l.length c, .int .i64 size, .int .i64 n, .int .i64 a] w (TDPost l size n a w) := by
  cases hv : partsB l size
  · have hno := Lib.hid (td_no1 (n := n) (a := a) (W := w) hv)
    have Hv := Lib.hid hv
    clear hv
    go_enter Try.func20, Try.ntmps20
    go_wp2_with (go_at_call 16; refine (specParts_any _ _ l _ _ h hl).mono ?_; rintro e w1 ⟨rfl, hb1⟩; rw [Hv.out])
    go_ret
    exact hno.out _ hb1
  · cases hn : inB n 0 (l.length - 1)
    · have hno := Lib.hid (td_no2 (size := size) (a := a) (W := w) hn)
      have Hv := Lib.hid hv
      clear hv
      go_enter Try.func20, Try.ntmps20
      go_wp2_with (first
        | (go_at_call 16; refine (specParts_any _ _ l _ _ h hl).mono ?_; rintro e w1 ⟨rfl, hb1⟩; rw [Hv.out])
        | (go_at_call 42; refine (l1In_any _ _ _ _).mono ?_; rintro e w' ⟨rfl, rfl⟩))
      go_ret
      exact hno.out _ hb1
    · obtain ⟨n0, n1⟩ := inB_iff.1 hn
      obtain ⟨k, rfl⟩ := Int.eq_ofNat_of_zero_le n0
      have hk : k < l.length := by omega
      obtain ⟨r1, r2, r3, r4⟩ := parts_range hv k hk
      obtain ⟨⟨f, q⟩, e1⟩ : ∃ p : Int × Int, p = l[k] := ⟨_, rfl⟩
      rw [← e1] at r1 r2 r3
      simp only at r1 r2 r3
      have hno := Lib.hid (fun hx => td_no3 (W := w) (a := a) (size := size) hk e1 hx)
      have hyes := Lib.hid (fun hx => td_yes (W := w) (a := a) hv hk hn e1 hx)
      have Hv := Lib.hid hv
      have H1 := Lib.hid e1
      clear hv e1
      cases ha : inB a 0 (q - 1)
      · go_enter Try.func20, Try.ntmps20
        go_wp2_with (first
          | (go_at_call 16; refine (specParts_any _ _ l _ _ h hl).mono ?_; rintro e w1 ⟨rfl, hb1⟩; rw [Hv.out]; obtain ⟨b, off, rfl, hc⟩ := h.below hb1 (by omega); obtain ⟨c1, c2⟩ := hc k hk; rw [← H1.out] at c1 c2; simp only at c1 c2; clear hc h)
          | (go_at_call 42; refine (l1In_any _ _ _ _).mono ?_; rintro e w' ⟨rfl, rfl⟩))
        go_ret
        exact hno.out ha _ hb1
      · obtain ⟨a0, a1⟩ := inB_iff.1 ha
        go_enter Try.func20, Try.ntmps20
        go_wp2_with (first
          | (go_at_call 16; refine (specParts_any _ _ l _ _ h hl).mono ?_; rintro e w1 ⟨rfl, hb1⟩; rw [Hv.out]; obtain ⟨b, off, rfl, hc⟩ := h.below hb1 (by omega); obtain ⟨c1, c2⟩ := hc k hk; rw [← H1.out] at c1 c2; simp only at c1 c2; clear hc h)
          | (go_at_call 42; refine (l1In_any _ _ _ _).mono ?_; rintro e w' ⟨rfl, rfl⟩))
        go_ret
        exact hyes.out ha _ hb1

set_option maxHeartbeats 1000000 in
theorem implToDisk_any (A : Option Addr) (c : Nat) (l : List (Int × Int)) (size n a : Int) (w : World) (h : PartsIn w A l) (hl : l.length ≤ 1000000000000) :
    Calls Try.prog 21 #[.slice A l.length c, .int .i64 size, .int .i64 n, .int .i64 a] w (TDPost l size n a w) := by
  cases hv : partsB l size
  · have hno := Lib.hid (td_no1 (n := n) (a := a) (W := w) hv)
    have Hv := Lib.hid hv
    clear hv
    go_enter Try.func21, Try.ntmps21
    go_wp2_with (go_at_call 18; refine (implParts_any _ _ l _ _ h hl).mono ?_; rintro e w1 ⟨rfl, hb1⟩; rw [Hv.out])
    go_ret
    exact hno.out _ hb1
  · cases hn : inB n 0 (l.length - 1)
    · have hno := Lib.hid (td_no2 (size := size) (a := a) (W := w) hn)
      have Hv := Lib.hid hv
      clear hv
      go_enter Try.func21, Try.ntmps21
      go_wp2_with (first
        | (go_at_call 18; refine (implParts_any _ _ l _ _ h hl).mono ?_; rintro e w1 ⟨rfl, hb1⟩; rw [Hv.out])
        | (go_at_call 44; refine (within_any _ _ _ _).mono ?_; rintro e w' ⟨rfl, rfl⟩))
      go_ret
      exact hno.out _ hb1
    · obtain ⟨n0, n1⟩ := inB_iff.1 hn
      obtain ⟨k, rfl⟩ := Int.eq_ofNat_of_zero_le n0
      have hk : k < l.length := by omega
      obtain ⟨r1, r2, r3, r4⟩ := parts_range hv k hk
      obtain ⟨⟨f, q⟩, e1⟩ : ∃ p : Int × Int, p = l[k] := ⟨_, rfl⟩
      rw [← e1] at r1 r2 r3
      simp only at r1 r2 r3
      have hno := Lib.hid (fun hx => td_no3 (W := w) (a := a) (size := size) hk e1 hx)
      have hyes := Lib.hid (fun hx => td_yes (W := w) (a := a) hv hk hn e1 hx)
      have Hv := Lib.hid hv
      have H1 := Lib.hid e1
      clear hv e1
      cases ha : inB a 0 (q - 1)
      · go_enter Try.func21, Try.ntmps21
        go_wp2_with (first
          | (go_at_call 18; refine (implParts_any _ _ l _ _ h hl).mono ?_; rintro e w1 ⟨rfl, hb1⟩; rw [Hv.out]; obtain ⟨b, off, rfl, hc⟩ := h.below hb1 (by omega); obtain ⟨c1, c2⟩ := hc k hk; rw [← H1.out] at c1 c2; simp only at c1 c2; clear hc h)
          | (go_at_call 44; refine (within_any _ _ _ _).mono ?_; rintro e w' ⟨rfl, rfl⟩))
        go_ret
        exact hno.out ha _ hb1
      · obtain ⟨a0, a1⟩ := inB_iff.1 ha
        go_enter Try.func21, Try.ntmps21
        go_wp2_with (first
          | (go_at_call 18; refine (implParts_any _ _ l _ _ h hl).mono ?_; rintro e w1 ⟨rfl, hb1⟩; rw [Hv.out]; obtain ⟨b, off, rfl, hc⟩ := h.below hb1 (by omega); obtain ⟨c1, c2⟩ := hc k hk; rw [← H1.out] at c1 c2; simp only at c1 c2; clear hc h)
          | (go_at_call 44; refine (within_any _ _ _ _).mono ?_; rintro e w' ⟨rfl, rfl⟩))
        go_ret
        exact hyes.out ha _ hb1
end Go.Proofs.Ytpfbkmpjneclpaa
