/- Contracts of LargestGap, the program's and the reference's: both return gapV. -/
import Derived.Test.YtpfbkmpjneclpaaToDisk
import Derived.Test.YtpfbkmpjneclpaaPartsX
import Derived.Test.YtpfbkmpjneclpaaCloneP
namespace Go.Proofs.Ytpfbkmpjneclpaa
open Go.RowKit
set_option linter.unusedVariables false

/-- The longest gap, from an end on: the best so far, its length. -/
def gp : Int → Int → Int → List (Int × Int) → Int × Int
  | best, most, _, [] => (best, most)
  | best, most, last, p :: r => if most < p.1 - last then gp last (p.1 - last) (p.1 + p.2) r else gp best most (p.1 + p.2) r
def gapV (l : List (Int × Int)) (size : Int) : Int × Int := if partsB l size = true then gp (-1) 0 0 (l ++ [(size, 0)]) else (-1, 0)
def GapPost (l : List (Int × Int)) (size : Int) (W : World) (e : Ending) (w' : World) : Prop :=
  e = .returned (.tuple #[.int .i64 (gapV l size).1, .int .i64 (gapV l size).2]) ∧ Below W.heap.size W w'
theorem gap_no {l : List (Int × Int)} {size : Int} {W : World} (h : partsB l size = false) : ∀ w', Below W.heap.size W w' → GapPost l size W (.returned (.tuple #[.int .i64 (-1), .int .i64 0])) w' :=
  fun w' hb => ⟨by simp [gapV, h], hb⟩
theorem gap_is {l : List (Int × Int)} {size x y : Int} {W : World} (h : partsB l size = true) (hv : gp (-1) 0 0 (l ++ [(size, 0)]) = (x, y)) : ∀ w', Below W.heap.size W w' → GapPost l size W (.returned (.tuple #[.int .i64 x, .int .i64 y])) w' :=
  fun w' hb => ⟨by simp [gapV, h, hv], hb⟩

/-- Bounds of each partition of the list with the disk's end behind it. -/
theorem ends_range {l : List (Int × Int)} {size : Int} (h : partsB l size = true) (k : Nat) (hk : k < (l ++ [(size, (0 : Int))]).length) :
    0 ≤ (l ++ [(size, (0 : Int))])[k].1 ∧ (l ++ [(size, (0 : Int))])[k].1 ≤ 100000 ∧ 0 ≤ (l ++ [(size, (0 : Int))])[k].2 ∧ (l ++ [(size, (0 : Int))])[k].2 ≤ 100000 := by
  have hs : 0 ≤ size ∧ size ≤ 100000 := by
    unfold partsB at h
    simp only [Bool.and_eq_true] at h
    exact inB_iff.1 h.1.1
  by_cases hlt : k < l.length
  · rw [List.getElem_append_left hlt]
    have := parts_range h k hlt
    omega
  · have hkl : k = l.length := by simp at hk; omega
    subst hkl
    simp
    omega

set_option maxHeartbeats 1000000 in
theorem implGap_any (A : Option Addr) (c : Nat) (l : List (Int × Int)) (size : Int) (w : World) (h : ReadC w A (partsC l)) (hl : l.length ≤ 1000000000) :
    Calls Try.prog 32 #[.slice A l.length c, .int .i64 size] w (GapPost l size w) := by
  cases hv : partsB l size
  · have hno := Lib.hid (gap_no (W := w) hv)
    have Hv := Lib.hid hv
    have hP := PartsIn.of h
    clear hv
    go_enter Try.func32, Try.ntmps32
    go_wp2_with (go_at_call 18; refine (implParts_any _ _ l _ _ hP (by omega)).mono ?_; rintro e w1 ⟨rfl, hb1⟩; rw [Hv.out])
    go_ret2
    exact hno.out _ hb1
  · have his := Lib.hid (fun x y hx => gap_is (W := w) (x := x) (y := y) hv hx)
    have hrg := Lib.hid (fun k hk => ends_range hv k hk)
    have Hv := Lib.hid hv
    have hP := PartsIn.of h
    clear hv
    obtain ⟨i0, hi0, hz0, hz1, hz2⟩ := info_parts rowinfo_parts
    go_enter Try.func32, Try.ntmps32
    go_wp2_with fail
    refine (implParts_any _ _ l _ _ hP (by omega)).mono ?_
    rintro e w1 ⟨rfl, hb1⟩
    rw [Hv.out]
    go_wp2_with fail
    refine (clone_parts A l.length c (partsC l) _ (h.below hb1) (by rw [partsC_length]; omega) (by intro u hu; simp only [partsC, List.mem_flatMap] at hu; obtain ⟨p, _, hp⟩ := hu; simp at hp; rcases hp with rfl | rfl <;> rfl) (by omega)).mono ?_
    rintro e w2 ⟨v, rfl, hown, hb2⟩
    have hb12 := hb1.trans (hb2.mono hb1.size)
    have hs1 := hb1.size
    clear h hP hb1
    have hnw := Lib.hid (news_at (w := w2) (T := 47) (cs := #[.int .i64 size, .int .i64 0]))
    have hlen1 : l.length + 1 ≤ 1000000001 := by omega
    go_wp2_with (at_builtin; refine wpList_append_own _ rfl (.tmp 16) (.tmp 19) 25 rfl w1.heap.size 47 i0 (.agg #[.int .i64 0, .int .i64 0]) 2 16 Try.underlying25 hi0 hz0 hz1 hz2 rfl (by decide) v l.length (partsC l) rfl (hown.alloc _) ⟨w2.heap.size, 0, none⟩ 1 1 [.int .i64 size, .int .i64 0] rfl rfl hnw.out (by intro u hu; simp at hu; rcases hu with rfl | rfl <;> rfl) (by simp only [maxLen]; omega) (by omega) (by have := hb2.size; simp; omega) ?_; intro v3 w3 hown3 hg3 hnil3; obtain ⟨g, cap, rfl⟩ := own_shape hown3)
    have hb3 : Below w.heap.size w w3 := (b_alloc hb12 _).grown hg3 (by have := hb12.size; simp; omega) (fun k hk => by have := hown.lt k hk; omega)
    obtain ⟨L, hL⟩ : ∃ L, L = l ++ [(size, (0 : Int))] := ⟨_, rfl⟩
    have hLl : L.length = l.length + 1 := by rw [hL]; simp
    have hpc : partsC l ++ [.int .i64 size, .int .i64 0] = partsC L := by rw [hL]; simp [partsC]
    rw [hpc] at hown3
    have hP3 := PartsIn.of (OwnC.of_row hown3).read
    rw [← hL] at his hrg
    have HL := Lib.hid (And.intro hL hpc)
    have HLl := Lib.hid hLl
    clear hown hown3 hg3 hnil3 hnw hb2 hb12 hL hpc hLl hi0 hz0 hz1 hz2
    go_loopw [6, 7, 8, 22] (fun f m e x wr => ∃ (k : Nat) (best most last : Int), k ≤ l.length + 1 ∧ f = .int .i64 best ∧ m = .int .i64 most ∧ e = .int .i64 last ∧ x = .int .i64 k ∧ -1 ≤ best ∧ best ≤ 1000000 ∧ 0 ≤ most ∧ most ≤ 1000000 ∧ 0 ≤ last ∧ last ≤ 1000000 ∧
      Hid (gp (-1) 0 0 L = gp best most last (L.drop k)) ∧ Below w3.heap.size w3 wr) (fun _ _ _ x _ => l.length + 1 - (intOf x).toNat)
    case atStart => exact ⟨0, -1, 0, 0, Nat.zero_le _, rfl, rfl, rfl, rfl, by omega, by omega, by omega, by omega, by omega, by omega, rfl, Below.refl _ _⟩
    case round =>
      obtain ⟨k, best, most, last, hk, rfl, rfl, rfl, rfl, t0, t1, t2, t3, t4, t5, hp, hb⟩ := hrel
      by_cases hlt : k < l.length + 1
      · have hkL : k < L.length := by have := HLl.out; omega
        obtain ⟨b, off, hbo, hc⟩ := hP3.below hb (by omega)
        obtain ⟨rfl, rfl⟩ : g = b ∧ 0 = off := by injection hbo with hbo; injection hbo with h1 h2; exact ⟨h1, h2⟩
        obtain ⟨c1, c2⟩ := hc k hkL
        obtain ⟨r1, r2, r3, r4⟩ := hrg.out k hkL
        have hd := hp.out
        rw [drop_cons hkL] at hd
        clear hc hP3 hp hrg hbo
        obtain ⟨⟨f, n⟩, hfn⟩ : ∃ p : Int × Int, p = L[k] := ⟨_, rfl⟩
        rw [← hfn] at c1 c2 hd r1 r2 r3 r4
        simp only [Nat.zero_add] at c1 c2 hd r1 r2 r3 r4
        clear hfn
        have hd2 : gp best most last ((f, n) :: L.drop (k + 1)) = if most < f - last then gp last (f - last) (f + n) (L.drop (k + 1)) else gp best most (f + n) (L.drop (k + 1)) := rfl
        rw [hd2] at hd
        clear hd2
        by_cases g1 : most < f - last
        · have hd3 := Lib.hid (show gp (-1) 0 0 L = gp last (f - last) (f + n) (L.drop (k + 1)) by rw [hd, if_pos g1])
          have hb3 := Lib.hid (b_alloc hb (.cells #[.int .i64 f, .int .i64 n] 47))
          clear hd hb
          go_wp2
          go_quiet (fail)
          go_wp2
          go_roundw
          case rel => exact ⟨k + 1, last, f - last, f + n, by omega, rfl, rfl, rfl, by go_num, by omega, by omega, by omega, by omega, by omega, by omega, hd3.out, belowN hb3.out _⟩
          case measure => simp [intOf]; omega
        · have hd3 := Lib.hid (show gp (-1) 0 0 L = gp best most (f + n) (L.drop (k + 1)) by rw [hd, if_neg g1])
          have hb3 := Lib.hid (b_alloc hb (.cells #[.int .i64 f, .int .i64 n] 47))
          clear hd hb
          go_wp2
          go_roundw
          case rel => exact ⟨k + 1, best, most, f + n, by omega, rfl, rfl, rfl, by go_num, by omega, by omega, by omega, by omega, by omega, by omega, hd3.out, hb3.out⟩
          case measure => simp [intOf]; omega
      · have hd := hp.out
        rw [List.drop_of_length_le (by have := HLl.out; omega)] at hd
        have hyes := Lib.hid (his.out best most hd wr (hb3.trans (hb.mono hb3.size)))
        clear hd hb hp his hb3
        go_wp2
        go_ret2
        exact hyes.out

set_option maxHeartbeats 1000000 in
theorem specGap_any (A : Option Addr) (c : Nat) (l : List (Int × Int)) (size : Int) (w : World) (h : PartsIn w A l) (hl : l.length ≤ 1000000000) :
    Calls Try.prog 31 #[.slice A l.length c, .int .i64 size] w (GapPost l size w) := by
  cases hv : partsB l size
  · have hno := Lib.hid (gap_no (W := w) hv)
    have Hv := Lib.hid hv
    clear hv
    go_enter Try.func31, Try.ntmps31
    go_wp2_with (go_at_call 16; refine (specParts_any _ _ l _ _ h (by omega)).mono ?_; rintro e w1 ⟨rfl, hb1⟩; rw [Hv.out])
    go_ret2
    exact hno.out _ hb1
  · have his := Lib.hid (fun x y hx => gap_is (W := w) (x := x) (y := y) hv hx)
    have hz : 0 ≤ size ∧ size ≤ 100000 := by
      unfold partsB at hv
      simp only [Bool.and_eq_true] at hv
      exact inB_iff.1 hv.1.1
    obtain ⟨z0, z1⟩ := hz
    have hrg := Lib.hid (fun k hk => parts_range hv k hk)
    have Hv := Lib.hid hv
    clear hv
    go_enter Try.func31, Try.ntmps31
    go_wp2_with (go_at_call 16; refine (specParts_any _ _ l _ _ h (by omega)).mono ?_; rintro e w1 ⟨rfl, hb1⟩; rw [Hv.out])
    go_loopw [6, 7, 8, 9] (fun f m e x wr => ∃ (k : Nat) (best most last : Int), k ≤ l.length + 1 ∧ f = .int .i64 best ∧ m = .int .i64 most ∧ e = .int .i64 last ∧ x = .int .i64 k ∧ -1 ≤ best ∧ best ≤ 1000000 ∧ 0 ≤ most ∧ most ≤ 1000000 ∧ 0 ≤ last ∧ last ≤ 1000000 ∧
      Hid (gp (-1) 0 0 (l ++ [(size, 0)]) = gp best most last ((l ++ [(size, 0)]).drop k)) ∧ Below w.heap.size w wr) (fun _ _ _ x _ => l.length + 1 - (intOf x).toNat)
    case atStart => exact ⟨0, -1, 0, 0, Nat.zero_le _, rfl, rfl, rfl, rfl, by omega, by omega, by omega, by omega, by omega, by omega, rfl, hb1⟩
    case round =>
      obtain ⟨k, best, most, last, hk, rfl, rfl, rfl, rfl, t0, t1, t2, t3, t4, t5, hp, hb⟩ := hrel
      clear hb1
      by_cases hlt : k < l.length
      · obtain ⟨b, off, rfl, hc⟩ := h.below hb (by omega)
        obtain ⟨c1, c2⟩ := hc k hlt
        obtain ⟨r1, r2, r3, r4⟩ := hrg.out k hlt
        have hd := hp.out
        have hdl : (l ++ [(size, (0 : Int))]).drop k = l[k] :: (l ++ [(size, (0 : Int))]).drop (k + 1) := by
          rw [drop_cons (by simp; omega), List.getElem_append_left hlt]
        rw [hdl] at hd
        clear hc h hp hrg hdl
        obtain ⟨⟨f, n⟩, hfn⟩ : ∃ p : Int × Int, p = l[k] := ⟨_, rfl⟩
        rw [← hfn] at c1 c2 hd r1 r2 r3
        simp only at c1 c2 hd r1 r2 r3
        clear hfn
        have hd2 : gp best most last ((f, n) :: (l ++ [(size, (0 : Int))]).drop (k + 1)) = if most < f - last then gp last (f - last) (f + n) ((l ++ [(size, (0 : Int))]).drop (k + 1)) else gp best most (f + n) ((l ++ [(size, (0 : Int))]).drop (k + 1)) := rfl
        rw [hd2] at hd
        clear hd2
        by_cases g1 : most < f - last
        · have hd3 := Lib.hid (show gp (-1) 0 0 (l ++ [(size, 0)]) = gp last (f - last) (f + n) ((l ++ [(size, (0 : Int))]).drop (k + 1)) by rw [hd, if_pos g1])
          have hb3 := Lib.hid hb
          clear hd hb
          go_wp2
          go_quiet (fail)
          go_wp2
          go_roundw
          case rel => exact ⟨k + 1, last, f - last, f + n, by omega, rfl, rfl, rfl, by go_num, by omega, by omega, by omega, by omega, by omega, by omega, hd3.out, belowN hb3.out _⟩
          case measure => simp [intOf]; omega
        · have hd3 := Lib.hid (show gp (-1) 0 0 (l ++ [(size, 0)]) = gp best most (f + n) ((l ++ [(size, (0 : Int))]).drop (k + 1)) by rw [hd, if_neg g1])
          have hb3 := Lib.hid hb
          clear hd hb
          go_wp2
          go_quiet (fail)
          go_wp2
          go_roundw
          case rel => exact ⟨k + 1, best, most, f + n, by omega, rfl, rfl, rfl, by go_num, by omega, by omega, by omega, by omega, by omega, by omega, hd3.out, belowN hb3.out _⟩
          case measure => simp [intOf]; omega
      · by_cases hle : k = l.length
        · have hd := hp.out
          have hdl : (l ++ [(size, (0 : Int))]).drop k = [(size, 0)] := by rw [hle]; simp
          have hdl2 : (l ++ [(size, (0 : Int))]).drop (k + 1) = [] := by rw [hle]; simp
          rw [hdl] at hd
          have hd2 : gp best most last [(size, 0)] = if most < size - last then (last, size - last) else (best, most) := rfl
          rw [hd2] at hd
          have hkle : k ≤ l.length := by omega
          clear hd2 hdl hp h hrg hle
          by_cases g1 : most < size - last
          · have hd3 := Lib.hid (show gp (-1) 0 0 (l ++ [(size, 0)]) = gp last (size - last) last ((l ++ [(size, (0 : Int))]).drop (k + 1)) by rw [hd, if_pos g1, hdl2]; rfl)
            have hb3 := Lib.hid hb
            clear hd hb hdl2
            go_wp2
            go_roundw
            case rel => exact ⟨k + 1, last, size - last, last, by omega, rfl, rfl, rfl, by go_num, by omega, by omega, by omega, by omega, by omega, by omega, hd3.out, hb3.out⟩
            case measure => simp [intOf]; omega
          · have hd3 := Lib.hid (show gp (-1) 0 0 (l ++ [(size, 0)]) = gp best most last ((l ++ [(size, (0 : Int))]).drop (k + 1)) by rw [hd, if_neg g1, hdl2]; rfl)
            have hb3 := Lib.hid hb
            clear hd hb hdl2
            go_wp2
            go_roundw
            case rel => exact ⟨k + 1, best, most, last, by omega, rfl, rfl, rfl, by go_num, by omega, by omega, by omega, by omega, by omega, by omega, hd3.out, hb3.out⟩
            case measure => simp [intOf]; omega
        · have hd := hp.out
          rw [List.drop_of_length_le (by simp; omega)] at hd
          have hyes := Lib.hid (his.out best most hd wr hb)
          clear hd hb hp his
          go_wp2
          go_ret2
          exact hyes.out
end Go.Proofs.Ytpfbkmpjneclpaa
