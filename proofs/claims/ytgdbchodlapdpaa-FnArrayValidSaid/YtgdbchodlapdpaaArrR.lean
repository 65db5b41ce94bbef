/- Contracts of data places and of ArrayRead, the program's and the reference's. -/
import Derived.Test.YtgdbchodlapdpaaArrC
namespace Go.Proofs.Ytgdbchodlapdpaa
open Go.RowKit
set_option linter.unusedVariables false

theorem specParity_in (row disks : Int) (w : World) (h1 : 0 ≤ row ∧ row ≤ 15) (h2 : 2 ≤ disks ∧ disks ≤ 6) :
    Calls Try.prog 56 #[.int .i64 row, .int .i64 disks] w fun e w' => e = .returned (.int .i64 (disks - 1 - row % disks)) ∧ w = w' := by
  have g1 := inB_iff.2 h1
  have g2 := inB_iff.2 h2
  have m1 : 0 ≤ row % disks := Int.emod_nonneg _ (by omega)
  have m2 : row % disks < disks := Int.emod_lt_of_pos _ (by omega)
  go_enter Try.func56, Try.ntmps56
  go_wp2_with (go_at_call 37; refine (l1In_any _ _ _ _).mono ?_; rintro e w' ⟨rfl, rfl⟩)
  go_ret
  exact ⟨rfl, rfl⟩
theorem implParity_in (row disks : Int) (w : World) (h1 : 0 ≤ row ∧ row ≤ 15) (h2 : 2 ≤ disks ∧ disks ≤ 6) :
    Calls Try.prog 57 #[.int .i64 row, .int .i64 disks] w fun e w' => e = .returned (.int .i64 (disks - 1 - row % disks)) ∧ w = w' := by
  have m1 : 0 ≤ row % disks := Int.emod_nonneg _ (by omega)
  have m2 : row % disks < disks := Int.emod_lt_of_pos _ (by omega)
  go_enter Try.func57, Try.ntmps57
  go_wp2
  go_ret
  exact ⟨rfl, rfl⟩

set_option maxHeartbeats 1000000 in
theorem data_any (n m D : Int) (w : World) (h1 : m ≤ 16) (h2 : 2 ≤ D) (h3 : D ≤ 6) (n0 : 0 ≤ n) (n1 : n ≤ m * (D - 1) - 1) (n2 : n ≤ 1000000) :
    Calls Try.prog 50 #[.int .i64 n, .int .i64 D] w fun e w' => e = .returned (.int .i64 (plK D n)) ∧ w = w' := by
  obtain ⟨a1, a2, a3, a4, a5, a6, _, _⟩ := pl_facts h1 h2 h3 n0 n1
  clear n1
  by_cases hc : n % (D - 1) < D - 1 - n / (D - 1) % D
  · have hk := Lib.hid (show plK D n = n % (D - 1) from if_pos hc)
    go_enter Try.func50, Try.ntmps50
    go_wp2_with (go_at_call 56; refine (specParity_in _ _ _ (by omega) (by omega)).mono ?_; rintro e w' ⟨rfl, rfl⟩)
    go_ret
    exact ⟨ret_int hk.out.symm, rfl⟩
  · have hk := Lib.hid (show plK D n = n % (D - 1) + 1 from if_neg hc)
    go_enter Try.func50, Try.ntmps50
    go_wp2_with (go_at_call 56; refine (specParity_in _ _ _ (by omega) (by omega)).mono ?_; rintro e w' ⟨rfl, rfl⟩)
    go_ret
    exact ⟨ret_int hk.out.symm, rfl⟩

def DPPost (L : List (List Int)) (n : Int) (W : World) (e : Ending) (w' : World) : Prop :=
  e = .returned (if placeB L n = true then .tuple #[.int .i64 (plK L.length n), .int .i64 (plR L.length n), .bool true] else .tuple #[.int .i64 0, .int .i64 0, .bool false]) ∧ Below W.heap.size W w'

set_option maxHeartbeats 2000000 in
theorem place_any (A : Option Addr) (c : Nat) (L : List (List Int)) (n : Int) (w : World) (h : RowsR CI w A L) (hl : L.length + sumN L ≤ 1000000000) (hn : -9223372036854775808 ≤ n ∧ n ≤ 9223372036854775807) :
    Calls Try.prog 51 #[.slice A L.length c, .int .i64 n] w (DPPost L n w) := by
  have hno := Lib.hid (fun (hv : placeB L n = false) w' (hb : Below w.heap.size w w') => show DPPost L n w (.returned (.tuple #[.int .i64 0, .int .i64 0, .bool false])) w' from ⟨by rw [hv]; rfl, hb⟩)
  have hyes := Lib.hid (fun (hv : placeB L n = true) w' (hb : Below w.heap.size w w') => show DPPost L n w (.returned (.tuple #[.int .i64 (plK L.length n), .int .i64 (plR L.length n), .bool true])) w' from ⟨by rw [hv]; rfl, hb⟩)
  go_enter Try.func51, Try.ntmps51
  go_wp2_with fail
  refine (implArr_any A c L w h hl).mono ?_
  rintro e w1 ⟨rfl, b1⟩
  cases hv : arrB L
  · have hn2 := Lib.hid (hno.out (by simp [placeB, hv]) w1 b1)
    clear hv b1
    go_wp2
    go_ret3
    exact hn2.out
  · obtain ⟨n2, n6, hm, _⟩ := arr_parts hv
    obtain ⟨b, off, rfl, hc⟩ := h.below b1 (by omega)
    obtain ⟨A0, k0, x0, _, _, _⟩ := hc 0 (by omega)
    rw [← headN_get (L := L) (by omega)] at x0
    simp only [Nat.add_zero] at x0
    clear hc h
    have HV := Lib.hid hv
    clear hv
    obtain ⟨m, hme⟩ : ∃ m, m = headN L := ⟨_, rfl⟩
    have hpl := Lib.hid (show placeB L n = inB n 0 ((m : Int) * ((L.length : Int) - 1) - 1) by rw [placeB, HV.out, Bool.true_and, hme])
    rw [← hme] at x0 hm
    clear hme
    obtain ⟨p0, p1⟩ := prod_b (m := (m : Int)) (D := (L.length : Int)) (by omega) (by omega) (by omega) (by omega)
    cases hin : inB n 0 ((m : Int) * ((L.length : Int) - 1) - 1)
    · have hn2 := Lib.hid (hno.out (by rw [hpl.out, hin]) w1 b1)
      clear b1
      go_wp2_with (go_at_call 40; refine (within_is hin _).mono ?_; rintro e w' ⟨rfl, rfl⟩)
      go_ret3
      exact hn2.out
    · obtain ⟨m0, m1⟩ := inB_iff.1 hin
      obtain ⟨a1, a2, a3, a4, a5, a6, _, _⟩ := pl_facts (m := (m : Int)) (D := (L.length : Int)) (by omega) (by omega) (by omega) m0 m1
      have hy := Lib.hid (fun q => hyes.out (by rw [hpl.out, hin]) (w1.drewN q) (belowN b1 q))
      have HIN := Lib.hid hin
      clear m1 hin b1
      go_wp2_with (go_at_call 40; refine (within_is HIN.out _).mono ?_; rintro e w' ⟨rfl, rfl⟩)
      go_quiet (fail)
      by_cases hcq : n % ((L.length : Int) - 1) < (L.length : Int) - 1 - n / ((L.length : Int) - 1) % (L.length : Int)
      · have hk := Lib.hid (show plK L.length n = n % ((L.length : Int) - 1) from if_pos hcq)
        rw [hk.out] at hy
        go_wp2_with (go_at_call 57; refine (implParity_in _ _ _ (by omega) (by omega)).mono ?_; rintro e w' ⟨rfl, rfl⟩)
        go_ret3
        exact hy.out _
      · have hk := Lib.hid (show plK L.length n = n % ((L.length : Int) - 1) + 1 from if_neg hcq)
        rw [hk.out] at hy
        go_wp2_with (go_at_call 57; refine (implParity_in _ _ _ (by omega) (by omega)).mono ?_; rintro e w' ⟨rfl, rfl⟩)
        go_ret3
        exact hy.out _

def ARPost (L : List (List Int)) (n f : Int) (W : World) (e : Ending) (w' : World) : Prop := e = .returned (.int .i64 (readV L n f)) ∧ Below W.heap.size W w'
theorem read_no {L : List (List Int)} {n f : Int} (h : placeB L n = false ∨ inB f (-1) ((L.length : Int) - 1) = false) : readV L n f = -1 := by
  unfold readV
  rcases h with h | h <;> simp [h]
theorem read_yes {L : List (List Int)} {n f : Int} (h : placeB L n = true) (h2 : inB f (-1) ((L.length : Int) - 1) = true) : readV L n f = if plK L.length n = f then xorV L (plR L.length n).toNat (plK L.length n) else (L.getD (plK L.length n).toNat []).getD (plR L.length n).toNat 0 := by
  unfold readV
  rw [h, h2]
  simp
theorem place_in {L : List (List Int)} {n : Int} (h : placeB L n = true) : ∃ k r : Nat, plK L.length n = k ∧ plR L.length n = r ∧ k < L.length ∧ r < headN L ∧ 2 ≤ L.length ∧ L.length ≤ 6 ∧ headN L ≤ 16 ∧ (∀ i (hi : i < L.length), L[i].length = headN L) ∧ 0 ≤ n ∧ n ≤ (headN L : Int) * ((L.length : Int) - 1) - 1 := by
  simp only [placeB, Bool.and_eq_true, inB_iff] at h
  obtain ⟨h1, h2, h3⟩ := h
  obtain ⟨a, b, c, d⟩ := arr_parts h1
  obtain ⟨a1, a2, a3, a4, a5, a6, a7, a8⟩ := pl_facts (m := (headN L : Int)) (D := (L.length : Int)) (by omega) (by omega) (by omega) h2 h3
  exact ⟨(plK L.length n).toNat, (plR L.length n).toNat, by omega, by unfold plR; omega, by omega, by unfold plR; omega, a, b, c, fun i hi => (d i hi).1, h2, h3⟩

set_option maxHeartbeats 2000000 in
theorem implRead_any (A : Option Addr) (c : Nat) (L : List (List Int)) (n f : Int) (w : World) (h : RowsR CI w A L) (hl : L.length + sumN L ≤ 1000000000) (hn : -9223372036854775808 ≤ n ∧ n ≤ 9223372036854775807) (hf : -9223372036854775808 ≤ f ∧ f ≤ 9223372036854775807) :
    Calls Try.prog 24 #[.slice A L.length c, .int .i64 n, .int .i64 f] w (ARPost L n f w) := by
  go_enter Try.func24, Try.ntmps24
  go_wp2_with fail
  refine (place_any A c L n w h hl hn).mono ?_
  rintro e w1 ⟨rfl, b1⟩
  cases hv : placeB L n
  · have hno := Lib.hid (show ARPost L n f w (.returned (.int .i64 (-1))) w1 from ⟨ret_int (read_no (.inl hv)).symm, b1⟩)
    clear hv b1
    go_wp2
    go_ret
    exact hno.out
  · obtain ⟨k, r, hk, hr, hkl, hrl, n2, n6, hm, hrow, _, _⟩ := place_in hv
    rw [hk, hr]
    cases hf2 : inB f (-1) ((L.length : Int) - 1)
    · have hno := Lib.hid (show ARPost L n f w (.returned (.int .i64 (-1))) w1 from ⟨ret_int (read_no (.inr hf2)).symm, b1⟩)
      clear hv b1 hk hr
      go_wp2_with (go_at_call 40; refine (within_is hf2 _).mono ?_; rintro e w' ⟨rfl, rfl⟩)
      go_ret
      exact hno.out
    · have HF := Lib.hid hf2
      have hy := read_yes hv hf2
      rw [hk, hr, Int.toNat_natCast, Int.toNat_natCast] at hy
      by_cases hkf : (k : Int) = f
      · rw [if_pos hkf] at hy
        have hX := Lib.hid (implXor_any A c r k L w1 (h.below b1) hl (fun i hi => by rw [hrow i hi]; exact hrl))
        rw [← hy] at hX
        have hfin := Lib.hid (show ARPost L n f w (.returned (.int .i64 (readV L n f))) w1 from ⟨rfl, b1⟩)
        have e1 : ((k : Int) == f) = true := by simpa using hkf
        clear hv b1 hk hr hf2 hy h hkf
        go_wp2_with (first | (go_at_call 40; refine (within_is HF.out _).mono ?_; rintro e w' ⟨rfl, rfl⟩) | (go_at_call 46; refine hX.out.mono ?_; rintro e w' ⟨rfl, rfl⟩))
        go_ret
        exact hfin.out
      · rw [if_neg hkf] at hy
        have e1 : ((k : Int) == f) = false := by simpa using hkf
        obtain ⟨b, off, rfl, hc⟩ := h.below b1 (by omega)
        obtain ⟨A1, k1, x1, y1, l1, u1⟩ := hc k hkl
        rw [hrow k hkl] at x1 l1
        obtain ⟨b2, o2, rfl, hc2⟩ := (IntsIn.of y1) (by rw [hrow k hkl]; omega)
        have x2 := hc2 r (by rw [hrow k hkl]; exact hrl)
        have e2 : (L.getD k []).getD r 0 = L[k][r]'(by rw [hrow k hkl]; exact hrl) := by
          have g1 : L.getD k [] = L[k] := by rw [List.getD_eq_getElem?_getD, List.getElem?_eq_getElem hkl]; rfl
          rw [g1, List.getD_eq_getElem?_getD, List.getElem?_eq_getElem (by rw [hrow k hkl]; exact hrl)]
          rfl
        rw [← e2, ← hy] at x2
        have hfin := Lib.hid (show ARPost L n f w (.returned (.int .i64 (readV L n f))) w1 from ⟨rfl, b1⟩)
        clear hv b1 hk hr hf2 hy hkf hc hc2 y1 e2 hrow
        go_wp2_with (go_at_call 40; refine (within_is HF.out _).mono ?_; rintro e w' ⟨rfl, rfl⟩)
        go_ret
        exact hfin.out

set_option maxHeartbeats 2000000 in
theorem specRead_any (A : Option Addr) (c : Nat) (L : List (List Int)) (n f : Int) (w : World) (h : RowsR CI w A L) (hl : L.length + sumN L ≤ 1000000000) (hn : -9223372036854775808 ≤ n ∧ n ≤ 9223372036854775807) (hf : -9223372036854775808 ≤ f ∧ f ≤ 9223372036854775807) :
    Calls Try.prog 23 #[.slice A L.length c, .int .i64 n, .int .i64 f] w (ARPost L n f w) := by
  go_enter Try.func23, Try.ntmps23
  go_wp2_with fail
  refine (specArr_any A c L w h hl).mono ?_
  rintro e w1 ⟨rfl, b1⟩
  cases hv : arrB L
  · have hno := Lib.hid (show ARPost L n f w (.returned (.int .i64 (-1))) w1 from ⟨ret_int (read_no (.inl (by simp [placeB, hv]))).symm, b1⟩)
    clear hv b1
    go_wp2
    go_ret
    exact hno.out
  · obtain ⟨n2, n6, hm, hrow⟩ := arr_parts hv
    obtain ⟨p0, p1⟩ := prod_b (m := (headN L : Int)) (D := (L.length : Int)) (by omega) (by omega) (by omega) (by omega)
    obtain ⟨b, off, rfl, hc⟩ := h.below b1 (by omega)
    obtain ⟨A0, k0, x0, _, _, _⟩ := hc 0 (by omega)
    rw [← headN_get (L := L) (by omega)] at x0
    simp only [Nat.add_zero] at x0
    have hpl : placeB L n = inB n 0 ((headN L : Int) * ((L.length : Int) - 1) - 1) := by rw [placeB, hv, Bool.true_and]
    cases hin : inB n 0 ((headN L : Int) * ((L.length : Int) - 1) - 1)
    · have hno := Lib.hid (show ARPost L n f w (.returned (.int .i64 (-1))) w1 from ⟨ret_int (read_no (.inl (by rw [hpl, hin]))).symm, b1⟩)
      clear hv b1 hc hrow hpl
      go_wp2_with (go_at_call 37; refine (l1In_is hin _).mono ?_; rintro e w' ⟨rfl, rfl⟩)
      go_ret
      exact hno.out
    · obtain ⟨m0, m1⟩ := inB_iff.1 hin
      obtain ⟨a1, a2, a3, a4, a5, a6, _, _⟩ := pl_facts (m := (headN L : Int)) (D := (L.length : Int)) (by omega) (by omega) (by omega) m0 m1
      rw [hin] at hpl
      have hD := Lib.hid (fun w => data_any n (headN L) L.length w (by omega) (by omega) (by omega) m0 m1 (by omega))
      obtain ⟨k, r, hk, hr, hkl, hrl, -⟩ := place_in hpl
      have HIN := Lib.hid hin
      clear hin m1
      cases hf2 : inB f (-1) ((L.length : Int) - 1)
      · have hno := Lib.hid (show ARPost L n f w (.returned (.int .i64 (-1))) w1 from ⟨ret_int (read_no (.inr hf2)).symm, b1⟩)
        clear hv b1 hc hrow hpl hk hr
        have hin := HIN.out
        go_wp2_with (go_at_call 37; refine (l1In_any _ _ _ _).mono ?_; rintro e w' ⟨rfl, rfl⟩)
        go_ret
        exact hno.out
      · have HF := Lib.hid hf2
        have hy := read_yes hpl hf2
        have hr' : n / ((L.length : Int) - 1) = r := hr
        rw [hk, hr, Int.toNat_natCast, Int.toNat_natCast] at hy
        rw [hk] at hD
        have HR' := Lib.hid hr'
        by_cases hkf : (k : Int) = f
        · rw [if_pos hkf] at hy
          have hX := Lib.hid (specXor_any (some ⟨b, off, none⟩) c r k L w1 (h.below b1) hl (fun i hi => by rw [(hrow i hi).1]; exact hrl))
          rw [← hy] at hX
          rw [← hr'] at hX
          have hfin := Lib.hid (show ARPost L n f w (.returned (.int .i64 (readV L n f))) w1 from ⟨rfl, b1⟩)
          have e1 : ((k : Int) == f) = true := by simpa using hkf
          clear hv b1 hk hr hf2 hy h hkf hc hrow hpl hr'
          have hin := HIN.out
          have hf2 := HF.out
          go_wp2_with (first | (go_at_call 37; refine (l1In_any _ _ _ _).mono ?_; rintro e w' ⟨rfl, rfl⟩) | (go_at_call 50; refine (hD.out _).mono ?_; rintro e w' ⟨rfl, rfl⟩) | (go_at_call 45; refine hX.out.mono ?_; rintro e w' ⟨rfl, rfl⟩))
          go_ret
          exact hfin.out
        · rw [if_neg hkf] at hy
          have e1 : ((k : Int) == f) = false := by simpa using hkf
          obtain ⟨A1, k1, x1, y1, l1, u1⟩ := hc k hkl
          rw [(hrow k hkl).1] at x1 l1
          obtain ⟨b2, o2, rfl, hc2⟩ := (IntsIn.of y1) (by rw [(hrow k hkl).1]; omega)
          have x2 := hc2 r (by rw [(hrow k hkl).1]; exact hrl)
          have e2 : (L.getD k []).getD r 0 = L[k][r]'(by rw [(hrow k hkl).1]; exact hrl) := by
            have g1 : L.getD k [] = L[k] := by rw [List.getD_eq_getElem?_getD, List.getElem?_eq_getElem hkl]; rfl
            rw [g1, List.getD_eq_getElem?_getD, List.getElem?_eq_getElem (by rw [(hrow k hkl).1]; exact hrl)]
            rfl
          rw [← e2, ← hy] at x2
          have hfin := Lib.hid (show ARPost L n f w (.returned (.int .i64 (readV L n f))) w1 from ⟨rfl, b1⟩)
          clear hv b1 hk hr hf2 hy hkf hc hc2 y1 e2 hrow hpl hr' h
          have hin := HIN.out
          have hf2 := HF.out
          go_wp2_with (go_at_call 37; refine (l1In_any _ _ _ _).mono ?_; rintro e w' ⟨rfl, rfl⟩)
          rw [HR'.out]
          go_wp2_with (go_at_call 50; refine (hD.out _).mono ?_; rintro e w' ⟨rfl, rfl⟩)
          go_ret
          exact hfin.out
end Go.Proofs.Ytgdbchodlapdpaa
