/- Contracts of ThinFree, the program's and the reference's. -/
import Derived.Test.YtjkbooflbfnbiaaThinV
namespace Go.Proofs.Ytjkbooflbfnbiaa
open Go.RowKit
set_option linter.unusedVariables false

def freeV (W P : List Int) : Int := if thinB W P = true then (P.length : Int) - usedN W else -1
theorem used_step {W : List Int} {k : Nat} (h : k < W.length) : usedN (W.take (k + 1)) = usedN (W.take k) + (if 0 ≤ W[k] then 1 else 0) := by
  unfold usedN
  rw [List.take_succ_eq_append_getElem h, List.filter_append, List.length_append]
  by_cases h0 : 0 ≤ W[k] <;> simp [h0]
theorem used_le (W : List Int) : usedN W ≤ W.length := List.length_filter_le _ _

def TFPost (W P : List Int) (w : World) (e : Ending) (w' : World) : Prop := e = .returned (.int .i64 (freeV W P)) ∧ Below w.heap.size w w'

set_option maxHeartbeats 1000000 in
theorem implFree_any (v : Value) (W P : List Int) (w : World) (h : ThinR w v W P) (hW : W.length ≤ 1000000000000) (hP : P.length ≤ 1000000000000) :
    Calls Try.prog 22 #[v] w (TFPost W P w) := by
  have HR := Lib.hid h
  obtain ⟨A, c, B, d, rfl, hA, hB, hc1, hc2, hd1, hd2⟩ := h
  go_enter Try.func22, Try.ntmps22
  go_wp2_with fail
  refine (implThin_any _ W P _ (HR.out.alloc _) (by omega) (by omega)).mono ?_
  rintro e w1 ⟨rfl, b1⟩
  have K1 := Lib.hid (show Blk w1 w.heap.size 27 #[.slice A W.length c, .slice B P.length d] from blk_below b1 (Blk.new rfl) (by simp))
  have C1 := Lib.hid ((b_alloc (Below.refl w.heap.size w) _).trans (b1.mono (by simp)))
  clear b1
  obtain ⟨x0, x1, f0, f1⟩ := K1.out.two
  cases hv : thinB W P
  · have hno := Lib.hid (show TFPost W P w (.returned (.int .i64 (-1))) w1 from ⟨ret_int (by simp [freeV, hv]), C1.out⟩)
    clear hv
    go_wp2
    go_ret
    exact hno.out
  · have hval := Lib.hid (fun n (h : n = (P.length : Int) - usedN W) => show TFPost W P w (.returned (.int .i64 n)) w1 from ⟨ret_int (by simp [freeV, hv, h]), C1.out⟩)
    have hA1 := hA.below C1.out
    clear hv hA hB
    go_wp2
    go_loop [3, 15] (fun x y => ∃ k : Nat, k ≤ W.length ∧ x = .int .i64 ((P.length : Int) - usedN (W.take k)) ∧ y = .int .i64 k) (fun _ y => W.length - (intOf y).toNat)
    case atStart => exact ⟨0, Nat.zero_le _, by simp [usedN], rfl⟩
    case round =>
      obtain ⟨k, hk, rfl, rfl⟩ := hrel
      have hu := used_le (W.take k)
      rw [List.length_take] at hu
      by_cases hlt : k < W.length
      · obtain ⟨b, off, rfl, hc⟩ := hA1 (by omega)
        have c1 := hc k hlt
        have hs := Lib.hid (used_step hlt)
        clear hc hA1
        obtain ⟨n, hn⟩ : ∃ n, n = usedN (W.take k) := ⟨_, rfl⟩
        rw [← hn] at hu hs ⊢
        have hn' := Lib.hid hn
        clear hn
        by_cases h0 : 0 ≤ W[k]
        · go_wp2
          go_round
          case rel => exact ⟨k + 1, by omega, by rw [hs.out, if_pos h0]; go_num, by go_num⟩
          case measure => simp [intOf]; omega
        · go_wp2
          go_round
          case rel => exact ⟨k + 1, by omega, by rw [hs.out, if_neg h0]; go_num, by go_num⟩
          case measure => simp [intOf]; omega
      · have hfin := Lib.hid (hval.out _ (by rw [← List.take_of_length_le (show W.length ≤ k by omega)]))
        clear hval
        go_wp2
        go_ret
        exact hfin.out

set_option maxHeartbeats 1000000 in
theorem specFree_any (v : Value) (W P : List Int) (w : World) (h : ThinR w v W P) (hW : W.length ≤ 1000000000000) (hP : P.length ≤ 1000000000000) :
    Calls Try.prog 21 #[v] w (TFPost W P w) := by
  have HR := Lib.hid h
  obtain ⟨A, c, B, d, rfl, hA, hB, hc1, hc2, hd1, hd2⟩ := h
  go_enter Try.func21, Try.ntmps21
  go_wp2_with fail
  refine (specThin_any _ W P _ (HR.out.alloc _) (by omega) (by omega)).mono ?_
  rintro e w1 ⟨rfl, b1⟩
  have K1 := Lib.hid (show Blk w1 w.heap.size 27 #[.slice A W.length c, .slice B P.length d] from blk_below b1 (Blk.new rfl) (by simp))
  have C1 := Lib.hid ((b_alloc (Below.refl w.heap.size w) _).trans (b1.mono (by simp)))
  clear b1
  obtain ⟨x0, x1, f0, f1⟩ := K1.out.two
  cases hv : thinB W P
  · have hno := Lib.hid (show TFPost W P w (.returned (.int .i64 (-1))) w1 from ⟨ret_int (by simp [freeV, hv]), C1.out⟩)
    clear hv
    go_wp2
    go_ret
    exact hno.out
  · have hval := Lib.hid (fun n (h : n = (P.length : Int) - usedN W) => show TFPost W P w (.returned (.int .i64 n)) w1 from ⟨ret_int (by simp [freeV, hv, h]), C1.out⟩)
    have hA1 := hA.below C1.out
    clear hv hA hB
    go_wp2
    go_loop [3, 4] (fun x y => ∃ k : Nat, k ≤ W.length ∧ x = .int .i64 ((P.length : Int) - usedN (W.take k)) ∧ y = .int .i64 k) (fun _ y => W.length - (intOf y).toNat)
    case atStart => exact ⟨0, Nat.zero_le _, by simp [usedN], rfl⟩
    case round =>
      obtain ⟨k, hk, rfl, rfl⟩ := hrel
      have hu := used_le (W.take k)
      rw [List.length_take] at hu
      by_cases hlt : k < W.length
      · obtain ⟨b, off, rfl, hc⟩ := hA1 (by omega)
        have c1 := hc k hlt
        have hs := Lib.hid (used_step hlt)
        clear hc hA1
        obtain ⟨n, hn⟩ : ∃ n, n = usedN (W.take k) := ⟨_, rfl⟩
        rw [← hn] at hu hs ⊢
        have hn' := Lib.hid hn
        clear hn
        by_cases h0 : 0 ≤ W[k]
        · go_wp2
          go_round
          case rel => exact ⟨k + 1, by omega, by rw [hs.out, if_pos h0]; go_num, by go_num⟩
          case measure => simp [intOf]; omega
        · go_wp2
          go_round
          case rel => exact ⟨k + 1, by omega, by rw [hs.out, if_neg h0]; go_num, by go_num⟩
          case measure => simp [intOf]; omega
      · have hfin := Lib.hid (hval.out _ (by rw [← List.take_of_length_le (show W.length ≤ k by omega)]))
        clear hval
        go_wp2
        go_ret
        exact hfin.out
end Go.Proofs.Ytjkbooflbfnbiaa
