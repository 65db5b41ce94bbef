/- The contract of ThinWrite, the reference's, as far as the draw of volumes asks. -/
import Derived.Test.YtjkbooflbfnbiaaThinS
namespace Go.Proofs.Ytjkbooflbfnbiaa
open Go.RowKit
set_option linter.unusedVariables false

def FreePost (n : Nat) (w : World) (e : Ending) (w' : World) : Prop := ∃ v : Int, e = .returned (.int .i64 v) ∧ -1 ≤ v ∧ v < n ∧ Below w.heap.size w w'

set_option maxHeartbeats 2000000 in
theorem l19Free_any (v : Value) (W P : List Int) (w : World) (h : ThinR w v W P) (hW : W.length ≤ 1048576) (hP : P.length ≤ 1048576) :
    Calls Try.prog 60 #[v] w (FreePost P.length w) := by
  have HR := Lib.hid h
  obtain ⟨A, c, B, d, rfl, hA, hB, hc1, hc2, hd1, hd2⟩ := h
  go_enter Try.func60, Try.ntmps60
  have K1 := Lib.hid (show Blk (w.alloc (.cells #[.slice A W.length c, .slice B P.length d] 27)) w.heap.size 27 #[.slice A W.length c, .slice B P.length d] from Blk.new rfl)
  have C1 := Lib.hid (b_alloc (Below.refl w.heap.size w) (.cells #[.slice A W.length c, .slice B P.length d] 27))
  have hA1 := hA.below C1.out
  clear hA hB
  go_wp2
  go_loop [3] (fun x => ∃ p : Nat, p ≤ P.length ∧ x = .int .i64 p) (fun x => P.length - (intOf x).toNat)
  case atStart => exact ⟨0, Nat.zero_le _, rfl⟩
  case round =>
    obtain ⟨p, hp, rfl⟩ := hrel
    by_cases hlt : p < P.length
    · go_wp2
      go_loop [4, 5] (fun x y => ∃ (b : Bool) (k : Nat), k ≤ W.length ∧ x = .bool b ∧ y = .int .i64 k) (fun _ y => W.length - (intOf y).toNat)
      case atStart => exact ⟨true, 0, Nat.zero_le _, rfl, rfl⟩
      case round =>
        obtain ⟨b, k, hk, rfl, rfl⟩ := hrel
        by_cases hkl : k < W.length
        · obtain ⟨g, off, rfl, hc⟩ := hA1 (by omega)
          have c1 := hc k hkl
          clear hc hA1
          obtain ⟨z, hz⟩ : ∃ z, z = W[k] := ⟨_, rfl⟩
          rw [← hz] at c1
          clear hz
          cases b
          · go_wp2
            go_round
            case rel => exact ⟨_, k + 1, by omega, rfl, by go_num⟩
            case measure => simp [intOf]; omega
          · go_wp2
            go_round
            case rel => exact ⟨_, k + 1, by omega, rfl, by go_num⟩
            case measure => simp [intOf]; omega
        · cases b
          · go_wp2
            go_round
            case rel => exact ⟨p + 1, by omega, by go_num⟩
            case measure => simp [intOf]; omega
          · have hfin := Lib.hid (show FreePost P.length w (.returned (.int .i64 p)) (w.alloc (.cells #[.slice A W.length c, .slice B P.length d] 27)) from ⟨p, rfl, by omega, by omega, C1.out⟩)
            go_wp2
            go_ret
            exact hfin.out
    · have hfin := Lib.hid (show FreePost P.length w (.returned (.int .i64 (-1))) (w.alloc (.cells #[.slice A W.length c, .slice B P.length d] 27)) from ⟨-1, rfl, by omega, by omega, C1.out⟩)
      go_wp2
      go_ret
      exact hfin.out
end Go.Proofs.Ytjkbooflbfnbiaa
