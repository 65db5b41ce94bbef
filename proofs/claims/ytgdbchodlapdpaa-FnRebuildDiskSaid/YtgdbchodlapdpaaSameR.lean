/- The contract of sameRows on tables that are the same. -/
import Derived.Test.YtgdbchodlapdpaaArrX
import Derived.Test.YtgdbchodlapdpaaSame
namespace Go.Proofs.Ytgdbchodlapdpaa
open Go.RowKit
set_option linter.unusedVariables false

set_option maxHeartbeats 1000000 in
theorem sameRows_same (A B : Option Addr) (c d : Nat) (L : List (List Int)) (w : World) (h1 : RowsR CI w A L) (h2 : RowsR CI w B L) (hl : L.length + sumN L ≤ 1000000000) :
    Calls Try.prog 34 #[.slice A L.length c, .slice B L.length d] w fun e w' => e = .returned (.bool true) ∧ Below w.heap.size w w' := by
  have hb : ((L.length : Int) != L.length) = false := by simp
  go_enter Try.func34, Try.ntmps34
  go_wp2
  go_loopw [5] (fun x wr => ∃ i : Nat, i ≤ L.length ∧ x = .int .i64 i ∧ Below w.heap.size w wr) (fun x _ => L.length - (intOf x).toNat)
  case atStart => exact ⟨0, Nat.zero_le _, rfl, Below.refl _ _⟩
  case round =>
    obtain ⟨i, hi, rfl, hbl⟩ := hrel
    by_cases hlt : i < L.length
    · obtain ⟨b1, o1, rfl, c1⟩ := h1.below hbl (by omega)
      obtain ⟨b2, o2, rfl, c2⟩ := h2.below hbl (by omega)
      obtain ⟨A1, k1, x1, y1, _, _⟩ := c1 i hlt
      obtain ⟨A2, k2, x2, y2, _, _⟩ := c2 i hlt
      have hsm := sumN_get hlt
      clear c1 c2 h1 h2
      obtain ⟨r, hr⟩ : ∃ r, r = L[i] := ⟨_, rfl⟩
      rw [← hr] at x1 x2 y1 y2 hsm
      have Hb := Lib.hid hbl
      have Y1 := Lib.hid y1
      have Y2 := Lib.hid y2
      clear hr hbl y1 y2
      go_wp2
      go_still_tail 8, (by kernel_rfl)
      change wpList _ _ _ _ _ wr.drew
      have Y3 := Lib.hid (show IntsIn wr.drew A1 r from IntsIn.of Y1.out)
      have Y4 := Lib.hid (show IntsIn wr.drew A2 r from IntsIn.of Y2.out)
      generalize hwd : wr.drew = w2 at *
      have hb2 : Below w.heap.size w w2 := by rw [← hwd]; exact Hb.out.drew
      clear hwd x1 x2 Y1 Y2
      go_wp2_with fail
      refine (sameInts_any _ _ _ _ r r _ Y3.out Y4.out (by omega) (by omega)).mono ?_
      rintro e w3 ⟨rfl, q, rfl⟩
      have hd : decide (r = r) = true := by simp
      rw [hd]
      have hb3 := Lib.hid (belowN hb2 q)
      clear Y3 Y4 hb2
      go_wp2
      go_roundw
      case rel => exact ⟨i + 1, by omega, by go_num, hb3.out⟩
      case measure => simp [intOf]; omega
    · go_wp2
      go_ret
      exact ⟨rfl, hbl⟩
end Go.Proofs.Ytgdbchodlapdpaa
