/- Proves Rows.FnExactArrayConsistentSaid: for every input the law FnExactArrayConsistent returns true and leaves its arguments as they were. Conditions: none. -/
import Derived.Test.YtgdbchodlapdpaaOpen
import Derived.Test.YtgdbchodlapdpaaOpenW
import Derived.Test.YtgdbchodlapdpaaArrC
import Derived.Test.YtgdbchodlapdpaaArrX
namespace Go.Proofs.Ytgdbchodlapdpaa.fnExactArrayConsistent
open Go.ChangeShapes Go.WideShapes Go.ChangeAt Go.RowKit
set_option linter.unusedVariables false
set_option maxHeartbeats 1000000 in
theorem walk (A : Option Addr) (N c : Nat) (L : List (List Int)) (w : World) (ok : N = L.length ∧ RowsR CI w A L ∧ N ≤ c ∧ c ≤ 9223372036854775807) :
    Calls Try.prog 4 #[.slice A N c] w fun e w' => e = .returned (.bool true) ∧ Below w.heap.size w w' := by
  obtain ⟨rfl, h, hn, hn2⟩ := ok
  have HR := Lib.hid h
  clear h
  go_enter Try.func4, Try.ntmps4
  go_wp2_with fail
  refine (szRows_any _ _ L _ _ HR.out (by omega) (by omega)).mono ?_
  rintro e w' ⟨r, rfl, rfl, hr⟩
  rcases hr with rfl | ⟨r0, hr⟩
  · go_wp2
    go_ret
    exact ⟨rfl, Below.refl _ _⟩
  · have hL : L.length + sumN L ≤ 1048576 := by omega
    clear hr
    go_wp2_with fail
    refine (toRows_any _ _ L _ HR.out (by omega)).mono ?_
    rintro e w1 ⟨A1, c1, rfl, o1, b1⟩
    go_wp2_with fail
    refine (specCon_any _ _ L _ o1.read (by omega)).mono ?_
    rintro e w2 ⟨rfl, b2⟩
    have C2 := Lib.hid (b1.trans (b2.mono b1.size))
    clear o1 b1 b2
    go_wp2_with fail
    refine (toRows_any _ _ L _ (HR.out.below C2.out) (by omega)).mono ?_
    rintro e w3 ⟨A3, c3, rfl, o3, b3⟩
    have C3 := Lib.hid (C2.out.trans (b3.mono C2.out.size))
    clear C2 b3
    go_wp2_with fail
    refine (implCon_any _ _ L _ o3.read (by omega)).mono ?_
    rintro e w4 ⟨rfl, b4⟩
    have O4 := Lib.hid (o3.below b4)
    have C4 := Lib.hid (C3.out.trans (b4.mono C3.out.size))
    have kk : (conB L != conB L) = false := by simp
    clear o3 C3 b4
    go_wp2_with fail
    refine (toRows_any _ _ L _ (HR.out.below C4.out) (by omega)).mono ?_
    rintro e w5 ⟨A5, c5, rfl, o5, b5⟩
    have O5 := Lib.hid (O4.out.below b5)
    have C5 := Lib.hid (C4.out.trans (b5.mono C4.out.size))
    clear O4 C4 b5
    go_wp2_with fail
    refine (eqRows_same _ _ _ _ L _ O5.out.read o5.read (by omega)).mono ?_
    rintro e w6 ⟨rfl, b6⟩
    go_wp2
    go_ret
    exact ⟨rfl, C5.out.trans (b6.mono C5.out.size)⟩

set_option maxRecDepth 100000 in
theorem lifted (os : Os) (started : os.Started) (H : Type) (enc : TypeId × Value → H) :
    ReturnsInHanded {} Try.checked os 4 .any (Rows.fnExactArrayConsistentSpec.pre6 enc Try.prog Try.f4 Rows.fnExactArrayConsistentRow.domain false) (Rows.fnExactArrayConsistentSpec.post enc Try.prog Try.f4 false true false false) := by
  refine returnsInHanded_of_change (C := Try.checked) own started (by kernel_rfl) Try.func4
    (ChangeSpec.witness6 (enc := enc) (C := Try.checked) false ⟨#[], #[.slice none 0 0], []⟩ 8 (by kernel_rfl) (by kernel_rfl) (by kernel_rfl) (by kernel_rfl)) ?_
  intro W base args ds gs before hval0 hW hcnd _
  have hval : ∀ (j : Nat) t v, Try.f4.params[j]? = some t → args[j]? = some v → Value.okWide Try.prog W .any base t v := hval0
  have hW' := hW
  obtain ⟨p, q, hA0, hV, rfl, hfz, hnd⟩ := hW
  have hA : DataW.TrodAll enc Try.prog W 0 (fun _ => true) true Try.f4.params.toList args.toList ds p := hA0
  rw [Try.params4] at hA hval
  obtain ⟨v0, vs0, d0, ds0, p0, q0, hargs, rfl, rfl, h0, r0⟩ := trodAll_cons hA
  obtain ⟨rfl, rfl, rfl⟩ := trodAll_nil r0
  obtain rfl : args = #[v0] := by cases args; simp_all
  obtain ⟨rfl, rfl⟩ := trodVars_none hV
  have k0 := h0
  have lt0 : ∀ x ∈ p0, x.block < W.heap.size := by obtain ⟨m, hm⟩ := k0; exact DataW.trod_lt m _ _ _ hm
  obtain ⟨a0, n0, c0, l0, rfl, ok0⟩ := open_rows (hval 0 22 v0 rfl rfl) h0
  clear hA0 hval0
  refine (walk a0 n0 c0 l0 W ok0).mono fun e W' ⟨he, bel⟩ => ?_
  subst he
  exact ⟨_, rfl, _, _, _, [], _, [], hW', trodAll_mk1 (shut_bool Try.underlying4 _), (trodAll_cons_mk (Below.trod laidOut (by kernel_rfl) (of_decide_eq_true (by kernel_rfl)) k0 bel lt0) trodAll_mk0), rfl, bel.frame _, fun h => by cases h⟩

theorem proved : Rows.FnExactArrayConsistentSaid :=
  OpenClaim.holds_of_wide 4 Try.f4 rfl rfl rfl rfl rfl rfl rfl ⟨rfl, rfl, rfl, rfl, rfl⟩ rfl rfl rfl rfl rfl (by kernel_rfl) Try.func4 (by kernel_rfl)
    (of_decide_eq_true (by kernel_rfl)) (by unfold Func.isWrapper; first | (rw [if_pos (by decide +kernel)]; kernel_rfl) | (rw [if_neg (by decide +kernel)]; exact ⟨rfl, rfl⟩))
    (fun os started H enc _ => lifted os started H enc)
#print axioms proved
end Go.Proofs.Ytgdbchodlapdpaa.fnExactArrayConsistent
