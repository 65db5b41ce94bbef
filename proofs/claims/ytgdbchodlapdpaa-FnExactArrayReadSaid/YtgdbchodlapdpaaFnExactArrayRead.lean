/- Proves Rows.FnExactArrayReadSaid: for every input the law FnExactArrayRead returns true and leaves its arguments as they were. Conditions: none. -/
import Derived.Test.YtgdbchodlapdpaaOpen
import Derived.Test.YtgdbchodlapdpaaOpenW
import Derived.Test.YtgdbchodlapdpaaArrR
import Derived.Test.YtgdbchodlapdpaaArrX
namespace Go.Proofs.Ytgdbchodlapdpaa.fnExactArrayRead
open Go.ChangeShapes Go.WideShapes Go.ChangeAt Go.RowKit
set_option linter.unusedVariables false
set_option maxHeartbeats 1000000 in
theorem walk (A : Option Addr) (N c : Nat) (L : List (List Int)) (n : Int) (f : Int) (w : World) (ok : N = L.length ∧ RowsR CI w A L ∧ N ≤ c ∧ c ≤ 9223372036854775807) (bn : -9223372036854775808 ≤ n ∧ n ≤ 9223372036854775807) (bf : -9223372036854775808 ≤ f ∧ f ≤ 9223372036854775807) :
    Calls Try.prog 6 #[.slice A N c, .int .i64 n, .int .i64 f] w fun e w' => e = .returned (.bool true) ∧ Below w.heap.size w w' := by
  obtain ⟨rfl, h, hn, hn2⟩ := ok
  have HR := Lib.hid h
  clear h
  go_enter Try.func6, Try.ntmps6
  go_wp2_with fail
  refine (szRows_any _ _ L _ _ HR.out (by omega) (by omega)).mono ?_
  rintro e w' ⟨r, rfl, rfl, hr⟩
  rcases hr with rfl | ⟨r0, hr⟩
  · go_wp2
    go_ret
    exact ⟨rfl, Below.refl _ _⟩
  · have hL : L.length + sumN L ≤ 1048576 := by omega
    clear hr
    go_wp2_with fail
    refine (toRows_any _ _ L _ HR.out (by omega)).mono ?_
    rintro e w1 ⟨A1, c1, rfl, o1, b1⟩
    go_wp2_with fail
    refine (specRead_any _ _ L n f _ o1.read (by omega) bn bf).mono ?_
    rintro e w2 ⟨rfl, b2⟩
    have C2 := Lib.hid (b1.trans (b2.mono b1.size))
    clear o1 b1 b2
    go_wp2_with fail
    refine (toRows_any _ _ L _ (HR.out.below C2.out) (by omega)).mono ?_
    rintro e w3 ⟨A3, c3, rfl, o3, b3⟩
    have C3 := Lib.hid (C2.out.trans (b3.mono C2.out.size))
    clear C2 b3
    go_wp2_with fail
    refine (implRead_any _ _ L n f _ o3.read (by omega) bn bf).mono ?_
    rintro e w4 ⟨rfl, b4⟩
    have O4 := Lib.hid (o3.below b4)
    have C4 := Lib.hid (C3.out.trans (b4.mono C3.out.size))
    have kk : (readV L n f != readV L n f) = false := by simp
    clear o3 C3 b4
    go_wp2_with fail
    refine (toRows_any _ _ L _ (HR.out.below C4.out) (by omega)).mono ?_
    rintro e w5 ⟨A5, c5, rfl, o5, b5⟩
    have O5 := Lib.hid (O4.out.below b5)
    have C5 := Lib.hid (C4.out.trans (b5.mono C4.out.size))
    clear O4 C4 b5
    go_wp2_with fail
    refine (eqRows_same _ _ _ _ L _ O5.out.read o5.read (by omega)).mono ?_
    rintro e w6 ⟨rfl, b6⟩
    go_wp2
    go_ret
    exact ⟨rfl, C5.out.trans (b6.mono C5.out.size)⟩

set_option maxRecDepth 100000 in
theorem lifted (os : Os) (started : os.Started) (H : Type) (enc : TypeId × Value → H) :
    ReturnsInHanded {} Try.checked os 6 .any (Rows.fnExactArrayReadSpec.pre6 enc Try.prog Try.f6 Rows.fnExactArrayReadRow.domain false) (Rows.fnExactArrayReadSpec.post enc Try.prog Try.f6 false true false false) := by
  refine returnsInHanded_of_change (C := Try.checked) own started (by kernel_rfl) Try.func6
    (ChangeSpec.witness6 (enc := enc) (C := Try.checked) false ⟨#[], #[.slice none 0 0, .int .i64 0, .int .i64 0], []⟩ 8 (by kernel_rfl) (by kernel_rfl) (by kernel_rfl) (by kernel_rfl)) ?_
  intro W base args ds gs before hval0 hW hcnd _
  have hval : ∀ (j : Nat) t v, Try.f6.params[j]? = some t → args[j]? = some v → Value.okWide Try.prog W .any base t v := hval0
  have hW' := hW
  obtain ⟨p, q, hA0, hV, rfl, hfz, hnd⟩ := hW
  have hA : DataW.TrodAll enc Try.prog W 0 (fun _ => true) true Try.f6.params.toList args.toList ds p := hA0
  rw [Try.params6] at hA hval
  obtain ⟨v0, vs0, d0, ds0, p0, q0, hargs, rfl, rfl, h0, r0⟩ := trodAll_cons hA
  obtain ⟨v1, vs1, d1, ds1, p1, q1, rfl, rfl, rfl, h1, r1⟩ := trodAll_cons r0
  obtain ⟨v2, vs2, d2, ds2, p2, q2, rfl, rfl, rfl, h2, r2⟩ := trodAll_cons r1
  obtain ⟨rfl, rfl, rfl⟩ := trodAll_nil r2
  obtain rfl : args = #[v0, v1, v2] := by cases args; simp_all
  obtain ⟨rfl, rfl⟩ := trodVars_none hV
  have k0 := h0
  have lt0 : ∀ x ∈ p0, x.block < W.heap.size := by obtain ⟨m, hm⟩ := k0; exact DataW.trod_lt m _ _ _ hm
  obtain ⟨a0, n0, c0, l0, rfl, ok0⟩ := open_rows (hval 0 22 v0 rfl rfl) h0
  obtain ⟨a1, rfl, rfl, rfl, w1⟩ := open_int Try.underlying3 (hval 1 3 v1 rfl rfl) h1
  have b1 := bounds_of_wf w1
  obtain ⟨a2, rfl, rfl, rfl, w2⟩ := open_int Try.underlying3 (hval 2 3 v2 rfl rfl) h2
  have b2 := bounds_of_wf w2
  clear hA0 hval0
  refine (walk a0 n0 c0 l0 a1 a2 W ok0 b1 b2).mono fun e W' ⟨he, bel⟩ => ?_
  subst he
  exact ⟨_, rfl, _, _, _, [], _, [], hW', trodAll_mk1 (shut_bool Try.underlying4 _), (trodAll_cons_mk (Below.trod laidOut (by kernel_rfl) (of_decide_eq_true (by kernel_rfl)) k0 bel lt0) (trodAll_cons_mk (shut_int Try.underlying3 w1) (trodAll_cons_mk (shut_int Try.underlying3 w2) trodAll_mk0))), rfl, bel.frame _, fun h => by cases h⟩

theorem proved : Rows.FnExactArrayReadSaid :=
  OpenClaim.holds_of_wide 6 Try.f6 rfl rfl rfl rfl rfl rfl rfl ⟨rfl, rfl, rfl, rfl, rfl⟩ rfl rfl rfl rfl rfl (by kernel_rfl) Try.func6 (by kernel_rfl)
    (of_decide_eq_true (by kernel_rfl)) (by unfold Func.isWrapper; first | (rw [if_pos (by decide +kernel)]; kernel_rfl) | (rw [if_neg (by decide +kernel)]; exact ⟨rfl, rfl⟩))
    (fun os started H enc _ => lifted os started H enc)
#print axioms proved
end Go.Proofs.Ytgdbchodlapdpaa.fnExactArrayRead
