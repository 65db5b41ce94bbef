/- Proves Rows.FnExactArrayWriteSaid: for every input the law FnExactArrayWrite returns true and leaves its arguments as they were. Conditions: none. -/
import Derived.Test.YtgdbchodlapdpaaOpen
import Derived.Test.YtgdbchodlapdpaaOpenW
import Derived.Test.YtgdbchodlapdpaaArrU
import Derived.Deep.RegionHeld3
namespace Go.Proofs.Ytgdbchodlapdpaa.fnExactArrayWrite
open Go.ChangeShapes Go.WideShapes Go.ChangeAt Go.RowKit
set_option linter.unusedVariables false
theorem resOf {R L : List (List Int)} (hR : R = L) {W : World} {e : Ending} {w' : World} (h : OwnRows L W e w') : ∃ A c, e = .returned (.slice A R.length c) ∧ RowsI W.heap.size w'.heap.size w' (.slice A R.length c) R ∧ Below W.heap.size W w' := by subst hR; exact h
theorem marks_read {lo hi : Nat} {w : World} {A : Option Addr} {c : Nat} {R : List (List Int)} (h : RowsI lo hi w (.slice A R.length c) (mkRows 1 R)) : RowsR CI w A (mkRows 1 R) := by
  rw [← mkRows_length 1 R] at h
  exact h.read

set_option maxHeartbeats 4000000 in
theorem walk (AL : Option Addr) (nL cL : Nat) (L : List (List Int)) (x : Int) (y : Int) (w : World) (okL : nL = L.length ∧ RowsR CI w AL L ∧ nL ≤ cL ∧ cL ≤ 9223372036854775807) (bo_x : -9223372036854775808 ≤ x ∧ x ≤ 9223372036854775807) (bo_y : -9223372036854775808 ≤ y ∧ y ≤ 9223372036854775807) :
    Calls Try.prog 10 #[.slice AL nL cL, .int .i64 x, .int .i64 y] w fun e w' => e = .returned (.bool true) ∧ Below w.heap.size w w' := by
  obtain ⟨rfl, hL, hnL, hmL⟩ := okL
  obtain ⟨R, hRe⟩ : ∃ R, R = wrtV L x y := ⟨_, rfl⟩
  have hRl : R.length + sumN R ≤ 3145728 := by rw [hRe]; have := wrtV_small L x y; omega
  have HRe := Lib.hid hRe
  have HL := Lib.hid hL
  clear hRe hL
  go_enter Try.func10, Try.ntmps10
  go_wp2_with fail
  refine (szRows_any _ _ L _ _ HL.out (by omega) (by omega)).mono ?_
  rintro e w' ⟨rL, rfl, rfl, hrL⟩
  rcases hrL with rfl | ⟨r0L, hrL⟩
  case inl =>
    go_wp2
    go_ret
    exact ⟨rfl, Below.refl _ _⟩
  have hlL : L.length + sumN L ≤ 1048576 := by omega
  clear hrL
  have Z0 : w.heap.size ≤ w.heap.size := Nat.le_refl _
  go_wp2_with fail
  refine (toRows_any _ _ L _ HL.out (by omega)).mono ?_
  rintro e w1 ⟨A1, c1, rfl, o1, b1⟩
  have C1 := Lib.hid b1
  have Z1 := b1.size
  have TL1 := Lib.hid o1
  clear b1 o1 
  go_wp2_with fail
  refine (specWrt_any _ _ L x y _ TL1.out.read (by omega) bo_x).mono ?_
  rintro e w2 hh2
  obtain ⟨A2, c2, rfl, o2, b2⟩ := resOf HRe.out hh2
  have C2 := Lib.hid (C1.out.trans (b2.mono C1.out.size))
  have Z2 := b2.size
  have R2 := Lib.hid o2
  clear b2 o2 hh2 C1 TL1
  go_wp2_with fail
  refine (toRows_any _ _ L _ (HL.out.below C2.out) (by omega)).mono ?_
  rintro e w3 ⟨A3, c3, rfl, o3, b3⟩
  have C3 := Lib.hid (C2.out.trans (b3.mono C2.out.size))
  have R3 := Lib.hid (R2.out.below b3)
  have Z3 := b3.size
  have XL3 := Lib.hid o3
  clear b3 o3 C2 R2
  go_wp2_with fail
  refine (implWrt_any _ _ L x y _ XL3.out.read (by omega) bo_x).mono ?_
  rintro e w4 hh4
  obtain ⟨A4, c4, rfl, o4, b4⟩ := resOf HRe.out hh4
  have C4 := Lib.hid (C3.out.trans (b4.mono C3.out.size))
  have R4 := Lib.hid (R3.out.below b4)
  have XL4 := Lib.hid (XL3.out.below b4)
  have Z4 := b4.size
  have G4 := Lib.hid o4
  clear b4 o4 hh4 C3 R3 XL3
  go_wp2_with fail
  refine (eqRows_same _ _ _ _ R _ G4.out.read R4.out.read (by omega)).mono ?_
  rintro e w5 ⟨rfl, b5⟩
  have C5 := Lib.hid (C4.out.trans (b5.mono C4.out.size))
  have R5 := Lib.hid (R4.out.below b5)
  have XL5 := Lib.hid (XL4.out.below b5)
  have G5 := Lib.hid (G4.out.below b5)
  have Z5 := b5.size
  clear b5 C4 R4 XL4 G4
  go_wp2_with fail
  refine (toRows_any _ _ L _ (HL.out.below C5.out) (by omega)).mono ?_
  rintro e w6 ⟨A6, c6, rfl, o6, b6⟩
  have C6 := Lib.hid (C5.out.trans (b6.mono C5.out.size))
  have R6 := Lib.hid (R5.out.below b6)
  have XL6 := Lib.hid (XL5.out.below b6)
  have G6 := Lib.hid (G5.out.below b6)
  have Z6 := b6.size
  have TL6 := Lib.hid o6
  clear b6 o6 C5 R5 XL5 G5
  go_wp2_with fail
  refine (eqRows_same _ _ _ _ L _ XL6.out.read TL6.out.read (by omega)).mono ?_
  rintro e w7 ⟨rfl, b7⟩
  have C7 := Lib.hid (C6.out.trans (b7.mono C6.out.size))
  have R7 := Lib.hid (R6.out.below b7)
  have XL7 := Lib.hid (XL6.out.below b7)
  have G7 := Lib.hid (G6.out.below b7)
  have Z7 := b7.size
  clear b7 C6 R6 XL6 G6 TL6
  go_wp2_with fail
  refine (markRows_any _ _ _ _ L (1) _ XL7.out (by omega) (by omega)).mono ?_
  rintro e w8 ⟨rfl, _, t8⟩
  have C8 := Lib.hid (C7.out.trans (t8.below w.heap.size (by omega) C7.out.size))
  have Z8 := t8.size
  have R8 := Lib.hid (R7.out.turn t8 (by omega))
  have G8 := Lib.hid (G7.out.turn t8 (by omega))
  clear t8 C7 R7 XL7 G7
  go_wp2_with fail
  refine (eqRows_same _ _ _ _ R _ G8.out.read R8.out.read (by omega)).mono ?_
  rintro e w9 ⟨rfl, b9⟩
  have C9 := Lib.hid (C8.out.trans (b9.mono C8.out.size))
  have R9 := Lib.hid (R8.out.below b9)
  have G9 := Lib.hid (G8.out.below b9)
  have Z9 := b9.size
  clear b9 C8 R8 G8
  go_wp2_with fail
  refine (markRows_any _ _ _ _ R 1 _ G9.out (by omega) (by omega)).mono ?_
  rintro e w10 ⟨rfl, oM, t10⟩
  have C10 := Lib.hid (C9.out.trans (t10.below w.heap.size (by omega) C9.out.size))
  have Z10 := t10.size
  have R10 := Lib.hid (R9.out.turn t10 (by omega))
  have M10 := Lib.hid oM
  clear t10 oM C9 R9 G9
  go_wp2_with fail
  refine (heldRows_any _ _ R 1 _ (marks_read M10.out) (by omega) (by omega)).mono ?_
  rintro e w' ⟨rfl, rfl⟩
  have kk1 : (1 + (sumN R : Int) != 1 + (sumN R : Int)) = false := by simp
  go_wp2_with fail
  refine (toRows_any _ _ L _ (HL.out.below C10.out) (by omega)).mono ?_
  rintro e w11 ⟨A11, c11, rfl, o11, b11⟩
  have C11 := Lib.hid (C10.out.trans (b11.mono C10.out.size))
  have R11 := Lib.hid (R10.out.below b11)
  have M11 := Lib.hid (M10.out.below b11)
  have Z11 := b11.size
  have TL11 := Lib.hid o11
  clear b11 o11 C10 R10 M10
  go_wp2_with fail
  refine (implWrt_any _ _ L x y _ TL11.out.read (by omega) bo_x).mono ?_
  rintro e w12 hh12
  obtain ⟨A12, c12, rfl, o12, b12⟩ := resOf HRe.out hh12
  have C12 := Lib.hid (C11.out.trans (b12.mono C11.out.size))
  have R12 := Lib.hid (R11.out.below b12)
  have M12 := Lib.hid (M11.out.below b12)
  have Z12 := b12.size
  have H12 := Lib.hid o12
  clear b12 o12 hh12 C11 R11 M11 TL11
  go_wp2_with fail
  refine (eqRows_same _ _ _ _ R _ H12.out.read R12.out.read (by omega)).mono ?_
  rintro e w13 ⟨rfl, b13⟩
  have C13 := Lib.hid (C12.out.trans (b13.mono C12.out.size))
  have R13 := Lib.hid (R12.out.below b13)
  have M13 := Lib.hid (M12.out.below b13)
  have H13 := Lib.hid (H12.out.below b13)
  have Z13 := b13.size
  clear b13 C12 R12 M12 H12
  go_wp2_with fail
  refine (heldRows_any _ _ R 1 _ (marks_read M13.out) (by omega) (by omega)).mono ?_
  rintro e w' ⟨rfl, rfl⟩
  go_wp2
  go_ret
  exact ⟨rfl, C13.out⟩

set_option maxRecDepth 100000 in
theorem lifted (os : Os) (started : os.Started) (H : Type) (enc : TypeId × Value → H) :
    ReturnsInHanded {} Try.checked os 10 .any (Rows.fnExactArrayWriteSpec.pre6 enc Try.prog Try.f10 Rows.fnExactArrayWriteRow.domain false) (Rows.fnExactArrayWriteSpec.post enc Try.prog Try.f10 false true false false) := by
  refine returnsInHanded_of_change (C := Try.checked) own started (by kernel_rfl) Try.func10
    (ChangeSpec.witness6 (enc := enc) (C := Try.checked) false ⟨#[], #[.slice none 0 0, .int .i64 0, .int .i64 0], []⟩ 8 (by kernel_rfl) (by kernel_rfl) (by kernel_rfl) (by kernel_rfl)) ?_
  intro W base args ds gs before hval0 hW hcnd _
  have hval : ∀ (j : Nat) t v, Try.f10.params[j]? = some t → args[j]? = some v → Value.okWide Try.prog W .any base t v := hval0
  have hW' := hW
  obtain ⟨p, q, hA0, hV, rfl, hfz, hnd⟩ := hW
  have hA : DataW.TrodAll enc Try.prog W 0 (fun _ => true) true Try.f10.params.toList args.toList ds p := hA0
  rw [Try.params10] at hA hval
  obtain ⟨v0, vs0, d0, ds0, p0, q0, hargs, rfl, rfl, h0, r0⟩ := trodAll_cons hA
  obtain ⟨v1, vs1, d1, ds1, p1, q1, rfl, rfl, rfl, h1, r1⟩ := trodAll_cons r0
  obtain ⟨v2, vs2, d2, ds2, p2, q2, rfl, rfl, rfl, h2, r2⟩ := trodAll_cons r1
  obtain ⟨rfl, rfl, rfl⟩ := trodAll_nil r2
  obtain rfl : args = #[v0, v1, v2] := by cases args; simp_all
  obtain ⟨rfl, rfl⟩ := trodVars_none hV
  have k0 := h0
  have lt0 : ∀ x ∈ p0, x.block < W.heap.size := by obtain ⟨m, hm⟩ := k0; exact DataW.trod_lt m _ _ _ hm
  obtain ⟨a0, n0, c0, l0, rfl, ok0⟩ := open_rows (hval 0 22 v0 rfl rfl) h0
  obtain ⟨a1, rfl, rfl, rfl, w1⟩ := open_int Try.underlying3 (hval 1 3 v1 rfl rfl) h1
  have b1 := bounds_of_wf w1
  obtain ⟨a2, rfl, rfl, rfl, w2⟩ := open_int Try.underlying3 (hval 2 3 v2 rfl rfl) h2
  have b2 := bounds_of_wf w2
  clear hA0 hval0
  refine (walk a0 n0 c0 l0 a1 a2 W ok0 b1 b2).mono fun e W' ⟨he, bel⟩ => ?_
  subst he
  exact ⟨_, rfl, _, _, _, [], _, [], hW', trodAll_mk1 (shut_bool Try.underlying4 _), (trodAll_cons_mk (Below.trod laidOut (by kernel_rfl) (of_decide_eq_true (by kernel_rfl)) k0 bel lt0) (trodAll_cons_mk (shut_int Try.underlying3 w1) (trodAll_cons_mk (shut_int Try.underlying3 w2) trodAll_mk0))), rfl, bel.frame _, fun h => by cases h⟩

theorem proved : Rows.FnExactArrayWriteSaid :=
  OpenClaim.holds_of_wide 10 Try.f10 rfl rfl rfl rfl rfl rfl rfl ⟨rfl, rfl, rfl, rfl, rfl⟩ rfl rfl rfl rfl rfl (by kernel_rfl) Try.func10 (by kernel_rfl)
    (of_decide_eq_true (by kernel_rfl)) (by unfold Func.isWrapper; first | (rw [if_pos (by decide +kernel)]; kernel_rfl) | (rw [if_neg (by decide +kernel)]; exact ⟨rfl, rfl⟩))
    (fun os started H enc _ => lifted os started H enc)
#print axioms proved
end Go.Proofs.Ytgdbchodlapdpaa.fnExactArrayWrite
