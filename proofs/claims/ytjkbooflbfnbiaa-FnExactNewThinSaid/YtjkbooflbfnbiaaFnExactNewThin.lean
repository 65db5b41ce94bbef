/- Proves Rows.FnExactNewThinSaid: for every input the law FnExactNewThin returns true and leaves its arguments as they were. Conditions: none. -/
import Derived.Test.YtjkbooflbfnbiaaOpen
import Derived.Test.YtjkbooflbfnbiaaThinN
import Derived.Test.YtjkbooflbfnbiaaThinY
namespace Go.Proofs.Ytjkbooflbfnbiaa.fnExactNewThin
open Go.ChangeShapes Go.WideShapes Go.ChangeAt Go.RowKit
set_option linter.unusedVariables false
set_option maxHeartbeats 2000000 in
theorem walk (n p : Int) (w : World) (_ : -9223372036854775808 ≤ n ∧ n ≤ 9223372036854775807) (_ : -9223372036854775808 ≤ p ∧ p ≤ 9223372036854775807) :
    Calls Try.prog 4 #[.int .i64 n, .int .i64 p] w fun e w' => e = .returned (.bool true) ∧ Below w.heap.size w w' := by
  obtain ⟨W, hW⟩ : ∃ W, W = newW n p := ⟨_, rfl⟩
  obtain ⟨P, hP⟩ : ∃ P, P = newP n p := ⟨_, rfl⟩
  have hWl : W.length ≤ 64 := by
    rw [hW]; unfold newW
    split
    · rename_i h
      simp only [Bool.and_eq_true, inB_iff] at h
      simp; omega
    · simp
  have hPl : P.length ≤ 64 := by
    rw [hP]; unfold newP
    split
    · rename_i h
      simp only [Bool.and_eq_true, inB_iff] at h
      simp; omega
    · simp
  have hsp := Lib.hid (fun w => specNew_any n p w)
  have him := Lib.hid (fun w => implNew_any n p w)
  rw [← hW, ← hP] at hsp him
  clear hW hP
  go_enter Try.func4, Try.ntmps4
  go_wp2_with fail
  refine (hsp.out w).mono ?_
  rintro e w1 ⟨v1, rfl, o1, b1⟩
  have O1 := Lib.hid o1
  obtain ⟨A1, c1, B1, d1, rfl, _⟩ := o1
  have B1' := Lib.hid b1
  have hw1 : w.heap.size ≤ w1.heap.size + 1 := by have := b1.size; omega
  clear b1
  go_wp2_with fail
  refine (him.out _).mono ?_
  rintro e w2 ⟨v2, rfl, o2, b2⟩
  have O2 := Lib.hid o2
  obtain ⟨A2, c2, B2, d2, rfl, _⟩ := o2
  have X2 := Lib.hid (show Blk w2 w1.heap.size 27 #[.slice A1 W.length c1, .slice B1 P.length d1] from blk_below b2 (Blk.new rfl) (by simp))
  have C2 := Lib.hid ((b_alloc B1'.out _).trans (b2.mono (by have := B1'.out.size; simp; omega)))
  have P2 := Lib.hid ((O1.out.below (b_alloc (Below.refl _ _) _)).below b2)
  have Z12 : w1.heap.size + 1 ≤ w2.heap.size := by have := b2.size; simpa using this
  have O2 := Lib.hid (O2.out.mono (show w1.heap.size + 1 ≤ _ by simp) (Nat.le_refl _))
  clear b2 O1 B1'
  obtain ⟨x0, x1, f0, f1⟩ := X2.out.two
  have xl2 := X2.out.lt
  go_wp2_with fail
  refine (eqThin_same _ _ W P _ (O2.out.read.alloc _) (P2.out.read.alloc _) (by omega) (by omega)).mono ?_
  rintro e w3 ⟨rfl, b3⟩
  have X3 := Lib.hid (show Blk w3 w1.heap.size 27 #[.slice A1 W.length c1, .slice B1 P.length d1] from blk_below b3 (X2.out.alloc _) (by have := X2.out.lt; simp; omega))
  have Y3 := Lib.hid (show Blk w3 w2.heap.size 27 #[.slice A2 W.length c2, .slice B2 P.length d2] from blk_below b3 (Blk.new rfl) (by simp))
  have C3 := Lib.hid ((b_alloc C2.out _).trans (b3.mono (by have := C2.out.size; simp; omega)))
  have P3 := Lib.hid ((P2.out.below (b_alloc (Below.refl _ _) _)).below b3)
  have O3 := Lib.hid ((O2.out.below (b_alloc (Below.refl _ _) _)).below b3)
  have Z23 : w2.heap.size + 1 ≤ w3.heap.size := by have := b3.size; simpa using this
  have Z02 := C2.out.size
  clear b3 X2 C2 P2 O2 x0 x1 f0 f1
  obtain ⟨y0, y1, g0, g1⟩ := Y3.out.two
  go_wp2_with fail
  refine (markThin_any (w1.heap.size + 1) w2.heap.size _ W P 1 _ O3.out (by omega) (by omega) (by omega) (by omega)).mono ?_
  rintro e w4 ⟨rfl, r4, t4⟩
  have X4 := Lib.hid (show Blk w4 w1.heap.size 27 #[.slice A1 W.length c1, .slice B1 P.length d1] from blk_turn t4 X3.out (.inl (by omega)))
  have Y4 := Lib.hid (show Blk w4 w2.heap.size 27 #[.slice A2 W.length c2, .slice B2 P.length d2] from blk_turn t4 Y3.out (.inr (Nat.le_refl _)))
  have C4 := Lib.hid (C3.out.trans (t4.below w.heap.size hw1 C3.out.size))
  have P4 := Lib.hid (P3.out.turn t4 (.inr (by omega)))
  have R4 := Lib.hid r4
  clear t4 r4 X3 Y3 C3 P3 O3 y0 y1 g0 g1
  obtain ⟨y0, y1, g0, g1⟩ := Y4.out.two
  go_wp2_with fail
  refine (heldThin_any _ W.length P.length 1 _ R4.out (by omega) (by omega) (by omega)).mono ?_
  rintro e w5 ⟨rfl, b5⟩
  have X5 := Lib.hid (show Blk w5 w1.heap.size 27 #[.slice A1 W.length c1, .slice B1 P.length d1] from blk_below b5 X4.out X4.out.lt)
  have Y5 := Lib.hid (show Blk w5 w2.heap.size 27 #[.slice A2 W.length c2, .slice B2 P.length d2] from blk_below b5 Y4.out Y4.out.lt)
  have C5 := Lib.hid (C4.out.trans (b5.mono C4.out.size))
  have P5 := Lib.hid (P4.out.below b5)
  have R5 := Lib.hid (R4.out.below b5)
  have k1 : ((1 : Int) + W.length + P.length != 1 + W.length + P.length) = false := by simp
  clear b5 X4 Y4 C4 P4 R4 y0 y1 g0 g1
  go_wp2_with fail
  refine (him.out _).mono ?_
  rintro e w6 ⟨v6, rfl, o6, b6⟩
  have O6 := Lib.hid o6
  obtain ⟨A6, c6, B6, d6, rfl, _⟩ := o6
  have X6 := Lib.hid (show Blk w6 w1.heap.size 27 #[.slice A1 W.length c1, .slice B1 P.length d1] from blk_below b6 X5.out X5.out.lt)
  have Y6 := Lib.hid (show Blk w6 w2.heap.size 27 #[.slice A2 W.length c2, .slice B2 P.length d2] from blk_below b6 Y5.out Y5.out.lt)
  have C6 := Lib.hid (C5.out.trans (b6.mono C5.out.size))
  have P6 := Lib.hid (P5.out.below b6)
  have R6 := Lib.hid (R5.out.below b6)
  clear b6 X5 Y5 C5 P5 R5
  obtain ⟨x0, x1, f0, f1⟩ := X6.out.two
  have xl := X6.out.lt
  go_wp2_with fail
  refine (eqThin_same _ _ W P _ (O6.out.read.alloc _) (P6.out.read.alloc _) (by omega) (by omega)).mono ?_
  rintro e w7 ⟨rfl, b7⟩
  have Y7 := Lib.hid (show Blk w7 w2.heap.size 27 #[.slice A2 W.length c2, .slice B2 P.length d2] from blk_below b7 (Y6.out.alloc _) (by have := Y6.out.lt; simp; omega))
  have C7 := Lib.hid ((b_alloc C6.out _).trans (b7.mono (by have := C6.out.size; simp; omega)))
  have R7 := Lib.hid ((R6.out.alloc _).below b7)
  clear b7 X6 Y6 C6 P6 R6 O6 x0 x1 f0 f1
  obtain ⟨y0, y1, g0, g1⟩ := Y7.out.two
  go_wp2_with fail
  refine (heldThin_any _ W.length P.length 1 _ R7.out (by omega) (by omega) (by omega)).mono ?_
  rintro e w8 ⟨rfl, b8⟩
  have C8 := Lib.hid (C7.out.trans (b8.mono C7.out.size))
  clear b8
  go_wp2
  go_ret
  exact ⟨rfl, C8.out⟩

set_option maxRecDepth 100000 in
theorem lifted (os : Os) (started : os.Started) (H : Type) (enc : TypeId × Value → H) :
    ReturnsInHanded {} Try.checked os 4 .any (Rows.fnExactNewThinSpec.pre6 enc Try.prog Try.f4 Rows.fnExactNewThinRow.domain false) (Rows.fnExactNewThinSpec.post enc Try.prog Try.f4 false true false false) := by
  refine returnsInHanded_of_change (C := Try.checked) own started (by kernel_rfl) Try.func4
    (ChangeSpec.witness6 (enc := enc) (C := Try.checked) false ⟨#[], #[.int .i64 0, .int .i64 0], []⟩ 8 (by kernel_rfl) (by kernel_rfl) (by kernel_rfl) (by kernel_rfl)) ?_
  intro W base args ds gs before hval0 hW hcnd _
  have hval : ∀ (j : Nat) t v, Try.f4.params[j]? = some t → args[j]? = some v → Value.okWide Try.prog W .any base t v := hval0
  have hW' := hW
  obtain ⟨p, q, hA0, hV, rfl, hfz, hnd⟩ := hW
  have hA : DataW.TrodAll enc Try.prog W 0 (fun _ => true) true Try.f4.params.toList args.toList ds p := hA0
  rw [Try.params4] at hA hval
  obtain ⟨v0, vs0, d0, ds0, p0, q0, hargs, rfl, rfl, h0, r0⟩ := trodAll_cons hA
  obtain ⟨v1, vs1, d1, ds1, p1, q1, rfl, rfl, rfl, h1, r1⟩ := trodAll_cons r0
  obtain ⟨rfl, rfl, rfl⟩ := trodAll_nil r1
  obtain rfl : args = #[v0, v1] := by cases args; simp_all
  obtain ⟨rfl, rfl⟩ := trodVars_none hV
  obtain ⟨a0, rfl, rfl, rfl, w0⟩ := open_int Try.underlying3 (hval 0 3 v0 rfl rfl) h0
  have b0 := bounds_of_wf w0
  obtain ⟨a1, rfl, rfl, rfl, w1⟩ := open_int Try.underlying3 (hval 1 3 v1 rfl rfl) h1
  have b1 := bounds_of_wf w1
  clear hA0 hval0
  refine (walk a0 a1 W b0 b1).mono fun e W' ⟨he, bel⟩ => ?_
  subst he
  exact ⟨_, rfl, _, _, _, [], _, [], hW', trodAll_mk1 (shut_bool Try.underlying4 _), (trodAll_cons_mk (shut_int Try.underlying3 w0) (trodAll_cons_mk (shut_int Try.underlying3 w1) trodAll_mk0)), rfl, bel.frame _, fun h => by cases h⟩

theorem proved : Rows.FnExactNewThinSaid :=
  OpenClaim.holds_of_wide 4 Try.f4 rfl rfl rfl rfl rfl rfl rfl ⟨rfl, rfl, rfl, rfl, rfl⟩ rfl rfl rfl rfl rfl (by kernel_rfl) Try.func4 (by kernel_rfl)
    (of_decide_eq_true (by kernel_rfl)) (by unfold Func.isWrapper; first | (rw [if_pos (by decide +kernel)]; kernel_rfl) | (rw [if_neg (by decide +kernel)]; exact ⟨rfl, rfl⟩))
    (fun os started H enc _ => lifted os started H enc)
#print axioms proved
end Go.Proofs.Ytjkbooflbfnbiaa.fnExactNewThin
