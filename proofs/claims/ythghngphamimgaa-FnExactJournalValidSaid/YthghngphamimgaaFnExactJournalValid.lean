/- Proves Rows.FnExactJournalValidSaid: for every input the law FnExactJournalValid returns true and leaves its arguments as they were. Conditions: none. -/
import Derived.Test.YthghngphamimgaaOpen
import Derived.Test.YthghngphamimgaaRecIn
import Derived.Test.YthghngphamimgaaRecV
import Derived.Test.YthghngphamimgaaRecX
namespace Go.Proofs.Ythghngphamimgaa.fnExactJournalValid
open Go.ChangeShapes Go.WideShapes Go.ChangeAt Go.RowKit
set_option linter.unusedVariables false
set_option maxHeartbeats 1000000 in
theorem walk (A : Option Addr) (n c : Nat) (l : List Rc) (size : Int) (w : World) (ok : n = l.length ∧ RecsIn w A l ∧ n ≤ c ∧ c ≤ 9223372036854775807) (bs : -9223372036854775808 ≤ size ∧ size ≤ 9223372036854775807) :
    Calls Try.prog 3 #[.slice A n c, .int .i64 size] w fun e w' => e = .returned (.bool true) ∧ Below w.heap.size w w' := by
  obtain ⟨rfl, h, hn, hn2⟩ := ok
  by_cases hbig : (1048576 : Int) - l.length < 0
  · have hs : (if (1048576 : Int) - l.length < 0 then (-1 : Int) else 1048576 - l.length) = -1 := if_pos hbig
    go_enter Try.func3, Try.ntmps3
    go_wp2_with (go_at_call 12; refine (szRec_any _ _ _ _ _ (by omega) (by omega)).mono ?_; rintro e w' ⟨rfl, rfl⟩; rw [hs])
    go_ret
    exact ⟨rfl, Below.refl _ _⟩
  · have hs : (if (1048576 : Int) - l.length < 0 then (-1 : Int) else 1048576 - l.length) = 1048576 - l.length := if_neg hbig
    go_enter Try.func3, Try.ntmps3
    go_wp2_with fail
    refine (szRec_any _ _ _ _ _ (by omega) (by omega)).mono ?_
    rintro e w' ⟨rfl, rfl⟩
    rw [hs]
    clear hs
    go_wp2_with fail
    refine (toRecs_any _ _ l _ h (by omega)).mono ?_
    rintro e w1 ⟨A1, c1, rfl, o1, b1⟩
    go_wp2_with fail
    refine (specJr_any _ _ l size _ (RecsIn.of (own_read o1)) (by omega)).mono ?_
    rintro e w2 ⟨rfl, b2⟩
    have b12 := b1.trans (b2.mono b1.size)
    clear o1 b1 b2
    go_wp2_with fail
    refine (toRecs_any _ _ l _ (h.below b12) (by omega)).mono ?_
    rintro e w3 ⟨A3, c3, rfl, o3, b3⟩
    have b13 := b12.trans (b3.mono b12.size)
    clear b12 b3
    go_wp2_with fail
    refine (implJr_any _ _ l size _ (RecsIn.of (own_read o3)) (by omega) (own_cap o3).1 (own_cap o3).2).mono ?_
    rintro e w4 ⟨rfl, b4⟩
    have o4 := own_below o3 b4 (Nat.le_refl _)
    have b14 := b13.trans (b4.mono b13.size)
    have kk : (jrB l size != jrB l size) = false := by simp
    clear o3 b13 b4
    go_wp2_with fail
    refine (toRecs_any _ _ l _ (h.below b14) (by omega)).mono ?_
    rintro e w5 ⟨A5, c5, rfl, o5, b5⟩
    have o6 := own_below o4 b5 (Nat.le_refl _)
    have b15 := b14.trans (b5.mono b14.size)
    clear o4 b14 b5
    go_wp2_with fail
    refine (eqRecs_same _ _ _ _ l _ (RecsIn.of (own_read o6)) (RecsIn.of (own_read o5)) (by omega)).mono ?_
    rintro e w6 ⟨rfl, b6⟩
    go_wp2
    go_ret
    exact ⟨rfl, b15.trans (b6.mono b15.size)⟩

set_option maxRecDepth 100000 in
theorem lifted (os : Os) (started : os.Started) (H : Type) (enc : TypeId × Value → H) :
    ReturnsInHanded {} Try.checked os 3 .any (Rows.fnExactJournalValidSpec.pre6 enc Try.prog Try.f3 Rows.fnExactJournalValidRow.domain false) (Rows.fnExactJournalValidSpec.post enc Try.prog Try.f3 false true false false) := by
  refine returnsInHanded_of_change (C := Try.checked) own started (by kernel_rfl) Try.func3
    (ChangeSpec.witness6 (enc := enc) (C := Try.checked) false ⟨#[], #[.slice none 0 0, .int .i64 0], []⟩ 8 (by kernel_rfl) (by kernel_rfl) (by kernel_rfl) (by kernel_rfl)) ?_
  intro W base args ds gs before hval0 hW hcnd _
  have hval : ∀ (j : Nat) t v, Try.f3.params[j]? = some t → args[j]? = some v → Value.okWide Try.prog W .any base t v := hval0
  have hW' := hW
  obtain ⟨p, q, hA0, hV, rfl, hfz, hnd⟩ := hW
  have hA : DataW.TrodAll enc Try.prog W 0 (fun _ => true) true Try.f3.params.toList args.toList ds p := hA0
  rw [Try.params3] at hA hval
  obtain ⟨v0, vs0, d0, ds0, p0, q0, hargs, rfl, rfl, h0, r0⟩ := trodAll_cons hA
  obtain ⟨v1, vs1, d1, ds1, p1, q1, rfl, rfl, rfl, h1, r1⟩ := trodAll_cons r0
  obtain ⟨rfl, rfl, rfl⟩ := trodAll_nil r1
  obtain rfl : args = #[v0, v1] := by cases args; simp_all
  obtain ⟨rfl, rfl⟩ := trodVars_none hV
  have k0 := h0
  have lt0 : ∀ x ∈ p0, x.block < W.heap.size := by obtain ⟨m, hm⟩ := k0; exact DataW.trod_lt m _ _ _ hm
  obtain ⟨a0, n0, c0, l0, rfl, ok0⟩ := open_records (hval 0 22 v0 rfl rfl) h0
  obtain ⟨a1, rfl, rfl, rfl, w1⟩ := open_int Try.underlying3 (hval 1 3 v1 rfl rfl) h1
  have b1 := bounds_of_wf w1
  clear hA0 hval0
  refine (walk a0 n0 c0 l0 a1 W ok0 b1).mono fun e W' ⟨he, bel⟩ => ?_
  subst he
  exact ⟨_, rfl, _, _, _, [], _, [], hW', trodAll_mk1 (shut_bool Try.underlying4 _), (trodAll_cons_mk (Below.trod laidOut (by kernel_rfl) (of_decide_eq_true (by kernel_rfl)) k0 bel lt0) (trodAll_cons_mk (shut_int Try.underlying3 w1) trodAll_mk0)), rfl, bel.frame _, fun h => by cases h⟩

theorem proved : Rows.FnExactJournalValidSaid :=
  OpenClaim.holds_of_wide 3 Try.f3 rfl rfl rfl rfl rfl rfl rfl ⟨rfl, rfl, rfl, rfl, rfl⟩ rfl rfl rfl rfl rfl (by kernel_rfl) Try.func3 (by kernel_rfl)
    (of_decide_eq_true (by kernel_rfl)) (by unfold Func.isWrapper; first | (rw [if_pos (by decide +kernel)]; kernel_rfl) | (rw [if_neg (by decide +kernel)]; exact ⟨rfl, rfl⟩))
    (fun os started H enc _ => lifted os started H enc)
#print axioms proved
end Go.Proofs.Ythghngphamimgaa.fnExactJournalValid
