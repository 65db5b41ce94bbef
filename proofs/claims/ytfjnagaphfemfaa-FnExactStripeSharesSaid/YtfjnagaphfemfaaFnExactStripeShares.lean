/- Proves Rows.FnExactStripeSharesSaid: for every input the law FnExactStripeShares returns true and leaves its arguments as they were. Conditions: none. -/
import Derived.Test.YtfjnagaphfemfaaOpen
import Derived.Test.YtfjnagaphfemfaaShares
import Derived.Test.YtfjnagaphfemfaaEqI
import Derived.Test.YtfjnagaphfemfaaMark
namespace Go.Proofs.Ytfjnagaphfemfaa.fnExactStripeShares
open Go.ChangeShapes Go.WideShapes Go.ChangeAt Go.RowKit
set_option linter.unusedVariables false
set_option maxHeartbeats 1000000 in
theorem walk (a n d c : Int) (w : World) (_ : -9223372036854775808 ≤ a ∧ a ≤ 9223372036854775807) (_ : -9223372036854775808 ≤ n ∧ n ≤ 9223372036854775807) (_ : -9223372036854775808 ≤ d ∧ d ≤ 9223372036854775807) (_ : -9223372036854775808 ≤ c ∧ c ≤ 9223372036854775807) :
    Calls Try.prog 6 #[.int .i64 a, .int .i64 n, .int .i64 d, .int .i64 c] w fun e w' => e = .returned (.bool true) ∧ Below w.heap.size w w' := by
  have hL : (sharesL a n d c).length ≤ 1000 := by
    unfold sharesL
    split
    · rename_i h
      rw [shl_length]
      simp only [Bool.and_eq_true] at h
      have := shB_iff.1 h.1.2
      omega
    · simp
  go_enter Try.func6, Try.ntmps6
  go_wp2_with fail
  refine (specShares_any a n d c w).mono ?_
  rintro e w1 ⟨A1, c1, rfl, o1, b1⟩
  go_wp2_with fail
  refine (implShares_any a n d c _).mono ?_
  rintro e w2 ⟨A2, c2, rfl, o2, b2⟩
  have p1 := o1.below b2
  obtain ⟨L, hLe⟩ : ∃ L, L = sharesL a n d c := ⟨_, rfl⟩
  rw [← hLe] at hL o1 o2 p1 ⊢
  have HL := Lib.hid hLe
  clear hLe o1
  go_wp2_with fail
  refine (eqIntS_any A2 A1 c2 c1 L L _ (IntsIn.of o2.read) (IntsIn.of p1.read) (by omega) (by omega)).mono ?_
  rintro e w3 ⟨rfl, q, rfl⟩
  go_wp2_with fail
  refine (mark_any w1.heap.size w2.heap.size A2 c2 L 1 _ (o2.drewN q) (by omega) (by omega)).mono ?_
  rintro e w4 ⟨rfl, o4, t4⟩
  have p4 : OwnC w.heap.size w1.heap.size w4 3 A1 (L.map (Value.int .i64)) := OwnC.turn (w := w2.drewN q) p1 t4 (.inl (Nat.le_refl _))
  have hb4 : Below w.heap.size w w4 := (b1.trans (b2.mono b1.size)).trans ((belowN (Below.refl _ _) q).trans (t4.below w.heap.size b1.size (Nat.le_trans b1.size b2.size)))
  clear o2 p1 t4 b2
  go_wp2_with fail
  refine (held_any A2 L.length c2 1 _ (IntsIn.of o4.read) (by omega) (by omega)).mono ?_
  rintro e w' ⟨rfl, rfl⟩
  have k1 : ((1 : Int) + L.length != 1 + L.length) = false := by simp
  go_wp2_with fail
  refine (implShares_any a n d c _).mono ?_
  rintro e w5 ⟨A5, c5, rfl, o5, b5⟩
  rw [← HL.out] at o5 ⊢
  have p5 := p4.below b5
  have o6 := o4.below b5
  go_wp2_with fail
  refine (eqIntS_any A5 A1 c5 c1 L L _ (IntsIn.of o5.read) (IntsIn.of p5.read) (by omega) (by omega)).mono ?_
  rintro e w6 ⟨rfl, q6, rfl⟩
  go_wp2_with fail
  refine (held_any A2 L.length c2 1 _ (IntsIn.of (o6.drewN q6).read) (by omega) (by omega)).mono ?_
  rintro e w' ⟨rfl, rfl⟩
  go_wp2
  go_ret
  exact ⟨rfl, belowN (hb4.trans (b5.mono hb4.size)) q6⟩

set_option maxRecDepth 100000 in
theorem lifted (os : Os) (started : os.Started) (H : Type) (enc : TypeId × Value → H) :
    ReturnsInHanded {} Try.checked os 6 .any (Rows.fnExactStripeSharesSpec.pre6 enc Try.prog Try.f6 Rows.fnExactStripeSharesRow.domain false) (Rows.fnExactStripeSharesSpec.post enc Try.prog Try.f6 false true false false) := by
  refine returnsInHanded_of_change (C := Try.checked) own started (by kernel_rfl) Try.func6
    (ChangeSpec.witness6 (enc := enc) (C := Try.checked) false ⟨#[], #[.int .i64 0, .int .i64 0, .int .i64 0, .int .i64 0], []⟩ 8 (by kernel_rfl) (by kernel_rfl) (by kernel_rfl) (by kernel_rfl)) ?_
  intro W base args ds gs before hval0 hW hcnd _
  have hval : ∀ (j : Nat) t v, Try.f6.params[j]? = some t → args[j]? = some v → Value.okWide Try.prog W .any base t v := hval0
  have hW' := hW
  obtain ⟨p, q, hA0, hV, rfl, hfz, hnd⟩ := hW
  have hA : DataW.TrodAll enc Try.prog W 0 (fun _ => true) true Try.f6.params.toList args.toList ds p := hA0
  rw [Try.params6] at hA hval
  obtain ⟨v0, vs0, d0, ds0, p0, q0, hargs, rfl, rfl, h0, r0⟩ := trodAll_cons hA
  obtain ⟨v1, vs1, d1, ds1, p1, q1, rfl, rfl, rfl, h1, r1⟩ := trodAll_cons r0
  obtain ⟨v2, vs2, d2, ds2, p2, q2, rfl, rfl, rfl, h2, r2⟩ := trodAll_cons r1
  obtain ⟨v3, vs3, d3, ds3, p3, q3, rfl, rfl, rfl, h3, r3⟩ := trodAll_cons r2
  obtain ⟨rfl, rfl, rfl⟩ := trodAll_nil r3
  obtain rfl : args = #[v0, v1, v2, v3] := by cases args; simp_all
  obtain ⟨rfl, rfl⟩ := trodVars_none hV
  obtain ⟨a0, rfl, rfl, rfl, w0⟩ := open_int Try.underlying3 (hval 0 3 v0 rfl rfl) h0
  have b0 := bounds_of_wf w0
  obtain ⟨a1, rfl, rfl, rfl, w1⟩ := open_int Try.underlying3 (hval 1 3 v1 rfl rfl) h1
  have b1 := bounds_of_wf w1
  obtain ⟨a2, rfl, rfl, rfl, w2⟩ := open_int Try.underlying3 (hval 2 3 v2 rfl rfl) h2
  have b2 := bounds_of_wf w2
  obtain ⟨a3, rfl, rfl, rfl, w3⟩ := open_int Try.underlying3 (hval 3 3 v3 rfl rfl) h3
  have b3 := bounds_of_wf w3
  clear hA0 hval0
  refine (walk a0 a1 a2 a3 W b0 b1 b2 b3).mono fun e W' ⟨he, bel⟩ => ?_
  subst he
  exact ⟨_, rfl, _, _, _, [], _, [], hW', trodAll_mk1 (shut_bool Try.underlying4 _), (trodAll_cons_mk (shut_int Try.underlying3 w0) (trodAll_cons_mk (shut_int Try.underlying3 w1) (trodAll_cons_mk (shut_int Try.underlying3 w2) (trodAll_cons_mk (shut_int Try.underlying3 w3) trodAll_mk0)))), rfl, bel.frame _, fun h => by cases h⟩

theorem proved : Rows.FnExactStripeSharesSaid :=
  OpenClaim.holds_of_wide 6 Try.f6 rfl rfl rfl rfl rfl rfl rfl ⟨rfl, rfl, rfl, rfl, rfl⟩ rfl rfl rfl rfl rfl (by kernel_rfl) Try.func6 (by kernel_rfl)
    (of_decide_eq_true (by kernel_rfl)) (by unfold Func.isWrapper; first | (rw [if_pos (by decide +kernel)]; kernel_rfl) | (rw [if_neg (by decide +kernel)]; exact ⟨rfl, rfl⟩))
    (fun os started H enc _ => lifted os started H enc)
#print axioms proved
end Go.Proofs.Ytfjnagaphfemfaa.fnExactStripeShares
