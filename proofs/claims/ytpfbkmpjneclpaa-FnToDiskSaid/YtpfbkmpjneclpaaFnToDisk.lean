/- Proves Rows.FnToDiskSaid: for every input the law FnToDisk returns true and leaves its arguments as they were. Conditions: none. -/
import Derived.Test.YtpfbkmpjneclpaaOpen
import Derived.Test.YtpfbkmpjneclpaaPartsLaw
import Derived.Test.YtpfbkmpjneclpaaDrawPs
import Derived.Test.YtpfbkmpjneclpaaInts
namespace Go.Proofs.Ytpfbkmpjneclpaa.fnToDisk
open Go.ChangeShapes Go.WideShapes Go.ChangeAt Go.RowKit
set_option linter.unusedVariables false
set_option maxHeartbeats 1000000 in
theorem walk (A : Option Addr) (m cp : Nat) (w : World) (hb : BytesIn w A m) (hmc : m ≤ cp) (hcp : cp ≤ 9223372036854775807) :
    Calls Try.prog 11 #[.slice A m cp] w fun e w' => e = .returned (.bool true) ∧ Below w.heap.size w w' := by
  by_cases hbig : 1048576 < m
  · go_enter Try.func11, Try.ntmps11
    go_wp2
    go_ret
    exact ⟨rfl, Below.refl _ _⟩
  · go_enter Try.func11, Try.ntmps11
    go_wp2_with fail
    refine (drawToDisk_any A m cp w hb hmc hcp).mono ?_
    rintro e w1 ⟨B, c, l, size, n, a, rfl, hR, hl, s0, s1, n0, n1, a0, a1, hb1⟩
    have hP := PartsIn.of hR
    clear hR
    go_wp2_with fail
    refine (implToDisk_any B c l size n a _ hP (by omega)).mono ?_
    rintro e w2 ⟨rfl, hb2⟩
    have hP2 := hP.below hb2
    have hb12 := hb1.trans (hb2.mono hb1.size)
    clear hP hb1 hb2
    go_wp2_with fail
    refine (specToDisk_any B c l size n a _ hP2 (by omega)).mono ?_
    rintro e w3 ⟨rfl, hb3⟩
    have hP3 := hP2.below hb3
    have hb13 := hb12.trans (hb3.mono hb12.size)
    clear hP2 hb12 hb3
    by_cases hneg : toDiskV l size n a < 0
    · rw [td_neg hneg]
      clear hneg
      go_wp2_with (go_at_call 28; refine (alive_any _).mono ?_; rintro e w2 ⟨rfl, hb2⟩)
      go_ret
      exact ⟨rfl, hb13.trans (hb2.mono hb13.size)⟩
    · obtain ⟨htl, htd⟩ := td_fd hneg
      obtain ⟨x, hx⟩ : ∃ x, x = toDiskV l size n a := ⟨_, rfl⟩
      rw [← hx] at hneg htl htd ⊢
      clear hx
      have htd' := Lib.hid htd
      clear htd
      go_wp2_with fail
      refine (implFromDisk_any B c l size x _ hP3 (by omega)).mono ?_
      rintro e w4 ⟨rfl, hb4⟩
      rw [htd'.out]
      have k1 : decide (x < size) = true := by simpa using htl
      have k2 : (n == n) = true := by simp
      have k3 : (a == a) = true := by simp
      go_wp2
      go_ret
      exact ⟨rfl, hb13.trans (hb4.mono hb13.size)⟩

set_option maxRecDepth 100000 in
theorem lifted (os : Os) (started : os.Started) (H : Type) (enc : TypeId × Value → H) :
    ReturnsInHanded {} Try.checked os 11 .any (Rows.fnToDiskSpec.pre6 enc Try.prog Try.f11 Rows.fnToDiskRow.domain false) (Rows.fnToDiskSpec.post enc Try.prog Try.f11 false true false false) := by
  refine returnsInHanded_of_change (C := Try.checked) own started (by kernel_rfl) Try.func11
    (ChangeSpec.witness6 (enc := enc) (C := Try.checked) false ⟨#[], #[.slice none 0 0], []⟩ 8 (by kernel_rfl) (by kernel_rfl) (by kernel_rfl) (by kernel_rfl)) ?_
  intro W base args ds gs before hval0 hW hcnd _
  have hval : ∀ (j : Nat) t v, Try.f11.params[j]? = some t → args[j]? = some v → Value.okWide Try.prog W .any base t v := hval0
  have hW' := hW
  obtain ⟨p, q, hA0, hV, rfl, hfz, hnd⟩ := hW
  have hA : DataW.TrodAll enc Try.prog W 0 (fun _ => true) true Try.f11.params.toList args.toList ds p := hA0
  rw [Try.params11] at hA hval
  obtain ⟨v0, vs0, d0, ds0, p0, q0, hargs, rfl, rfl, h0, r0⟩ := trodAll_cons hA
  obtain ⟨rfl, rfl, rfl⟩ := trodAll_nil r0
  obtain rfl : args = #[v0] := by cases args; simp_all
  obtain ⟨rfl, rfl⟩ := trodVars_none hV
  have k0 := h0
  have lt0 : ∀ x ∈ p0, x.block < W.heap.size := by obtain ⟨m, hm⟩ := k0; exact DataW.trod_lt m _ _ _ hm
  obtain ⟨a0, n0, c0, rfl, ok0, le0, cl0⟩ := open_bytes (hval 0 34 v0 rfl rfl) h0
  clear hA0 hval0
  refine (walk a0 n0 c0 W ok0 le0 cl0).mono fun e W' ⟨he, bel⟩ => ?_
  subst he
  exact ⟨_, rfl, _, _, _, [], _, [], hW', trodAll_mk1 (shut_bool Try.underlying4 _), (trodAll_cons_mk (Below.trod laidOut (by kernel_rfl) (of_decide_eq_true (by kernel_rfl)) k0 bel lt0) trodAll_mk0), rfl, bel.frame _, fun h => by cases h⟩

theorem proved : Rows.FnToDiskSaid :=
  OpenClaim.holds_of_wide 11 Try.f11 rfl rfl rfl rfl rfl rfl rfl ⟨rfl, rfl, rfl, rfl, rfl⟩ rfl rfl rfl rfl rfl (by kernel_rfl) Try.func11 (by kernel_rfl)
    (of_decide_eq_true (by kernel_rfl)) (by unfold Func.isWrapper; first | (rw [if_pos (by decide +kernel)]; kernel_rfl) | (rw [if_neg (by decide +kernel)]; exact ⟨rfl, rfl⟩))
    (fun os started H enc _ => lifted os started H enc)
#print axioms proved
end Go.Proofs.Ytpfbkmpjneclpaa.fnToDisk
