/- Proves Rows.FnArrayReadSaid: for every input the law FnArrayRead returns true and leaves its arguments as they were. Conditions: none. -/
import Derived.Test.YtgdbchodlapdpaaOpen
import Derived.Test.YtgdbchodlapdpaaArrS
import Derived.Test.YtgdbchodlapdpaaDrAr
namespace Go.Proofs.Ytgdbchodlapdpaa.fnArrayRead
open Go.ChangeShapes Go.WideShapes Go.ChangeAt Go.RowKit
set_option linter.unusedVariables false
set_option maxHeartbeats 4000000 in
theorem walk (A : Option Addr) (m cp : Nat) (w : World) (hb : BytesIn w A m) (hmc : m ≤ cp) (hcp : cp ≤ 9223372036854775807) :
    Calls Try.prog 9 #[.slice A m cp] w fun e w' => e = .returned (.bool true) ∧ Below w.heap.size w w' := by
  by_cases hbig : 1048576 < m
  · go_enter Try.func9, Try.ntmps9
    go_wp2
    go_ret
    exact ⟨rfl, Below.refl _ _⟩
  · go_enter Try.func9, Try.ntmps9
    go_wp2_with fail
    refine (drawAR_any A m cp w hb hmc hcp).mono ?_
    rintro e w1 ⟨A1, c1, L, n, f, rfl, ⟨ht, l1, lc, hc1, hs, b1⟩, n0, n1, f0, f1⟩
    have T1 := Lib.hid ht
    have C1 := Lib.hid b1
    clear b1 hb ht
    go_wp2_with fail
    refine (implRead_any A1 c1 L n f _ T1.out (by omega) (by omega) (by omega)).mono ?_
    rintro e w2 ⟨rfl, b2⟩
    have T2 := Lib.hid (T1.out.below b2)
    have C2 := Lib.hid (C1.out.trans (b2.mono C1.out.size))
    clear b2 T1 C1
    go_wp2_with fail
    refine (specRead_any A1 c1 L n f _ T2.out (by omega) (by omega) (by omega)).mono ?_
    rintro e w3 ⟨rfl, b3⟩
    have T3 := Lib.hid (T2.out.below b3)
    have C3 := Lib.hid (C2.out.trans (b3.mono C2.out.size))
    clear b3 T2 C2
    have hne : ∀ v : Int, (v != v) = false := fun v => by simp
    rcases read_range L n f with hv | ⟨hp, hf, v0, v1⟩
    · rw [hv]
      go_wp2_with (go_at_call 22; refine (alive_any _).mono ?_; rintro e w7 ⟨rfl, hb7⟩)
      go_ret
      exact ⟨rfl, C3.out.trans (hb7.mono C3.out.size)⟩
    · have HC := Lib.hid (fun hc : conB L = true => read_con (n := n) (f := f) hc hp hf)
      obtain ⟨v, hvv⟩ : ∃ v, v = readV L n f := ⟨_, rfl⟩
      rw [← hvv] at v0 v1 HC ⊢
      clear hvv
      have hn := hne v
      go_wp2_with fail
      refine (implCon_any A1 c1 L _ T3.out (by omega)).mono ?_
      rintro e w4 ⟨rfl, b4⟩
      have T4 := Lib.hid (T3.out.below b4)
      have C4 := Lib.hid (C3.out.trans (b4.mono C3.out.size))
      clear b4 T3 C3
      cases hc : conB L
      · go_wp2
        go_ret
        exact ⟨rfl, C4.out⟩
      · have hr := HC.out hc
        clear hc HC
        go_wp2_with fail
        refine (implRead_any A1 c1 L n (-1) _ T4.out (by omega) (by omega) (by omega)).mono ?_
        rintro e w5 ⟨rfl, b5⟩
        rw [← hr]
        have C5 := Lib.hid (C4.out.trans (b5.mono C4.out.size))
        clear b5 T4 C4 hr
        have hy : (v == v) = true := by simp
        go_wp2
        go_ret
        exact ⟨rfl, C5.out⟩

set_option maxRecDepth 100000 in
theorem lifted (os : Os) (started : os.Started) (H : Type) (enc : TypeId × Value → H) :
    ReturnsInHanded {} Try.checked os 9 .any (Rows.fnArrayReadSpec.pre6 enc Try.prog Try.f9 Rows.fnArrayReadRow.domain false) (Rows.fnArrayReadSpec.post enc Try.prog Try.f9 false true false false) := by
  refine returnsInHanded_of_change (C := Try.checked) own started (by kernel_rfl) Try.func9
    (ChangeSpec.witness6 (enc := enc) (C := Try.checked) false ⟨#[], #[.slice none 0 0], []⟩ 8 (by kernel_rfl) (by kernel_rfl) (by kernel_rfl) (by kernel_rfl)) ?_
  intro W base args ds gs before hval0 hW hcnd _
  have hval : ∀ (j : Nat) t v, Try.f9.params[j]? = some t → args[j]? = some v → Value.okWide Try.prog W .any base t v := hval0
  have hW' := hW
  obtain ⟨p, q, hA0, hV, rfl, hfz, hnd⟩ := hW
  have hA : DataW.TrodAll enc Try.prog W 0 (fun _ => true) true Try.f9.params.toList args.toList ds p := hA0
  rw [Try.params9] at hA hval
  obtain ⟨v0, vs0, d0, ds0, p0, q0, hargs, rfl, rfl, h0, r0⟩ := trodAll_cons hA
  obtain ⟨rfl, rfl, rfl⟩ := trodAll_nil r0
  obtain rfl : args = #[v0] := by cases args; simp_all
  obtain ⟨rfl, rfl⟩ := trodVars_none hV
  have k0 := h0
  have lt0 : ∀ x ∈ p0, x.block < W.heap.size := by obtain ⟨m, hm⟩ := k0; exact DataW.trod_lt m _ _ _ hm
  obtain ⟨a0, n0, c0, rfl, ok0, le0, cl0⟩ := open_bytes (hval 0 27 v0 rfl rfl) h0
  clear hA0 hval0
  refine (walk a0 n0 c0 W ok0 le0 cl0).mono fun e W' ⟨he, bel⟩ => ?_
  subst he
  exact ⟨_, rfl, _, _, _, [], _, [], hW', trodAll_mk1 (shut_bool Try.underlying4 _), (trodAll_cons_mk (Below.trod laidOut (by kernel_rfl) (of_decide_eq_true (by kernel_rfl)) k0 bel lt0) trodAll_mk0), rfl, bel.frame _, fun h => by cases h⟩

theorem proved : Rows.FnArrayReadSaid :=
  OpenClaim.holds_of_wide 9 Try.f9 rfl rfl rfl rfl rfl rfl rfl ⟨rfl, rfl, rfl, rfl, rfl⟩ rfl rfl rfl rfl rfl (by kernel_rfl) Try.func9 (by kernel_rfl)
    (of_decide_eq_true (by kernel_rfl)) (by unfold Func.isWrapper; first | (rw [if_pos (by decide +kernel)]; kernel_rfl) | (rw [if_neg (by decide +kernel)]; exact ⟨rfl, rfl⟩))
    (fun os started H enc _ => lifted os started H enc)
#print axioms proved
end Go.Proofs.Ytgdbchodlapdpaa.fnArrayRead
