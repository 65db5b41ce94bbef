/- Proves Rows.FnStripePlaceSaid: for every input the law FnStripePlace returns true and leaves its arguments as they were. Conditions: none. -/
import Derived.Test.YtfjnagaphfemfaaOpen
import Derived.Test.YtfjnagaphfemfaaStrLaw
import Derived.Test.YtfjnagaphfemfaaDrawS
import Derived.Test.YtfjnagaphfemfaaInts
namespace Go.Proofs.Ytfjnagaphfemfaa.fnStripePlace
open Go.ChangeShapes Go.WideShapes Go.ChangeAt Go.RowKit
set_option linter.unusedVariables false
set_option maxHeartbeats 2000000 in
theorem walk (A : Option Addr) (m cp : Nat) (w : World) (hb : BytesIn w A m) (hmc : m ≤ cp) (hcp : cp ≤ 9223372036854775807) :
    Calls Try.prog 11 #[.slice A m cp] w fun e w' => e = .returned (.bool true) ∧ Below w.heap.size w w' := by
  by_cases hbig : 1048576 < m
  · go_enter Try.func11, Try.ntmps11
    go_wp2
    go_ret
    exact ⟨rfl, Below.refl _ _⟩
  · go_enter Try.func11, Try.ntmps11
    go_wp2_with fail
    refine (drawPlace_any A m cp w hb hmc hcp).mono ?_
    rintro e w1 ⟨a, d, c, rfl, a0, a1, d0, d1, c0, c1, hb1⟩
    go_wp2_with fail
    refine (implPlace_any a d c _).mono ?_
    rintro e w' ⟨rfl, q, rfl⟩
    go_wp2_with fail
    refine (specPlace_any a d c _).mono ?_
    rintro e w' ⟨rfl, q2, rfl⟩
    cases hv : strB a d c
    · obtain ⟨e1, e2⟩ := sp_no hv
      rw [e1, e2]
      clear e1 e2
      go_wp2_with (go_at_call 25; refine (alive_any _).mono ?_; rintro e w2 ⟨rfl, hb2⟩)
      go_ret
      exact ⟨rfl, (belowN hb1 _).trans (hb2.mono hb1.size)⟩
    · obtain ⟨r1, r2, r3, r4⟩ := sp_range hv
      obtain ⟨ha, hd, hc⟩ := strB_iff.1 hv
      have k1 : (ssN (spD a d c) (spK a d c) d c == a) = true := by rw [sec_of_place hv]; simp
      have k2 : decide (spD a d c < d) = true := by simpa using r2
      by_cases hmax : a = 100000
      · have hm : (a == 100000) = true := by simp [hmax]
        clear hmax
        go_wp2_with (go_at_call 16; refine (implSec_any _ _ _ _ _).mono ?_; rintro e w' ⟨rfl, q3, rfl⟩)
        go_ret
        exact ⟨rfl, belowN hb1 _⟩
      · have hm : (a == 100000) = false := by simp [hmax]
        have hv2 : strB (a + 1) d c = true := strB_iff.2 ⟨by omega, hd, hc⟩
        obtain ⟨s1, s2, s3, s4⟩ := sp_range hv2
        have hn := next_place hv hv2
        have hd1 : (1 : Int) ≤ d := hd.1
        have hc1 : (1 : Int) ≤ c := hc.1
        obtain ⟨D, hD⟩ : ∃ D, D = spD a d c := ⟨_, rfl⟩
        obtain ⟨K, hK⟩ : ∃ K, K = spK a d c := ⟨_, rfl⟩
        rw [← hD] at k1 k2 hn r1 r2 ⊢
        rw [← hK] at k1 hn r3 r4 ⊢
        obtain ⟨D2, hD2⟩ : ∃ D2, D2 = spD (a + 1) d c := ⟨_, rfl⟩
        obtain ⟨K2, hK2⟩ : ∃ K2, K2 = spK (a + 1) d c := ⟨_, rfl⟩
        rw [← hD2, ← hK2] at hn
        have g1 : spD (a + 1) d c = D2 := hD2.symm
        have g2 : spK (a + 1) d c = K2 := hK2.symm
        rw [g1] at s1 s2
        rw [g2] at s3 s4
        have hmd : 0 ≤ (D + 1) % d := Int.emod_nonneg _ (by omega)
        clear hD hK hD2 hK2 ha hd hc hmax
        by_cases c1 : D2 = D
        · by_cases c2 : K2 = K + 1
          · have t1 : (D2 == D) = true := by simp [c1]
            have t2 : (K2 == K + 1) = true := by simp [c2]
            clear hn c1 c2
            go_wp2_with (first
              | (go_at_call 18; refine (implPlace_any _ _ _ _).mono ?_; rintro e w' ⟨rfl, q3, rfl⟩; rw [g1, g2])
              | (go_at_call 16; refine (implSec_any _ _ _ _ _).mono ?_; rintro e w' ⟨rfl, q4, rfl⟩))
            go_ret
            exact ⟨rfl, belowN hb1 _⟩
          · have t1 : (D2 == D) = true := by simp [c1]
            have t2 : (K2 == K + 1) = false := by simp [c2]
            have t3 : (D2 == (D + 1) % d) = true := by
              rcases hn with h | h
              · exact absurd h.2 c2
              · simp [← h.1]
            have t4 : (K2 % c == 0) = true := by
              rcases hn with h | h
              · exact absurd h.2 c2
              · simp [h.2]
            clear hn c1 c2
            go_wp2_with (first
              | (go_at_call 18; refine (implPlace_any _ _ _ _).mono ?_; rintro e w' ⟨rfl, q3, rfl⟩; rw [g1, g2])
              | (go_at_call 16; refine (implSec_any _ _ _ _ _).mono ?_; rintro e w' ⟨rfl, q4, rfl⟩))
            go_ret
            exact ⟨rfl, belowN hb1 _⟩
        · have t1 : (D2 == D) = false := by simp [c1]
          have t3 : (D2 == (D + 1) % d) = true := by
            rcases hn with h | h
            · exact absurd h.1 c1
            · simp [← h.1]
          have t4 : (K2 % c == 0) = true := by
            rcases hn with h | h
            · exact absurd h.1 c1
            · simp [h.2]
          clear hn c1
          go_wp2_with (first
            | (go_at_call 18; refine (implPlace_any _ _ _ _).mono ?_; rintro e w' ⟨rfl, q3, rfl⟩; rw [g1, g2])
            | (go_at_call 16; refine (implSec_any _ _ _ _ _).mono ?_; rintro e w' ⟨rfl, q4, rfl⟩))
          go_ret
          exact ⟨rfl, belowN hb1 _⟩

set_option maxRecDepth 100000 in
theorem lifted (os : Os) (started : os.Started) (H : Type) (enc : TypeId × Value → H) :
    ReturnsInHanded {} Try.checked os 11 .any (Rows.fnStripePlaceSpec.pre6 enc Try.prog Try.f11 Rows.fnStripePlaceRow.domain false) (Rows.fnStripePlaceSpec.post enc Try.prog Try.f11 false true false false) := by
  refine returnsInHanded_of_change (C := Try.checked) own started (by kernel_rfl) Try.func11
    (ChangeSpec.witness6 (enc := enc) (C := Try.checked) false ⟨#[], #[.slice none 0 0], []⟩ 8 (by kernel_rfl) (by kernel_rfl) (by kernel_rfl) (by kernel_rfl)) ?_
  intro W base args ds gs before hval0 hW hcnd _
  have hval : ∀ (j : Nat) t v, Try.f11.params[j]? = some t → args[j]? = some v → Value.okWide Try.prog W .any base t v := hval0
  have hW' := hW
  obtain ⟨p, q, hA0, hV, rfl, hfz, hnd⟩ := hW
  have hA : DataW.TrodAll enc Try.prog W 0 (fun _ => true) true Try.f11.params.toList args.toList ds p := hA0
  rw [Try.params11] at hA hval
  obtain ⟨v0, vs0, d0, ds0, p0, q0, hargs, rfl, rfl, h0, r0⟩ := trodAll_cons hA
  obtain ⟨rfl, rfl, rfl⟩ := trodAll_nil r0
  obtain rfl : args = #[v0] := by cases args; simp_all
  obtain ⟨rfl, rfl⟩ := trodVars_none hV
  have k0 := h0
  have lt0 : ∀ x ∈ p0, x.block < W.heap.size := by obtain ⟨m, hm⟩ := k0; exact DataW.trod_lt m _ _ _ hm
  obtain ⟨a0, n0, c0, rfl, ok0, le0, cl0⟩ := open_bytes (hval 0 33 v0 rfl rfl) h0
  clear hA0 hval0
  refine (walk a0 n0 c0 W ok0 le0 cl0).mono fun e W' ⟨he, bel⟩ => ?_
  subst he
  exact ⟨_, rfl, _, _, _, [], _, [], hW', trodAll_mk1 (shut_bool Try.underlying4 _), (trodAll_cons_mk (Below.trod laidOut (by kernel_rfl) (of_decide_eq_true (by kernel_rfl)) k0 bel lt0) trodAll_mk0), rfl, bel.frame _, fun h => by cases h⟩

theorem proved : Rows.FnStripePlaceSaid :=
  OpenClaim.holds_of_wide 11 Try.f11 rfl rfl rfl rfl rfl rfl rfl ⟨rfl, rfl, rfl, rfl, rfl⟩ rfl rfl rfl rfl rfl (by kernel_rfl) Try.func11 (by kernel_rfl)
    (of_decide_eq_true (by kernel_rfl)) (by unfold Func.isWrapper; first | (rw [if_pos (by decide +kernel)]; kernel_rfl) | (rw [if_neg (by decide +kernel)]; exact ⟨rfl, rfl⟩))
    (fun os started H enc _ => lifted os started H enc)
#print axioms proved
end Go.Proofs.Ytfjnagaphfemfaa.fnStripePlace
