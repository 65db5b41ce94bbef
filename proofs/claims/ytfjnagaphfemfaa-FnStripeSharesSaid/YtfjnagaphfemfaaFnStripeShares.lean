/- Proves Rows.FnStripeSharesSaid: for every input the law FnStripeShares returns true and leaves its arguments as they were. Conditions: none. -/
import Derived.Test.YtfjnagaphfemfaaOpen
import Derived.Test.YtfjnagaphfemfaaShLaw
import Derived.Test.YtfjnagaphfemfaaDrawSh
import Derived.Test.YtfjnagaphfemfaaSame
namespace Go.Proofs.Ytfjnagaphfemfaa.fnStripeShares
open Go.ChangeShapes Go.WideShapes Go.ChangeAt Go.RowKit
set_option linter.unusedVariables false
theorem sharesL_cases (a n d c : Int) : sharesL a n d c = [] ∨ ∃ D : Nat, d = D ∧ (1 ≤ (D : Int) ∧ (D : Int) ≤ 6) ∧ (1 ≤ c ∧ c ≤ 16) ∧ (0 ≤ a ∧ a ≤ 100000) ∧ (0 ≤ n ∧ n ≤ 200) ∧ sharesL a n d c = shl a D c n.toNat := by
  unfold sharesL
  split
  · rename_i h
    simp only [Bool.and_eq_true] at h
    have h1 := inB_iff.1 h.1.1
    have h2 := shB_iff.1 h.1.2
    have h3 := inB_iff.1 h.2
    obtain ⟨D, rfl⟩ := Int.eq_ofNat_of_zero_le (show 0 ≤ d by omega)
    exact .inr ⟨D, rfl, h2.1, h2.2, h1, h3, rfl⟩
  · exact .inl rfl

set_option maxHeartbeats 4000000 in
theorem walk (A : Option Addr) (m cp : Nat) (w : World) (hb : BytesIn w A m) (hmc : m ≤ cp) (hcp : cp ≤ 9223372036854775807) :
    Calls Try.prog 12 #[.slice A m cp] w fun e w' => e = .returned (.bool true) ∧ Below w.heap.size w w' := by
  by_cases hbig : 1048576 < m
  · go_enter Try.func12, Try.ntmps12
    go_wp2
    go_ret
    exact ⟨rfl, Below.refl _ _⟩
  · go_enter Try.func12, Try.ntmps12
    go_wp2_with fail
    refine (drawShares_any A m cp w hb hmc hcp).mono ?_
    rintro e w1 ⟨a, n, d, c, rfl, a0, a1, n0, n1, d0, d1, c0, c1, hb1⟩
    go_wp2_with fail
    refine (implShares_any a n d c _).mono ?_
    rintro e w2 ⟨A2, c2, rfl, o2, b2⟩
    go_wp2_with fail
    refine (specShares_any a n d c _).mono ?_
    rintro e w3 ⟨A3, c3, rfl, o3, b3⟩
    have hb3 := (hb1.trans (b2.mono hb1.size)).trans (b3.mono (Nat.le_trans hb1.size b2.size))
    have p2 := o2.below b3
    clear o2 b2 b3 hb1 hb hmc hcp
    rcases sharesL_cases a n d c with hnil | ⟨D, rfl, hD, hc, ha, hn, heq⟩
    · rw [hnil] at p2 o3 ⊢
      clear hnil
      go_wp2_with fail
      refine (sameInts_any A2 A3 c2 c3 [] [] _ (IntsIn.nil _ _) (IntsIn.nil _ _) (by simp) (by simp)).mono ?_
      rintro e w4 ⟨rfl, q, rfl⟩
      go_wp2_with (go_at_call 25; refine (alive_any _).mono ?_; rintro e w2 ⟨rfl, hb4⟩)
      go_ret
      exact ⟨rfl, (belowN hb3 q).trans (hb4.mono hb3.size)⟩
    · rw [heq] at p2 o3 ⊢
      obtain ⟨L, hL⟩ : ∃ L, L = shl a D c n.toNat := ⟨_, rfl⟩
      have hlen : L.length = D := by rw [hL, shl_length]
      have hsum : L.sum = n := by rw [hL, shl_sum a D c (by omega)]; omega
      have hspr : ∀ i j, i < L.length → j < L.length → L.getD i 0 - L.getD j 0 ≤ c := fun i j hi hj => by
        rw [hL]; exact shl_spread a D c ha.1 hD hc.1 n.toNat i j (by omega) (by omega)
      have hbd : ∀ i, i < L.length → 0 ≤ L.getD i 0 ∧ L.getD i 0 ≤ 200 := fun i hi => by
        have := shl_bd a D c n.toNat i
        rw [hL]; omega
      rw [← hL] at p2 o3 ⊢
      clear hL heq
      have hI2 := IntsIn.of p2.read
      have HH := Lib.hid (And.intro hlen (And.intro hsum (And.intro hspr hbd)))
      clear hlen hsum hspr hbd
      go_wp2_with fail
      refine (sameInts_any A2 A3 c2 c3 L L _ hI2 (IntsIn.of o3.read) (by have := HH.out.1; omega) (by have := HH.out.1; omega)).mono ?_
      rintro e w4 ⟨rfl, q, rfl⟩
      clear p2 o3
      have hlpos : 0 < L.length := by have := HH.out.1; omega
      have hlen6 : L.length ≤ 6 := by have := HH.out.1; omega
      have hlb : ((L.length : Int) == 0) = false := beq_eq_false_iff_ne.2 (by omega)
      obtain ⟨b, off, rfl, hc2⟩ := (IntsIn.drewN hI2 q) hlpos
      have x0 := hc2 0 hlpos
      rw [Nat.add_zero] at x0
      have hcell : ∀ i, i < L.length → (w3.drewN q).cell? ⟨b, off + i, none⟩ = some (.int .i64 (L.getD i 0)) := fun i hi => by
        rw [hc2 i hi, List.getD_eq_getElem?_getD, List.getElem?_eq_getElem hi]; rfl
      have y0 := hcell 0 hlpos
      rw [Nat.add_zero] at y0
      obtain ⟨v0, hv0⟩ : ∃ v, v = L.getD 0 0 := ⟨_, rfl⟩
      rw [← hv0] at y0
      have HV0 := Lib.hid hv0
      have HC := Lib.hid hcell
      clear hv0
      clear hcell hc2 x0 hI2
      go_wp2
      go_loop [8, 9, 10, 11] (fun s lo hi x => ∃ k i j : Nat, k ≤ L.length ∧ i < L.length ∧ j < L.length ∧ s = .int .i64 ((L.take k).sum) ∧ 0 ≤ (L.take k).sum ∧ (L.take k).sum ≤ 200 * k ∧ lo = .int .i64 (L.getD i 0) ∧ hi = .int .i64 (L.getD j 0) ∧ x = .int .i64 k) (fun _ _ _ x => L.length - (intOf x).toNat)
      case atStart => exact ⟨0, 0, 0, Nat.zero_le _, hlpos, hlpos, by simp, by simp, by simp, by rw [HV0.out], by rw [HV0.out], rfl⟩
      case round =>
        obtain ⟨k, i, j, hk, hi, hj, rfl, s0, s1, rfl, rfl, rfl⟩ := hrel
        by_cases hlt : k < L.length
        · have y1 := HC.out k hlt
          have t1 := HH.out.2.2.2 k hlt
          have t2 := HH.out.2.2.2 i hi
          have t3 := HH.out.2.2.2 j hj
          have hs : Hid ((L.take (k + 1)).sum = (L.take k).sum + L.getD k 0) := by
            show (L.take (k + 1)).sum = (L.take k).sum + L.getD k 0
            rw [List.take_succ_eq_append_getElem hlt, List.sum_append, List.getD_eq_getElem?_getD, List.getElem?_eq_getElem hlt]
            simp
          obtain ⟨v, hv⟩ : ∃ v, v = L.getD k 0 := ⟨_, rfl⟩
          obtain ⟨lo, hlo⟩ : ∃ v, v = L.getD i 0 := ⟨_, rfl⟩
          obtain ⟨hi', hhi⟩ : ∃ v, v = L.getD j 0 := ⟨_, rfl⟩
          rw [← hv] at y1 t1
          rw [← hlo] at t2 ⊢
          rw [← hhi] at t3 ⊢
          have HV := Lib.hid (And.intro hv (And.intro hlo hhi))
          clear hv hlo hhi
          go_wp2
          go_round
          case rel =>
            refine ⟨k + 1, if v < lo then k else i, if hi' < v then k else j, by omega, by split <;> omega, by split <;> omega, by rw [hs.out, HV.out.1], by rw [hs.out, ← HV.out.1]; omega, by rw [hs.out, ← HV.out.1]; omega, ?_, ?_, by go_num⟩
            · split
              · rw [HV.out.1]
              · rw [HV.out.2.1]
            · split
              · rw [HV.out.1]
              · rw [HV.out.2.2]
          case measure => simp [intOf]; omega
        · obtain rfl : k = L.length := by omega
          have hfin1 : ((L.take L.length).sum == n) = true := by rw [List.take_length, HH.out.2.1]; simp
          have hfin2 : ((L.length : Int) == (D : Int)) = true := by rw [HH.out.1]; simp
          have t2 := HH.out.2.2.2 i hi
          have t3 := HH.out.2.2.2 j hj
          have t4 := HH.out.2.2.1 j i hj hi
          obtain ⟨lo, hlo⟩ : ∃ v, v = L.getD i 0 := ⟨_, rfl⟩
          obtain ⟨hi', hhi⟩ : ∃ v, v = L.getD j 0 := ⟨_, rfl⟩
          rw [← hlo] at t2 t4 ⊢
          rw [← hhi] at t3 t4 ⊢
          have hfin3 : decide (hi' - lo ≤ c) = true := by simpa using t4
          obtain ⟨S, hS⟩ : ∃ S, S = (L.take L.length).sum := ⟨_, rfl⟩
          rw [← hS] at hfin1 ⊢
          clear hlo hhi hS s0 s1
          go_wp2
          go_ret
          exact ⟨rfl, belowN hb3 q⟩

set_option maxRecDepth 100000 in
theorem lifted (os : Os) (started : os.Started) (H : Type) (enc : TypeId × Value → H) :
    ReturnsInHanded {} Try.checked os 12 .any (Rows.fnStripeSharesSpec.pre6 enc Try.prog Try.f12 Rows.fnStripeSharesRow.domain false) (Rows.fnStripeSharesSpec.post enc Try.prog Try.f12 false true false false) := by
  refine returnsInHanded_of_change (C := Try.checked) own started (by kernel_rfl) Try.func12
    (ChangeSpec.witness6 (enc := enc) (C := Try.checked) false ⟨#[], #[.slice none 0 0], []⟩ 8 (by kernel_rfl) (by kernel_rfl) (by kernel_rfl) (by kernel_rfl)) ?_
  intro W base args ds gs before hval0 hW hcnd _
  have hval : ∀ (j : Nat) t v, Try.f12.params[j]? = some t → args[j]? = some v → Value.okWide Try.prog W .any base t v := hval0
  have hW' := hW
  obtain ⟨p, q, hA0, hV, rfl, hfz, hnd⟩ := hW
  have hA : DataW.TrodAll enc Try.prog W 0 (fun _ => true) true Try.f12.params.toList args.toList ds p := hA0
  rw [Try.params12] at hA hval
  obtain ⟨v0, vs0, d0, ds0, p0, q0, hargs, rfl, rfl, h0, r0⟩ := trodAll_cons hA
  obtain ⟨rfl, rfl, rfl⟩ := trodAll_nil r0
  obtain rfl : args = #[v0] := by cases args; simp_all
  obtain ⟨rfl, rfl⟩ := trodVars_none hV
  have k0 := h0
  have lt0 : ∀ x ∈ p0, x.block < W.heap.size := by obtain ⟨m, hm⟩ := k0; exact DataW.trod_lt m _ _ _ hm
  obtain ⟨a0, n0, c0, rfl, ok0, le0, cl0⟩ := open_bytes (hval 0 33 v0 rfl rfl) h0
  clear hA0 hval0
  refine (walk a0 n0 c0 W ok0 le0 cl0).mono fun e W' ⟨he, bel⟩ => ?_
  subst he
  exact ⟨_, rfl, _, _, _, [], _, [], hW', trodAll_mk1 (shut_bool Try.underlying4 _), (trodAll_cons_mk (Below.trod laidOut (by kernel_rfl) (of_decide_eq_true (by kernel_rfl)) k0 bel lt0) trodAll_mk0), rfl, bel.frame _, fun h => by cases h⟩

theorem proved : Rows.FnStripeSharesSaid :=
  OpenClaim.holds_of_wide 12 Try.f12 rfl rfl rfl rfl rfl rfl rfl ⟨rfl, rfl, rfl, rfl, rfl⟩ rfl rfl rfl rfl rfl (by kernel_rfl) Try.func12 (by kernel_rfl)
    (of_decide_eq_true (by kernel_rfl)) (by unfold Func.isWrapper; first | (rw [if_pos (by decide +kernel)]; kernel_rfl) | (rw [if_neg (by decide +kernel)]; exact ⟨rfl, rfl⟩))
    (fun os started H enc _ => lifted os started H enc)
#print axioms proved
end Go.Proofs.Ytfjnagaphfemfaa.fnStripeShares
