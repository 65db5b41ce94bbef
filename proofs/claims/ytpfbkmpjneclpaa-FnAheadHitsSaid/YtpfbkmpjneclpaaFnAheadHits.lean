/- Proves Rows.FnAheadHitsSaid: for every input the law FnAheadHits returns true and leaves its arguments as they were. Conditions: none. -/
import Derived.Test.YtpfbkmpjneclpaaOpen
import Derived.Test.YtpfbkmpjneclpaaDrQ
import Derived.Test.YtpfbkmpjneclpaaHitP
import Derived.Test.YtpfbkmpjneclpaaAppR
import Derived.Test.YtpfbkmpjneclpaaReqX
import Derived.Test.YtpfbkmpjneclpaaInts
namespace Go.Proofs.Ytpfbkmpjneclpaa.fnAheadHits
open Go.ChangeShapes Go.WideShapes Go.ChangeAt Go.RowKit
set_option linter.unusedVariables false
theorem belowg {W a b : World} {row : Option Nat} (h : Below W.heap.size W a) (hg : a.grownBy b row) (hr : ∀ g, row = some g → W.heap.size ≤ g) : Below W.heap.size W b := h.grown hg h.size hr
set_option linter.unusedSimpArgs false in
set_option maxHeartbeats 8000000 in
theorem walk (A : Option Addr) (m cp : Nat) (w : World) (hb : BytesIn w A m) (hmc : m ≤ cp) (hcp : cp ≤ 9223372036854775807) :
    Calls Try.prog 13 #[.slice A m cp] w fun e w' => e = .returned (.bool true) ∧ Below w.heap.size w w' := by
  obtain ⟨i0, hi0, hz0, hz1, hz2⟩ := info_parts info_req
  by_cases hbig : 1048576 < m
  · go_enter Try.func13, Try.ntmps13
    go_wp2
    go_ret
    exact ⟨rfl, Below.refl _ _⟩
  go_enter Try.func13, Try.ntmps13
  go_wp2_with fail
  refine (drawAH_any A m cp w hb hmc hcp).mono ?_
  rintro e w1 ⟨A1, c1, l, rfl, o1, hl, b1⟩
  have J1 := Lib.hid (ReqsIn.of (own_read o1))
  have C1 := Lib.hid b1
  clear hb o1 b1
  obtain ⟨n, hn⟩ : ∃ n, n = hitsV l := ⟨_, rfl⟩
  have HN := Lib.hid hn
  clear hn
  go_wp2_with fail
  refine (implHits_any A1 c1 l _ J1.out (by omega)).mono ?_
  unfold AHPost
  rw [← HN.out]
  rintro e w2 ⟨rfl, b2⟩
  have J2 := Lib.hid (J1.out.below b2)
  have C2 := Lib.hid (C1.out.trans (b2.mono C1.out.size))
  clear b2 J1 C1
  go_wp2_with fail
  refine (specHits_any A1 c1 l _ J2.out (by omega)).mono ?_
  unfold AHPost
  rw [← HN.out]
  rintro e w3 ⟨rfl, b3⟩
  have J3 := Lib.hid (fun (wx : World) (hb : Below w3.heap.size w3 wx) => (J2.out.below b3).below hb)
  have C3 := Lib.hid (C2.out.trans (b3.mono C2.out.size))
  clear b3 J2 C2
  have kk : (n != n) = false := by simp
  by_cases hneg : n < 0
  · have e1 : n = -1 := by rw [HN.out]; exact hitsV_neg (by rw [← HN.out]; exact hneg)
    subst e1
    clear hneg
    go_wp2_with (go_at_call 28; refine (alive_any _).mono ?_; rintro e w7 ⟨rfl, hb7⟩)
    go_ret
    exact ⟨rfl, C3.out.trans (hb7.mono C3.out.size)⟩
  have hv := hitsV_val (l := l) (by rw [← HN.out]; omega)
  have HLW := Lib.hid (line_law hv)
  have HLT := Lib.hid (show n = 0 ∨ n < l.length by rw [HN.out]; exact hitsV_b (by rw [← HN.out]; omega))
  have hl30 : l.length ≤ 30 := by
    unfold reqsB at hv
    simp only [Bool.and_eq_true, decide_eq_true_eq] at hv
    omega
  have HV := Lib.hid hv
  have K0 := Lib.hid (World.ownsRow_lit (e := 62) (size := 3) (base := w3.heap.size) w3 #[] 0 (Nat.le_refl _) (by simp [maxLen]) (by simp))
  have Bz := Lib.hid (b_alloc (Below.refl w3.heap.size w3) (.cells #[] 62))
  clear hv
  go_wp2
  go_loopw [5, 6, 7] (fun x s y wr => ∃ (k : Nat) (KA : Option Addr) (kc : Nat) (S : Int) (L : List Rq), k ≤ l.length ∧ x = .slice KA L.length kc ∧ s = .int .i64 S ∧ y = .int .i64 k ∧ L.length ≤ k ∧ 0 ≤ S ∧ S ≤ 200 * k ∧ Hid (L = lineL 0 (l.take k) ∧ S = cntL (l.take k)) ∧ Hid (wr.ownsRow w3.heap.size 62 3 (.slice KA L.length kc) L.length (reqC L)) ∧ Hid (Below w3.heap.size w3 wr)) (fun _ _ y _ => l.length - (intOf y).toNat)
  case atStart => exact ⟨0, _, _, 0, [], Nat.zero_le _, rfl, rfl, rfl, by simp, by omega, by omega, Lib.hid ⟨rfl, rfl⟩, K0, Bz⟩
  case round =>
    obtain ⟨k, KA, kc, S, L, hk, rfl, rfl, rfl, hLk, hS0, hS1, HE, HK, HB⟩ := hrel
    clear K0 Bz
    by_cases hlt : k < l.length
    · obtain ⟨b, off, hA, hc⟩ := (J3.out _ HB.out) (by omega)
      obtain ⟨-, c2, -⟩ := hc k hlt
      have hst := line_step hlt 0
      have hq := (reqs_at HV.out hlt).2.2
      obtain ⟨q, hq'⟩ : ∃ q, q = l[k].2.1 := ⟨_, rfl⟩
      rw [← hq'] at c2 hst hq
      obtain ⟨hq0, hq1⟩ := hq
      rw [← HE.out.1, ← HE.out.2, Int.zero_add] at hst
      have HST := Lib.hid hst
      have J4 := Lib.hid (fun (wx : World) (hb : Below w3.heap.size w3 wx) => (show wx.cell? ⟨b, off + k * 3 + 1, none⟩ = some (.int .i64 q) from by
        obtain ⟨b', off', e', hc'⟩ := (J3.out _ hb) (by omega)
        rw [hA] at e'
        injection e' with e'
        injection e' with e1 e2
        subst e1 e2
        rw [hq']
        exact (hc' k hlt).2.1))
      subst hA
      clear hc hst hq' HE
      have RD := Lib.hid (show ReadC (wr.alloc (.cells #[.int .i64 S, .int .i64 q, .bool false] 62)) (some ⟨wr.heap.size, 0, none⟩) (reqC [(S, q, false)]) from readc_newq rfl)
      have HK1 := Lib.hid (HK.out.alloc (.cells #[.int .i64 S, .int .i64 q, .bool false] 62))
      have HB1 := Lib.hid (b_alloc HB.out (.cells #[.int .i64 S, .int .i64 q, .bool false] 62))
      have HZ := Lib.hid HB.out.size
      clear HK HB
      go_wp2_with (at_builtin; refine wpList_append_r _ rfl (.tmp 33) (.tmp 41) 52 rfl w3.heap.size 62 i0 (.agg #[.int .i64 0, .int .i64 0, .bool false]) 3 24 Try.underlying52 hi0 hz0 hz1 hz2 rfl (by decide) _ L.length (reqC L) HK1.out rfl (some ⟨wr.heap.size, 0, none⟩) 1 1 (reqC [(S, q, false)]) RD.out rfl rfl (reqC_one _ _ _) (by simp only [maxLen]; omega) (by omega) (by have := HZ.out; first | omega | (simp; omega)) ?_; intro v6 w6 o6 g6 n6; obtain ⟨KA2, kc2, rfl⟩ := own_slice o6; have HK2 := Lib.hid (show w6.ownsRow w3.heap.size 62 3 (.slice KA2 (L ++ [(S, q, false)]).length kc2) (L ++ [(S, q, false)]).length (reqC (L ++ [(S, q, false)])) by rw [reqC_app]; simpa using o6); have HB2 := Lib.hid (belowg HB1.out g6 (fun g hg => (HK1.out.lt g hg).1)); have c3 := J4.out _ HB2.out; clear o6 g6 n6)
      go_roundw
      case rel => exact ⟨k + 1, KA2, kc2, S + q, L ++ [(S, q, false)], by omega, by simp, by go_num, by go_num, by simp; omega, by omega, by omega, Lib.hid ⟨HST.out.1.symm, HST.out.2.symm⟩, HK2, HB2⟩
      case measure => simp [intOf]; omega
    · have hLe : L = lineL 0 l := by have := HE.out.1; rwa [List.take_of_length_le (by omega)] at this
      have HL := Lib.hid (show hitsV L = max 0 ((l.length : Int) - 1) by rw [hLe]; exact HLW.out)
      have R5 := Lib.hid (ReqsIn.of (own_read HK.out))
      have C5 := Lib.hid (C3.out.trans (HB.out.mono C3.out.size))
      have hLl : L.length ≤ 30 := by omega
      clear HE HK HB hLe
      by_cases hl0 : l.length = 0
      · have HLM := Lib.hid (show hitsV L = 0 by rw [HL.out]; omega)
        have hn0 : n = 0 := by have := HLT.out; omega
        subst hn0
        have hm : max (0 : Int) (IntKind.i64.wrap ((l.length : Int) - 1)) = 0 := by rw [IntWalk.i64_in _ (by omega)]; omega
        go_wp2_with (go_at_call 36; refine (implHits_any KA kc L _ R5.out (by omega)).mono ?_; unfold AHPost; rw [HLM.out]; rintro e w7 ⟨rfl, b7⟩)
        all_goals (first
          | (go_ret; exact ⟨rfl, C5.out.trans (b7.mono C5.out.size)⟩)
          | (exfalso; omega)
          | (have he : ((l.length : Int) - 1 == 0) = true := (by rw [beq_iff_eq]; omega); rw [he]; go_ret; exact ⟨rfl, C5.out.trans (b7.mono C5.out.size)⟩))
      have HLM := Lib.hid (show hitsV L = (l.length : Int) - 1 by rw [HL.out]; omega)
      have hm : max (0 : Int) (IntKind.i64.wrap ((l.length : Int) - 1)) = (l.length : Int) - 1 := by rw [IntWalk.i64_in _ (by omega)]; omega
      by_cases hn0 : n = 0
      · subst hn0
        go_wp2_with (go_at_call 36; refine (implHits_any KA kc L _ R5.out (by omega)).mono ?_; unfold AHPost; rw [HLM.out]; rintro e w7 ⟨rfl, b7⟩)
        all_goals (first
          | (go_ret; exact ⟨rfl, C5.out.trans (b7.mono C5.out.size)⟩)
          | (exfalso; omega)
          | (have he : ((l.length : Int) - 1 == 0) = true := (by rw [beq_iff_eq]; omega); rw [he]; go_ret; exact ⟨rfl, C5.out.trans (b7.mono C5.out.size)⟩))
      · have e0 : (n == 0) = false := by rw [beq_eq_false_iff_ne]; exact hn0
        have hnl : n < (l.length : Int) := by have := HLT.out; omega
        go_wp2_with (go_at_call 36; refine (implHits_any KA kc L _ R5.out (by omega)).mono ?_; unfold AHPost; rw [HLM.out]; rintro e w7 ⟨rfl, b7⟩)
        all_goals (first
          | (go_ret; exact ⟨rfl, C5.out.trans (b7.mono C5.out.size)⟩)
          | (exfalso; omega)
          | (have he : ((l.length : Int) - 1 == 0) = true := (by rw [beq_iff_eq]; omega); rw [he]; go_ret; exact ⟨rfl, C5.out.trans (b7.mono C5.out.size)⟩))

set_option maxRecDepth 100000 in
theorem lifted (os : Os) (started : os.Started) (H : Type) (enc : TypeId × Value → H) :
    ReturnsInHanded {} Try.checked os 13 .any (Rows.fnAheadHitsSpec.pre6 enc Try.prog Try.f13 Rows.fnAheadHitsRow.domain false) (Rows.fnAheadHitsSpec.post enc Try.prog Try.f13 false true false false) := by
  refine returnsInHanded_of_change (C := Try.checked) own started (by kernel_rfl) Try.func13
    (ChangeSpec.witness6 (enc := enc) (C := Try.checked) false ⟨#[], #[.slice none 0 0], []⟩ 8 (by kernel_rfl) (by kernel_rfl) (by kernel_rfl) (by kernel_rfl)) ?_
  intro W base args ds gs before hval0 hW hcnd _
  have hval : ∀ (j : Nat) t v, Try.f13.params[j]? = some t → args[j]? = some v → Value.okWide Try.prog W .any base t v := hval0
  have hW' := hW
  obtain ⟨p, q, hA0, hV, rfl, hfz, hnd⟩ := hW
  have hA : DataW.TrodAll enc Try.prog W 0 (fun _ => true) true Try.f13.params.toList args.toList ds p := hA0
  rw [Try.params13] at hA hval
  obtain ⟨v0, vs0, d0, ds0, p0, q0, hargs, rfl, rfl, h0, r0⟩ := trodAll_cons hA
  obtain ⟨rfl, rfl, rfl⟩ := trodAll_nil r0
  obtain rfl : args = #[v0] := by cases args; simp_all
  obtain ⟨rfl, rfl⟩ := trodVars_none hV
  have k0 := h0
  have lt0 : ∀ x ∈ p0, x.block < W.heap.size := by obtain ⟨m, hm⟩ := k0; exact DataW.trod_lt m _ _ _ hm
  obtain ⟨a0, n0, c0, rfl, ok0, le0, cl0⟩ := open_bytes (hval 0 34 v0 rfl rfl) h0
  clear hA0 hval0
  refine (walk a0 n0 c0 W ok0 le0 cl0).mono fun e W' ⟨he, bel⟩ => ?_
  subst he
  exact ⟨_, rfl, _, _, _, [], _, [], hW', trodAll_mk1 (shut_bool Try.underlying4 _), (trodAll_cons_mk (Below.trod laidOut (by kernel_rfl) (of_decide_eq_true (by kernel_rfl)) k0 bel lt0) trodAll_mk0), rfl, bel.frame _, fun h => by cases h⟩

theorem proved : Rows.FnAheadHitsSaid :=
  OpenClaim.holds_of_wide 13 Try.f13 rfl rfl rfl rfl rfl rfl rfl ⟨rfl, rfl, rfl, rfl, rfl⟩ rfl rfl rfl rfl rfl (by kernel_rfl) Try.func13 (by kernel_rfl)
    (of_decide_eq_true (by kernel_rfl)) (by unfold Func.isWrapper; first | (rw [if_pos (by decide +kernel)]; kernel_rfl) | (rw [if_neg (by decide +kernel)]; exact ⟨rfl, rfl⟩))
    (fun os started H enc _ => lifted os started H enc)
#print axioms proved
end Go.Proofs.Ytpfbkmpjneclpaa.fnAheadHits
