/- Proves Rows.FnShotViewSaid: for every input the law FnShotView returns true and leaves its arguments as they were. Conditions: none. -/
import Derived.Test.YtkjjieofoolnhaaOpen
import Derived.Test.YtkjjieofoolnhaaShI
import Derived.Test.YtkjjieofoolnhaaDrSh
import Derived.Test.YtkjjieofoolnhaaSameV
namespace Go.Proofs.Ytkjjieofoolnhaa.fnShotView
open Go.ChangeShapes Go.WideShapes Go.ChangeAt Go.RowKit
set_option linter.unusedVariables false
theorem found_step {P : Prop} {q : Sv} {a z : Int} {f : Bool} {p : List Sv} {j : Nat} (h : j < p.length) (hq : q = p[j]) (hf : (P ∨ (a, z) ∈ p.take j) → f = true) (hne : q ≠ (a, z)) : (P ∨ (a, z) ∈ p.take (j + 1)) → f = true := by
  rintro (h1 | h1)
  · exact hf (.inl h1)
  · rw [List.take_succ_eq_append_getElem h, List.mem_append, List.mem_singleton] at h1
    rcases h1 with h1 | h1
    · exact hf (.inr h1)
    · exact absurd (hq.trans h1.symm) hne
set_option linter.unusedSimpArgs false in
set_option maxHeartbeats 8000000 in
theorem walk (A : Option Addr) (m cp : Nat) (w : World) (hb : BytesIn w A m) (hmc : m ≤ cp) (hcp : cp ≤ 9223372036854775807) :
    Calls Try.prog 8 #[.slice A m cp] w fun e w' => e = .returned (.bool true) ∧ Below w.heap.size w w' := by
  by_cases hbig : 1048576 < m
  · go_enter Try.func8, Try.ntmps8
    go_wp2
    go_ret
    exact ⟨rfl, Below.refl _ _⟩
  go_enter Try.func8, Try.ntmps8
  go_wp2_with fail
  refine (drawSV_any A m cp w hb hmc hcp).mono ?_
  rintro e w1 ⟨v, N, S, n, rfl, hv, lN, lS, b1, n0, n1⟩
  have hv1 := hv w1 (fun k _ _ => rfl)
  obtain ⟨A1, c1, B1, d1, rfl, _⟩ := hv1
  have V1 := Lib.hid ((hv w1 (fun k _ _ => rfl)).alloc (.cells #[.slice A1 N.length c1, .slice B1 S.length d1] 29))
  have K1 := Lib.hid (show Blk (w1.alloc (.cells #[.slice A1 N.length c1, .slice B1 S.length d1] 29)) w1.heap.size 29 #[.slice A1 N.length c1, .slice B1 S.length d1] from Blk.new rfl)
  have C1 := Lib.hid (b_alloc b1 (.cells #[.slice A1 N.length c1, .slice B1 S.length d1] 29))
  clear hv hb b1
  obtain ⟨X, hX⟩ : ∃ X, X = shotV N S n := ⟨_, rfl⟩
  have HX := Lib.hid hX
  have hXl := shotV_len N S n
  rw [← hX] at hXl
  clear hX
  go_wp2_with fail
  refine (implShot_any _ N S n _ V1.out (by omega) (by omega) (by omega)).mono ?_
  rw [← HX.out]
  rintro e w2 ⟨A2, c2, rfl, o2, b2⟩
  have V2 := Lib.hid (V1.out.below b2)
  have K2 := Lib.hid (blk_below b2 K1.out K1.out.lt)
  have C2 := Lib.hid (C1.out.trans (b2.mono C1.out.size))
  have O2 := Lib.hid (own_read o2)
  clear o2 b2 V1 K1 C1
  obtain ⟨x0, x1, _, _⟩ := K2.out.two
  go_wp2_with fail
  refine (specShot_any _ N S n _ V2.out (by omega) (by omega) (by omega)).mono ?_
  rw [← HX.out]
  rintro e w3 ⟨A3, c3, rfl, o3, b3⟩
  have V3 := Lib.hid (V2.out.below b3)
  have K3 := Lib.hid (blk_below b3 K2.out K2.out.lt)
  have C3 := Lib.hid (C2.out.trans (b3.mono C2.out.size))
  have O3 := Lib.hid (O2.out.keep b3.block)
  have Y3 := Lib.hid (own_read o3)
  clear o3 b3 V2 K2 C2 O2 x0 x1
  go_wp2_with fail
  refine (sameInts_any A2 A3 c2 c3 X X _ (IntsIn.of O3.out) (IntsIn.of Y3.out) (by omega) (by omega)).mono ?_
  rintro e w4 ⟨rfl, q4, hw4⟩
  have hd : decide (X = X) = true := by simp
  rw [hd]
  have V4 := Lib.hid (show VolR w4 _ N S by rw [hw4]; exact V3.out)
  have K4 := Lib.hid (show Blk w4 w1.heap.size 29 #[.slice A1 N.length c1, .slice B1 S.length d1] by rw [hw4]; exact K3.out)
  have C4 := Lib.hid (show Below w.heap.size w w4 by rw [hw4]; exact belowN C3.out _)
  have O4 := Lib.hid (show ReadC w4 A2 (X.map (Value.int .i64)) by rw [hw4]; exact O3.out)
  clear hw4 V3 K3 C3 O3 Y3 hd
  by_cases hX0 : X.length = 0
  · go_wp2_with (go_at_call 28; refine (alive_any _).mono ?_; rintro e w7 ⟨rfl, hb7⟩)
    go_ret
    exact ⟨rfl, C4.out.trans (hb7.mono C4.out.size)⟩
  have hdb : dropB N S n = true := by
    cases h : dropB N S n
    · exact absurd (by rw [HX.out, shotV, h]; rfl) hX0
    · rfl
  obtain ⟨hvb, hn0, hn1⟩ := drop_iff.1 hdb
  obtain ⟨n, rfl⟩ : ∃ k : Nat, n = k := ⟨n.toNat, by omega⟩
  have hXe : X = viewT N (S.drop n) := by rw [HX.out]; exact shotV_yes hvb (by omega)
  have hXN : X.length = N.length := by rw [hXe, viewT_len]
  obtain ⟨hNd, hS5, hrow⟩ := vol_iff.1 hvb
  have hrd : ∀ p ∈ S.drop n, RowOk N.length p := fun p hp => hrow p (List.mem_of_mem_drop hp)
  have HD := Lib.hid (show diskB X = true by rw [hXe]; exact viewT_disk hNd hrd)
  have HM := Lib.hid (fun (i : Nat) => show X.getD i 0 = N.getD i 0 ∨ ∃ k : Nat, n ≤ k ∧ k < S.length ∧ ((i : Int), X.getD i 0) ∈ S.getD k [] by
    have := viewT_mem N (S.drop n) hrd i
    rw [← hXe] at this
    rcases this with h | ⟨p, hp, h⟩
    · exact .inl h
    · obtain ⟨j, hj, rfl⟩ := List.mem_iff_getElem.1 hp
      rw [List.length_drop] at hj
      rw [List.getElem_drop] at h
      refine .inr ⟨n + j, by omega, by omega, ?_⟩
      rw [List.getD_eq_getElem?_getD, List.getElem?_eq_getElem (by omega)]
      exact h)
  have O4' := O4
  have e0 : ((N.length : Int) == 0) = false := by rw [beq_eq_false_iff_ne]; omega
  have HXN := Lib.hid hXN
  have hN0 : 0 < N.length := by omega
  rw [hXN]
  clear hdb hvb hn0 hXe hNd hS5 hrow hrd hX0 HX O4 hXl
  go_wp2
  go_loopw [6] (fun x wr => ∃ i : Nat, i ≤ N.length ∧ x = .int .i64 i ∧ Hid (Below w4.heap.size w4 wr)) (fun x _ => N.length - (intOf x).toNat)
  case atStart => exact ⟨0, Nat.zero_le _, rfl, Lib.hid (Below.refl _ _)⟩
  case round =>
    obtain ⟨i, hi, rfl, BB⟩ := hrel
    obtain ⟨x0, x1, _, _⟩ := (blk_below BB.out K4.out K4.out.lt).two
    by_cases hlt : i < N.length
    · obtain ⟨bX, oX, rfl, hcX⟩ := (IntsIn.of O4'.out).below BB.out (by rw [hXN]; omega)
      obtain ⟨Ax, cx, Bx, dx, he, hA, hB, _⟩ := V4.out
      injection he with he
      simp only [Array.mk.injEq, List.cons.injEq, and_true, Value.slice.injEq] at he
      obtain ⟨⟨rfl, _, rfl⟩, rfl, _, rfl⟩ := he
      obtain ⟨bN, oN, rfl, hcN⟩ := hA.below BB.out (by omega)
      have z1 := hcX i (by rw [hXN]; exact hlt)
      have z2 := hcN i hlt
      have hm := HM.out i
      have e1 : X.getD i 0 = X[i]'(by rw [hXN]; exact hlt) := by rw [List.getD_eq_getElem?_getD, List.getElem?_eq_getElem (by rw [hXN]; exact hlt)]; rfl
      have e2 : N.getD i 0 = N[i] := by rw [List.getD_eq_getElem?_getD, List.getElem?_eq_getElem hlt]; rfl
      rw [e1, e2] at hm
      obtain ⟨z, hz⟩ : ∃ z, z = X[i]'(by rw [hXN]; exact hlt) := ⟨_, rfl⟩
      obtain ⟨yn, hy⟩ : ∃ yn, yn = N[i] := ⟨_, rfl⟩
      rw [← hz] at z1 hm
      rw [← hy] at z2 hm
      have HMI := Lib.hid hm
      have HB := Lib.hid hB
      have HCX := Lib.hid (fun (u : World) (hu : Below w4.heap.size w4 u) => show u.cell? ⟨bX, oX + i, none⟩ = some (.int .i64 z) by
        obtain ⟨b', o', e', hc'⟩ := (IntsIn.of O4'.out).below hu (by rw [hXN]; omega)
        injection e' with e'
        injection e' with e1' e2'
        subst e1' e2'
        rw [hz]
        exact hc' i (by rw [hXN]; exact hlt))
      obtain ⟨f0, hf0⟩ : ∃ f0 : Bool, (z == yn) = f0 := ⟨_, rfl⟩
      have HF0 := Lib.hid (show z = yn → f0 = true from fun e => by rw [← hf0, e]; simp)
      have ii0 : (0 : Int) ≤ (i : Int) := by omega
      have ii1 : (i : Int) < (N.length : Int) := by omega
      clear hm e1 e2 hz hy hcX hcN hA hB
      go_wp2
      go_quiet (fail)
      go_wp2
      have B2 := Lib.hid (belowN BB.out nq)
      generalize wr.drewN nq = w5 at *
      clear BB x0 x1 z1 z2
      have hnS : n ≤ S.length := by omega
      go_loopw [7, 8] (fun x y wr => ∃ (f : Bool) (k : Nat), n ≤ k ∧ k ≤ S.length ∧ x = .bool f ∧ y = .int .i64 k ∧ Hid ((z = yn ∨ ∃ k' : Nat, n ≤ k' ∧ k' < k ∧ ((i : Int), z) ∈ S.getD k' []) → f = true) ∧ Hid (Below w4.heap.size w4 wr)) (fun _ y _ => S.length - (intOf y).toNat)
      case atStart => exact ⟨f0, n, Nat.le_refl _, hnS, rfl, rfl, Lib.hid (by rintro (h | ⟨k', h1, h2, _⟩); exact HF0.out h; omega), B2⟩
      case round =>
        clear B2
        obtain ⟨f, k, hk0, hk1, rfl, rfl, HF, BB⟩ := hrel
        obtain ⟨x0, x1, _, _⟩ := (blk_below BB.out K4.out K4.out.lt).two
        by_cases hkl : k < S.length
        · obtain ⟨b, off, rfl, hc⟩ := HB.out.below BB.out (by omega)
          obtain ⟨Ak, ck, q0, q1, _, _⟩ := hc k hkl
          have hsm := sumN_get hkl
          have egd : S.getD k [] = S[k] := by rw [List.getD_eq_getElem?_getD, List.getElem?_eq_getElem hkl]; rfl
          obtain ⟨p, hp⟩ : ∃ p, p = S[k] := ⟨_, rfl⟩
          rw [← hp] at q0 q1 hsm egd
          have EGD := Lib.hid egd
          have Q1 := Lib.hid (SavedIn.of q1)
          have HQ0 := Lib.hid (fun (u : World) (hu : Below wr.heap.size wr u) => cell_keepV q0 hu)
          have kk0 : (0 : Int) ≤ (k : Int) := by omega
          have kk1 : (k : Int) < (S.length : Int) := by omega
          obtain ⟨wq, hwq⟩ : ∃ wq, wq = wr := ⟨_, rfl⟩
          rw [← hwq] at Q1 HQ0
          have BQ := Lib.hid (show Below w4.heap.size w4 wq by rw [hwq]; exact BB.out)
          have Bq := Lib.hid (show Below wq.heap.size wq wr by rw [hwq]; exact Below.refl _ _)
          clear hc hp egd q1 hwq BB
          go_wp2
          go_loopw [7, 9] (fun x y wr => ∃ (f : Bool) (j : Nat), j ≤ p.length ∧ x = .bool f ∧ y = .int .i64 j ∧ Hid (((z = yn ∨ ∃ k' : Nat, n ≤ k' ∧ k' < k ∧ ((i : Int), z) ∈ S.getD k' []) ∨ ((i : Int), z) ∈ p.take j) → f = true) ∧ Hid (Below wq.heap.size wq wr)) (fun _ y _ => p.length - (intOf y).toNat)
          case atStart => exact ⟨f, 0, Nat.zero_le _, rfl, rfl, Lib.hid (by rintro (h | h); exact HF.out h; simp at h), Bq⟩
          case round =>
            clear Bq
            obtain ⟨f, j, hj, rfl, rfl, HF, BB⟩ := hrel
            have B4 := BQ.out.trans (BB.out.mono BQ.out.size)
            obtain ⟨x0, x1, _, _⟩ := (blk_below B4 K4.out K4.out.lt).two
            have q0 := HQ0.out _ BB.out
            have zc := HCX.out _ B4
            by_cases hjl : j < p.length
            · obtain ⟨bk, ok, rfl, hcs⟩ := (Q1.out.below BB.out) (by omega)
              obtain ⟨s0, s1⟩ := hcs j hjl
              obtain ⟨⟨r1, r2⟩, hq⟩ : ∃ q : Int × Int, q = p[j] := ⟨_, rfl⟩
              rw [← hq] at s0 s1
              simp only at s0 s1
              have HST := Lib.hid (fun (hne : ((r1, r2) : Sv) ≠ ((i : Int), z)) => found_step hjl hq HF.out hne)
              have jj0 : (0 : Int) ≤ (j : Int) := by omega
              have jj1 : (j : Int) < (p.length : Int) := by omega
              clear hcs hq HF B4
              cases f
              · by_cases h1 : r1 = (i : Int)
                · by_cases h2 : r2 = z
                  · have t1 : (r1 == (i : Int)) = true := by simp [h1]
                    have t2 : (r2 == z) = true := by simp [h2]
                    clear h1 h2 HST
                    go_wp2
                    go_quiet (fail)
                    go_wp2
                    have B5 := Lib.hid (belowN BB.out nq)
                    go_roundw
                    case rel => exact ⟨true, j + 1, by omega, rfl, by go_num, Lib.hid (fun _ => rfl), B5⟩
                    case measure => simp [intOf]; omega
                  · have t2 : (r2 == z) = false := by simp [h2]
                    have hst := Lib.hid (HST.out (fun e => h2 (by injection e)))
                    clear h1 h2 HST
                    go_wp2
                    go_quiet (fail)
                    go_wp2
                    have B5 := Lib.hid (belowN BB.out nq)
                    go_roundw
                    case rel => exact ⟨false, j + 1, by omega, by simp [t2], by go_num, hst, B5⟩
                    case measure => simp [intOf]; omega
                · have t1 : (r1 == (i : Int)) = false := by simp [h1]
                  have hst := Lib.hid (HST.out (fun e => h1 (by injection e)))
                  clear h1 HST
                  go_wp2
                  go_quiet (fail)
                  go_wp2
                  have B5 := Lib.hid (belowN BB.out nq)
                  go_roundw
                  case rel => exact ⟨false, j + 1, by omega, by simp [t1], by go_num, hst, B5⟩
                  case measure => simp [intOf]; omega
              · clear HST
                go_wp2
                go_quiet (fail)
                go_wp2
                have B5 := Lib.hid (belowN BB.out nq)
                go_roundw
                case rel => exact ⟨true, j + 1, by omega, rfl, by go_num, Lib.hid (fun _ => rfl), B5⟩
                case measure => simp [intOf]; omega
            · have HF2 := Lib.hid (show (z = yn ∨ ∃ k' : Nat, n ≤ k' ∧ k' < k + 1 ∧ ((i : Int), z) ∈ S.getD k' []) → f = true by
                intro h
                apply HF.out
                rw [List.take_of_length_le (by omega)]
                rcases h with h | ⟨k', h1, h2, h3⟩
                · exact .inl (.inl h)
                · by_cases e : k' = k
                  · subst e
                    rw [EGD.out] at h3
                    exact .inr h3
                  · exact .inl (.inr ⟨k', h1, by omega, h3⟩))
              have BF := Lib.hid B4
              clear HF B4 BB
              go_wp2
              go_roundw
              case rel => exact ⟨f, k + 1, by omega, by omega, rfl, by go_num, HF2, BF⟩
              case measure => simp [intOf]; omega
        · have hft : f = true := by
            apply HF.out
            rcases HMI.out with h | ⟨k', h1, h2, h3⟩
            · exact .inl h
            · exact .inr ⟨k', h1, by omega, h3⟩
          subst hft
          clear HF
          go_wp2
          go_roundw
          case rel => exact ⟨i + 1, by omega, by go_num, BB⟩
          case measure => simp [intOf]; omega
    · have HI := Lib.hid ((IntsIn.of O4'.out).below BB.out)
      have C5 := Lib.hid (C4.out.trans (BB.out.mono C4.out.size))
      have hw := Lib.hid (diskValid_any A2 c2 X wr HI.out (by rw [hXN]; omega))
      rw [hXN, HD.out] at hw
      clear BB O4'
      go_wp2_with fail
      refine hw.out.mono ?_
      rintro e w' ⟨rfl, rfl⟩
      go_wp2
      go_ret
      exact ⟨rfl, C5.out⟩

set_option maxRecDepth 100000 in
theorem lifted (os : Os) (started : os.Started) (H : Type) (enc : TypeId × Value → H) :
    ReturnsInHanded {} Try.checked os 8 .any (Rows.fnShotViewSpec.pre6 enc Try.prog Try.f8 Rows.fnShotViewRow.domain false) (Rows.fnShotViewSpec.post enc Try.prog Try.f8 false true false false) := by
  refine returnsInHanded_of_change (C := Try.checked) own started (by kernel_rfl) Try.func8
    (ChangeSpec.witness6 (enc := enc) (C := Try.checked) false ⟨#[], #[.slice none 0 0], []⟩ 8 (by kernel_rfl) (by kernel_rfl) (by kernel_rfl) (by kernel_rfl)) ?_
  intro W base args ds gs before hval0 hW hcnd _
  have hval : ∀ (j : Nat) t v, Try.f8.params[j]? = some t → args[j]? = some v → Value.okWide Try.prog W .any base t v := hval0
  have hW' := hW
  obtain ⟨p, q, hA0, hV, rfl, hfz, hnd⟩ := hW
  have hA : DataW.TrodAll enc Try.prog W 0 (fun _ => true) true Try.f8.params.toList args.toList ds p := hA0
  rw [Try.params8] at hA hval
  obtain ⟨v0, vs0, d0, ds0, p0, q0, hargs, rfl, rfl, h0, r0⟩ := trodAll_cons hA
  obtain ⟨rfl, rfl, rfl⟩ := trodAll_nil r0
  obtain rfl : args = #[v0] := by cases args; simp_all
  obtain ⟨rfl, rfl⟩ := trodVars_none hV
  have k0 := h0
  have lt0 : ∀ x ∈ p0, x.block < W.heap.size := by obtain ⟨m, hm⟩ := k0; exact DataW.trod_lt m _ _ _ hm
  obtain ⟨a0, n0, c0, rfl, ok0, le0, cl0⟩ := open_bytes (hval 0 40 v0 rfl rfl) h0
  clear hA0 hval0
  refine (walk a0 n0 c0 W ok0 le0 cl0).mono fun e W' ⟨he, bel⟩ => ?_
  subst he
  exact ⟨_, rfl, _, _, _, [], _, [], hW', trodAll_mk1 (shut_bool Try.underlying4 _), (trodAll_cons_mk (Below.trod laidOut (by kernel_rfl) (of_decide_eq_true (by kernel_rfl)) k0 bel lt0) trodAll_mk0), rfl, bel.frame _, fun h => by cases h⟩

theorem proved : Rows.FnShotViewSaid :=
  OpenClaim.holds_of_wide 8 Try.f8 rfl rfl rfl rfl rfl rfl rfl ⟨rfl, rfl, rfl, rfl, rfl⟩ rfl rfl rfl rfl rfl (by kernel_rfl) Try.func8 (by kernel_rfl)
    (of_decide_eq_true (by kernel_rfl)) (by unfold Func.isWrapper; first | (rw [if_pos (by decide +kernel)]; kernel_rfl) | (rw [if_neg (by decide +kernel)]; exact ⟨rfl, rfl⟩))
    (fun os started H enc _ => lifted os started H enc)
#print axioms proved
end Go.Proofs.Ytkjjieofoolnhaa.fnShotView
