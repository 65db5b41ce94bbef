/- Proves Rows.FnArrayFillSaid: for every input the law FnArrayFill returns true and leaves its arguments as they were. Conditions: none. -/
import Derived.Test.YtgdbchodlapdpaaOpen
import Derived.Test.YtgdbchodlapdpaaArrS
import Derived.Test.YtgdbchodlapdpaaDrAr
namespace Go.Proofs.Ytgdbchodlapdpaa.fnArrayFill
open Go.ChangeShapes Go.WideShapes Go.ChangeAt Go.RowKit
set_option linter.unusedVariables false
theorem rows_hd {w : World} {b off : Nat} {L : List (List Int)} (h : RowsR CI w (some ⟨b, off, none⟩) L) (h0 : 0 < L.length) : ∃ A0 c0, w.cell? ⟨b, off, none⟩ = some (.slice A0 (headN L) c0) := by
  obtain ⟨b', off', e, hc⟩ := h h0
  injection e with e
  injection e with e1 e2
  subst e1 e2
  obtain ⟨A0, c0, x, _⟩ := hc 0 h0
  rw [headN_get h0]
  exact ⟨A0, c0, x⟩
theorem arr_small {L : List (List Int)} {D m : Nat} (h : ArrOk L D m) : L.length + sumN L ≤ 1000 := by
  have h1 := sumN_le' (m := 16) (L := L) (fun r hr => by have := (h.2.2.2.2 r hr).1; have := h.2.2.2.1; omega)
  have := h.1
  have := h.2.2.1
  omega
set_option maxHeartbeats 8000000 in
theorem walk (A : Option Addr) (m cp : Nat) (B : Option Addr) (mb cb : Nat) (w : World) (hb : BytesIn w A m) (hmc : m ≤ cp) (hcp : cp ≤ 9223372036854775807) (hbB : BytesIn w B mb) (hmcB : mb ≤ cb) (hcpB : cb ≤ 9223372036854775807) :
    Calls Try.prog 11 #[.slice A m cp, .slice B mb cb] w fun e w' => e = .returned (.bool true) ∧ Below w.heap.size w w' := by
  by_cases hbig : 1048576 < m
  · go_enter Try.func11, Try.ntmps11
    go_wp2
    go_ret
    exact ⟨rfl, Below.refl _ _⟩
  by_cases hbig2 : 1048576 < mb
  · go_enter Try.func11, Try.ntmps11
    go_wp2
    go_ret
    exact ⟨rfl, Below.refl _ _⟩
  · go_enter Try.func11, Try.ntmps11
    clear hbB
    go_wp2_with fail
    refine (drawAC_any A m cp w hb hmc hcp).mono ?_
    rintro e w1 ⟨A1, c1, L, rfl, ht, l1, lc, hc1, hs, b1⟩
    have T1 := Lib.hid ht
    have C1 := Lib.hid b1
    clear b1 hb ht
    go_wp2_with fail
    refine (implCon_any A1 c1 L _ T1.out (by omega)).mono ?_
    rintro e w2 ⟨rfl, b2⟩
    have T2 := Lib.hid (T1.out.below b2)
    have C2 := Lib.hid (C1.out.trans (b2.mono C1.out.size))
    clear b2 T1 C1
    go_wp2_with fail
    refine (specCon_any A1 c1 L _ T2.out (by omega)).mono ?_
    rintro e w3 ⟨rfl, b3⟩
    have hcc : (conB L != conB L) = false := by simp
    have T3 := Lib.hid (T2.out.below b3)
    have C3 := Lib.hid (C2.out.trans (b3.mono C2.out.size))
    clear b3 T2 C2
    go_wp2_with fail
    refine (specArr_any A1 c1 L _ T3.out (by omega)).mono ?_
    rintro e w4 ⟨rfl, b4⟩
    have T4 := Lib.hid (T3.out.below b4)
    have C4 := Lib.hid (C3.out.trans (b4.mono C3.out.size))
    clear b4 T3 C3
    cases ha : arrB L
    · go_wp2_with (go_at_call 22; refine (alive_any _).mono ?_; rintro e w7 ⟨rfl, hb7⟩)
      go_ret
      exact ⟨rfl, C4.out.trans (hb7.mono C4.out.size)⟩
    · have HA := Lib.hid (ArrOk.of ha)
      obtain ⟨n2, n6, hm16, _⟩ := arr_parts ha
      clear ha hcc
      obtain ⟨b, off, hA1, _⟩ := T4.out (by omega)
      subst hA1
      obtain ⟨A0, c0, x0⟩ := rows_hd T4.out (by omega)
      obtain ⟨M, hM⟩ : ∃ M, M = headN L := ⟨_, rfl⟩
      rw [← hM] at hm16 x0 HA
      clear hM
      obtain ⟨p0, p1⟩ := prod_b (m := (M : Int)) (D := (L.length : Int)) (by omega) (by omega) (by omega) (by omega)
      go_wp2
      obtain ⟨n, hn⟩ : ∃ n : Nat, (n : Int) = (M : Int) * ((L.length : Int) - 1) := ⟨((M : Int) * ((L.length : Int) - 1)).toNat, by omega⟩
      rw [← hn] at p0 p1 ⊢
      obtain ⟨D, hD⟩ : ∃ D, D = L.length := ⟨_, rfl⟩
      rw [← hD] at HA hn n2 n6 ⊢
      have HN := Lib.hid hn
      have HL := Lib.hid hD
      have SM := Lib.hid (fun (X : List (List Int)) (h : ArrOk X D M) => arr_small h)
      clear hn
      have z0 : Hid (RowsR CI w4 (some ⟨b, off, none⟩) (fillL L mb 0)) := T4
      clear hD
      go_loopw [5, 7] (fun x y wr => ∃ (k : Nat) (A5 : Option Addr) (c5 : Nat) (X : List (List Int)), k ≤ n ∧ x = .slice A5 D c5 ∧ y = .int .i64 k ∧ Hid (X = fillL L mb k) ∧ Hid (RowsR CI wr A5 X) ∧ Hid (Below w.heap.size w wr)) (fun _ y _ => n - (intOf y).toNat)
      case atStart => exact ⟨0, _, _, L, Nat.zero_le _, rfl, rfl, rfl, T4, C4⟩
      case round =>
        clear T4 C4 x0 z0
        obtain ⟨k, A5, c5, X, hk, rfl, rfl, HX, T5, C5⟩ := hrel
        have OK := Lib.hid (show ArrOk X D M by rw [HX.out]; exact (HA.out.fill mb k (by have := HN.out; omega)).1)
        have hsm := SM.out X OK.out
        by_cases hlt : k < n
        · have hvv : (fillV mb k) = (3 * (k : Int) + mb) % 256 := rfl
          have hw := Lib.hid (implWrt_any A5 c5 X k (fillV mb k) wr T5.out (by omega) (by omega))
          rw [OK.out.1, hvv] at hw
          have HX2 := Lib.hid (show wrtV X k ((3 * (k : Int) + mb) % 256) = fillL L mb (k + 1) by rw [HX.out]; rfl)
          have OK2 := Lib.hid (show (wrtV X k ((3 * (k : Int) + mb) % 256)).length = D by rw [HX2.out]; exact (HA.out.fill mb (k + 1) (by have := HN.out; omega)).1.1)
          clear hvv
          go_wp2_with fail
          refine hw.out.mono ?_
          rintro e w6 ⟨A6, c6, rfl, o6, b6⟩
          rw [OK2.out]
          have T6 := Lib.hid o6.read
          have C6 := Lib.hid (C5.out.trans (b6.mono C5.out.size))
          clear hw o6 b6 T5 C5 OK
          go_wp2
          go_roundw
          case rel => exact ⟨k + 1, A6, c6, _, by omega, rfl, by go_num, HX2, T6, C6⟩
          case measure => simp [intOf]; omega
        · obtain rfl : k = n := by omega
          have FF := HA.out.filled mb HN.out
          rw [← HX.out] at FF
          have HC := Lib.hid FF.2.1
          have HR := Lib.hid FF.2.2
          have hD0 : ((D : Int) == 0) = false := by rw [beq_eq_false_iff_ne]; omega
          have hXD := Lib.hid OK.out.1
          obtain ⟨n, hnk⟩ : ∃ n, n = k := ⟨_, rfl⟩
          subst hnk
          clear FF HX HN SM HA OK hlt hk HL
          go_wp2
          go_loopw [8] (fun x wr => ∃ k : Nat, k ≤ n ∧ x = .int .i64 k ∧ Hid (RowsR CI wr A5 X) ∧ Hid (Below w.heap.size w wr)) (fun x _ => n - (intOf x).toNat)
          case atStart => exact ⟨0, Nat.zero_le _, rfl, T5, C5⟩
          case round =>
            clear T5 C5
            obtain ⟨k, hk, rfl, T6, C6⟩ := hrel
            by_cases hlt : k < n
            · have hf0 : 0 ≤ (mb : Int) % (D : Int) := Int.emod_nonneg _ (by omega)
              have hf1 : (mb : Int) % (D : Int) < (D : Int) := Int.emod_lt_of_pos _ (by omega)
              have hw := Lib.hid (implRead_any A5 c5 X k ((mb : Int) % (D : Int)) wr T6.out (by omega) (by omega) (by omega))
              have hr := Lib.hid (HR.out k hlt ((mb : Int) % (D : Int)) (inB_iff.2 ⟨by omega, by omega⟩))
              rw [hXD.out] at hw
              go_wp2_with fail
              refine hw.out.mono ?_
              rintro e w7 ⟨rfl, b7⟩
              rw [hr.out]
              have hqq : (fillV mb k != (3 * (k : Int) + mb) % 256) = false := by simp [fillV]
              have T7 := Lib.hid (T6.out.below b7)
              have C7 := Lib.hid (C6.out.trans (b7.mono C6.out.size))
              clear b7 T6 C6 hw hr
              go_wp2
              go_roundw
              case rel => exact ⟨k + 1, by omega, by go_num, T7, C7⟩
              case measure => simp [intOf]; omega
            · have hw := Lib.hid (implCon_any A5 c5 X wr T6.out (by omega))
              rw [hXD.out] at hw
              go_wp2_with fail
              refine hw.out.mono ?_
              rintro e w7 ⟨rfl, b7⟩
              rw [HC.out]
              have C7 := Lib.hid (C6.out.trans (b7.mono C6.out.size))
              clear b7 hw
              go_wp2
              go_ret
              exact ⟨rfl, C7.out⟩

set_option maxRecDepth 100000 in
theorem lifted (os : Os) (started : os.Started) (H : Type) (enc : TypeId × Value → H) :
    ReturnsInHanded {} Try.checked os 11 .any (Rows.fnArrayFillSpec.pre6 enc Try.prog Try.f11 Rows.fnArrayFillRow.domain false) (Rows.fnArrayFillSpec.post enc Try.prog Try.f11 false true false false) := by
  refine returnsInHanded_of_change (C := Try.checked) own started (by kernel_rfl) Try.func11
    (ChangeSpec.witness6 (enc := enc) (C := Try.checked) false ⟨#[], #[.slice none 0 0, .slice none 0 0], []⟩ 8 (by kernel_rfl) (by kernel_rfl) (by kernel_rfl) (by kernel_rfl)) ?_
  intro W base args ds gs before hval0 hW hcnd _
  have hval : ∀ (j : Nat) t v, Try.f11.params[j]? = some t → args[j]? = some v → Value.okWide Try.prog W .any base t v := hval0
  have hW' := hW
  obtain ⟨p, q, hA0, hV, rfl, hfz, hnd⟩ := hW
  have hA : DataW.TrodAll enc Try.prog W 0 (fun _ => true) true Try.f11.params.toList args.toList ds p := hA0
  rw [Try.params11] at hA hval
  obtain ⟨v0, vs0, d0, ds0, p0, q0, hargs, rfl, rfl, h0, r0⟩ := trodAll_cons hA
  obtain ⟨v1, vs1, d1, ds1, p1, q1, rfl, rfl, rfl, h1, r1⟩ := trodAll_cons r0
  obtain ⟨rfl, rfl, rfl⟩ := trodAll_nil r1
  obtain rfl : args = #[v0, v1] := by cases args; simp_all
  obtain ⟨rfl, rfl⟩ := trodVars_none hV
  have k0 := h0
  have lt0 : ∀ x ∈ p0, x.block < W.heap.size := by obtain ⟨m, hm⟩ := k0; exact DataW.trod_lt m _ _ _ hm
  obtain ⟨a0, n0, c0, rfl, ok0, le0, cl0⟩ := open_bytes (hval 0 27 v0 rfl rfl) h0
  have k1 := h1
  have lt1 : ∀ x ∈ p1, x.block < W.heap.size := by obtain ⟨m, hm⟩ := k1; exact DataW.trod_lt m _ _ _ hm
  obtain ⟨a1, n1, c1, rfl, ok1, le1, cl1⟩ := open_bytes (hval 1 27 v1 rfl rfl) h1
  clear hA0 hval0
  refine (walk a0 n0 c0 a1 n1 c1 W ok0 le0 cl0 ok1 le1 cl1).mono fun e W' ⟨he, bel⟩ => ?_
  subst he
  exact ⟨_, rfl, _, _, _, [], _, [], hW', trodAll_mk1 (shut_bool Try.underlying4 _), (trodAll_cons_mk (Below.trod laidOut (by kernel_rfl) (of_decide_eq_true (by kernel_rfl)) k0 bel lt0) (trodAll_cons_mk (Below.trod laidOut (by kernel_rfl) (of_decide_eq_true (by kernel_rfl)) k1 bel lt1) trodAll_mk0)), rfl, bel.frame _, fun h => by cases h⟩

theorem proved : Rows.FnArrayFillSaid :=
  OpenClaim.holds_of_wide 11 Try.f11 rfl rfl rfl rfl rfl rfl rfl ⟨rfl, rfl, rfl, rfl, rfl⟩ rfl rfl rfl rfl rfl (by kernel_rfl) Try.func11 (by kernel_rfl)
    (of_decide_eq_true (by kernel_rfl)) (by unfold Func.isWrapper; first | (rw [if_pos (by decide +kernel)]; kernel_rfl) | (rw [if_neg (by decide +kernel)]; exact ⟨rfl, rfl⟩))
    (fun os started H enc _ => lifted os started H enc)
#print axioms proved
end Go.Proofs.Ytgdbchodlapdpaa.fnArrayFill
