/- Proves Rows.FnArrayWriteSaid: for every input the law FnArrayWrite returns true and leaves its arguments as they were. Conditions: none. -/
import Derived.Test.YtgdbchodlapdpaaOpen
import Derived.Test.YtgdbchodlapdpaaArrS
import Derived.Test.YtgdbchodlapdpaaSameR
import Derived.Test.YtgdbchodlapdpaaDrAr
namespace Go.Proofs.Ytgdbchodlapdpaa.fnArrayWrite
open Go.ChangeShapes Go.WideShapes Go.ChangeAt Go.RowKit
set_option linter.unusedVariables false
theorem rows_hd {w : World} {b off : Nat} {L : List (List Int)} (h : RowsR CI w (some ⟨b, off, none⟩) L) (h0 : 0 < L.length) : ∃ A0 c0, w.cell? ⟨b, off, none⟩ = some (.slice A0 (headN L) c0) := by
  obtain ⟨b', off', e, hc⟩ := h h0
  injection e with e
  injection e with e1 e2
  subst e1 e2
  obtain ⟨A0, c0, x, _⟩ := hc 0 h0
  rw [headN_get h0]
  exact ⟨A0, c0, x⟩
set_option maxHeartbeats 8000000 in
theorem walk (A : Option Addr) (m cp : Nat) (w : World) (hb : BytesIn w A m) (hmc : m ≤ cp) (hcp : cp ≤ 9223372036854775807) :
    Calls Try.prog 13 #[.slice A m cp] w fun e w' => e = .returned (.bool true) ∧ Below w.heap.size w w' := by
  by_cases hbig : 1048576 < m
  · go_enter Try.func13, Try.ntmps13
    go_wp2
    go_ret
    exact ⟨rfl, Below.refl _ _⟩
  · go_enter Try.func13, Try.ntmps13
    go_wp2_with fail
    refine (drawAW_any A m cp w hb hmc hcp).mono ?_
    rintro e w1 ⟨A1, c1, L, n, v, rfl, ⟨ht, l1, lc, hc1, hs, b1⟩, n0, n1, v0, v1⟩
    have T1 := Lib.hid ht
    have C1 := Lib.hid b1
    clear b1 hb ht
    obtain ⟨X, hX⟩ : ∃ X, X = wrtV L n v := ⟨_, rfl⟩
    have hXs := wrtV_small L n v
    rw [← hX] at hXs
    have HX := Lib.hid hX
    clear hX
    go_wp2_with fail
    refine (implWrt_any A1 c1 L n v _ T1.out (by omega) (by omega)).mono ?_
    rw [← HX.out]
    rintro e w2 ⟨A2, c2, rfl, o2, b2⟩
    have T2 := Lib.hid (T1.out.below b2)
    have X2 := Lib.hid o2.read
    have C2 := Lib.hid (C1.out.trans (b2.mono C1.out.size))
    clear o2 b2 T1 C1
    go_wp2_with fail
    refine (specWrt_any A1 c1 L n v _ T2.out (by omega) (by omega)).mono ?_
    rw [← HX.out]
    rintro e w3 ⟨A3, c3, rfl, o3, b3⟩
    have T3 := Lib.hid (T2.out.below b3)
    have X3 := Lib.hid (X2.out.below b3)
    have Y3 := Lib.hid o3.read
    have C3 := Lib.hid (C2.out.trans (b3.mono C2.out.size))
    clear o3 b3 T2 X2 C2
    go_wp2_with fail
    refine (sameRows_same A2 A3 c2 c3 X _ X3.out Y3.out (by omega)).mono ?_
    rintro e w4 ⟨rfl, b4⟩
    have T4 := Lib.hid (T3.out.below b4)
    have X4 := Lib.hid (X3.out.below b4)
    have C4 := Lib.hid (C3.out.trans (b4.mono C3.out.size))
    clear b4 T3 X3 Y3 C3
    by_cases hX0 : X.length = 0
    · go_wp2_with (go_at_call 22; refine (alive_any _).mono ?_; rintro e w7 ⟨rfl, hb7⟩)
      go_ret
      exact ⟨rfl, C4.out.trans (hb7.mono C4.out.size)⟩
    · have hpv : placeB L n = true ∧ inB v 0 255 = true := by
        cases hp : placeB L n
        · exact absurd (by rw [HX.out, wrtV, hp]; rfl) hX0
        · cases hv : inB v 0 255
          · exact absurd (by rw [HX.out, wrtV, hp, hv]; rfl) hX0
          · exact ⟨rfl, rfl⟩
      obtain ⟨hp, hv⟩ := hpv
      have ha : arrB L = true := by simp only [placeB, Bool.and_eq_true] at hp; exact hp.1
      have HA := Lib.hid (ArrOk.of ha)
      have HXA := Lib.hid (show arrB X = true by rw [HX.out]; exact (HA.out.wrt hp hv).okB)
      have HW := Lib.hid (fun (f : Int) (f0 : -1 ≤ f) (f1 : f < L.length) => show readV X n f = v by rw [HX.out]; exact HA.out.wrote hp hv (inB_iff.2 ⟨f0, by omega⟩))
      have HO := Lib.hid (fun (k : Int) (k0 : 0 ≤ k) (k1 : k < (headN L : Int) * ((L.length : Int) - 1)) (hk : k ≠ n) => show readV X k (-1) = readV L k (-1) by rw [HX.out]; exact HA.out.others hp hv (HA.out.place.2 ⟨k0, by omega⟩) hk)
      have HCW := Lib.hid (fun (hc : conB L = true) => show conB X = true by rw [HX.out]; exact HA.out.conW hp hv hc)
      obtain ⟨n2, n6, hm16, _⟩ := arr_parts ha
      have hX0' : ((X.length : Int) == 0) = false := by rw [beq_eq_false_iff_ne]; omega
      have hXl : 0 < X.length := by omega
      have hvv : (v != v) = false := by simp
      clear hp hv ha hX0
      go_wp2
      go_loopw [7] (fun x wr => ∃ f : Int, -1 ≤ f ∧ f ≤ L.length ∧ x = .int .i64 f ∧ Hid (Below w4.heap.size w4 wr)) (fun x _ => ((L.length : Int) - intOf x).toNat)
      case atStart => exact ⟨-1, by omega, by omega, rfl, Lib.hid (Below.refl _ _)⟩
      case round =>
        obtain ⟨f, f0, f1, rfl, HB⟩ := hrel
        by_cases hlt : f < (L.length : Int)
        · have hr := Lib.hid (HW.out f f0 hlt)
          have XX := Lib.hid (X4.out.below HB.out)
          go_wp2_with fail
          refine (implRead_any A2 c2 X n f _ XX.out (by omega) (by omega) (by omega)).mono ?_
          rintro e w5 ⟨rfl, b5⟩
          rw [hr.out]
          have HB5 := Lib.hid (HB.out.trans (b5.mono HB.out.size))
          clear b5 XX hr HB
          go_wp2
          go_roundw
          case rel => exact ⟨f + 1, by omega, by omega, by go_num, HB5⟩
          case measure => simp [intOf]; omega
        · have T5 := Lib.hid (T4.out.below HB.out)
          have X5 := Lib.hid (X4.out.below HB.out)
          have C5 := Lib.hid (C4.out.trans (HB.out.mono C4.out.size))
          clear HB T4 X4 C4 HW
          obtain ⟨b, off, hA1, _⟩ := T5.out (by omega)
          subst hA1
          obtain ⟨M, hM⟩ : ∃ M, M = headN L := ⟨_, rfl⟩
          rw [← hM] at hm16 HO
          have HM := Lib.hid hM
          clear hM
          obtain ⟨p0, p1⟩ := prod_b (m := (M : Int)) (D := (L.length : Int)) (by omega) (by omega) (by omega) (by omega)
          go_wp2
          go_loopw [8] (fun x wr => ∃ k : Nat, (k : Int) ≤ (M : Int) * ((L.length : Int) - 1) ∧ x = .int .i64 k ∧ Hid (RowsR CI wr (some ⟨b, off, none⟩) L) ∧ Hid (RowsR CI wr A2 X) ∧ Hid (Below w.heap.size w wr)) (fun x _ => ((M : Int) * ((L.length : Int) - 1) - intOf x).toNat)
          case atStart => exact ⟨0, by omega, rfl, T5, X5, C5⟩
          case round =>
            clear T5 X5 C5
            obtain ⟨k, hk, rfl, T6, X6, C6⟩ := hrel
            obtain ⟨A0, c0, x0⟩ := rows_hd T6.out (by omega)
            rw [← HM.out] at x0
            by_cases hlt : (k : Int) < (M : Int) * ((L.length : Int) - 1)
            · by_cases hkn : (k : Int) = n
              · have hb1 : ((k : Int) != n) = false := by simp [hkn]
                clear hkn
                go_wp2
                go_roundw
                case rel => exact ⟨k + 1, by omega, by go_num, T6, X6, C6⟩
                case measure => simp [intOf]; omega
              · have hb1 : ((k : Int) != n) = true := by simp [hkn]
                have hr := Lib.hid (HO.out k (by omega) hlt hkn)
                clear hkn
                go_wp2_with fail
                refine (implRead_any A2 c2 X k (-1) _ X6.out (by omega) (by omega) (by omega)).mono ?_
                rintro e w7 ⟨rfl, b7⟩
                have T7 := Lib.hid (T6.out.below b7)
                have X7 := Lib.hid (X6.out.below b7)
                have C7 := Lib.hid (C6.out.trans (b7.mono C6.out.size))
                clear b7 T6 X6 C6 x0
                go_wp2_with fail
                refine (implRead_any (some ⟨b, off, none⟩) c1 L k (-1) _ T7.out (by omega) (by omega) (by omega)).mono ?_
                rintro e w8 ⟨rfl, b8⟩
                rw [hr.out]
                have hqq : (readV L k (-1) != readV L k (-1)) = false := by simp
                have T8 := Lib.hid (T7.out.below b8)
                have X8 := Lib.hid (X7.out.below b8)
                have C8 := Lib.hid (C7.out.trans (b8.mono C7.out.size))
                clear b8 T7 X7 C7 hr
                go_wp2
                go_roundw
                case rel => exact ⟨k + 1, by omega, by go_num, T8, X8, C8⟩
                case measure => simp [intOf]; omega
            · go_wp2_with fail
              refine (implArr_any A2 c2 X _ X6.out (by omega)).mono ?_
              rintro e w7 ⟨rfl, b7⟩
              rw [HXA.out]
              have T7 := Lib.hid (T6.out.below b7)
              have X7 := Lib.hid (X6.out.below b7)
              have C7 := Lib.hid (C6.out.trans (b7.mono C6.out.size))
              clear b7 T6 X6 C6 x0
              go_wp2_with fail
              refine (implCon_any (some ⟨b, off, none⟩) c1 L _ T7.out (by omega)).mono ?_
              rintro e w8 ⟨rfl, b8⟩
              have X8 := Lib.hid (X7.out.below b8)
              have C8 := Lib.hid (C7.out.trans (b8.mono C7.out.size))
              clear b8 T7 X7 C7
              cases hc : conB L
              · go_wp2
                go_ret
                exact ⟨rfl, C8.out⟩
              · have hcx := HCW.out hc
                clear hc
                go_wp2_with fail
                refine (implCon_any A2 c2 X _ X8.out (by omega)).mono ?_
                rintro e w9 ⟨rfl, b9⟩
                rw [hcx]
                have C9 := Lib.hid (C8.out.trans (b9.mono C8.out.size))
                clear b9 X8 C8
                go_wp2
                go_ret
                exact ⟨rfl, C9.out⟩

set_option maxRecDepth 100000 in
theorem lifted (os : Os) (started : os.Started) (H : Type) (enc : TypeId × Value → H) :
    ReturnsInHanded {} Try.checked os 13 .any (Rows.fnArrayWriteSpec.pre6 enc Try.prog Try.f13 Rows.fnArrayWriteRow.domain false) (Rows.fnArrayWriteSpec.post enc Try.prog Try.f13 false true false false) := by
  refine returnsInHanded_of_change (C := Try.checked) own started (by kernel_rfl) Try.func13
    (ChangeSpec.witness6 (enc := enc) (C := Try.checked) false ⟨#[], #[.slice none 0 0], []⟩ 8 (by kernel_rfl) (by kernel_rfl) (by kernel_rfl) (by kernel_rfl)) ?_
  intro W base args ds gs before hval0 hW hcnd _
  have hval : ∀ (j : Nat) t v, Try.f13.params[j]? = some t → args[j]? = some v → Value.okWide Try.prog W .any base t v := hval0
  have hW' := hW
  obtain ⟨p, q, hA0, hV, rfl, hfz, hnd⟩ := hW
  have hA : DataW.TrodAll enc Try.prog W 0 (fun _ => true) true Try.f13.params.toList args.toList ds p := hA0
  rw [Try.params13] at hA hval
  obtain ⟨v0, vs0, d0, ds0, p0, q0, hargs, rfl, rfl, h0, r0⟩ := trodAll_cons hA
  obtain ⟨rfl, rfl, rfl⟩ := trodAll_nil r0
  obtain rfl : args = #[v0] := by cases args; simp_all
  obtain ⟨rfl, rfl⟩ := trodVars_none hV
  have k0 := h0
  have lt0 : ∀ x ∈ p0, x.block < W.heap.size := by obtain ⟨m, hm⟩ := k0; exact DataW.trod_lt m _ _ _ hm
  obtain ⟨a0, n0, c0, rfl, ok0, le0, cl0⟩ := open_bytes (hval 0 27 v0 rfl rfl) h0
  clear hA0 hval0
  refine (walk a0 n0 c0 W ok0 le0 cl0).mono fun e W' ⟨he, bel⟩ => ?_
  subst he
  exact ⟨_, rfl, _, _, _, [], _, [], hW', trodAll_mk1 (shut_bool Try.underlying4 _), (trodAll_cons_mk (Below.trod laidOut (by kernel_rfl) (of_decide_eq_true (by kernel_rfl)) k0 bel lt0) trodAll_mk0), rfl, bel.frame _, fun h => by cases h⟩

theorem proved : Rows.FnArrayWriteSaid :=
  OpenClaim.holds_of_wide 13 Try.f13 rfl rfl rfl rfl rfl rfl rfl ⟨rfl, rfl, rfl, rfl, rfl⟩ rfl rfl rfl rfl rfl (by kernel_rfl) Try.func13 (by kernel_rfl)
    (of_decide_eq_true (by kernel_rfl)) (by unfold Func.isWrapper; first | (rw [if_pos (by decide +kernel)]; kernel_rfl) | (rw [if_neg (by decide +kernel)]; exact ⟨rfl, rfl⟩))
    (fun os started H enc _ => lifted os started H enc)
#print axioms proved
end Go.Proofs.Ytgdbchodlapdpaa.fnArrayWrite
