/- Proves Rows.FnVolumeValidSaid: for every input the law FnVolumeValid returns true and leaves its arguments as they were. Conditions: none. -/
import Derived.Test.YtkjjieofoolnhaaOpen
import Derived.Test.YtkjjieofoolnhaaDrVr
import Derived.Test.YtkjjieofoolnhaaInts
namespace Go.Proofs.Ytkjjieofoolnhaa.fnVolumeValid
open Go.ChangeShapes Go.WideShapes Go.ChangeAt Go.RowKit
set_option linter.unusedVariables false
theorem vol_twice (N : List Int) : volB N [[(0, 0), (0, 0)]] = false := by
  have h : shotB N.length [(0, 0), (0, 0)] = false := by
    simp [shotB, upS, okS, findS, findF]
  simp [volB, h]
theorem vol_bare {N : List Int} {S : List (List Sv)} (h : volB N S = true) : volB N [] = true := by
  simp only [volB, Bool.and_eq_true] at h
  simp [volB, h.1.1]

set_option linter.unusedSimpArgs false in
set_option maxHeartbeats 4000000 in
theorem walk (A : Option Addr) (m cp : Nat) (w : World) (hb : BytesIn w A m) (hmc : m ≤ cp) (hcp : cp ≤ 9223372036854775807) :
    Calls Try.prog 6 #[.slice A m cp] w fun e w' => e = .returned (.bool true) ∧ Below w.heap.size w w' := by
  by_cases hbig : 1048576 < m
  · go_enter Try.func6, Try.ntmps6
    go_wp2
    go_ret
    exact ⟨rfl, Below.refl _ _⟩
  · go_enter Try.func6, Try.ntmps6
    go_wp2_with fail
    refine (drawVV_any A m cp w hb hmc hcp).mono ?_
    rintro e w1 ⟨v, N, S, rfl, ht, lN, lS, b1⟩
    have T1 := Lib.hid ht
    have C1 := Lib.hid b1
    clear b1 hb
    obtain ⟨A1, c1, B1, d1, rfl, _, _, hc1⟩ := ht
    have X1 := Lib.hid (show Blk (w1.alloc (.cells #[.slice A1 N.length c1, .slice B1 S.length d1] 29)) w1.heap.size 29 #[.slice A1 N.length c1, .slice B1 S.length d1] from Blk.new rfl)
    have T1' := Lib.hid (T1.out.alloc (.cells #[.slice A1 N.length c1, .slice B1 S.length d1] 29))
    have C1' := Lib.hid (b_alloc C1.out (.cells #[.slice A1 N.length c1, .slice B1 S.length d1] 29))
    clear T1 C1
    go_wp2_with fail
    refine (implVol_any _ N S _ T1'.out (by omega) (by omega)).mono ?_
    rintro e w2 ⟨rfl, b2⟩
    have X2 := Lib.hid (blk_below b2 X1.out X1.out.lt)
    have T2 := Lib.hid (T1'.out.below b2)
    have C2 := Lib.hid (C1'.out.trans (b2.mono C1'.out.size))
    clear b2 X1 T1' C1'
    obtain ⟨x0, x1, _, _⟩ := X2.out.two
    go_wp2_with fail
    refine (specVol_any _ N S _ T2.out (by omega) (by omega)).mono ?_
    rintro e w3 ⟨rfl, b3⟩
    have X3 := Lib.hid (blk_below b3 X2.out X2.out.lt)
    have T3 := Lib.hid (T2.out.below b3)
    have C3 := Lib.hid (C2.out.trans (b3.mono C2.out.size))
    clear b3 X2 T2 C2 x0 x1
    obtain ⟨x0, x1, _, _⟩ := X3.out.two
    have hne : (volB N S != volB N S) = false := by simp
    have HNI := Lib.hid (show IntsIn w3 A1 N from by
      obtain ⟨A', c', B', d', e, r1, _⟩ := T3.out
      injection e with e
      simp only [Array.mk.injEq, List.cons.injEq, and_true, Value.slice.injEq] at e
      obtain ⟨⟨rfl, _⟩, _⟩ := e
      exact r1)
    have hq1 := hc1.1
    have hq2 := hc1.2.1
    have P4 := Lib.hid (show RowsR savC ((w3.alloc (.cells #[.int .i64 0, .int .i64 0, .int .i64 0, .int .i64 0] 44)).alloc (.cells #[.slice (some ⟨w3.heap.size, 0, none⟩) 2 2] 45)) (some ⟨w3.heap.size + 1, 0, none⟩) [[((0 : Int), (0 : Int)), (0, 0)]] from by
      intro _
      refine ⟨w3.heap.size + 1, 0, rfl, fun i hi => ?_⟩
      obtain rfl : i = 0 := by simp at hi; omega
      refine ⟨some ⟨w3.heap.size, 0, none⟩, 2, ?_, (read_new1 (w := w3) (T := 44) (cs := #[.int .i64 0, .int .i64 0, .int .i64 0, .int .i64 0]) rfl).alloc _, by simp, by omega⟩
      have := heap_alloc_new (w3.alloc (.cells #[.int .i64 0, .int .i64 0, .int .i64 0, .int .i64 0] 44)) (.cells #[.slice (some ⟨w3.heap.size, 0, none⟩) 2 2] 45)
      rw [World.size_alloc] at this
      rw [cell_of_row _ _ _ _ _ _ this]
      rfl)
    have B4 := Lib.hid (b_alloc (b_alloc (Below.refl w3.heap.size w3) (.cells #[.int .i64 0, .int .i64 0, .int .i64 0, .int .i64 0] 44)) (.cells #[.slice (some ⟨w3.heap.size, 0, none⟩) 2 2] 45))
    have BQ := Lib.hid (show Below w3.heap.size w3 (((w3.alloc (.cells #[.int .i64 0, .int .i64 0, .int .i64 0, .int .i64 0] 44)).alloc (.cells #[.slice (some ⟨w3.heap.size, 0, none⟩) 2 2] 45)).alloc (.cells #[.slice A1 N.length c1, .slice (some ⟨w3.heap.size + 1, 0, none⟩) 1 1] 29)) from b_alloc B4.out (.cells #[.slice A1 N.length c1, .slice (some ⟨w3.heap.size + 1, 0, none⟩) 1 1] 29))
    have x0a := cell_keep x0 BQ.out
    have X5 := Lib.hid (show Blk (((w3.alloc (.cells #[.int .i64 0, .int .i64 0, .int .i64 0, .int .i64 0] 44)).alloc (.cells #[.slice (some ⟨w3.heap.size, 0, none⟩) 2 2] 45)).alloc (.cells #[.slice A1 N.length c1, .slice (some ⟨w3.heap.size + 1, 0, none⟩) 1 1] 29)) (w3.heap.size + 1 + 1) 29 #[.slice A1 N.length c1, .slice (some ⟨w3.heap.size + 1, 0, none⟩) 1 1] from Blk.new (by simp))
    have V5 := Lib.hid (show VolR (((w3.alloc (.cells #[.int .i64 0, .int .i64 0, .int .i64 0, .int .i64 0] 44)).alloc (.cells #[.slice (some ⟨w3.heap.size, 0, none⟩) 2 2] 45)).alloc (.cells #[.slice A1 N.length c1, .slice (some ⟨w3.heap.size + 1, 0, none⟩) 1 1] 29)) (.agg #[.slice A1 N.length c1, .slice (some ⟨w3.heap.size + 1, 0, none⟩) 1 1]) N [[((0 : Int), (0 : Int)), (0, 0)]] from
      ⟨A1, c1, some ⟨w3.heap.size + 1, 0, none⟩, 1, rfl, HNI.out.below BQ.out, P4.out.alloc _, hq1, hq2, by simp, by omega⟩)
    have V6 := Lib.hid (show VolR (((w3.alloc (.cells #[.int .i64 0, .int .i64 0, .int .i64 0, .int .i64 0] 44)).alloc (.cells #[.slice (some ⟨w3.heap.size, 0, none⟩) 2 2] 45)).alloc (.cells #[.slice A1 N.length c1, .slice (some ⟨w3.heap.size + 1, 0, none⟩) 1 1] 29)) (.agg #[.slice A1 N.length c1, .slice none 0 0]) N [] from
      ⟨A1, c1, none, 0, rfl, HNI.out.below BQ.out, RowsR.nil _ _, hq1, hq2, by simp, by omega⟩)
    have CQ := Lib.hid (C3.out.trans (BQ.out.mono C3.out.size))
    have vt := Lib.hid (vol_twice N)
    clear P4 B4 X3 T3 C3 HNI
    cases hv : volB N S
    · rw [hv] at hne
      obtain ⟨t0, t1, _, _⟩ := X5.out.two
      go_wp2_with fail
      refine (implVol_any _ N _ _ V5.out (by omega) (by simp [sumN])).mono ?_
      rintro e w4 ⟨rfl, b4⟩
      rw [vt.out]
      have C4 := Lib.hid (CQ.out.trans (b4.mono CQ.out.size))
      clear b4 X5 V5 V6 CQ BQ
      go_wp2_with fail
      refine (alive_any _).mono ?_
      rintro e w5 ⟨rfl, b5⟩
      have C5 := Lib.hid (C4.out.trans (b5.mono C4.out.size))
      clear b5 C4
      go_wp2
      go_ret
      exact ⟨rfl, C5.out⟩
    · rw [hv] at hne
      have vb := Lib.hid (vol_bare hv)
      go_wp2_with fail
      refine (implVol_any _ N _ _ V6.out (by omega) (by simp [sumN])).mono ?_
      rintro e w4 ⟨rfl, b4⟩
      rw [vb.out]
      have C4 := Lib.hid (CQ.out.trans (b4.mono CQ.out.size))
      have X6 := Lib.hid (blk_below b4 X5.out X5.out.lt)
      have V7 := Lib.hid (V5.out.below b4)
      obtain ⟨t0, t1, _, _⟩ := X6.out.two
      clear b4 X5 V5 V6 CQ BQ
      go_wp2_with fail
      refine (implVol_any _ N _ _ V7.out (by omega) (by simp [sumN])).mono ?_
      rintro e w5 ⟨rfl, b5⟩
      rw [vt.out]
      have C5 := Lib.hid (C4.out.trans (b5.mono C4.out.size))
      clear b5 C4 X6 V7
      go_wp2_with fail
      refine (alive_any _).mono ?_
      rintro e w6 ⟨rfl, b6⟩
      have C6 := Lib.hid (C5.out.trans (b6.mono C5.out.size))
      clear b6 C5
      go_wp2
      go_ret
      exact ⟨rfl, C6.out⟩

set_option maxRecDepth 100000 in
theorem lifted (os : Os) (started : os.Started) (H : Type) (enc : TypeId × Value → H) :
    ReturnsInHanded {} Try.checked os 6 .any (Rows.fnVolumeValidSpec.pre6 enc Try.prog Try.f6 Rows.fnVolumeValidRow.domain false) (Rows.fnVolumeValidSpec.post enc Try.prog Try.f6 false true false false) := by
  refine returnsInHanded_of_change (C := Try.checked) own started (by kernel_rfl) Try.func6
    (ChangeSpec.witness6 (enc := enc) (C := Try.checked) false ⟨#[], #[.slice none 0 0], []⟩ 8 (by kernel_rfl) (by kernel_rfl) (by kernel_rfl) (by kernel_rfl)) ?_
  intro W base args ds gs before hval0 hW hcnd _
  have hval : ∀ (j : Nat) t v, Try.f6.params[j]? = some t → args[j]? = some v → Value.okWide Try.prog W .any base t v := hval0
  have hW' := hW
  obtain ⟨p, q, hA0, hV, rfl, hfz, hnd⟩ := hW
  have hA : DataW.TrodAll enc Try.prog W 0 (fun _ => true) true Try.f6.params.toList args.toList ds p := hA0
  rw [Try.params6] at hA hval
  obtain ⟨v0, vs0, d0, ds0, p0, q0, hargs, rfl, rfl, h0, r0⟩ := trodAll_cons hA
  obtain ⟨rfl, rfl, rfl⟩ := trodAll_nil r0
  obtain rfl : args = #[v0] := by cases args; simp_all
  obtain ⟨rfl, rfl⟩ := trodVars_none hV
  have k0 := h0
  have lt0 : ∀ x ∈ p0, x.block < W.heap.size := by obtain ⟨m, hm⟩ := k0; exact DataW.trod_lt m _ _ _ hm
  obtain ⟨a0, n0, c0, rfl, ok0, le0, cl0⟩ := open_bytes (hval 0 40 v0 rfl rfl) h0
  clear hA0 hval0
  refine (walk a0 n0 c0 W ok0 le0 cl0).mono fun e W' ⟨he, bel⟩ => ?_
  subst he
  exact ⟨_, rfl, _, _, _, [], _, [], hW', trodAll_mk1 (shut_bool Try.underlying4 _), (trodAll_cons_mk (Below.trod laidOut (by kernel_rfl) (of_decide_eq_true (by kernel_rfl)) k0 bel lt0) trodAll_mk0), rfl, bel.frame _, fun h => by cases h⟩

theorem proved : Rows.FnVolumeValidSaid :=
  OpenClaim.holds_of_wide 6 Try.f6 rfl rfl rfl rfl rfl rfl rfl ⟨rfl, rfl, rfl, rfl, rfl⟩ rfl rfl rfl rfl rfl (by kernel_rfl) Try.func6 (by kernel_rfl)
    (of_decide_eq_true (by kernel_rfl)) (by unfold Func.isWrapper; first | (rw [if_pos (by decide +kernel)]; kernel_rfl) | (rw [if_neg (by decide +kernel)]; exact ⟨rfl, rfl⟩))
    (fun os started H enc _ => lifted os started H enc)
#print axioms proved
end Go.Proofs.Ytkjjieofoolnhaa.fnVolumeValid
