/- Proves Rows.FnShotChainSaid: for every input the law FnShotChain returns true and leaves its arguments as they were. Conditions: none. -/
import Derived.Test.YtkjjieofoolnhaaOpen
import Derived.Test.YtkjjieofoolnhaaShL
import Derived.Test.YtkjjieofoolnhaaShC
namespace Go.Proofs.Ytkjjieofoolnhaa.fnShotChain
open Go.ChangeShapes Go.WideShapes Go.ChangeAt Go.RowKit
set_option linter.unusedVariables false
set_option linter.unusedSimpArgs false in
set_option maxHeartbeats 8000000 in
theorem walk (A : Option Addr) (m cp : Nat) (w : World) (hb : BytesIn w A m) (hmc : m ≤ cp) (hcp : cp ≤ 9223372036854775807) :
    Calls Try.prog 13 #[.slice A m cp] w fun e w' => e = .returned (.bool true) ∧ Below w.heap.size w w' := by
  by_cases hbig : 1048576 < m
  · go_enter Try.func13, Try.ntmps13
    go_wp2
    go_ret
    exact ⟨rfl, Below.refl _ _⟩
  go_enter Try.func13, Try.ntmps13
  go_wp2_with fail
  refine (drawVW_any A m cp w hb hmc hcp).mono ?_
  rintro e w1 ⟨v, N, S, n, x, rfl, hv, lN, lS, b1, n0, n1, x0b, x1b⟩
  have hv1 := hv w1 (fun k _ _ => rfl)
  obtain ⟨A1, c1, B1, d1, rfl, _⟩ := hv1
  have V1 := Lib.hid ((hv w1 (fun k _ _ => rfl)).alloc (.cells #[.slice A1 N.length c1, .slice B1 S.length d1] 29))
  have K1 := Lib.hid (show Blk (w1.alloc (.cells #[.slice A1 N.length c1, .slice B1 S.length d1] 29)) w1.heap.size 29 #[.slice A1 N.length c1, .slice B1 S.length d1] from Blk.new rfl)
  have C1 := Lib.hid (b_alloc b1 (.cells #[.slice A1 N.length c1, .slice B1 S.length d1] 29))
  clear hv hb b1
  obtain ⟨R, hR⟩ : ∃ R, R = vwrN N S n x := ⟨_, rfl⟩
  obtain ⟨Q, hQ⟩ : ∃ Q, Q = vwrS N S n x := ⟨_, rfl⟩
  have hRl : R.length ≤ 70 ∧ Q.length + sumN Q ≤ 80 := by rw [hR, hQ]; have := vwr_len N S n x; omega
  have HR := Lib.hid hR
  have HQ := Lib.hid hQ
  clear hR hQ
  go_wp2_with fail
  refine (implVWrite_any _ N S n x _ V1.out (by omega) (by omega) (by omega) (by omega)).mono ?_
  rw [← HR.out, ← HQ.out]
  rintro e w2 ⟨v2, rfl, o2, b2⟩
  have X2 := Lib.hid o2.read
  obtain ⟨A2, c2, B2, d2, rfl, _⟩ := X2.out
  have V3 := Lib.hid ((V1.out.below b2).alloc (.cells #[.slice A2 R.length c2, .slice B2 Q.length d2] 29))
  have K3 := Lib.hid ((blk_below b2 K1.out K1.out.lt).alloc (.cells #[.slice A2 R.length c2, .slice B2 Q.length d2] 29))
  have C3 := Lib.hid (b_alloc (C1.out.trans (b2.mono C1.out.size)) (.cells #[.slice A2 R.length c2, .slice B2 Q.length d2] 29))
  have X3 := Lib.hid (X2.out.alloc (.cells #[.slice A2 R.length c2, .slice B2 Q.length d2] 29))
  have L3 := Lib.hid (show Blk (w2.alloc (.cells #[.slice A2 R.length c2, .slice B2 Q.length d2] 29)) w2.heap.size 29 #[.slice A2 R.length c2, .slice B2 Q.length d2] from Blk.new rfl)
  clear o2 b2 V1 K1 C1 X2
  go_wp2
  generalize hw3 : w2.alloc (.cells #[.slice A2 R.length c2, .slice B2 Q.length d2] 29) = w3 at *
  clear hw3
  obtain ⟨g3, hg3⟩ : ∃ g, g = w1.heap.size := ⟨_, rfl⟩
  obtain ⟨g6, hg6⟩ : ∃ g, g = w2.heap.size := ⟨_, rfl⟩
  rw [← hg3] at K3 ⊢
  rw [← hg6] at L3 ⊢
  clear hg3 hg6
  have HS := Lib.hid (fun (u : World) (hu : Below w3.heap.size w3 u) => boxes_at K3.out L3.out u hu)
  have HSP := Lib.hid (fun (u : World) (hu : Below w3.heap.size w3 u) => show Calls Try.prog 21 #[.agg #[.slice A1 N.length c1, .slice B1 S.length d1], .int .i64 n, .int .i64 x] u (ToVolPost R Q u) by
    have := specVWrite_any _ N S n x u (V3.out.below hu) (by omega) (by omega) (by omega) (by omega)
    rw [← HR.out, ← HQ.out] at this
    exact this)
  have HXX := Lib.hid (fun (u : World) (hu : Below w3.heap.size w3 u) => X3.out.below hu)
  refine wp_region_Z (fun w' : World => w'.cell? ⟨g3, 0, none⟩ = some (.slice A1 N.length c1) ∧ w'.cell? ⟨g3, 1, none⟩ = some (.slice B1 S.length d1) ∧ w'.cell? ⟨g6, 0, none⟩ = some (.slice A2 R.length c2) ∧ w'.cell? ⟨g6, 1, none⟩ = some (.slice B2 Q.length d2)) 99 (by kernel_rfl) ?_
  generalize hv0 : w3.drew = u0
  have BB := Lib.hid (show Below w3.heap.size w3 u0 by rw [← hv0]; exact (Below.refl _ _).drew)
  clear hv0
  refine wpAnyZ_take (i := 0) (oi := ?o1) (v := ?v1) ?hi1 (by kernel_rfl) (by kernel_rfl) (by kernel_rfl) (by kernel_rfl) ?hq1 ?hy1 (HS.out _ BB.out) ?rest1
  case hi1 => simp only [List.getElem?_toArray, List.getElem?_cons_succ, List.getElem?_cons_zero]; rfl
  case hq1 => exact fun _ _ _ h => h
  case hy1 => (refine Or.inl ⟨by rfl, ?_⟩; intro w hSw; (try dsimp only at hSw); go_simp; (try with_reducible rfl))
  simp only [Act.put, List.setIfInBounds_toArray, List.set_cons_zero, List.set_cons_succ]
  refine wpAnyZ_take (i := 1) (oi := ?o2) (v := ?v2) ?hi2 (by kernel_rfl) (by kernel_rfl) (by kernel_rfl) (by kernel_rfl) ?hq2 ?hy2 (HS.out _ BB.out) ?rest2
  case hi2 => simp only [List.getElem?_toArray, List.getElem?_cons_succ, List.getElem?_cons_zero]; rfl
  case hq2 => exact fun _ _ _ h => h
  case hy2 => (refine Or.inl ⟨by rfl, ?_⟩; intro w hSw; (try dsimp only at hSw); go_simp; (try with_reducible rfl))
  simp only [Act.put, List.setIfInBounds_toArray, List.set_cons_zero, List.set_cons_succ]
  refine wpAnyZ_take (i := 2) (oi := ?o3) (v := ?v3) ?hi3 (by kernel_rfl) (by kernel_rfl) (by kernel_rfl) (by kernel_rfl) ?hq3 ?hy3 (HS.out _ BB.out) ?rest3
  case hi3 => simp only [List.getElem?_toArray, List.getElem?_cons_succ, List.getElem?_cons_zero]; rfl
  case hq3 => exact fun _ _ _ h => h
  case hy3 => (refine Or.inl ⟨by rfl, ?_⟩; intro w hSw; (try dsimp only at hSw); go_simp; (try with_reducible rfl))
  simp only [Act.put, List.setIfInBounds_toArray, List.set_cons_zero, List.set_cons_succ]
  refine wpAnyZ_take (i := 3) (oi := ?o4) (v := ?v4) ?hi4 (by kernel_rfl) (by kernel_rfl) (by kernel_rfl) (by kernel_rfl) ?hq4 ?hy4 (HS.out _ BB.out) ?rest4
  case hi4 => simp only [List.getElem?_toArray, List.getElem?_cons_succ, List.getElem?_cons_zero]; rfl
  case hq4 => exact fun _ _ _ h => h
  case hy4 => (refine Or.inl ⟨by rfl, ?_⟩; intro w hSw; (try dsimp only at hSw); go_simp; (try with_reducible rfl))
  simp only [Act.put, List.setIfInBounds_toArray, List.set_cons_zero, List.set_cons_succ]
  refine wpAnyZ_one (i := 4) (o := ?o5) (by kernel_rfl) ?hi5 (fun K hK => ?rest5)
  case hi5 => simp only [List.getElem?_toArray, List.getElem?_cons_succ, List.getElem?_cons_zero]; rfl
  go_simp
  refine (HSP.out _ BB.out).mono ?_
  rintro e u1 ⟨v4, rfl, o4, b4⟩
  (try dsimp only)
  have BBn := BB.out.trans (b4.mono BB.out.size)
  refine hK.out _ _ (.inr (HS.out _ BBn)) ?_
  clear hK K
  (try simp only [Act.put, List.setIfInBounds_toArray, List.set_cons_zero, List.set_cons_succ])
  have Y4 := Lib.hid o4.read
  obtain ⟨A4, c4, B4, d4, rfl, _⟩ := Y4.out
  clear o4 b4
  clear BB
  have BB := Lib.hid BBn
  clear BBn
  refine wpAnyZ_one (i := 5) (o := ?o6) (by kernel_rfl) ?hi6 (fun K hK => ?rest6)
  case hi6 => simp only [List.getElem?_toArray, List.getElem?_cons_succ, List.getElem?_cons_zero]; rfl
  have hsame := Lib.hid (sameVol_same _ _ R Q u1 (HXX.out _ BB.out) Y4.out (by omega) (by omega))
  clear Y4
  go_simp
  refine (hsame.out).mono ?_
  rintro e u2 ⟨rfl, b5⟩
  (try dsimp only)
  have BBn := BB.out.trans (b5.mono BB.out.size)
  refine hK.out _ _ (.inr (HS.out _ BBn)) ?_
  clear hK K
  (try simp only [Act.put, List.setIfInBounds_toArray, List.set_cons_zero, List.set_cons_succ])
  clear b5 hsame
  clear BB
  have BB := Lib.hid BBn
  clear BBn
  refine wpAnyZ_take (i := 6) (oi := ?o7) (v := ?v7) ?hi7 (by kernel_rfl) (by kernel_rfl) (by kernel_rfl) (by kernel_rfl) ?hq7 ?hy7 (HS.out _ BB.out) ?rest7
  case hi7 => simp only [List.getElem?_toArray, List.getElem?_cons_succ, List.getElem?_cons_zero]; rfl
  case hq7 => exact fun _ _ _ h => h
  case hy7 => (refine Or.inl ⟨by rfl, ?_⟩; intro w hSw; (try dsimp only at hSw); go_simp; (try with_reducible rfl))
  simp only [Act.put, List.setIfInBounds_toArray, List.set_cons_zero, List.set_cons_succ]
  refine wpAnyZ_done (by kernel_rfl) ?_ _
  have V6 := Lib.hid (V3.out.below BB.out)
  have K6 := Lib.hid (blk_below BB.out K3.out K3.out.lt)
  have L6 := Lib.hid (blk_below BB.out L3.out L3.out.lt)
  have C6 := Lib.hid (C3.out.trans (BB.out.mono C3.out.size))
  have X6 := Lib.hid (X3.out.below BB.out)
  clear BB V3 K3 L3 C3 X3 HS HSP HXX
  generalize u2 = w6 at *
  obtain ⟨x0, x1, _, _⟩ := L6.out.two
  obtain ⟨y0, y1, _, _⟩ := K6.out.two
  cases hvw : vwrB N S n x
  · have e1 : R = [] := by rw [HR.out]; unfold vwrN; rw [hvw]; rfl
    have e2 : Q = [] := by rw [HQ.out]; unfold vwrS; rw [hvw]; rfl
    subst e1 e2
    go_wp2_with fail
    refine (alive_any _).mono ?_
    rintro e w9 ⟨rfl, b9⟩
    have C9 := Lib.hid (C6.out.trans (b9.mono C6.out.size))
    clear b9
    go_wp2
    go_ret
    exact ⟨rfl, C9.out⟩
  have hvw2 := hvw
  simp only [vwrB, Bool.and_eq_true, inB_iff] at hvw2
  obtain ⟨⟨hvb, ha0, ha1⟩, hx0, hx1⟩ := hvw2
  obtain ⟨k, rfl⟩ : ∃ k : Nat, n = k := ⟨n.toNat, by omega⟩
  have hkN : k < N.length := by omega
  have e1 : R = N.set k x := by rw [HR.out]; unfold vwrN; rw [hvw, if_pos rfl, Int.toNat_natCast]
  have e2 : Q = savS N S k := by rw [HQ.out]; unfold vwrS; rw [hvw, if_pos rfl]
  have HRL := Lib.hid (show R.length = N.length by rw [e1, List.length_set])
  have e0 : ((N.length : Int) == 0) = false := by rw [beq_eq_false_iff_ne]; omega
  rw [HRL.out] at x0 ⊢
  clear hvw e1 e2 HR HQ X6 L6 hRl
  by_cases h5n : 5 < S.length + 2
  · go_wp2_with fail
    refine (alive_any _).mono ?_
    rintro e w9 ⟨rfl, b9⟩
    have C9 := Lib.hid (C6.out.trans (b9.mono C6.out.size))
    clear b9
    go_wp2
    go_ret
    exact ⟨rfl, C9.out⟩
  have h5 : S.length + 2 ≤ 5 := by omega
  obtain ⟨N1, N2, S1, S3, S4, l1, l2, l3, l4, l5, t1, t2, t3, t4, t5, t6, t7, t8, t9, t10, s1, s2, s3, m1, m3, m4⟩ := chain hvb hkN ⟨hx0, hx1⟩ h5
  obtain ⟨T1, hT1⟩ : ∃ T1, T1 = S ++ [[]] := ⟨_, rfl⟩
  obtain ⟨T2, hT2⟩ : ∃ T2, T2 = S1 ++ [[]] := ⟨_, rfl⟩
  have hT1l : T1.length + sumN T1 ≤ 50 := by rw [hT1, sumN_append, List.length_append]; simp [sumN]; omega
  have hT2l : T2.length + sumN T2 ≤ 50 := by rw [hT2, sumN_append, List.length_append]; simp [sumN]; omega
  rw [← hT1] at t2 t3 t4
  rw [← hT2] at t6 t7 t8
  have h5i : ¬ (5 < (S.length : Int) + 2) := by omega
  have hN1 : N1.length ≤ 70 := by omega
  have hN2 : N2.length ≤ 70 := by omega
  have hS1 : S1.length + sumN S1 ≤ 50 := by omega
  have hS3 : S3.length + sumN S3 ≤ 50 := by omega
  have hS4 : S4.length + sumN S4 ≤ 100 := by omega
  clear hT1 hT2 l1 l2 l3 l4 l5 m1 m3 m4 hvb ha0 ha1
  have hw := Lib.hid (implTake_any _ N S w6 V6.out (by omega) (by omega))
  unfold TakePost at hw
  rw [t1, t2] at hw
  go_wp2_with fail
  refine hw.out.mono ?_
  rintro e w7 ⟨v7, rfl, o7, b7⟩
  have XX := Lib.hid o7.read
  obtain ⟨A7, c7, B7, d7, rfl, _⟩ := XX.out
  have V6n := Lib.hid ((V6.out.below b7).alloc (.cells #[.slice A7 N.length c7, .slice B7 T1.length d7] 29))
  have K6n := Lib.hid ((blk_below b7 K6.out K6.out.lt).alloc (.cells #[.slice A7 N.length c7, .slice B7 T1.length d7] 29))
  have C6n := Lib.hid (b_alloc (C6.out.trans (b7.mono C6.out.size)) (.cells #[.slice A7 N.length c7, .slice B7 T1.length d7] 29))
  have X7 := Lib.hid (XX.out.alloc (.cells #[.slice A7 N.length c7, .slice B7 T1.length d7] 29))
  have L7 := Lib.hid (show Blk (w7.alloc (.cells #[.slice A7 N.length c7, .slice B7 T1.length d7] 29)) w7.heap.size 29 #[.slice A7 N.length c7, .slice B7 T1.length d7] from Blk.new rfl)
  clear hw o7 b7 XX V6 K6 C6
  have V6 := V6n
  have K6 := K6n
  have C6 := C6n
  clear V6n K6n C6n
  clear x0 x1
  obtain ⟨x0, x1, _, _⟩ := L7.out.two
  have hw := Lib.hid (implVWrite_any _ N T1 k x _ X7.out (by omega) (by omega) (by omega) (by omega))
  rw [t3, t4] at hw
  go_wp2_with fail
  refine hw.out.mono ?_
  rintro e w8 ⟨v8, rfl, o8, b8⟩
  have XX := Lib.hid o8.read
  obtain ⟨A8, c8, B8, d8, rfl, _⟩ := XX.out
  have V6n := Lib.hid ((V6.out.below b8).alloc (.cells #[.slice A8 N1.length c8, .slice B8 S1.length d8] 29))
  have K6n := Lib.hid ((blk_below b8 K6.out K6.out.lt).alloc (.cells #[.slice A8 N1.length c8, .slice B8 S1.length d8] 29))
  have C6n := Lib.hid (b_alloc (C6.out.trans (b8.mono C6.out.size)) (.cells #[.slice A8 N1.length c8, .slice B8 S1.length d8] 29))
  have X8 := Lib.hid (XX.out.alloc (.cells #[.slice A8 N1.length c8, .slice B8 S1.length d8] 29))
  have L8 := Lib.hid (show Blk (w8.alloc (.cells #[.slice A8 N1.length c8, .slice B8 S1.length d8] 29)) w8.heap.size 29 #[.slice A8 N1.length c8, .slice B8 S1.length d8] from Blk.new rfl)
  clear hw o8 b8 XX V6 K6 C6
  have V6 := V6n
  have K6 := K6n
  have C6 := C6n
  clear V6n K6n C6n
  clear x0 x1
  obtain ⟨x0, x1, _, _⟩ := L8.out.two
  have hw := Lib.hid (implTake_any _ N1 S1 _ X8.out (by omega) (by omega))
  unfold TakePost at hw
  rw [t5, t6] at hw
  go_wp2_with fail
  refine hw.out.mono ?_
  rintro e w9 ⟨v9, rfl, o9, b9⟩
  have XX := Lib.hid o9.read
  obtain ⟨A9, c9, B9, d9, rfl, _⟩ := XX.out
  have V6n := Lib.hid ((V6.out.below b9).alloc (.cells #[.slice A9 N1.length c9, .slice B9 T2.length d9] 29))
  have K6n := Lib.hid ((blk_below b9 K6.out K6.out.lt).alloc (.cells #[.slice A9 N1.length c9, .slice B9 T2.length d9] 29))
  have C6n := Lib.hid (b_alloc (C6.out.trans (b9.mono C6.out.size)) (.cells #[.slice A9 N1.length c9, .slice B9 T2.length d9] 29))
  have X8n := Lib.hid ((X8.out.below b9).alloc (.cells #[.slice A9 N1.length c9, .slice B9 T2.length d9] 29))
  have L8n := Lib.hid ((blk_below b9 L8.out L8.out.lt).alloc (.cells #[.slice A9 N1.length c9, .slice B9 T2.length d9] 29))
  have X9 := Lib.hid (XX.out.alloc (.cells #[.slice A9 N1.length c9, .slice B9 T2.length d9] 29))
  have L9 := Lib.hid (show Blk (w9.alloc (.cells #[.slice A9 N1.length c9, .slice B9 T2.length d9] 29)) w9.heap.size 29 #[.slice A9 N1.length c9, .slice B9 T2.length d9] from Blk.new rfl)
  clear hw o9 b9 XX V6 K6 C6 X8 L8
  have V6 := V6n
  have K6 := K6n
  have C6 := C6n
  have X8 := X8n
  have L8 := L8n
  clear V6n K6n C6n X8n L8n
  clear x0 x1
  obtain ⟨x0, x1, _, _⟩ := L9.out.two
  have hw := Lib.hid (implVWrite_any _ N1 T2 k (255 - x) _ X9.out (by omega) (by omega) (by omega) (by omega))
  rw [t7, t8] at hw
  go_wp2_with fail
  refine hw.out.mono ?_
  rintro e w10 ⟨v10, rfl, o10, b10⟩
  have XX := Lib.hid o10.read
  obtain ⟨A10, c10, B10, d10, rfl, _⟩ := XX.out
  have V6n := Lib.hid ((V6.out.below b10).alloc (.cells #[.slice A10 N2.length c10, .slice B10 S3.length d10] 29))
  have K6n := Lib.hid ((blk_below b10 K6.out K6.out.lt).alloc (.cells #[.slice A10 N2.length c10, .slice B10 S3.length d10] 29))
  have C6n := Lib.hid (b_alloc (C6.out.trans (b10.mono C6.out.size)) (.cells #[.slice A10 N2.length c10, .slice B10 S3.length d10] 29))
  have X8n := Lib.hid ((X8.out.below b10).alloc (.cells #[.slice A10 N2.length c10, .slice B10 S3.length d10] 29))
  have L8n := Lib.hid ((blk_below b10 L8.out L8.out.lt).alloc (.cells #[.slice A10 N2.length c10, .slice B10 S3.length d10] 29))
  have X10 := Lib.hid (XX.out.alloc (.cells #[.slice A10 N2.length c10, .slice B10 S3.length d10] 29))
  have L10 := Lib.hid (show Blk (w10.alloc (.cells #[.slice A10 N2.length c10, .slice B10 S3.length d10] 29)) w10.heap.size 29 #[.slice A10 N2.length c10, .slice B10 S3.length d10] from Blk.new rfl)
  clear hw o10 b10 XX V6 K6 C6 X8 L8
  have V6 := V6n
  have K6 := K6n
  have C6 := C6n
  have X8 := X8n
  have L8 := L8n
  clear V6n K6n C6n X8n L8n
  clear x0 x1
  obtain ⟨x0, x1, _, _⟩ := L10.out.two
  have HNI := Lib.hid (vol_ints V6.out)
  have HNB := Lib.hid (vol_ints X8.out)
  go_wp2
  generalize hw11 : w10.alloc (.cells #[.slice A10 N2.length c10, .slice B10 S3.length d10] 29) = w11 at *
  clear hw11
  obtain ⟨gb, hgb⟩ : ∃ g, g = w8.heap.size := ⟨_, rfl⟩
  obtain ⟨ge, hge⟩ : ∃ g, g = w10.heap.size := ⟨_, rfl⟩
  rw [← hgb] at L8 ⊢
  rw [← hge] at L10 ⊢
  clear hgb hge
  have HS := Lib.hid (fun (u : World) (hu : Below w11.heap.size w11 u) => show u.cell? ⟨g3, 0, none⟩ = some (.slice A1 N.length c1) ∧ u.cell? ⟨gb, 0, none⟩ = some (.slice A8 N1.length c8) ∧ u.cell? ⟨ge, 0, none⟩ = some (.slice A10 N2.length c10) ∧ u.cell? ⟨ge, 1, none⟩ = some (.slice B10 S3.length d10) by
    obtain ⟨q0, _, _, _⟩ := (blk_below hu K6.out K6.out.lt).two
    obtain ⟨q1, _, _, _⟩ := (blk_below hu L8.out L8.out.lt).two
    obtain ⟨q2, q3, _, _⟩ := (blk_below hu L10.out L10.out.lt).two
    exact ⟨q0, q1, q2, q3⟩)
  have HNI := Lib.hid (fun (u : World) (hu : Below w11.heap.size w11 u) => HNI.out.below hu)
  have HNB := Lib.hid (fun (u : World) (hu : Below w11.heap.size w11 u) => HNB.out.below hu)
  have HV1 := Lib.hid (fun (u : World) (hu : Below w11.heap.size w11 u) => implShot_any _ N2 S3 S.length u (X10.out.below hu) (by omega) (by omega) (by omega))
  simp only [s1] at HV1
  have HV2 := Lib.hid (fun (u : World) (hu : Below w11.heap.size w11 u) => implShot_any _ N2 S3 ((S.length : Int) + 1) u (X10.out.below hu) (by omega) (by omega) (by omega))
  simp only [s2] at HV2
  have HDR := Lib.hid (fun (u : World) (hu : Below w11.heap.size w11 u) => implDrop_any _ N2 S3 ((S.length : Int) + 1) u (X10.out.below hu) (by omega) (by omega) (by omega))
  simp only [t9, t10] at HDR
  have HV3 := Lib.hid (fun (u : World) (v : Value) (h : VolR u v N2 S4) => implShot_any v N2 S4 S.length u h (by omega) (by omega) (by omega))
  simp only [s3] at HV3
  have DW := Lib.hid (show IntKind.i64.wrap ((S.length : Int) + 1) = (S.length : Int) + 1 from IntWalk.i64_in _ (by omega))
  clear x0 x1 y0 y1 t1 t2 t3 t4 t5 t6 t7 t8 t9 t10 s1 s2 s3 X10 X8 V6 h5i
  refine wp_region_Z (fun w' : World => w'.cell? ⟨g3, 0, none⟩ = some (.slice A1 N.length c1) ∧ w'.cell? ⟨gb, 0, none⟩ = some (.slice A8 N1.length c8) ∧ w'.cell? ⟨ge, 0, none⟩ = some (.slice A10 N2.length c10) ∧ w'.cell? ⟨ge, 1, none⟩ = some (.slice B10 S3.length d10)) 99 (by kernel_rfl) ?_
  generalize hv0 : w11.drew = u0
  have BB := Lib.hid (show Below w11.heap.size w11 u0 by rw [← hv0]; exact (Below.refl _ _).drew)
  clear hv0
  refine wpAnyZ_take (i := 0) (oi := ?o8) (v := ?v8) ?hi8 (by kernel_rfl) (by kernel_rfl) (by kernel_rfl) (by kernel_rfl) ?hq8 ?hy8 (HS.out _ BB.out) ?rest8
  case hi8 => simp only [List.getElem?_toArray, List.getElem?_cons_succ, List.getElem?_cons_zero]; rfl
  case hq8 => exact fun _ _ _ h => h
  case hy8 => (refine Or.inl ⟨by rfl, ?_⟩; intro w hSw; (try dsimp only at hSw); go_simp; (try with_reducible rfl))
  simp only [Act.put, List.setIfInBounds_toArray, List.set_cons_zero, List.set_cons_succ]
  refine wpAnyZ_take (i := 1) (oi := ?o9) (v := ?v9) ?hi9 (by kernel_rfl) (by kernel_rfl) (by kernel_rfl) (by kernel_rfl) ?hq9 ?hy9 (HS.out _ BB.out) ?rest9
  case hi9 => simp only [List.getElem?_toArray, List.getElem?_cons_succ, List.getElem?_cons_zero]; rfl
  case hq9 => exact fun _ _ _ h => h
  case hy9 => (refine Or.inl ⟨by rfl, ?_⟩; intro w hSw; (try dsimp only at hSw); go_simp; (try with_reducible rfl))
  simp only [Act.put, List.setIfInBounds_toArray, List.set_cons_zero, List.set_cons_succ]
  refine wpAnyZ_take (i := 3) (oi := ?o10) (v := ?v10) ?hi10 (by kernel_rfl) (by kernel_rfl) (by kernel_rfl) (by kernel_rfl) ?hq10 ?hy10 (HS.out _ BB.out) ?rest10
  case hi10 => simp only [List.getElem?_toArray, List.getElem?_cons_succ, List.getElem?_cons_zero]; rfl
  case hq10 => exact fun _ _ _ h => h
  case hy10 => (refine Or.inl ⟨by rfl, ?_⟩; intro w hSw; (try dsimp only at hSw); go_simp; (try with_reducible rfl))
  simp only [Act.put, List.setIfInBounds_toArray, List.set_cons_zero, List.set_cons_succ]
  refine wpAnyZ_take (i := 4) (oi := ?o11) (v := ?v11) ?hi11 (by kernel_rfl) (by kernel_rfl) (by kernel_rfl) (by kernel_rfl) ?hq11 ?hy11 (HS.out _ BB.out) ?rest11
  case hi11 => simp only [List.getElem?_toArray, List.getElem?_cons_succ, List.getElem?_cons_zero]; rfl
  case hq11 => exact fun _ _ _ h => h
  case hy11 => (refine Or.inl ⟨by rfl, ?_⟩; intro w hSw; (try dsimp only at hSw); go_simp; (try with_reducible rfl))
  simp only [Act.put, List.setIfInBounds_toArray, List.set_cons_zero, List.set_cons_succ]
  refine wpAnyZ_one (i := 2) (o := ?o12) (by kernel_rfl) ?hi12 (fun K hK => ?rest12)
  case hi12 => simp only [List.getElem?_toArray, List.getElem?_cons_succ, List.getElem?_cons_zero]; rfl
  go_simp
  refine (HV1.out _ BB.out).mono ?_
  rintro e u1 ⟨A21, c21, rfl, o1, b1⟩
  (try dsimp only)
  have BBn := BB.out.trans (b1.mono BB.out.size)
  refine hK.out _ _ (.inr (HS.out _ BBn)) ?_
  clear hK K
  (try simp only [Act.put, List.setIfInBounds_toArray, List.set_cons_zero, List.set_cons_succ])
  have P1 := Lib.hid (own_read o1)
  clear o1 b1
  clear BB
  have BB := Lib.hid BBn
  clear BBn
  refine wpAnyZ_one (i := 5) (o := ?o13) (by kernel_rfl) ?hi13 (fun K hK => ?rest13)
  case hi13 => simp only [List.getElem?_toArray, List.getElem?_cons_succ, List.getElem?_cons_zero]; rfl
  have hsame := Lib.hid (same_b A21 A1 c21 c1 N u1 (IntsIn.of P1.out) (HNI.out _ BB.out) (by omega))
  clear P1
  go_simp
  refine (hsame.out).mono ?_
  rintro e u2 ⟨rfl, b2⟩
  (try dsimp only)
  have BBn := BB.out.trans (b2.mono BB.out.size)
  refine hK.out _ _ (.inr (HS.out _ BBn)) ?_
  clear hK K
  (try simp only [Act.put, List.setIfInBounds_toArray, List.set_cons_zero, List.set_cons_succ])
  clear b2 hsame
  clear BB
  have BB := Lib.hid BBn
  clear BBn
  refine wpAnyZ_take (i := 6) (oi := ?o14) (v := ?v14) ?hi14 (by kernel_rfl) (by kernel_rfl) (by kernel_rfl) (by kernel_rfl) ?hq14 ?hy14 (HS.out _ BB.out) ?rest14
  case hi14 => simp only [List.getElem?_toArray, List.getElem?_cons_succ, List.getElem?_cons_zero]; rfl
  case hq14 => exact fun _ _ _ h => h
  case hy14 => (refine Or.inl ⟨by rfl, ?_⟩; intro w hSw; (try dsimp only at hSw); go_simp; (try with_reducible rfl))
  simp only [Act.put, List.setIfInBounds_toArray, List.set_cons_zero, List.set_cons_succ]
  refine wpAnyZ_take (i := 7) (oi := ?o15) (v := ?v15) ?hi15 (by kernel_rfl) (by kernel_rfl) (by kernel_rfl) (by kernel_rfl) ?hq15 ?hy15 (HS.out _ BB.out) ?rest15
  case hi15 => simp only [List.getElem?_toArray, List.getElem?_cons_succ, List.getElem?_cons_zero]; rfl
  case hq15 => exact fun _ _ _ h => h
  case hy15 => (refine Or.inl ⟨by rfl, ?_⟩; intro w hSw; (try dsimp only at hSw); go_simp; (try with_reducible rfl))
  simp only [Act.put, List.setIfInBounds_toArray, List.set_cons_zero, List.set_cons_succ]
  refine wpAnyZ_take (i := 8) (oi := ?o16) (v := ?v16) ?hi16 (by kernel_rfl) (by kernel_rfl) (by kernel_rfl) (by kernel_rfl) ?hq16 ?hy16 (HS.out _ BB.out) ?rest16
  case hi16 => simp only [List.getElem?_toArray, List.getElem?_cons_succ, List.getElem?_cons_zero]; rfl
  case hq16 => exact fun _ _ _ h => h
  case hy16 => (refine Or.inl ⟨by rfl, ?_⟩; intro w hSw; (try dsimp only at hSw); go_simp; (try with_reducible rfl))
  simp only [Act.put, List.setIfInBounds_toArray, List.set_cons_zero, List.set_cons_succ]
  refine wpAnyZ_take (i := 9) (oi := ?o17) (v := ?v17) ?hi17 (by kernel_rfl) (by kernel_rfl) (by kernel_rfl) (by kernel_rfl) ?hq17 ?hy17 (HS.out _ BB.out) ?rest17
  case hi17 => simp only [List.getElem?_toArray, List.getElem?_cons_succ, List.getElem?_cons_zero]; rfl
  case hq17 => exact fun _ _ _ h => h
  case hy17 => (refine Or.inl ⟨by rfl, ?_⟩; intro w hSw; (try dsimp only at hSw); go_simp; (try with_reducible rfl))
  simp only [Act.put, List.setIfInBounds_toArray, List.set_cons_zero, List.set_cons_succ]
  refine wpAnyZ_take (i := 11) (oi := ?o18) (v := ?v18) ?hi18 (by kernel_rfl) (by kernel_rfl) (by kernel_rfl) (by kernel_rfl) ?hq18 ?hy18 (HS.out _ BB.out) ?rest18
  case hi18 => simp only [List.getElem?_toArray, List.getElem?_cons_succ, List.getElem?_cons_zero]; rfl
  case hq18 => exact fun _ _ _ h => h
  case hy18 => (refine Or.inl ⟨by rfl, ?_⟩; intro w hSw; (try dsimp only at hSw); go_simp; (try with_reducible rfl))
  simp only [Act.put, List.setIfInBounds_toArray, List.set_cons_zero, List.set_cons_succ]
  refine wpAnyZ_take (i := 12) (oi := ?o19) (v := ?v19) ?hi19 (by kernel_rfl) (by kernel_rfl) (by kernel_rfl) (by kernel_rfl) ?hq19 ?hy19 (HS.out _ BB.out) ?rest19
  case hi19 => simp only [List.getElem?_toArray, List.getElem?_cons_succ, List.getElem?_cons_zero]; rfl
  case hq19 => exact fun _ _ _ h => h
  case hy19 => (refine Or.inl ⟨by rfl, ?_⟩; intro w hSw; (try dsimp only at hSw); go_simp; (try with_reducible rfl))
  simp only [Act.put, List.setIfInBounds_toArray, List.set_cons_zero, List.set_cons_succ]
  (try rw [DW.out])
  refine wpAnyZ_one (i := 10) (o := ?o20) (by kernel_rfl) ?hi20 (fun K hK => ?rest20)
  case hi20 => simp only [List.getElem?_toArray, List.getElem?_cons_succ, List.getElem?_cons_zero]; rfl
  go_simp
  refine (HV2.out _ BB.out).mono ?_
  rintro e u3 ⟨A22, c22, rfl, o1, b1⟩
  (try dsimp only)
  have BBn := BB.out.trans (b1.mono BB.out.size)
  refine hK.out _ _ (.inr (HS.out _ BBn)) ?_
  clear hK K
  (try simp only [Act.put, List.setIfInBounds_toArray, List.set_cons_zero, List.set_cons_succ])
  have P1 := Lib.hid (own_read o1)
  clear o1 b1
  clear BB
  have BB := Lib.hid BBn
  clear BBn
  refine wpAnyZ_one (i := 13) (o := ?o21) (by kernel_rfl) ?hi21 (fun K hK => ?rest21)
  case hi21 => simp only [List.getElem?_toArray, List.getElem?_cons_succ, List.getElem?_cons_zero]; rfl
  have hsame := Lib.hid (same_b A22 A8 c22 c8 N1 u3 (IntsIn.of P1.out) (HNB.out _ BB.out) (by omega))
  clear P1
  go_simp
  refine (hsame.out).mono ?_
  rintro e u4 ⟨rfl, b2⟩
  (try dsimp only)
  have BBn := BB.out.trans (b2.mono BB.out.size)
  refine hK.out _ _ (.inr (HS.out _ BBn)) ?_
  clear hK K
  (try simp only [Act.put, List.setIfInBounds_toArray, List.set_cons_zero, List.set_cons_succ])
  clear b2 hsame
  clear BB
  have BB := Lib.hid BBn
  clear BBn
  refine wpAnyZ_take (i := 14) (oi := ?o22) (v := ?v22) ?hi22 (by kernel_rfl) (by kernel_rfl) (by kernel_rfl) (by kernel_rfl) ?hq22 ?hy22 (HS.out _ BB.out) ?rest22
  case hi22 => simp only [List.getElem?_toArray, List.getElem?_cons_succ, List.getElem?_cons_zero]; rfl
  case hq22 => exact fun _ _ _ h => h
  case hy22 => (refine Or.inl ⟨by rfl, ?_⟩; intro w hSw; (try dsimp only at hSw); go_simp; (try with_reducible rfl))
  simp only [Act.put, List.setIfInBounds_toArray, List.set_cons_zero, List.set_cons_succ]
  refine wpAnyZ_take (i := 15) (oi := ?o23) (v := ?v23) ?hi23 (by kernel_rfl) (by kernel_rfl) (by kernel_rfl) (by kernel_rfl) ?hq23 ?hy23 (HS.out _ BB.out) ?rest23
  case hi23 => simp only [List.getElem?_toArray, List.getElem?_cons_succ, List.getElem?_cons_zero]; rfl
  case hq23 => exact fun _ _ _ h => h
  case hy23 => (refine Or.inl ⟨by rfl, ?_⟩; intro w hSw; (try dsimp only at hSw); go_simp; (try with_reducible rfl))
  simp only [Act.put, List.setIfInBounds_toArray, List.set_cons_zero, List.set_cons_succ]
  refine wpAnyZ_take (i := 16) (oi := ?o24) (v := ?v24) ?hi24 (by kernel_rfl) (by kernel_rfl) (by kernel_rfl) (by kernel_rfl) ?hq24 ?hy24 (HS.out _ BB.out) ?rest24
  case hi24 => simp only [List.getElem?_toArray, List.getElem?_cons_succ, List.getElem?_cons_zero]; rfl
  case hq24 => exact fun _ _ _ h => h
  case hy24 => (refine Or.inl ⟨by rfl, ?_⟩; intro w hSw; (try dsimp only at hSw); go_simp; (try with_reducible rfl))
  simp only [Act.put, List.setIfInBounds_toArray, List.set_cons_zero, List.set_cons_succ]
  refine wpAnyZ_take (i := 17) (oi := ?o25) (v := ?v25) ?hi25 (by kernel_rfl) (by kernel_rfl) (by kernel_rfl) (by kernel_rfl) ?hq25 ?hy25 (HS.out _ BB.out) ?rest25
  case hi25 => simp only [List.getElem?_toArray, List.getElem?_cons_succ, List.getElem?_cons_zero]; rfl
  case hq25 => exact fun _ _ _ h => h
  case hy25 => (refine Or.inl ⟨by rfl, ?_⟩; intro w hSw; (try dsimp only at hSw); go_simp; (try with_reducible rfl))
  simp only [Act.put, List.setIfInBounds_toArray, List.set_cons_zero, List.set_cons_succ]
  refine wpAnyZ_take (i := 18) (oi := ?o26) (v := ?v26) ?hi26 (by kernel_rfl) (by kernel_rfl) (by kernel_rfl) (by kernel_rfl) ?hq26 ?hy26 (HS.out _ BB.out) ?rest26
  case hi26 => simp only [List.getElem?_toArray, List.getElem?_cons_succ, List.getElem?_cons_zero]; rfl
  case hq26 => exact fun _ _ _ h => h
  case hy26 => (refine Or.inl ⟨by rfl, ?_⟩; intro w hSw; (try dsimp only at hSw); go_simp; (try with_reducible rfl))
  simp only [Act.put, List.setIfInBounds_toArray, List.set_cons_zero, List.set_cons_succ]
  refine wpAnyZ_take (i := 20) (oi := ?o27) (v := ?v27) ?hi27 (by kernel_rfl) (by kernel_rfl) (by kernel_rfl) (by kernel_rfl) ?hq27 ?hy27 (HS.out _ BB.out) ?rest27
  case hi27 => simp only [List.getElem?_toArray, List.getElem?_cons_succ, List.getElem?_cons_zero]; rfl
  case hq27 => exact fun _ _ _ h => h
  case hy27 => (refine Or.inl ⟨by rfl, ?_⟩; intro w hSw; (try dsimp only at hSw); go_simp; (try with_reducible rfl))
  simp only [Act.put, List.setIfInBounds_toArray, List.set_cons_zero, List.set_cons_succ]
  refine wpAnyZ_take (i := 22) (oi := ?o28) (v := ?v28) ?hi28 (by kernel_rfl) (by kernel_rfl) (by kernel_rfl) (by kernel_rfl) ?hq28 ?hy28 (HS.out _ BB.out) ?rest28
  case hi28 => simp only [List.getElem?_toArray, List.getElem?_cons_succ, List.getElem?_cons_zero]; rfl
  case hq28 => exact fun _ _ _ h => h
  case hy28 => (refine Or.inl ⟨by rfl, ?_⟩; intro w hSw; (try dsimp only at hSw); go_simp; (try with_reducible rfl))
  simp only [Act.put, List.setIfInBounds_toArray, List.set_cons_zero, List.set_cons_succ]
  refine wpAnyZ_take (i := 23) (oi := ?o29) (v := ?v29) ?hi29 (by kernel_rfl) (by kernel_rfl) (by kernel_rfl) (by kernel_rfl) ?hq29 ?hy29 (HS.out _ BB.out) ?rest29
  case hi29 => simp only [List.getElem?_toArray, List.getElem?_cons_succ, List.getElem?_cons_zero]; rfl
  case hq29 => exact fun _ _ _ h => h
  case hy29 => (refine Or.inl ⟨by rfl, ?_⟩; intro w hSw; (try dsimp only at hSw); go_simp; (try with_reducible rfl))
  simp only [Act.put, List.setIfInBounds_toArray, List.set_cons_zero, List.set_cons_succ]
  (try rw [DW.out])
  refine wpAnyZ_one (i := 19) (o := ?o30) (by kernel_rfl) ?hi30 (fun K hK => ?rest30)
  case hi30 => simp only [List.getElem?_toArray, List.getElem?_cons_succ, List.getElem?_cons_zero]; rfl
  go_simp
  refine (HDR.out _ BB.out).mono ?_
  rintro e u5 ⟨v23, rfl, o23, b23⟩
  (try dsimp only)
  have BBn := BB.out.trans (b23.mono BB.out.size)
  refine hK.out _ _ (.inr (HS.out _ BBn)) ?_
  clear hK K
  (try simp only [Act.put, List.setIfInBounds_toArray, List.set_cons_zero, List.set_cons_succ])
  have Y23 := Lib.hid o23.read
  obtain ⟨A23, c23, B23, d23, rfl, _⟩ := Y23.out
  clear o23 b23
  clear BB
  have BB := Lib.hid BBn
  clear BBn
  refine wpAnyZ_one (i := 21) (o := ?o31) (by kernel_rfl) ?hi31 (fun K hK => ?rest31)
  case hi31 => simp only [List.getElem?_toArray, List.getElem?_cons_succ, List.getElem?_cons_zero]; rfl
  have hvw := Lib.hid (HV3.out _ _ Y23.out)
  clear Y23
  go_simp
  refine (hvw.out).mono ?_
  rintro e u6 ⟨A24, c24, rfl, o1, b1⟩
  (try dsimp only)
  have BBn := BB.out.trans (b1.mono BB.out.size)
  refine hK.out _ _ (.inr (HS.out _ BBn)) ?_
  clear hK K
  (try simp only [Act.put, List.setIfInBounds_toArray, List.set_cons_zero, List.set_cons_succ])
  have P1 := Lib.hid (own_read o1)
  clear o1 b1 hvw
  clear BB
  have BB := Lib.hid BBn
  clear BBn
  refine wpAnyZ_one (i := 24) (o := ?o32) (by kernel_rfl) ?hi32 (fun K hK => ?rest32)
  case hi32 => simp only [List.getElem?_toArray, List.getElem?_cons_succ, List.getElem?_cons_zero]; rfl
  have hsame := Lib.hid (same_b A24 A1 c24 c1 N u6 (IntsIn.of P1.out) (HNI.out _ BB.out) (by omega))
  clear P1
  go_simp
  refine (hsame.out).mono ?_
  rintro e u7 ⟨rfl, b2⟩
  (try dsimp only)
  have BBn := BB.out.trans (b2.mono BB.out.size)
  refine hK.out _ _ (.inr (HS.out _ BBn)) ?_
  clear hK K
  (try simp only [Act.put, List.setIfInBounds_toArray, List.set_cons_zero, List.set_cons_succ])
  clear b2 hsame
  clear BB
  have BB := Lib.hid BBn
  clear BBn
  refine wpAnyZ_take (i := 25) (oi := ?o33) (v := ?v33) ?hi33 (by kernel_rfl) (by kernel_rfl) (by kernel_rfl) (by kernel_rfl) ?hq33 ?hy33 (HS.out _ BB.out) ?rest33
  case hi33 => simp only [List.getElem?_toArray, List.getElem?_cons_succ, List.getElem?_cons_zero]; rfl
  case hq33 => exact fun _ _ _ h => h
  case hy33 => (refine Or.inl ⟨by rfl, ?_⟩; intro w hSw; (try dsimp only at hSw); go_simp; (try with_reducible rfl))
  simp only [Act.put, List.setIfInBounds_toArray, List.set_cons_zero, List.set_cons_succ]
  refine wpAnyZ_take (i := 26) (oi := ?o34) (v := ?v34) ?hi34 (by kernel_rfl) (by kernel_rfl) (by kernel_rfl) (by kernel_rfl) ?hq34 ?hy34 (HS.out _ BB.out) ?rest34
  case hi34 => simp only [List.getElem?_toArray, List.getElem?_cons_succ, List.getElem?_cons_zero]; rfl
  case hq34 => exact fun _ _ _ h => h
  case hy34 => (refine Or.inl ⟨by rfl, ?_⟩; intro w hSw; (try dsimp only at hSw); go_simp; (try with_reducible rfl))
  simp only [Act.put, List.setIfInBounds_toArray, List.set_cons_zero, List.set_cons_succ]
  refine wpAnyZ_done (by kernel_rfl) ?_ _
  have C9 := Lib.hid (C6.out.trans (BB.out.mono C6.out.size))
  clear BB HNI HNB HV1 HV2 HV3 HDR HS
  go_wp2
  go_ret
  exact ⟨rfl, C9.out⟩

set_option maxRecDepth 100000 in
theorem lifted (os : Os) (started : os.Started) (H : Type) (enc : TypeId × Value → H) :
    ReturnsInHanded {} Try.checked os 13 .any (Rows.fnShotChainSpec.pre6 enc Try.prog Try.f13 Rows.fnShotChainRow.domain false) (Rows.fnShotChainSpec.post enc Try.prog Try.f13 false true false false) := by
  refine returnsInHanded_of_change (C := Try.checked) own started (by kernel_rfl) Try.func13
    (ChangeSpec.witness6 (enc := enc) (C := Try.checked) false ⟨#[], #[.slice none 0 0], []⟩ 8 (by kernel_rfl) (by kernel_rfl) (by kernel_rfl) (by kernel_rfl)) ?_
  intro W base args ds gs before hval0 hW hcnd _
  have hval : ∀ (j : Nat) t v, Try.f13.params[j]? = some t → args[j]? = some v → Value.okWide Try.prog W .any base t v := hval0
  have hW' := hW
  obtain ⟨p, q, hA0, hV, rfl, hfz, hnd⟩ := hW
  have hA : DataW.TrodAll enc Try.prog W 0 (fun _ => true) true Try.f13.params.toList args.toList ds p := hA0
  rw [Try.params13] at hA hval
  obtain ⟨v0, vs0, d0, ds0, p0, q0, hargs, rfl, rfl, h0, r0⟩ := trodAll_cons hA
  obtain ⟨rfl, rfl, rfl⟩ := trodAll_nil r0
  obtain rfl : args = #[v0] := by cases args; simp_all
  obtain ⟨rfl, rfl⟩ := trodVars_none hV
  have k0 := h0
  have lt0 : ∀ x ∈ p0, x.block < W.heap.size := by obtain ⟨m, hm⟩ := k0; exact DataW.trod_lt m _ _ _ hm
  obtain ⟨a0, n0, c0, rfl, ok0, le0, cl0⟩ := open_bytes (hval 0 40 v0 rfl rfl) h0
  clear hA0 hval0
  refine (walk a0 n0 c0 W ok0 le0 cl0).mono fun e W' ⟨he, bel⟩ => ?_
  subst he
  exact ⟨_, rfl, _, _, _, [], _, [], hW', trodAll_mk1 (shut_bool Try.underlying4 _), (trodAll_cons_mk (Below.trod laidOut (by kernel_rfl) (of_decide_eq_true (by kernel_rfl)) k0 bel lt0) trodAll_mk0), rfl, bel.frame _, fun h => by cases h⟩

theorem proved : Rows.FnShotChainSaid :=
  OpenClaim.holds_of_wide 13 Try.f13 rfl rfl rfl rfl rfl rfl rfl ⟨rfl, rfl, rfl, rfl, rfl⟩ rfl rfl rfl rfl rfl (by kernel_rfl) Try.func13 (by kernel_rfl)
    (of_decide_eq_true (by kernel_rfl)) (by unfold Func.isWrapper; first | (rw [if_pos (by decide +kernel)]; kernel_rfl) | (rw [if_neg (by decide +kernel)]; exact ⟨rfl, rfl⟩))
    (fun os started H enc _ => lifted os started H enc)
#print axioms proved
end Go.Proofs.Ytkjjieofoolnhaa.fnShotChain
