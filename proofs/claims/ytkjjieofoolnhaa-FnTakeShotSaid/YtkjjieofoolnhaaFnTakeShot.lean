/- Proves Rows.FnTakeShotSaid: for every input the law FnTakeShot returns true and leaves its arguments as they were. Conditions: none. -/
import Derived.Test.YtkjjieofoolnhaaOpen
import Derived.Test.YtkjjieofoolnhaaShL
namespace Go.Proofs.Ytkjjieofoolnhaa.fnTakeShot
open Go.ChangeShapes Go.WideShapes Go.ChangeAt Go.RowKit
set_option linter.unusedVariables false
set_option linter.unusedSimpArgs false in
set_option maxHeartbeats 8000000 in
theorem walk (A : Option Addr) (m cp : Nat) (w : World) (hb : BytesIn w A m) (hmc : m ≤ cp) (hcp : cp ≤ 9223372036854775807) :
    Calls Try.prog 9 #[.slice A m cp] w fun e w' => e = .returned (.bool true) ∧ Below w.heap.size w w' := by
  by_cases hbig : 1048576 < m
  · go_enter Try.func9, Try.ntmps9
    go_wp2
    go_ret
    exact ⟨rfl, Below.refl _ _⟩
  go_enter Try.func9, Try.ntmps9
  go_wp2_with fail
  refine (drawTS_any A m cp w hb hmc hcp).mono ?_
  rintro e w1 ⟨v, N, S, rfl, hv, lN, lS, b1⟩
  have HV := Lib.hid hv
  obtain ⟨A1, c1, B1, d1, rfl, _⟩ := hv
  have V1 := Lib.hid (HV.out.alloc (.cells #[.slice A1 N.length c1, .slice B1 S.length d1] 29))
  have K1 := Lib.hid (show Blk (w1.alloc (.cells #[.slice A1 N.length c1, .slice B1 S.length d1] 29)) w1.heap.size 29 #[.slice A1 N.length c1, .slice B1 S.length d1] from Blk.new rfl)
  have C1 := Lib.hid (b_alloc b1 (.cells #[.slice A1 N.length c1, .slice B1 S.length d1] 29))
  clear HV hb b1
  obtain ⟨R, hR⟩ : ∃ R, R = takeN N S := ⟨_, rfl⟩
  obtain ⟨Q, hQ⟩ : ∃ Q, Q = takeS N S := ⟨_, rfl⟩
  obtain ⟨t, ht⟩ : ∃ t, t = takeB N S := ⟨_, rfl⟩
  have hRl : R.length ≤ 70 ∧ Q.length + sumN Q ≤ 41 := by rw [hR, hQ]; have := take_len N S; omega
  have HR := Lib.hid hR
  have HQ := Lib.hid hQ
  have HT := Lib.hid ht
  have kb : (t != t) = false := by simp
  clear hR hQ ht
  go_wp2_with fail
  refine (implTake_any _ N S _ V1.out (by omega) (by omega)).mono ?_
  unfold TakePost
  rw [← HR.out, ← HQ.out, ← HT.out]
  rintro e w2 ⟨v2, rfl, o2, b2⟩
  have V2 := Lib.hid ((V1.out.below b2))
  have K2 := Lib.hid (blk_below b2 K1.out K1.out.lt)
  have C2 := Lib.hid (C1.out.trans (b2.mono C1.out.size))
  have X2 := Lib.hid o2.read
  clear o2 b2 V1 K1 C1
  obtain ⟨A2, c2, B2, d2, rfl, _⟩ := X2.out
  have V3 := Lib.hid (V2.out.alloc (.cells #[.slice A2 R.length c2, .slice B2 Q.length d2] 29))
  have K3 := Lib.hid (K2.out.alloc (.cells #[.slice A2 R.length c2, .slice B2 Q.length d2] 29))
  have C3 := Lib.hid (b_alloc C2.out (.cells #[.slice A2 R.length c2, .slice B2 Q.length d2] 29))
  have X3 := Lib.hid (X2.out.alloc (.cells #[.slice A2 R.length c2, .slice B2 Q.length d2] 29))
  have L3 := Lib.hid (show Blk (w2.alloc (.cells #[.slice A2 R.length c2, .slice B2 Q.length d2] 29)) w2.heap.size 29 #[.slice A2 R.length c2, .slice B2 Q.length d2] from Blk.new rfl)
  clear V2 K2 C2 X2
  obtain ⟨x0, x1, _, _⟩ := K3.out.two
  go_wp2_with fail
  refine (specTake_any _ N S _ V3.out (by omega) (by omega)).mono ?_
  unfold TakePost
  rw [← HR.out, ← HQ.out, ← HT.out]
  rintro e w4 ⟨v4, rfl, o4, b4⟩
  have Y4 := Lib.hid o4.read
  obtain ⟨A4, c4, B4, d4, rfl, _⟩ := Y4.out
  have V5 := Lib.hid ((V3.out.below b4).alloc (.cells #[.slice A4 R.length c4, .slice B4 Q.length d4] 29))
  have K5 := Lib.hid ((blk_below b4 K3.out K3.out.lt).alloc (.cells #[.slice A4 R.length c4, .slice B4 Q.length d4] 29))
  have L5 := Lib.hid ((blk_below b4 L3.out L3.out.lt).alloc (.cells #[.slice A4 R.length c4, .slice B4 Q.length d4] 29))
  have C5 := Lib.hid (b_alloc (C3.out.trans (b4.mono C3.out.size)) (.cells #[.slice A4 R.length c4, .slice B4 Q.length d4] 29))
  have X5 := Lib.hid ((X3.out.below b4).alloc (.cells #[.slice A4 R.length c4, .slice B4 Q.length d4] 29))
  have Y5 := Lib.hid (Y4.out.alloc (.cells #[.slice A4 R.length c4, .slice B4 Q.length d4] 29))
  have M5 := Lib.hid (show Blk (w4.alloc (.cells #[.slice A4 R.length c4, .slice B4 Q.length d4] 29)) w4.heap.size 29 #[.slice A4 R.length c4, .slice B4 Q.length d4] from Blk.new rfl)
  clear o4 b4 V3 K3 C3 X3 L3 Y4 x0 x1
  obtain ⟨x0, x1, _, _⟩ := L5.out.two
  obtain ⟨y0, y1, _, _⟩ := M5.out.two
  go_wp2_with fail
  refine (sameVol_same _ _ R Q _ X5.out Y5.out (by omega) (by omega)).mono ?_
  rintro e w6 ⟨rfl, b6⟩
  have V6 := Lib.hid (V5.out.below b6)
  have K6 := Lib.hid (blk_below b6 K5.out K5.out.lt)
  have L6 := Lib.hid (blk_below b6 L5.out L5.out.lt)
  have C6 := Lib.hid (C5.out.trans (b6.mono C5.out.size))
  have X6 := Lib.hid (X5.out.below b6)
  clear b6 V5 K5 L5 C5 X5 Y5 M5 x0 x1 y0 y1
  obtain ⟨g3, hg3⟩ : ∃ g, g = w1.heap.size := ⟨_, rfl⟩
  obtain ⟨g4, hg4⟩ : ∃ g, g = w2.heap.size := ⟨_, rfl⟩
  rw [← hg3] at K6 ⊢
  rw [← hg4] at L6 ⊢
  clear hg3 hg4
  obtain ⟨x0, x1, _, _⟩ := L6.out.two
  obtain ⟨y0, y1, _, _⟩ := K6.out.two
  cases hvb : volB N S
  · have e1 : R = [] := by rw [HR.out]; unfold takeN; rw [hvb]; rfl
    have e2 : Q = [] := by rw [HQ.out]; unfold takeS; rw [hvb]; rfl
    have e3 : t = false := by rw [HT.out]; unfold takeB; rw [hvb]; rfl
    subst e1 e2 e3
    go_wp2_with fail
    refine (sameVol_zero _ _ N S _ X6.out V6.out (by omega)).mono ?_
    rintro e w7 ⟨t, rfl, b7⟩
    have V7 := Lib.hid (V6.out.below b7)
    have K7 := Lib.hid (blk_below b7 K6.out K6.out.lt)
    have L7 := Lib.hid (blk_below b7 L6.out L6.out.lt)
    have C7 := Lib.hid (C6.out.trans (b7.mono C6.out.size))
    clear b7 V6 K6 L6 C6 X6 x0 x1 y0 y1
    obtain ⟨y0, y1, _, _⟩ := K7.out.two
    cases t
    · go_wp2_with fail
      refine (specVol_any _ N S _ V7.out (by omega) (by omega)).mono ?_
      rintro e w8 ⟨rfl, b8⟩
      rw [hvb]
      obtain ⟨x0, x1, _, _⟩ := (blk_below b8 L7.out L7.out.lt).two
      have C8 := Lib.hid (C7.out.trans (b8.mono C7.out.size))
      clear b8 y0 y1
      go_wp2_with fail
      refine (alive_any _).mono ?_
      rintro e w9 ⟨rfl, b9⟩
      have C9 := Lib.hid (C8.out.trans (b9.mono C8.out.size))
      clear b9
      go_wp2
      go_ret
      exact ⟨rfl, C9.out⟩
    · go_wp2_with fail
      refine (alive_any _).mono ?_
      rintro e w9 ⟨rfl, b9⟩
      have C9 := Lib.hid (C7.out.trans (b9.mono C7.out.size))
      clear b9
      go_wp2
      go_ret
      exact ⟨rfl, C9.out⟩
  by_cases h5 : S.length = 5
  · have e1 : R = N := by rw [HR.out]; unfold takeN; rw [hvb]; rfl
    have e2 : Q = S := by rw [HQ.out]; unfold takeS; rw [hvb, if_pos h5]; rfl
    have e3 : t = false := by rw [HT.out]; unfold takeB; rw [hvb, h5]; rfl
    subst e1 e2 e3
    clear h5
    go_wp2_with fail
    refine (sameVol_same _ _ R Q _ X6.out V6.out (by omega) (by omega)).mono ?_
    rintro e w7 ⟨rfl, b7⟩
    have C7 := Lib.hid (C6.out.trans (b7.mono C6.out.size))
    clear b7
    go_wp2_with fail
    refine (alive_any _).mono ?_
    rintro e w9 ⟨rfl, b9⟩
    have C9 := Lib.hid (C7.out.trans (b9.mono C7.out.size))
    clear b9
    go_wp2
    go_ret
    exact ⟨rfl, C9.out⟩
  obtain ⟨_, hS5, _⟩ := vol_iff.1 hvb
  have hlt5 : S.length < 5 := by omega
  have e1 : R = N := by rw [HR.out]; unfold takeN; rw [hvb]; rfl
  have e2 : Q = S ++ [[]] := by rw [HQ.out]; unfold takeS; rw [hvb, if_neg h5]; rfl
  have e3 : t = true := by rw [HT.out]; unfold takeB; rw [hvb]; simp [h5]
  subst e3
  clear HR HQ HT
  subst e1 e2
  have hQl : (S ++ [[]]).length = S.length + 1 := by simp
  have HV0 := Lib.hid hvb
  have hsp := Lib.hid (fun (k : Nat) (hk : k < S.length) => take_view hvb hlt5 hk)
  have hsn := Lib.hid (take_new hvb hlt5)
  rw [hQl] at X6 L6 x1 ⊢
  obtain ⟨N, hN⟩ : ∃ N, N = R := ⟨_, rfl⟩
  subst hN
  clear h5 hvb hRl hQl
  go_wp2
  go_loopw [8] (fun x wr => ∃ k : Nat, k ≤ S.length ∧ x = .int .i64 k ∧ Hid (Below w6.heap.size w6 wr)) (fun x _ => S.length - (intOf x).toNat)
  case atStart => exact ⟨0, Nat.zero_le _, rfl, Lib.hid (Below.refl _ _)⟩
  case round =>
    clear x0 x1 y0 y1
    obtain ⟨k, hk, rfl, B0⟩ := hrel
    have KK := blk_below B0.out K6.out K6.out.lt
    have LL := blk_below B0.out L6.out L6.out.lt
    have HS := Lib.hid (fun (u : World) (hu : Below wr.heap.size wr u) => boxes_at KK LL u hu)
    have HVV := Lib.hid (V6.out.below B0.out)
    have HXX := Lib.hid (X6.out.below B0.out)
    obtain ⟨x0, x1, y0, y1⟩ := HS.out wr (Below.refl _ _)
    clear KK LL
    by_cases hlt : k < S.length
    · have hxl := shotV_len N S k
      have htv := hsp.out k hlt
      have HC1 := Lib.hid (fun (u : World) (hu : Below wr.heap.size wr u) => implShot_any _ N (S ++ [[]]) k u (HXX.out.below hu) (by omega) (by rw [sumN_append]; simp [sumN]; omega) (by omega))
      have HC2 := Lib.hid (fun (u : World) (hu : Below wr.heap.size wr u) => implShot_any _ N S k u (HVV.out.below hu) (by omega) (by omega) (by omega))
      simp only [htv] at HC1
      obtain ⟨X, hX⟩ : ∃ X, X = shotV N S k := ⟨_, rfl⟩
      rw [← hX] at HC1 HC2 hxl
      clear hX htv
      go_wp2
      refine wp_region_Z (fun w' : World => w'.cell? ⟨g3, 0, none⟩ = some (.slice A1 N.length c1) ∧ w'.cell? ⟨g3, 1, none⟩ = some (.slice B1 S.length d1) ∧ w'.cell? ⟨g4, 0, none⟩ = some (.slice A2 N.length c2) ∧ w'.cell? ⟨g4, 1, none⟩ = some (.slice B2 (S.length + 1) d2)) 99 (by kernel_rfl) ?_
      generalize hv0 : wr.drew = u0
      have BB := Lib.hid (show Below wr.heap.size wr u0 by rw [← hv0]; exact (Below.refl _ _).drew)
      clear hv0
      refine wpAnyZ_take (i := 0) (oi := ?o1) (v := ?v1) ?hi1 (by kernel_rfl) (by kernel_rfl) (by kernel_rfl) (by kernel_rfl) ?hq1 ?hy1 (HS.out _ BB.out) ?rest1
      case hi1 => simp only [List.getElem?_toArray, List.getElem?_cons_succ, List.getElem?_cons_zero]; rfl
      case hq1 => exact fun _ _ _ h => h
      case hy1 => (refine Or.inl ⟨by rfl, ?_⟩; intro w hSw; (try dsimp only at hSw); go_simp; (try with_reducible rfl))
      simp only [Act.put, List.setIfInBounds_toArray, List.set_cons_zero, List.set_cons_succ]
      refine wpAnyZ_take (i := 1) (oi := ?o2) (v := ?v2) ?hi2 (by kernel_rfl) (by kernel_rfl) (by kernel_rfl) (by kernel_rfl) ?hq2 ?hy2 (HS.out _ BB.out) ?rest2
      case hi2 => simp only [List.getElem?_toArray, List.getElem?_cons_succ, List.getElem?_cons_zero]; rfl
      case hq2 => exact fun _ _ _ h => h
      case hy2 => (refine Or.inl ⟨by rfl, ?_⟩; intro w hSw; (try dsimp only at hSw); go_simp; (try with_reducible rfl))
      simp only [Act.put, List.setIfInBounds_toArray, List.set_cons_zero, List.set_cons_succ]
      refine wpAnyZ_take (i := 3) (oi := ?o3) (v := ?v3) ?hi3 (by kernel_rfl) (by kernel_rfl) (by kernel_rfl) (by kernel_rfl) ?hq3 ?hy3 (HS.out _ BB.out) ?rest3
      case hi3 => simp only [List.getElem?_toArray, List.getElem?_cons_succ, List.getElem?_cons_zero]; rfl
      case hq3 => exact fun _ _ _ h => h
      case hy3 => (refine Or.inl ⟨by rfl, ?_⟩; intro w hSw; (try dsimp only at hSw); go_simp; (try with_reducible rfl))
      simp only [Act.put, List.setIfInBounds_toArray, List.set_cons_zero, List.set_cons_succ]
      refine wpAnyZ_take (i := 4) (oi := ?o4) (v := ?v4) ?hi4 (by kernel_rfl) (by kernel_rfl) (by kernel_rfl) (by kernel_rfl) ?hq4 ?hy4 (HS.out _ BB.out) ?rest4
      case hi4 => simp only [List.getElem?_toArray, List.getElem?_cons_succ, List.getElem?_cons_zero]; rfl
      case hq4 => exact fun _ _ _ h => h
      case hy4 => (refine Or.inl ⟨by rfl, ?_⟩; intro w hSw; (try dsimp only at hSw); go_simp; (try with_reducible rfl))
      simp only [Act.put, List.setIfInBounds_toArray, List.set_cons_zero, List.set_cons_succ]
      refine wpAnyZ_one (i := 2) (o := ?o5) (by kernel_rfl) ?hi5 (fun K hK => ?rest5)
      case hi5 => simp only [List.getElem?_toArray, List.getElem?_cons_succ, List.getElem?_cons_zero]; rfl
      go_simp
      refine (HC1.out _ BB.out).mono ?_
      rintro e u1 ⟨A1, c1, rfl, o1, b1⟩
      (try dsimp only)
      have BBn := BB.out.trans (b1.mono BB.out.size)
      refine hK.out _ _ (.inr (HS.out _ BBn)) ?_
      clear hK K
      (try simp only [Act.put, List.setIfInBounds_toArray, List.set_cons_zero, List.set_cons_succ])
      have P1 := Lib.hid (own_read o1)
      clear o1 b1
      clear BB
      have BB := Lib.hid BBn
      clear BBn
      refine wpAnyZ_one (i := 5) (o := ?o6) (by kernel_rfl) ?hi6 (fun K hK => ?rest6)
      case hi6 => simp only [List.getElem?_toArray, List.getElem?_cons_succ, List.getElem?_cons_zero]; rfl
      go_simp
      refine (HC2.out _ BB.out).mono ?_
      rintro e u2 ⟨A2, c2, rfl, o2, b2⟩
      (try dsimp only)
      have BBn := BB.out.trans (b2.mono BB.out.size)
      refine hK.out _ _ (.inr (HS.out _ BBn)) ?_
      clear hK K
      (try simp only [Act.put, List.setIfInBounds_toArray, List.set_cons_zero, List.set_cons_succ])
      have P2 := Lib.hid (own_read o2)
      have P1n := Lib.hid (P1.out.keep b2.block)
      clear P1 o2 b2
      have P1 := P1n
      clear P1n
      clear BB
      have BB := Lib.hid BBn
      clear BBn
      refine wpAnyZ_one (i := 6) (o := ?o7) (by kernel_rfl) ?hi7 (fun K hK => ?rest7)
      case hi7 => simp only [List.getElem?_toArray, List.getElem?_cons_succ, List.getElem?_cons_zero]; rfl
      have hsame := Lib.hid (same_b A1 A2 c1 c2 X u2 (IntsIn.of P1.out) (IntsIn.of P2.out) (by omega))
      clear P1 P2
      go_simp
      refine (hsame.out).mono ?_
      rintro e u3 ⟨rfl, b3⟩
      (try dsimp only)
      have BBn := BB.out.trans (b3.mono BB.out.size)
      refine hK.out _ _ (.inr (HS.out _ BBn)) ?_
      clear hK K
      (try simp only [Act.put, List.setIfInBounds_toArray, List.set_cons_zero, List.set_cons_succ])
      clear b3 hsame
      clear BB
      have BB := Lib.hid BBn
      clear BBn
      refine wpAnyZ_take (i := 7) (oi := ?o8) (v := ?v8) ?hi8 (by kernel_rfl) (by kernel_rfl) (by kernel_rfl) (by kernel_rfl) ?hq8 ?hy8 (HS.out _ BB.out) ?rest8
      case hi8 => simp only [List.getElem?_toArray, List.getElem?_cons_succ, List.getElem?_cons_zero]; rfl
      case hq8 => exact fun _ _ _ h => h
      case hy8 => (refine Or.inl ⟨by rfl, ?_⟩; intro w hSw; (try dsimp only at hSw); go_simp; (try with_reducible rfl))
      simp only [Act.put, List.setIfInBounds_toArray, List.set_cons_zero, List.set_cons_succ]
      refine wpAnyZ_done (by kernel_rfl) ?_ _
      have B1 := Lib.hid (B0.out.trans (BB.out.mono B0.out.size))
      clear BB B0 HC1 HC2 HVV HXX HS x0 x1 y0 y1
      go_wp2
      go_roundw
      case rel => exact ⟨k + 1, by omega, by go_num, B1⟩
      case measure => simp [intOf]; omega
    have HC1 := Lib.hid (fun (u : World) (hu : Below wr.heap.size wr u) => implShot_any _ N (S ++ [[]]) S.length u (HXX.out.below hu) (by omega) (by rw [sumN_append]; simp [sumN]; omega) (by omega))
    simp only [hsn.out] at HC1
    have HNI := Lib.hid (fun (u : World) (hu : Below wr.heap.size wr u) => vol_ints (HVV.out.below hu))
    have HNX := Lib.hid (fun (u : World) (hu : Below wr.heap.size wr u) => vol_ints (HXX.out.below hu))
    go_wp2
    refine wp_region_Z (fun w' : World => w'.cell? ⟨g3, 0, none⟩ = some (.slice A1 N.length c1) ∧ w'.cell? ⟨g3, 1, none⟩ = some (.slice B1 S.length d1) ∧ w'.cell? ⟨g4, 0, none⟩ = some (.slice A2 N.length c2) ∧ w'.cell? ⟨g4, 1, none⟩ = some (.slice B2 (S.length + 1) d2)) 99 (by kernel_rfl) ?_
    generalize hv0 : wr.drew = u0
    have BB := Lib.hid (show Below wr.heap.size wr u0 by rw [← hv0]; exact (Below.refl _ _).drew)
    clear hv0
    refine wpAnyZ_take (i := 0) (oi := ?o9) (v := ?v9) ?hi9 (by kernel_rfl) (by kernel_rfl) (by kernel_rfl) (by kernel_rfl) ?hq9 ?hy9 (HS.out _ BB.out) ?rest9
    case hi9 => simp only [List.getElem?_toArray, List.getElem?_cons_succ, List.getElem?_cons_zero]; rfl
    case hq9 => exact fun _ _ _ h => h
    case hy9 => (refine Or.inl ⟨by rfl, ?_⟩; intro w hSw; (try dsimp only at hSw); go_simp; (try with_reducible rfl))
    simp only [Act.put, List.setIfInBounds_toArray, List.set_cons_zero, List.set_cons_succ]
    refine wpAnyZ_take (i := 1) (oi := ?o10) (v := ?v10) ?hi10 (by kernel_rfl) (by kernel_rfl) (by kernel_rfl) (by kernel_rfl) ?hq10 ?hy10 (HS.out _ BB.out) ?rest10
    case hi10 => simp only [List.getElem?_toArray, List.getElem?_cons_succ, List.getElem?_cons_zero]; rfl
    case hq10 => exact fun _ _ _ h => h
    case hy10 => (refine Or.inl ⟨by rfl, ?_⟩; intro w hSw; (try dsimp only at hSw); go_simp; (try with_reducible rfl))
    simp only [Act.put, List.setIfInBounds_toArray, List.set_cons_zero, List.set_cons_succ]
    refine wpAnyZ_take (i := 2) (oi := ?o11) (v := ?v11) ?hi11 (by kernel_rfl) (by kernel_rfl) (by kernel_rfl) (by kernel_rfl) ?hq11 ?hy11 (HS.out _ BB.out) ?rest11
    case hi11 => simp only [List.getElem?_toArray, List.getElem?_cons_succ, List.getElem?_cons_zero]; rfl
    case hq11 => exact fun _ _ _ h => h
    case hy11 => (refine Or.inl ⟨by rfl, ?_⟩; intro w hSw; (try dsimp only at hSw); go_simp; (try with_reducible rfl))
    simp only [Act.put, List.setIfInBounds_toArray, List.set_cons_zero, List.set_cons_succ]
    refine wpAnyZ_take (i := 3) (oi := ?o12) (v := ?v12) ?hi12 (by kernel_rfl) (by kernel_rfl) (by kernel_rfl) (by kernel_rfl) ?hq12 ?hy12 (HS.out _ BB.out) ?rest12
    case hi12 => simp only [List.getElem?_toArray, List.getElem?_cons_succ, List.getElem?_cons_zero]; rfl
    case hq12 => exact fun _ _ _ h => h
    case hy12 => (refine Or.inl ⟨by rfl, ?_⟩; intro w hSw; (try dsimp only at hSw); go_simp; (try with_reducible rfl))
    simp only [Act.put, List.setIfInBounds_toArray, List.set_cons_zero, List.set_cons_succ]
    refine wpAnyZ_take (i := 5) (oi := ?o13) (v := ?v13) ?hi13 (by kernel_rfl) (by kernel_rfl) (by kernel_rfl) (by kernel_rfl) ?hq13 ?hy13 (HS.out _ BB.out) ?rest13
    case hi13 => simp only [List.getElem?_toArray, List.getElem?_cons_succ, List.getElem?_cons_zero]; rfl
    case hq13 => exact fun _ _ _ h => h
    case hy13 => (refine Or.inl ⟨by rfl, ?_⟩; intro w hSw; (try dsimp only at hSw); go_simp; (try with_reducible rfl))
    simp only [Act.put, List.setIfInBounds_toArray, List.set_cons_zero, List.set_cons_succ]
    refine wpAnyZ_take (i := 6) (oi := ?o14) (v := ?v14) ?hi14 (by kernel_rfl) (by kernel_rfl) (by kernel_rfl) (by kernel_rfl) ?hq14 ?hy14 (HS.out _ BB.out) ?rest14
    case hi14 => simp only [List.getElem?_toArray, List.getElem?_cons_succ, List.getElem?_cons_zero]; rfl
    case hq14 => exact fun _ _ _ h => h
    case hy14 => (refine Or.inl ⟨by rfl, ?_⟩; intro w hSw; (try dsimp only at hSw); go_simp; (try with_reducible rfl))
    simp only [Act.put, List.setIfInBounds_toArray, List.set_cons_zero, List.set_cons_succ]
    refine wpAnyZ_one (i := 4) (o := ?o15) (by kernel_rfl) ?hi15 (fun K hK => ?rest15)
    case hi15 => simp only [List.getElem?_toArray, List.getElem?_cons_succ, List.getElem?_cons_zero]; rfl
    go_simp
    refine (HC1.out _ BB.out).mono ?_
    rintro e u1 ⟨A5, c5, rfl, o1, b1⟩
    (try dsimp only)
    have BBn := BB.out.trans (b1.mono BB.out.size)
    refine hK.out _ _ (.inr (HS.out _ BBn)) ?_
    clear hK K
    (try simp only [Act.put, List.setIfInBounds_toArray, List.set_cons_zero, List.set_cons_succ])
    have P1 := Lib.hid (own_read o1)
    clear o1 b1
    clear BB
    have BB := Lib.hid BBn
    clear BBn
    refine wpAnyZ_one (i := 7) (o := ?o16) (by kernel_rfl) ?hi16 (fun K hK => ?rest16)
    case hi16 => simp only [List.getElem?_toArray, List.getElem?_cons_succ, List.getElem?_cons_zero]; rfl
    have hsame := Lib.hid (same_b A5 A1 c5 c1 N u1 (IntsIn.of P1.out) (HNI.out _ BB.out) (by omega))
    clear P1
    go_simp
    refine (hsame.out).mono ?_
    rintro e u2 ⟨rfl, b2⟩
    (try dsimp only)
    have BBn := BB.out.trans (b2.mono BB.out.size)
    refine hK.out _ _ (.inr (HS.out _ BBn)) ?_
    clear hK K
    (try simp only [Act.put, List.setIfInBounds_toArray, List.set_cons_zero, List.set_cons_succ])
    clear b2 hsame
    clear BB
    have BB := Lib.hid BBn
    clear BBn
    refine wpAnyZ_take (i := 8) (oi := ?o17) (v := ?v17) ?hi17 (by kernel_rfl) (by kernel_rfl) (by kernel_rfl) (by kernel_rfl) ?hq17 ?hy17 (HS.out _ BB.out) ?rest17
    case hi17 => simp only [List.getElem?_toArray, List.getElem?_cons_succ, List.getElem?_cons_zero]; rfl
    case hq17 => exact fun _ _ _ h => h
    case hy17 => (refine Or.inl ⟨by rfl, ?_⟩; intro w hSw; (try dsimp only at hSw); go_simp; (try with_reducible rfl))
    simp only [Act.put, List.setIfInBounds_toArray, List.set_cons_zero, List.set_cons_succ]
    refine wpAnyZ_take (i := 9) (oi := ?o18) (v := ?v18) ?hi18 (by kernel_rfl) (by kernel_rfl) (by kernel_rfl) (by kernel_rfl) ?hq18 ?hy18 (HS.out _ BB.out) ?rest18
    case hi18 => simp only [List.getElem?_toArray, List.getElem?_cons_succ, List.getElem?_cons_zero]; rfl
    case hq18 => exact fun _ _ _ h => h
    case hy18 => (refine Or.inl ⟨by rfl, ?_⟩; intro w hSw; (try dsimp only at hSw); go_simp; (try with_reducible rfl))
    simp only [Act.put, List.setIfInBounds_toArray, List.set_cons_zero, List.set_cons_succ]
    refine wpAnyZ_take (i := 10) (oi := ?o19) (v := ?v19) ?hi19 (by kernel_rfl) (by kernel_rfl) (by kernel_rfl) (by kernel_rfl) ?hq19 ?hy19 (HS.out _ BB.out) ?rest19
    case hi19 => simp only [List.getElem?_toArray, List.getElem?_cons_succ, List.getElem?_cons_zero]; rfl
    case hq19 => exact fun _ _ _ h => h
    case hy19 => (refine Or.inl ⟨by rfl, ?_⟩; intro w hSw; (try dsimp only at hSw); go_simp; (try with_reducible rfl))
    simp only [Act.put, List.setIfInBounds_toArray, List.set_cons_zero, List.set_cons_succ]
    refine wpAnyZ_take (i := 11) (oi := ?o20) (v := ?v20) ?hi20 (by kernel_rfl) (by kernel_rfl) (by kernel_rfl) (by kernel_rfl) ?hq20 ?hy20 (HS.out _ BB.out) ?rest20
    case hi20 => simp only [List.getElem?_toArray, List.getElem?_cons_succ, List.getElem?_cons_zero]; rfl
    case hq20 => exact fun _ _ _ h => h
    case hy20 => (refine Or.inl ⟨by rfl, ?_⟩; intro w hSw; (try dsimp only at hSw); go_simp; (try with_reducible rfl))
    simp only [Act.put, List.setIfInBounds_toArray, List.set_cons_zero, List.set_cons_succ]
    refine wpAnyZ_take (i := 12) (oi := ?o21) (v := ?v21) ?hi21 (by kernel_rfl) (by kernel_rfl) (by kernel_rfl) (by kernel_rfl) ?hq21 ?hy21 (HS.out _ BB.out) ?rest21
    case hi21 => simp only [List.getElem?_toArray, List.getElem?_cons_succ, List.getElem?_cons_zero]; rfl
    case hq21 => exact fun _ _ _ h => h
    case hy21 => (refine Or.inl ⟨by rfl, ?_⟩; intro w hSw; (try dsimp only at hSw); go_simp; (try with_reducible rfl))
    simp only [Act.put, List.setIfInBounds_toArray, List.set_cons_zero, List.set_cons_succ]
    refine wpAnyZ_one (i := 13) (o := ?o22) (by kernel_rfl) ?hi22 (fun K hK => ?rest22)
    case hi22 => simp only [List.getElem?_toArray, List.getElem?_cons_succ, List.getElem?_cons_zero]; rfl
    have hsame := Lib.hid (same_b A2 A1 c2 c1 N u2 (HNX.out _ BB.out) (HNI.out _ BB.out) (by omega))
    go_simp
    refine (hsame.out).mono ?_
    rintro e u3 ⟨rfl, b3⟩
    (try dsimp only)
    have BBn := BB.out.trans (b3.mono BB.out.size)
    refine hK.out _ _ (.inr (HS.out _ BBn)) ?_
    clear hK K
    (try simp only [Act.put, List.setIfInBounds_toArray, List.set_cons_zero, List.set_cons_succ])
    clear b3 hsame
    clear BB
    have BB := Lib.hid BBn
    clear BBn
    refine wpAnyZ_take (i := 14) (oi := ?o23) (v := ?v23) ?hi23 (by kernel_rfl) (by kernel_rfl) (by kernel_rfl) (by kernel_rfl) ?hq23 ?hy23 (HS.out _ BB.out) ?rest23
    case hi23 => simp only [List.getElem?_toArray, List.getElem?_cons_succ, List.getElem?_cons_zero]; rfl
    case hq23 => exact fun _ _ _ h => h
    case hy23 => (refine Or.inl ⟨by rfl, ?_⟩; intro w hSw; (try dsimp only at hSw); go_simp; (try with_reducible rfl))
    simp only [Act.put, List.setIfInBounds_toArray, List.set_cons_zero, List.set_cons_succ]
    refine wpAnyZ_take (i := 15) (oi := ?o24) (v := ?v24) ?hi24 (by kernel_rfl) (by kernel_rfl) (by kernel_rfl) (by kernel_rfl) ?hq24 ?hy24 (HS.out _ BB.out) ?rest24
    case hi24 => simp only [List.getElem?_toArray, List.getElem?_cons_succ, List.getElem?_cons_zero]; rfl
    case hq24 => exact fun _ _ _ h => h
    case hy24 => (refine Or.inl ⟨by rfl, ?_⟩; intro w hSw; (try dsimp only at hSw); go_simp; (try with_reducible rfl))
    simp only [Act.put, List.setIfInBounds_toArray, List.set_cons_zero, List.set_cons_succ]
    refine wpAnyZ_done (by kernel_rfl) ?_ _
    have C9 := Lib.hid (C6.out.trans ((B0.out.trans (BB.out.mono B0.out.size)).mono C6.out.size))
    clear BB B0 HC1 HVV HXX HS x0 x1 y0 y1
    go_wp2
    go_ret
    exact ⟨rfl, C9.out⟩

set_option maxRecDepth 100000 in
theorem lifted (os : Os) (started : os.Started) (H : Type) (enc : TypeId × Value → H) :
    ReturnsInHanded {} Try.checked os 9 .any (Rows.fnTakeShotSpec.pre6 enc Try.prog Try.f9 Rows.fnTakeShotRow.domain false) (Rows.fnTakeShotSpec.post enc Try.prog Try.f9 false true false false) := by
  refine returnsInHanded_of_change (C := Try.checked) own started (by kernel_rfl) Try.func9
    (ChangeSpec.witness6 (enc := enc) (C := Try.checked) false ⟨#[], #[.slice none 0 0], []⟩ 8 (by kernel_rfl) (by kernel_rfl) (by kernel_rfl) (by kernel_rfl)) ?_
  intro W base args ds gs before hval0 hW hcnd _
  have hval : ∀ (j : Nat) t v, Try.f9.params[j]? = some t → args[j]? = some v → Value.okWide Try.prog W .any base t v := hval0
  have hW' := hW
  obtain ⟨p, q, hA0, hV, rfl, hfz, hnd⟩ := hW
  have hA : DataW.TrodAll enc Try.prog W 0 (fun _ => true) true Try.f9.params.toList args.toList ds p := hA0
  rw [Try.params9] at hA hval
  obtain ⟨v0, vs0, d0, ds0, p0, q0, hargs, rfl, rfl, h0, r0⟩ := trodAll_cons hA
  obtain ⟨rfl, rfl, rfl⟩ := trodAll_nil r0
  obtain rfl : args = #[v0] := by cases args; simp_all
  obtain ⟨rfl, rfl⟩ := trodVars_none hV
  have k0 := h0
  have lt0 : ∀ x ∈ p0, x.block < W.heap.size := by obtain ⟨m, hm⟩ := k0; exact DataW.trod_lt m _ _ _ hm
  obtain ⟨a0, n0, c0, rfl, ok0, le0, cl0⟩ := open_bytes (hval 0 40 v0 rfl rfl) h0
  clear hA0 hval0
  refine (walk a0 n0 c0 W ok0 le0 cl0).mono fun e W' ⟨he, bel⟩ => ?_
  subst he
  exact ⟨_, rfl, _, _, _, [], _, [], hW', trodAll_mk1 (shut_bool Try.underlying4 _), (trodAll_cons_mk (Below.trod laidOut (by kernel_rfl) (of_decide_eq_true (by kernel_rfl)) k0 bel lt0) trodAll_mk0), rfl, bel.frame _, fun h => by cases h⟩

theorem proved : Rows.FnTakeShotSaid :=
  OpenClaim.holds_of_wide 9 Try.f9 rfl rfl rfl rfl rfl rfl rfl ⟨rfl, rfl, rfl, rfl, rfl⟩ rfl rfl rfl rfl rfl (by kernel_rfl) Try.func9 (by kernel_rfl)
    (of_decide_eq_true (by kernel_rfl)) (by unfold Func.isWrapper; first | (rw [if_pos (by decide +kernel)]; kernel_rfl) | (rw [if_neg (by decide +kernel)]; exact ⟨rfl, rfl⟩))
    (fun os started H enc _ => lifted os started H enc)
#print axioms proved
end Go.Proofs.Ytkjjieofoolnhaa.fnTakeShot
