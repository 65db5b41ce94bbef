/- Proves Rows.FnVolumeWriteSaid: for every input the law FnVolumeWrite returns true and leaves its arguments as they were. Conditions: none. -/
import Derived.Test.YtkjjieofoolnhaaOpen
import Derived.Test.YtkjjieofoolnhaaShL
import Derived.Test.YtkjjieofoolnhaaWrS
namespace Go.Proofs.Ytkjjieofoolnhaa.fnVolumeWrite
open Go.ChangeShapes Go.WideShapes Go.ChangeAt Go.RowKit
set_option linter.unusedVariables false
theorem lit_ints (u : World) (x : Int) : IntsIn (u.alloc (.cells #[.int .i64 x] 3)) (some ⟨u.heap.size, 0, none⟩) [x] :=
  IntsIn.of (by
    have := read_new1 (w := u) (T := 3) (cs := #[.int .i64 x]) (xs := [.int .i64 x]) rfl
    exact this)
theorem ws_one {N : List Int} {k : Nat} {x : Int} (hk : k < N.length) : N.take k ++ [x] ++ N.drop (k + [x].length) = N.set k x := by
  rw [List.set_eq_take_append_cons_drop, if_pos hk]
  simp
set_option linter.unusedSimpArgs false in
set_option maxHeartbeats 8000000 in
theorem walk (A : Option Addr) (m cp : Nat) (w : World) (hb : BytesIn w A m) (hmc : m ≤ cp) (hcp : cp ≤ 9223372036854775807) :
    Calls Try.prog 10 #[.slice A m cp] w fun e w' => e = .returned (.bool true) ∧ Below w.heap.size w w' := by
  by_cases hbig : 1048576 < m
  · go_enter Try.func10, Try.ntmps10
    go_wp2
    go_ret
    exact ⟨rfl, Below.refl _ _⟩
  go_enter Try.func10, Try.ntmps10
  go_wp2_with fail
  refine (drawVW_any A m cp w hb hmc hcp).mono ?_
  rintro e w1 ⟨v, N, S, n, x, rfl, hv, lN, lS, b1, n0, n1, x0b, x1b⟩
  have hv1 := hv w1 (fun k _ _ => rfl)
  obtain ⟨A1, c1, B1, d1, rfl, _⟩ := hv1
  have V1 := Lib.hid ((hv w1 (fun k _ _ => rfl)).alloc (.cells #[.slice A1 N.length c1, .slice B1 S.length d1] 29))
  have K1 := Lib.hid (show Blk (w1.alloc (.cells #[.slice A1 N.length c1, .slice B1 S.length d1] 29)) w1.heap.size 29 #[.slice A1 N.length c1, .slice B1 S.length d1] from Blk.new rfl)
  have C1 := Lib.hid (b_alloc b1 (.cells #[.slice A1 N.length c1, .slice B1 S.length d1] 29))
  clear hv hb b1
  obtain ⟨R, hR⟩ : ∃ R, R = vwrN N S n x := ⟨_, rfl⟩
  obtain ⟨Q, hQ⟩ : ∃ Q, Q = vwrS N S n x := ⟨_, rfl⟩
  have hRl : R.length ≤ 70 ∧ Q.length + sumN Q ≤ 80 := by rw [hR, hQ]; have := vwr_len N S n x; omega
  have HR := Lib.hid hR
  have HQ := Lib.hid hQ
  clear hR hQ
  go_wp2_with fail
  refine (implVWrite_any _ N S n x _ V1.out (by omega) (by omega) (by omega) (by omega)).mono ?_
  rw [← HR.out, ← HQ.out]
  rintro e w2 ⟨v2, rfl, o2, b2⟩
  have X2 := Lib.hid o2.read
  obtain ⟨A2, c2, B2, d2, rfl, _⟩ := X2.out
  have V3 := Lib.hid ((V1.out.below b2).alloc (.cells #[.slice A2 R.length c2, .slice B2 Q.length d2] 29))
  have K3 := Lib.hid ((blk_below b2 K1.out K1.out.lt).alloc (.cells #[.slice A2 R.length c2, .slice B2 Q.length d2] 29))
  have C3 := Lib.hid (b_alloc (C1.out.trans (b2.mono C1.out.size)) (.cells #[.slice A2 R.length c2, .slice B2 Q.length d2] 29))
  have X3 := Lib.hid (X2.out.alloc (.cells #[.slice A2 R.length c2, .slice B2 Q.length d2] 29))
  have L3 := Lib.hid (show Blk (w2.alloc (.cells #[.slice A2 R.length c2, .slice B2 Q.length d2] 29)) w2.heap.size 29 #[.slice A2 R.length c2, .slice B2 Q.length d2] from Blk.new rfl)
  clear o2 b2 V1 K1 C1 X2
  go_wp2
  generalize hw3 : w2.alloc (.cells #[.slice A2 R.length c2, .slice B2 Q.length d2] 29) = w3 at *
  clear hw3
  obtain ⟨g3, hg3⟩ : ∃ g, g = w1.heap.size := ⟨_, rfl⟩
  obtain ⟨g6, hg6⟩ : ∃ g, g = w2.heap.size := ⟨_, rfl⟩
  rw [← hg3] at K3 ⊢
  rw [← hg6] at L3 ⊢
  clear hg3 hg6
  have HS := Lib.hid (fun (u : World) (hu : Below w3.heap.size w3 u) => boxes_at K3.out L3.out u hu)
  have HSP := Lib.hid (fun (u : World) (hu : Below w3.heap.size w3 u) => show Calls Try.prog 21 #[.agg #[.slice A1 N.length c1, .slice B1 S.length d1], .int .i64 n, .int .i64 x] u (ToVolPost R Q u) by
    have := specVWrite_any _ N S n x u (V3.out.below hu) (by omega) (by omega) (by omega) (by omega)
    rw [← HR.out, ← HQ.out] at this
    exact this)
  have HXX := Lib.hid (fun (u : World) (hu : Below w3.heap.size w3 u) => X3.out.below hu)
  refine wp_region_Z (fun w' : World => w'.cell? ⟨g3, 0, none⟩ = some (.slice A1 N.length c1) ∧ w'.cell? ⟨g3, 1, none⟩ = some (.slice B1 S.length d1) ∧ w'.cell? ⟨g6, 0, none⟩ = some (.slice A2 R.length c2) ∧ w'.cell? ⟨g6, 1, none⟩ = some (.slice B2 Q.length d2)) 99 (by kernel_rfl) ?_
  generalize hv0 : w3.drew = u0
  have BB := Lib.hid (show Below w3.heap.size w3 u0 by rw [← hv0]; exact (Below.refl _ _).drew)
  clear hv0
  refine wpAnyZ_take (i := 0) (oi := ?o1) (v := ?v1) ?hi1 (by kernel_rfl) (by kernel_rfl) (by kernel_rfl) (by kernel_rfl) ?hq1 ?hy1 (HS.out _ BB.out) ?rest1
  case hi1 => simp only [List.getElem?_toArray, List.getElem?_cons_succ, List.getElem?_cons_zero]; rfl
  case hq1 => exact fun _ _ _ h => h
  case hy1 => (refine Or.inl ⟨by rfl, ?_⟩; intro w hSw; (try dsimp only at hSw); go_simp; (try with_reducible rfl))
  simp only [Act.put, List.setIfInBounds_toArray, List.set_cons_zero, List.set_cons_succ]
  refine wpAnyZ_take (i := 1) (oi := ?o2) (v := ?v2) ?hi2 (by kernel_rfl) (by kernel_rfl) (by kernel_rfl) (by kernel_rfl) ?hq2 ?hy2 (HS.out _ BB.out) ?rest2
  case hi2 => simp only [List.getElem?_toArray, List.getElem?_cons_succ, List.getElem?_cons_zero]; rfl
  case hq2 => exact fun _ _ _ h => h
  case hy2 => (refine Or.inl ⟨by rfl, ?_⟩; intro w hSw; (try dsimp only at hSw); go_simp; (try with_reducible rfl))
  simp only [Act.put, List.setIfInBounds_toArray, List.set_cons_zero, List.set_cons_succ]
  refine wpAnyZ_take (i := 2) (oi := ?o3) (v := ?v3) ?hi3 (by kernel_rfl) (by kernel_rfl) (by kernel_rfl) (by kernel_rfl) ?hq3 ?hy3 (HS.out _ BB.out) ?rest3
  case hi3 => simp only [List.getElem?_toArray, List.getElem?_cons_succ, List.getElem?_cons_zero]; rfl
  case hq3 => exact fun _ _ _ h => h
  case hy3 => (refine Or.inl ⟨by rfl, ?_⟩; intro w hSw; (try dsimp only at hSw); go_simp; (try with_reducible rfl))
  simp only [Act.put, List.setIfInBounds_toArray, List.set_cons_zero, List.set_cons_succ]
  refine wpAnyZ_take (i := 3) (oi := ?o4) (v := ?v4) ?hi4 (by kernel_rfl) (by kernel_rfl) (by kernel_rfl) (by kernel_rfl) ?hq4 ?hy4 (HS.out _ BB.out) ?rest4
  case hi4 => simp only [List.getElem?_toArray, List.getElem?_cons_succ, List.getElem?_cons_zero]; rfl
  case hq4 => exact fun _ _ _ h => h
  case hy4 => (refine Or.inl ⟨by rfl, ?_⟩; intro w hSw; (try dsimp only at hSw); go_simp; (try with_reducible rfl))
  simp only [Act.put, List.setIfInBounds_toArray, List.set_cons_zero, List.set_cons_succ]
  refine wpAnyZ_one (i := 4) (o := ?o5) (by kernel_rfl) ?hi5 (fun K hK => ?rest5)
  case hi5 => simp only [List.getElem?_toArray, List.getElem?_cons_succ, List.getElem?_cons_zero]; rfl
  go_simp
  refine (HSP.out _ BB.out).mono ?_
  rintro e u1 ⟨v4, rfl, o4, b4⟩
  (try dsimp only)
  have BBn := BB.out.trans (b4.mono BB.out.size)
  refine hK.out _ _ (.inr (HS.out _ BBn)) ?_
  clear hK K
  (try simp only [Act.put, List.setIfInBounds_toArray, List.set_cons_zero, List.set_cons_succ])
  have Y4 := Lib.hid o4.read
  obtain ⟨A4, c4, B4, d4, rfl, _⟩ := Y4.out
  clear o4 b4
  clear BB
  have BB := Lib.hid BBn
  clear BBn
  refine wpAnyZ_one (i := 5) (o := ?o6) (by kernel_rfl) ?hi6 (fun K hK => ?rest6)
  case hi6 => simp only [List.getElem?_toArray, List.getElem?_cons_succ, List.getElem?_cons_zero]; rfl
  have hsame := Lib.hid (sameVol_same _ _ R Q u1 (HXX.out _ BB.out) Y4.out (by omega) (by omega))
  clear Y4
  go_simp
  refine (hsame.out).mono ?_
  rintro e u2 ⟨rfl, b5⟩
  (try dsimp only)
  have BBn := BB.out.trans (b5.mono BB.out.size)
  refine hK.out _ _ (.inr (HS.out _ BBn)) ?_
  clear hK K
  (try simp only [Act.put, List.setIfInBounds_toArray, List.set_cons_zero, List.set_cons_succ])
  clear b5 hsame
  clear BB
  have BB := Lib.hid BBn
  clear BBn
  refine wpAnyZ_take (i := 6) (oi := ?o7) (v := ?v7) ?hi7 (by kernel_rfl) (by kernel_rfl) (by kernel_rfl) (by kernel_rfl) ?hq7 ?hy7 (HS.out _ BB.out) ?rest7
  case hi7 => simp only [List.getElem?_toArray, List.getElem?_cons_succ, List.getElem?_cons_zero]; rfl
  case hq7 => exact fun _ _ _ h => h
  case hy7 => (refine Or.inl ⟨by rfl, ?_⟩; intro w hSw; (try dsimp only at hSw); go_simp; (try with_reducible rfl))
  simp only [Act.put, List.setIfInBounds_toArray, List.set_cons_zero, List.set_cons_succ]
  refine wpAnyZ_done (by kernel_rfl) ?_ _
  have V6 := Lib.hid (V3.out.below BB.out)
  have K6 := Lib.hid (blk_below BB.out K3.out K3.out.lt)
  have L6 := Lib.hid (blk_below BB.out L3.out L3.out.lt)
  have C6 := Lib.hid (C3.out.trans (BB.out.mono C3.out.size))
  have X6 := Lib.hid (X3.out.below BB.out)
  clear BB V3 K3 L3 C3 X3 HS HSP HXX
  generalize u2 = w6 at *
  obtain ⟨x0, x1, _, _⟩ := L6.out.two
  obtain ⟨y0, y1, _, _⟩ := K6.out.two
  cases hvw : vwrB N S n x
  · have e1 : R = [] := by rw [HR.out]; unfold vwrN; rw [hvw]; rfl
    have e2 : Q = [] := by rw [HQ.out]; unfold vwrS; rw [hvw]; rfl
    subst e1 e2
    go_wp2_with fail
    refine (alive_any _).mono ?_
    rintro e w9 ⟨rfl, b9⟩
    have C9 := Lib.hid (C6.out.trans (b9.mono C6.out.size))
    clear b9
    go_wp2
    go_ret
    exact ⟨rfl, C9.out⟩
  have hvw2 := hvw
  simp only [vwrB, Bool.and_eq_true, inB_iff] at hvw2
  obtain ⟨⟨hvb, ha0, ha1⟩, hx0, hx1⟩ := hvw2
  obtain ⟨k, rfl⟩ : ∃ k : Nat, n = k := ⟨n.toNat, by omega⟩
  have hkN : k < N.length := by omega
  have e1 : R = N.set k x := by rw [HR.out]; unfold vwrN; rw [hvw, if_pos rfl, Int.toNat_natCast]
  have e2 : Q = savS N S k := by rw [HQ.out]; unfold vwrS; rw [hvw, if_pos rfl]
  have hvol : volB R Q = true := by rw [e1, e2]; exact write_vol hvb hkN ⟨hx0, hx1⟩
  have hviews := Lib.hid (fun (i : Nat) (hi : i < S.length) => show shotV R Q i = shotV N S i by rw [e1, e2]; exact write_view hvb hkN ⟨hx0, hx1⟩ hi)
  have HRL := Lib.hid (show R.length = N.length by rw [e1, List.length_set])
  have hQL : Q.length = S.length := by rw [e2]; exact (savS_len N S k).1
  have HWS := Lib.hid (show N.take k ++ [x] ++ N.drop (k + [x].length) = R by rw [e1]; exact ws_one hkN)
  have HND := Lib.hid (vol_iff.1 hvb).1
  have HX1 := Lib.hid (show allB [x] 0 255 = true by simp [allB, inB]; omega)
  have hag : vwrB R Q k x = true := by
    rw [vwrB, hvol, Bool.true_and, Bool.and_eq_true]
    exact ⟨inB_iff.2 ⟨by omega, by rw [HRL.out]; omega⟩, inB_iff.2 ⟨hx0, hx1⟩⟩
  have hagN : vwrN R Q k x = R := by unfold vwrN; rw [hag, if_pos rfl, Int.toNat_natCast, e1, List.set_set]
  have hagS : vwrS R Q k x = Q := by unfold vwrS; rw [hag, if_pos rfl, e1, e2, write_again]
  have HVOL := Lib.hid hvol
  have HAGN := Lib.hid hagN
  have HAGS := Lib.hid hagS
  have e0 : ((N.length : Int) == 0) = false := by rw [beq_eq_false_iff_ne]; omega
  have hsm : Q.length + sumN Q ≤ 80 := hRl.2
  have hRl2 : R.length ≤ 70 := hRl.1
  have HQL := Lib.hid hQL
  have hQ5 : sumN Q ≤ 80 := by omega
  rw [HRL.out, hQL] at L6 X6
  rw [HRL.out] at x0 ⊢
  rw [hQL] at x1 ⊢
  clear hvw hvb ha0 ha1 e1 e2 hvol hag hagN hagS HR HQ hQL hRl
  have hsm2 : sumN Q ≤ 80 := hQ5
  clear hsm
  go_wp2
  go_loopw [7] (fun z wr => ∃ i : Nat, i ≤ S.length ∧ z = .int .i64 i ∧ Hid (Below w6.heap.size w6 wr)) (fun z _ => S.length - (intOf z).toNat)
  case atStart => exact ⟨0, Nat.zero_le _, rfl, Lib.hid (Below.refl _ _)⟩
  case round =>
    clear x0 x1 y0 y1
    obtain ⟨i, hi, rfl, B0⟩ := hrel
    have KK := blk_below B0.out K6.out K6.out.lt
    have LL := blk_below B0.out L6.out L6.out.lt
    have HS := Lib.hid (fun (u : World) (hu : Below wr.heap.size wr u) => boxes_at KK LL u hu)
    have HVV := Lib.hid (V6.out.below B0.out)
    have HXX := Lib.hid (X6.out.below B0.out)
    obtain ⟨y0, y1, x0, x1⟩ := HS.out wr (Below.refl _ _)
    clear KK LL
    by_cases hlt : i < S.length
    · have hxl := shotV_len N S i
      have htv := hviews.out i hlt
      have HC1 := Lib.hid (fun (u : World) (hu : Below wr.heap.size wr u) => implShot_any _ R Q i u (HXX.out.below hu) (by omega) (by have := HQL.out; omega) (by omega))
      have HC2 := Lib.hid (fun (u : World) (hu : Below wr.heap.size wr u) => implShot_any _ N S i u (HVV.out.below hu) (by omega) (by omega) (by omega))
      simp only [htv] at HC1
      obtain ⟨X, hX⟩ : ∃ X, X = shotV N S i := ⟨_, rfl⟩
      rw [← hX] at HC1 HC2 hxl
      clear hX htv
      go_wp2
      refine wp_region_Z (fun w' : World => w'.cell? ⟨g3, 0, none⟩ = some (.slice A1 N.length c1) ∧ w'.cell? ⟨g3, 1, none⟩ = some (.slice B1 S.length d1) ∧ w'.cell? ⟨g6, 0, none⟩ = some (.slice A2 N.length c2) ∧ w'.cell? ⟨g6, 1, none⟩ = some (.slice B2 S.length d2)) 99 (by kernel_rfl) ?_
      generalize hv0 : wr.drew = u0
      have BB := Lib.hid (show Below wr.heap.size wr u0 by rw [← hv0]; exact (Below.refl _ _).drew)
      clear hv0
      refine wpAnyZ_take (i := 0) (oi := ?o8) (v := ?v8) ?hi8 (by kernel_rfl) (by kernel_rfl) (by kernel_rfl) (by kernel_rfl) ?hq8 ?hy8 (HS.out _ BB.out) ?rest8
      case hi8 => simp only [List.getElem?_toArray, List.getElem?_cons_succ, List.getElem?_cons_zero]; rfl
      case hq8 => exact fun _ _ _ h => h
      case hy8 => (refine Or.inl ⟨by rfl, ?_⟩; intro w hSw; (try dsimp only at hSw); go_simp; (try with_reducible rfl))
      simp only [Act.put, List.setIfInBounds_toArray, List.set_cons_zero, List.set_cons_succ]
      refine wpAnyZ_take (i := 1) (oi := ?o9) (v := ?v9) ?hi9 (by kernel_rfl) (by kernel_rfl) (by kernel_rfl) (by kernel_rfl) ?hq9 ?hy9 (HS.out _ BB.out) ?rest9
      case hi9 => simp only [List.getElem?_toArray, List.getElem?_cons_succ, List.getElem?_cons_zero]; rfl
      case hq9 => exact fun _ _ _ h => h
      case hy9 => (refine Or.inl ⟨by rfl, ?_⟩; intro w hSw; (try dsimp only at hSw); go_simp; (try with_reducible rfl))
      simp only [Act.put, List.setIfInBounds_toArray, List.set_cons_zero, List.set_cons_succ]
      refine wpAnyZ_take (i := 3) (oi := ?o10) (v := ?v10) ?hi10 (by kernel_rfl) (by kernel_rfl) (by kernel_rfl) (by kernel_rfl) ?hq10 ?hy10 (HS.out _ BB.out) ?rest10
      case hi10 => simp only [List.getElem?_toArray, List.getElem?_cons_succ, List.getElem?_cons_zero]; rfl
      case hq10 => exact fun _ _ _ h => h
      case hy10 => (refine Or.inl ⟨by rfl, ?_⟩; intro w hSw; (try dsimp only at hSw); go_simp; (try with_reducible rfl))
      simp only [Act.put, List.setIfInBounds_toArray, List.set_cons_zero, List.set_cons_succ]
      refine wpAnyZ_take (i := 4) (oi := ?o11) (v := ?v11) ?hi11 (by kernel_rfl) (by kernel_rfl) (by kernel_rfl) (by kernel_rfl) ?hq11 ?hy11 (HS.out _ BB.out) ?rest11
      case hi11 => simp only [List.getElem?_toArray, List.getElem?_cons_succ, List.getElem?_cons_zero]; rfl
      case hq11 => exact fun _ _ _ h => h
      case hy11 => (refine Or.inl ⟨by rfl, ?_⟩; intro w hSw; (try dsimp only at hSw); go_simp; (try with_reducible rfl))
      simp only [Act.put, List.setIfInBounds_toArray, List.set_cons_zero, List.set_cons_succ]
      refine wpAnyZ_one (i := 2) (o := ?o12) (by kernel_rfl) ?hi12 (fun K hK => ?rest12)
      case hi12 => simp only [List.getElem?_toArray, List.getElem?_cons_succ, List.getElem?_cons_zero]; rfl
      go_simp
      refine (HC1.out _ BB.out).mono ?_
      rintro e u1 ⟨A1, c1, rfl, o1, b1⟩
      (try dsimp only)
      have BBn := BB.out.trans (b1.mono BB.out.size)
      refine hK.out _ _ (.inr (HS.out _ BBn)) ?_
      clear hK K
      (try simp only [Act.put, List.setIfInBounds_toArray, List.set_cons_zero, List.set_cons_succ])
      have P1 := Lib.hid (own_read o1)
      clear o1 b1
      clear BB
      have BB := Lib.hid BBn
      clear BBn
      refine wpAnyZ_one (i := 5) (o := ?o13) (by kernel_rfl) ?hi13 (fun K hK => ?rest13)
      case hi13 => simp only [List.getElem?_toArray, List.getElem?_cons_succ, List.getElem?_cons_zero]; rfl
      go_simp
      refine (HC2.out _ BB.out).mono ?_
      rintro e u2 ⟨A2, c2, rfl, o2, b2⟩
      (try dsimp only)
      have BBn := BB.out.trans (b2.mono BB.out.size)
      refine hK.out _ _ (.inr (HS.out _ BBn)) ?_
      clear hK K
      (try simp only [Act.put, List.setIfInBounds_toArray, List.set_cons_zero, List.set_cons_succ])
      have P2 := Lib.hid (own_read o2)
      have P1n := Lib.hid (P1.out.keep b2.block)
      clear P1 o2 b2
      have P1 := P1n
      clear P1n
      clear BB
      have BB := Lib.hid BBn
      clear BBn
      refine wpAnyZ_one (i := 6) (o := ?o14) (by kernel_rfl) ?hi14 (fun K hK => ?rest14)
      case hi14 => simp only [List.getElem?_toArray, List.getElem?_cons_succ, List.getElem?_cons_zero]; rfl
      have hsame := Lib.hid (same_b A1 A2 c1 c2 X u2 (IntsIn.of P1.out) (IntsIn.of P2.out) (by omega))
      clear P1 P2
      go_simp
      refine (hsame.out).mono ?_
      rintro e u3 ⟨rfl, b3⟩
      (try dsimp only)
      have BBn := BB.out.trans (b3.mono BB.out.size)
      refine hK.out _ _ (.inr (HS.out _ BBn)) ?_
      clear hK K
      (try simp only [Act.put, List.setIfInBounds_toArray, List.set_cons_zero, List.set_cons_succ])
      clear b3 hsame
      clear BB
      have BB := Lib.hid BBn
      clear BBn
      refine wpAnyZ_take (i := 7) (oi := ?o15) (v := ?v15) ?hi15 (by kernel_rfl) (by kernel_rfl) (by kernel_rfl) (by kernel_rfl) ?hq15 ?hy15 (HS.out _ BB.out) ?rest15
      case hi15 => simp only [List.getElem?_toArray, List.getElem?_cons_succ, List.getElem?_cons_zero]; rfl
      case hq15 => exact fun _ _ _ h => h
      case hy15 => (refine Or.inl ⟨by rfl, ?_⟩; intro w hSw; (try dsimp only at hSw); go_simp; (try with_reducible rfl))
      simp only [Act.put, List.setIfInBounds_toArray, List.set_cons_zero, List.set_cons_succ]
      refine wpAnyZ_done (by kernel_rfl) ?_ _
      have B1 := Lib.hid (B0.out.trans (BB.out.mono B0.out.size))
      clear BB B0 HC1 HC2 HVV HXX HS x0 x1 y0 y1
      go_wp2
      go_roundw
      case rel => exact ⟨i + 1, by omega, by go_num, B1⟩
      case measure => simp [intOf]; omega
    have HNI := Lib.hid (fun (u : World) (hu : Below wr.heap.size wr u) => vol_ints (HVV.out.below hu))
    have HNX := Lib.hid (fun (u : World) (hu : Below wr.heap.size wr u) => vol_intsL HRL.out (HXX.out.below hu))
    have HAG := Lib.hid (fun (u : World) (hu : Below wr.heap.size wr u) => show Calls Try.prog 22 #[.agg #[.slice A2 N.length c2, .slice B2 S.length d2], .int .i64 k, .int .i64 x] u (ToVolPost R Q u) by
      have := implVWrite_any _ R Q k x u (HXX.out.below hu) (by omega) (by have := HQL.out; omega) (by omega) (by omega)
      rw [HAGN.out, HAGS.out] at this
      exact this)
    have HVV2 := Lib.hid (fun (u : World) (hu : Below wr.heap.size wr u) => show Calls Try.prog 26 #[.agg #[.slice A2 N.length c2, .slice B2 S.length d2]] u (fun e w' => e = .returned (.bool true) ∧ Below u.heap.size u w') by
      refine (implVol_any _ R Q u (HXX.out.below hu) (by omega) (by have := HQL.out; omega)).mono fun e w' h => ?_
      obtain ⟨h1, h2⟩ := h
      rw [HVOL.out] at h1
      exact ⟨h1, h2⟩)
    have HWF := Lib.hid (fun (u : World) (P : Option Addr) (hu : Below wr.heap.size wr u) (hP : IntsIn u P [x]) => show Calls Try.prog 37 #[.slice A1 N.length c1, .int .i64 k, .slice P 1 1] u (fun e w' => ∃ A c, e = .returned (.slice A N.length c) ∧ ReadC w' A (R.map (Value.int .i64)) ∧ Below u.heap.size u w') by
      have hws := implWs_yes A1 P c1 1 N [x] k u (vol_ints (HVV.out.below hu)) hP HND.out HX1.out hkN (by simp; omega)
      rw [HWS.out] at hws
      refine hws.mono fun e w' h => ?_
      obtain ⟨A', c', h1, h2, h3⟩ := h
      rw [HRL.out] at h1 h2
      exact ⟨A', c', h1, own_read h2, h3⟩)
    have sameV_at := fun (u : World) (v v' : Value) (h : VolR u v R Q) (h' : VolR u v' R Q) => sameVol_same v v' R Q u h h' (by omega) (by have := HQL.out; omega)
    go_wp2
    refine wp_region_Z (fun w' : World => w'.cell? ⟨g3, 0, none⟩ = some (.slice A1 N.length c1) ∧ w'.cell? ⟨g3, 1, none⟩ = some (.slice B1 S.length d1) ∧ w'.cell? ⟨g6, 0, none⟩ = some (.slice A2 N.length c2) ∧ w'.cell? ⟨g6, 1, none⟩ = some (.slice B2 S.length d2)) 99 (by kernel_rfl) ?_
    generalize hv0 : wr.drew = u0
    have BB := Lib.hid (show Below wr.heap.size wr u0 by rw [← hv0]; exact (Below.refl _ _).drew)
    clear hv0
    refine wpAnyZ_take (i := 0) (oi := ?o16) (v := ?v16) ?hi16 (by kernel_rfl) (by kernel_rfl) (by kernel_rfl) (by kernel_rfl) ?hq16 ?hy16 (HS.out _ BB.out) ?rest16
    case hi16 => simp only [List.getElem?_toArray, List.getElem?_cons_succ, List.getElem?_cons_zero]; rfl
    case hq16 => exact fun _ _ _ h => h
    case hy16 => (refine Or.inl ⟨by rfl, ?_⟩; intro w hSw; (try dsimp only at hSw); go_simp; (try with_reducible rfl))
    simp only [Act.put, List.setIfInBounds_toArray, List.set_cons_zero, List.set_cons_succ]
    refine wpAnyZ_take (i := 1) (oi := ?o17) (v := ?v17) ?hi17 (by kernel_rfl) (by kernel_rfl) (by kernel_rfl) (by kernel_rfl) ?hq17 ?hy17 (HS.out _ BB.out) ?rest17
    case hi17 => simp only [List.getElem?_toArray, List.getElem?_cons_succ, List.getElem?_cons_zero]; rfl
    case hq17 => exact fun _ _ _ h => h
    case hy17 => (refine Or.inl ⟨by rfl, ?_⟩; intro w hSw; (try dsimp only at hSw); go_simp; (try with_reducible rfl))
    simp only [Act.put, List.setIfInBounds_toArray, List.set_cons_zero, List.set_cons_succ]
    refine wpAnyZ_take (i := 2) (oi := ?o18) (v := ?v18) ?hi18 (by kernel_rfl) (by kernel_rfl) (by kernel_rfl) (by kernel_rfl) ?hq18 ?hy18 (HS.out _ BB.out) ?rest18
    case hi18 => simp only [List.getElem?_toArray, List.getElem?_cons_succ, List.getElem?_cons_zero]; rfl
    case hq18 => exact fun _ _ _ h => h
    case hy18 => (refine Or.inl ⟨by rfl, ?_⟩; intro w hSw; (try dsimp only at hSw); go_simp; (try with_reducible rfl))
    simp only [Act.put, List.setIfInBounds_toArray, List.set_cons_zero, List.set_cons_succ]
    refine wpAnyZ_take (i := 3) (oi := ?o19) (v := ?v19) ?hi19 (by kernel_rfl) (by kernel_rfl) (by kernel_rfl) (by kernel_rfl) ?hq19 ?hy19 (HS.out _ BB.out) ?rest19
    case hi19 => simp only [List.getElem?_toArray, List.getElem?_cons_succ, List.getElem?_cons_zero]; rfl
    case hq19 => exact fun _ _ _ h => h
    case hy19 => (refine Or.inl ⟨by rfl, ?_⟩; intro w hSw; (try dsimp only at hSw); go_simp; (try with_reducible rfl))
    simp only [Act.put, List.setIfInBounds_toArray, List.set_cons_zero, List.set_cons_succ]
    refine wpAnyZ_take (i := 4) (oi := ?o20) (v := ?v20) ?hi20 (by kernel_rfl) (by kernel_rfl) (by kernel_rfl) (by kernel_rfl) ?hq20 ?hy20 (HS.out _ BB.out) ?rest20
    case hi20 => simp only [List.getElem?_toArray, List.getElem?_cons_succ, List.getElem?_cons_zero]; rfl
    case hq20 => exact fun _ _ _ h => h
    case hy20 => (refine Or.inl ⟨by rfl, ?_⟩; intro w hSw; (try dsimp only at hSw); go_simp; (try with_reducible rfl))
    simp only [Act.put, List.setIfInBounds_toArray, List.set_cons_zero, List.set_cons_succ]
    refine wpAnyZ_take (i := 5) (oi := ?o21) (v := ?v21) ?hi21 (by kernel_rfl) (by kernel_rfl) (by kernel_rfl) (by kernel_rfl) ?hq21 ?hy21 (HS.out _ BB.out) ?rest21
    case hi21 => simp only [List.getElem?_toArray, List.getElem?_cons_succ, List.getElem?_cons_zero]; rfl
    case hq21 => exact fun _ _ _ h => h
    case hy21 => (refine Or.inl ⟨by rfl, ?_⟩; intro w hSw; (try dsimp only at hSw); go_simp; (try with_reducible rfl))
    simp only [Act.put, List.setIfInBounds_toArray, List.set_cons_zero, List.set_cons_succ]
    refine wpAnyZ_one (i := 6) (o := ?o22) (by kernel_rfl) ?hi22 (fun K hK => ?rest22)
    case hi22 => simp only [List.getElem?_toArray, List.getElem?_cons_succ, List.getElem?_cons_zero]; rfl
    go_simp
    have BBn := b_alloc BB.out (.cells #[.int .i64 x] 3)
    have RB := Lib.hid (lit_ints u0 x)
    refine hK.out _ _ (.inr (HS.out _ BBn)) ?_
    clear hK K
    (try simp only [Act.put, List.setIfInBounds_toArray, List.set_cons_zero, List.set_cons_succ])
    clear BB
    have BB := Lib.hid BBn
    clear BBn
    obtain ⟨p6, hp6⟩ : ∃ p, p = u0.heap.size := ⟨_, rfl⟩
    generalize hvv : u0.alloc (.cells #[.int .i64 x] 3) = u1 at *
    rw [← hp6] at RB ⊢
    clear hvv hp6
    refine wpAnyZ_one (i := 7) (o := ?o23) (by kernel_rfl) ?hi23 (fun K hK => ?rest23)
    case hi23 => simp only [List.getElem?_toArray, List.getElem?_cons_succ, List.getElem?_cons_zero]; rfl
    have hws := Lib.hid (HWF.out u1 (some ⟨p6, 0, none⟩) BB.out RB.out)
    clear RB
    go_simp
    refine (hws.out).mono ?_
    rintro e u2 ⟨A5, c5, rfl, o5, b5⟩
    (try dsimp only)
    have BBn := BB.out.trans (b5.mono BB.out.size)
    refine hK.out _ _ (.inr (HS.out _ BBn)) ?_
    clear hK K
    (try simp only [Act.put, List.setIfInBounds_toArray, List.set_cons_zero, List.set_cons_succ])
    have P1 := Lib.hid o5
    clear o5 b5 hws
    clear BB
    have BB := Lib.hid BBn
    clear BBn
    refine wpAnyZ_one (i := 8) (o := ?o24) (by kernel_rfl) ?hi24 (fun K hK => ?rest24)
    case hi24 => simp only [List.getElem?_toArray, List.getElem?_cons_succ, List.getElem?_cons_zero]; rfl
    have hsame := Lib.hid (same_b A2 A5 c2 c5 R u2 (HNX.out _ BB.out) (IntsIn.of P1.out) (by rw [HRL.out]; omega))
    rw [HRL.out] at hsame
    clear P1
    go_simp
    refine (hsame.out).mono ?_
    rintro e u3 ⟨rfl, b6⟩
    (try dsimp only)
    have BBn := BB.out.trans (b6.mono BB.out.size)
    refine hK.out _ _ (.inr (HS.out _ BBn)) ?_
    clear hK K
    (try simp only [Act.put, List.setIfInBounds_toArray, List.set_cons_zero, List.set_cons_succ])
    clear b6 hsame
    clear BB
    have BB := Lib.hid BBn
    clear BBn
    refine wpAnyZ_take (i := 9) (oi := ?o25) (v := ?v25) ?hi25 (by kernel_rfl) (by kernel_rfl) (by kernel_rfl) (by kernel_rfl) ?hq25 ?hy25 (HS.out _ BB.out) ?rest25
    case hi25 => simp only [List.getElem?_toArray, List.getElem?_cons_succ, List.getElem?_cons_zero]; rfl
    case hq25 => exact fun _ _ _ h => h
    case hy25 => (refine Or.inl ⟨by rfl, ?_⟩; intro w hSw; (try dsimp only at hSw); go_simp; (try with_reducible rfl))
    simp only [Act.put, List.setIfInBounds_toArray, List.set_cons_zero, List.set_cons_succ]
    refine wpAnyZ_take (i := 10) (oi := ?o26) (v := ?v26) ?hi26 (by kernel_rfl) (by kernel_rfl) (by kernel_rfl) (by kernel_rfl) ?hq26 ?hy26 (HS.out _ BB.out) ?rest26
    case hi26 => simp only [List.getElem?_toArray, List.getElem?_cons_succ, List.getElem?_cons_zero]; rfl
    case hq26 => exact fun _ _ _ h => h
    case hy26 => (refine Or.inl ⟨by rfl, ?_⟩; intro w hSw; (try dsimp only at hSw); go_simp; (try with_reducible rfl))
    simp only [Act.put, List.setIfInBounds_toArray, List.set_cons_zero, List.set_cons_succ]
    refine wpAnyZ_take (i := 11) (oi := ?o27) (v := ?v27) ?hi27 (by kernel_rfl) (by kernel_rfl) (by kernel_rfl) (by kernel_rfl) ?hq27 ?hy27 (HS.out _ BB.out) ?rest27
    case hi27 => simp only [List.getElem?_toArray, List.getElem?_cons_succ, List.getElem?_cons_zero]; rfl
    case hq27 => exact fun _ _ _ h => h
    case hy27 => (refine Or.inl ⟨by rfl, ?_⟩; intro w hSw; (try dsimp only at hSw); go_simp; (try with_reducible rfl))
    simp only [Act.put, List.setIfInBounds_toArray, List.set_cons_zero, List.set_cons_succ]
    refine wpAnyZ_take (i := 12) (oi := ?o28) (v := ?v28) ?hi28 (by kernel_rfl) (by kernel_rfl) (by kernel_rfl) (by kernel_rfl) ?hq28 ?hy28 (HS.out _ BB.out) ?rest28
    case hi28 => simp only [List.getElem?_toArray, List.getElem?_cons_succ, List.getElem?_cons_zero]; rfl
    case hq28 => exact fun _ _ _ h => h
    case hy28 => (refine Or.inl ⟨by rfl, ?_⟩; intro w hSw; (try dsimp only at hSw); go_simp; (try with_reducible rfl))
    simp only [Act.put, List.setIfInBounds_toArray, List.set_cons_zero, List.set_cons_succ]
    refine wpAnyZ_take (i := 14) (oi := ?o29) (v := ?v29) ?hi29 (by kernel_rfl) (by kernel_rfl) (by kernel_rfl) (by kernel_rfl) ?hq29 ?hy29 (HS.out _ BB.out) ?rest29
    case hi29 => simp only [List.getElem?_toArray, List.getElem?_cons_succ, List.getElem?_cons_zero]; rfl
    case hq29 => exact fun _ _ _ h => h
    case hy29 => (refine Or.inl ⟨by rfl, ?_⟩; intro w hSw; (try dsimp only at hSw); go_simp; (try with_reducible rfl))
    simp only [Act.put, List.setIfInBounds_toArray, List.set_cons_zero, List.set_cons_succ]
    refine wpAnyZ_one (i := 13) (o := ?o30) (by kernel_rfl) ?hi30 (fun K hK => ?rest30)
    case hi30 => simp only [List.getElem?_toArray, List.getElem?_cons_succ, List.getElem?_cons_zero]; rfl
    go_simp
    refine (HAG.out _ BB.out).mono ?_
    rintro e u4 ⟨v7, rfl, o7, b7⟩
    (try dsimp only)
    have BBn := BB.out.trans (b7.mono BB.out.size)
    refine hK.out _ _ (.inr (HS.out _ BBn)) ?_
    clear hK K
    (try simp only [Act.put, List.setIfInBounds_toArray, List.set_cons_zero, List.set_cons_succ])
    have Y7 := Lib.hid o7.read
    obtain ⟨A7, c7, B7, d7, rfl, _⟩ := Y7.out
    clear o7 b7
    clear BB
    have BB := Lib.hid BBn
    clear BBn
    refine wpAnyZ_one (i := 15) (o := ?o31) (by kernel_rfl) ?hi31 (fun K hK => ?rest31)
    case hi31 => simp only [List.getElem?_toArray, List.getElem?_cons_succ, List.getElem?_cons_zero]; rfl
    have hsame := Lib.hid (sameV_at u4 _ _ Y7.out (HXX.out.below BB.out))
    clear Y7
    go_simp
    refine (hsame.out).mono ?_
    rintro e u5 ⟨rfl, b8⟩
    (try dsimp only)
    have BBn := BB.out.trans (b8.mono BB.out.size)
    refine hK.out _ _ (.inr (HS.out _ BBn)) ?_
    clear hK K
    (try simp only [Act.put, List.setIfInBounds_toArray, List.set_cons_zero, List.set_cons_succ])
    clear b8 hsame
    clear BB
    have BB := Lib.hid BBn
    clear BBn
    refine wpAnyZ_take (i := 16) (oi := ?o32) (v := ?v32) ?hi32 (by kernel_rfl) (by kernel_rfl) (by kernel_rfl) (by kernel_rfl) ?hq32 ?hy32 (HS.out _ BB.out) ?rest32
    case hi32 => simp only [List.getElem?_toArray, List.getElem?_cons_succ, List.getElem?_cons_zero]; rfl
    case hq32 => exact fun _ _ _ h => h
    case hy32 => (refine Or.inl ⟨by rfl, ?_⟩; intro w hSw; (try dsimp only at hSw); go_simp; (try with_reducible rfl))
    simp only [Act.put, List.setIfInBounds_toArray, List.set_cons_zero, List.set_cons_succ]
    refine wpAnyZ_take (i := 17) (oi := ?o33) (v := ?v33) ?hi33 (by kernel_rfl) (by kernel_rfl) (by kernel_rfl) (by kernel_rfl) ?hq33 ?hy33 (HS.out _ BB.out) ?rest33
    case hi33 => simp only [List.getElem?_toArray, List.getElem?_cons_succ, List.getElem?_cons_zero]; rfl
    case hq33 => exact fun _ _ _ h => h
    case hy33 => (refine Or.inl ⟨by rfl, ?_⟩; intro w hSw; (try dsimp only at hSw); go_simp; (try with_reducible rfl))
    simp only [Act.put, List.setIfInBounds_toArray, List.set_cons_zero, List.set_cons_succ]
    refine wpAnyZ_take (i := 18) (oi := ?o34) (v := ?v34) ?hi34 (by kernel_rfl) (by kernel_rfl) (by kernel_rfl) (by kernel_rfl) ?hq34 ?hy34 (HS.out _ BB.out) ?rest34
    case hi34 => simp only [List.getElem?_toArray, List.getElem?_cons_succ, List.getElem?_cons_zero]; rfl
    case hq34 => exact fun _ _ _ h => h
    case hy34 => (refine Or.inl ⟨by rfl, ?_⟩; intro w hSw; (try dsimp only at hSw); go_simp; (try with_reducible rfl))
    simp only [Act.put, List.setIfInBounds_toArray, List.set_cons_zero, List.set_cons_succ]
    refine wpAnyZ_one (i := 19) (o := ?o35) (by kernel_rfl) ?hi35 (fun K hK => ?rest35)
    case hi35 => simp only [List.getElem?_toArray, List.getElem?_cons_succ, List.getElem?_cons_zero]; rfl
    go_simp
    refine (HVV2.out _ BB.out).mono ?_
    rintro e u6 ⟨rfl, b9⟩
    (try dsimp only)
    have BBn := BB.out.trans (b9.mono BB.out.size)
    refine hK.out _ _ (.inr (HS.out _ BBn)) ?_
    clear hK K
    (try simp only [Act.put, List.setIfInBounds_toArray, List.set_cons_zero, List.set_cons_succ])
    clear b9
    clear BB
    have BB := Lib.hid BBn
    clear BBn
    refine wpAnyZ_take (i := 20) (oi := ?o36) (v := ?v36) ?hi36 (by kernel_rfl) (by kernel_rfl) (by kernel_rfl) (by kernel_rfl) ?hq36 ?hy36 (HS.out _ BB.out) ?rest36
    case hi36 => simp only [List.getElem?_toArray, List.getElem?_cons_succ, List.getElem?_cons_zero]; rfl
    case hq36 => exact fun _ _ _ h => h
    case hy36 => (refine Or.inl ⟨by rfl, ?_⟩; intro w hSw; (try dsimp only at hSw); go_simp; (try with_reducible rfl))
    simp only [Act.put, List.setIfInBounds_toArray, List.set_cons_zero, List.set_cons_succ]
    refine wpAnyZ_take (i := 21) (oi := ?o37) (v := ?v37) ?hi37 (by kernel_rfl) (by kernel_rfl) (by kernel_rfl) (by kernel_rfl) ?hq37 ?hy37 (HS.out _ BB.out) ?rest37
    case hi37 => simp only [List.getElem?_toArray, List.getElem?_cons_succ, List.getElem?_cons_zero]; rfl
    case hq37 => exact fun _ _ _ h => h
    case hy37 => (refine Or.inl ⟨by rfl, ?_⟩; intro w hSw; (try dsimp only at hSw); go_simp; (try with_reducible rfl))
    simp only [Act.put, List.setIfInBounds_toArray, List.set_cons_zero, List.set_cons_succ]
    refine wpAnyZ_done (by kernel_rfl) ?_ _
    have C9 := Lib.hid (C6.out.trans ((B0.out.trans (BB.out.mono B0.out.size)).mono C6.out.size))
    clear BB B0 HVV HXX HS x0 x1 y0 y1 HNI HNX HAG HVV2 HWF sameV_at
    go_wp2
    go_ret
    exact ⟨rfl, C9.out⟩

set_option maxRecDepth 100000 in
theorem lifted (os : Os) (started : os.Started) (H : Type) (enc : TypeId × Value → H) :
    ReturnsInHanded {} Try.checked os 10 .any (Rows.fnVolumeWriteSpec.pre6 enc Try.prog Try.f10 Rows.fnVolumeWriteRow.domain false) (Rows.fnVolumeWriteSpec.post enc Try.prog Try.f10 false true false false) := by
  refine returnsInHanded_of_change (C := Try.checked) own started (by kernel_rfl) Try.func10
    (ChangeSpec.witness6 (enc := enc) (C := Try.checked) false ⟨#[], #[.slice none 0 0], []⟩ 8 (by kernel_rfl) (by kernel_rfl) (by kernel_rfl) (by kernel_rfl)) ?_
  intro W base args ds gs before hval0 hW hcnd _
  have hval : ∀ (j : Nat) t v, Try.f10.params[j]? = some t → args[j]? = some v → Value.okWide Try.prog W .any base t v := hval0
  have hW' := hW
  obtain ⟨p, q, hA0, hV, rfl, hfz, hnd⟩ := hW
  have hA : DataW.TrodAll enc Try.prog W 0 (fun _ => true) true Try.f10.params.toList args.toList ds p := hA0
  rw [Try.params10] at hA hval
  obtain ⟨v0, vs0, d0, ds0, p0, q0, hargs, rfl, rfl, h0, r0⟩ := trodAll_cons hA
  obtain ⟨rfl, rfl, rfl⟩ := trodAll_nil r0
  obtain rfl : args = #[v0] := by cases args; simp_all
  obtain ⟨rfl, rfl⟩ := trodVars_none hV
  have k0 := h0
  have lt0 : ∀ x ∈ p0, x.block < W.heap.size := by obtain ⟨m, hm⟩ := k0; exact DataW.trod_lt m _ _ _ hm
  obtain ⟨a0, n0, c0, rfl, ok0, le0, cl0⟩ := open_bytes (hval 0 40 v0 rfl rfl) h0
  clear hA0 hval0
  refine (walk a0 n0 c0 W ok0 le0 cl0).mono fun e W' ⟨he, bel⟩ => ?_
  subst he
  exact ⟨_, rfl, _, _, _, [], _, [], hW', trodAll_mk1 (shut_bool Try.underlying4 _), (trodAll_cons_mk (Below.trod laidOut (by kernel_rfl) (of_decide_eq_true (by kernel_rfl)) k0 bel lt0) trodAll_mk0), rfl, bel.frame _, fun h => by cases h⟩

theorem proved : Rows.FnVolumeWriteSaid :=
  OpenClaim.holds_of_wide 10 Try.f10 rfl rfl rfl rfl rfl rfl rfl ⟨rfl, rfl, rfl, rfl, rfl⟩ rfl rfl rfl rfl rfl (by kernel_rfl) Try.func10 (by kernel_rfl)
    (of_decide_eq_true (by kernel_rfl)) (by unfold Func.isWrapper; first | (rw [if_pos (by decide +kernel)]; kernel_rfl) | (rw [if_neg (by decide +kernel)]; exact ⟨rfl, rfl⟩))
    (fun os started H enc _ => lifted os started H enc)
#print axioms proved
end Go.Proofs.Ytkjjieofoolnhaa.fnVolumeWrite
