/- Proves Rows.FnDropShotSaid: for every input the law FnDropShot returns true and leaves its arguments as they were. Conditions: none. -/
import Derived.Test.YtkjjieofoolnhaaOpen
import Derived.Test.YtkjjieofoolnhaaShL
namespace Go.Proofs.Ytkjjieofoolnhaa.fnDropShot
open Go.ChangeShapes Go.WideShapes Go.ChangeAt Go.RowKit
set_option linter.unusedVariables false
set_option linter.unusedSimpArgs false in
set_option maxHeartbeats 8000000 in
theorem walk (A : Option Addr) (m cp : Nat) (w : World) (hb : BytesIn w A m) (hmc : m ≤ cp) (hcp : cp ≤ 9223372036854775807) :
    Calls Try.prog 12 #[.slice A m cp] w fun e w' => e = .returned (.bool true) ∧ Below w.heap.size w w' := by
  by_cases hbig : 1048576 < m
  · go_enter Try.func12, Try.ntmps12
    go_wp2
    go_ret
    exact ⟨rfl, Below.refl _ _⟩
  go_enter Try.func12, Try.ntmps12
  go_wp2_with fail
  refine (drawDS_any A m cp w hb hmc hcp).mono ?_
  rintro e w1 ⟨v, N, S, n, rfl, hv, lN, lS, b1, n0, n1⟩
  have hv1 := hv w1 (fun k _ _ => rfl)
  obtain ⟨A1, c1, B1, d1, rfl, _⟩ := hv1
  have V1 := Lib.hid ((hv w1 (fun k _ _ => rfl)).alloc (.cells #[.slice A1 N.length c1, .slice B1 S.length d1] 29))
  have K1 := Lib.hid (show Blk (w1.alloc (.cells #[.slice A1 N.length c1, .slice B1 S.length d1] 29)) w1.heap.size 29 #[.slice A1 N.length c1, .slice B1 S.length d1] from Blk.new rfl)
  have C1 := Lib.hid (b_alloc b1 (.cells #[.slice A1 N.length c1, .slice B1 S.length d1] 29))
  clear hv hb b1
  obtain ⟨R, hR⟩ : ∃ R, R = dropN N S n := ⟨_, rfl⟩
  obtain ⟨Q, hQ⟩ : ∃ Q, Q = dropS N S n := ⟨_, rfl⟩
  have hRl : R.length ≤ 70 ∧ Q.length + sumN Q ≤ 80 := by rw [hR, hQ]; have := drop_len N S n; omega
  have HR := Lib.hid hR
  have HQ := Lib.hid hQ
  clear hR hQ
  go_wp2_with fail
  refine (implDrop_any _ N S n _ V1.out (by omega) (by omega) (by omega)).mono ?_
  rw [← HR.out, ← HQ.out]
  rintro e w2 ⟨v2, rfl, o2, b2⟩
  have X2 := Lib.hid o2.read
  obtain ⟨A2, c2, B2, d2, rfl, _⟩ := X2.out
  have V3 := Lib.hid ((V1.out.below b2).alloc (.cells #[.slice A2 R.length c2, .slice B2 Q.length d2] 29))
  have K3 := Lib.hid ((blk_below b2 K1.out K1.out.lt).alloc (.cells #[.slice A2 R.length c2, .slice B2 Q.length d2] 29))
  have C3 := Lib.hid (b_alloc (C1.out.trans (b2.mono C1.out.size)) (.cells #[.slice A2 R.length c2, .slice B2 Q.length d2] 29))
  have X3 := Lib.hid (X2.out.alloc (.cells #[.slice A2 R.length c2, .slice B2 Q.length d2] 29))
  have L3 := Lib.hid (show Blk (w2.alloc (.cells #[.slice A2 R.length c2, .slice B2 Q.length d2] 29)) w2.heap.size 29 #[.slice A2 R.length c2, .slice B2 Q.length d2] from Blk.new rfl)
  clear o2 b2 V1 K1 C1 X2
  go_wp2
  generalize hw3 : w2.alloc (.cells #[.slice A2 R.length c2, .slice B2 Q.length d2] 29) = w3 at *
  clear hw3
  obtain ⟨g3, hg3⟩ : ∃ g, g = w1.heap.size := ⟨_, rfl⟩
  obtain ⟨g5, hg5⟩ : ∃ g, g = w2.heap.size := ⟨_, rfl⟩
  rw [← hg3] at K3 ⊢
  rw [← hg5] at L3 ⊢
  clear hg3 hg5
  have HS := Lib.hid (fun (u : World) (hu : Below w3.heap.size w3 u) => boxes_at K3.out L3.out u hu)
  have HSP := Lib.hid (fun (u : World) (hu : Below w3.heap.size w3 u) => show Calls Try.prog 23 #[.agg #[.slice A1 N.length c1, .slice B1 S.length d1], .int .i64 n] u (ToVolPost R Q u) by
    have := specDrop_any _ N S n u (V3.out.below hu) (by omega) (by omega) (by omega)
    rw [← HR.out, ← HQ.out] at this
    exact this)
  have HXX := Lib.hid (fun (u : World) (hu : Below w3.heap.size w3 u) => X3.out.below hu)
  refine wp_region_Z (fun w' : World => w'.cell? ⟨g3, 0, none⟩ = some (.slice A1 N.length c1) ∧ w'.cell? ⟨g3, 1, none⟩ = some (.slice B1 S.length d1) ∧ w'.cell? ⟨g5, 0, none⟩ = some (.slice A2 R.length c2) ∧ w'.cell? ⟨g5, 1, none⟩ = some (.slice B2 Q.length d2)) 99 (by kernel_rfl) ?_
  generalize hv0 : w3.drew = u0
  have BB := Lib.hid (show Below w3.heap.size w3 u0 by rw [← hv0]; exact (Below.refl _ _).drew)
  clear hv0
  refine wpAnyZ_take (i := 0) (oi := ?o1) (v := ?v1) ?hi1 (by kernel_rfl) (by kernel_rfl) (by kernel_rfl) (by kernel_rfl) ?hq1 ?hy1 (HS.out _ BB.out) ?rest1
  case hi1 => simp only [List.getElem?_toArray, List.getElem?_cons_succ, List.getElem?_cons_zero]; rfl
  case hq1 => exact fun _ _ _ h => h
  case hy1 => (refine Or.inl ⟨by rfl, ?_⟩; intro w hSw; (try dsimp only at hSw); go_simp; (try with_reducible rfl))
  simp only [Act.put, List.setIfInBounds_toArray, List.set_cons_zero, List.set_cons_succ]
  refine wpAnyZ_take (i := 1) (oi := ?o2) (v := ?v2) ?hi2 (by kernel_rfl) (by kernel_rfl) (by kernel_rfl) (by kernel_rfl) ?hq2 ?hy2 (HS.out _ BB.out) ?rest2
  case hi2 => simp only [List.getElem?_toArray, List.getElem?_cons_succ, List.getElem?_cons_zero]; rfl
  case hq2 => exact fun _ _ _ h => h
  case hy2 => (refine Or.inl ⟨by rfl, ?_⟩; intro w hSw; (try dsimp only at hSw); go_simp; (try with_reducible rfl))
  simp only [Act.put, List.setIfInBounds_toArray, List.set_cons_zero, List.set_cons_succ]
  refine wpAnyZ_take (i := 2) (oi := ?o3) (v := ?v3) ?hi3 (by kernel_rfl) (by kernel_rfl) (by kernel_rfl) (by kernel_rfl) ?hq3 ?hy3 (HS.out _ BB.out) ?rest3
  case hi3 => simp only [List.getElem?_toArray, List.getElem?_cons_succ, List.getElem?_cons_zero]; rfl
  case hq3 => exact fun _ _ _ h => h
  case hy3 => (refine Or.inl ⟨by rfl, ?_⟩; intro w hSw; (try dsimp only at hSw); go_simp; (try with_reducible rfl))
  simp only [Act.put, List.setIfInBounds_toArray, List.set_cons_zero, List.set_cons_succ]
  refine wpAnyZ_one (i := 3) (o := ?o4) (by kernel_rfl) ?hi4 (fun K hK => ?rest4)
  case hi4 => simp only [List.getElem?_toArray, List.getElem?_cons_succ, List.getElem?_cons_zero]; rfl
  go_simp
  refine (HSP.out _ BB.out).mono ?_
  rintro e u1 ⟨v4, rfl, o4, b4⟩
  (try dsimp only)
  have BBn := BB.out.trans (b4.mono BB.out.size)
  refine hK.out _ _ (.inr (HS.out _ BBn)) ?_
  clear hK K
  (try simp only [Act.put, List.setIfInBounds_toArray, List.set_cons_zero, List.set_cons_succ])
  have Y4 := Lib.hid o4.read
  obtain ⟨A4, c4, B4, d4, rfl, _⟩ := Y4.out
  clear o4 b4
  clear BB
  have BB := Lib.hid BBn
  clear BBn
  refine wpAnyZ_one (i := 4) (o := ?o5) (by kernel_rfl) ?hi5 (fun K hK => ?rest5)
  case hi5 => simp only [List.getElem?_toArray, List.getElem?_cons_succ, List.getElem?_cons_zero]; rfl
  have hsame := Lib.hid (sameVol_same _ _ R Q u1 (HXX.out _ BB.out) Y4.out (by omega) (by omega))
  clear Y4
  go_simp
  refine (hsame.out).mono ?_
  rintro e u2 ⟨rfl, b5⟩
  (try dsimp only)
  have BBn := BB.out.trans (b5.mono BB.out.size)
  refine hK.out _ _ (.inr (HS.out _ BBn)) ?_
  clear hK K
  (try simp only [Act.put, List.setIfInBounds_toArray, List.set_cons_zero, List.set_cons_succ])
  clear b5 hsame
  clear BB
  have BB := Lib.hid BBn
  clear BBn
  refine wpAnyZ_take (i := 5) (oi := ?o6) (v := ?v6) ?hi6 (by kernel_rfl) (by kernel_rfl) (by kernel_rfl) (by kernel_rfl) ?hq6 ?hy6 (HS.out _ BB.out) ?rest6
  case hi6 => simp only [List.getElem?_toArray, List.getElem?_cons_succ, List.getElem?_cons_zero]; rfl
  case hq6 => exact fun _ _ _ h => h
  case hy6 => (refine Or.inl ⟨by rfl, ?_⟩; intro w hSw; (try dsimp only at hSw); go_simp; (try with_reducible rfl))
  simp only [Act.put, List.setIfInBounds_toArray, List.set_cons_zero, List.set_cons_succ]
  refine wpAnyZ_done (by kernel_rfl) ?_ _
  have V6 := Lib.hid (V3.out.below BB.out)
  have K6 := Lib.hid (blk_below BB.out K3.out K3.out.lt)
  have L6 := Lib.hid (blk_below BB.out L3.out L3.out.lt)
  have C6 := Lib.hid (C3.out.trans (BB.out.mono C3.out.size))
  have X6 := Lib.hid (X3.out.below BB.out)
  clear BB V3 K3 L3 C3 X3 HS HSP HXX
  generalize u2 = w6 at *
  obtain ⟨x0, x1, _, _⟩ := L6.out.two
  obtain ⟨y0, y1, _, _⟩ := K6.out.two
  go_wp2_with fail
  refine (specVol_any _ N S _ V6.out (by omega) (by omega)).mono ?_
  rintro e w7 ⟨rfl, b7⟩
  have V7 := Lib.hid (V6.out.below b7)
  have K7 := Lib.hid (blk_below b7 K6.out K6.out.lt)
  have L7 := Lib.hid (blk_below b7 L6.out L6.out.lt)
  have C7 := Lib.hid (C6.out.trans (b7.mono C6.out.size))
  have X7 := Lib.hid (X6.out.below b7)
  clear b7 V6 K6 L6 C6 X6 x0 x1 y0 y1
  obtain ⟨x0, x1, _, _⟩ := L7.out.two
  obtain ⟨y0, y1, _, _⟩ := K7.out.two
  cases hdb : dropB N S n
  · have e1 : R = [] := by rw [HR.out]; unfold dropN; rw [hdb]; rfl
    have e2 : Q = [] := by rw [HQ.out]; unfold dropS; rw [hdb]; rfl
    subst e1 e2
    cases hvb : volB N S
    · go_wp2_with fail
      refine (alive_any _).mono ?_
      rintro e w9 ⟨rfl, b9⟩
      have C9 := Lib.hid (C7.out.trans (b9.mono C7.out.size))
      clear b9
      go_wp2
      go_ret
      exact ⟨rfl, C9.out⟩
    · by_cases hn0 : n < 0
      · go_wp2_with fail
        refine (alive_any _).mono ?_
        rintro e w9 ⟨rfl, b9⟩
        have C9 := Lib.hid (C7.out.trans (b9.mono C7.out.size))
        clear b9
        go_wp2
        go_ret
        exact ⟨rfl, C9.out⟩
      · have hn2 : (S.length : Int) ≤ n := by
          by_cases h : n < S.length
          · exact absurd (drop_iff.2 ⟨hvb, by omega, h⟩) (by rw [hdb]; simp)
          · omega
        go_wp2_with fail
        refine (alive_any _).mono ?_
        rintro e w9 ⟨rfl, b9⟩
        have C9 := Lib.hid (C7.out.trans (b9.mono C7.out.size))
        clear b9
        go_wp2
        go_ret
        exact ⟨rfl, C9.out⟩
  obtain ⟨hvb, hn0, hn1⟩ := drop_iff.1 hdb
  obtain ⟨n, rfl⟩ : ∃ k : Nat, n = k := ⟨n.toNat, by omega⟩
  have hnS : n < S.length := by omega
  have e1 : R = N := by rw [HR.out]; unfold dropN; rw [hdb]; rfl
  have hQe : Q = (dropM S n).eraseIdx n := by rw [HQ.out]; unfold dropS; rw [hdb, if_pos rfl, Int.toNat_natCast]
  have hdv := drop_vol hvb hnS
  rw [← hQe] at hdv
  have HVX := Lib.hid hdv.1
  have hQS := hdv.2
  have hvw := Lib.hid (fun (k : Nat) (hk : k < Q.length) => show shotV N Q k = shotV N S (if n ≤ k then (k + 1 : Nat) else k) by rw [hQe]; exact drop_view hvb hnS (by omega))
  clear HR HQ
  subst e1
  obtain ⟨N, hN⟩ : ∃ N, N = R := ⟨_, rfl⟩
  subst hN
  obtain ⟨q, hq⟩ : ∃ q, q = Q.length := ⟨_, rfl⟩
  have HQL := Lib.hid hq
  rw [← hq] at x1 L7 X7 hQS ⊢
  rw [hvb]
  have hqS : (q : Int) = (S.length : Int) - 1 := by omega
  have hn0' : ¬ ((n : Int) < 0) := by omega
  have hn1' : ¬ ((S.length : Int) ≤ (n : Int)) := by omega
  have hn2' : ¬ (S.length ≤ n) := by omega
  have hdd1 : decide (S.length ≤ n) = false := decide_eq_false hn2'
  have hdd2 : decide ((n : Int) < 0) = false := decide_eq_false hn0'
  clear hdb hvb hn0 hQe hdv hq
  go_wp2
  go_loopw [6, 7] (fun x _ wr => ∃ k : Nat, k ≤ q ∧ x = .int .i64 k ∧ Hid (Below w7.heap.size w7 wr)) (fun x _ _ => q - (intOf x).toNat)
  case atStart => exact ⟨0, Nat.zero_le _, rfl, Lib.hid (Below.refl _ _)⟩
  case round =>
    clear x0 x1 y0 y1
    obtain ⟨k, hk, rfl, B0⟩ := hrel
    have KK := blk_below B0.out K7.out K7.out.lt
    have LL := blk_below B0.out L7.out L7.out.lt
    have HS := Lib.hid (fun (u : World) (hu : Below wr.heap.size wr u) => boxes_at KK LL u hu)
    have HVV := Lib.hid (V7.out.below B0.out)
    have HXX := Lib.hid (X7.out.below B0.out)
    obtain ⟨y0, y1, x0, x1⟩ := HS.out wr (Below.refl _ _)
    clear KK LL
    by_cases hlt : k < q
    · have hxl := shotV_len N Q k
      have htv := hvw.out k (by rw [← HQL.out]; exact hlt)
      have HC1 := Lib.hid (fun (u : World) (hu : Below wr.heap.size wr u) => implShot_any _ N Q k u (HXX.out.below hu) (by omega) (by omega) (by omega))
      by_cases hnk : n ≤ k
      · rw [if_pos hnk] at htv
        have HC2 := Lib.hid (fun (u : World) (hu : Below wr.heap.size wr u) => implShot_any _ N S (k + 1 : Nat) u (HVV.out.below hu) (by omega) (by omega) (by omega))
        simp only [← htv] at HC2
        obtain ⟨X, hX⟩ : ∃ X, X = shotV N Q k := ⟨_, rfl⟩
        rw [← hX] at HC1 HC2 hxl
        rw [show ((k + 1 : Nat) : Int) = (k : Int) + 1 by omega] at HC2
        have hnk' : (n : Int) ≤ (k : Int) := by omega
        clear hX htv
        go_wp2
        refine wp_region_Z (fun w' : World => w'.cell? ⟨g3, 0, none⟩ = some (.slice A1 N.length c1) ∧ w'.cell? ⟨g3, 1, none⟩ = some (.slice B1 S.length d1) ∧ w'.cell? ⟨g5, 0, none⟩ = some (.slice A2 N.length c2) ∧ w'.cell? ⟨g5, 1, none⟩ = some (.slice B2 q d2)) 99 (by kernel_rfl) ?_
        generalize hv0 : wr.drew = u0
        have BB := Lib.hid (show Below wr.heap.size wr u0 by rw [← hv0]; exact (Below.refl _ _).drew)
        clear hv0
        refine wpAnyZ_take (i := 0) (oi := ?o7) (v := ?v7) ?hi7 (by kernel_rfl) (by kernel_rfl) (by kernel_rfl) (by kernel_rfl) ?hq7 ?hy7 (HS.out _ BB.out) ?rest7
        case hi7 => simp only [List.getElem?_toArray, List.getElem?_cons_succ, List.getElem?_cons_zero]; rfl
        case hq7 => exact fun _ _ _ h => h
        case hy7 => (refine Or.inl ⟨by rfl, ?_⟩; intro w hSw; (try dsimp only at hSw); go_simp; (try with_reducible rfl))
        simp only [Act.put, List.setIfInBounds_toArray, List.set_cons_zero, List.set_cons_succ]
        refine wpAnyZ_take (i := 1) (oi := ?o8) (v := ?v8) ?hi8 (by kernel_rfl) (by kernel_rfl) (by kernel_rfl) (by kernel_rfl) ?hq8 ?hy8 (HS.out _ BB.out) ?rest8
        case hi8 => simp only [List.getElem?_toArray, List.getElem?_cons_succ, List.getElem?_cons_zero]; rfl
        case hq8 => exact fun _ _ _ h => h
        case hy8 => (refine Or.inl ⟨by rfl, ?_⟩; intro w hSw; (try dsimp only at hSw); go_simp; (try with_reducible rfl))
        simp only [Act.put, List.setIfInBounds_toArray, List.set_cons_zero, List.set_cons_succ]
        refine wpAnyZ_take (i := 3) (oi := ?o9) (v := ?v9) ?hi9 (by kernel_rfl) (by kernel_rfl) (by kernel_rfl) (by kernel_rfl) ?hq9 ?hy9 (HS.out _ BB.out) ?rest9
        case hi9 => simp only [List.getElem?_toArray, List.getElem?_cons_succ, List.getElem?_cons_zero]; rfl
        case hq9 => exact fun _ _ _ h => h
        case hy9 => (refine Or.inl ⟨by rfl, ?_⟩; intro w hSw; (try dsimp only at hSw); go_simp; (try with_reducible rfl))
        simp only [Act.put, List.setIfInBounds_toArray, List.set_cons_zero, List.set_cons_succ]
        refine wpAnyZ_take (i := 4) (oi := ?o10) (v := ?v10) ?hi10 (by kernel_rfl) (by kernel_rfl) (by kernel_rfl) (by kernel_rfl) ?hq10 ?hy10 (HS.out _ BB.out) ?rest10
        case hi10 => simp only [List.getElem?_toArray, List.getElem?_cons_succ, List.getElem?_cons_zero]; rfl
        case hq10 => exact fun _ _ _ h => h
        case hy10 => (refine Or.inl ⟨by rfl, ?_⟩; intro w hSw; (try dsimp only at hSw); go_simp; (try with_reducible rfl))
        simp only [Act.put, List.setIfInBounds_toArray, List.set_cons_zero, List.set_cons_succ]
        refine wpAnyZ_one (i := 2) (o := ?o11) (by kernel_rfl) ?hi11 (fun K hK => ?rest11)
        case hi11 => simp only [List.getElem?_toArray, List.getElem?_cons_succ, List.getElem?_cons_zero]; rfl
        go_simp
        refine (HC1.out _ BB.out).mono ?_
        rintro e u1 ⟨A1, c1, rfl, o1, b1⟩
        (try dsimp only)
        have BBn := BB.out.trans (b1.mono BB.out.size)
        refine hK.out _ _ (.inr (HS.out _ BBn)) ?_
        clear hK K
        (try simp only [Act.put, List.setIfInBounds_toArray, List.set_cons_zero, List.set_cons_succ])
        have P1 := Lib.hid (own_read o1)
        clear o1 b1
        clear BB
        have BB := Lib.hid BBn
        clear BBn
        refine wpAnyZ_one (i := 5) (o := ?o12) (by kernel_rfl) ?hi12 (fun K hK => ?rest12)
        case hi12 => simp only [List.getElem?_toArray, List.getElem?_cons_succ, List.getElem?_cons_zero]; rfl
        go_simp
        refine (HC2.out _ BB.out).mono ?_
        rintro e u2 ⟨A2, c2, rfl, o2, b2⟩
        (try dsimp only)
        have BBn := BB.out.trans (b2.mono BB.out.size)
        refine hK.out _ _ (.inr (HS.out _ BBn)) ?_
        clear hK K
        (try simp only [Act.put, List.setIfInBounds_toArray, List.set_cons_zero, List.set_cons_succ])
        have P2 := Lib.hid (own_read o2)
        have P1n := Lib.hid (P1.out.keep b2.block)
        clear P1 o2 b2
        have P1 := P1n
        clear P1n
        clear BB
        have BB := Lib.hid BBn
        clear BBn
        refine wpAnyZ_one (i := 6) (o := ?o13) (by kernel_rfl) ?hi13 (fun K hK => ?rest13)
        case hi13 => simp only [List.getElem?_toArray, List.getElem?_cons_succ, List.getElem?_cons_zero]; rfl
        have hsame := Lib.hid (same_b A1 A2 c1 c2 X u2 (IntsIn.of P1.out) (IntsIn.of P2.out) (by omega))
        clear P1 P2
        go_simp
        refine (hsame.out).mono ?_
        rintro e u3 ⟨rfl, b3⟩
        (try dsimp only)
        have BBn := BB.out.trans (b3.mono BB.out.size)
        refine hK.out _ _ (.inr (HS.out _ BBn)) ?_
        clear hK K
        (try simp only [Act.put, List.setIfInBounds_toArray, List.set_cons_zero, List.set_cons_succ])
        clear b3 hsame
        clear BB
        have BB := Lib.hid BBn
        clear BBn
        refine wpAnyZ_take (i := 7) (oi := ?o14) (v := ?v14) ?hi14 (by kernel_rfl) (by kernel_rfl) (by kernel_rfl) (by kernel_rfl) ?hq14 ?hy14 (HS.out _ BB.out) ?rest14
        case hi14 => simp only [List.getElem?_toArray, List.getElem?_cons_succ, List.getElem?_cons_zero]; rfl
        case hq14 => exact fun _ _ _ h => h
        case hy14 => (refine Or.inl ⟨by rfl, ?_⟩; intro w hSw; (try dsimp only at hSw); go_simp; (try with_reducible rfl))
        simp only [Act.put, List.setIfInBounds_toArray, List.set_cons_zero, List.set_cons_succ]
        refine wpAnyZ_done (by kernel_rfl) ?_ _
        have B1 := Lib.hid (B0.out.trans (BB.out.mono B0.out.size))
        clear BB B0 HC1 HC2 HVV HXX HS x0 x1 y0 y1
        go_wp2
        go_roundw
        case rel => exact ⟨k + 1, by omega, by go_num, B1⟩
        case measure => simp [intOf]; omega
      · rw [if_neg hnk] at htv
        have HC2 := Lib.hid (fun (u : World) (hu : Below wr.heap.size wr u) => implShot_any _ N S k u (HVV.out.below hu) (by omega) (by omega) (by omega))
        simp only [← htv] at HC2
        obtain ⟨X, hX⟩ : ∃ X, X = shotV N Q k := ⟨_, rfl⟩
        rw [← hX] at HC1 HC2 hxl
        have hnk' : (k : Int) < (n : Int) := by omega
        clear hX htv hnk
        go_wp2
        refine wp_region_Z (fun w' : World => w'.cell? ⟨g3, 0, none⟩ = some (.slice A1 N.length c1) ∧ w'.cell? ⟨g3, 1, none⟩ = some (.slice B1 S.length d1) ∧ w'.cell? ⟨g5, 0, none⟩ = some (.slice A2 N.length c2) ∧ w'.cell? ⟨g5, 1, none⟩ = some (.slice B2 q d2)) 99 (by kernel_rfl) ?_
        generalize hv0 : wr.drew = u0
        have BB := Lib.hid (show Below wr.heap.size wr u0 by rw [← hv0]; exact (Below.refl _ _).drew)
        clear hv0
        refine wpAnyZ_take (i := 0) (oi := ?o15) (v := ?v15) ?hi15 (by kernel_rfl) (by kernel_rfl) (by kernel_rfl) (by kernel_rfl) ?hq15 ?hy15 (HS.out _ BB.out) ?rest15
        case hi15 => simp only [List.getElem?_toArray, List.getElem?_cons_succ, List.getElem?_cons_zero]; rfl
        case hq15 => exact fun _ _ _ h => h
        case hy15 => (refine Or.inl ⟨by rfl, ?_⟩; intro w hSw; (try dsimp only at hSw); go_simp; (try with_reducible rfl))
        simp only [Act.put, List.setIfInBounds_toArray, List.set_cons_zero, List.set_cons_succ]
        refine wpAnyZ_take (i := 1) (oi := ?o16) (v := ?v16) ?hi16 (by kernel_rfl) (by kernel_rfl) (by kernel_rfl) (by kernel_rfl) ?hq16 ?hy16 (HS.out _ BB.out) ?rest16
        case hi16 => simp only [List.getElem?_toArray, List.getElem?_cons_succ, List.getElem?_cons_zero]; rfl
        case hq16 => exact fun _ _ _ h => h
        case hy16 => (refine Or.inl ⟨by rfl, ?_⟩; intro w hSw; (try dsimp only at hSw); go_simp; (try with_reducible rfl))
        simp only [Act.put, List.setIfInBounds_toArray, List.set_cons_zero, List.set_cons_succ]
        refine wpAnyZ_take (i := 3) (oi := ?o17) (v := ?v17) ?hi17 (by kernel_rfl) (by kernel_rfl) (by kernel_rfl) (by kernel_rfl) ?hq17 ?hy17 (HS.out _ BB.out) ?rest17
        case hi17 => simp only [List.getElem?_toArray, List.getElem?_cons_succ, List.getElem?_cons_zero]; rfl
        case hq17 => exact fun _ _ _ h => h
        case hy17 => (refine Or.inl ⟨by rfl, ?_⟩; intro w hSw; (try dsimp only at hSw); go_simp; (try with_reducible rfl))
        simp only [Act.put, List.setIfInBounds_toArray, List.set_cons_zero, List.set_cons_succ]
        refine wpAnyZ_take (i := 4) (oi := ?o18) (v := ?v18) ?hi18 (by kernel_rfl) (by kernel_rfl) (by kernel_rfl) (by kernel_rfl) ?hq18 ?hy18 (HS.out _ BB.out) ?rest18
        case hi18 => simp only [List.getElem?_toArray, List.getElem?_cons_succ, List.getElem?_cons_zero]; rfl
        case hq18 => exact fun _ _ _ h => h
        case hy18 => (refine Or.inl ⟨by rfl, ?_⟩; intro w hSw; (try dsimp only at hSw); go_simp; (try with_reducible rfl))
        simp only [Act.put, List.setIfInBounds_toArray, List.set_cons_zero, List.set_cons_succ]
        refine wpAnyZ_one (i := 2) (o := ?o19) (by kernel_rfl) ?hi19 (fun K hK => ?rest19)
        case hi19 => simp only [List.getElem?_toArray, List.getElem?_cons_succ, List.getElem?_cons_zero]; rfl
        go_simp
        refine (HC1.out _ BB.out).mono ?_
        rintro e u1 ⟨A1, c1, rfl, o1, b1⟩
        (try dsimp only)
        have BBn := BB.out.trans (b1.mono BB.out.size)
        refine hK.out _ _ (.inr (HS.out _ BBn)) ?_
        clear hK K
        (try simp only [Act.put, List.setIfInBounds_toArray, List.set_cons_zero, List.set_cons_succ])
        have P1 := Lib.hid (own_read o1)
        clear o1 b1
        clear BB
        have BB := Lib.hid BBn
        clear BBn
        refine wpAnyZ_one (i := 5) (o := ?o20) (by kernel_rfl) ?hi20 (fun K hK => ?rest20)
        case hi20 => simp only [List.getElem?_toArray, List.getElem?_cons_succ, List.getElem?_cons_zero]; rfl
        go_simp
        refine (HC2.out _ BB.out).mono ?_
        rintro e u2 ⟨A2, c2, rfl, o2, b2⟩
        (try dsimp only)
        have BBn := BB.out.trans (b2.mono BB.out.size)
        refine hK.out _ _ (.inr (HS.out _ BBn)) ?_
        clear hK K
        (try simp only [Act.put, List.setIfInBounds_toArray, List.set_cons_zero, List.set_cons_succ])
        have P2 := Lib.hid (own_read o2)
        have P1n := Lib.hid (P1.out.keep b2.block)
        clear P1 o2 b2
        have P1 := P1n
        clear P1n
        clear BB
        have BB := Lib.hid BBn
        clear BBn
        refine wpAnyZ_one (i := 6) (o := ?o21) (by kernel_rfl) ?hi21 (fun K hK => ?rest21)
        case hi21 => simp only [List.getElem?_toArray, List.getElem?_cons_succ, List.getElem?_cons_zero]; rfl
        have hsame := Lib.hid (same_b A1 A2 c1 c2 X u2 (IntsIn.of P1.out) (IntsIn.of P2.out) (by omega))
        clear P1 P2
        go_simp
        refine (hsame.out).mono ?_
        rintro e u3 ⟨rfl, b3⟩
        (try dsimp only)
        have BBn := BB.out.trans (b3.mono BB.out.size)
        refine hK.out _ _ (.inr (HS.out _ BBn)) ?_
        clear hK K
        (try simp only [Act.put, List.setIfInBounds_toArray, List.set_cons_zero, List.set_cons_succ])
        clear b3 hsame
        clear BB
        have BB := Lib.hid BBn
        clear BBn
        refine wpAnyZ_take (i := 7) (oi := ?o22) (v := ?v22) ?hi22 (by kernel_rfl) (by kernel_rfl) (by kernel_rfl) (by kernel_rfl) ?hq22 ?hy22 (HS.out _ BB.out) ?rest22
        case hi22 => simp only [List.getElem?_toArray, List.getElem?_cons_succ, List.getElem?_cons_zero]; rfl
        case hq22 => exact fun _ _ _ h => h
        case hy22 => (refine Or.inl ⟨by rfl, ?_⟩; intro w hSw; (try dsimp only at hSw); go_simp; (try with_reducible rfl))
        simp only [Act.put, List.setIfInBounds_toArray, List.set_cons_zero, List.set_cons_succ]
        refine wpAnyZ_done (by kernel_rfl) ?_ _
        have B1 := Lib.hid (B0.out.trans (BB.out.mono B0.out.size))
        clear BB B0 HC1 HC2 HVV HXX HS x0 x1 y0 y1
        go_wp2
        go_roundw
        case rel => exact ⟨k + 1, by omega, by go_num, B1⟩
        case measure => simp [intOf]; omega
    · have hsame := Lib.hid (same_b A2 A1 c2 c1 N wr (vol_ints HXX.out) (vol_ints HVV.out) (by omega))
      go_wp2_with fail
      refine hsame.out.mono ?_
      rintro e w8 ⟨rfl, b8⟩
      obtain ⟨y0, y1, x0', x1'⟩ := HS.out w8 b8
      have X8 := Lib.hid (HXX.out.below b8)
      have C8 := Lib.hid (C7.out.trans ((B0.out.trans (b8.mono B0.out.size)).mono C7.out.size))
      have hqe : ((q : Int) == (S.length : Int) - 1) = true := by simp [hqS]
      have hw := Lib.hid (implVol_any _ N Q w8 X8.out (by omega) (by omega))
      clear b8 B0 hsame HXX HVV HS x0 x1
      go_wp2_with fail
      refine hw.out.mono ?_
      rintro e w9 ⟨rfl, b9⟩
      rw [HVX.out]
      have C9 := Lib.hid (C8.out.trans (b9.mono C8.out.size))
      clear b9
      go_wp2
      go_ret
      exact ⟨rfl, C9.out⟩

set_option maxRecDepth 100000 in
theorem lifted (os : Os) (started : os.Started) (H : Type) (enc : TypeId × Value → H) :
    ReturnsInHanded {} Try.checked os 12 .any (Rows.fnDropShotSpec.pre6 enc Try.prog Try.f12 Rows.fnDropShotRow.domain false) (Rows.fnDropShotSpec.post enc Try.prog Try.f12 false true false false) := by
  refine returnsInHanded_of_change (C := Try.checked) own started (by kernel_rfl) Try.func12
    (ChangeSpec.witness6 (enc := enc) (C := Try.checked) false ⟨#[], #[.slice none 0 0], []⟩ 8 (by kernel_rfl) (by kernel_rfl) (by kernel_rfl) (by kernel_rfl)) ?_
  intro W base args ds gs before hval0 hW hcnd _
  have hval : ∀ (j : Nat) t v, Try.f12.params[j]? = some t → args[j]? = some v → Value.okWide Try.prog W .any base t v := hval0
  have hW' := hW
  obtain ⟨p, q, hA0, hV, rfl, hfz, hnd⟩ := hW
  have hA : DataW.TrodAll enc Try.prog W 0 (fun _ => true) true Try.f12.params.toList args.toList ds p := hA0
  rw [Try.params12] at hA hval
  obtain ⟨v0, vs0, d0, ds0, p0, q0, hargs, rfl, rfl, h0, r0⟩ := trodAll_cons hA
  obtain ⟨rfl, rfl, rfl⟩ := trodAll_nil r0
  obtain rfl : args = #[v0] := by cases args; simp_all
  obtain ⟨rfl, rfl⟩ := trodVars_none hV
  have k0 := h0
  have lt0 : ∀ x ∈ p0, x.block < W.heap.size := by obtain ⟨m, hm⟩ := k0; exact DataW.trod_lt m _ _ _ hm
  obtain ⟨a0, n0, c0, rfl, ok0, le0, cl0⟩ := open_bytes (hval 0 40 v0 rfl rfl) h0
  clear hA0 hval0
  refine (walk a0 n0 c0 W ok0 le0 cl0).mono fun e W' ⟨he, bel⟩ => ?_
  subst he
  exact ⟨_, rfl, _, _, _, [], _, [], hW', trodAll_mk1 (shut_bool Try.underlying4 _), (trodAll_cons_mk (Below.trod laidOut (by kernel_rfl) (of_decide_eq_true (by kernel_rfl)) k0 bel lt0) trodAll_mk0), rfl, bel.frame _, fun h => by cases h⟩

theorem proved : Rows.FnDropShotSaid :=
  OpenClaim.holds_of_wide 12 Try.f12 rfl rfl rfl rfl rfl rfl rfl ⟨rfl, rfl, rfl, rfl, rfl⟩ rfl rfl rfl rfl rfl (by kernel_rfl) Try.func12 (by kernel_rfl)
    (of_decide_eq_true (by kernel_rfl)) (by unfold Func.isWrapper; first | (rw [if_pos (by decide +kernel)]; kernel_rfl) | (rw [if_neg (by decide +kernel)]; exact ⟨rfl, rfl⟩))
    (fun os started H enc _ => lifted os started H enc)
#print axioms proved
end Go.Proofs.Ytkjjieofoolnhaa.fnDropShot
