/- Proves Rows.FnArrayConsistentSaid: for every input the law FnArrayConsistent returns true and leaves its arguments as they were. Conditions: none. -/
import Derived.Test.YtgdbchodlapdpaaOpen
import Derived.Test.YtgdbchodlapdpaaHdrR
import Derived.Test.YtgdbchodlapdpaaRegZ
namespace Go.Proofs.Ytgdbchodlapdpaa.fnArrayConsistent
open Go.ChangeShapes Go.WideShapes Go.ChangeAt Go.RowKit
set_option linter.unusedVariables false
set_option linter.unusedSimpArgs false in
set_option maxHeartbeats 8000000 in
theorem walk (A : Option Addr) (m cp : Nat) (w : World) (hb : BytesIn w A m) (hmc : m ≤ cp) (hcp : cp ≤ 9223372036854775807) :
    Calls Try.prog 7 #[.slice A m cp] w fun e w' => e = .returned (.bool true) ∧ Below w.heap.size w w' := by
  obtain ⟨i0, hi0, hz0, hz1, hz2⟩ := info_parts info_i1
  obtain ⟨i1, hi1, hy0, hy1, hy2⟩ := info_parts info_row
  by_cases hbig : 1048576 < m
  · go_enter Try.func7, Try.ntmps7
    go_wp2
    go_ret
    exact ⟨rfl, Below.refl _ _⟩
  go_enter Try.func7, Try.ntmps7
  go_wp2_with fail
  refine (drawAC_any A m cp w hb hmc hcp).mono ?_
  rintro e w1 ⟨A1, c1, L, rfl, ht, l1, lc, hc1, hs, b1⟩
  have T1 := Lib.hid ht
  have C1 := Lib.hid b1
  clear b1 hb ht
  go_wp2_with fail
  refine (implCon_any A1 c1 L _ T1.out (by omega)).mono ?_
  rintro e w2 ⟨rfl, b2⟩
  have T2 := Lib.hid (T1.out.below b2)
  have C2 := Lib.hid (C1.out.trans (b2.mono C1.out.size))
  clear b2 T1 C1
  go_wp2_with fail
  refine (specCon_any A1 c1 L _ T2.out (by omega)).mono ?_
  rintro e w3 ⟨rfl, b3⟩
  have hcc : (conB L != conB L) = false := by simp
  have T3 := Lib.hid (T2.out.below b3)
  have C3 := Lib.hid (C2.out.trans (b3.mono C2.out.size))
  clear b3 T2 C2
  go_wp2_with fail
  refine (specArr_any A1 c1 L _ T3.out (by omega)).mono ?_
  rintro e w4 ⟨rfl, b4⟩
  have T4 := Lib.hid (T3.out.below b4)
  have C4 := Lib.hid (C3.out.trans (b4.mono C3.out.size))
  clear b4 T3 C3
  cases ha : arrB L
  · have hcf : conB L = false := by simp [conB, ha]
    rw [hcf]
    clear hcc
    go_wp2_with (go_at_call 22; refine (alive_any _).mono ?_; rintro e w7 ⟨rfl, hb7⟩)
    go_ret
    exact ⟨rfl, C4.out.trans (hb7.mono C4.out.size)⟩
  have HA := Lib.hid (ArrOk.of ha)
  obtain ⟨n2, n6, hm16, _⟩ := arr_parts ha
  have HZ0 := Lib.hid (zeros_con ha)
  have ZOK := Lib.hid (zeros_ok (D := L.length) (m := headN L) (by omega) (by omega) hm16)
  have HFL := Lib.hid (fun (hc : conB L = true) (hm : 0 < headN L) => flip_con hc hm)
  obtain ⟨b, off, hA1, _⟩ := T4.out (by omega)
  subst hA1
  clear ha hcc
  obtain ⟨M, hM⟩ : ∃ M, M = headN L := ⟨_, rfl⟩
  rw [← hM] at hm16 HZ0 ZOK HA HFL
  have HM := Lib.hid hM
  clear hM
  obtain ⟨D, hD⟩ : ∃ D, D = L.length := ⟨_, rfl⟩
  rw [← hD] at HZ0 ZOK HA n2 n6 l1 lc hs ⊢
  have HD := Lib.hid hD
  clear hD
  have HX := Lib.hid (fun (u : World) (hu : Below w4.heap.size w4 u) => show ∃ A0 c0, u.cell? ⟨b, off, none⟩ = some (.slice A0 M c0) ∧ ReadC u A0 (CI (L[0]'(by rw [← HD.out]; omega))) by
    obtain ⟨A0, c0, x, y⟩ := rows_hd0 T4.out (by rw [← HD.out]; omega)
    rw [HM.out]
    exact ⟨A0, c0, cell_keepA x hu, y.keep hu.block⟩)
  go_wp2
  go_loopw [5, 6] (fun x y wr => ∃ (k : Nat) (A6 : Option Addr) (c6 : Nat) (hs : List Value), k ≤ D ∧ x = .slice A6 k c6 ∧ y = .int .i64 k ∧ Hid (wr.ownsRow w4.heap.size 30 1 (.slice A6 k c6) k hs) ∧ Hid (HdrsR (Value.slice A6 k c6).ownBlock wr hs (List.replicate k (List.replicate M 0))) ∧ Hid (Below w4.heap.size w4 wr)) (fun _ y _ => D - (intOf y).toNat)
  case atStart => exact ⟨0, _, _, [], Nat.zero_le _, rfl, rfl, Lib.hid (World.ownsRow_lit (e := 30) (size := 1) (base := w4.heap.size) w4 #[] 0 (Nat.le_refl _) (by simp [maxLen]) (by simp)), Lib.hid (HdrsR.nil _ _), Lib.hid (b_alloc (Below.refl _ _) _)⟩
  case round =>
    obtain ⟨k, A6, c6, hsv, hk, rfl, rfl, O6, H6, B6⟩ := hrel
    by_cases hlt : k < D
    · obtain ⟨A0, c0, x0, y0⟩ := HX.out wr B6.out
      have hwz := B6.out.size
      have hmk : (Instr.makeSlice 30 (.int .i64 (M : Int)) (.int .i64 (M : Int))).run Try.prog wr = .ok (.slice (some ⟨wr.heap.size, 0, none⟩) M M) (wr.alloc (.cells (madeCells #[.int .i64 0] M) 3)) := by
        have := make_rows (P := Try.prog) 30 3 (.int .i64 0) 1 8 Try.underlying30 info_i1 M (by omega) (by omega) wr
        rw [Nat.mul_one] at this
        exact this
      have B7 := Lib.hid (show Below w4.heap.size w4 ((wr.alloc (.cells (madeCells #[.int .i64 0] M) 3)).alloc (.cells #[.slice (some ⟨wr.heap.size, 0, none⟩) M M] 30)) from b_alloc (b_alloc B6.out _) _)
      have O7 := Lib.hid ((O6.out.alloc (.cells (madeCells #[.int .i64 0] M) 3)).alloc (.cells #[.slice (some ⟨wr.heap.size, 0, none⟩) M M] 30))
      have bb : Below wr.heap.size wr ((wr.alloc (.cells (madeCells #[.int .i64 0] M) 3)).alloc (.cells #[.slice (some ⟨wr.heap.size, 0, none⟩) M M] 30)) := b_alloc (b_alloc (Below.refl _ _) _) _
      have H7 := Lib.hid (H6.out.keep bb)
      have RD := Lib.hid (show ReadC ((wr.alloc (.cells (madeCells #[.int .i64 0] M) 3)).alloc (.cells #[.slice (some ⟨wr.heap.size, 0, none⟩) M M] 30)) (some ⟨wr.heap.size, 0, none⟩) (CI (List.replicate M 0)) from (made_read wr M).keep fun k hk => Below.heap_alloc _ _ k hk)
      have RH := Lib.hid (show ReadC ((wr.alloc (.cells (madeCells #[.int .i64 0] M) 3)).alloc (.cells #[.slice (some ⟨wr.heap.size, 0, none⟩) M M] 30)) (some ⟨wr.heap.size + 1, 0, none⟩) [.slice (some ⟨wr.heap.size, 0, none⟩) M M] by
        have := aread_new (w := wr.alloc (.cells (madeCells #[.int .i64 0] M) 3)) (T := 30) (cs := #[.slice (some ⟨wr.heap.size, 0, none⟩) M M]) (xs := [.slice (some ⟨wr.heap.size, 0, none⟩) M M]) rfl
        simpa using this)
      have OLT := Lib.hid (fun g (hg : (Value.slice A6 k c6).ownBlock = some g) => (O6.out.lt g hg).2)
      clear bb O6 H6 B6 y0
      go_wp2_with (at_builtin; refine wpList_append_r _ rfl (.tmp 34) (.tmp 40) 22 rfl w4.heap.size 30 i1 (.slice none 0 0) 1 24 Try.underlying22 hi1 hy0 hy1 hy2 rfl (by decide) _ k hsv O7.out rfl _ 1 1 [.slice (some ⟨wr.heap.size, 0, none⟩) M M] (by simpa using RH.out) rfl rfl (by intro u hu; simp at hu; subst hu; rfl) (by simp only [maxLen]; omega) (by omega) (by simp; omega) ?_; intro v8 w8 o8 g8 n8; obtain ⟨A8, c8, rfl⟩ := own_slice o8)
      have O8 := Lib.hid o8
      have H8 := Lib.hid (show HdrsR (Value.slice A8 (k + 1) c8).ownBlock w8 (hsv ++ [.slice (some ⟨wr.heap.size, 0, none⟩) M M]) (List.replicate (k + 1) (List.replicate M 0)) by
        have := H7.out.grow (r := List.replicate M 0) (Ar := some ⟨wr.heap.size, 0, none⟩) (cr := M) g8 n8 RD.out (fun _ b off e => by
          injection e with e
          injection e with e1 e2
          subst e1
          intro e3
          have := OLT.out _ e3
          omega) (by simp) (by omega)
        rw [List.length_replicate, ← List.replicate_succ'] at this
        exact this)
      have B8 := Lib.hid (Below.grown B7.out g8 B7.out.size (fun k hk => (O7.out.lt k hk).1))
      clear O7 H7 RD RH B7 OLT o8 g8 n8 hmk
      go_roundw
      case rel => exact ⟨k + 1, A8, c8, _, by omega, rfl, by go_num, O8, H8, B8⟩
      case measure => simp [intOf]; omega
    · have hkD : k = D := by omega
      subst hkD
      have Z5 := Lib.hid (H6.out.rows O6.out)
      have C5 := Lib.hid (C4.out.trans (B6.out.mono C4.out.size))
      have T5 := Lib.hid (T4.out.below B6.out)
      have HX5 := Lib.hid (HX.out wr B6.out)
      have hzc := Lib.hid (fun (u : World) (h : RowsR CI u A6 (List.replicate k (List.replicate M 0))) => show Calls Try.prog 20 #[.slice A6 k c6] u (fun e w' => e = .returned (.bool true) ∧ Below u.heap.size u w') by
        have := implCon_any A6 c6 (List.replicate k (List.replicate M 0)) u h (by have := arr_small ZOK.out; omega)
        rw [List.length_replicate] at this
        refine this.mono fun e w' h => ?_
        obtain ⟨h1, h2⟩ := h
        rw [HZ0.out] at h1
        exact ⟨h1, h2⟩)
      clear O6 H6 B6 T4 C4 HX HZ0 ZOK hlt hk
      obtain ⟨D, hDk⟩ : ∃ D, D = k := ⟨_, rfl⟩
      subst hDk
      obtain ⟨w5, hw5⟩ : ∃ w5, w5 = wr := ⟨_, rfl⟩
      subst hw5
      obtain ⟨A0, c0, x0, y0⟩ := HX5.out
      have RD0 := Lib.hid y0
      clear y0 HX5
      cases hc : conB L
      · go_wp2_with fail
        refine (hzc.out _ Z5.out).mono ?_
        rintro e w6 ⟨rfl, b6⟩
        go_wp2
        go_ret
        exact ⟨rfl, C5.out.trans (b6.mono C5.out.size)⟩
      rcases Nat.eq_zero_or_pos M with hM0 | hM0
      · have e0 : ((M : Int) == 0) = true := by simp [hM0]
        clear hM0
        go_wp2_with fail
        refine (hzc.out _ Z5.out).mono ?_
        rintro e w6 ⟨rfl, b6⟩
        go_wp2
        go_ret
        exact ⟨rfl, C5.out.trans (b6.mono C5.out.size)⟩
      have e0 : ((M : Int) == 0) = false := by rw [beq_eq_false_iff_ne]; omega
      have hfl := Lib.hid (HFL.out hc hM0)
      obtain ⟨tl, htl, hrtl⟩ := tail_hdrs T5.out (by rw [← HD.out]; omega)
      have TL := Lib.hid htl
      have RTL := Lib.hid hrtl
      have HTL := Lib.hid (show tl.length = D - 1 by rw [htl.1, List.length_tail, HD.out])
      have hl0 : (L[0]'(by rw [← HD.out]; omega)).length = M := (HA.out.2.2.2.2 _ (List.getElem_mem _)).1
      have he0 : L = (L[0]'(by rw [← HD.out]; omega)) :: L.tail := by
        have hpos : 0 < L.length := by rw [← HD.out]; omega
        cases L with
        | nil => simp at hpos
        | cons q t => rfl
      obtain ⟨L0, hL0⟩ : ∃ q, q = L[0]'(by rw [← HD.out]; omega) := ⟨_, rfl⟩
      rw [← hL0] at hl0 he0 RD0
      have HL0 := Lib.hid hl0
      have HE0 := Lib.hid he0
      have jx0 : 0 < D := by omega
      have jx1 : 1 ≤ D := by omega
      have jx2 : 1 < c1 := by omega
      have jx3 : ¬ c1 - 1 = 0 := by omega
      have jx4 : ¬ c1 = 1 := by omega
      have ix0 : (1 : Int) ≤ (D : Int) := by omega
      have ix1 : (1 : Int) ≤ (c1 : Int) := by omega
      have ix2 : (1 : Int) < (c1 : Int) := by omega
      have ix3 : (0 : Int) < (D : Int) := by omega
      have ix4 : (D : Int) ≤ (c1 : Int) := by omega
      clear hc htl hrtl hl0 he0 hL0 HFL
      go_wp2
      refine wp_region_Z (fun w' : World => w'.cell? ⟨b, off, none⟩ = some (.slice A0 M c0)) 99 (by kernel_rfl) ?_
      generalize hv0 : w5.drew = u0
      have BB := Lib.hid (show Below w5.heap.size w5 u0 by rw [← hv0]; exact (Below.refl _ _).drew)
      clear hv0
      refine wpAnyZ_take (i := 1) (oi := ?o1) (v := ?v1) ?hi1 (by kernel_rfl) (by kernel_rfl) (by kernel_rfl) (by kernel_rfl) ?hq1 ?hy1 (cell_keepA x0 BB.out) ?rest1
      case hi1 => simp only [List.getElem?_toArray, List.getElem?_cons_succ, List.getElem?_cons_zero]; rfl
      case hq1 => exact fun _ _ _ h => h
      case hy1 => (refine Or.inl ⟨by rfl, ?_⟩; intro w hSw; (try dsimp only at hSw); go_simp; (try with_reducible rfl))
      simp only [Act.put, List.setIfInBounds_toArray, List.set_cons_zero, List.set_cons_succ]
      refine wpAnyZ_take (i := 2) (oi := ?o2) (v := ?v2) ?hi2 (by kernel_rfl) (by kernel_rfl) (by kernel_rfl) (by kernel_rfl) ?hq2 ?hy2 (cell_keepA x0 BB.out) ?rest2
      case hi2 => simp only [List.getElem?_toArray, List.getElem?_cons_succ, List.getElem?_cons_zero]; rfl
      case hq2 => exact fun _ _ _ h => h
      case hy2 => (refine Or.inl ⟨by rfl, ?_⟩; intro w hSw; (try dsimp only at hSw); go_simp; (try with_reducible rfl))
      simp only [Act.put, List.setIfInBounds_toArray, List.set_cons_zero, List.set_cons_succ]
      refine wpAnyZ_take (i := 3) (oi := ?o3) (v := ?v3) ?hi3 (by kernel_rfl) (by kernel_rfl) (by kernel_rfl) (by kernel_rfl) ?hq3 ?hy3 (cell_keepA x0 BB.out) ?rest3
      case hi3 => simp only [List.getElem?_toArray, List.getElem?_cons_succ, List.getElem?_cons_zero]; rfl
      case hq3 => exact fun _ _ _ h => h
      case hy3 => (refine Or.inl ⟨by rfl, ?_⟩; intro w hSw; (try dsimp only at hSw); go_simp; (try with_reducible rfl))
      simp only [Act.put, List.setIfInBounds_toArray, List.set_cons_zero, List.set_cons_succ]
      refine wpAnyZ_take (i := 6) (oi := ?o4) (v := ?v4) ?hi4 (by kernel_rfl) (by kernel_rfl) (by kernel_rfl) (by kernel_rfl) ?hq4 ?hy4 (cell_keepA x0 BB.out) ?rest4
      case hi4 => simp only [List.getElem?_toArray, List.getElem?_cons_succ, List.getElem?_cons_zero]; rfl
      case hq4 => exact fun _ _ _ h => h
      case hy4 => (refine Or.inl ⟨by rfl, ?_⟩; intro w hSw; (try dsimp only at hSw); go_simp; (try with_reducible rfl))
      simp only [Act.put, List.setIfInBounds_toArray, List.set_cons_zero, List.set_cons_succ]
      refine wpAnyZ_take (i := 7) (oi := ?o5) (v := ?v5) ?hi5 (by kernel_rfl) (by kernel_rfl) (by kernel_rfl) (by kernel_rfl) ?hq5 ?hy5 (cell_keepA x0 BB.out) ?rest5
      case hi5 => simp only [List.getElem?_toArray, List.getElem?_cons_succ, List.getElem?_cons_zero]; rfl
      case hq5 => exact fun _ _ _ h => h
      case hy5 => (refine Or.inl ⟨by rfl, ?_⟩; intro w hSw; (try dsimp only at hSw); go_simp; (try with_reducible rfl))
      simp only [Act.put, List.setIfInBounds_toArray, List.set_cons_zero, List.set_cons_succ]
      refine wpAnyZ_one (i := 0) (o := ?o6) (by kernel_rfl) ?hi6 (fun K hK => ?rest6)
      case hi6 => simp only [List.getElem?_toArray, List.getElem?_cons_succ, List.getElem?_cons_zero]; rfl
      go_simp
      have BBn := b_alloc BB.out (.cells #[] 3)
      have hbz := BB.out.size
      have OB := Lib.hid (World.ownsRow_lit (e := 3) (size := 1) (base := w5.heap.size) u0 #[] 0 BB.out.size (by simp [maxLen]) (by simp))
      refine hK.out _ _ (.inr (cell_keepA x0 BBn)) ?_
      clear hK K
      (try simp only [Act.put, List.setIfInBounds_toArray, List.set_cons_zero, List.set_cons_succ])
      clear BB
      have BB := Lib.hid BBn
      clear BBn
      obtain ⟨p1, hp1⟩ : ∃ x, x = u0.heap.size := ⟨_, rfl⟩
      generalize hvv : u0.alloc (.cells #[] 3) = u1 at *
      rw [← hp1] at OB hbz ⊢
      clear hvv hp1
      refine wpAnyZ_one (i := 4) (o := ?o7) (by kernel_rfl) ?hi7 (fun K hK => ?rest7)
      case hi7 => simp only [List.getElem?_toArray, List.getElem?_cons_succ, List.getElem?_cons_zero]; rfl
      refine step_append_rg _ (by rfl) (.tmp 53) (.tmp 56) 30 (by rfl) w5.heap.size 3 i0 (.int .i64 0) 1 8 Try.underlying30 hi0 hz0 hz1 hz2 rfl (by decide) _ 0 [] OB.out ?_ A0 M c0 (CI L0) (RD0.out.keep BB.out.block) (by simp [Act.eval, Act.put] <;> fail) (by rw [List.length_map, HL0.out, Nat.mul_one]) (aints_one L0) (by simp only [maxLen]; omega) (by omega) BB.out.size ?_
      simp [Act.eval, Act.put]
      intro v5 u2 o5 g5 d5
      rw [Nat.zero_add, List.nil_append] at o5
      obtain ⟨A5, c5, rfl⟩ := own_slice o5
      have BBn := Below.grown BB.out g5 BB.out.size (fun k hk => (OB.out.lt k hk).1)
      have hbz2 := BBn.size
      refine hK.out _ _ (.inr (cell_keepA x0 BBn)) ?_
      clear hK K
      (try simp only [Act.put, List.setIfInBounds_toArray, List.set_cons_zero, List.set_cons_succ])
      have O5 := Lib.hid o5
      clear OB o5 g5 d5 BB hbz
      have BB := Lib.hid BBn
      clear BBn
      refine wpAnyZ_one (i := 5) (o := ?o8) (by kernel_rfl) ?hi8 (fun K hK => ?rest8)
      case hi8 => simp only [List.getElem?_toArray, List.getElem?_cons_succ, List.getElem?_cons_zero]; rfl
      go_simp
      have BBn := b_alloc BB.out (.cells #[.slice A5 M c5] 30)
      have O5n := Lib.hid (O5.out.alloc (.cells #[.slice A5 M c5] 30))
      have OLT := Lib.hid (fun g (hg : (Value.slice A5 M c5).ownBlock = some g) => O5.out.lt g hg)
      have OU := Lib.hid (World.ownsRow_lit (e := 30) (size := 1) (base := w5.heap.size) u2 #[.slice A5 M c5] 1 BB.out.size (by simp [maxLen]) (by simp))
      refine hK.out _ _ (.inr (cell_keepA x0 BBn)) ?_
      clear hK K
      (try simp only [Act.put, List.setIfInBounds_toArray, List.set_cons_zero, List.set_cons_succ])
      clear BB O5
      have BB := Lib.hid BBn
      clear BBn
      obtain ⟨p2, hp2⟩ : ∃ x, x = u2.heap.size := ⟨_, rfl⟩
      generalize hvv : u2.alloc (.cells #[.slice A5 M c5] 30) = u3 at *
      rw [← hp2] at OU OLT hbz2 ⊢
      clear hvv hp2
      refine wpAnyZ_one (i := 8) (o := ?o9) (by kernel_rfl) ?hi9 (fun K hK => ?rest9)
      case hi9 => simp only [List.getElem?_toArray, List.getElem?_cons_succ, List.getElem?_cons_zero]; rfl
      refine step_append_rg _ (by rfl) (.tmp 58) (.tmp 60) 22 (by rfl) w5.heap.size 30 i1 (.slice none 0 0) 1 24 Try.underlying22 hi1 hy0 hy1 hy2 rfl (by decide) _ 1 [.slice A5 M c5] OU.out ?_ (some ⟨b, off + 1, none⟩) (D - 1) (c1 - 1) tl (RTL.out.keep BB.out.block) (by simp [Act.eval, Act.put] <;> fail) (by rw [HTL.out, Nat.mul_one]) TL.out.one (by simp only [maxLen]; omega) (by omega) BB.out.size ?_
      simp [Act.eval, Act.put]
      intro v9 u4 o9 g9 d9
      rw [show 1 + (D - 1) = D by omega, List.singleton_append] at o9
      obtain ⟨A9, c9, rfl⟩ := own_slice o9
      have BBn := Below.grown BB.out g9 BB.out.size (fun k hk => (OU.out.lt k hk).1)
      have O6 := Lib.hid (own_block O5n.out (fun g hg => g9.block g (O5n.out.lt g hg).2 (fun e => by simp [Value.ownBlock] at e; have := (OLT.out g hg).2; omega)))
      refine hK.out _ _ (.inr (cell_keepA x0 BBn)) ?_
      clear hK K
      (try simp only [Act.put, List.setIfInBounds_toArray, List.set_cons_zero, List.set_cons_succ])
      have O9 := Lib.hid o9
      have ND := Lib.hid (fun g (hg : (Value.slice A5 M c5).ownBlock = some g) (h9 : (Value.slice A9 D c9).ownBlock = some g) => show False by
        rcases d9 with d9 | d9
        · rw [d9] at h9; simp [Value.ownBlock] at h9; have := (OLT.out g hg).2; omega
        · rw [d9] at h9; injection h9 with h9; have := (O5n.out.lt g hg).2; omega)
      clear OU O5n OLT o9 g9 d9 BB
      have BB := Lib.hid BBn
      clear BBn
      refine wpAnyZ_take (i := 9) (oi := ?o10) (v := ?v10) ?hi10 (by kernel_rfl) (by kernel_rfl) (by kernel_rfl) (by kernel_rfl) ?hq10 ?hy10 (cell_keepA x0 BB.out) ?rest10
      case hi10 => simp only [List.getElem?_toArray, List.getElem?_cons_succ, List.getElem?_cons_zero]; rfl
      case hq10 => exact fun _ _ _ h => h
      case hy10 => (refine Or.inl ⟨by rfl, ?_⟩; intro w hSw; (try dsimp only at hSw); go_simp; (try with_reducible rfl))
      simp only [Act.put, List.setIfInBounds_toArray, List.set_cons_zero, List.set_cons_succ]
      refine wpAnyZ_done (by kernel_rfl) ?_ _
      have hl0m := HL0.out
      obtain ⟨z, hz⟩ : ∃ z : Int, z = L0[0]'(by omega) := ⟨_, rfl⟩
      rcases own_cases O9.out with ⟨_, h0⟩ | ⟨g9, cap9, hv9, hg9, hg9s⟩
      · omega
      injection hv9 with hA9 _ hc9
      subst hA9 hc9
      rcases own_cases O6.out with ⟨_, h0⟩ | ⟨g5, cap5, hv5, hg5, hg5s⟩
      · omega
      injection hv5 with hA5 _ hc5
      subst hA5 hc5
      have hne95 : g9 ≠ g5 := fun e => ND.out g5 rfl (by rw [← e]; rfl)
      have hzz : cellV L 0 0 = z := by
        rw [hz]
        unfold cellV
        rw [HE0.out]
        show L0.getD 0 0 = _
        exact getD_get (by omega)
      have hzr := HA.out.cell (i := 0) (j := 0) (by omega) (by omega)
      rw [hzz] at hzr hfl
      have hstored := O6.out.stored 0 (.int .i64 (255 - z))
      have y5 := O6.out.cellAt 0 (by omega)
      have f5 := O6.out.frozenAt 0
      have y9 := O9.out.cellAt 0 (by omega)
      rw [List.getElem?_eq_getElem (by rw [List.length_map]; omega), List.getElem_map] at y5
      simp only [List.getElem?_cons_zero] at y9
      have hw1 : wrt1 L 0 0 (255 - z) = (L0.set 0 (255 - z)) :: L.tail := by
        unfold wrt1
        rw [HE0.out]
        rfl
      have ho5 : ((u4.drew.setCell ⟨g5, 0, none⟩ (.int .i64 (255 - z))).ownsRow w5.heap.size 3 1 (.slice (some ⟨g5, 0, none⟩) M c5) M (CI (L0.set 0 (255 - z)))) := by
        have h1 := hstored.1
        have h2 : CI (L0.set 0 (255 - z)) = (CI L0).set 0 (.int .i64 (255 - z)) := by
          show (L0.set 0 _).map _ = (L0.map _).set 0 _
          rw [List.map_set]
        rw [h2]
        exact h1
      have ho9 : ((u4.drew.setCell ⟨g5, 0, none⟩ (.int .i64 (255 - z))).ownsRow w5.heap.size 30 1 (.slice (some ⟨g9, 0, none⟩) D c9) D (.slice (some ⟨g5, 0, none⟩) M c5 :: tl)) :=
        own_far (p := ⟨g5, 0, none⟩) (show u4.drew.ownsRow w5.heap.size 30 1 (.slice (some ⟨g9, 0, none⟩) D c9) D (.slice (some ⟨g5, 0, none⟩) M c5 :: tl) from O9.out) (fun g hg => by simp [Value.ownBlock] at hg; show g ≠ g5; omega) _
      have BB2 : Below w5.heap.size w5 (u4.drew.setCell ⟨g5, 0, none⟩ (.int .i64 (255 - z))) := (b_drew BB.out).setCell (p := ⟨g5, 0, none⟩) hg5 _
      have hrl : (L0.set 0 (255 - z)).length = M := by rw [List.length_set]; exact hl0m
      have hcap := own_cap ho5
      have RB := rows_cons (r := L0.set 0 (255 - z)) TL.out BB2 (by rw [hrl]; exact ho9) (own_read ho5) (by rw [hrl]; exact hcap.1) hcap.2
      rw [← hw1] at RB
      have RBH := Lib.hid RB
      have BBH := Lib.hid BB2
      have hbc := Lib.hid (fun (u : World) (h : RowsR CI u (some ⟨g9, 0, none⟩) (wrt1 L 0 0 (255 - z))) => show Calls Try.prog 20 #[.slice (some ⟨g9, 0, none⟩) D c9] u (fun e w' => e = .returned (.bool false) ∧ Below u.heap.size u w') by
        have := implCon_any (some ⟨g9, 0, none⟩) c9 _ u h (by have := arr_small (HA.out.set1 (k := 0) (r := 0) (x := 255 - z) (by omega) (by omega)); omega)
        rw [wrt1_length, ← HD.out] at this
        refine this.mono fun e w' h => ?_
        obtain ⟨h1, h2⟩ := h
        rw [hfl.out] at h1
        exact ⟨h1, h2⟩)
      rw [← hz] at y5
      clear hstored hw1 ho5 ho9 BB2 RB hz hzz hfl hrl O6 O9 ND TL RTL HTL HE0 RD0 BB x0
      go_wp2
      refine wp_region_Z (fun w' : World => w'.cell? ⟨g9, 0, none⟩ = some (.slice (some ⟨g5, 0, none⟩) M c5) ∧ w'.cell? ⟨g5, 0, none⟩ = some (.int .i64 z)) 10 (by kernel_rfl) ?_
      have hHeld : (fun w' : World => w'.cell? ⟨g9, 0, none⟩ = some (.slice (some ⟨g5, 0, none⟩) M c5) ∧ w'.cell? ⟨g5, 0, none⟩ = some (.int .i64 z)) _ := ⟨y9, y5⟩
      refine wpAnyZ_take (i := 0) (oi := ?o11) (v := ?v11) ?hi11 (by kernel_rfl) (by kernel_rfl) (by kernel_rfl) (by kernel_rfl) ?hq11 ?hy11 hHeld ?rest11
      case hi11 => simp only [List.getElem?_toArray, List.getElem?_cons_succ, List.getElem?_cons_zero]; rfl
      case hq11 => exact fun _ _ _ h => h
      case hy11 => (refine Or.inl ⟨by rfl, ?_⟩; intro w hSw; (try dsimp only at hSw); go_simp; (try with_reducible rfl))
      simp only [Act.put, List.setIfInBounds_toArray, List.set_cons_zero, List.set_cons_succ]
      refine wpAnyZ_take (i := 1) (oi := ?o12) (v := ?v12) ?hi12 (by kernel_rfl) (by kernel_rfl) (by kernel_rfl) (by kernel_rfl) ?hq12 ?hy12 hHeld ?rest12
      case hi12 => simp only [List.getElem?_toArray, List.getElem?_cons_succ, List.getElem?_cons_zero]; rfl
      case hq12 => exact fun _ _ _ h => h
      case hy12 => (refine Or.inl ⟨by rfl, ?_⟩; intro w hSw; (try dsimp only at hSw); go_simp; (try with_reducible rfl))
      simp only [Act.put, List.setIfInBounds_toArray, List.set_cons_zero, List.set_cons_succ]
      refine wpAnyZ_take (i := 2) (oi := ?o13) (v := ?v13) ?hi13 (by kernel_rfl) (by kernel_rfl) (by kernel_rfl) (by kernel_rfl) ?hq13 ?hy13 hHeld ?rest13
      case hi13 => simp only [List.getElem?_toArray, List.getElem?_cons_succ, List.getElem?_cons_zero]; rfl
      case hq13 => exact fun _ _ _ h => h
      case hy13 => (refine Or.inl ⟨by rfl, ?_⟩; intro w hSw; (try dsimp only at hSw); go_simp; (try with_reducible rfl))
      simp only [Act.put, List.setIfInBounds_toArray, List.set_cons_zero, List.set_cons_succ]
      refine wpAnyZ_take (i := 3) (oi := ?o14) (v := ?v14) ?hi14 (by kernel_rfl) (by kernel_rfl) (by kernel_rfl) (by kernel_rfl) ?hq14 ?hy14 hHeld ?rest14
      case hi14 => simp only [List.getElem?_toArray, List.getElem?_cons_succ, List.getElem?_cons_zero]; rfl
      case hq14 => exact fun _ _ _ h => h
      case hy14 => (refine Or.inl ⟨by rfl, ?_⟩; intro w hSw; (try dsimp only at hSw); go_simp; (try with_reducible rfl))
      simp only [Act.put, List.setIfInBounds_toArray, List.set_cons_zero, List.set_cons_succ]
      refine wpAnyZ_take (i := 4) (oi := ?o15) (v := ?v15) ?hi15 (by kernel_rfl) (by kernel_rfl) (by kernel_rfl) (by kernel_rfl) ?hq15 ?hy15 hHeld ?rest15
      case hi15 => simp only [List.getElem?_toArray, List.getElem?_cons_succ, List.getElem?_cons_zero]; rfl
      case hq15 => exact fun _ _ _ h => h
      case hy15 => (refine Or.inl ⟨by rfl, ?_⟩; intro w hSw; (try dsimp only at hSw); go_simp; (try with_reducible rfl))
      simp only [Act.put, List.setIfInBounds_toArray, List.set_cons_zero, List.set_cons_succ]
      refine wpAnyZ_take (i := 5) (oi := ?o16) (v := ?v16) ?hi16 (by kernel_rfl) (by kernel_rfl) (by kernel_rfl) (by kernel_rfl) ?hq16 ?hy16 hHeld ?rest16
      case hi16 => simp only [List.getElem?_toArray, List.getElem?_cons_succ, List.getElem?_cons_zero]; rfl
      case hq16 => exact fun _ _ _ h => h
      case hy16 => (refine Or.inl ⟨by rfl, ?_⟩; intro w hSw; (try dsimp only at hSw); go_simp; (try with_reducible rfl))
      simp only [Act.put, List.setIfInBounds_toArray, List.set_cons_zero, List.set_cons_succ]
      refine wpAnyZ_take (i := 6) (oi := ?o17) (v := ?v17) ?hi17 (by kernel_rfl) (by kernel_rfl) (by kernel_rfl) (by kernel_rfl) ?hq17 ?hy17 hHeld ?rest17
      case hi17 => simp only [List.getElem?_toArray, List.getElem?_cons_succ, List.getElem?_cons_zero]; rfl
      case hq17 => exact fun _ _ _ h => h
      case hy17 => (refine Or.inl ⟨by rfl, ?_⟩; intro w hSw; (try dsimp only at hSw); go_simp; (try with_reducible rfl))
      simp only [Act.put, List.setIfInBounds_toArray, List.set_cons_zero, List.set_cons_succ]
      refine wpAnyZ_take (i := 7) (oi := ?o18) (v := ?v18) ?hi18 (by kernel_rfl) (by kernel_rfl) (by kernel_rfl) (by kernel_rfl) ?hq18 ?hy18 hHeld ?rest18
      case hi18 => simp only [List.getElem?_toArray, List.getElem?_cons_succ, List.getElem?_cons_zero]; rfl
      case hq18 => exact fun _ _ _ h => h
      case hy18 => (refine Or.inl ⟨by rfl, ?_⟩; intro w hSw; (try dsimp only at hSw); go_simp; (try with_reducible rfl))
      simp only [Act.put, List.setIfInBounds_toArray, List.set_cons_zero, List.set_cons_succ]
      refine wpAnyZ_take (i := 8) (oi := ?o19) (v := ?v19) ?hi19 (by kernel_rfl) (by kernel_rfl) (by kernel_rfl) (by kernel_rfl) ?hq19 ?hy19 hHeld ?rest19
      case hi19 => simp only [List.getElem?_toArray, List.getElem?_cons_succ, List.getElem?_cons_zero]; rfl
      case hq19 => exact fun _ _ _ h => h
      case hy19 => (refine Or.inl ⟨by rfl, ?_⟩; intro w hSw; (try dsimp only at hSw); go_simp; (try with_reducible rfl))
      simp only [Act.put, List.setIfInBounds_toArray, List.set_cons_zero, List.set_cons_succ]
      refine wpAnyZ_take (i := 9) (oi := ?o20) (v := ?v20) ?hi20 (by kernel_rfl) (by kernel_rfl) (by kernel_rfl) (by kernel_rfl) ?hq20 ?hy20 hHeld ?rest20
      case hi20 => simp only [List.getElem?_toArray, List.getElem?_cons_succ, List.getElem?_cons_zero]; rfl
      case hq20 => exact fun _ _ _ h => h
      case hy20 => (refine Or.inl ⟨by rfl, ?_⟩; intro w hSw; (try dsimp only at hSw); go_simp; (try with_reducible rfl))
      simp only [Act.put, List.setIfInBounds_toArray, List.set_cons_zero, List.set_cons_succ]
      refine wpAnyZ_one (i := 10) (o := ?o21) (by kernel_rfl) ?hi21 (fun K hK => ?rest21)
      case hi21 => simp only [List.getElem?_toArray, List.getElem?_cons_succ, List.getElem?_cons_zero]; rfl
      go_simp
      refine hK.out _ _ (.inl rfl) ?_
      clear hK K
      (try simp only [Act.put, List.setIfInBounds_toArray, List.set_cons_zero, List.set_cons_succ])
      refine wpAnyZ_done (by kernel_rfl) ?_ _
      clear hHeld
      have Z6 := Lib.hid (Z5.out.below BBH.out)
      have C6 := Lib.hid (C5.out.trans (BBH.out.mono C5.out.size))
      go_wp2_with fail
      refine (hzc.out _ Z6.out).mono ?_
      rintro e w6 ⟨rfl, b6⟩
      have R6 := Lib.hid (RBH.out.below b6)
      have C7 := Lib.hid (C6.out.trans (b6.mono C6.out.size))
      clear b6 Z6 C6 BBH RBH Z5 C5
      go_wp2_with fail
      refine (hbc.out _ R6.out).mono ?_
      rintro e w7 ⟨rfl, b7⟩
      have C8 := Lib.hid (C7.out.trans (b7.mono C7.out.size))
      clear b7
      go_wp2
      go_ret
      exact ⟨rfl, C8.out⟩

set_option maxRecDepth 100000 in
theorem lifted (os : Os) (started : os.Started) (H : Type) (enc : TypeId × Value → H) :
    ReturnsInHanded {} Try.checked os 7 .any (Rows.fnArrayConsistentSpec.pre6 enc Try.prog Try.f7 Rows.fnArrayConsistentRow.domain false) (Rows.fnArrayConsistentSpec.post enc Try.prog Try.f7 false true false false) := by
  refine returnsInHanded_of_change (C := Try.checked) own started (by kernel_rfl) Try.func7
    (ChangeSpec.witness6 (enc := enc) (C := Try.checked) false ⟨#[], #[.slice none 0 0], []⟩ 8 (by kernel_rfl) (by kernel_rfl) (by kernel_rfl) (by kernel_rfl)) ?_
  intro W base args ds gs before hval0 hW hcnd _
  have hval : ∀ (j : Nat) t v, Try.f7.params[j]? = some t → args[j]? = some v → Value.okWide Try.prog W .any base t v := hval0
  have hW' := hW
  obtain ⟨p, q, hA0, hV, rfl, hfz, hnd⟩ := hW
  have hA : DataW.TrodAll enc Try.prog W 0 (fun _ => true) true Try.f7.params.toList args.toList ds p := hA0
  rw [Try.params7] at hA hval
  obtain ⟨v0, vs0, d0, ds0, p0, q0, hargs, rfl, rfl, h0, r0⟩ := trodAll_cons hA
  obtain ⟨rfl, rfl, rfl⟩ := trodAll_nil r0
  obtain rfl : args = #[v0] := by cases args; simp_all
  obtain ⟨rfl, rfl⟩ := trodVars_none hV
  have k0 := h0
  have lt0 : ∀ x ∈ p0, x.block < W.heap.size := by obtain ⟨m, hm⟩ := k0; exact DataW.trod_lt m _ _ _ hm
  obtain ⟨a0, n0, c0, rfl, ok0, le0, cl0⟩ := open_bytes (hval 0 27 v0 rfl rfl) h0
  clear hA0 hval0
  refine (walk a0 n0 c0 W ok0 le0 cl0).mono fun e W' ⟨he, bel⟩ => ?_
  subst he
  exact ⟨_, rfl, _, _, _, [], _, [], hW', trodAll_mk1 (shut_bool Try.underlying4 _), (trodAll_cons_mk (Below.trod laidOut (by kernel_rfl) (of_decide_eq_true (by kernel_rfl)) k0 bel lt0) trodAll_mk0), rfl, bel.frame _, fun h => by cases h⟩

theorem proved : Rows.FnArrayConsistentSaid :=
  OpenClaim.holds_of_wide 7 Try.f7 rfl rfl rfl rfl rfl rfl rfl ⟨rfl, rfl, rfl, rfl, rfl⟩ rfl rfl rfl rfl rfl (by kernel_rfl) Try.func7 (by kernel_rfl)
    (of_decide_eq_true (by kernel_rfl)) (by unfold Func.isWrapper; first | (rw [if_pos (by decide +kernel)]; kernel_rfl) | (rw [if_neg (by decide +kernel)]; exact ⟨rfl, rfl⟩))
    (fun os started H enc _ => lifted os started H enc)
#print axioms proved
end Go.Proofs.Ytgdbchodlapdpaa.fnArrayConsistent
