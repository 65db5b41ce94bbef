/- Proves Rows.FnArrayValidSaid: for every input the law FnArrayValid returns true and leaves its arguments as they were. Conditions: none. -/
import Derived.Test.YtgdbchodlapdpaaOpen
import Derived.Test.YtgdbchodlapdpaaHdrR
import Derived.Test.YtgdbchodlapdpaaRegZ
namespace Go.Proofs.Ytgdbchodlapdpaa.fnArrayValid
open Go.ChangeShapes Go.WideShapes Go.ChangeAt Go.RowKit
set_option linter.unusedVariables false
set_option linter.unusedSimpArgs false in
set_option maxHeartbeats 8000000 in
theorem walk (A : Option Addr) (m cp : Nat) (w : World) (hb : BytesIn w A m) (hmc : m ≤ cp) (hcp : cp ≤ 9223372036854775807) :
    Calls Try.prog 5 #[.slice A m cp] w fun e w' => e = .returned (.bool true) ∧ Below w.heap.size w w' := by
  obtain ⟨i0, hi0, hz0, hz1, hz2⟩ := info_parts info_i1
  obtain ⟨i1, hi1, hy0, hy1, hy2⟩ := info_parts info_row
  by_cases hbig : 1048576 < m
  · go_enter Try.func5, Try.ntmps5
    go_wp2
    go_ret
    exact ⟨rfl, Below.refl _ _⟩
  go_enter Try.func5, Try.ntmps5
  go_wp2_with fail
  refine (drawAV_any A m cp w hb hmc hcp).mono ?_
  rintro e w1 ⟨A1, c1, L, rfl, ht, l1, lc, hc1, hs, b1⟩
  have T1 := Lib.hid ht
  have C1 := Lib.hid b1
  clear b1 hb ht
  go_wp2_with fail
  refine (implArr_any A1 c1 L _ T1.out (by omega)).mono ?_
  rintro e w2 ⟨rfl, b2⟩
  have T2 := Lib.hid (T1.out.below b2)
  have C2 := Lib.hid (C1.out.trans (b2.mono C1.out.size))
  clear b2 T1 C1
  go_wp2_with fail
  refine (specArr_any A1 c1 L _ T2.out (by omega)).mono ?_
  rintro e w3 ⟨rfl, b3⟩
  have hcc : (arrB L != arrB L) = false := by simp
  have T3 := Lib.hid (T2.out.below b3)
  have C3 := Lib.hid (C2.out.trans (b3.mono C2.out.size))
  clear b3 T2 C2
  cases ha : arrB L
  · rw [ha] at hcc
    go_wp2_with (go_at_call 22; refine (alive_any _).mono ?_; rintro e w7 ⟨rfl, hb7⟩)
    go_ret
    exact ⟨rfl, C3.out.trans (hb7.mono C3.out.size)⟩
  rw [ha] at hcc
  have HA := Lib.hid (ArrOk.of ha)
  obtain ⟨n2, n6, hm16, _⟩ := arr_parts ha
  have hlg := arr_longer ha
  obtain ⟨b, off, hA1, _⟩ := T3.out (by omega)
  subst hA1
  obtain ⟨M, hM⟩ : ∃ M, M = headN L := ⟨_, rfl⟩
  rw [← hM] at hm16 HA
  obtain ⟨D, hD⟩ : ∃ D, D = L.length := ⟨_, rfl⟩
  rw [← hD] at HA n2 n6 l1 lc hs ⊢
  have HD := Lib.hid hD
  obtain ⟨A0, c0, x0, y0⟩ := rows_hd0 T3.out (by rw [← HD.out]; omega)
  rw [← hM] at x0
  have RD0 := Lib.hid y0
  obtain ⟨tl, htl, hrtl⟩ := tail_hdrs T3.out (by rw [← HD.out]; omega)
  have TL := Lib.hid htl
  have RTL := Lib.hid hrtl
  have HTL := Lib.hid (show tl.length = D - 1 by rw [htl.1, List.length_tail, HD.out])
  have hl0 : (L[0]'(by rw [← HD.out]; omega)).length = M := (HA.out.2.2.2.2 _ (List.getElem_mem _)).1
  have hh0 : L.headD [] = L[0]'(by rw [← HD.out]; omega) := by
    have hpos : 0 < L.length := by rw [← HD.out]; omega
    cases L with
    | nil => simp at hpos
    | cons q t => rfl
  rw [hh0] at hlg
  obtain ⟨L0, hL0⟩ : ∃ q, q = L[0]'(by rw [← HD.out]; omega) := ⟨_, rfl⟩
  rw [← hL0] at hl0 RD0 hlg
  have HL0 := Lib.hid hl0
  have HLL := Lib.hid (show (L0 ++ [0]).length = M + 1 by simp [hl0])
  have hone := Lib.hid (fun (u : World) (h : RowsR CI u (some ⟨b, off, none⟩) L) => show Calls Try.prog 17 #[.slice (some ⟨b, off, none⟩) 1 c1] u (fun e w' => e = .returned (.bool false) ∧ Below u.heap.size u w') by
    have h1 := RowsR.take (k := 1) h
    have hl : (L.take 1).length = 1 := by rw [List.length_take]; omega
    have hsm : sumN (L.take 1) ≤ sumN L := sumN_take L 1
    have := implArr_any (some ⟨b, off, none⟩) c1 (L.take 1) u h1 (by rw [hl]; omega)
    rw [hl] at this
    refine this.mono fun e w' h => ?_
    obtain ⟨h1, h2⟩ := h
    rw [arr_one (by rw [hl]; omega)] at h1
    exact ⟨h1, h2⟩)
  have hbad := Lib.hid (fun (A9 : Option Addr) (c9 : Nat) (u : World) (h : RowsR CI u A9 ((L0 ++ [0]) :: L.tail)) => show Calls Try.prog 17 #[.slice A9 D c9] u (fun e w' => e = .returned (.bool false) ∧ Below u.heap.size u w') by
    have hl : ((L0 ++ [0]) :: L.tail).length = D := by rw [List.length_cons, List.length_tail]; omega
    have hsm : sumN ((L0 ++ [0]) :: L.tail) ≤ 1000 := by
      have h1 := sumN_le' (m := 17) (L := (L0 ++ [0]) :: L.tail) (fun r hr => by
        rcases List.mem_cons.1 hr with rfl | hr
        · rw [HLL.out]; omega
        · have := (HA.out.2.2.2.2 r (List.mem_of_mem_tail hr)).1; omega)
      rw [hl] at h1
      omega
    have := implArr_any A9 c9 _ u h (by rw [hl]; omega)
    rw [hl] at this
    refine this.mono fun e w' h => ?_
    obtain ⟨h1, h2⟩ := h
    rw [hlg] at h1
    exact ⟨h1, h2⟩)
  have jx0 : 0 < D := by omega
  have jx1 : 1 ≤ D := by omega
  have jx2 : 1 < c1 := by omega
  have jx3 : ¬ c1 - 1 = 0 := by omega
  have jx4 : ¬ c1 = 1 := by omega
  have ix0 : (1 : Int) ≤ (D : Int) := by omega
  have ix1 : (1 : Int) ≤ (c1 : Int) := by omega
  have ix2 : (1 : Int) < (c1 : Int) := by omega
  have ix3 : (0 : Int) < (D : Int) := by omega
  have ix4 : (D : Int) ≤ (c1 : Int) := by omega
  clear ha htl hrtl hl0 hh0 hL0 hlg hM hD y0
  go_wp2
  refine wp_region_Z (fun w' : World => w'.cell? ⟨b, off, none⟩ = some (.slice A0 M c0)) 99 (by kernel_rfl) ?_
  generalize hv0 : w3.drew = u0
  have BB := Lib.hid (show Below w3.heap.size w3 u0 by rw [← hv0]; exact (Below.refl _ _).drew)
  clear hv0
  refine wpAnyZ_take (i := 1) (oi := ?o1) (v := ?v1) ?hi1 (by kernel_rfl) (by kernel_rfl) (by kernel_rfl) (by kernel_rfl) ?hq1 ?hy1 (cell_keepA x0 BB.out) ?rest1
  case hi1 => simp only [List.getElem?_toArray, List.getElem?_cons_succ, List.getElem?_cons_zero]; rfl
  case hq1 => exact fun _ _ _ h => h
  case hy1 => (refine Or.inl ⟨by rfl, ?_⟩; intro w hSw; (try dsimp only at hSw); go_simp; (try with_reducible rfl))
  simp only [Act.put, List.setIfInBounds_toArray, List.set_cons_zero, List.set_cons_succ]
  refine wpAnyZ_take (i := 2) (oi := ?o2) (v := ?v2) ?hi2 (by kernel_rfl) (by kernel_rfl) (by kernel_rfl) (by kernel_rfl) ?hq2 ?hy2 (cell_keepA x0 BB.out) ?rest2
  case hi2 => simp only [List.getElem?_toArray, List.getElem?_cons_succ, List.getElem?_cons_zero]; rfl
  case hq2 => exact fun _ _ _ h => h
  case hy2 => (refine Or.inl ⟨by rfl, ?_⟩; intro w hSw; (try dsimp only at hSw); go_simp; (try with_reducible rfl))
  simp only [Act.put, List.setIfInBounds_toArray, List.set_cons_zero, List.set_cons_succ]
  refine wpAnyZ_take (i := 3) (oi := ?o3) (v := ?v3) ?hi3 (by kernel_rfl) (by kernel_rfl) (by kernel_rfl) (by kernel_rfl) ?hq3 ?hy3 (cell_keepA x0 BB.out) ?rest3
  case hi3 => simp only [List.getElem?_toArray, List.getElem?_cons_succ, List.getElem?_cons_zero]; rfl
  case hq3 => exact fun _ _ _ h => h
  case hy3 => (refine Or.inl ⟨by rfl, ?_⟩; intro w hSw; (try dsimp only at hSw); go_simp; (try with_reducible rfl))
  simp only [Act.put, List.setIfInBounds_toArray, List.set_cons_zero, List.set_cons_succ]
  refine wpAnyZ_take (i := 8) (oi := ?o4) (v := ?v4) ?hi4 (by kernel_rfl) (by kernel_rfl) (by kernel_rfl) (by kernel_rfl) ?hq4 ?hy4 (cell_keepA x0 BB.out) ?rest4
  case hi4 => simp only [List.getElem?_toArray, List.getElem?_cons_succ, List.getElem?_cons_zero]; rfl
  case hq4 => exact fun _ _ _ h => h
  case hy4 => (refine Or.inl ⟨by rfl, ?_⟩; intro w hSw; (try dsimp only at hSw); go_simp; (try with_reducible rfl))
  simp only [Act.put, List.setIfInBounds_toArray, List.set_cons_zero, List.set_cons_succ]
  refine wpAnyZ_take (i := 9) (oi := ?o5) (v := ?v5) ?hi5 (by kernel_rfl) (by kernel_rfl) (by kernel_rfl) (by kernel_rfl) ?hq5 ?hy5 (cell_keepA x0 BB.out) ?rest5
  case hi5 => simp only [List.getElem?_toArray, List.getElem?_cons_succ, List.getElem?_cons_zero]; rfl
  case hq5 => exact fun _ _ _ h => h
  case hy5 => (refine Or.inl ⟨by rfl, ?_⟩; intro w hSw; (try dsimp only at hSw); go_simp; (try with_reducible rfl))
  simp only [Act.put, List.setIfInBounds_toArray, List.set_cons_zero, List.set_cons_succ]
  refine wpAnyZ_ready (rs := [0, 5]) (by kernel_rfl) (by simp) ?_
  refine AllZ.cons (i := 0) (o := ?o6) ?hi6 (fun K hK => ?ra6) ?mr6
  case hi6 => simp only [List.getElem?_toArray, List.getElem?_cons_succ, List.getElem?_cons_zero]; rfl
  case ra6 =>
    go_simp
    have BBn := b_alloc BB.out (.cells #[] 3)
    have hzn : u0.heap.size < (u0.alloc (.cells #[] 3)).heap.size := by simp
    have hbz := BB.out.size
    have OBn := Lib.hid (World.ownsRow_lit (e := 3) (size := 1) (base := w3.heap.size) u0 #[] 0 BB.out.size (by simp [maxLen]) (by simp))
    refine hK.out _ _ (.inr (cell_keepA x0 BBn)) ?_
    clear hK K
    (try simp only [Act.put, List.setIfInBounds_toArray, List.set_cons_zero, List.set_cons_succ])
    have BBm := Lib.hid BBn
    clear BBn
    clear BB
    generalize hvv : u0.alloc (.cells #[] 3) = u1 at *
    clear hvv
    obtain ⟨p1, hpp1⟩ : ∃ x, x = u0.heap.size := ⟨_, rfl⟩
    rw [← hpp1] at hzn OBn ⊢
    clear hpp1
    have OB := OBn
    clear OBn
    have BB := BBm
    clear BBm
    refine wpAnyZ_ready (rs := [4, 5]) (by kernel_rfl) (by simp) ?_
    refine AllZ.cons (i := 4) (o := ?o7) ?hi7 (fun K hK => ?ra7) ?mr7
    case hi7 => simp only [List.getElem?_toArray, List.getElem?_cons_succ, List.getElem?_cons_zero]; rfl
    case ra7 =>
      refine step_append_rg _ (by rfl) (.tmp 20) (.tmp 23) 30 (by rfl) w3.heap.size 3 i0 (.int .i64 0) 1 8 Try.underlying30 hi0 hz0 hz1 hz2 rfl (by decide) _ 0 [] OB.out ?_ A0 M c0 (CI L0) (RD0.out.keep BB.out.block) (by simp [Act.eval, Act.put] <;> fail) (by rw [List.length_map, HL0.out, Nat.mul_one]) (aints_one L0) (by simp only [maxLen]; omega) (by omega) BB.out.size ?_
      simp [Act.eval, Act.put]
      intro v5 u2 o5 g5 d5
      rw [Nat.zero_add, List.nil_append] at o5
      obtain ⟨A5, c5, rfl⟩ := own_slice o5
      have BBn := Below.grown BB.out g5 BB.out.size (fun k hk => (OB.out.lt k hk).1)
      have hzn := g5.size
      have hbz := BB.out.size
      refine hK.out _ _ (.inr (cell_keepA x0 BBn)) ?_
      clear hK K
      (try simp only [Act.put, List.setIfInBounds_toArray, List.set_cons_zero, List.set_cons_succ])
      have OA := Lib.hid o5
      clear OB o5 g5 d5 BB
      have BB := Lib.hid BBn
      clear BBn
      refine wpAnyZ_one (i := 5) (o := ?o8) (by kernel_rfl) ?hi8 (fun K hK => ?rest8)
      case hi8 => simp only [List.getElem?_toArray, List.getElem?_cons_succ, List.getElem?_cons_zero]; rfl
      go_simp
      have BBn := b_alloc BB.out (.cells #[.int .i64 0] 3)
      have hzn : u2.heap.size < (u2.alloc (.cells #[.int .i64 0] 3)).heap.size := by simp
      have hbz := BB.out.size
      have OAn := Lib.hid (OA.out.alloc (.cells #[.int .i64 0] 3))
      have RBn := Lib.hid (aread_new (w := u2) (T := 3) (cs := #[.int .i64 0]) (xs := [.int .i64 0]) rfl)
      have hpa : ∀ g, (Value.slice A5 M c5).ownBlock = some g → g < u2.heap.size := fun g hg => (OA.out.lt g hg).2
      refine hK.out _ _ (.inr (cell_keepA x0 BBn)) ?_
      clear hK K
      (try simp only [Act.put, List.setIfInBounds_toArray, List.set_cons_zero, List.set_cons_succ])
      have BBm := Lib.hid BBn
      clear BBn
      clear OA
      clear BB
      generalize hvv : u2.alloc (.cells #[.int .i64 0] 3) = u3 at *
      clear hvv
      obtain ⟨p2, hpp2⟩ : ∃ x, x = u2.heap.size := ⟨_, rfl⟩
      rw [← hpp2] at hzn RBn hpa ⊢
      clear hpp2
      have OA := OAn
      have RB := RBn
      clear OAn RBn
      have BB := BBm
      clear BBm
      refine wpAnyZ_one (i := 6) (o := ?o9) (by kernel_rfl) ?hi9 (fun K hK => ?rest9)
      case hi9 => simp only [List.getElem?_toArray, List.getElem?_cons_succ, List.getElem?_cons_zero]; rfl
      refine step_append_rg _ (by rfl) (.tmp 24) (.tmp 25) 30 (by rfl) w3.heap.size 3 i0 (.int .i64 0) 1 8 Try.underlying30 hi0 hz0 hz1 hz2 rfl (by decide) _ M (CI L0) OA.out ?_ (some ⟨p2, 0, none⟩) 1 1 [.int .i64 0] RB.out (by simp [Act.eval, Act.put] <;> fail) rfl (by intro u hu; simp at hu; subst hu; rfl) (by simp only [maxLen]; omega) (by omega) BB.out.size ?_
      simp [Act.eval, Act.put]
      intro v6 u4 o6 g6 d6
      obtain ⟨A6, c6, rfl⟩ := own_slice o6
      have BBn := Below.grown BB.out g6 BB.out.size (fun k hk => (OA.out.lt k hk).1)
      have hzn := g6.size
      have hbz := BB.out.size
      refine hK.out _ _ (.inr (cell_keepA x0 BBn)) ?_
      clear hK K
      (try simp only [Act.put, List.setIfInBounds_toArray, List.set_cons_zero, List.set_cons_succ])
      have O6 := Lib.hid o6
      clear OA RB o6 g6 d6 BB
      have BB := Lib.hid BBn
      clear BBn
      refine wpAnyZ_one (i := 7) (o := ?o10) (by kernel_rfl) ?hi10 (fun K hK => ?rest10)
      case hi10 => simp only [List.getElem?_toArray, List.getElem?_cons_succ, List.getElem?_cons_zero]; rfl
      go_simp
      have BBn := b_alloc BB.out (.cells #[.slice A6 (M + 1) c6] 30)
      have O6n := Lib.hid (O6.out.alloc (.cells #[.slice A6 (M + 1) c6] 30))
      have OLT := Lib.hid (fun g (hg : (Value.slice A6 (M + 1) c6).ownBlock = some g) => O6.out.lt g hg)
      have OU := Lib.hid (World.ownsRow_lit (e := 30) (size := 1) (base := w3.heap.size) u4 #[.slice A6 (M + 1) c6] 1 BB.out.size (by simp [maxLen]) (by simp))
      refine hK.out _ _ (.inr (cell_keepA x0 BBn)) ?_
      clear hK K
      (try simp only [Act.put, List.setIfInBounds_toArray, List.set_cons_zero, List.set_cons_succ])
      clear BB O6
      have BB := Lib.hid BBn
      clear BBn
      obtain ⟨p7, hp7⟩ : ∃ x, x = u4.heap.size := ⟨_, rfl⟩
      generalize hvv : u4.alloc (.cells #[.slice A6 (M + 1) c6] 30) = u7 at *
      rw [← hp7] at OU OLT ⊢
      clear hvv hp7
      refine wpAnyZ_one (i := 10) (o := ?o11) (by kernel_rfl) ?hi11 (fun K hK => ?rest11)
      case hi11 => simp only [List.getElem?_toArray, List.getElem?_cons_succ, List.getElem?_cons_zero]; rfl
      refine step_append_rg _ (by rfl) (.tmp 27) (.tmp 29) 22 (by rfl) w3.heap.size 30 i1 (.slice none 0 0) 1 24 Try.underlying22 hi1 hy0 hy1 hy2 rfl (by decide) _ 1 [.slice A6 (M + 1) c6] OU.out ?_ (some ⟨b, off + 1, none⟩) (D - 1) (c1 - 1) tl (RTL.out.keep BB.out.block) (by simp [Act.eval, Act.put] <;> fail) (by rw [HTL.out, Nat.mul_one]) TL.out.one (by simp only [maxLen]; omega) (by omega) BB.out.size ?_
      simp [Act.eval, Act.put]
      intro v9 u8 o9 g9 d9
      rw [show 1 + (D - 1) = D by omega, List.singleton_append] at o9
      obtain ⟨A9, c9, rfl⟩ := own_slice o9
      have BBn := Below.grown BB.out g9 BB.out.size (fun k hk => (OU.out.lt k hk).1)
      have O6 := Lib.hid (own_block O6n.out (fun g hg => g9.block g (O6n.out.lt g hg).2 (fun e => by simp [Value.ownBlock] at e; have := (OLT.out g hg).2; omega)))
      refine hK.out _ _ (.inr (cell_keepA x0 BBn)) ?_
      clear hK K
      (try simp only [Act.put, List.setIfInBounds_toArray, List.set_cons_zero, List.set_cons_succ])
      have O9 := Lib.hid o9
      clear OU O6n OLT o9 g9 d9 BB
      have BB := Lib.hid BBn
      clear BBn
      refine wpAnyZ_take (i := 11) (oi := ?o12) (v := ?v12) ?hi12 (by kernel_rfl) (by kernel_rfl) (by kernel_rfl) (by kernel_rfl) ?hq12 ?hy12 (cell_keepA x0 BB.out) ?rest12
      case hi12 => simp only [List.getElem?_toArray, List.getElem?_cons_succ, List.getElem?_cons_zero]; rfl
      case hq12 => exact fun _ _ _ h => h
      case hy12 => (refine Or.inl ⟨by rfl, ?_⟩; intro w hSw; (try dsimp only at hSw); go_simp; (try with_reducible rfl))
      simp only [Act.put, List.setIfInBounds_toArray, List.set_cons_zero, List.set_cons_succ]
      refine wpAnyZ_done (by kernel_rfl) ?_ _
      have hcap := own_cap O6.out
      have RB := rows_cons (r := L0 ++ [0]) TL.out BB.out (show u8.ownsRow w3.heap.size 30 1 (.slice A9 D c9) D (.slice A6 (L0 ++ [0]).length c6 :: tl) by rw [HLL.out]; exact O9.out) (show ReadC u8 A6 (CI (L0 ++ [0])) by
        have := own_read O6.out
        have e : CI (L0 ++ [0]) = CI L0 ++ [.int .i64 0] := List.map_append ..
        rw [e]
        exact this) (by rw [HLL.out]; exact hcap.1) hcap.2
      have RBH := Lib.hid RB
      have C4 := Lib.hid (C3.out.trans (BB.out.mono C3.out.size))
      have T4 := Lib.hid (T3.out.below BB.out)
      clear RB O6 O9 BB TL RTL HTL RD0 x0
      go_wp2_with fail
      refine (hbad.out _ _ _ RBH.out).mono ?_
      rintro e w6 ⟨rfl, b6⟩
      have T6 := Lib.hid (T4.out.below b6)
      have C6 := Lib.hid (C4.out.trans (b6.mono C4.out.size))
      clear b6 RBH C4 T4
      go_wp2_with fail
      refine (hone.out _ T6.out).mono ?_
      rintro e w7 ⟨rfl, b7⟩
      have C7 := Lib.hid (C6.out.trans (b7.mono C6.out.size))
      clear b7
      go_wp2
      go_ret
      exact ⟨rfl, C7.out⟩
    refine AllZ.cons (i := 5) (o := ?o13) ?hi13 (fun K hK => ?ra13) ?mr13
    case hi13 => simp only [List.getElem?_toArray, List.getElem?_cons_succ, List.getElem?_cons_zero]; rfl
    case ra13 =>
      go_simp
      have BBn := b_alloc BB.out (.cells #[.int .i64 0] 3)
      have hzn : u1.heap.size < (u1.alloc (.cells #[.int .i64 0] 3)).heap.size := by simp
      have hbz := BB.out.size
      have OBn := Lib.hid (OB.out.alloc (.cells #[.int .i64 0] 3))
      have RBn := Lib.hid (aread_new (w := u1) (T := 3) (cs := #[.int .i64 0]) (xs := [.int .i64 0]) rfl)
      have hpp : u1.heap.size ≠ p1 := by omega
      refine hK.out _ _ (.inr (cell_keepA x0 BBn)) ?_
      clear hK K
      (try simp only [Act.put, List.setIfInBounds_toArray, List.set_cons_zero, List.set_cons_succ])
      have BBm := Lib.hid BBn
      clear BBn
      clear OB
      clear BB
      generalize hvv : u1.alloc (.cells #[.int .i64 0] 3) = u2 at *
      clear hvv
      obtain ⟨p2, hpp2⟩ : ∃ x, x = u1.heap.size := ⟨_, rfl⟩
      rw [← hpp2] at hzn RBn hpp ⊢
      clear hpp2
      have OB := OBn
      have RB := RBn
      clear OBn RBn
      have BB := BBm
      clear BBm
      refine wpAnyZ_one (i := 4) (o := ?o14) (by kernel_rfl) ?hi14 (fun K hK => ?rest14)
      case hi14 => simp only [List.getElem?_toArray, List.getElem?_cons_succ, List.getElem?_cons_zero]; rfl
      refine step_append_rg _ (by rfl) (.tmp 20) (.tmp 23) 30 (by rfl) w3.heap.size 3 i0 (.int .i64 0) 1 8 Try.underlying30 hi0 hz0 hz1 hz2 rfl (by decide) _ 0 [] OB.out ?_ A0 M c0 (CI L0) (RD0.out.keep BB.out.block) (by simp [Act.eval, Act.put] <;> fail) (by rw [List.length_map, HL0.out, Nat.mul_one]) (aints_one L0) (by simp only [maxLen]; omega) (by omega) BB.out.size ?_
      simp [Act.eval, Act.put]
      intro v5 u3 o5 g5 d5
      rw [Nat.zero_add, List.nil_append] at o5
      obtain ⟨A5, c5, rfl⟩ := own_slice o5
      have BBn := Below.grown BB.out g5 BB.out.size (fun k hk => (OB.out.lt k hk).1)
      have hzn := g5.size
      have hbz := BB.out.size
      have RBn := Lib.hid (readc_grown RB.out g5 (by simp [Value.ownBlock]; omega))
      have hpa : ∀ g, (Value.slice A5 M c5).ownBlock = some g → g ≠ p2 := fun g hg e => by
        rcases d5 with d5 | d5
        · rw [d5] at hg; simp [Value.ownBlock] at hg; omega
        · rw [d5] at hg; injection hg with hg; omega
      refine hK.out _ _ (.inr (cell_keepA x0 BBn)) ?_
      clear hK K
      (try simp only [Act.put, List.setIfInBounds_toArray, List.set_cons_zero, List.set_cons_succ])
      have OA := Lib.hid o5
      clear OB o5 g5 d5 BB
      clear RB
      have RB := RBn
      clear RBn
      have BB := Lib.hid BBn
      clear BBn
      refine wpAnyZ_one (i := 6) (o := ?o15) (by kernel_rfl) ?hi15 (fun K hK => ?rest15)
      case hi15 => simp only [List.getElem?_toArray, List.getElem?_cons_succ, List.getElem?_cons_zero]; rfl
      refine step_append_rg _ (by rfl) (.tmp 24) (.tmp 25) 30 (by rfl) w3.heap.size 3 i0 (.int .i64 0) 1 8 Try.underlying30 hi0 hz0 hz1 hz2 rfl (by decide) _ M (CI L0) OA.out ?_ (some ⟨p2, 0, none⟩) 1 1 [.int .i64 0] RB.out (by simp [Act.eval, Act.put] <;> fail) rfl (by intro u hu; simp at hu; subst hu; rfl) (by simp only [maxLen]; omega) (by omega) BB.out.size ?_
      simp [Act.eval, Act.put]
      intro v6 u4 o6 g6 d6
      obtain ⟨A6, c6, rfl⟩ := own_slice o6
      have BBn := Below.grown BB.out g6 BB.out.size (fun k hk => (OA.out.lt k hk).1)
      have hzn := g6.size
      have hbz := BB.out.size
      refine hK.out _ _ (.inr (cell_keepA x0 BBn)) ?_
      clear hK K
      (try simp only [Act.put, List.setIfInBounds_toArray, List.set_cons_zero, List.set_cons_succ])
      have O6 := Lib.hid o6
      clear OA RB o6 g6 d6 BB
      have BB := Lib.hid BBn
      clear BBn
      refine wpAnyZ_one (i := 7) (o := ?o16) (by kernel_rfl) ?hi16 (fun K hK => ?rest16)
      case hi16 => simp only [List.getElem?_toArray, List.getElem?_cons_succ, List.getElem?_cons_zero]; rfl
      go_simp
      have BBn := b_alloc BB.out (.cells #[.slice A6 (M + 1) c6] 30)
      have O6n := Lib.hid (O6.out.alloc (.cells #[.slice A6 (M + 1) c6] 30))
      have OLT := Lib.hid (fun g (hg : (Value.slice A6 (M + 1) c6).ownBlock = some g) => O6.out.lt g hg)
      have OU := Lib.hid (World.ownsRow_lit (e := 30) (size := 1) (base := w3.heap.size) u4 #[.slice A6 (M + 1) c6] 1 BB.out.size (by simp [maxLen]) (by simp))
      refine hK.out _ _ (.inr (cell_keepA x0 BBn)) ?_
      clear hK K
      (try simp only [Act.put, List.setIfInBounds_toArray, List.set_cons_zero, List.set_cons_succ])
      clear BB O6
      have BB := Lib.hid BBn
      clear BBn
      obtain ⟨p7, hp7⟩ : ∃ x, x = u4.heap.size := ⟨_, rfl⟩
      generalize hvv : u4.alloc (.cells #[.slice A6 (M + 1) c6] 30) = u7 at *
      rw [← hp7] at OU OLT ⊢
      clear hvv hp7
      refine wpAnyZ_one (i := 10) (o := ?o17) (by kernel_rfl) ?hi17 (fun K hK => ?rest17)
      case hi17 => simp only [List.getElem?_toArray, List.getElem?_cons_succ, List.getElem?_cons_zero]; rfl
      refine step_append_rg _ (by rfl) (.tmp 27) (.tmp 29) 22 (by rfl) w3.heap.size 30 i1 (.slice none 0 0) 1 24 Try.underlying22 hi1 hy0 hy1 hy2 rfl (by decide) _ 1 [.slice A6 (M + 1) c6] OU.out ?_ (some ⟨b, off + 1, none⟩) (D - 1) (c1 - 1) tl (RTL.out.keep BB.out.block) (by simp [Act.eval, Act.put] <;> fail) (by rw [HTL.out, Nat.mul_one]) TL.out.one (by simp only [maxLen]; omega) (by omega) BB.out.size ?_
      simp [Act.eval, Act.put]
      intro v9 u8 o9 g9 d9
      rw [show 1 + (D - 1) = D by omega, List.singleton_append] at o9
      obtain ⟨A9, c9, rfl⟩ := own_slice o9
      have BBn := Below.grown BB.out g9 BB.out.size (fun k hk => (OU.out.lt k hk).1)
      have O6 := Lib.hid (own_block O6n.out (fun g hg => g9.block g (O6n.out.lt g hg).2 (fun e => by simp [Value.ownBlock] at e; have := (OLT.out g hg).2; omega)))
      refine hK.out _ _ (.inr (cell_keepA x0 BBn)) ?_
      clear hK K
      (try simp only [Act.put, List.setIfInBounds_toArray, List.set_cons_zero, List.set_cons_succ])
      have O9 := Lib.hid o9
      clear OU O6n OLT o9 g9 d9 BB
      have BB := Lib.hid BBn
      clear BBn
      refine wpAnyZ_take (i := 11) (oi := ?o18) (v := ?v18) ?hi18 (by kernel_rfl) (by kernel_rfl) (by kernel_rfl) (by kernel_rfl) ?hq18 ?hy18 (cell_keepA x0 BB.out) ?rest18
      case hi18 => simp only [List.getElem?_toArray, List.getElem?_cons_succ, List.getElem?_cons_zero]; rfl
      case hq18 => exact fun _ _ _ h => h
      case hy18 => (refine Or.inl ⟨by rfl, ?_⟩; intro w hSw; (try dsimp only at hSw); go_simp; (try with_reducible rfl))
      simp only [Act.put, List.setIfInBounds_toArray, List.set_cons_zero, List.set_cons_succ]
      refine wpAnyZ_done (by kernel_rfl) ?_ _
      have hcap := own_cap O6.out
      have RB := rows_cons (r := L0 ++ [0]) TL.out BB.out (show u8.ownsRow w3.heap.size 30 1 (.slice A9 D c9) D (.slice A6 (L0 ++ [0]).length c6 :: tl) by rw [HLL.out]; exact O9.out) (show ReadC u8 A6 (CI (L0 ++ [0])) by
        have := own_read O6.out
        have e : CI (L0 ++ [0]) = CI L0 ++ [.int .i64 0] := List.map_append ..
        rw [e]
        exact this) (by rw [HLL.out]; exact hcap.1) hcap.2
      have RBH := Lib.hid RB
      have C4 := Lib.hid (C3.out.trans (BB.out.mono C3.out.size))
      have T4 := Lib.hid (T3.out.below BB.out)
      clear RB O6 O9 BB TL RTL HTL RD0 x0
      go_wp2_with fail
      refine (hbad.out _ _ _ RBH.out).mono ?_
      rintro e w6 ⟨rfl, b6⟩
      have T6 := Lib.hid (T4.out.below b6)
      have C6 := Lib.hid (C4.out.trans (b6.mono C4.out.size))
      clear b6 RBH C4 T4
      go_wp2_with fail
      refine (hone.out _ T6.out).mono ?_
      rintro e w7 ⟨rfl, b7⟩
      have C7 := Lib.hid (C6.out.trans (b7.mono C6.out.size))
      clear b7
      go_wp2
      go_ret
      exact ⟨rfl, C7.out⟩
    exact AllZ.nil
  refine AllZ.cons (i := 5) (o := ?o19) ?hi19 (fun K hK => ?ra19) ?mr19
  case hi19 => simp only [List.getElem?_toArray, List.getElem?_cons_succ, List.getElem?_cons_zero]; rfl
  case ra19 =>
    go_simp
    have BBn := b_alloc BB.out (.cells #[.int .i64 0] 3)
    have hzn : u0.heap.size < (u0.alloc (.cells #[.int .i64 0] 3)).heap.size := by simp
    have hbz := BB.out.size
    have RBn := Lib.hid (aread_new (w := u0) (T := 3) (cs := #[.int .i64 0]) (xs := [.int .i64 0]) rfl)
    refine hK.out _ _ (.inr (cell_keepA x0 BBn)) ?_
    clear hK K
    (try simp only [Act.put, List.setIfInBounds_toArray, List.set_cons_zero, List.set_cons_succ])
    have BBm := Lib.hid BBn
    clear BBn
    clear BB
    generalize hvv : u0.alloc (.cells #[.int .i64 0] 3) = u1 at *
    clear hvv
    obtain ⟨p2, hpp2⟩ : ∃ x, x = u0.heap.size := ⟨_, rfl⟩
    rw [← hpp2] at hzn RBn ⊢
    clear hpp2
    have RB := RBn
    clear RBn
    have BB := BBm
    clear BBm
    refine wpAnyZ_one (i := 0) (o := ?o20) (by kernel_rfl) ?hi20 (fun K hK => ?rest20)
    case hi20 => simp only [List.getElem?_toArray, List.getElem?_cons_succ, List.getElem?_cons_zero]; rfl
    go_simp
    have BBn := b_alloc BB.out (.cells #[] 3)
    have hzn : u1.heap.size < (u1.alloc (.cells #[] 3)).heap.size := by simp
    have hbz := BB.out.size
    have RBn := Lib.hid (RB.out.alloc (.cells #[] 3))
    have OBn := Lib.hid (World.ownsRow_lit (e := 3) (size := 1) (base := w3.heap.size) u1 #[] 0 BB.out.size (by simp [maxLen]) (by simp))
    have hpp : p2 < u1.heap.size := by omega
    refine hK.out _ _ (.inr (cell_keepA x0 BBn)) ?_
    clear hK K
    (try simp only [Act.put, List.setIfInBounds_toArray, List.set_cons_zero, List.set_cons_succ])
    have BBm := Lib.hid BBn
    clear BBn
    clear RB
    clear BB
    generalize hvv : u1.alloc (.cells #[] 3) = u2 at *
    clear hvv
    obtain ⟨p1, hpp1⟩ : ∃ x, x = u1.heap.size := ⟨_, rfl⟩
    rw [← hpp1] at hzn OBn hpp ⊢
    clear hpp1
    have OB := OBn
    have RB := RBn
    clear OBn RBn
    have BB := BBm
    clear BBm
    refine wpAnyZ_one (i := 4) (o := ?o21) (by kernel_rfl) ?hi21 (fun K hK => ?rest21)
    case hi21 => simp only [List.getElem?_toArray, List.getElem?_cons_succ, List.getElem?_cons_zero]; rfl
    refine step_append_rg _ (by rfl) (.tmp 20) (.tmp 23) 30 (by rfl) w3.heap.size 3 i0 (.int .i64 0) 1 8 Try.underlying30 hi0 hz0 hz1 hz2 rfl (by decide) _ 0 [] OB.out ?_ A0 M c0 (CI L0) (RD0.out.keep BB.out.block) (by simp [Act.eval, Act.put] <;> fail) (by rw [List.length_map, HL0.out, Nat.mul_one]) (aints_one L0) (by simp only [maxLen]; omega) (by omega) BB.out.size ?_
    simp [Act.eval, Act.put]
    intro v5 u3 o5 g5 d5
    rw [Nat.zero_add, List.nil_append] at o5
    obtain ⟨A5, c5, rfl⟩ := own_slice o5
    have BBn := Below.grown BB.out g5 BB.out.size (fun k hk => (OB.out.lt k hk).1)
    have hzn := g5.size
    have hbz := BB.out.size
    have RBn := Lib.hid (readc_grown RB.out g5 (by simp [Value.ownBlock]; omega))
    have hpa : ∀ g, (Value.slice A5 M c5).ownBlock = some g → g ≠ p2 := fun g hg e => by
      rcases d5 with d5 | d5
      · rw [d5] at hg; simp [Value.ownBlock] at hg; omega
      · rw [d5] at hg; injection hg with hg; omega
    refine hK.out _ _ (.inr (cell_keepA x0 BBn)) ?_
    clear hK K
    (try simp only [Act.put, List.setIfInBounds_toArray, List.set_cons_zero, List.set_cons_succ])
    have OA := Lib.hid o5
    clear OB o5 g5 d5 BB
    clear RB
    have RB := RBn
    clear RBn
    have BB := Lib.hid BBn
    clear BBn
    refine wpAnyZ_one (i := 6) (o := ?o22) (by kernel_rfl) ?hi22 (fun K hK => ?rest22)
    case hi22 => simp only [List.getElem?_toArray, List.getElem?_cons_succ, List.getElem?_cons_zero]; rfl
    refine step_append_rg _ (by rfl) (.tmp 24) (.tmp 25) 30 (by rfl) w3.heap.size 3 i0 (.int .i64 0) 1 8 Try.underlying30 hi0 hz0 hz1 hz2 rfl (by decide) _ M (CI L0) OA.out ?_ (some ⟨p2, 0, none⟩) 1 1 [.int .i64 0] RB.out (by simp [Act.eval, Act.put] <;> fail) rfl (by intro u hu; simp at hu; subst hu; rfl) (by simp only [maxLen]; omega) (by omega) BB.out.size ?_
    simp [Act.eval, Act.put]
    intro v6 u4 o6 g6 d6
    obtain ⟨A6, c6, rfl⟩ := own_slice o6
    have BBn := Below.grown BB.out g6 BB.out.size (fun k hk => (OA.out.lt k hk).1)
    have hzn := g6.size
    have hbz := BB.out.size
    refine hK.out _ _ (.inr (cell_keepA x0 BBn)) ?_
    clear hK K
    (try simp only [Act.put, List.setIfInBounds_toArray, List.set_cons_zero, List.set_cons_succ])
    have O6 := Lib.hid o6
    clear OA RB o6 g6 d6 BB
    have BB := Lib.hid BBn
    clear BBn
    refine wpAnyZ_one (i := 7) (o := ?o23) (by kernel_rfl) ?hi23 (fun K hK => ?rest23)
    case hi23 => simp only [List.getElem?_toArray, List.getElem?_cons_succ, List.getElem?_cons_zero]; rfl
    go_simp
    have BBn := b_alloc BB.out (.cells #[.slice A6 (M + 1) c6] 30)
    have O6n := Lib.hid (O6.out.alloc (.cells #[.slice A6 (M + 1) c6] 30))
    have OLT := Lib.hid (fun g (hg : (Value.slice A6 (M + 1) c6).ownBlock = some g) => O6.out.lt g hg)
    have OU := Lib.hid (World.ownsRow_lit (e := 30) (size := 1) (base := w3.heap.size) u4 #[.slice A6 (M + 1) c6] 1 BB.out.size (by simp [maxLen]) (by simp))
    refine hK.out _ _ (.inr (cell_keepA x0 BBn)) ?_
    clear hK K
    (try simp only [Act.put, List.setIfInBounds_toArray, List.set_cons_zero, List.set_cons_succ])
    clear BB O6
    have BB := Lib.hid BBn
    clear BBn
    obtain ⟨p7, hp7⟩ : ∃ x, x = u4.heap.size := ⟨_, rfl⟩
    generalize hvv : u4.alloc (.cells #[.slice A6 (M + 1) c6] 30) = u7 at *
    rw [← hp7] at OU OLT ⊢
    clear hvv hp7
    refine wpAnyZ_one (i := 10) (o := ?o24) (by kernel_rfl) ?hi24 (fun K hK => ?rest24)
    case hi24 => simp only [List.getElem?_toArray, List.getElem?_cons_succ, List.getElem?_cons_zero]; rfl
    refine step_append_rg _ (by rfl) (.tmp 27) (.tmp 29) 22 (by rfl) w3.heap.size 30 i1 (.slice none 0 0) 1 24 Try.underlying22 hi1 hy0 hy1 hy2 rfl (by decide) _ 1 [.slice A6 (M + 1) c6] OU.out ?_ (some ⟨b, off + 1, none⟩) (D - 1) (c1 - 1) tl (RTL.out.keep BB.out.block) (by simp [Act.eval, Act.put] <;> fail) (by rw [HTL.out, Nat.mul_one]) TL.out.one (by simp only [maxLen]; omega) (by omega) BB.out.size ?_
    simp [Act.eval, Act.put]
    intro v9 u8 o9 g9 d9
    rw [show 1 + (D - 1) = D by omega, List.singleton_append] at o9
    obtain ⟨A9, c9, rfl⟩ := own_slice o9
    have BBn := Below.grown BB.out g9 BB.out.size (fun k hk => (OU.out.lt k hk).1)
    have O6 := Lib.hid (own_block O6n.out (fun g hg => g9.block g (O6n.out.lt g hg).2 (fun e => by simp [Value.ownBlock] at e; have := (OLT.out g hg).2; omega)))
    refine hK.out _ _ (.inr (cell_keepA x0 BBn)) ?_
    clear hK K
    (try simp only [Act.put, List.setIfInBounds_toArray, List.set_cons_zero, List.set_cons_succ])
    have O9 := Lib.hid o9
    clear OU O6n OLT o9 g9 d9 BB
    have BB := Lib.hid BBn
    clear BBn
    refine wpAnyZ_take (i := 11) (oi := ?o25) (v := ?v25) ?hi25 (by kernel_rfl) (by kernel_rfl) (by kernel_rfl) (by kernel_rfl) ?hq25 ?hy25 (cell_keepA x0 BB.out) ?rest25
    case hi25 => simp only [List.getElem?_toArray, List.getElem?_cons_succ, List.getElem?_cons_zero]; rfl
    case hq25 => exact fun _ _ _ h => h
    case hy25 => (refine Or.inl ⟨by rfl, ?_⟩; intro w hSw; (try dsimp only at hSw); go_simp; (try with_reducible rfl))
    simp only [Act.put, List.setIfInBounds_toArray, List.set_cons_zero, List.set_cons_succ]
    refine wpAnyZ_done (by kernel_rfl) ?_ _
    have hcap := own_cap O6.out
    have RB := rows_cons (r := L0 ++ [0]) TL.out BB.out (show u8.ownsRow w3.heap.size 30 1 (.slice A9 D c9) D (.slice A6 (L0 ++ [0]).length c6 :: tl) by rw [HLL.out]; exact O9.out) (show ReadC u8 A6 (CI (L0 ++ [0])) by
      have := own_read O6.out
      have e : CI (L0 ++ [0]) = CI L0 ++ [.int .i64 0] := List.map_append ..
      rw [e]
      exact this) (by rw [HLL.out]; exact hcap.1) hcap.2
    have RBH := Lib.hid RB
    have C4 := Lib.hid (C3.out.trans (BB.out.mono C3.out.size))
    have T4 := Lib.hid (T3.out.below BB.out)
    clear RB O6 O9 BB TL RTL HTL RD0 x0
    go_wp2_with fail
    refine (hbad.out _ _ _ RBH.out).mono ?_
    rintro e w6 ⟨rfl, b6⟩
    have T6 := Lib.hid (T4.out.below b6)
    have C6 := Lib.hid (C4.out.trans (b6.mono C4.out.size))
    clear b6 RBH C4 T4
    go_wp2_with fail
    refine (hone.out _ T6.out).mono ?_
    rintro e w7 ⟨rfl, b7⟩
    have C7 := Lib.hid (C6.out.trans (b7.mono C6.out.size))
    clear b7
    go_wp2
    go_ret
    exact ⟨rfl, C7.out⟩
  exact AllZ.nil

set_option maxRecDepth 100000 in
theorem lifted (os : Os) (started : os.Started) (H : Type) (enc : TypeId × Value → H) :
    ReturnsInHanded {} Try.checked os 5 .any (Rows.fnArrayValidSpec.pre6 enc Try.prog Try.f5 Rows.fnArrayValidRow.domain false) (Rows.fnArrayValidSpec.post enc Try.prog Try.f5 false true false false) := by
  refine returnsInHanded_of_change (C := Try.checked) own started (by kernel_rfl) Try.func5
    (ChangeSpec.witness6 (enc := enc) (C := Try.checked) false ⟨#[], #[.slice none 0 0], []⟩ 8 (by kernel_rfl) (by kernel_rfl) (by kernel_rfl) (by kernel_rfl)) ?_
  intro W base args ds gs before hval0 hW hcnd _
  have hval : ∀ (j : Nat) t v, Try.f5.params[j]? = some t → args[j]? = some v → Value.okWide Try.prog W .any base t v := hval0
  have hW' := hW
  obtain ⟨p, q, hA0, hV, rfl, hfz, hnd⟩ := hW
  have hA : DataW.TrodAll enc Try.prog W 0 (fun _ => true) true Try.f5.params.toList args.toList ds p := hA0
  rw [Try.params5] at hA hval
  obtain ⟨v0, vs0, d0, ds0, p0, q0, hargs, rfl, rfl, h0, r0⟩ := trodAll_cons hA
  obtain ⟨rfl, rfl, rfl⟩ := trodAll_nil r0
  obtain rfl : args = #[v0] := by cases args; simp_all
  obtain ⟨rfl, rfl⟩ := trodVars_none hV
  have k0 := h0
  have lt0 : ∀ x ∈ p0, x.block < W.heap.size := by obtain ⟨m, hm⟩ := k0; exact DataW.trod_lt m _ _ _ hm
  obtain ⟨a0, n0, c0, rfl, ok0, le0, cl0⟩ := open_bytes (hval 0 27 v0 rfl rfl) h0
  clear hA0 hval0
  refine (walk a0 n0 c0 W ok0 le0 cl0).mono fun e W' ⟨he, bel⟩ => ?_
  subst he
  exact ⟨_, rfl, _, _, _, [], _, [], hW', trodAll_mk1 (shut_bool Try.underlying4 _), (trodAll_cons_mk (Below.trod laidOut (by kernel_rfl) (of_decide_eq_true (by kernel_rfl)) k0 bel lt0) trodAll_mk0), rfl, bel.frame _, fun h => by cases h⟩

theorem proved : Rows.FnArrayValidSaid :=
  OpenClaim.holds_of_wide 5 Try.f5 rfl rfl rfl rfl rfl rfl rfl ⟨rfl, rfl, rfl, rfl, rfl⟩ rfl rfl rfl rfl rfl (by kernel_rfl) Try.func5 (by kernel_rfl)
    (of_decide_eq_true (by kernel_rfl)) (by unfold Func.isWrapper; first | (rw [if_pos (by decide +kernel)]; kernel_rfl) | (rw [if_neg (by decide +kernel)]; exact ⟨rfl, rfl⟩))
    (fun os started H enc _ => lifted os started H enc)
#print axioms proved
end Go.Proofs.Ytgdbchodlapdpaa.fnArrayValid
