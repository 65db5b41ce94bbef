/- Proves Rows.FnLargestGapSaid: for every input the law FnLargestGap returns true and leaves its arguments as they were. Conditions: none. -/
import Derived.Test.YtpfbkmpjneclpaaOpen
import Derived.Test.YtpfbkmpjneclpaaGapLaw
import Derived.Test.YtpfbkmpjneclpaaDrawPs
import Derived.Test.YtpfbkmpjneclpaaAppG
import Derived.Test.YtpfbkmpjneclpaaInts
namespace Go.Proofs.Ytpfbkmpjneclpaa.fnLargestGap
open Go.ChangeShapes Go.WideShapes Go.ChangeAt Go.RowKit
set_option linter.unusedVariables false
theorem partsC_one (l : List (Int × Int)) : ∀ u ∈ partsC l, u.oneCell' = true := by
  intro u hu
  simp only [partsC, List.mem_flatMap] at hu
  obtain ⟨p, _, hp⟩ := hu
  simp at hp
  rcases hp with rfl | rfl <;> rfl
theorem cells_on {w : World} {ad : Addr} {xs : List Value} (h : ReadC w (some ad) xs) (o : Obj) : ∀ j u, xs[j]? = some u → (w.alloc o).cell? (ad.add j) = some u := by
  intro j u hu
  obtain ⟨b, off, e, hc⟩ := h (by
    rcases Nat.eq_zero_or_pos xs.length with h0 | h0
    · rw [List.eq_nil_of_length_eq_zero h0] at hu; simp at hu
    · exact h0)
  obtain rfl : ad = ⟨b, off, none⟩ := by injection e
  obtain ⟨hj, hju⟩ := List.getElem?_eq_some_iff.1 hu
  have hcj := hc j hj
  rw [hju] at hcj
  have : (⟨b, off, none⟩ : Addr).add j = ⟨b, off + j, none⟩ := by unfold Addr.add; split <;> simp_all
  rw [this, World.cell?_alloc_lt _ _ _ (block_lt_of_cell hcj)]
  exact hcj
theorem last_cases {w : World} {ad : Addr} {l : List (Int × Int)} (h : ReadC w (some ad) (partsC l)) (a : Int) :
    l.length = 0 ∨ ∃ (j b off : Nat) (f q : Int), ∃ hj : l.length = j + 1, ad = ⟨b, off, none⟩ ∧ f = (l[j]'(by omega)).1 ∧ w.cell? ⟨b, off + j * 2, none⟩ = some (.int .i64 f) ∧ w.cell? ⟨b, off + j * 2 + 1, none⟩ = some (.int .i64 q) := by
  rcases Nat.eq_zero_or_pos l.length with h0 | h0
  · exact .inl h0
  · obtain ⟨b, off, hbo, hc⟩ := PartsIn.of h h0
    obtain ⟨c1, c2⟩ := hc (l.length - 1) (by omega)
    exact .inr ⟨l.length - 1, b, off, _, _, by omega, by injection hbo, rfl, c1, c2⟩

set_option maxHeartbeats 2000000 in
theorem walk (A : Option Addr) (m cp : Nat) (w : World) (hb : BytesIn w A m) (hmc : m ≤ cp) (hcp : cp ≤ 9223372036854775807) :
    Calls Try.prog 14 #[.slice A m cp] w fun e w' => e = .returned (.bool true) ∧ Below w.heap.size w w' := by
  by_cases hbig : 1048576 < m
  · go_enter Try.func14, Try.ntmps14
    go_wp2
    go_ret
    exact ⟨rfl, Below.refl _ _⟩
  · obtain ⟨i0, hi0, hz0, hz1, hz2⟩ := info_parts rowinfo_parts
    go_enter Try.func14, Try.ntmps14
    go_wp2_with fail
    refine (drawLargestGap_s A m cp w hb hmc hcp).mono ?_
    rintro e w1 ⟨ad, c, l, size, rfl, hR, hl, s0, s1, hb1⟩
    go_wp2_with fail
    refine (implGap_any (some ad) c l size _ hR (by omega)).mono ?_
    rintro e w2 ⟨rfl, hb2⟩
    have hR2 := hR.below hb2
    have hb12 := hb1.trans (hb2.mono hb1.size)
    clear hR hb1 hb2
    go_wp2_with fail
    refine (specGap_any (some ad) c l size _ (PartsIn.of hR2) (by omega)).mono ?_
    rintro e w3 ⟨rfl, hb3⟩
    have hR3 := hR2.below hb3
    have hb13 := hb12.trans (hb3.mono hb12.size)
    clear hR2 hb12 hb3
    by_cases hneg : (gapV l size).1 < 0
    · rw [gap_neg hneg]
      clear hneg
      go_wp2_with (go_at_call 28; refine (alive_any _).mono ?_; rintro e w2 ⟨rfl, hb2⟩)
      go_ret
      exact ⟨rfl, hb13.trans (hb2.mono hb13.size)⟩
    · obtain ⟨⟨a, n⟩, hxy⟩ : ∃ p, p = gapV l size := ⟨_, rfl⟩
      rw [← hxy] at hneg ⊢
      simp only at hneg
      obtain ⟨g1, g2, g3, g4, g5⟩ := gap_pos hxy.symm hneg
      have G4 := Lib.hid g4
      have G5 := Lib.hid g5
      clear hxy g4 g5 g1
      go_wp2
      go_loopw [9] (fun y wr => ∃ k : Int, a ≤ k ∧ k ≤ a + n ∧ y = .int .i64 k ∧ Below w3.heap.size w3 wr) (fun y _ => (a + n - intOf y).toNat)
      case atStart => exact ⟨a, by omega, by omega, rfl, Below.refl _ _⟩
      case round =>
        obtain ⟨k, k0, k1, rfl, hbr⟩ := hrel
        have hR4 := hR3.below hbr
        by_cases hlt : k < a + n
        · go_wp2_with fail
          refine (implFromDisk_any (some ad) c l size k _ (PartsIn.of hR4) (by omega)).mono ?_
          rintro e w4 ⟨rfl, hb4⟩
          rw [G4.out k k0 hlt]
          have hb5 := Lib.hid (hbr.trans (hb4.mono hbr.size))
          clear hb4 hbr hR4 hR3
          go_wp2
          go_roundw
          case rel => exact ⟨k + 1, by omega, by omega, rfl, hb5.out⟩
          case measure => simp [intOf]; omega
        · have hb14 := Lib.hid (hb13.trans (hbr.mono hb13.size))
          have t1 : decide (1 ≤ n) = true := by simpa using g2
          have t2 : decide (a + n ≤ size) = true := by simpa using g3
          have t3 : ((l.length : Int) == 8) = false := by simp; omega
          clear hbr hR3 hb13
          have hsame : wr.heap.size = wr.heap.size := rfl
          rcases last_cases (hR4) a with h0 | ⟨j, b, off, f, q, hj, rfl, hfj, c1, c2⟩
          · have hV := Lib.hid (G5.out (by omega) (fun j hj => by omega))
            have hlit := Lib.hid (World.ownsRow_lit (e := 47) (size := 2) (base := wr.heap.size) wr #[] 0 (Nat.le_refl _) (by simp [maxLen]) (by simp))
            have hcells := Lib.hid (cells_on hR4 (.cells #[] 47))
            rw [h0] at t3 ⊢
            clear hR4 G4 G5
            have hown0 := hlit.out
            go_wp2_with (first
              | (at_builtin; refine wpList_append_g rfl (.tmp 101) (.tmp 102) 25 rfl wr.heap.size 47 i0 (.agg #[.int .i64 0, .int .i64 0]) 2 16 Try.underlying25 hi0 hz0 hz1 hz2 rfl (by decide) _ 0 [] rfl hown0 _ 0 c (partsC l) rfl (by rw [partsC_length]; omega) hcells.out (partsC_one l) (by simp only [maxLen]; omega) (by omega) (by simp) ?_; intro v5 w5 hown5 hg5; rw [Nat.zero_add] at hown5; obtain ⟨A5, cap5, rfl⟩ := own_slice hown5)
              | (at_builtin; refine wpList_append_g rfl (.tmp 103) (.tmp 107) 25 rfl wr.heap.size 47 i0 (.agg #[.int .i64 0, .int .i64 0]) 2 16 Try.underlying25 hi0 hz0 hz1 hz2 rfl (by decide) _ 0 ([] ++ partsC l) rfl (hown5.alloc _) ⟨w5.heap.size, 0, none⟩ 1 1 [.int .i64 a, .int .i64 n] rfl rfl news_at (by intro u hu; simp at hu; rcases hu with rfl | rfl <;> rfl) (by simp only [maxLen]; omega) (by omega) (by have := hg5.size; simp at this ⊢; omega) ?_; intro v6 w6 hown6 hg6; obtain ⟨g6, cap6, rfl⟩ := own_shape hown6))
            have hb5 : Below wr.heap.size wr w5 := (b_alloc (Below.refl wr.heap.size wr) (.cells #[] 47)).grown hg5 (by simp) (fun k hk => by have hk' : some wr.heap.size = some k := hk; injection hk' with hk'; omega)
            have hb6 : Below wr.heap.size wr w6 := (b_alloc hb5 _).grown hg6 (by have := hb5.size; simp; omega) (fun k hk => (hown5.lt k hk).1)
            have hlen : (l ++ [(a, n)]).length = 0 + 1 := by rw [List.length_append, List.length_cons, List.length_nil]; omega
            have hpc : [] ++ partsC l ++ [.int .i64 a, .int .i64 n] = partsC (l ++ [(a, n)]) := by simp [partsC]
            rw [hpc] at hown6
            have hcall := implParts_any (some ⟨g6, 0, none⟩) cap6 (l ++ [(a, n)]) size w6 (PartsIn.of (OwnC.of_row hown6).read) (by omega)
            rw [hlen] at hcall
            refine hcall.mono ?_
            rintro e w7 ⟨rfl, hb7⟩
            rw [hV.out]
            have hb17 := Lib.hid (hb14.out.trans ((hb6.trans (hb7.mono hb6.size)).mono hb14.out.size))
            clear hown5 hown6 hg5 hg6 hb5 hb6 hb7
            go_wp2
            go_ret
            exact ⟨rfl, hb17.out⟩
          · by_cases hb : f ≤ a
            · have hV := Lib.hid (G5.out (by omega) (fun j' hj' => by obtain rfl : j' = j := by omega
                                                                      rw [← hfj]; exact hb))
              have hlit := Lib.hid (World.ownsRow_lit (e := 47) (size := 2) (base := wr.heap.size) wr #[] 0 (Nat.le_refl _) (by simp [maxLen]) (by simp))
              have hcells := Lib.hid (cells_on hR4 (.cells #[] 47))
              rw [hj] at t3 ⊢
              have t4 : ((j : Int) + 1 - 1) = j := by omega
              have t5 : decide (f ≤ a) = true := by simpa using hb
              have t6 : ((j : Int) + 1 == 8) = false := by simp; omega
              have t7 : ((j : Int) == 7) = false := by simp; omega
              have t8 : ¬ (j : Int) = 7 := by omega
              have t9 : ¬ (j : Int) + 1 = 8 := by omega
              clear hR4 G4 G5 hfj
              have hown0 := hlit.out
              go_wp2_with (first
                | (at_builtin; refine wpList_append_g rfl (.tmp 101) (.tmp 102) 25 rfl wr.heap.size 47 i0 (.agg #[.int .i64 0, .int .i64 0]) 2 16 Try.underlying25 hi0 hz0 hz1 hz2 rfl (by decide) _ 0 [] rfl hown0 _ (j + 1) c (partsC l) rfl (by rw [partsC_length]; omega) hcells.out (partsC_one l) (by simp only [maxLen]; omega) (by omega) (by simp) ?_; intro v5 w5 hown5 hg5; rw [Nat.zero_add] at hown5; obtain ⟨A5, cap5, rfl⟩ := own_slice hown5)
                | (at_builtin; refine wpList_append_g rfl (.tmp 103) (.tmp 107) 25 rfl wr.heap.size 47 i0 (.agg #[.int .i64 0, .int .i64 0]) 2 16 Try.underlying25 hi0 hz0 hz1 hz2 rfl (by decide) _ (j + 1) ([] ++ partsC l) rfl (hown5.alloc _) ⟨w5.heap.size, 0, none⟩ 1 1 [.int .i64 a, .int .i64 n] rfl rfl news_at (by intro u hu; simp at hu; rcases hu with rfl | rfl <;> rfl) (by simp only [maxLen]; omega) (by omega) (by have := hg5.size; simp at this ⊢; omega) ?_; intro v6 w6 hown6 hg6; obtain ⟨g6, cap6, rfl⟩ := own_shape hown6))
              have hb5 : Below wr.heap.size wr w5 := (b_alloc (Below.refl wr.heap.size wr) (.cells #[] 47)).grown hg5 (by simp) (fun k hk => by have hk' : some wr.heap.size = some k := hk; injection hk' with hk'; omega)
              have hb6 : Below wr.heap.size wr w6 := (b_alloc hb5 _).grown hg6 (by have := hb5.size; simp; omega) (fun k hk => (hown5.lt k hk).1)
              have hlen : (l ++ [(a, n)]).length = j + 1 + 1 := by rw [List.length_append, List.length_cons, List.length_nil]; omega
              have hpc : [] ++ partsC l ++ [.int .i64 a, .int .i64 n] = partsC (l ++ [(a, n)]) := by simp [partsC]
              rw [hpc] at hown6
              have hcall := implParts_any (some ⟨g6, 0, none⟩) cap6 (l ++ [(a, n)]) size w6 (PartsIn.of (OwnC.of_row hown6).read) (by omega)
              rw [hlen] at hcall
              refine hcall.mono ?_
              rintro e w7 ⟨rfl, hb7⟩
              rw [hV.out]
              have hb17 := Lib.hid (hb14.out.trans ((hb6.trans (hb7.mono hb6.size)).mono hb14.out.size))
              clear hown5 hown6 hg5 hg6 hb5 hb6 hb7
              go_wp2
              go_ret
              exact ⟨rfl, hb17.out⟩
            · rw [hj] at t3 ⊢
              have t5 : decide (f ≤ a) = false := by simpa using hb
              clear hfj hR4 G4 G5 hi0 hz0 hz1 hz2
              go_wp2
              go_ret
              exact ⟨rfl, hb14.out⟩

set_option maxRecDepth 100000 in
theorem lifted (os : Os) (started : os.Started) (H : Type) (enc : TypeId × Value → H) :
    ReturnsInHanded {} Try.checked os 14 .any (Rows.fnLargestGapSpec.pre6 enc Try.prog Try.f14 Rows.fnLargestGapRow.domain false) (Rows.fnLargestGapSpec.post enc Try.prog Try.f14 false true false false) := by
  refine returnsInHanded_of_change (C := Try.checked) own started (by kernel_rfl) Try.func14
    (ChangeSpec.witness6 (enc := enc) (C := Try.checked) false ⟨#[], #[.slice none 0 0], []⟩ 8 (by kernel_rfl) (by kernel_rfl) (by kernel_rfl) (by kernel_rfl)) ?_
  intro W base args ds gs before hval0 hW hcnd _
  have hval : ∀ (j : Nat) t v, Try.f14.params[j]? = some t → args[j]? = some v → Value.okWide Try.prog W .any base t v := hval0
  have hW' := hW
  obtain ⟨p, q, hA0, hV, rfl, hfz, hnd⟩ := hW
  have hA : DataW.TrodAll enc Try.prog W 0 (fun _ => true) true Try.f14.params.toList args.toList ds p := hA0
  rw [Try.params14] at hA hval
  obtain ⟨v0, vs0, d0, ds0, p0, q0, hargs, rfl, rfl, h0, r0⟩ := trodAll_cons hA
  obtain ⟨rfl, rfl, rfl⟩ := trodAll_nil r0
  obtain rfl : args = #[v0] := by cases args; simp_all
  obtain ⟨rfl, rfl⟩ := trodVars_none hV
  have k0 := h0
  have lt0 : ∀ x ∈ p0, x.block < W.heap.size := by obtain ⟨m, hm⟩ := k0; exact DataW.trod_lt m _ _ _ hm
  obtain ⟨a0, n0, c0, rfl, ok0, le0, cl0⟩ := open_bytes (hval 0 34 v0 rfl rfl) h0
  clear hA0 hval0
  refine (walk a0 n0 c0 W ok0 le0 cl0).mono fun e W' ⟨he, bel⟩ => ?_
  subst he
  exact ⟨_, rfl, _, _, _, [], _, [], hW', trodAll_mk1 (shut_bool Try.underlying4 _), (trodAll_cons_mk (Below.trod laidOut (by kernel_rfl) (of_decide_eq_true (by kernel_rfl)) k0 bel lt0) trodAll_mk0), rfl, bel.frame _, fun h => by cases h⟩

theorem proved : Rows.FnLargestGapSaid :=
  OpenClaim.holds_of_wide 14 Try.f14 rfl rfl rfl rfl rfl rfl rfl ⟨rfl, rfl, rfl, rfl, rfl⟩ rfl rfl rfl rfl rfl (by kernel_rfl) Try.func14 (by kernel_rfl)
    (of_decide_eq_true (by kernel_rfl)) (by unfold Func.isWrapper; first | (rw [if_pos (by decide +kernel)]; kernel_rfl) | (rw [if_neg (by decide +kernel)]; exact ⟨rfl, rfl⟩))
    (fun os started H enc _ => lifted os started H enc)
#print axioms proved
end Go.Proofs.Ytpfbkmpjneclpaa.fnLargestGap
