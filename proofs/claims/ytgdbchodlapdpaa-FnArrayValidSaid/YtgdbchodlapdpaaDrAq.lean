/- The draw of arrays of disks. -/
import Derived.Test.YtgdbchodlapdpaaDrAp
import Derived.Test.YtgdbchodlapdpaaRegZ
namespace Go.Proofs.Ytgdbchodlapdpaa
open Go.RowKit
set_option linter.unusedVariables false

theorem prod_pos {m D : Int} (h0 : 1 ≤ m) (h2 : 2 ≤ D) : 1 ≤ m * (D - 1) := by
  have := Int.mul_pos (a := m) (b := D - 1) (by omega) (by omega)
  omega
theorem rows_sum {L : List (List Int)} {D R : Nat} (hD : L.length = D) (hR : ∀ i (hi : i < L.length), L[i].length = R) (h1 : D ≤ 5) (h2 : R ≤ 5) : D + sumN L ≤ 30 := by
  have h3 : sumN L ≤ R * L.length := sumN_le' (fun r hr => by
    obtain ⟨i, hi, rfl⟩ := List.mem_iff_getElem.1 hr
    rw [hR i hi]
    exact Nat.le_refl _)
  have h4 : R * L.length ≤ 5 * 5 := Nat.mul_le_mul h2 (by omega)
  omega
theorem ArrOk.rows {L : List (List Int)} {D R : Nat} (h : ArrOk L D R) : ∀ i (hi : i < L.length), L[i].length = R := fun i hi => (h.2.2.2.2 _ (List.getElem_mem hi)).1
theorem arrOk_zero {D R : Nat} (h1 : 2 ≤ D) (h2 : D ≤ 6) (h3 : R ≤ 16) : ArrOk (List.replicate D (List.replicate R 0)) D R := by
  refine ⟨List.length_replicate .., h1, h2, h3, fun r hr => ?_⟩
  rw [List.eq_of_mem_replicate hr]
  refine ⟨List.length_replicate .., fun x hx => ?_⟩
  rw [List.eq_of_mem_replicate hx]
  omega
theorem zero_step {k R : Nat} : List.replicate (k + 1) (List.replicate R (0 : Int)) = List.replicate k (List.replicate R 0) ++ [List.replicate R 0] := List.replicate_succ' ..

set_option linter.unusedSimpArgs false in
set_option maxHeartbeats 8000000 in
theorem l20Array_any (rb P : Nat) (n : Int) (W : World) (h : RdAt W rb P) (hP : P ≤ 100000000) (hn : 0 ≤ n ∧ n ≤ 1000) :
    Calls Try.prog 47 #[.pointer (some ⟨rb, 0, none⟩), .int .i64 n] W (DrawnA rb W) := by
  obtain ⟨i0, hi0, hz0, hz1, hz2⟩ := info_parts info_i1
  obtain ⟨i1, hi1, hy0, hy1, hy2⟩ := info_parts info_row
  have hrb := h.lt
  have H0 := Lib.hid h
  clear h
  go_enter Try.func47, Try.ntmps47
  go_wp2_with fail
  refine (pick_in rb P 4 _ H0.out (by omega) (by omega)).mono ?_
  rintro e w1 ⟨d, rfl, d0, d1, hr1, hg1, hs1⟩
  obtain ⟨d, rfl⟩ := Int.eq_ofNat_of_zero_le d0
  go_wp2_with fail
  refine (pick_in rb (P + 1) 6 _ hr1 (by omega) (by omega)).mono ?_
  rintro e w2 ⟨R, rfl, R0, R1, hr2, hg2, hs2⟩
  obtain ⟨R, rfl⟩ := Int.eq_ofNat_of_zero_le R0
  have T := Lib.hid (ASt.start hr2 (gtrans hg1 hg2) hrb)
  clear H0 hr1 hg1 hs1 hr2 hg2 hs2 R0 d0
  rw [show (2 : Int) + (d : Int) = ((d + 2 : Nat) : Int) by omega]
  obtain ⟨D, hD⟩ : ∃ D, D = d + 2 := ⟨_, rfl⟩
  rw [← hD]
  have D2 : 2 ≤ D ∧ D ≤ 5 := by omega
  clear hD d1
  have pb := prod_b (m := (R : Int)) (D := (D : Int)) (by omega) (by omega) (by omega) (by omega)
  go_wp2
  go_loopw [7, 8] (fun x y wr => ∃ (k : Nat) (A : Option Addr) (c : Nat), k ≤ D ∧ x = .slice A k c ∧ y = .int .i64 k ∧ Hid (ASt W rb (P + 1 + 1) A c (List.replicate k (List.replicate R 0)) wr)) (fun _ y _ => D - (intOf y).toNat)
  case atStart => exact ⟨0, _, _, Nat.zero_le _, rfl, rfl, T⟩
  case round =>
    clear T
    obtain ⟨k, A, c, hk, rfl, rfl, T⟩ := hrel
    by_cases hlt : k < D
    · have hmk : (Instr.makeSlice 30 (.int .i64 (R : Int)) (.int .i64 (R : Int))).run Try.prog wr = .ok (.slice (some ⟨wr.heap.size, 0, none⟩) R R) (wr.alloc (.cells (madeCells #[.int .i64 0] R) 3)) := by
        have := make_rows (P := Try.prog) 30 3 (.int .i64 0) 1 8 Try.underlying30 info_i1 R (by omega) (by omega) wr
        rw [Nat.mul_one] at this
        exact this
      obtain ⟨lo, hs, o1, hlo, hrc, hst⟩ := T.out.grow R (by omega) rfl
      simp only [List.length_replicate] at o1 hst
      have O1 := Lib.hid o1
      have HRC := Lib.hid hrc
      have HST := Lib.hid hst
      have HLO := Lib.hid hlo
      clear T o1 hrc hst hlo
      go_wp2_with (at_builtin; refine wpList_append_r _ rfl (.tmp 21) (.tmp 24) 22 rfl lo 30 i1 (.slice none 0 0) 1 24 Try.underlying22 hi1 hy0 hy1 hy2 rfl (by decide) _ k hs O1.out rfl _ 1 1 [.slice (some ⟨wr.heap.size, 0, none⟩) R R] (by simpa using HRC.out) rfl rfl (by intro u hu; simp at hu; subst hu; rfl) (by simp only [maxLen]; omega) (by omega) (by simpa using HLO.out) ?_; intro v4 w4 o4 g4 n4; obtain ⟨A4, c4, rfl⟩ := own_slice o4)
      have T4 := Lib.hid (HST.out A4 c4 w4 o4 g4 n4)
      rw [← zero_step] at T4
      clear O1 HRC HST HLO o4 g4 n4 hmk
      go_roundw
      case rel => exact ⟨k + 1, A4, c4, by omega, rfl, by go_num, T4⟩
      case measure => simp [intOf]; omega
    · obtain rfl : k = D := by omega
      have OK := Lib.hid (arrOk_zero (D := k) (R := R) (by omega) (by omega) (by omega))
      generalize List.replicate k (List.replicate R (0 : Int)) = L at *
      obtain ⟨D, hDk⟩ : ∃ D, D = k := ⟨_, rfl⟩
      subst hDk
      clear hlt hk
      go_wp2_with fail
      refine (pick_in rb (P + 1 + 1) 12 _ T.out.rd (by omega) (by omega)).mono ?_
      rintro e w3 ⟨k0, rfl, ka, kb, hr3, hg3, hs3⟩
      have T3 := Lib.hid (T.out.pick hr3 hg3)
      clear T hr3 hg3 hs3
      go_wp2
      go_loopw [7, 9] (fun x y wr => ∃ (k : Int) (Q : Nat) (A : Option Addr) (c : Nat) (L : List (List Int)), 0 ≤ k ∧ k ≤ 11 ∧ x = .slice A D c ∧ y = .int .i64 k ∧ (Q : Int) + 4 * k ≤ 100000100 ∧ Hid (ArrOk L D R) ∧ Hid (ASt W rb Q A c L wr)) (fun _ y _ => (intOf y).toNat)
      case atStart => exact ⟨k0, P + 1 + 1 + 1, A, c, L, by omega, by omega, rfl, rfl, by omega, OK, T3⟩
      case round =>
        clear T3 OK ka kb
        obtain ⟨k, Q, A, c, L, k1, k2, rfl, rfl, hQk, OK, T⟩ := hrel
        have dk : IntKind.i64.wrap (k - 1) = k - 1 := IntWalk.i64_in _ (by omega)
        by_cases hR : (0 : Int) < (R : Int)
        · have pp := prod_pos (m := (R : Int)) (D := (D : Int)) (by omega) (by omega)
          by_cases hk : 0 < k
          · go_wp2_with fail
            refine (pick_in rb Q _ _ T.out.rd (by omega) (by omega)).mono ?_
            rintro e w5 ⟨y, rfl, ya, yb, hr5, hg5, hs5⟩
            have T5 := Lib.hid (T.out.pick hr5 hg5)
            clear T hr5 hg5 hs5
            go_wp2_with fail
            refine (pick_in rb (Q + 1) 256 _ T5.out.rd (by omega) (by omega)).mono ?_
            rintro e w6 ⟨z, rfl, za, zb, hr6, hg6, hs6⟩
            have T6 := Lib.hid (T5.out.pick hr6 hg6)
            clear T5 hr6 hg6 hs6
            have hw := Lib.hid (specWrt_any A c L y z w6 T6.out.read (by have := rows_sum OK.out.1 OK.out.rows (by omega) (by omega); have := OK.out.1; omega) (by omega))
            rw [OK.out.1] at hw
            have OK2 := Lib.hid (OK.out.wrt (n := y) (v := z) (OK.out.place.2 ⟨ya, by omega⟩) (inB_iff.2 ⟨za, by omega⟩))
            go_wp2_with fail
            refine hw.out.mono ?_
            rintro e w7 ⟨A7, c7, rfl, o7, b7⟩
            have T7 := Lib.hid (T6.out.put b7 o7)
            clear hw T6 o7 b7 OK
            rw [OK2.out.1]
            generalize wrtV L y z = L7 at *
            go_wp2
            go_roundw
            case rel => exact ⟨k - 1, Q + 1 + 1, A7, c7, L7, by omega, by omega, rfl, by go_num, by omega, OK2, T7⟩
            case measure => simp [intOf]; omega
          · have HD := Lib.hid OK.out.1
            have HR := Lib.hid OK.out.rows
            have HS := Lib.hid (rows_sum HD.out HR.out (by omega) (by omega))
            clear OK
            go_wp2_with fail
            refine (odd_any rb Q 4 _ T.out.rd (by omega) (by omega)).mono ?_
            rintro e w5 ⟨o, rfl, hr5, hg5, hs5⟩
            have T5 := Lib.hid (T.out.pick hr5 hg5)
            clear T hr5 hg5 hs5
            cases o
            ·
              go_wp2_with fail
              refine (odd_any rb (Q + 1) n _ T5.out.rd (by omega) (by omega)).mono ?_
              rintro e w5v ⟨o, rfl, hr5, hg5, hs5⟩
              have T5v := Lib.hid (T5.out.pick hr5 hg5)
              clear T5 hr5 hg5 hs5
              cases o
              · have Z := Lib.hid (T5v.out.fin (by omega) (by have := HD.out; omega) (by have := HD.out; have := HS.out; omega))
                rw [HD.out] at Z
                clear T5v HD HS
                go_wp2
                go_ret
                exact Z.out
              · go_wp2_with fail
                refine (pick_in rb (Q + 1 + 1) 3 _ T5v.out.rd (by omega) (by omega)).mono ?_
                rintro e w6 ⟨q, rfl, q0, q1, hr6, hg6, hs6⟩
                have T6 := Lib.hid (T5v.out.pick hr6 hg6)
                clear T5v hr6 hg6 hs6
                have hL0 : 0 < L.length := by have := HD.out; omega
                have hR0 : L[0].length = R := HR.out 0 hL0
                have cap6 := T6.out.cap
                rw [HD.out] at cap6
                obtain ⟨cap6, cap7⟩ := cap6
                have hq : q = 0 ∨ q = 1 ∨ q = 2 := by omega
                rcases hq with rfl | rfl | rfl
                · obtain ⟨lo, g0, Ai, ci, rfl, hc, hf, a1, hlo, ho, hne, hst⟩ := T6.out.bend0 hL0
                  have Z6 := Lib.hid (fun (w7 : World) (A7 : Option Addr) (c7 : Nat) (o7 : w7.ownsRow lo 3 1 (.slice A7 (L[0].length + 1) c7) (L[0].length + 1) (CI L[0] ++ [.int .i64 0])) (g7 : (w6.alloc (.cells #[.int .i64 0] 3)).grownBy w7 (Value.slice Ai L[0].length ci).ownBlock) (n7 : (Value.slice A7 (L[0].length + 1) c7).ownBlock = (Value.slice Ai L[0].length ci).ownBlock ∨ (Value.slice A7 (L[0].length + 1) c7).ownBlock = some (w6.heap.size + 1)) => show DrawnA rb W (.returned (.slice (some ⟨g0, 0, none⟩) D c)) (w7.setCell ⟨g0, 0, none⟩ (.slice A7 (L[0].length + 1) c7)) from by
                    have := ((hst w7 A7 c7 o7 g7 n7).1).fin (by omega) (by rw [List.length_set]; exact hL0) (by
                      have h1 := sumN_set (r := L[0] ++ [0]) hL0
                      have := HD.out
                      have := HS.out
                      simp at h1
                      rw [List.length_set]
                      omega)
                    rw [List.length_set, HD.out] at this
                    exact this)
                  have HO := Lib.hid ho
                  have HStp := Lib.hid hst
                  simp only [hR0] at hc HO HStp Z6
                  clear ho hst T6 hR0 HS HD HR hne
                  go_wp2_with (at_builtin; refine wpList_append_r _ rfl (.tmp 81) (.tmp 82) 30 rfl lo 3 i0 (.int .i64 0) 1 8 Try.underlying30 hi0 hz0 hz1 hz2 rfl (by decide) _ R (CI L[0]) HO.out rfl (some ⟨w6.heap.size, 0, none⟩) 1 1 [.int .i64 0] (aread_new rfl) rfl rfl (by intro u hu; simp at hu; subst hu; rfl) (by simp only [maxLen]; omega) (by omega) (by simp; omega) ?_; intro v7 w7 o7 g7 n7; obtain ⟨A7, c7, rfl⟩ := own_slice o7; have ZZ := Lib.hid (Z6.out w7 A7 c7 o7 g7 (by simpa using n7)); obtain ⟨_, b0, b1⟩ := HStp.out w7 A7 c7 o7 g7 (by simpa using n7); clear HStp HO Z6)
                  go_ret
                  exact ZZ.out
                · have Z := Lib.hid (T6.out.fin1 (by omega) (by omega) (by have := HD.out; have := HS.out; omega))
                  clear T6 HS HD HR hR0 hL0
                  go_wp2
                  go_ret
                  exact Z.out
                · obtain ⟨g0, Ai, ci, rfl, hc, hrd, hst⟩ := T6.out.bend2 hL0
                  have L6 := Lib.hid (World.ownsRow_lit (e := 3) (size := 1) (base := w6.heap.size) w6 #[.int .i64 256] 1 (Nat.le_refl _) (by simp [maxLen]) (by simp))
                  have Z6 := Lib.hid (fun (w7 : World) (A7 : Option Addr) (c7 : Nat) (o7 : w7.ownsRow w6.heap.size 3 1 (.slice A7 (1 + L[0].length) c7) (1 + L[0].length) ([.int .i64 256] ++ CI L[0])) (b7 : Below w6.heap.size w6 w7) => show DrawnA rb W (.returned (.slice (some ⟨g0, 0, none⟩) D c)) (w7.setCell ⟨g0, 0, none⟩ (.slice A7 (1 + L[0].length) c7)) ∧ w7.cell? ⟨g0, 0, none⟩ = some (.slice Ai L[0].length ci) ∧ w7.frozen? ⟨g0, 0, none⟩ = false from by
                    have hl2 : ((256 : Int) :: L[0]).length = 1 + L[0].length := by simp; omega
                    have hst2 := hst w7 A7 c7 (256 :: L[0]) (by rw [hl2]; simpa using o7) b7
                    rw [hl2] at hst2
                    refine ⟨?_, hst2.2⟩
                    have := (hst2.1).fin (by omega) (by rw [List.length_set]; exact hL0) (by
                      have h1 := sumN_set (r := (256 : Int) :: L[0]) hL0
                      have := HD.out
                      have := HS.out
                      simp at h1
                      rw [List.length_set]
                      omega)
                    rw [List.length_set, HD.out] at this
                    exact this)
                  have HC := Lib.hid (hrd.alloc (.cells #[.int .i64 256] 3))
                  simp only [hR0] at hc Z6
                  have hlc : (CI L[0]).length = R := by rw [List.length_map]; exact hR0
                  have HN := Lib.hid hlc
                  have HO1 := Lib.hid (aints_one L[0])
                  clear hst T6 hR0 HS HD HR hrd hlc
                  have hc2 : (w6.alloc (.cells #[.int .i64 256] 3)).cell? ⟨g0, 0, none⟩ = some (.slice Ai R ci) := by rw [World.cell?_alloc_some _ _ _ (by rw [hc]; rfl), hc]
                  go_wp2_with (at_builtin; refine wpList_append_r _ rfl (.tmp 70) (.tmp 73) 30 rfl w6.heap.size 3 i0 (.int .i64 0) 1 8 Try.underlying30 hi0 hz0 hz1 hz2 rfl (by decide) _ 1 [.int .i64 256] L6.out rfl Ai R ci (CI L[0]) HC.out rfl (by rw [HN.out, Nat.mul_one]) HO1.out (by simp only [maxLen]; omega) (by omega) (by simp) ?_; intro v7 w7 o7 g7 n7; obtain ⟨A7, c7, rfl⟩ := own_slice o7; have B7 : Below w6.heap.size w6 w7 := (b_alloc (Below.refl w6.heap.size w6) (.cells #[.int .i64 256] 3)).grown g7 (by simp) (fun g hg => by simp [Value.ownBlock] at hg; omega); obtain ⟨z7, b0, b1⟩ := Z6.out w7 A7 c7 o7 B7; have ZZ := Lib.hid z7; clear z7 Z6 HC HO1 HN L6 B7)
                  go_ret
                  exact ZZ.out
            · go_wp2
              obtain ⟨g0, rfl, hg0, hcl⟩ : ∃ g0, A = some ⟨g0, 0, none⟩ ∧ W.heap.size ≤ g0 ∧ g0 < w5.heap.size := by
                obtain ⟨g0, _, _, e, l, hc, _⟩ := T5.out.cell 0 (by have := HD.out; omega)
                exact ⟨g0, e, l, block_lt_of_cell hc⟩
              have zrb := T5.out.2.2.2
              refine wp_region_Z (fun w' : World => w'.heap[g0]? = w5.heap[g0]?) 12 (by kernel_rfl) ?_
              have TZ := Lib.hid T5.out.drew
              have e0z : w5.drew.heap[g0]? = w5.heap[g0]? := rfl
              have hz0u : g0 < w5.drew.heap.size := hcl
              generalize w5.drew = u0 at *
              clear T5
              refine wpAnyZ_take (i := 0) (oi := ?o1) (v := ?v1) ?hi1 (by kernel_rfl) (by kernel_rfl) (by kernel_rfl) (by kernel_rfl) ?hq1 ?hy1 e0z ?rest1
              case hi1 => simp only [List.getElem?_toArray, List.getElem?_cons_succ, List.getElem?_cons_zero]; rfl
              case hq1 => exact fun _ _ _ h => h
              case hy1 => (refine Or.inl ⟨by rfl, ?_⟩; intro w hSw; (try dsimp only at hSw); go_simp; (try with_reducible rfl))
              simp only [Act.put, List.setIfInBounds_toArray, List.set_cons_zero, List.set_cons_succ]
              refine wpAnyZ_take (i := 1) (oi := ?o2) (v := ?v2) ?hi2 (by kernel_rfl) (by kernel_rfl) (by kernel_rfl) (by kernel_rfl) ?hq2 ?hy2 e0z ?rest2
              case hi2 => simp only [List.getElem?_toArray, List.getElem?_cons_succ, List.getElem?_cons_zero]; rfl
              case hq2 => exact fun _ _ _ h => h
              case hy2 => (refine Or.inl ⟨by rfl, ?_⟩; intro w hSw; (try dsimp only at hSw); go_simp; (try with_reducible rfl))
              simp only [Act.put, List.setIfInBounds_toArray, List.set_cons_zero, List.set_cons_succ]
              refine wpAnyZ_take (i := 2) (oi := ?o3) (v := ?v3) ?hi3 (by kernel_rfl) (by kernel_rfl) (by kernel_rfl) (by kernel_rfl) ?hq3 ?hy3 e0z ?rest3
              case hi3 => simp only [List.getElem?_toArray, List.getElem?_cons_succ, List.getElem?_cons_zero]; rfl
              case hq3 => exact fun _ _ _ h => h
              case hy3 => (refine Or.inl ⟨by rfl, ?_⟩; intro w hSw; (try dsimp only at hSw); go_simp; (try with_reducible rfl))
              simp only [Act.put, List.setIfInBounds_toArray, List.set_cons_zero, List.set_cons_succ]
              refine wpAnyZ_take (i := 6) (oi := ?o4) (v := ?v4) ?hi4 (by kernel_rfl) (by kernel_rfl) (by kernel_rfl) (by kernel_rfl) ?hq4 ?hy4 e0z ?rest4
              case hi4 => simp only [List.getElem?_toArray, List.getElem?_cons_succ, List.getElem?_cons_zero]; rfl
              case hq4 => exact fun _ _ _ h => h
              case hy4 => (refine Or.inl ⟨by rfl, ?_⟩; intro w hSw; (try dsimp only at hSw); go_simp; (try with_reducible rfl))
              simp only [Act.put, List.setIfInBounds_toArray, List.set_cons_zero, List.set_cons_succ]
              refine wpAnyZ_take (i := 7) (oi := ?o5) (v := ?v5) ?hi5 (by kernel_rfl) (by kernel_rfl) (by kernel_rfl) (by kernel_rfl) ?hq5 ?hy5 e0z ?rest5
              case hi5 => simp only [List.getElem?_toArray, List.getElem?_cons_succ, List.getElem?_cons_zero]; rfl
              case hq5 => exact fun _ _ _ h => h
              case hy5 => (refine Or.inl ⟨by rfl, ?_⟩; intro w hSw; (try dsimp only at hSw); go_simp; (try with_reducible rfl))
              simp only [Act.put, List.setIfInBounds_toArray, List.set_cons_zero, List.set_cons_succ]
              refine wpAnyZ_take (i := 9) (oi := ?o6) (v := ?v6) ?hi6 (by kernel_rfl) (by kernel_rfl) (by kernel_rfl) (by kernel_rfl) ?hq6 ?hy6 e0z ?rest6
              case hi6 => simp only [List.getElem?_toArray, List.getElem?_cons_succ, List.getElem?_cons_zero]; rfl
              case hq6 => exact fun _ _ _ h => h
              case hy6 => (refine Or.inl ⟨by rfl, ?_⟩; intro w hSw; (try dsimp only at hSw); go_simp; (try with_reducible rfl))
              simp only [Act.put, List.setIfInBounds_toArray, List.set_cons_zero, List.set_cons_succ]
              refine wpAnyZ_one (i := 3) (o := ?oo3) (by kernel_rfl) ?hh3 (fun K hK => ?rr3)
              case hh3 => simp only [List.getElem?_toArray, List.getElem?_cons_succ, List.getElem?_cons_zero]; rfl
              go_simp
              go_at_call 55; refine (pick_in rb (Q + 1) _ u0 TZ.out.rd (by omega) (by omega)).mono ?_; rintro e u1 ⟨y, rfl, ya, yb, hr6, hg6, hs6⟩; (try dsimp only)
              have T1 := Lib.hid (TZ.out.pick hr6 hg6)
              have e1 : u1.heap[g0]? = w5.heap[g0]? := (hg6.block g0 (by omega) (by intro e; injection e with e; omega)).trans e0z
              obtain ⟨y, rfl⟩ := Int.eq_ofNat_of_zero_le ya
              have hyD : y < L.length := by have := HD.out; omega
              obtain ⟨g0', Ai, ci, e0, -, hc, hst⟩ := T1.out.cell y hyD
              obtain rfl : g0 = g0' := by injection e0 with e0; injection e0
              rw [HR.out y hyD] at hc hst
              refine hK.out _ _ (.inr e1) ?_
              clear hK K
              (try simp only [Act.put, List.setIfInBounds_toArray, List.set_cons_zero, List.set_cons_succ])
              refine wpAnyZ_take (i := 4) (oi := ?o7) (v := ?v7) ?hi7 (by kernel_rfl) (by kernel_rfl) (by kernel_rfl) (by kernel_rfl) ?hq7 ?hy7 e1 ?rest7
              case hi7 => simp only [List.getElem?_toArray, List.getElem?_cons_succ, List.getElem?_cons_zero]; rfl
              case hq7 => exact fun _ _ _ h => h
              case hy7 => (refine Or.inl ⟨by rfl, ?_⟩; intro w hSw; (try dsimp only at hSw); go_simp; (try with_reducible rfl))
              simp only [Act.put, List.setIfInBounds_toArray, List.set_cons_zero, List.set_cons_succ]
              refine wpAnyZ_take (i := 5) (oi := ?o8) (v := ?v8) ?hi8 (by kernel_rfl) (by kernel_rfl) (by kernel_rfl) (by kernel_rfl) ?hq8 ?hy8 e1 ?rest8
              case hi8 => simp only [List.getElem?_toArray, List.getElem?_cons_succ, List.getElem?_cons_zero]; rfl
              case hq8 => exact fun _ _ _ h => h
              case hy8 => (refine Or.inl ⟨by rfl, ?_⟩; intro w hSw; have hx := (World.cell?_of_block (hSw.trans e1.symm)).trans hc; go_simp; (try with_reducible rfl))
              simp only [Act.put, List.setIfInBounds_toArray, List.set_cons_zero, List.set_cons_succ]
              refine wpAnyZ_one (i := 8) (o := ?oo8) (by kernel_rfl) ?hh8 (fun K hK => ?rr8)
              case hh8 => simp only [List.getElem?_toArray, List.getElem?_cons_succ, List.getElem?_cons_zero]; rfl
              go_simp
              go_at_call 55; refine (pick_in rb (Q + 1 + 1) _ u1 T1.out.rd (by omega) (by omega)).mono ?_; rintro e u2 ⟨z, rfl, za, zb, hr7, hg7, hs7⟩; (try dsimp only)
              have T2 := Lib.hid (T1.out.pick hr7 hg7)
              have e2 : u2.heap[g0]? = w5.heap[g0]? := (hg7.block g0 (by omega) (by intro e; injection e with e; omega)).trans e1
              obtain ⟨z, rfl⟩ := Int.eq_ofNat_of_zero_le za
              obtain ⟨g4, _, rfl, hg4, _, _, _⟩ := hst z (by omega)
              refine hK.out _ _ (.inr e2) ?_
              clear hK K
              (try simp only [Act.put, List.setIfInBounds_toArray, List.set_cons_zero, List.set_cons_succ])
              refine wpAnyZ_one (i := 10) (o := ?oo10) (by kernel_rfl) ?hh10 (fun K hK => ?rr10)
              case hh10 => simp only [List.getElem?_toArray, List.getElem?_cons_succ, List.getElem?_cons_zero]; rfl
              go_simp
              go_at_call 55; refine (pick_in rb (Q + 1 + 1 + 1) _ u2 T2.out.rd (by omega) (by omega)).mono ?_; rintro e u3 ⟨x, rfl, xa, xb, hr8, hg8, hs8⟩; (try dsimp only)
              have T3 := Lib.hid (T2.out.pick hr8 hg8)
              have e3 : u3.heap[g0]? = w5.heap[g0]? := (hg8.block g0 (by omega) (by intro e; injection e with e; omega)).trans e2
              obtain ⟨g1, A1, c1, q0, -, q1, q2⟩ := T3.out.cell y hyD
              obtain rfl : g0 = g1 := by injection q0 with q0; injection q0
              rw [HR.out y hyD] at q1 q2
              rw [(World.cell?_of_block (e3.trans e1.symm)).trans hc] at q1
              obtain ⟨rfl, rfl⟩ : some ⟨g4, 0, none⟩ = A1 ∧ ci = c1 := by injection q1 with q1; injection q1 with a _ b; exact ⟨a, b⟩
              obtain ⟨g5, u5, q3, -, q4, q5, q6⟩ := q2 z (by omega)
              obtain rfl : g4 = g5 := by injection q3 with q3; injection q3
              have T4 := Lib.hid (q6 x)
              refine hK.out _ _ (.inr e3) ?_
              clear hK K
              (try simp only [Act.put, List.setIfInBounds_toArray, List.set_cons_zero, List.set_cons_succ])
              refine wpAnyZ_take (i := 11) (oi := ?o9) (v := ?v9) ?hi9 (by kernel_rfl) (by kernel_rfl) (by kernel_rfl) (by kernel_rfl) ?hq9 ?hy9 e3 ?rest9
              case hi9 => simp only [List.getElem?_toArray, List.getElem?_cons_succ, List.getElem?_cons_zero]; rfl
              case hq9 => exact fun _ _ _ h => h
              case hy9 => (refine Or.inl ⟨by rfl, ?_⟩; intro w hSw; (try dsimp only at hSw); go_simp; (try with_reducible rfl))
              simp only [Act.put, List.setIfInBounds_toArray, List.set_cons_zero, List.set_cons_succ]
              refine wpAnyZ_one (i := 12) (o := ?oo12) (by kernel_rfl) ?hh12 (fun K hK => ?rr12)
              case hh12 => simp only [List.getElem?_toArray, List.getElem?_cons_succ, List.getElem?_cons_zero]; rfl
              go_simp
              go_simp
              refine hK.out _ _ (.inl rfl) ?_
              clear hK K
              (try simp only [Act.put, List.setIfInBounds_toArray, List.set_cons_zero, List.set_cons_succ])
              refine wpAnyZ_done (by kernel_rfl) ?_ _
              have HD4 := Lib.hid (show (wrt1 L y z x).length = D by rw [wrt1_length]; exact HD.out)
              have HR4 := Lib.hid (fun i (hi : i < (wrt1 L y z x).length) => show (wrt1 L y z x)[i].length = R by rw [wrt1_length] at hi; rw [wrt1_row hi]; exact HR.out i hi)
              clear HD HR HS TZ T1 T2 T3 hr6 hg6 hs6 hr7 hg7 hs7 hr8 hg8 hs8 q0 q1 q2 q3 q4 q5 q6 e1 e2 e3 hc hst hyD
              generalize wrt1 L y z x = L4 at *
              generalize u3.setCell ⟨g4, z, none⟩ (.int .i64 x) = u4 at *
              generalize some (⟨g0, 0, none⟩ : Addr) = A4 at *
              have HS := Lib.hid (rows_sum HD4.out HR4.out (by omega) (by omega))
              rw [show Q + 1 + 1 + 1 + 1 = Q + 4 from rfl] at T4
              go_wp2_with fail
              refine (odd_any rb (Q + 4) n _ T4.out.rd (by omega) (by omega)).mono ?_
              rintro e w5v ⟨o, rfl, hr5, hg5, hs5⟩
              have T5v := Lib.hid (T4.out.pick hr5 hg5)
              clear T4 hr5 hg5 hs5
              cases o
              · have Z := Lib.hid (T5v.out.fin (by omega) (by have := HD4.out; omega) (by have := HD4.out; have := HS.out; omega))
                rw [HD4.out] at Z
                clear T5v HD4 HS
                go_wp2
                go_ret
                exact Z.out
              · go_wp2_with fail
                refine (pick_in rb (Q + 4 + 1) 3 _ T5v.out.rd (by omega) (by omega)).mono ?_
                rintro e w6 ⟨q, rfl, q0, q1, hr6, hg6, hs6⟩
                have T6 := Lib.hid (T5v.out.pick hr6 hg6)
                clear T5v hr6 hg6 hs6
                have hL0 : 0 < L4.length := by have := HD4.out; omega
                have hR0 : L4[0].length = R := HR4.out 0 hL0
                have cap6 := T6.out.cap
                rw [HD4.out] at cap6
                obtain ⟨cap6, cap7⟩ := cap6
                have hq : q = 0 ∨ q = 1 ∨ q = 2 := by omega
                rcases hq with rfl | rfl | rfl
                · obtain ⟨lo, g0, Ai, ci, rfl, hc, hf, a1, hlo, ho, hne, hst⟩ := T6.out.bend0 hL0
                  have Z6 := Lib.hid (fun (w7 : World) (A7 : Option Addr) (c7 : Nat) (o7 : w7.ownsRow lo 3 1 (.slice A7 (L4[0].length + 1) c7) (L4[0].length + 1) (CI L4[0] ++ [.int .i64 0])) (g7 : (w6.alloc (.cells #[.int .i64 0] 3)).grownBy w7 (Value.slice Ai L4[0].length ci).ownBlock) (n7 : (Value.slice A7 (L4[0].length + 1) c7).ownBlock = (Value.slice Ai L4[0].length ci).ownBlock ∨ (Value.slice A7 (L4[0].length + 1) c7).ownBlock = some (w6.heap.size + 1)) => show DrawnA rb W (.returned (.slice (some ⟨g0, 0, none⟩) D c)) (w7.setCell ⟨g0, 0, none⟩ (.slice A7 (L4[0].length + 1) c7)) from by
                    have := ((hst w7 A7 c7 o7 g7 n7).1).fin (by omega) (by rw [List.length_set]; exact hL0) (by
                      have h1 := sumN_set (r := L4[0] ++ [0]) hL0
                      have := HD4.out
                      have := HS.out
                      simp at h1
                      rw [List.length_set]
                      omega)
                    rw [List.length_set, HD4.out] at this
                    exact this)
                  have HO := Lib.hid ho
                  have HStp := Lib.hid hst
                  simp only [hR0] at hc HO HStp Z6
                  clear ho hst T6 hR0 HS HD4 HR4 hne
                  go_wp2_with (at_builtin; refine wpList_append_r _ rfl (.tmp 81) (.tmp 82) 30 rfl lo 3 i0 (.int .i64 0) 1 8 Try.underlying30 hi0 hz0 hz1 hz2 rfl (by decide) _ R (CI L4[0]) HO.out rfl (some ⟨w6.heap.size, 0, none⟩) 1 1 [.int .i64 0] (aread_new rfl) rfl rfl (by intro u hu; simp at hu; subst hu; rfl) (by simp only [maxLen]; omega) (by omega) (by simp; omega) ?_; intro v7 w7 o7 g7 n7; obtain ⟨A7, c7, rfl⟩ := own_slice o7; have ZZ := Lib.hid (Z6.out w7 A7 c7 o7 g7 (by simpa using n7)); obtain ⟨_, b0, b1⟩ := HStp.out w7 A7 c7 o7 g7 (by simpa using n7); clear HStp HO Z6)
                  go_ret
                  exact ZZ.out
                · have Z := Lib.hid (T6.out.fin1 (by omega) (by omega) (by have := HD4.out; have := HS.out; omega))
                  clear T6 HS HD4 HR4 hR0 hL0
                  go_wp2
                  go_ret
                  exact Z.out
                · obtain ⟨g0, Ai, ci, rfl, hc, hrd, hst⟩ := T6.out.bend2 hL0
                  have L6 := Lib.hid (World.ownsRow_lit (e := 3) (size := 1) (base := w6.heap.size) w6 #[.int .i64 256] 1 (Nat.le_refl _) (by simp [maxLen]) (by simp))
                  have Z6 := Lib.hid (fun (w7 : World) (A7 : Option Addr) (c7 : Nat) (o7 : w7.ownsRow w6.heap.size 3 1 (.slice A7 (1 + L4[0].length) c7) (1 + L4[0].length) ([.int .i64 256] ++ CI L4[0])) (b7 : Below w6.heap.size w6 w7) => show DrawnA rb W (.returned (.slice (some ⟨g0, 0, none⟩) D c)) (w7.setCell ⟨g0, 0, none⟩ (.slice A7 (1 + L4[0].length) c7)) ∧ w7.cell? ⟨g0, 0, none⟩ = some (.slice Ai L4[0].length ci) ∧ w7.frozen? ⟨g0, 0, none⟩ = false from by
                    have hl2 : ((256 : Int) :: L4[0]).length = 1 + L4[0].length := by simp; omega
                    have hst2 := hst w7 A7 c7 (256 :: L4[0]) (by rw [hl2]; simpa using o7) b7
                    rw [hl2] at hst2
                    refine ⟨?_, hst2.2⟩
                    have := (hst2.1).fin (by omega) (by rw [List.length_set]; exact hL0) (by
                      have h1 := sumN_set (r := (256 : Int) :: L4[0]) hL0
                      have := HD4.out
                      have := HS.out
                      simp at h1
                      rw [List.length_set]
                      omega)
                    rw [List.length_set, HD4.out] at this
                    exact this)
                  have HC := Lib.hid (hrd.alloc (.cells #[.int .i64 256] 3))
                  simp only [hR0] at hc Z6
                  have hlc : (CI L4[0]).length = R := by rw [List.length_map]; exact hR0
                  have HN := Lib.hid hlc
                  have HO1 := Lib.hid (aints_one L4[0])
                  clear hst T6 hR0 HS HD4 HR4 hrd hlc
                  have hc2 : (w6.alloc (.cells #[.int .i64 256] 3)).cell? ⟨g0, 0, none⟩ = some (.slice Ai R ci) := by rw [World.cell?_alloc_some _ _ _ (by rw [hc]; rfl), hc]
                  go_wp2_with (at_builtin; refine wpList_append_r _ rfl (.tmp 70) (.tmp 73) 30 rfl w6.heap.size 3 i0 (.int .i64 0) 1 8 Try.underlying30 hi0 hz0 hz1 hz2 rfl (by decide) _ 1 [.int .i64 256] L6.out rfl Ai R ci (CI L4[0]) HC.out rfl (by rw [HN.out, Nat.mul_one]) HO1.out (by simp only [maxLen]; omega) (by omega) (by simp) ?_; intro v7 w7 o7 g7 n7; obtain ⟨A7, c7, rfl⟩ := own_slice o7; have B7 : Below w6.heap.size w6 w7 := (b_alloc (Below.refl w6.heap.size w6) (.cells #[.int .i64 256] 3)).grown g7 (by simp) (fun g hg => by simp [Value.ownBlock] at hg; omega); obtain ⟨z7, b0, b1⟩ := Z6.out w7 A7 c7 o7 B7; have ZZ := Lib.hid z7; clear z7 Z6 HC HO1 HN L6 B7)
                  go_ret
                  exact ZZ.out
        · have HD := Lib.hid OK.out.1
          have HR := Lib.hid OK.out.rows
          have HS := Lib.hid (rows_sum HD.out HR.out (by omega) (by omega))
          clear OK
          by_cases hk : 0 < k
          ·
            go_wp2_with fail
            refine (odd_any rb (Q) n _ T.out.rd (by omega) (by omega)).mono ?_
            rintro e w5v ⟨o, rfl, hr5, hg5, hs5⟩
            have T5v := Lib.hid (T.out.pick hr5 hg5)
            clear T hr5 hg5 hs5
            cases o
            · have Z := Lib.hid (T5v.out.fin (by omega) (by have := HD.out; omega) (by have := HD.out; have := HS.out; omega))
              rw [HD.out] at Z
              clear T5v HD HS
              go_wp2
              go_ret
              exact Z.out
            · go_wp2_with fail
              refine (pick_in rb (Q + 1) 3 _ T5v.out.rd (by omega) (by omega)).mono ?_
              rintro e w6 ⟨q, rfl, q0, q1, hr6, hg6, hs6⟩
              have T6 := Lib.hid (T5v.out.pick hr6 hg6)
              clear T5v hr6 hg6 hs6
              have hL0 : 0 < L.length := by have := HD.out; omega
              have hR0 : L[0].length = R := HR.out 0 hL0
              have cap6 := T6.out.cap
              rw [HD.out] at cap6
              obtain ⟨cap6, cap7⟩ := cap6
              have hq : q = 0 ∨ q = 1 ∨ q = 2 := by omega
              rcases hq with rfl | rfl | rfl
              · obtain ⟨lo, g0, Ai, ci, rfl, hc, hf, a1, hlo, ho, hne, hst⟩ := T6.out.bend0 hL0
                have Z6 := Lib.hid (fun (w7 : World) (A7 : Option Addr) (c7 : Nat) (o7 : w7.ownsRow lo 3 1 (.slice A7 (L[0].length + 1) c7) (L[0].length + 1) (CI L[0] ++ [.int .i64 0])) (g7 : (w6.alloc (.cells #[.int .i64 0] 3)).grownBy w7 (Value.slice Ai L[0].length ci).ownBlock) (n7 : (Value.slice A7 (L[0].length + 1) c7).ownBlock = (Value.slice Ai L[0].length ci).ownBlock ∨ (Value.slice A7 (L[0].length + 1) c7).ownBlock = some (w6.heap.size + 1)) => show DrawnA rb W (.returned (.slice (some ⟨g0, 0, none⟩) D c)) (w7.setCell ⟨g0, 0, none⟩ (.slice A7 (L[0].length + 1) c7)) from by
                  have := ((hst w7 A7 c7 o7 g7 n7).1).fin (by omega) (by rw [List.length_set]; exact hL0) (by
                    have h1 := sumN_set (r := L[0] ++ [0]) hL0
                    have := HD.out
                    have := HS.out
                    simp at h1
                    rw [List.length_set]
                    omega)
                  rw [List.length_set, HD.out] at this
                  exact this)
                have HO := Lib.hid ho
                have HStp := Lib.hid hst
                simp only [hR0] at hc HO HStp Z6
                clear ho hst T6 hR0 HS HD HR hne
                go_wp2_with (at_builtin; refine wpList_append_r _ rfl (.tmp 81) (.tmp 82) 30 rfl lo 3 i0 (.int .i64 0) 1 8 Try.underlying30 hi0 hz0 hz1 hz2 rfl (by decide) _ R (CI L[0]) HO.out rfl (some ⟨w6.heap.size, 0, none⟩) 1 1 [.int .i64 0] (aread_new rfl) rfl rfl (by intro u hu; simp at hu; subst hu; rfl) (by simp only [maxLen]; omega) (by omega) (by simp; omega) ?_; intro v7 w7 o7 g7 n7; obtain ⟨A7, c7, rfl⟩ := own_slice o7; have ZZ := Lib.hid (Z6.out w7 A7 c7 o7 g7 (by simpa using n7)); obtain ⟨_, b0, b1⟩ := HStp.out w7 A7 c7 o7 g7 (by simpa using n7); clear HStp HO Z6)
                go_ret
                exact ZZ.out
              · have Z := Lib.hid (T6.out.fin1 (by omega) (by omega) (by have := HD.out; have := HS.out; omega))
                clear T6 HS HD HR hR0 hL0
                go_wp2
                go_ret
                exact Z.out
              · obtain ⟨g0, Ai, ci, rfl, hc, hrd, hst⟩ := T6.out.bend2 hL0
                have L6 := Lib.hid (World.ownsRow_lit (e := 3) (size := 1) (base := w6.heap.size) w6 #[.int .i64 256] 1 (Nat.le_refl _) (by simp [maxLen]) (by simp))
                have Z6 := Lib.hid (fun (w7 : World) (A7 : Option Addr) (c7 : Nat) (o7 : w7.ownsRow w6.heap.size 3 1 (.slice A7 (1 + L[0].length) c7) (1 + L[0].length) ([.int .i64 256] ++ CI L[0])) (b7 : Below w6.heap.size w6 w7) => show DrawnA rb W (.returned (.slice (some ⟨g0, 0, none⟩) D c)) (w7.setCell ⟨g0, 0, none⟩ (.slice A7 (1 + L[0].length) c7)) ∧ w7.cell? ⟨g0, 0, none⟩ = some (.slice Ai L[0].length ci) ∧ w7.frozen? ⟨g0, 0, none⟩ = false from by
                  have hl2 : ((256 : Int) :: L[0]).length = 1 + L[0].length := by simp; omega
                  have hst2 := hst w7 A7 c7 (256 :: L[0]) (by rw [hl2]; simpa using o7) b7
                  rw [hl2] at hst2
                  refine ⟨?_, hst2.2⟩
                  have := (hst2.1).fin (by omega) (by rw [List.length_set]; exact hL0) (by
                    have h1 := sumN_set (r := (256 : Int) :: L[0]) hL0
                    have := HD.out
                    have := HS.out
                    simp at h1
                    rw [List.length_set]
                    omega)
                  rw [List.length_set, HD.out] at this
                  exact this)
                have HC := Lib.hid (hrd.alloc (.cells #[.int .i64 256] 3))
                simp only [hR0] at hc Z6
                have hlc : (CI L[0]).length = R := by rw [List.length_map]; exact hR0
                have HN := Lib.hid hlc
                have HO1 := Lib.hid (aints_one L[0])
                clear hst T6 hR0 HS HD HR hrd hlc
                have hc2 : (w6.alloc (.cells #[.int .i64 256] 3)).cell? ⟨g0, 0, none⟩ = some (.slice Ai R ci) := by rw [World.cell?_alloc_some _ _ _ (by rw [hc]; rfl), hc]
                go_wp2_with (at_builtin; refine wpList_append_r _ rfl (.tmp 70) (.tmp 73) 30 rfl w6.heap.size 3 i0 (.int .i64 0) 1 8 Try.underlying30 hi0 hz0 hz1 hz2 rfl (by decide) _ 1 [.int .i64 256] L6.out rfl Ai R ci (CI L[0]) HC.out rfl (by rw [HN.out, Nat.mul_one]) HO1.out (by simp only [maxLen]; omega) (by omega) (by simp) ?_; intro v7 w7 o7 g7 n7; obtain ⟨A7, c7, rfl⟩ := own_slice o7; have B7 : Below w6.heap.size w6 w7 := (b_alloc (Below.refl w6.heap.size w6) (.cells #[.int .i64 256] 3)).grown g7 (by simp) (fun g hg => by simp [Value.ownBlock] at hg; omega); obtain ⟨z7, b0, b1⟩ := Z6.out w7 A7 c7 o7 B7; have ZZ := Lib.hid z7; clear z7 Z6 HC HO1 HN L6 B7)
                go_ret
                exact ZZ.out
          ·
            go_wp2_with fail
            refine (odd_any rb (Q) n _ T.out.rd (by omega) (by omega)).mono ?_
            rintro e w5v ⟨o, rfl, hr5, hg5, hs5⟩
            have T5v := Lib.hid (T.out.pick hr5 hg5)
            clear T hr5 hg5 hs5
            cases o
            · have Z := Lib.hid (T5v.out.fin (by omega) (by have := HD.out; omega) (by have := HD.out; have := HS.out; omega))
              rw [HD.out] at Z
              clear T5v HD HS
              go_wp2
              go_ret
              exact Z.out
            · go_wp2_with fail
              refine (pick_in rb (Q + 1) 3 _ T5v.out.rd (by omega) (by omega)).mono ?_
              rintro e w6 ⟨q, rfl, q0, q1, hr6, hg6, hs6⟩
              have T6 := Lib.hid (T5v.out.pick hr6 hg6)
              clear T5v hr6 hg6 hs6
              have hL0 : 0 < L.length := by have := HD.out; omega
              have hR0 : L[0].length = R := HR.out 0 hL0
              have cap6 := T6.out.cap
              rw [HD.out] at cap6
              obtain ⟨cap6, cap7⟩ := cap6
              have hq : q = 0 ∨ q = 1 ∨ q = 2 := by omega
              rcases hq with rfl | rfl | rfl
              · obtain ⟨lo, g0, Ai, ci, rfl, hc, hf, a1, hlo, ho, hne, hst⟩ := T6.out.bend0 hL0
                have Z6 := Lib.hid (fun (w7 : World) (A7 : Option Addr) (c7 : Nat) (o7 : w7.ownsRow lo 3 1 (.slice A7 (L[0].length + 1) c7) (L[0].length + 1) (CI L[0] ++ [.int .i64 0])) (g7 : (w6.alloc (.cells #[.int .i64 0] 3)).grownBy w7 (Value.slice Ai L[0].length ci).ownBlock) (n7 : (Value.slice A7 (L[0].length + 1) c7).ownBlock = (Value.slice Ai L[0].length ci).ownBlock ∨ (Value.slice A7 (L[0].length + 1) c7).ownBlock = some (w6.heap.size + 1)) => show DrawnA rb W (.returned (.slice (some ⟨g0, 0, none⟩) D c)) (w7.setCell ⟨g0, 0, none⟩ (.slice A7 (L[0].length + 1) c7)) from by
                  have := ((hst w7 A7 c7 o7 g7 n7).1).fin (by omega) (by rw [List.length_set]; exact hL0) (by
                    have h1 := sumN_set (r := L[0] ++ [0]) hL0
                    have := HD.out
                    have := HS.out
                    simp at h1
                    rw [List.length_set]
                    omega)
                  rw [List.length_set, HD.out] at this
                  exact this)
                have HO := Lib.hid ho
                have HStp := Lib.hid hst
                simp only [hR0] at hc HO HStp Z6
                clear ho hst T6 hR0 HS HD HR hne
                go_wp2_with (at_builtin; refine wpList_append_r _ rfl (.tmp 81) (.tmp 82) 30 rfl lo 3 i0 (.int .i64 0) 1 8 Try.underlying30 hi0 hz0 hz1 hz2 rfl (by decide) _ R (CI L[0]) HO.out rfl (some ⟨w6.heap.size, 0, none⟩) 1 1 [.int .i64 0] (aread_new rfl) rfl rfl (by intro u hu; simp at hu; subst hu; rfl) (by simp only [maxLen]; omega) (by omega) (by simp; omega) ?_; intro v7 w7 o7 g7 n7; obtain ⟨A7, c7, rfl⟩ := own_slice o7; have ZZ := Lib.hid (Z6.out w7 A7 c7 o7 g7 (by simpa using n7)); obtain ⟨_, b0, b1⟩ := HStp.out w7 A7 c7 o7 g7 (by simpa using n7); clear HStp HO Z6)
                go_ret
                exact ZZ.out
              · have Z := Lib.hid (T6.out.fin1 (by omega) (by omega) (by have := HD.out; have := HS.out; omega))
                clear T6 HS HD HR hR0 hL0
                go_wp2
                go_ret
                exact Z.out
              · obtain ⟨g0, Ai, ci, rfl, hc, hrd, hst⟩ := T6.out.bend2 hL0
                have L6 := Lib.hid (World.ownsRow_lit (e := 3) (size := 1) (base := w6.heap.size) w6 #[.int .i64 256] 1 (Nat.le_refl _) (by simp [maxLen]) (by simp))
                have Z6 := Lib.hid (fun (w7 : World) (A7 : Option Addr) (c7 : Nat) (o7 : w7.ownsRow w6.heap.size 3 1 (.slice A7 (1 + L[0].length) c7) (1 + L[0].length) ([.int .i64 256] ++ CI L[0])) (b7 : Below w6.heap.size w6 w7) => show DrawnA rb W (.returned (.slice (some ⟨g0, 0, none⟩) D c)) (w7.setCell ⟨g0, 0, none⟩ (.slice A7 (1 + L[0].length) c7)) ∧ w7.cell? ⟨g0, 0, none⟩ = some (.slice Ai L[0].length ci) ∧ w7.frozen? ⟨g0, 0, none⟩ = false from by
                  have hl2 : ((256 : Int) :: L[0]).length = 1 + L[0].length := by simp; omega
                  have hst2 := hst w7 A7 c7 (256 :: L[0]) (by rw [hl2]; simpa using o7) b7
                  rw [hl2] at hst2
                  refine ⟨?_, hst2.2⟩
                  have := (hst2.1).fin (by omega) (by rw [List.length_set]; exact hL0) (by
                    have h1 := sumN_set (r := (256 : Int) :: L[0]) hL0
                    have := HD.out
                    have := HS.out
                    simp at h1
                    rw [List.length_set]
                    omega)
                  rw [List.length_set, HD.out] at this
                  exact this)
                have HC := Lib.hid (hrd.alloc (.cells #[.int .i64 256] 3))
                simp only [hR0] at hc Z6
                have hlc : (CI L[0]).length = R := by rw [List.length_map]; exact hR0
                have HN := Lib.hid hlc
                have HO1 := Lib.hid (aints_one L[0])
                clear hst T6 hR0 HS HD HR hrd hlc
                have hc2 : (w6.alloc (.cells #[.int .i64 256] 3)).cell? ⟨g0, 0, none⟩ = some (.slice Ai R ci) := by rw [World.cell?_alloc_some _ _ _ (by rw [hc]; rfl), hc]
                go_wp2_with (at_builtin; refine wpList_append_r _ rfl (.tmp 70) (.tmp 73) 30 rfl w6.heap.size 3 i0 (.int .i64 0) 1 8 Try.underlying30 hi0 hz0 hz1 hz2 rfl (by decide) _ 1 [.int .i64 256] L6.out rfl Ai R ci (CI L[0]) HC.out rfl (by rw [HN.out, Nat.mul_one]) HO1.out (by simp only [maxLen]; omega) (by omega) (by simp) ?_; intro v7 w7 o7 g7 n7; obtain ⟨A7, c7, rfl⟩ := own_slice o7; have B7 : Below w6.heap.size w6 w7 := (b_alloc (Below.refl w6.heap.size w6) (.cells #[.int .i64 256] 3)).grown g7 (by simp) (fun g hg => by simp [Value.ownBlock] at hg; omega); obtain ⟨z7, b0, b1⟩ := Z6.out w7 A7 c7 o7 B7; have ZZ := Lib.hid z7; clear z7 Z6 HC HO1 HN L6 B7)
                go_ret
                exact ZZ.out
end Go.Proofs.Ytgdbchodlapdpaa
