/- The draw of volumes with snapshots. -/
import Derived.Test.YtkjjieofoolnhaaDrVp
import Derived.Test.YtkjjieofoolnhaaRegZ
namespace Go.Proofs.Ytkjjieofoolnhaa
open Go.RowKit
set_option linter.unusedVariables false

set_option linter.unusedSimpArgs false in
set_option maxHeartbeats 8000000 in
theorem l20Volume_any (rb P : Nat) (n : Int) (W : World) (h : RdAt W rb P) (hP : P ≤ 100000000 - 1000) (hn : 0 ≤ n ∧ n ≤ 1000) :
    Calls Try.prog 56 #[.pointer (some ⟨rb, 0, none⟩), .int .i64 n] W (DrawnV rb W) := by
  obtain ⟨i0, hi0, hz0, hz1, hz2⟩ := info_parts drowinfo_i
  obtain ⟨i1, hi1, hy0, hy1, hy2⟩ := info_parts info_rowS
  have hrb := h.lt
  have H0 := Lib.hid (h.alloc (.cells #[.slice none 0 0, .slice none 0 0] 29))
  clear h
  go_enter Try.func56, Try.ntmps56
  go_wp2_with fail
  refine (l20Disk_any rb P 8 0 _ H0.out (by omega) (by omega) (by omega)).mono ?_
  rintro e w2 ⟨A, c, N, rfl, o2, lN, hg2, Q, hr2, hQ⟩
  have T := Lib.hid (VSt.start (N := N) rfl hr2 hg2 hrb o2)
  clear H0 o2 hg2 hr2
  go_wp2_with fail
  refine (pick_in rb Q 14 _ T.out.rd (by omega) (by omega)).mono ?_
  rintro e w3 ⟨k0, rfl, ka, kb, hr3, hg3, hs3⟩
  have T3 := Lib.hid (T.out.pick hr3 hg3)
  obtain ⟨gx, hgx⟩ : ∃ g, g = w2.heap.size := ⟨_, rfl⟩
  rw [← hgx] at T3 ⊢
  clear T hr3 hg3 hs3 hgx
  go_wp2
  go_loopw [6] (fun y wr => ∃ (k : Int) (Q : Nat) (A : Option Addr) (c : Nat) (B : Option Addr) (d : Nat) (N : List Int) (S : List (List Sv)), 0 ≤ k ∧ k ≤ 13 ∧ y = .int .i64 k ∧ (Q : Int) + 4 * k ≤ 100001000 ∧ N.length ≤ 65 ∧ ((S.length + sumN S : Nat) : Int) + k ≤ 14 ∧ Hid (VSt W rb Q gx A c B d N S wr)) (fun y _ => (intOf y).toNat)
  case atStart => exact ⟨k0, Q + 1, A, c, none, 0, N, [], by omega, by omega, rfl, by omega, by omega, by simp [sumN]; omega, T3⟩
  case round =>
    clear T3
    obtain ⟨k, Q, A, c, B, d, N, S, k1, k2, rfl, hQk, lN, lS, T⟩ := hrel
    have dk : IntKind.i64.wrap (k - 1) = k - 1 := IntWalk.i64_in _ (by omega)
    by_cases hk : 0 < k
    · go_wp2_with fail
      refine (pick_in rb Q 4 _ T.out.rd (by omega) (by omega)).mono ?_
      rintro e w5 ⟨x, rfl, xa, xb, hr5, hg5, hs5⟩
      have T5 := Lib.hid (T.out.pick hr5 hg5)
      clear T hr5 hg5 hs5
      obtain ⟨x0, x1, f0, f1⟩ := T5.out.box.two
      by_cases hx : x = 0
      · subst hx
        go_wp2_with fail
        refine (specTake_any _ N S _ T5.out.read (by omega) (by omega)).mono ?_
        rintro e w6 ⟨v6, rfl, o6, b6⟩
        have hl6 := take_len N S
        have O6 := Lib.hid o6
        clear o6
        obtain ⟨N6, hN6⟩ : ∃ q, q = takeN N S := ⟨_, rfl⟩
        obtain ⟨S6, hS6⟩ : ∃ q, q = takeS N S := ⟨_, rfl⟩
        rw [← hN6, ← hS6] at O6 hl6
        obtain ⟨A6, c6, B6, d6, _, e6, _⟩ := O6.out
        subst e6
        obtain ⟨e0, e1, e2, e3⟩ := (blk_below b6 T5.out.box T5.out.box.lt).two
        have T9 := Lib.hid (T5.out.put b6 O6.out)
        clear T5 O6 b6 x0 x1 f0 f1 hN6 hS6
        go_wp2
        go_roundw
        case rel => exact ⟨k - 1, Q + 1, A6, c6, B6, d6, N6, S6, by omega, by omega, by go_num, by omega, by omega, by omega, T9⟩
        case measure => simp [intOf]; omega
      · by_cases hN0 : (0 : Int) < (N.length : Int)
        · go_wp2
          refine wp_region_Z (fun w' : World => w'.cell? ⟨gx, 0, none⟩ = some (.slice A N.length c) ∧ w'.cell? ⟨gx, 1, none⟩ = some (.slice B S.length d)) 9 (by kernel_rfl) ?_
          have TZ := Lib.hid T5.out.drew
          generalize hv0 : w5.drew = u0 at *
          clear hv0
          obtain ⟨c0, c1, _, _⟩ := TZ.out.box.two
          refine wpAnyZ_take (i := 0) (oi := ?o1) (v := ?v1) ?hi1 (by kernel_rfl) (by kernel_rfl) (by kernel_rfl) (by kernel_rfl) ?hq1 ?hy1 ⟨c0, c1⟩ ?rest1
          case hi1 => simp only [List.getElem?_toArray, List.getElem?_cons_succ, List.getElem?_cons_zero]; rfl
          case hq1 => exact fun _ _ _ h => h
          case hy1 => (refine Or.inl ⟨by rfl, ?_⟩; intro w hSw; (try dsimp only at hSw); go_simp; (try with_reducible rfl))
          simp only [Act.put, List.setIfInBounds_toArray, List.set_cons_zero, List.set_cons_succ]
          refine wpAnyZ_take (i := 1) (oi := ?o2) (v := ?v2) ?hi2 (by kernel_rfl) (by kernel_rfl) (by kernel_rfl) (by kernel_rfl) ?hq2 ?hy2 ⟨c0, c1⟩ ?rest2
          case hi2 => simp only [List.getElem?_toArray, List.getElem?_cons_succ, List.getElem?_cons_zero]; rfl
          case hq2 => exact fun _ _ _ h => h
          case hy2 => (refine Or.inl ⟨by rfl, ?_⟩; intro w hSw; (try dsimp only at hSw); go_simp; (try with_reducible rfl))
          simp only [Act.put, List.setIfInBounds_toArray, List.set_cons_zero, List.set_cons_succ]
          refine wpAnyZ_take (i := 2) (oi := ?o3) (v := ?v3) ?hi3 (by kernel_rfl) (by kernel_rfl) (by kernel_rfl) (by kernel_rfl) ?hq3 ?hy3 ⟨c0, c1⟩ ?rest3
          case hi3 => simp only [List.getElem?_toArray, List.getElem?_cons_succ, List.getElem?_cons_zero]; rfl
          case hq3 => exact fun _ _ _ h => h
          case hy3 => (refine Or.inl ⟨by rfl, ?_⟩; intro w hSw; (try dsimp only at hSw); go_simp; (try with_reducible rfl))
          simp only [Act.put, List.setIfInBounds_toArray, List.set_cons_zero, List.set_cons_succ]
          refine wpAnyZ_take (i := 3) (oi := ?o4) (v := ?v4) ?hi4 (by kernel_rfl) (by kernel_rfl) (by kernel_rfl) (by kernel_rfl) ?hq4 ?hy4 ⟨c0, c1⟩ ?rest4
          case hi4 => simp only [List.getElem?_toArray, List.getElem?_cons_succ, List.getElem?_cons_zero]; rfl
          case hq4 => exact fun _ _ _ h => h
          case hy4 => (refine Or.inl ⟨by rfl, ?_⟩; intro w hSw; (try dsimp only at hSw); go_simp; (try with_reducible rfl))
          simp only [Act.put, List.setIfInBounds_toArray, List.set_cons_zero, List.set_cons_succ]
          refine wpAnyZ_take (i := 4) (oi := ?o5) (v := ?v5) ?hi5 (by kernel_rfl) (by kernel_rfl) (by kernel_rfl) (by kernel_rfl) ?hq5 ?hy5 ⟨c0, c1⟩ ?rest5
          case hi5 => simp only [List.getElem?_toArray, List.getElem?_cons_succ, List.getElem?_cons_zero]; rfl
          case hq5 => exact fun _ _ _ h => h
          case hy5 => (refine Or.inl ⟨by rfl, ?_⟩; intro w hSw; (try dsimp only at hSw); go_simp; (try with_reducible rfl))
          simp only [Act.put, List.setIfInBounds_toArray, List.set_cons_zero, List.set_cons_succ]
          refine wpAnyZ_take (i := 6) (oi := ?o6) (v := ?v6) ?hi6 (by kernel_rfl) (by kernel_rfl) (by kernel_rfl) (by kernel_rfl) ?hq6 ?hy6 ⟨c0, c1⟩ ?rest6
          case hi6 => simp only [List.getElem?_toArray, List.getElem?_cons_succ, List.getElem?_cons_zero]; rfl
          case hq6 => exact fun _ _ _ h => h
          case hy6 => (refine Or.inl ⟨by rfl, ?_⟩; intro w hSw; (try dsimp only at hSw); go_simp; (try with_reducible rfl))
          simp only [Act.put, List.setIfInBounds_toArray, List.set_cons_zero, List.set_cons_succ]
          refine wpAnyZ_one (i := 5) (o := ?o7) (by kernel_rfl) ?hi7 (fun K hK => ?rest7)
          case hi7 => simp only [List.getElem?_toArray, List.getElem?_cons_succ, List.getElem?_cons_zero]; rfl
          go_simp
          go_at_call 60; refine (pick_in rb (Q + 1) _ u0 TZ.out.rd (by omega) (by omega)).mono ?_; rintro e u1 ⟨y, rfl, ya, yb, hr6, hg6, hs6⟩; (try dsimp only)
          have T1 := Lib.hid (TZ.out.pick hr6 hg6)
          obtain ⟨a0, a1, _, _⟩ := T1.out.box.two
          refine hK.out _ _ (.inr ⟨a0, a1⟩) ?_
          clear hK K
          (try simp only [Act.put, List.setIfInBounds_toArray, List.set_cons_zero, List.set_cons_succ])
          refine wpAnyZ_one (i := 7) (o := ?o8) (by kernel_rfl) ?hi8 (fun K hK => ?rest8)
          case hi8 => simp only [List.getElem?_toArray, List.getElem?_cons_succ, List.getElem?_cons_zero]; rfl
          go_simp
          go_at_call 60; refine (pick_in rb (Q + 1 + 1) _ u1 T1.out.rd (by omega) (by omega)).mono ?_; rintro e u2 ⟨z, rfl, za, zb, hr7, hg7, hs7⟩; (try dsimp only)
          have T2 := Lib.hid (T1.out.pick hr7 hg7)
          obtain ⟨b0, b1, _, _⟩ := T2.out.box.two
          refine hK.out _ _ (.inr ⟨b0, b1⟩) ?_
          clear hK K
          (try simp only [Act.put, List.setIfInBounds_toArray, List.set_cons_zero, List.set_cons_succ])
          refine wpAnyZ_one (i := 8) (o := ?o9) (by kernel_rfl) ?hi9 (fun K hK => ?rest9)
          case hi9 => simp only [List.getElem?_toArray, List.getElem?_cons_succ, List.getElem?_cons_zero]; rfl
          go_simp
          go_at_call 21; refine (specVWrite_any _ N S y z u2 T2.out.read (by omega) (by omega) (by omega) (by omega)).mono ?_; rintro e u3 ⟨v8, rfl, o8, b8⟩; (try dsimp only)
          have O8 := Lib.hid o8
          have hl8 := vwr_len N S y z
          obtain ⟨N8, hN8⟩ : ∃ q, q = vwrN N S y z := ⟨_, rfl⟩
          obtain ⟨S8, hS8⟩ : ∃ q, q = vwrS N S y z := ⟨_, rfl⟩
          rw [← hN8, ← hS8] at O8 hl8
          clear hN8 hS8 o8
          obtain ⟨A8, cc8, B8, d8, _, e8, _⟩ := O8.out
          subst e8
          obtain ⟨e0, e1, e2, e3⟩ := (blk_below b8 T2.out.box T2.out.box.lt).two
          refine hK.out _ _ (.inr ⟨e0, e1⟩) ?_
          clear hK K
          (try simp only [Act.put, List.setIfInBounds_toArray, List.set_cons_zero, List.set_cons_succ])
          refine wpAnyZ_one (i := 9) (o := ?o10) (by kernel_rfl) ?hi10 (fun K hK => ?rest10)
          case hi10 => simp only [List.getElem?_toArray, List.getElem?_cons_succ, List.getElem?_cons_zero]; rfl
          go_simp
          refine hK.out _ _ (.inl rfl) ?_
          clear hK K
          (try simp only [Act.put, List.setIfInBounds_toArray, List.set_cons_zero, List.set_cons_succ])
          refine wpAnyZ_done (by kernel_rfl) ?_ _
          have T9 := Lib.hid (T2.out.put b8 O8.out)
          clear T5 TZ T1 T2 O8 b8 hr6 hg6 hs6 hr7 hg7 hs7 c0 c1 a0 a1 b0 b1 e0 e1 e2 e3
          go_wp2
          go_roundw
          case rel => exact ⟨k - 1, Q + 1 + 1 + 1, A8, cc8, B8, d8, N8, S8, by omega, by omega, by go_num, by omega, by omega, by omega, T9⟩
          case measure => simp [intOf]; omega
        · go_wp2
          go_roundw
          case rel => exact ⟨k - 1, Q + 1, A, c, B, d, N, S, by omega, by omega, by go_num, by omega, by omega, by omega, T5⟩
          case measure => simp [intOf]; omega
    · go_wp2_with fail
      refine (odd_any rb Q n _ T.out.rd (by omega) (by omega)).mono ?_
      rintro e w5 ⟨o, rfl, hr5, hg5, hs5⟩
      have T5 := Lib.hid (T.out.pick hr5 hg5)
      clear T hr5 hg5 hs5
      cases o
      · have F5 := Lib.hid (T5.out.ve (by omega))
        obtain ⟨x0, x1, f0, f1⟩ := F5.out.box.two
        obtain ⟨y0, y1, g0, g1⟩ := F5.out.res.two
        have Z := Lib.hid (F5.out.fin (by omega) (by omega))
        clear T5 F5
        go_wp2
        exact bodyPost_ret (v := .agg #[.slice A N.length c, .slice B S.length d]) (by simp [results, Try.results56, go_sem, y0, y1]) rfl Z.out
      · go_wp2_with fail
        refine (pick_in rb (Q + 1) _ _ T5.out.rd (by omega) (by omega)).mono ?_
        rintro e w6 ⟨q, rfl, q0, q1, hr6, hg6, hs6⟩
        have T6 := Lib.hid (T5.out.pick hr6 hg6)
        clear T5 hr6 hg6 hs6
        obtain ⟨x0, x1, f0, f1⟩ := T6.out.box.two
        obtain ⟨⟨lo, hi, hV, hlo, hx, hhi⟩, hb, hrs, hrd6, hg6, l1, l2⟩ := T6.out
        have zW := hg6.size
        have hq : q = 0 ∨ q = 1 ∨ q = 2 := by omega
        rcases hq with rfl | rfl | rfl
        · obtain ⟨A0, c0, B0, d0, mid, e0, h1, h2, h3, h4, h5⟩ := hV
          injection e0 with e0
          simp only [Array.mk.injEq, List.cons.injEq, and_true, Value.slice.injEq] at e0
          obtain ⟨⟨rfl, _, rfl⟩, ⟨rfl, _, rfl⟩⟩ := e0
          have H1 := Lib.hid (h1.alloc (.cells #[.int .i64 256] 3))
          have HP := Lib.hid (fun (w7 : World) (A7 : Option Addr) (c7 : Nat) o7 g7 n7 => VSt.push0 (w6 := w7) (A6 := A7) (c6 := c7) (n6 := 0) (x := 256) (hb.alloc (.cells #[.int .i64 256] 3)) (hrs.alloc _) (galloc hg6 _) l1 l2 ((hrd6.mono (by omega)).alloc _) (h1.alloc _) h2 (h3.alloc _) h4 hlo hx h5 o7 g7 n7)
          have hsrc := Lib.hid (read_new1 (w := w6) (T := 3) (cs := #[.int .i64 256]) (xs := [.int .i64 256]) rfl)
          have hb' := Lib.hid (hb.alloc (.cells #[.int .i64 256] 3))
          clear h1 h2 h3 T6
          go_wp2_with (at_builtin; refine wpList_append_r _ rfl (.tmp 47) (.tmp 48) 22 rfl lo 3 i0 (.int .i64 0) 1 8 Try.underlying22 hi0 hz0 hz1 hz2 rfl (by decide) _ N.length (N.map (Value.int .i64)) H1.out rfl (some ⟨w6.heap.size, 0, none⟩) 1 1 [.int .i64 256] hsrc.out rfl rfl (by intro u hu; simp at hu; subst hu; rfl) (by simp only [maxLen]; omega) (by omega) (by simp; omega) ?_; intro v7 w7 o7 g7 n7; obtain ⟨A7, c7, rfl⟩ := own_slice o7; have VE7 := Lib.hid (HP.out w7 A7 c7 (by simpa using o7) g7 (by simpa using n7)); have k7 := blk_grown g7 hb'.out (fun e => own_apartT H1.out hb'.out (by decide) _ e.symm rfl); obtain ⟨a0, a1, a2, a3⟩ := k7.two; obtain ⟨b0, b1, b2, b3⟩ := VE7.out.box.two; obtain ⟨y0, y1, y2, y3⟩ := VE7.out.res.two; simp only [List.length_append, List.length_singleton] at b0 b1 b2 b3 y0 y1 y2 y3)
          have Z := Lib.hid (VE7.out.fin (by simp; omega) (by omega))
          simp only [List.length_append, List.length_singleton] at Z
          exact bodyPost_ret (v := .agg #[.slice A7 (N.length + 1) c7, .slice B S.length d]) (by simp [results, Try.results56, go_sem, y0, y1]) rfl Z.out
        · have hV1 := (hV.mono (Nat.le_refl lo) hhi)
          obtain ⟨mid, hs, hm1, hm2, ho, hgr⟩ := hV1.grow
          have HO := Lib.hid ((ho.alloc (.cells #[.int .i64 N.length, .int .i64 0] 44)).alloc (.cells #[.slice (some ⟨w6.heap.size, 0, none⟩) 1 1] 45))
          have HG := Lib.hid hgr
          have L5 := Lib.hid (show ((w6.alloc (.cells #[.int .i64 N.length, .int .i64 0] 44)).alloc (.cells #[.slice (some ⟨w6.heap.size, 0, none⟩) 1 1] 45)).ownsRow w6.heap.size 44 2 (.slice (some ⟨w6.heap.size, 0, none⟩) 1 1) 1 (savC [((N.length : Int), 0)]) from
            (show (w6.alloc (.cells #[.int .i64 N.length, .int .i64 0] 44)).ownsRow w6.heap.size 44 2 (.slice (some ⟨w6.heap.size, 0, none⟩) 1 1) 1 (savC [((N.length : Int), 0)]) from ⟨rfl, .inr ⟨w6.heap.size, 1, _, rfl, Nat.le_refl _, heap_alloc_new w6 _, Nat.le_refl _, by simp [maxLen], rfl, rfl⟩⟩).alloc _)
          have R6 := Lib.hid (show ReadC ((w6.alloc (.cells #[.int .i64 N.length, .int .i64 0] 44)).alloc (.cells #[.slice (some ⟨w6.heap.size, 0, none⟩) 1 1] 45)) (some ⟨w6.heap.size + 1, 0, none⟩) [.slice (some ⟨w6.heap.size, 0, none⟩) 1 1] from by
            have := read_new1 (w := w6.alloc (.cells #[.int .i64 N.length, .int .i64 0] 44)) (T := 45) (cs := #[.slice (some ⟨w6.heap.size, 0, none⟩) 1 1]) (xs := [.slice (some ⟨w6.heap.size, 0, none⟩) 1 1]) rfl
            simpa using this)
          have hb' := Lib.hid ((hb.alloc (.cells #[.int .i64 N.length, .int .i64 0] 44)).alloc (.cells #[.slice (some ⟨w6.heap.size, 0, none⟩) 1 1] 45))
          have hr' := Lib.hid ((hrs.alloc (.cells #[.int .i64 N.length, .int .i64 0] 44)).alloc (.cells #[.slice (some ⟨w6.heap.size, 0, none⟩) 1 1] 45))
          have hgg := Lib.hid (galloc (galloc hg6 (.cells #[.int .i64 N.length, .int .i64 0] 44)) (.cells #[.slice (some ⟨w6.heap.size, 0, none⟩) 1 1] 45))
          have hrdd := Lib.hid (((hrd6.mono (show Q + 1 + 1 ≤ 100002000 by omega)).alloc (.cells #[.int .i64 N.length, .int .i64 0] 44)).alloc (.cells #[.slice (some ⟨w6.heap.size, 0, none⟩) 1 1] 45))
          clear hV hV1 ho hgr T6 hb hrs hg6
          go_wp2_with (at_builtin; refine wpList_append_r _ rfl (.tmp 54) (.tmp 60) 27 rfl mid 45 i1 (.slice none 0 0) 1 24 Try.underlying27 hi1 hy0 hy1 hy2 rfl (by decide) _ S.length hs HO.out rfl _ 1 1 [.slice (some ⟨w6.heap.size, 0, none⟩) 1 1] R6.out rfl rfl (by intro u hu; simp at hu; subst hu; rfl) (by simp only [maxLen]; omega) (by omega) (by simp; omega) ?_; intro v7 w7 o7 g7 n7; obtain ⟨A7, c7, rfl⟩ := own_slice o7; have V7 := HG.out _ w7 [((N.length : Int), 0)] (some ⟨w6.heap.size, 0, none⟩) A7 1 c7 (fun k _ _ hk => (b_alloc (b_alloc (Below.refl w6.heap.size w6) (.cells #[.int .i64 N.length, .int .i64 0] 44)) (.cells #[.slice (some ⟨w6.heap.size, 0, none⟩) 1 1] 45)).block k hk) (by simp <;> omega) L5.out o7 g7 n7; have k7 := blk_grown g7 hb'.out (fun e => own_apartT HO.out hb'.out (by decide) _ e.symm rfl); have r7 := blk_grown g7 hr'.out (fun e => own_apartT HO.out hr'.out (by decide) _ e.symm rfl); have VE7 := Lib.hid (VSt.push1 k7 r7 (vgrown_row hgg.out g7 (fun k hk => by have := (HO.out.lt k hk).1; omega)) l1 l2 (hrdd.out.grown g7 (fun k hk => by have := (HO.out.lt k hk).1; omega)) V7 hlo); obtain ⟨a0, a1, a2, a3⟩ := k7.two; obtain ⟨b0, b1, b2, b3⟩ := VE7.out.box.two; obtain ⟨y0, y1, y2, y3⟩ := VE7.out.res.two; simp only [List.length_append, List.length_singleton] at b0 b1 b2 b3 y0 y1 y2 y3)
          have Z := Lib.hid (VE7.out.fin (by omega) (by simp [sumN_append, sumN]; omega))
          simp only [List.length_append, List.length_singleton] at Z
          exact bodyPost_ret (v := .agg #[.slice A N.length c, .slice A7 (S.length + 1) c7]) (by simp [results, Try.results56, go_sem, y0, y1]) rfl Z.out
        · have V7 : VolO lo (w6.heap.size + 1) (w6.alloc (.cells (madeCells #[Value.slice none 0 0] 6) 45)) (.agg #[.slice A N.length c, .slice (some ⟨w6.heap.size, 0, none⟩) (List.replicate 6 ([] : List Sv)).length 6]) N (List.replicate 6 []) := by
            obtain ⟨A0, c0, B0, d0, mid, e0, h1, h2, h3, h4, h5⟩ := hV
            injection e0 with e0
            simp only [Array.mk.injEq, List.cons.injEq, and_true, Value.slice.injEq] at e0
            obtain ⟨⟨rfl, _, rfl⟩, _⟩ := e0
            refine ⟨A, c, some ⟨w6.heap.size, 0, none⟩, 6, w6.heap.size, rfl, h1.alloc _, fun b hb => (h1.lt b hb).2, ?_, by omega, by omega⟩
            have := RowsO.made (C := savC) (TT := 45) (T := 44) (sz := 2) (lo := w6.heap.size) (hi := w6.heap.size + 1) w6 6 (by simp [maxLen]) rfl (Nat.le_refl _) (by omega)
            simpa using this
          have VE7 := Lib.hid (VSt.push1 (hb.alloc _) (hrs.alloc _) (galloc hg6 _) l1 l2 ((hrd6.mono (by omega)).alloc _) V7 hlo)
          obtain ⟨a0, a1, a2, a3⟩ := (hb.alloc (.cells (madeCells #[Value.slice none 0 0] 6) 45)).two
          obtain ⟨b0, b1, b2, b3⟩ := VE7.out.box.two
          obtain ⟨y0, y1, y2, y3⟩ := VE7.out.res.two
          have Z := Lib.hid (VE7.out.fin (by omega) (by simp [sumN]))
          have hmk : (Instr.makeSlice 27 (.int .i64 6) (.int .i64 6)).run Try.prog w6 = .ok (.slice (some ⟨w6.heap.size, 0, none⟩) 6 6) (w6.alloc (.cells (madeCells #[Value.slice none 0 0] 6) 45)) :=
            make_rows (P := Try.prog) 27 45 (.slice none 0 0) 1 24 Try.underlying27 info_rowS 6 (by omega) (by omega) w6
          simp only [List.length_replicate] at b0 b1 b2 b3 y0 y1 y2 y3 Z
          clear V7 hV T6
          go_wp2
          exact bodyPost_ret (v := .agg #[.slice A N.length c, .slice (some ⟨w6.heap.size, 0, none⟩) 6 6]) (by simp [results, Try.results56, go_sem, y0, y1]) rfl Z.out
end Go.Proofs.Ytkjjieofoolnhaa
