/- DropShot of the program. -/
import Derived.Test.YtkjjieofoolnhaaVolD0
namespace Go.Proofs.Ytkjjieofoolnhaa
open Go.RowKit
set_option linter.unusedVariables false

/-- One snapshot less, and the volume stored as the result. -/
theorem vd_tail {w W w' : World} {lo hi g5 m n c d g0 mid : Nat} {A : Option Addr} {N : List Int} {M : List (List Sv)} (hb : Below w.heap.size w W) (hlo : w.heap.size + 2 ≤ lo) (hlm : lo ≤ mid) (hm0 : mid ≤ g0) (hg : g0 < W.heap.size) (hhi : hi ≤ W.heap.size)
    (q5 : Blk W g5 29 #[.slice A N.length c, .slice (some ⟨g0, 0, none⟩) m d]) (q6 : Blk W (w.heap.size + 1) 29 #[.slice none 0 0, .slice none 0 0]) (h5 : g5 ≠ g0) (h6 : w.heap.size + 1 < g5)
    (hO : VolO lo hi w' (.agg #[.slice A N.length c, .slice (some ⟨g0, 0, none⟩) (m - 1) d]) N (M.eraseIdx n)) (ht : Turn g0 (g0 + 1) W w') :
    Blk w' g5 29 #[.slice A N.length c, .slice (some ⟨g0, 0, none⟩) m d] ∧ Blk (w'.setCell ⟨g5, 1, none⟩ (.slice (some ⟨g0, 0, none⟩) (m - 1) d)) g5 29 #[.slice A N.length c, .slice (some ⟨g0, 0, none⟩) (m - 1) d] ∧
      Blk (w'.setCell ⟨g5, 1, none⟩ (.slice (some ⟨g0, 0, none⟩) (m - 1) d)) (w.heap.size + 1) 29 #[.slice none 0 0, .slice none 0 0] ∧
      VolO w.heap.size (((w'.setCell ⟨g5, 1, none⟩ (.slice (some ⟨g0, 0, none⟩) (m - 1) d)).setCell ⟨w.heap.size + 1, 0, none⟩ (.slice A N.length c)).setCell ⟨w.heap.size + 1, 1, none⟩ (.slice (some ⟨g0, 0, none⟩) (m - 1) d)).heap.size
        (((w'.setCell ⟨g5, 1, none⟩ (.slice (some ⟨g0, 0, none⟩) (m - 1) d)).setCell ⟨w.heap.size + 1, 0, none⟩ (.slice A N.length c)).setCell ⟨w.heap.size + 1, 1, none⟩ (.slice (some ⟨g0, 0, none⟩) (m - 1) d)) (.agg #[.slice A N.length c, .slice (some ⟨g0, 0, none⟩) (m - 1) d]) N (M.eraseIdx n) ∧
      Below w.heap.size w (((w'.setCell ⟨g5, 1, none⟩ (.slice (some ⟨g0, 0, none⟩) (m - 1) d)).setCell ⟨w.heap.size + 1, 0, none⟩ (.slice A N.length c)).setCell ⟨w.heap.size + 1, 1, none⟩ (.slice (some ⟨g0, 0, none⟩) (m - 1) d)) := by
  have r5 := blk_turn' ht q5 (fun h => h5 (by omega))
  have r6 := blk_turn' ht q6 (fun h => by omega)
  have s6 := r6.far (p := ⟨g5, 1, none⟩) (by show w.heap.size + 1 ≠ g5; omega) (.slice (some ⟨g0, 0, none⟩) (m - 1) d)
  have hz := ht.size
  refine ⟨r5, r5.set 1 _, s6, ?_, ?_⟩
  · exact (((hO.farT r5 1 _).farT s6 0 _).farT (s6.set 0 _) 1 _).mono (by omega) (by simp; omega)
  · exact (((hb.trans (ht.below w.heap.size (by omega) hb.size)).setCell (p := ⟨g5, 1, none⟩) (by show w.heap.size ≤ g5; omega) _).setCell (by simp) _).setCell (by simp) _

set_option linter.unusedSimpArgs false in
set_option maxHeartbeats 8000000 in
theorem implDrop_any (v : Value) (N : List Int) (S : List (List Sv)) (a : Int) (w : World) (h : VolR w v N S) (hN : N.length ≤ 1048576) (hS : S.length + sumN S ≤ 1048576) (ha : -9223372036854775808 ≤ a ∧ a ≤ 9223372036854775807) :
    Calls Try.prog 24 #[v, .int .i64 a] w (ToVolPost (dropN N S a) (dropS N S a) w) := by
  have HR := Lib.hid h
  obtain ⟨A, c, B, d, rfl, hA, hB, hc1, hc2, hd1, hd2⟩ := h
  obtain ⟨i2, hi2, hx0, hx1, hx2⟩ := info_parts info_sav
  have HRB := Lib.hid hB
  have HR0 := Lib.hid ((HR.out.alloc (.cells #[.slice A N.length c, .slice B S.length d] 29)).alloc (.cells #[.slice none 0 0, .slice none 0 0] 29))
  have K0 := Lib.hid (show Blk ((w.alloc (.cells #[.slice A N.length c, .slice B S.length d] 29)).alloc (.cells #[.slice none 0 0, .slice none 0 0] 29)) w.heap.size 29 #[.slice A N.length c, .slice B S.length d] from (Blk.new rfl).alloc _)
  have K1 := Lib.hid (show Blk ((w.alloc (.cells #[.slice A N.length c, .slice B S.length d] 29)).alloc (.cells #[.slice none 0 0, .slice none 0 0] 29)) (w.heap.size + 1) 29 #[.slice none 0 0, .slice none 0 0] from Blk.new (by simp))
  have C0 := Lib.hid (show Below w.heap.size w ((w.alloc (.cells #[.slice A N.length c, .slice B S.length d] 29)).alloc (.cells #[.slice none 0 0, .slice none 0 0] 29)) from b_alloc (b_alloc (Below.refl _ _) _) _)
  have Z0 : ((w.alloc (.cells #[.slice A N.length c, .slice B S.length d] 29)).alloc (.cells #[.slice none 0 0, .slice none 0 0] 29)).heap.size = w.heap.size + 2 := by simp
  have d2 : IntKind.i64.wrap ((S.length : Int) - 1) = (S.length : Int) - 1 := IntWalk.i64_in _ (by omega)
  clear hA hB
  cases hv : volB N S
  · have hno := Lib.hid (fun (w' : World) hb => drop_no (a := a) (w := w) (w' := w') (show dropB N S a = false by simp [dropB, hv]) hb)
    go_enter Try.func24, Try.ntmps24
    go_wp2_with fail
    refine (implVol_any _ N S _ HR0.out (by omega) (by omega)).mono ?_
    rintro e w1 ⟨rfl, b1⟩
    rw [hv]
    obtain ⟨z0, z1, z2, z3⟩ := (blk_below b1 K1.out K1.out.lt).two
    obtain ⟨x0, x1, _, _⟩ := (blk_below b1 K0.out K0.out.lt).two
    have C1 := Lib.hid (C0.out.trans (b1.mono (by omega)))
    clear hv b1
    go_wp2
    have hfin := hno.out _ ((C1.out.setCell (p := ⟨w.heap.size + 1, 0, none⟩) (by show w.heap.size ≤ w.heap.size + 1; omega) (.slice none 0 0)).setCell (p := ⟨w.heap.size + 1, 1, none⟩) (by show w.heap.size ≤ w.heap.size + 1; omega) (.slice none 0 0))
    exact bodyPost_ret (v := .agg #[.slice none 0 0, .slice none 0 0]) (by simp [results, Try.results24, go_sem, z0, z1]) rfl hfin
  cases ga : inB a 0 ((S.length : Int) - 1)
  · have hno := Lib.hid (fun (w' : World) hb => drop_no (a := a) (w := w) (w' := w') (show dropB N S a = false by simp [dropB, hv, ga]) hb)
    go_enter Try.func24, Try.ntmps24
    go_wp2_with fail
    refine (implVol_any _ N S _ HR0.out (by omega) (by omega)).mono ?_
    rintro e w1 ⟨rfl, b1⟩
    rw [hv]
    obtain ⟨z0, z1, z2, z3⟩ := (blk_below b1 K1.out K1.out.lt).two
    obtain ⟨x0, x1, _, _⟩ := (blk_below b1 K0.out K0.out.lt).two
    have C1 := Lib.hid (C0.out.trans (b1.mono (by omega)))
    clear hv b1
    go_wp2_with fail
    (try rw [d2])
    refine (within_is ga _).mono ?_
    rintro e w' ⟨rfl, rfl⟩
    go_wp2
    have hfin := hno.out _ ((C1.out.setCell (p := ⟨w.heap.size + 1, 0, none⟩) (by show w.heap.size ≤ w.heap.size + 1; omega) (.slice none 0 0)).setCell (p := ⟨w.heap.size + 1, 1, none⟩) (by show w.heap.size ≤ w.heap.size + 1; omega) (.slice none 0 0))
    exact bodyPost_ret (v := .agg #[.slice none 0 0, .slice none 0 0]) (by simp [results, Try.results24, go_sem, z0, z1]) rfl hfin
  have hB1 : dropB N S a = true := by simp [dropB, hv, ga]
  obtain ⟨n, rfl⟩ : ∃ n : Nat, a = n := ⟨a.toNat, by simp [inB] at ga; omega⟩
  have hn : n < S.length := by simp [inB] at ga; omega
  have hyes := Lib.hid (fun (v : Value) (w' : World) ho hb => drop_yes (w := w) (w' := w') (v := v) hB1 ho hb)
  have hsp := Lib.hid (fun v w' h => cloneVol_any v N S w' h hN hS)
  clear hB1
  go_enter Try.func24, Try.ntmps24
  go_wp2_with fail
  refine (implVol_any _ N S _ HR0.out (by omega) (by omega)).mono ?_
  rintro e w1 ⟨rfl, b1⟩
  rw [hv]
  obtain ⟨z0, z1, z2, z3⟩ := (blk_below b1 K1.out K1.out.lt).two
  obtain ⟨x0, x1, _, _⟩ := (blk_below b1 K0.out K0.out.lt).two
  have C1 := Lib.hid (C0.out.trans (b1.mono (by omega)))
  have k0 := Lib.hid (blk_below b1 K0.out K0.out.lt)
  have k1 := Lib.hid (blk_below b1 K1.out K1.out.lt)
  have R1 := Lib.hid (HR0.out.below b1)
  have Z1 : w.heap.size + 2 ≤ w1.heap.size := by have := b1.size; omega
  clear hv b1 HR0 K0 K1 C0 z0 z1 z2 z3
  go_wp2_with fail
  (try rw [d2])
  refine (within_is ga _).mono ?_
  rintro e w' ⟨rfl, rfl⟩
  clear ga
  go_wp2_with fail
  refine (hsp.out _ _ R1.out).mono ?_
  rintro e w2 ⟨v2, rfl, o2, b2⟩
  have O2 := Lib.hid o2
  obtain ⟨A2, c2, B2, d2', mid2, rfl, _⟩ := o2
  have k0' := Lib.hid ((blk_below b2 k0.out k0.out.lt).alloc (.cells #[.slice A2 N.length c2, .slice B2 S.length d2'] 29))
  have k1' := Lib.hid ((blk_below b2 k1.out k1.out.lt).alloc (.cells #[.slice A2 N.length c2, .slice B2 S.length d2'] 29))
  have k4 := Lib.hid (show Blk (w2.alloc (.cells #[.slice A2 N.length c2, .slice B2 S.length d2'] 29)) w2.heap.size 29 #[.slice A2 N.length c2, .slice B2 S.length d2'] from Blk.new rfl)
  have O3 := Lib.hid (O2.out.alloc (.cells #[.slice A2 N.length c2, .slice B2 S.length d2'] 29))
  have C2 := Lib.hid (b_alloc (C1.out.trans (b2.mono (by omega))) (.cells #[.slice A2 N.length c2, .slice B2 S.length d2'] 29))
  have Z2 : w1.heap.size ≤ w2.heap.size := b2.size
  have Z3 : w2.heap.size + 1 ≤ (w2.alloc (.cells #[.slice A2 N.length c2, .slice B2 S.length d2'] 29)).heap.size := by simp
  clear b2 k0 k1 C1 R1 O2 hsp x0 x1
  obtain ⟨x0, x1, _, _⟩ := k0'.out.two
  obtain ⟨gB, _, _, hB2, _, _, _, _, _, _, _, _, hneV, _⟩ := vol_outer O3.out (by omega)
  have hn5 := Lib.hid (hneV k4.out)
  clear hneV
  subst hB2
  obtain ⟨bA, offA, rfl, hcA⟩ := HRB.out (by omega)
  obtain ⟨Ar, cr, u0, u1, hru, _⟩ := hcA n hn
  have ix1 : (0 : Int) ≤ (n : Int) := by omega
  have ix2 : (n : Int) < (S.length : Int) := by omega
  obtain ⟨r, hr⟩ : ∃ r, r = S[n] := ⟨_, rfl⟩
  have hsm := sumN_get hn
  rw [← hr] at u0 u1 hru hsm
  have U1 := Lib.hid u1
  have hrl : r.length ≤ 1048576 := by omega
  have hn1 : n ≤ 1048576 := by omega
  have hSl : S.length ≤ 1048576 := by omega
  have HN := Lib.hid hn
  have H0 := Lib.hid (show S.getD n [] = r by rw [hr, List.getD_eq_getElem?_getD, List.getElem?_eq_getElem hn]; rfl)
  have u0 := cell_keep u0 C2.out
  clear hcA u1 hr hn
  rcases Nat.eq_zero_or_pos n with hz | hz
  · have hz2 := Lib.hid hz
    have O4 := Lib.hid (O3.out.mono (Nat.le_refl w1.heap.size) (show w2.heap.size ≤ (w2.alloc (.cells #[.slice A2 N.length c2, .slice (some ⟨gB, 0, none⟩) S.length d2'] 29)).heap.size by omega))
    have hg0 : ¬ ((0 : Int) < (n : Int)) := by omega
    have hg0n : (0 < n) = False := by simp; omega
    clear hz O3
    go_wp2
    generalize hx3 : w2.alloc (.cells #[.slice A2 N.length c2, .slice (some ⟨gB, 0, none⟩) S.length d2'] 29) = x3 at *
    clear hx3
    go_loopw [29] (fun y wr => ∃ j : Nat, j ≤ r.length ∧ y = .int .i64 j ∧ Hid (VolO w1.heap.size wr.heap.size wr (.agg #[.slice A2 N.length c2, .slice (some ⟨gB, 0, none⟩) S.length d2']) N S) ∧ Hid (Blk wr w2.heap.size 29 #[.slice A2 N.length c2, .slice (some ⟨gB, 0, none⟩) S.length d2']) ∧ Hid (Blk wr (w.heap.size + 1) 29 #[.slice none 0 0, .slice none 0 0]) ∧ Hid (Below w.heap.size w wr)) (fun y _ => r.length - (intOf y).toNat)
    case atStart => exact ⟨0, Nat.zero_le _, rfl, O4, k4, k1', C2⟩
    case round =>
      clear O4 k4 k1' C2
      obtain ⟨j, hj, rfl, hO, q5, q6, hBw⟩ := hrel
      by_cases hjt : j < r.length
      · obtain ⟨b, off, rfl, hc⟩ := (SavedIn.of U1.out).below hBw.out (by omega)
        obtain ⟨c1, c2'⟩ := hc j hjt
        obtain ⟨⟨f, z⟩, hfn⟩ : ∃ q : Sv, q = r[j] := ⟨_, rfl⟩
        rw [← hfn] at c1 c2'
        simp only at c1 c2'
        clear hc hfn
        have O6 := Lib.hid ((hO.out.alloc (.cells #[.int .i64 f, .int .i64 z] 44)).mono (Nat.le_refl w1.heap.size) (show wr.heap.size ≤ (wr.alloc (.cells #[.int .i64 f, .int .i64 z] 44)).heap.size by simp))
        have f5 := Lib.hid (q5.out.alloc (.cells #[.int .i64 f, .int .i64 z] 44))
        have f6 := Lib.hid (q6.out.alloc (.cells #[.int .i64 f, .int .i64 z] 44))
        have BW := Lib.hid (b_alloc hBw.out (.cells #[.int .i64 f, .int .i64 z] 44))
        clear hO q5 q6 hBw
        go_wp2
        generalize hw5 : wr.alloc (.cells #[.int .i64 f, .int .i64 z] 44) = w5 at *
        clear hw5
        refine wp_region_Z (fun w' : World => True) 99 (by kernel_rfl) ?_
        refine wpAnyZ_take (i := 0) (oi := ?o44) (v := ?v44) ?hi44 (by kernel_rfl) (by kernel_rfl) (by kernel_rfl) (by kernel_rfl) ?hq44 ?hy44 trivial ?rest44
        case hi44 => simp only [List.getElem?_toArray, List.getElem?_cons_succ, List.getElem?_cons_zero]; rfl
        case hq44 => exact fun _ _ _ h => h
        case hy44 => (refine Or.inl ⟨by rfl, ?_⟩; intro w hSw; (try dsimp only at hSw); go_simp; (try with_reducible rfl))
        simp only [Act.put, List.setIfInBounds_toArray, List.set_cons_zero, List.set_cons_succ]
        refine wpAnyZ_take (i := 1) (oi := ?o45) (v := ?v45) ?hi45 (by kernel_rfl) (by kernel_rfl) (by kernel_rfl) (by kernel_rfl) ?hq45 ?hy45 trivial ?rest45
        case hi45 => simp only [List.getElem?_toArray, List.getElem?_cons_succ, List.getElem?_cons_zero]; rfl
        case hq45 => exact fun _ _ _ h => h
        case hy45 => (refine Or.inl ⟨by rfl, ?_⟩; intro w hSw; (try dsimp only at hSw); go_simp; (try with_reducible rfl))
        simp only [Act.put, List.setIfInBounds_toArray, List.set_cons_zero, List.set_cons_succ]
        refine wpAnyZ_take (i := 2) (oi := ?o46) (v := ?v46) ?hi46 (by kernel_rfl) (by kernel_rfl) (by kernel_rfl) (by kernel_rfl) ?hq46 ?hy46 trivial ?rest46
        case hi46 => simp only [List.getElem?_toArray, List.getElem?_cons_succ, List.getElem?_cons_zero]; rfl
        case hq46 => exact fun _ _ _ h => h
        case hy46 => (refine Or.inl ⟨by rfl, ?_⟩; intro w hSw; (try dsimp only at hSw); go_simp; (try with_reducible rfl))
        simp only [Act.put, List.setIfInBounds_toArray, List.set_cons_zero, List.set_cons_succ]
        refine wpAnyZ_take (i := 3) (oi := ?o47) (v := undef) ?hi47 (by kernel_rfl) (by kernel_rfl) (by kernel_rfl) (by kernel_rfl) ?hq47 ?hy47 trivial ?rest47
        case hi47 => simp only [List.getElem?_toArray, List.getElem?_cons_succ, List.getElem?_cons_zero]; rfl
        case hq47 => exact fun _ _ _ h => h
        case hy47 => exact Or.inr ⟨by rfl, rfl⟩
        simp only [Act.put, List.setIfInBounds_toArray, List.set_cons_zero, List.set_cons_succ]
        refine wpAnyZ_take (i := 4) (oi := ?o48) (v := undef) ?hi48 (by kernel_rfl) (by kernel_rfl) (by kernel_rfl) (by kernel_rfl) ?hq48 ?hy48 trivial ?rest48
        case hi48 => simp only [List.getElem?_toArray, List.getElem?_cons_succ, List.getElem?_cons_zero]; rfl
        case hq48 => exact fun _ _ _ h => h
        case hy48 => exact Or.inr ⟨by rfl, rfl⟩
        simp only [Act.put, List.setIfInBounds_toArray, List.set_cons_zero, List.set_cons_succ]
        refine wpAnyZ_take (i := 5) (oi := ?o49) (v := undef) ?hi49 (by kernel_rfl) (by kernel_rfl) (by kernel_rfl) (by kernel_rfl) ?hq49 ?hy49 trivial ?rest49
        case hi49 => simp only [List.getElem?_toArray, List.getElem?_cons_succ, List.getElem?_cons_zero]; rfl
        case hq49 => exact fun _ _ _ h => h
        case hy49 => exact Or.inr ⟨by rfl, rfl⟩
        simp only [Act.put, List.setIfInBounds_toArray, List.set_cons_zero, List.set_cons_succ]
        refine wpAnyZ_take (i := 6) (oi := ?o50) (v := undef) ?hi50 (by kernel_rfl) (by kernel_rfl) (by kernel_rfl) (by kernel_rfl) ?hq50 ?hy50 trivial ?rest50
        case hi50 => simp only [List.getElem?_toArray, List.getElem?_cons_succ, List.getElem?_cons_zero]; rfl
        case hq50 => exact fun _ _ _ h => h
        case hy50 => exact Or.inr ⟨by rfl, rfl⟩
        simp only [Act.put, List.setIfInBounds_toArray, List.set_cons_zero, List.set_cons_succ]
        refine wpAnyZ_take (i := 7) (oi := ?o51) (v := undef) ?hi51 (by kernel_rfl) (by kernel_rfl) (by kernel_rfl) (by kernel_rfl) ?hq51 ?hy51 trivial ?rest51
        case hi51 => simp only [List.getElem?_toArray, List.getElem?_cons_succ, List.getElem?_cons_zero]; rfl
        case hq51 => exact fun _ _ _ h => h
        case hy51 => exact Or.inr ⟨by rfl, rfl⟩
        simp only [Act.put, List.setIfInBounds_toArray, List.set_cons_zero, List.set_cons_succ]
        refine wpAnyZ_take (i := 8) (oi := ?o52) (v := undef) ?hi52 (by kernel_rfl) (by kernel_rfl) (by kernel_rfl) (by kernel_rfl) ?hq52 ?hy52 trivial ?rest52
        case hi52 => simp only [List.getElem?_toArray, List.getElem?_cons_succ, List.getElem?_cons_zero]; rfl
        case hq52 => exact fun _ _ _ h => h
        case hy52 => exact Or.inr ⟨by rfl, rfl⟩
        simp only [Act.put, List.setIfInBounds_toArray, List.set_cons_zero, List.set_cons_succ]
        refine wpAnyZ_take (i := 9) (oi := ?o53) (v := undef) ?hi53 (by kernel_rfl) (by kernel_rfl) (by kernel_rfl) (by kernel_rfl) ?hq53 ?hy53 trivial ?rest53
        case hi53 => simp only [List.getElem?_toArray, List.getElem?_cons_succ, List.getElem?_cons_zero]; rfl
        case hq53 => exact fun _ _ _ h => h
        case hy53 => exact Or.inr ⟨by rfl, rfl⟩
        simp only [Act.put, List.setIfInBounds_toArray, List.set_cons_zero, List.set_cons_succ]
        refine wpAnyZ_take (i := 10) (oi := ?o54) (v := undef) ?hi54 (by kernel_rfl) (by kernel_rfl) (by kernel_rfl) (by kernel_rfl) ?hq54 ?hy54 trivial ?rest54
        case hi54 => simp only [List.getElem?_toArray, List.getElem?_cons_succ, List.getElem?_cons_zero]; rfl
        case hq54 => exact fun _ _ _ h => h
        case hy54 => exact Or.inr ⟨by rfl, rfl⟩
        simp only [Act.put, List.setIfInBounds_toArray, List.set_cons_zero, List.set_cons_succ]
        refine wpAnyZ_take (i := 11) (oi := ?o55) (v := undef) ?hi55 (by kernel_rfl) (by kernel_rfl) (by kernel_rfl) (by kernel_rfl) ?hq55 ?hy55 trivial ?rest55
        case hi55 => simp only [List.getElem?_toArray, List.getElem?_cons_succ, List.getElem?_cons_zero]; rfl
        case hq55 => exact fun _ _ _ h => h
        case hy55 => exact Or.inr ⟨by rfl, rfl⟩
        simp only [Act.put, List.setIfInBounds_toArray, List.set_cons_zero, List.set_cons_succ]
        refine wpAnyZ_take (i := 12) (oi := ?o56) (v := undef) ?hi56 (by kernel_rfl) (by kernel_rfl) (by kernel_rfl) (by kernel_rfl) ?hq56 ?hy56 trivial ?rest56
        case hi56 => simp only [List.getElem?_toArray, List.getElem?_cons_succ, List.getElem?_cons_zero]; rfl
        case hq56 => exact fun _ _ _ h => h
        case hy56 => exact Or.inr ⟨by rfl, rfl⟩
        simp only [Act.put, List.setIfInBounds_toArray, List.set_cons_zero, List.set_cons_succ]
        refine wpAnyZ_take (i := 13) (oi := ?o57) (v := ?v57) ?hi57 (by kernel_rfl) (by kernel_rfl) (by kernel_rfl) (by kernel_rfl) ?hq57 ?hy57 trivial ?rest57
        case hi57 => simp only [List.getElem?_toArray, List.getElem?_cons_succ, List.getElem?_cons_zero]; rfl
        case hq57 => exact fun _ _ _ h => h
        case hy57 => (refine Or.inl ⟨by rfl, ?_⟩; intro w hSw; (try dsimp only at hSw); go_simp; (try with_reducible rfl))
        simp only [Act.put, List.setIfInBounds_toArray, List.set_cons_zero, List.set_cons_succ]
        refine wpAnyZ_done (by kernel_rfl) ?_ _
        go_wp2
        go_roundw
        case rel => exact ⟨j + 1, by omega, by go_num, by exact (show VolO _ _ _ _ _ _ from O6.out), f5, f6, Lib.hid (b_drew BW.out)⟩
        case measure => simp [intOf]; omega
      · have hM : dropM S n = S := by unfold dropM; rw [if_neg (by have := hz2.out; omega)]
        have OM : Hid (VolO w1.heap.size wr.heap.size wr (.agg #[.slice A2 N.length c2, .slice (some ⟨gB, 0, none⟩) S.length d2']) N (dropM S n)) := by rw [hM]; exact hO
        have KM5 := q5
        have KM6 := q6
        have CM := hBw
        clear hO q5 q6 hBw hM
        have hml : (dropM S n).length = S.length := (dropM_len S n).1
        obtain ⟨M, hMe⟩ : ∃ M, M = dropM S n := ⟨_, rfl⟩
        rw [← hMe] at OM hml hyes
        have OM' := Lib.hid (show VolO w1.heap.size wr.heap.size wr (.agg #[.slice A2 N.length c2, .slice (some ⟨gB, 0, none⟩) M.length d2']) N M by rw [hml]; exact OM.out)
        clear OM hMe
        obtain ⟨g0, mid, hs, e0, m1, m2, m3, _, hRM, _, _, _, hne, hcl⟩ := vol_outer OM'.out (by have := HN.out; omega)
        injection e0 with e0
        injection e0 with e0 _
        subst e0
        rw [hml] at hRM
        have hdel := Lib.hid (delSS_any mid wr.heap.size gB d2' n M wr (by rw [hml]; exact hRM) (by rw [hml]; exact HN.out))
        rw [hml] at hdel
        have h57 := hne KM5.out
        have HCL := Lib.hid (fun w' v Q hi' h1 h2 h3 => hcl w' v Q hi' h1 h2 h3)
        have Hml := Lib.hid hml
        obtain ⟨y0, y1, y2, y3⟩ := KM5.out.two
        clear hRM hcl hne OM' hml
        go_wp2_with fail
        refine hdel.out.mono ?_
        rintro e w9 ⟨rfl, r9, t9⟩
        rw [Hml.out]
        have hnl := HN.out
        have hel : (M.eraseIdx n).length = S.length - 1 := by rw [List.length_eraseIdx_of_lt (by rw [Hml.out]; omega), Hml.out]
        have hO9 : VolO w1.heap.size wr.heap.size w9 (.agg #[.slice A2 N.length c2, .slice (some ⟨gB, 0, none⟩) (S.length - 1) d2']) N (M.eraseIdx n) := by
          have := HCL.out w9 _ (M.eraseIdx n) wr.heap.size r9 (Nat.le_refl _) (fun k hk hk2 => t9.block k hk2 (by omega))
          rwa [hel] at this
        have Zw := CM.out.size
        obtain ⟨s5, t5, t6, hv9, hb9⟩ := vd_tail (n := n) CM.out (show w.heap.size + 2 ≤ w1.heap.size by omega) m1 m2 m3 (Nat.le_refl _) KM5.out KM6.out h57 (by omega) hO9 t9
        have hfin := Lib.hid (hyes.out _ _ hv9 hb9)
        obtain ⟨a0, a1, a2, a3⟩ := s5.two
        obtain ⟨b0, b1, b2, b3⟩ := t5.two
        obtain ⟨f0, f1, f2, f3⟩ := t6.two
        clear hv9 hb9 s5 t5 t6 hO9 r9 t9 hdel HCL hyes KM5 KM6 CM y0 y1 y2 y3 hel
        go_wp2
        exact bodyPost_ret (v := .agg #[.slice A2 N.length c2, .slice (some ⟨gB, 0, none⟩) (S.length - 1) d2']) (by simp [results, Try.results24, go_sem, f0, f1]) rfl hfin.out
  · obtain ⟨i, hi⟩ : ∃ i, n = i + 1 := ⟨n - 1, by omega⟩
    have dn : IntKind.i64.wrap ((n : Int) - 1) = (i : Int) := by rw [IntWalk.i64_in _ (by omega)]; omega
    have ix3 : (0 : Int) ≤ (i : Int) := by omega
    have ix4 : (i : Int) < (S.length : Int) := by have := HN.out; omega
    have hiS : i < S.length := by have := HN.out; omega
    have hg0 : (0 : Int) < (n : Int) := by omega
    have HI := Lib.hid hi
    obtain ⟨p0, hp0⟩ : ∃ p0, p0 = S[i] := ⟨_, rfl⟩
    have hpl := sumN_get hiS
    rw [← hp0] at hpl
    have hset0 : S.set i p0 = S := by rw [hp0]; exact List.set_getElem_self hiS
    have hM := Lib.hid (show S.set i (mergeS p0 r) = dropM S n from by
      have e1 : S.getD (n - 1) [] = p0 := by rw [hp0, List.getD_eq_getElem?_getD, show n - 1 = i by omega, List.getElem?_eq_getElem hiS]; rfl
      have e2 : S.getD n [] = r := H0.out
      unfold dropM
      rw [if_pos hz, e1, e2, show n - 1 = i by omega])
    have O4 := Lib.hid (show VolO w1.heap.size (w2.alloc (.cells #[.slice A2 N.length c2, .slice (some ⟨gB, 0, none⟩) S.length d2'] 29)).heap.size (w2.alloc (.cells #[.slice A2 N.length c2, .slice (some ⟨gB, 0, none⟩) S.length d2'] 29)) (.agg #[.slice A2 N.length c2, .slice (some ⟨gB, 0, none⟩) S.length d2']) N (S.set i p0) by rw [hset0]; exact O3.out.mono (Nat.le_refl _) (by omega))
    clear hi hp0 hset0 O3
    go_wp2
    generalize hx3 : w2.alloc (.cells #[.slice A2 N.length c2, .slice (some ⟨gB, 0, none⟩) S.length d2'] 29) = x3 at *
    clear hx3
    go_loopw [29] (fun y wr => ∃ (j : Nat) (p : List Sv), j ≤ r.length ∧ y = .int .i64 j ∧ p.length ≤ p0.length + j ∧ Hid (mergeS p (r.drop j) = mergeS p0 r) ∧ Hid (VolO w1.heap.size wr.heap.size wr (.agg #[.slice A2 N.length c2, .slice (some ⟨gB, 0, none⟩) S.length d2']) N (S.set i p)) ∧ Hid (Blk wr w2.heap.size 29 #[.slice A2 N.length c2, .slice (some ⟨gB, 0, none⟩) S.length d2']) ∧ Hid (Blk wr (w.heap.size + 1) 29 #[.slice none 0 0, .slice none 0 0]) ∧ Hid (Below w.heap.size w wr)) (fun y _ => r.length - (intOf y).toNat)
    case atStart => exact ⟨0, p0, Nat.zero_le _, rfl, by omega, by show mergeS p0 (r.drop 0) = _; rfl, O4, k4, k1', C2⟩
    case round =>
      clear O4 k4 k1' C2
      obtain ⟨j, p, hj, rfl, hpj, hmr, hO, q5, q6, hBw⟩ := hrel
      by_cases hjt : j < r.length
      · obtain ⟨b, off, rfl, hc⟩ := (SavedIn.of U1.out).below hBw.out (by omega)
        obtain ⟨c1, c2'⟩ := hc j hjt
        have hms := hmr.out
        rw [mergeS_step hjt] at hms
        obtain ⟨⟨f, z⟩, hfn⟩ : ∃ q : Sv, q = r[j] := ⟨_, rfl⟩
        rw [← hfn] at c1 c2' hms
        simp only at c1 c2' hms
        clear hc hfn hmr
        obtain ⟨g0, mid, Ai, ci, e0, m1, m2, m3, m4, m5, cH0, oH, hne0, fr0, _, hgr⟩ := vol_rowAt hO.out hiS
        injection e0 with e0
        injection e0 with e0 _
        subst e0
        have HGR := Lib.hid hgr
        have hne' := Lib.hid hne0
        have HMS := Lib.hid hms
        have Q5 := Lib.hid (q5.out.alloc (.cells #[.int .i64 f, .int .i64 z] 44))
        have Q6 := Lib.hid (q6.out.alloc (.cells #[.int .i64 f, .int .i64 z] 44))
        have Q7 := Lib.hid (show Blk (wr.alloc (.cells #[.int .i64 f, .int .i64 z] 44)) wr.heap.size 44 #[.int .i64 f, .int .i64 z] from Blk.new rfl)
        have hOH := Lib.hid (oH.alloc (.cells #[.int .i64 f, .int .i64 z] 44))
        have hO5 := Lib.hid (hO.out.alloc (.cells #[.int .i64 f, .int .i64 z] 44))
        have hfr := Lib.hid (frozen_keep cH0 fr0 (b_alloc (Below.refl wr.heap.size wr) (.cells #[.int .i64 f, .int .i64 z] 44)))
        have cH := cell_keep cH0 (b_alloc (Below.refl wr.heap.size wr) (.cells #[.int .i64 f, .int .i64 z] 44))
        have hBw' := Lib.hid (b_alloc hBw.out (.cells #[.int .i64 f, .int .i64 z] 44))
        have hne := hne'
        have hap7 := Lib.hid (show (Value.slice Ai p.length ci).ownBlock ≠ some wr.heap.size from fun e => by have := (oH.lt _ e).2; omega)
        have hzw := hBw.out.size
        have hzs : wr.heap.size < (wr.alloc (.cells #[.int .i64 f, .int .i64 z] 44)).heap.size := by simp
        have hkk := Lib.hid (show ∀ k, k < wr.heap.size → (wr.alloc (.cells #[.int .i64 f, .int .i64 z] 44)).heap[k]? = wr.heap[k]? from fun k hk => Below.heap_alloc wr _ k hk)
        clear hgr oH fr0 cH0 hne0 hms hBw q5 q6 hne' hO
        go_wp2
        obtain ⟨g7, hg7⟩ : ∃ g, g = wr.heap.size := ⟨_, rfl⟩
        generalize hw5 : wr.alloc (.cells #[.int .i64 f, .int .i64 z] 44) = w5 at *
        rw [← hg7] at Q7 hap7 hzs ⊢
        have HG7 := Lib.hid hg7
        have hg7a : wr.heap.size ≤ g7 ∧ g7 ≤ wr.heap.size := by omega
        clear hw5 hg7
        obtain ⟨_, y1, _, _⟩ := Q5.out.two
        obtain ⟨v0, v1, _, _⟩ := Q7.out.two
        have HSI := Lib.hid (SavedIn.of (own_read hOH.out))
        obtain ⟨q, hq⟩ : ∃ q, q = findS p f := ⟨_, rfl⟩
        have hq := Lib.hid hq
        by_cases hq0 : q < 0
        · refine wp_region_Z (fun w' : World => w'.cell? ⟨w2.heap.size, 1, none⟩ = some (.slice (some ⟨gB, 0, none⟩) S.length d2') ∧ w'.cell? ⟨gB, i, none⟩ = some (.slice Ai p.length ci) ∧ w'.cell? ⟨g7, 0, none⟩ = some (.int .i64 f)) 99 (by kernel_rfl) ?_
          generalize hv0 : w5.drew = u0
          have BB := Lib.hid (show Below w5.heap.size w5 u0 by rw [← hv0]; exact (Below.refl _ _).drew)
          clear hv0
          refine wpAnyZ_take (i := 0) (oi := ?o1) (v := ?v1) ?hi1 (by kernel_rfl) (by kernel_rfl) (by kernel_rfl) (by kernel_rfl) ?hq1 ?hy1 ⟨cell_keep y1 BB.out, cell_keep cH BB.out, cell_keep v0 BB.out⟩ ?rest1
          case hi1 => simp only [List.getElem?_toArray, List.getElem?_cons_succ, List.getElem?_cons_zero]; rfl
          case hq1 => exact fun _ _ _ h => h
          case hy1 => (refine Or.inl ⟨by rfl, ?_⟩; intro w hSw; (try dsimp only at hSw); go_simp; (try with_reducible rfl))
          simp only [Act.put, List.setIfInBounds_toArray, List.set_cons_zero, List.set_cons_succ]
          refine wpAnyZ_take (i := 1) (oi := ?o2) (v := ?v2) ?hi2 (by kernel_rfl) (by kernel_rfl) (by kernel_rfl) (by kernel_rfl) ?hq2 ?hy2 ⟨cell_keep y1 BB.out, cell_keep cH BB.out, cell_keep v0 BB.out⟩ ?rest2
          case hi2 => simp only [List.getElem?_toArray, List.getElem?_cons_succ, List.getElem?_cons_zero]; rfl
          case hq2 => exact fun _ _ _ h => h
          case hy2 => (refine Or.inl ⟨by rfl, ?_⟩; intro w hSw; (try dsimp only at hSw); go_simp; (try with_reducible rfl))
          simp only [Act.put, List.setIfInBounds_toArray, List.set_cons_zero, List.set_cons_succ]
          refine wpAnyZ_take (i := 2) (oi := ?o3) (v := ?v3) ?hi3 (by kernel_rfl) (by kernel_rfl) (by kernel_rfl) (by kernel_rfl) ?hq3 ?hy3 ⟨cell_keep y1 BB.out, cell_keep cH BB.out, cell_keep v0 BB.out⟩ ?rest3
          case hi3 => simp only [List.getElem?_toArray, List.getElem?_cons_succ, List.getElem?_cons_zero]; rfl
          case hq3 => exact fun _ _ _ h => h
          case hy3 => (refine Or.inl ⟨by rfl, ?_⟩; intro w hSw; (try dsimp only at hSw); go_simp; (try with_reducible rfl))
          simp only [Act.put, List.setIfInBounds_toArray, List.set_cons_zero, List.set_cons_succ]
          refine wpAnyZ_take (i := 3) (oi := ?o4) (v := ?v4) ?hi4 (by kernel_rfl) (by kernel_rfl) (by kernel_rfl) (by kernel_rfl) ?hq4 ?hy4 ⟨cell_keep y1 BB.out, cell_keep cH BB.out, cell_keep v0 BB.out⟩ ?rest4
          case hi4 => simp only [List.getElem?_toArray, List.getElem?_cons_succ, List.getElem?_cons_zero]; rfl
          case hq4 => exact fun _ _ _ h => h
          case hy4 => (refine Or.inl ⟨by rfl, ?_⟩; intro w hSw; (try dsimp only at hSw); go_simp; (try with_reducible rfl))
          simp only [Act.put, List.setIfInBounds_toArray, List.set_cons_zero, List.set_cons_succ]
          refine wpAnyZ_take (i := 4) (oi := ?o5) (v := ?v5) ?hi5 (by kernel_rfl) (by kernel_rfl) (by kernel_rfl) (by kernel_rfl) ?hq5 ?hy5 ⟨cell_keep y1 BB.out, cell_keep cH BB.out, cell_keep v0 BB.out⟩ ?rest5
          case hi5 => simp only [List.getElem?_toArray, List.getElem?_cons_succ, List.getElem?_cons_zero]; rfl
          case hq5 => exact fun _ _ _ h => h
          case hy5 => (refine Or.inl ⟨by rfl, ?_⟩; intro w hSw; (try dsimp only at hSw); go_simp; (try with_reducible rfl))
          simp only [Act.put, List.setIfInBounds_toArray, List.set_cons_zero, List.set_cons_succ]
          refine wpAnyZ_take (i := 5) (oi := ?o6) (v := ?v6) ?hi6 (by kernel_rfl) (by kernel_rfl) (by kernel_rfl) (by kernel_rfl) ?hq6 ?hy6 ⟨cell_keep y1 BB.out, cell_keep cH BB.out, cell_keep v0 BB.out⟩ ?rest6
          case hi6 => simp only [List.getElem?_toArray, List.getElem?_cons_succ, List.getElem?_cons_zero]; rfl
          case hq6 => exact fun _ _ _ h => h
          case hy6 => (refine Or.inl ⟨by rfl, ?_⟩; intro w hSw; (try dsimp only at hSw); go_simp; (try with_reducible rfl))
          simp only [Act.put, List.setIfInBounds_toArray, List.set_cons_zero, List.set_cons_succ]
          refine wpAnyZ_take (i := 6) (oi := ?o7) (v := ?v7) ?hi7 (by kernel_rfl) (by kernel_rfl) (by kernel_rfl) (by kernel_rfl) ?hq7 ?hy7 ⟨cell_keep y1 BB.out, cell_keep cH BB.out, cell_keep v0 BB.out⟩ ?rest7
          case hi7 => simp only [List.getElem?_toArray, List.getElem?_cons_succ, List.getElem?_cons_zero]; rfl
          case hq7 => exact fun _ _ _ h => h
          case hy7 => (refine Or.inl ⟨by rfl, ?_⟩; intro w hSw; (try dsimp only at hSw); go_simp; (try with_reducible rfl))
          simp only [Act.put, List.setIfInBounds_toArray, List.set_cons_zero, List.set_cons_succ]
          refine wpAnyZ_take (i := 7) (oi := ?o8) (v := ?v8) ?hi8 (by kernel_rfl) (by kernel_rfl) (by kernel_rfl) (by kernel_rfl) ?hq8 ?hy8 ⟨cell_keep y1 BB.out, cell_keep cH BB.out, cell_keep v0 BB.out⟩ ?rest8
          case hi8 => simp only [List.getElem?_toArray, List.getElem?_cons_succ, List.getElem?_cons_zero]; rfl
          case hq8 => exact fun _ _ _ h => h
          case hy8 => (refine Or.inl ⟨by rfl, ?_⟩; intro w hSw; (try dsimp only at hSw); go_simp; (try with_reducible rfl))
          simp only [Act.put, List.setIfInBounds_toArray, List.set_cons_zero, List.set_cons_succ]
          refine wpAnyZ_take (i := 8) (oi := ?o9) (v := ?v9) ?hi9 (by kernel_rfl) (by kernel_rfl) (by kernel_rfl) (by kernel_rfl) ?hq9 ?hy9 ⟨cell_keep y1 BB.out, cell_keep cH BB.out, cell_keep v0 BB.out⟩ ?rest9
          case hi9 => simp only [List.getElem?_toArray, List.getElem?_cons_succ, List.getElem?_cons_zero]; rfl
          case hq9 => exact fun _ _ _ h => h
          case hy9 => (refine Or.inl ⟨by rfl, ?_⟩; intro w hSw; (try dsimp only at hSw); go_simp; (try with_reducible rfl))
          simp only [Act.put, List.setIfInBounds_toArray, List.set_cons_zero, List.set_cons_succ]
          refine wpAnyZ_take (i := 9) (oi := ?o10) (v := ?v10) ?hi10 (by kernel_rfl) (by kernel_rfl) (by kernel_rfl) (by kernel_rfl) ?hq10 ?hy10 ⟨cell_keep y1 BB.out, cell_keep cH BB.out, cell_keep v0 BB.out⟩ ?rest10
          case hi10 => simp only [List.getElem?_toArray, List.getElem?_cons_succ, List.getElem?_cons_zero]; rfl
          case hq10 => exact fun _ _ _ h => h
          case hy10 => (refine Or.inl ⟨by rfl, ?_⟩; intro w hSw; (try dsimp only at hSw); go_simp; (try with_reducible rfl))
          simp only [Act.put, List.setIfInBounds_toArray, List.set_cons_zero, List.set_cons_succ]
          refine wpAnyZ_take (i := 10) (oi := ?o11) (v := ?v11) ?hi11 (by kernel_rfl) (by kernel_rfl) (by kernel_rfl) (by kernel_rfl) ?hq11 ?hy11 ⟨cell_keep y1 BB.out, cell_keep cH BB.out, cell_keep v0 BB.out⟩ ?rest11
          case hi11 => simp only [List.getElem?_toArray, List.getElem?_cons_succ, List.getElem?_cons_zero]; rfl
          case hq11 => exact fun _ _ _ h => h
          case hy11 => (refine Or.inl ⟨by rfl, ?_⟩; intro w hSw; (try dsimp only at hSw); go_simp; (try with_reducible rfl))
          simp only [Act.put, List.setIfInBounds_toArray, List.set_cons_zero, List.set_cons_succ]
          refine wpAnyZ_one (i := 11) (o := ?o12) (by kernel_rfl) ?hi12 (fun K hK => ?rest12)
          case hi12 => simp only [List.getElem?_toArray, List.getElem?_cons_succ, List.getElem?_cons_zero]; rfl
          go_simp
          go_at_call 54; refine (implSaved_any Ai ci p f u0 (HSI.out.below BB.out) (by omega)).mono ?_; rintro e u1 ⟨rfl, b1⟩; rw [← hq.out]; (try dsimp only)
          have BBn := BB.out.trans (b1.mono BB.out.size)
          refine hK.out _ _ (.inr ⟨cell_keep y1 BBn, cell_keep cH BBn, cell_keep v0 BBn⟩) ?_
          clear hK K
          (try simp only [Act.put, List.setIfInBounds_toArray, List.set_cons_zero, List.set_cons_succ])
          clear BB b1
          have BB := Lib.hid BBn
          clear BBn
          refine wpAnyZ_take (i := 12) (oi := ?o13) (v := ?v13) ?hi13 (by kernel_rfl) (by kernel_rfl) (by kernel_rfl) (by kernel_rfl) ?hq13 ?hy13 ⟨cell_keep y1 BB.out, cell_keep cH BB.out, cell_keep v0 BB.out⟩ ?rest13
          case hi13 => simp only [List.getElem?_toArray, List.getElem?_cons_succ, List.getElem?_cons_zero]; rfl
          case hq13 => exact fun _ _ _ h => h
          case hy13 => (refine Or.inl ⟨by rfl, ?_⟩; intro w hSw; (try dsimp only at hSw); go_simp; (try with_reducible rfl))
          simp only [Act.put, List.setIfInBounds_toArray, List.set_cons_zero, List.set_cons_succ]
          refine wpAnyZ_take (i := 13) (oi := ?o14) (v := ?v14) ?hi14 (by kernel_rfl) (by kernel_rfl) (by kernel_rfl) (by kernel_rfl) ?hq14 ?hy14 ⟨cell_keep y1 BB.out, cell_keep cH BB.out, cell_keep v0 BB.out⟩ ?rest14
          case hi14 => simp only [List.getElem?_toArray, List.getElem?_cons_succ, List.getElem?_cons_zero]; rfl
          case hq14 => exact fun _ _ _ h => h
          case hy14 => (refine Or.inl ⟨by rfl, ?_⟩; intro w hSw; (try dsimp only at hSw); go_simp; (try with_reducible rfl))
          simp only [Act.put, List.setIfInBounds_toArray, List.set_cons_zero, List.set_cons_succ]
          refine wpAnyZ_done (by kernel_rfl) ?_ _
          go_wp2
          refine wp_region_Z (fun w' : World => w'.cell? ⟨w2.heap.size, 1, none⟩ = some (.slice (some ⟨gB, 0, none⟩) S.length d2') ∧ w'.cell? ⟨gB, i, none⟩ = some (.slice Ai p.length ci) ∧ w'.cell? ⟨g7, 0, none⟩ = some (.int .i64 f) ∧ w'.cell? ⟨g7, 1, none⟩ = some (.int .i64 z)) 14 (by kernel_rfl) ?_
          generalize hv0 : u1.drew = u2
          have BB2 := Lib.hid (show Below w5.heap.size w5 u2 by rw [← hv0]; exact b_drew BB.out)
          clear hv0 BB
          have BB := BB2
          clear BB2
          refine wpAnyZ_take (i := 0) (oi := ?o15) (v := ?v15) ?hi15 (by kernel_rfl) (by kernel_rfl) (by kernel_rfl) (by kernel_rfl) ?hq15 ?hy15 ⟨cell_keep y1 BB.out, cell_keep cH BB.out, cell_keep v0 BB.out, cell_keep v1 BB.out⟩ ?rest15
          case hi15 => simp only [List.getElem?_toArray, List.getElem?_cons_succ, List.getElem?_cons_zero]; rfl
          case hq15 => exact fun _ _ _ h => h
          case hy15 => (refine Or.inl ⟨by rfl, ?_⟩; intro w hSw; (try dsimp only at hSw); go_simp; (try with_reducible rfl))
          simp only [Act.put, List.setIfInBounds_toArray, List.set_cons_zero, List.set_cons_succ]
          refine wpAnyZ_take (i := 1) (oi := ?o16) (v := ?v16) ?hi16 (by kernel_rfl) (by kernel_rfl) (by kernel_rfl) (by kernel_rfl) ?hq16 ?hy16 ⟨cell_keep y1 BB.out, cell_keep cH BB.out, cell_keep v0 BB.out, cell_keep v1 BB.out⟩ ?rest16
          case hi16 => simp only [List.getElem?_toArray, List.getElem?_cons_succ, List.getElem?_cons_zero]; rfl
          case hq16 => exact fun _ _ _ h => h
          case hy16 => (refine Or.inl ⟨by rfl, ?_⟩; intro w hSw; (try dsimp only at hSw); go_simp; (try with_reducible rfl))
          simp only [Act.put, List.setIfInBounds_toArray, List.set_cons_zero, List.set_cons_succ]
          refine wpAnyZ_take (i := 2) (oi := ?o17) (v := ?v17) ?hi17 (by kernel_rfl) (by kernel_rfl) (by kernel_rfl) (by kernel_rfl) ?hq17 ?hy17 ⟨cell_keep y1 BB.out, cell_keep cH BB.out, cell_keep v0 BB.out, cell_keep v1 BB.out⟩ ?rest17
          case hi17 => simp only [List.getElem?_toArray, List.getElem?_cons_succ, List.getElem?_cons_zero]; rfl
          case hq17 => exact fun _ _ _ h => h
          case hy17 => (refine Or.inl ⟨by rfl, ?_⟩; intro w hSw; (try dsimp only at hSw); go_simp; (try with_reducible rfl))
          simp only [Act.put, List.setIfInBounds_toArray, List.set_cons_zero, List.set_cons_succ]
          refine wpAnyZ_take (i := 3) (oi := ?o18) (v := ?v18) ?hi18 (by kernel_rfl) (by kernel_rfl) (by kernel_rfl) (by kernel_rfl) ?hq18 ?hy18 ⟨cell_keep y1 BB.out, cell_keep cH BB.out, cell_keep v0 BB.out, cell_keep v1 BB.out⟩ ?rest18
          case hi18 => simp only [List.getElem?_toArray, List.getElem?_cons_succ, List.getElem?_cons_zero]; rfl
          case hq18 => exact fun _ _ _ h => h
          case hy18 => (refine Or.inl ⟨by rfl, ?_⟩; intro w hSw; (try dsimp only at hSw); go_simp; (try with_reducible rfl))
          simp only [Act.put, List.setIfInBounds_toArray, List.set_cons_zero, List.set_cons_succ]
          refine wpAnyZ_take (i := 4) (oi := ?o19) (v := ?v19) ?hi19 (by kernel_rfl) (by kernel_rfl) (by kernel_rfl) (by kernel_rfl) ?hq19 ?hy19 ⟨cell_keep y1 BB.out, cell_keep cH BB.out, cell_keep v0 BB.out, cell_keep v1 BB.out⟩ ?rest19
          case hi19 => simp only [List.getElem?_toArray, List.getElem?_cons_succ, List.getElem?_cons_zero]; rfl
          case hq19 => exact fun _ _ _ h => h
          case hy19 => (refine Or.inl ⟨by rfl, ?_⟩; intro w hSw; (try dsimp only at hSw); go_simp; (try with_reducible rfl))
          simp only [Act.put, List.setIfInBounds_toArray, List.set_cons_zero, List.set_cons_succ]
          refine wpAnyZ_take (i := 5) (oi := ?o20) (v := ?v20) ?hi20 (by kernel_rfl) (by kernel_rfl) (by kernel_rfl) (by kernel_rfl) ?hq20 ?hy20 ⟨cell_keep y1 BB.out, cell_keep cH BB.out, cell_keep v0 BB.out, cell_keep v1 BB.out⟩ ?rest20
          case hi20 => simp only [List.getElem?_toArray, List.getElem?_cons_succ, List.getElem?_cons_zero]; rfl
          case hq20 => exact fun _ _ _ h => h
          case hy20 => (refine Or.inl ⟨by rfl, ?_⟩; intro w hSw; (try dsimp only at hSw); go_simp; (try with_reducible rfl))
          simp only [Act.put, List.setIfInBounds_toArray, List.set_cons_zero, List.set_cons_succ]
          refine wpAnyZ_take (i := 6) (oi := ?o21) (v := ?v21) ?hi21 (by kernel_rfl) (by kernel_rfl) (by kernel_rfl) (by kernel_rfl) ?hq21 ?hy21 ⟨cell_keep y1 BB.out, cell_keep cH BB.out, cell_keep v0 BB.out, cell_keep v1 BB.out⟩ ?rest21
          case hi21 => simp only [List.getElem?_toArray, List.getElem?_cons_succ, List.getElem?_cons_zero]; rfl
          case hq21 => exact fun _ _ _ h => h
          case hy21 => (refine Or.inl ⟨by rfl, ?_⟩; intro w hSw; (try dsimp only at hSw); go_simp; (try with_reducible rfl))
          simp only [Act.put, List.setIfInBounds_toArray, List.set_cons_zero, List.set_cons_succ]
          refine wpAnyZ_take (i := 7) (oi := ?o22) (v := ?v22) ?hi22 (by kernel_rfl) (by kernel_rfl) (by kernel_rfl) (by kernel_rfl) ?hq22 ?hy22 ⟨cell_keep y1 BB.out, cell_keep cH BB.out, cell_keep v0 BB.out, cell_keep v1 BB.out⟩ ?rest22
          case hi22 => simp only [List.getElem?_toArray, List.getElem?_cons_succ, List.getElem?_cons_zero]; rfl
          case hq22 => exact fun _ _ _ h => h
          case hy22 => (refine Or.inl ⟨by rfl, ?_⟩; intro w hSw; (try dsimp only at hSw); go_simp; (try with_reducible rfl))
          simp only [Act.put, List.setIfInBounds_toArray, List.set_cons_zero, List.set_cons_succ]
          refine wpAnyZ_take (i := 8) (oi := ?o23) (v := ?v23) ?hi23 (by kernel_rfl) (by kernel_rfl) (by kernel_rfl) (by kernel_rfl) ?hq23 ?hy23 ⟨cell_keep y1 BB.out, cell_keep cH BB.out, cell_keep v0 BB.out, cell_keep v1 BB.out⟩ ?rest23
          case hi23 => simp only [List.getElem?_toArray, List.getElem?_cons_succ, List.getElem?_cons_zero]; rfl
          case hq23 => exact fun _ _ _ h => h
          case hy23 => (refine Or.inl ⟨by rfl, ?_⟩; intro w hSw; (try dsimp only at hSw); go_simp; (try with_reducible rfl))
          simp only [Act.put, List.setIfInBounds_toArray, List.set_cons_zero, List.set_cons_succ]
          refine wpAnyZ_take (i := 9) (oi := ?o24) (v := ?v24) ?hi24 (by kernel_rfl) (by kernel_rfl) (by kernel_rfl) (by kernel_rfl) ?hq24 ?hy24 ⟨cell_keep y1 BB.out, cell_keep cH BB.out, cell_keep v0 BB.out, cell_keep v1 BB.out⟩ ?rest24
          case hi24 => simp only [List.getElem?_toArray, List.getElem?_cons_succ, List.getElem?_cons_zero]; rfl
          case hq24 => exact fun _ _ _ h => h
          case hy24 => (refine Or.inl ⟨by rfl, ?_⟩; intro w hSw; (try dsimp only at hSw); go_simp; (try with_reducible rfl))
          simp only [Act.put, List.setIfInBounds_toArray, List.set_cons_zero, List.set_cons_succ]
          refine wpAnyZ_take (i := 10) (oi := ?o25) (v := ?v25) ?hi25 (by kernel_rfl) (by kernel_rfl) (by kernel_rfl) (by kernel_rfl) ?hq25 ?hy25 ⟨cell_keep y1 BB.out, cell_keep cH BB.out, cell_keep v0 BB.out, cell_keep v1 BB.out⟩ ?rest25
          case hi25 => simp only [List.getElem?_toArray, List.getElem?_cons_succ, List.getElem?_cons_zero]; rfl
          case hq25 => exact fun _ _ _ h => h
          case hy25 => (refine Or.inl ⟨by rfl, ?_⟩; intro w hSw; (try dsimp only at hSw); go_simp; (try with_reducible rfl))
          simp only [Act.put, List.setIfInBounds_toArray, List.set_cons_zero, List.set_cons_succ]
          refine wpAnyZ_one (i := 11) (o := ?o26) (by kernel_rfl) ?hi26 (fun K hK => ?rest26)
          case hi26 => simp only [List.getElem?_toArray, List.getElem?_cons_succ, List.getElem?_cons_zero]; rfl
          go_simp
          have BBn := b_alloc BB.out (.cells #[.int .i64 f, .int .i64 z] 44)
          have OHn := Lib.hid ((own_below hOH.out BB.out (Nat.le_refl _)).alloc (.cells #[.int .i64 f, .int .i64 z] 44))
          refine hK.out _ _ (.inr ?hs26) ?more26
          case hs26 => exact ⟨cell_keep y1 BBn, cell_keep cH BBn, cell_keep v0 BBn, cell_keep v1 BBn⟩
          clear hK K
          (try simp only [Act.put, List.setIfInBounds_toArray, List.set_cons_zero, List.set_cons_succ])
          have BBo := BB
          clear BB
          have BB := Lib.hid BBn
          clear BBn
          have hbz := BBo.out.size
          have RBn := Lib.hid (read_new1 (w := u2) (T := 44) (cs := #[.int .i64 f, .int .i64 z]) (xs := [.int .i64 f, .int .i64 z]) rfl)
          have hzn : u2.heap.size < (u2.alloc (.cells #[.int .i64 f, .int .i64 z] 44)).heap.size := by simp
          generalize hvv : u2.alloc (.cells #[.int .i64 f, .int .i64 z] 44) = u3 at *
          clear hvv
          refine wpAnyZ_one (i := 12) (o := ?o27) (by kernel_rfl) ?hi27 (fun K hK => ?rest27)
          case hi27 => simp only [List.getElem?_toArray, List.getElem?_cons_succ, List.getElem?_cons_zero]; rfl
          refine step_append_r _ (by rfl) (.tmp 56) (.tmp 58) 45 (by rfl) mid 44 i2 (.agg #[.int .i64 0, .int .i64 0]) 2 16 Try.underlying45 hi2 hx0 hx1 hx2 rfl (by decide) _ p.length (savC p) OHn.out ?_ (some ⟨u2.heap.size, 0, none⟩) 1 1 [.int .i64 f, .int .i64 z] RBn.out (by simp [Act.eval, Act.put] <;> fail) (by simp) (by intro u hu; simp at hu; rcases hu with rfl | rfl <;> rfl) (by simp only [maxLen]; omega) (by omega) (by omega) ?_
          simp [Act.eval, Act.put]
          intro v6 w6 o6 g6 n6
          obtain ⟨A6, c6, rfl⟩ := own_slice o6
          have K5 := Lib.hid (blk_below BB.out Q5.out Q5.out.lt)
          have K6 := Lib.hid (blk_below BB.out Q6.out Q6.out.lt)
          have K7 := Lib.hid (blk_below BB.out Q7.out Q7.out.lt)
          have e5 := Lib.hid (blk_grown g6 K5.out (fun e => own_apartT OHn.out K5.out (by decide) _ e.symm rfl))
          have e6 := Lib.hid (blk_grown g6 K6.out (fun e => own_apartT OHn.out K6.out (by decide) _ e.symm rfl))
          have hx7 := Lib.hid (fun e => hap7.out e)
          have e7 := Lib.hid (blk_grown g6 K7.out (fun e => hx7.out e.symm))
          have eH := cell_grow (cell_keep cH BB.out) g6 (fun e => hne.out _ e.symm rfl)
          have eF := frozen_grow (cell_keep cH BB.out) (frozen_keep cH hfr.out BB.out) g6 (fun e => hne.out _ e.symm rfl)
          have s1 := e5.out.cell 1
          have s7 := e7.out.cell 0
          have s8 := e7.out.cell 1
          refine hK.out _ _ (.inr ?hs27) ?more27
          case hs27 => exact ⟨s1, eH, s7, s8⟩
          clear hK K
          (try simp only [Act.put, List.setIfInBounds_toArray, List.set_cons_zero, List.set_cons_succ])
          refine wpAnyZ_take (i := 13) (oi := ?o28) (v := ?v28) ?hi28 (by kernel_rfl) (by kernel_rfl) (by kernel_rfl) (by kernel_rfl) ?hq28 ?hy28 ⟨s1, eH, s7, s8⟩ ?rest28
          case hi28 => simp only [List.getElem?_toArray, List.getElem?_cons_succ, List.getElem?_cons_zero]; rfl
          case hq28 => exact fun _ _ _ h => h
          case hy28 => (refine Or.inl ⟨by rfl, ?_⟩; intro w hSw; (try dsimp only at hSw); go_simp; (try with_reducible rfl))
          simp only [Act.put, List.setIfInBounds_toArray, List.set_cons_zero, List.set_cons_succ]
          refine wpAnyZ_one (i := 14) (o := ?o29) (by kernel_rfl) ?hi29 (fun K hK => ?rest29)
          case hi29 => simp only [List.getElem?_toArray, List.getElem?_cons_succ, List.getElem?_cons_zero]; rfl
          go_simp
          refine hK.out _ _ (.inl rfl) ?_
          clear hK K
          (try simp only [Act.put, List.setIfInBounds_toArray, List.set_cons_zero, List.set_cons_succ])
          refine wpAnyZ_done (by kernel_rfl) ?_ _
          have HG6 := HG7.out
          have O6 := Lib.hid (show VolO w1.heap.size (w6.setCell ⟨gB, i, none⟩ (.slice A6 (p.length + 1) c6)).heap.size (w6.setCell ⟨gB, i, none⟩ (.slice A6 (p.length + 1) c6)) (.agg #[.slice A2 N.length c2, .slice (some ⟨gB, 0, none⟩) S.length d2']) N (S.set i (p ++ [(f, z)])) from by
            have e1 : (p ++ [(f, z)]).length = p.length + 1 := by simp
            have hh := HGR.out u3 w6 (p ++ [(f, z)]) A6 c6
            rw [e1, savC_append] at hh
            rw [World.size_setCell]
            exact hh (fun k k1 k2 k3 => (BB.out.block k (by omega)).trans (hkk.out k k3)) (by have := BB.out.size; omega) o6 g6 n6)
          have f5 := Lib.hid (e5.out.far (p := ⟨gB, i, none⟩) (hn5.out) (.slice A6 (p.length + 1) c6))
          have f6 := Lib.hid (e6.out.far (p := ⟨gB, i, none⟩) (by show w.heap.size + 1 ≠ gB; omega) (.slice A6 (p.length + 1) c6))
          have hzz5 : w5.heap.size ≤ u3.heap.size := BB.out.size
          have BW := Lib.hid (((hBw'.out.trans (BB.out.mono hBw'.out.size)).grown g6 (by have := hBw'.out.size; omega) (fun k hk => by have := (hOH.out.lt k hk).1; omega)).setCell (p := ⟨gB, i, none⟩) (by show w.heap.size ≤ gB; omega) (.slice A6 (p.length + 1) c6))
          have hmg := Lib.hid (show mergeS (p ++ [(f, z)]) (r.drop (j + 1)) = mergeS p0 r from by have := HMS.out; rwa [if_pos (by rw [← hq.out]; exact hq0)] at this)
          clear e5 e6 e7 eH eF s1 s7 s8 o6 g6 n6 OHn RBn BB BBo hO5 hOH Q5 Q6 Q7 HGR HMS hap7 hx7 K5 K6 K7 hkk HSI hq hBw' hne hfr
          go_wp2
          go_roundw
          case rel => exact ⟨j + 1, p ++ [(f, z)], by omega, by go_num, by simp; omega, hmg, O6, f5, f6, BW⟩
          case measure => simp [intOf]; omega
        · refine wp_region_Z (fun w' : World => w'.cell? ⟨w2.heap.size, 1, none⟩ = some (.slice (some ⟨gB, 0, none⟩) S.length d2') ∧ w'.cell? ⟨gB, i, none⟩ = some (.slice Ai p.length ci) ∧ w'.cell? ⟨g7, 0, none⟩ = some (.int .i64 f)) 99 (by kernel_rfl) ?_
          generalize hv0 : w5.drew = u0
          have BB := Lib.hid (show Below w5.heap.size w5 u0 by rw [← hv0]; exact (Below.refl _ _).drew)
          clear hv0
          refine wpAnyZ_take (i := 0) (oi := ?o30) (v := ?v30) ?hi30 (by kernel_rfl) (by kernel_rfl) (by kernel_rfl) (by kernel_rfl) ?hq30 ?hy30 ⟨cell_keep y1 BB.out, cell_keep cH BB.out, cell_keep v0 BB.out⟩ ?rest30
          case hi30 => simp only [List.getElem?_toArray, List.getElem?_cons_succ, List.getElem?_cons_zero]; rfl
          case hq30 => exact fun _ _ _ h => h
          case hy30 => (refine Or.inl ⟨by rfl, ?_⟩; intro w hSw; (try dsimp only at hSw); go_simp; (try with_reducible rfl))
          simp only [Act.put, List.setIfInBounds_toArray, List.set_cons_zero, List.set_cons_succ]
          refine wpAnyZ_take (i := 1) (oi := ?o31) (v := ?v31) ?hi31 (by kernel_rfl) (by kernel_rfl) (by kernel_rfl) (by kernel_rfl) ?hq31 ?hy31 ⟨cell_keep y1 BB.out, cell_keep cH BB.out, cell_keep v0 BB.out⟩ ?rest31
          case hi31 => simp only [List.getElem?_toArray, List.getElem?_cons_succ, List.getElem?_cons_zero]; rfl
          case hq31 => exact fun _ _ _ h => h
          case hy31 => (refine Or.inl ⟨by rfl, ?_⟩; intro w hSw; (try dsimp only at hSw); go_simp; (try with_reducible rfl))
          simp only [Act.put, List.setIfInBounds_toArray, List.set_cons_zero, List.set_cons_succ]
          refine wpAnyZ_take (i := 2) (oi := ?o32) (v := ?v32) ?hi32 (by kernel_rfl) (by kernel_rfl) (by kernel_rfl) (by kernel_rfl) ?hq32 ?hy32 ⟨cell_keep y1 BB.out, cell_keep cH BB.out, cell_keep v0 BB.out⟩ ?rest32
          case hi32 => simp only [List.getElem?_toArray, List.getElem?_cons_succ, List.getElem?_cons_zero]; rfl
          case hq32 => exact fun _ _ _ h => h
          case hy32 => (refine Or.inl ⟨by rfl, ?_⟩; intro w hSw; (try dsimp only at hSw); go_simp; (try with_reducible rfl))
          simp only [Act.put, List.setIfInBounds_toArray, List.set_cons_zero, List.set_cons_succ]
          refine wpAnyZ_take (i := 3) (oi := ?o33) (v := ?v33) ?hi33 (by kernel_rfl) (by kernel_rfl) (by kernel_rfl) (by kernel_rfl) ?hq33 ?hy33 ⟨cell_keep y1 BB.out, cell_keep cH BB.out, cell_keep v0 BB.out⟩ ?rest33
          case hi33 => simp only [List.getElem?_toArray, List.getElem?_cons_succ, List.getElem?_cons_zero]; rfl
          case hq33 => exact fun _ _ _ h => h
          case hy33 => (refine Or.inl ⟨by rfl, ?_⟩; intro w hSw; (try dsimp only at hSw); go_simp; (try with_reducible rfl))
          simp only [Act.put, List.setIfInBounds_toArray, List.set_cons_zero, List.set_cons_succ]
          refine wpAnyZ_take (i := 4) (oi := ?o34) (v := ?v34) ?hi34 (by kernel_rfl) (by kernel_rfl) (by kernel_rfl) (by kernel_rfl) ?hq34 ?hy34 ⟨cell_keep y1 BB.out, cell_keep cH BB.out, cell_keep v0 BB.out⟩ ?rest34
          case hi34 => simp only [List.getElem?_toArray, List.getElem?_cons_succ, List.getElem?_cons_zero]; rfl
          case hq34 => exact fun _ _ _ h => h
          case hy34 => (refine Or.inl ⟨by rfl, ?_⟩; intro w hSw; (try dsimp only at hSw); go_simp; (try with_reducible rfl))
          simp only [Act.put, List.setIfInBounds_toArray, List.set_cons_zero, List.set_cons_succ]
          refine wpAnyZ_take (i := 5) (oi := ?o35) (v := ?v35) ?hi35 (by kernel_rfl) (by kernel_rfl) (by kernel_rfl) (by kernel_rfl) ?hq35 ?hy35 ⟨cell_keep y1 BB.out, cell_keep cH BB.out, cell_keep v0 BB.out⟩ ?rest35
          case hi35 => simp only [List.getElem?_toArray, List.getElem?_cons_succ, List.getElem?_cons_zero]; rfl
          case hq35 => exact fun _ _ _ h => h
          case hy35 => (refine Or.inl ⟨by rfl, ?_⟩; intro w hSw; (try dsimp only at hSw); go_simp; (try with_reducible rfl))
          simp only [Act.put, List.setIfInBounds_toArray, List.set_cons_zero, List.set_cons_succ]
          refine wpAnyZ_take (i := 6) (oi := ?o36) (v := ?v36) ?hi36 (by kernel_rfl) (by kernel_rfl) (by kernel_rfl) (by kernel_rfl) ?hq36 ?hy36 ⟨cell_keep y1 BB.out, cell_keep cH BB.out, cell_keep v0 BB.out⟩ ?rest36
          case hi36 => simp only [List.getElem?_toArray, List.getElem?_cons_succ, List.getElem?_cons_zero]; rfl
          case hq36 => exact fun _ _ _ h => h
          case hy36 => (refine Or.inl ⟨by rfl, ?_⟩; intro w hSw; (try dsimp only at hSw); go_simp; (try with_reducible rfl))
          simp only [Act.put, List.setIfInBounds_toArray, List.set_cons_zero, List.set_cons_succ]
          refine wpAnyZ_take (i := 7) (oi := ?o37) (v := ?v37) ?hi37 (by kernel_rfl) (by kernel_rfl) (by kernel_rfl) (by kernel_rfl) ?hq37 ?hy37 ⟨cell_keep y1 BB.out, cell_keep cH BB.out, cell_keep v0 BB.out⟩ ?rest37
          case hi37 => simp only [List.getElem?_toArray, List.getElem?_cons_succ, List.getElem?_cons_zero]; rfl
          case hq37 => exact fun _ _ _ h => h
          case hy37 => (refine Or.inl ⟨by rfl, ?_⟩; intro w hSw; (try dsimp only at hSw); go_simp; (try with_reducible rfl))
          simp only [Act.put, List.setIfInBounds_toArray, List.set_cons_zero, List.set_cons_succ]
          refine wpAnyZ_take (i := 8) (oi := ?o38) (v := ?v38) ?hi38 (by kernel_rfl) (by kernel_rfl) (by kernel_rfl) (by kernel_rfl) ?hq38 ?hy38 ⟨cell_keep y1 BB.out, cell_keep cH BB.out, cell_keep v0 BB.out⟩ ?rest38
          case hi38 => simp only [List.getElem?_toArray, List.getElem?_cons_succ, List.getElem?_cons_zero]; rfl
          case hq38 => exact fun _ _ _ h => h
          case hy38 => (refine Or.inl ⟨by rfl, ?_⟩; intro w hSw; (try dsimp only at hSw); go_simp; (try with_reducible rfl))
          simp only [Act.put, List.setIfInBounds_toArray, List.set_cons_zero, List.set_cons_succ]
          refine wpAnyZ_take (i := 9) (oi := ?o39) (v := ?v39) ?hi39 (by kernel_rfl) (by kernel_rfl) (by kernel_rfl) (by kernel_rfl) ?hq39 ?hy39 ⟨cell_keep y1 BB.out, cell_keep cH BB.out, cell_keep v0 BB.out⟩ ?rest39
          case hi39 => simp only [List.getElem?_toArray, List.getElem?_cons_succ, List.getElem?_cons_zero]; rfl
          case hq39 => exact fun _ _ _ h => h
          case hy39 => (refine Or.inl ⟨by rfl, ?_⟩; intro w hSw; (try dsimp only at hSw); go_simp; (try with_reducible rfl))
          simp only [Act.put, List.setIfInBounds_toArray, List.set_cons_zero, List.set_cons_succ]
          refine wpAnyZ_take (i := 10) (oi := ?o40) (v := ?v40) ?hi40 (by kernel_rfl) (by kernel_rfl) (by kernel_rfl) (by kernel_rfl) ?hq40 ?hy40 ⟨cell_keep y1 BB.out, cell_keep cH BB.out, cell_keep v0 BB.out⟩ ?rest40
          case hi40 => simp only [List.getElem?_toArray, List.getElem?_cons_succ, List.getElem?_cons_zero]; rfl
          case hq40 => exact fun _ _ _ h => h
          case hy40 => (refine Or.inl ⟨by rfl, ?_⟩; intro w hSw; (try dsimp only at hSw); go_simp; (try with_reducible rfl))
          simp only [Act.put, List.setIfInBounds_toArray, List.set_cons_zero, List.set_cons_succ]
          refine wpAnyZ_one (i := 11) (o := ?o41) (by kernel_rfl) ?hi41 (fun K hK => ?rest41)
          case hi41 => simp only [List.getElem?_toArray, List.getElem?_cons_succ, List.getElem?_cons_zero]; rfl
          go_simp
          go_at_call 54; refine (implSaved_any Ai ci p f u0 (HSI.out.below BB.out) (by omega)).mono ?_; rintro e u1 ⟨rfl, b1⟩; rw [← hq.out]; (try dsimp only)
          have BBn := BB.out.trans (b1.mono BB.out.size)
          refine hK.out _ _ (.inr ⟨cell_keep y1 BBn, cell_keep cH BBn, cell_keep v0 BBn⟩) ?_
          clear hK K
          (try simp only [Act.put, List.setIfInBounds_toArray, List.set_cons_zero, List.set_cons_succ])
          clear BB b1
          have BB := Lib.hid BBn
          clear BBn
          refine wpAnyZ_take (i := 12) (oi := ?o42) (v := ?v42) ?hi42 (by kernel_rfl) (by kernel_rfl) (by kernel_rfl) (by kernel_rfl) ?hq42 ?hy42 ⟨cell_keep y1 BB.out, cell_keep cH BB.out, cell_keep v0 BB.out⟩ ?rest42
          case hi42 => simp only [List.getElem?_toArray, List.getElem?_cons_succ, List.getElem?_cons_zero]; rfl
          case hq42 => exact fun _ _ _ h => h
          case hy42 => (refine Or.inl ⟨by rfl, ?_⟩; intro w hSw; (try dsimp only at hSw); go_simp; (try with_reducible rfl))
          simp only [Act.put, List.setIfInBounds_toArray, List.set_cons_zero, List.set_cons_succ]
          refine wpAnyZ_take (i := 13) (oi := ?o43) (v := ?v43) ?hi43 (by kernel_rfl) (by kernel_rfl) (by kernel_rfl) (by kernel_rfl) ?hq43 ?hy43 ⟨cell_keep y1 BB.out, cell_keep cH BB.out, cell_keep v0 BB.out⟩ ?rest43
          case hi43 => simp only [List.getElem?_toArray, List.getElem?_cons_succ, List.getElem?_cons_zero]; rfl
          case hq43 => exact fun _ _ _ h => h
          case hy43 => (refine Or.inl ⟨by rfl, ?_⟩; intro w hSw; (try dsimp only at hSw); go_simp; (try with_reducible rfl))
          simp only [Act.put, List.setIfInBounds_toArray, List.set_cons_zero, List.set_cons_succ]
          refine wpAnyZ_done (by kernel_rfl) ?_ _
          have hmg := Lib.hid (show mergeS p (r.drop (j + 1)) = mergeS p0 r from by have := HMS.out; rwa [if_neg (by rw [← hq.out]; exact hq0)] at this)
          have hzz5 : w5.heap.size ≤ u1.heap.size := BB.out.size
          have O6 := Lib.hid ((hO5.out.below BB.out).mono (Nat.le_refl w1.heap.size) (show wr.heap.size ≤ u1.heap.size by omega))
          have f5 := Lib.hid (blk_below BB.out Q5.out Q5.out.lt)
          have f6 := Lib.hid (blk_below BB.out Q6.out Q6.out.lt)
          have BW := Lib.hid (hBw'.out.trans (BB.out.mono hBw'.out.size))
          clear BB hO5 hOH Q5 Q6 Q7 HGR HMS hap7 hkk HSI hq hBw' hne hfr
          go_wp2
          go_roundw
          case rel => exact ⟨j + 1, p, by omega, by go_num, by omega, hmg, O6, f5, f6, BW⟩
          case measure => simp [intOf]; omega
      · have hfinM : p = mergeS p0 r := by
          have := hmr.out
          rw [List.drop_of_length_le (by omega)] at this
          exact this
        have hO2 := hO.out
        rw [hfinM, hM.out] at hO2
        have OM := Lib.hid hO2
        have KM5 := q5
        have KM6 := q6
        have CM := hBw
        clear hO hO2 hmr hfinM hpj q5 q6 hBw
        have hml : (dropM S n).length = S.length := (dropM_len S n).1
        obtain ⟨M, hMe⟩ : ∃ M, M = dropM S n := ⟨_, rfl⟩
        rw [← hMe] at OM hml hyes
        have OM' := Lib.hid (show VolO w1.heap.size wr.heap.size wr (.agg #[.slice A2 N.length c2, .slice (some ⟨gB, 0, none⟩) M.length d2']) N M by rw [hml]; exact OM.out)
        clear OM hMe
        obtain ⟨g0, mid, hs, e0, m1, m2, m3, _, hRM, _, _, _, hne, hcl⟩ := vol_outer OM'.out (by have := HN.out; omega)
        injection e0 with e0
        injection e0 with e0 _
        subst e0
        rw [hml] at hRM
        have hdel := Lib.hid (delSS_any mid wr.heap.size gB d2' n M wr (by rw [hml]; exact hRM) (by rw [hml]; exact HN.out))
        rw [hml] at hdel
        have h57 := hne KM5.out
        have HCL := Lib.hid (fun w' v Q hi' h1 h2 h3 => hcl w' v Q hi' h1 h2 h3)
        have Hml := Lib.hid hml
        obtain ⟨y0, y1, y2, y3⟩ := KM5.out.two
        clear hRM hcl hne OM' hml
        go_wp2_with fail
        refine hdel.out.mono ?_
        rintro e w9 ⟨rfl, r9, t9⟩
        rw [Hml.out]
        have hnl := HN.out
        have hel : (M.eraseIdx n).length = S.length - 1 := by rw [List.length_eraseIdx_of_lt (by rw [Hml.out]; omega), Hml.out]
        have hO9 : VolO w1.heap.size wr.heap.size w9 (.agg #[.slice A2 N.length c2, .slice (some ⟨gB, 0, none⟩) (S.length - 1) d2']) N (M.eraseIdx n) := by
          have := HCL.out w9 _ (M.eraseIdx n) wr.heap.size r9 (Nat.le_refl _) (fun k hk hk2 => t9.block k hk2 (by omega))
          rwa [hel] at this
        have Zw := CM.out.size
        obtain ⟨s5, t5, t6, hv9, hb9⟩ := vd_tail (n := n) CM.out (show w.heap.size + 2 ≤ w1.heap.size by omega) m1 m2 m3 (Nat.le_refl _) KM5.out KM6.out h57 (by omega) hO9 t9
        have hfin := Lib.hid (hyes.out _ _ hv9 hb9)
        obtain ⟨a0, a1, a2, a3⟩ := s5.two
        obtain ⟨b0, b1, b2, b3⟩ := t5.two
        obtain ⟨f0, f1, f2, f3⟩ := t6.two
        clear hv9 hb9 s5 t5 t6 hO9 r9 t9 hdel HCL hyes KM5 KM6 CM y0 y1 y2 y3 hel
        go_wp2
        exact bodyPost_ret (v := .agg #[.slice A2 N.length c2, .slice (some ⟨gB, 0, none⟩) (S.length - 1) d2']) (by simp [results, Try.results24, go_sem, f0, f1]) rfl hfin.out
end Go.Proofs.Ytkjjieofoolnhaa
