/- DropShot of the reference. -/
import Derived.Test.YtkjjieofoolnhaaVolD0
namespace Go.Proofs.Ytkjjieofoolnhaa
open Go.RowKit
set_option linter.unusedVariables false

/-- The snapshots stored anew, and the volume stored as the result. -/
theorem vx_tail {w w' : World} {lo hi g5 c : Nat} {A : Option Addr} {N : List Int} {Q : List (List Sv)} {u1 u2 : Value} (hb : Below w.heap.size w w') (hlo : w.heap.size ≤ lo) (hhi : hi ≤ w'.heap.size)
    (q5 : Blk w' g5 29 #[.slice A N.length c, u1]) (q6 : Blk w' (w.heap.size + 1) 29 #[.slice none 0 0, .slice none 0 0]) (h6 : w.heap.size + 1 < g5) (hO : VolO lo hi w' (.agg #[.slice A N.length c, u2]) N Q) :
    Blk (w'.setCell ⟨g5, 1, none⟩ u2) g5 29 #[.slice A N.length c, u2] ∧ Blk (w'.setCell ⟨g5, 1, none⟩ u2) (w.heap.size + 1) 29 #[.slice none 0 0, .slice none 0 0] ∧
      VolO w.heap.size (((w'.setCell ⟨g5, 1, none⟩ u2).setCell ⟨w.heap.size + 1, 0, none⟩ (.slice A N.length c)).setCell ⟨w.heap.size + 1, 1, none⟩ u2).heap.size (((w'.setCell ⟨g5, 1, none⟩ u2).setCell ⟨w.heap.size + 1, 0, none⟩ (.slice A N.length c)).setCell ⟨w.heap.size + 1, 1, none⟩ u2) (.agg #[.slice A N.length c, u2]) N Q ∧
      Below w.heap.size w (((w'.setCell ⟨g5, 1, none⟩ u2).setCell ⟨w.heap.size + 1, 0, none⟩ (.slice A N.length c)).setCell ⟨w.heap.size + 1, 1, none⟩ u2) := by
  have s6 := q6.far (p := ⟨g5, 1, none⟩) (by show w.heap.size + 1 ≠ g5; omega) u2
  refine ⟨q5.set 1 _, s6, ?_, ?_⟩
  · exact (((hO.farT q5 1 _).farT s6 0 _).farT (s6.set 0 _) 1 _).mono hlo (by simpa using hhi)
  · exact ((hb.setCell (p := ⟨g5, 1, none⟩) (by show w.heap.size ≤ g5; omega) _).setCell (by simp) _).setCell (by simp) _

set_option linter.unusedSimpArgs false in
set_option maxHeartbeats 8000000 in
theorem specDrop_any (v : Value) (N : List Int) (S : List (List Sv)) (a : Int) (w : World) (h : VolR w v N S) (hN : N.length ≤ 1048576) (hS : S.length + sumN S ≤ 1048576) (ha : -9223372036854775808 ≤ a ∧ a ≤ 9223372036854775807) :
    Calls Try.prog 23 #[v, .int .i64 a] w (ToVolPost (dropN N S a) (dropS N S a) w) := by
  have HR := Lib.hid h
  obtain ⟨A, c, B, d, rfl, hA, hB, hc1, hc2, hd1, hd2⟩ := h
  obtain ⟨i2, hi2, hx0, hx1, hx2⟩ := info_parts info_sav
  have HR0 := Lib.hid ((HR.out.alloc (.cells #[.slice A N.length c, .slice B S.length d] 29)).alloc (.cells #[.slice none 0 0, .slice none 0 0] 29))
  have K0 := Lib.hid (show Blk ((w.alloc (.cells #[.slice A N.length c, .slice B S.length d] 29)).alloc (.cells #[.slice none 0 0, .slice none 0 0] 29)) w.heap.size 29 #[.slice A N.length c, .slice B S.length d] from (Blk.new rfl).alloc _)
  have K1 := Lib.hid (show Blk ((w.alloc (.cells #[.slice A N.length c, .slice B S.length d] 29)).alloc (.cells #[.slice none 0 0, .slice none 0 0] 29)) (w.heap.size + 1) 29 #[.slice none 0 0, .slice none 0 0] from Blk.new (by simp))
  have C0 := Lib.hid (show Below w.heap.size w ((w.alloc (.cells #[.slice A N.length c, .slice B S.length d] 29)).alloc (.cells #[.slice none 0 0, .slice none 0 0] 29)) from b_alloc (b_alloc (Below.refl _ _) _) _)
  have Z0 : ((w.alloc (.cells #[.slice A N.length c, .slice B S.length d] 29)).alloc (.cells #[.slice none 0 0, .slice none 0 0] 29)).heap.size = w.heap.size + 2 := by simp
  have d2 : IntKind.i64.wrap ((S.length : Int) - 1) = (S.length : Int) - 1 := IntWalk.i64_in _ (by omega)
  clear hA hB
  cases hv : volB N S
  · have hno := Lib.hid (fun (w' : World) hb => drop_no (a := a) (w := w) (w' := w') (show dropB N S a = false by simp [dropB, hv]) hb)
    go_enter Try.func23, Try.ntmps23
    go_wp2_with fail
    refine (specVol_any _ N S _ HR0.out (by omega) (by omega)).mono ?_
    rintro e w1 ⟨rfl, b1⟩
    rw [hv]
    obtain ⟨z0, z1, z2, z3⟩ := (blk_below b1 K1.out K1.out.lt).two
    obtain ⟨x0, x1, _, _⟩ := (blk_below b1 K0.out K0.out.lt).two
    have C1 := Lib.hid (C0.out.trans (b1.mono (by omega)))
    clear hv b1
    go_wp2
    have hfin := hno.out _ ((C1.out.setCell (p := ⟨w.heap.size + 1, 0, none⟩) (by show w.heap.size ≤ w.heap.size + 1; omega) (.slice none 0 0)).setCell (p := ⟨w.heap.size + 1, 1, none⟩) (by show w.heap.size ≤ w.heap.size + 1; omega) (.slice none 0 0))
    exact bodyPost_ret (v := .agg #[.slice none 0 0, .slice none 0 0]) (by simp [results, Try.results23, go_sem, z0, z1]) rfl hfin
  cases ga : inB a 0 ((S.length : Int) - 1)
  · have hno := Lib.hid (fun (w' : World) hb => drop_no (a := a) (w := w) (w' := w') (show dropB N S a = false by simp [dropB, hv, ga]) hb)
    go_enter Try.func23, Try.ntmps23
    go_wp2_with fail
    refine (specVol_any _ N S _ HR0.out (by omega) (by omega)).mono ?_
    rintro e w1 ⟨rfl, b1⟩
    rw [hv]
    obtain ⟨z0, z1, z2, z3⟩ := (blk_below b1 K1.out K1.out.lt).two
    obtain ⟨x0, x1, _, _⟩ := (blk_below b1 K0.out K0.out.lt).two
    have C1 := Lib.hid (C0.out.trans (b1.mono (by omega)))
    clear hv b1
    go_wp2_with fail
    (try rw [d2])
    refine (l1In_is ga _).mono ?_
    rintro e w' ⟨rfl, rfl⟩
    go_wp2
    have hfin := hno.out _ ((C1.out.setCell (p := ⟨w.heap.size + 1, 0, none⟩) (by show w.heap.size ≤ w.heap.size + 1; omega) (.slice none 0 0)).setCell (p := ⟨w.heap.size + 1, 1, none⟩) (by show w.heap.size ≤ w.heap.size + 1; omega) (.slice none 0 0))
    exact bodyPost_ret (v := .agg #[.slice none 0 0, .slice none 0 0]) (by simp [results, Try.results23, go_sem, z0, z1]) rfl hfin
  have hB1 : dropB N S a = true := by simp [dropB, hv, ga]
  obtain ⟨n, rfl⟩ : ∃ n : Nat, a = n := ⟨a.toNat, by simp [inB] at ga; omega⟩
  have hn : n < S.length := by simp [inB] at ga; omega
  have hyes := Lib.hid (fun (v : Value) (w' : World) ho hb => drop_yes (w := w) (w' := w') (v := v) hB1 ho hb)
  have hsp := Lib.hid (fun v w' h => specVCopy_any v N S w' h hN hS)
  clear hB1
  go_enter Try.func23, Try.ntmps23
  go_wp2_with fail
  refine (specVol_any _ N S _ HR0.out (by omega) (by omega)).mono ?_
  rintro e w1 ⟨rfl, b1⟩
  rw [hv]
  obtain ⟨z0, z1, z2, z3⟩ := (blk_below b1 K1.out K1.out.lt).two
  obtain ⟨x0, x1, _, _⟩ := (blk_below b1 K0.out K0.out.lt).two
  have C1 := Lib.hid (C0.out.trans (b1.mono (by omega)))
  have k0 := Lib.hid (blk_below b1 K0.out K0.out.lt)
  have k1 := Lib.hid (blk_below b1 K1.out K1.out.lt)
  have R1 := Lib.hid (HR0.out.below b1)
  have Z1 : w.heap.size + 2 ≤ w1.heap.size := by have := b1.size; omega
  clear hv b1 HR0 K0 K1 C0 z0 z1 z2 z3
  go_wp2_with fail
  (try rw [d2])
  refine (l1In_is ga _).mono ?_
  rintro e w' ⟨rfl, rfl⟩
  clear ga
  go_wp2_with fail
  refine (hsp.out _ _ R1.out).mono ?_
  rintro e w2 ⟨v2, rfl, o2, b2⟩
  have O2 := Lib.hid o2
  obtain ⟨A2, c2, B2, d2', mid2, rfl, _⟩ := o2
  have k0' := Lib.hid ((blk_below b2 k0.out k0.out.lt).alloc (.cells #[.slice A2 N.length c2, .slice B2 S.length d2'] 29))
  have k1' := Lib.hid ((blk_below b2 k1.out k1.out.lt).alloc (.cells #[.slice A2 N.length c2, .slice B2 S.length d2'] 29))
  have k4 := Lib.hid (show Blk (w2.alloc (.cells #[.slice A2 N.length c2, .slice B2 S.length d2'] 29)) w2.heap.size 29 #[.slice A2 N.length c2, .slice B2 S.length d2'] from Blk.new rfl)
  have O3 := Lib.hid (O2.out.alloc (.cells #[.slice A2 N.length c2, .slice B2 S.length d2'] 29))
  have C2 := Lib.hid (b_alloc (C1.out.trans (b2.mono (by omega))) (.cells #[.slice A2 N.length c2, .slice B2 S.length d2'] 29))
  have Z2 : w1.heap.size ≤ w2.heap.size := b2.size
  have Z3 : w2.heap.size + 1 ≤ (w2.alloc (.cells #[.slice A2 N.length c2, .slice B2 S.length d2'] 29)).heap.size := by simp
  clear b2 k0 k1 C1 R1 O2 hsp x0 x1 k0'
  obtain ⟨gB, _, _, hB2, _, _, _, _, _, _, _, _, hneV, _⟩ := vol_outer O3.out (by omega)
  have hn5 := Lib.hid (hneV k4.out)
  clear hneV
  subst hB2
  have ix1 : (0 : Int) ≤ (n : Int) := by omega
  have ix2 : (n : Int) < (S.length : Int) := by omega
  obtain ⟨r, hr⟩ : ∃ r, r = S[n] := ⟨_, rfl⟩
  have hsm := sumN_get hn
  rw [← hr] at hsm
  have hrl : r.length ≤ 1048576 := by omega
  have hn1 : n ≤ 1048576 := by omega
  have hSl : S.length ≤ 1048576 := by omega
  have HN := Lib.hid hn
  have HR' := Lib.hid (show ∀ h : n < S.length, r = S[n]'h from fun _ => hr)
  have H0 := Lib.hid (show S.getD n [] = r by rw [hr, List.getD_eq_getElem?_getD, List.getElem?_eq_getElem hn]; rfl)
  clear hr hn
  obtain ⟨y0, y1, y2, y3⟩ := k4.out.two
  rcases Nat.eq_zero_or_pos n with hz | hz
  · have hz2 := Lib.hid hz
    have O4 := Lib.hid (O3.out.mono (Nat.le_refl w1.heap.size) (show w2.heap.size ≤ (w2.alloc (.cells #[.slice A2 N.length c2, .slice (some ⟨gB, 0, none⟩) S.length d2'] 29)).heap.size by omega))
    obtain ⟨An, cn, cN⟩ : ∃ An cn, (w2.alloc (.cells #[.slice A2 N.length c2, .slice (some ⟨gB, 0, none⟩) S.length d2'] 29)).cell? ⟨gB, n, none⟩ = some (.slice An r.length cn) := by
      obtain ⟨g0, mid, Ai, ci, e0, _, _, _, _, _, _, cH, _⟩ := vol_growRow O3.out n HN.out
      injection e0 with e0
      injection e0 with e0 _
      subst e0
      exact ⟨Ai, ci, by rw [HR'.out HN.out]; exact cH⟩
    have hg0 : ¬ ((0 : Int) < (n : Int)) := by omega
    have hg0n : (0 < n) = False := by simp; omega
    clear hz O3
    go_wp2
    generalize hx3 : w2.alloc (.cells #[.slice A2 N.length c2, .slice (some ⟨gB, 0, none⟩) S.length d2'] 29) = x3 at *
    clear hx3
    go_loopw [6] (fun y wr => y = .int .i64 0 ∧ wr = x3) (fun y _ => 0)
    case atStart => exact ⟨rfl, rfl⟩
    case round =>
      obtain ⟨rfl, rfl⟩ := hrel
      have hM : dropM S n = S := by unfold dropM; rw [if_neg (by have := hz2.out; omega)]
      have OM : Hid (VolO w1.heap.size wr.heap.size wr (.agg #[.slice A2 N.length c2, .slice (some ⟨gB, 0, none⟩) S.length d2']) N (dropM S n)) := by rw [hM]; exact O4
      have KM5 := k4
      have KM6 := k1'
      have CM := C2
      clear O4 k4 k1' C2 hM
      by_cases hr0 : 0 < r.length
      · have hrI : (0 : Int) < (r.length : Int) := by omega
        have hml : (dropM S n).length = S.length := (dropM_len S n).1
        obtain ⟨M, hMe⟩ : ∃ M, M = dropM S n := ⟨_, rfl⟩
        rw [← hMe] at OM hml hyes
        have OM' := Lib.hid (show VolO w1.heap.size wr.heap.size wr (.agg #[.slice A2 N.length c2, .slice (some ⟨gB, 0, none⟩) M.length d2']) N M by rw [hml]; exact OM.out)
        clear OM hMe
        obtain ⟨g0, mid, hs, e0, m1, m2, m3, _, _, ho0, hH0, _, hne, hcl⟩ := vol_outer OM'.out (by have := HN.out; omega)
        injection e0 with e0
        injection e0 with e0 _
        subst e0
        obtain ⟨i1, hi1, hy0, hy1, hy2⟩ := info_parts info_rowS
        have hcp := own_cap ho0
        have hsl : hs.length = S.length := by rw [hH0.1, hml]
        have hrd := own_read ho0
        have RD1 := Lib.hid (show ReadC wr (some ⟨gB, 0, none⟩) (hs.take n) from by
          intro h9
          obtain ⟨b, off, e, hc⟩ := hrd (by rw [List.length_take] at h9; omega)
          exact ⟨b, off, e, fun i hi => by rw [List.getElem_take]; exact hc i (by rw [List.length_take] at hi; omega)⟩)
        obtain ⟨n1, hn1'⟩ : ∃ n1, n1 = n + 1 := ⟨_, rfl⟩
        have RD2 := Lib.hid (show ReadC wr (if d2' = n1 then some ⟨gB, 0, none⟩ else some ⟨gB, n1, none⟩) (hs.drop n1) from by
          intro h9
          rw [List.length_drop] at h9
          rw [if_neg (by rw [hml] at hcp; omega)]
          obtain ⟨b, off, e, hc⟩ := hrd (by omega)
          injection e with e
          injection e with e1 e2
          subst e1 e2
          refine ⟨gB, n1, rfl, fun i hi => ?_⟩
          rw [List.length_drop] at hi
          rw [List.getElem_drop]
          have := hc (n1 + i) (by omega)
          rwa [Nat.zero_add] at this)
        have hone : ∀ u ∈ hs, u.oneCell' = true := by
          intro u hu
          obtain ⟨i, hi⟩ := List.mem_iff_getElem?.1 hu
          obtain ⟨Ai, ci, x, _⟩ := hH0.2.1 i (by rw [← hH0.1]; exact (List.getElem?_eq_some_iff.1 hi).1)
          have e : u = _ := Option.some.inj (hi.symm.trans x)
          rw [e]
          rfl
        have HS1 := Lib.hid (fun k => show ∀ u ∈ hs.take k, u.oneCell' = true from fun u hu => hone u (List.mem_of_mem_take hu))
        have HS2 := Lib.hid (fun k => show ∀ u ∈ hs.drop k, u.oneCell' = true from fun u hu => hone u (List.mem_of_mem_drop hu))
        have HH := Lib.hid hH0
        have HCL := Lib.hid (fun w' v Q hi' h1 h2 h3 => hcl w' v Q hi' h1 h2 h3)
        have Hml := Lib.hid hml
        have hnl := HN.out
        have hcp1 : S.length ≤ d2' ∧ d2' ≤ 9223372036854775807 := by rw [hml] at hcp; exact hcp
        have dn1 : IntKind.i64.wrap ((n : Int) + 1) = (n1 : Int) := by rw [IntWalk.i64_in _ (by omega)]; omega
        have ia1 : (0 : Int) ≤ (n1 : Int) := by omega
        have ia2 : (n1 : Int) ≤ (S.length : Int) := by omega
        have ia3 : (S.length : Int) ≤ (d2' : Int) := by omega
        have ia4 : (n : Int) ≤ (d2' : Int) := by omega
        have ib1 : n ≤ d2' := by omega
        have ib2 : n1 ≤ S.length := by omega
        have HE1 := Lib.hid hn1'
        have hnb : n ≤ hs.length := by omega
        have hsq : hs.length ≤ S.length ∧ S.length ≤ hs.length := by omega
        have hsl' := Lib.hid hsl
        have hsb : hs.length ≤ 1048576 := by omega
        obtain ⟨y0, y1, y2, y3⟩ := KM5.out.two
        clear hcl hne OM' hml hrd hone hcp hH0 ho0 hn1' hsl
        go_wp2
        refine wp_region_Z (fun w' : World => w'.cell? ⟨w2.heap.size, 1, none⟩ = some (.slice (some ⟨gB, 0, none⟩) S.length d2')) 13 (by kernel_rfl) ?_
        generalize hv0 : wr.drew = u0
        have BB := Lib.hid (show Below wr.heap.size wr u0 by rw [← hv0]; exact (Below.refl _ _).drew)
        clear hv0
        refine wpAnyZ_take (i := 1) (oi := ?o71) (v := ?v71) ?hi71 (by kernel_rfl) (by kernel_rfl) (by kernel_rfl) (by kernel_rfl) ?hq71 ?hy71 (cell_keep y1 BB.out) ?rest71
        case hi71 => simp only [List.getElem?_toArray, List.getElem?_cons_succ, List.getElem?_cons_zero]; rfl
        case hq71 => exact fun _ _ _ h => h
        case hy71 => (refine Or.inl ⟨by rfl, ?_⟩; intro w hSw; (try dsimp only at hSw); go_simp; (try with_reducible rfl))
        simp only [Act.put, List.setIfInBounds_toArray, List.set_cons_zero, List.set_cons_succ]
        refine wpAnyZ_take (i := 2) (oi := ?o72) (v := ?v72) ?hi72 (by kernel_rfl) (by kernel_rfl) (by kernel_rfl) (by kernel_rfl) ?hq72 ?hy72 (cell_keep y1 BB.out) ?rest72
        case hi72 => simp only [List.getElem?_toArray, List.getElem?_cons_succ, List.getElem?_cons_zero]; rfl
        case hq72 => exact fun _ _ _ h => h
        case hy72 => (refine Or.inl ⟨by rfl, ?_⟩; intro w hSw; (try dsimp only at hSw); go_simp; (try with_reducible rfl))
        simp only [Act.put, List.setIfInBounds_toArray, List.set_cons_zero, List.set_cons_succ]
        refine wpAnyZ_take (i := 3) (oi := ?o73) (v := ?v73) ?hi73 (by kernel_rfl) (by kernel_rfl) (by kernel_rfl) (by kernel_rfl) ?hq73 ?hy73 (cell_keep y1 BB.out) ?rest73
        case hi73 => simp only [List.getElem?_toArray, List.getElem?_cons_succ, List.getElem?_cons_zero]; rfl
        case hq73 => exact fun _ _ _ h => h
        case hy73 => (refine Or.inl ⟨by rfl, ?_⟩; intro w hSw; (try dsimp only at hSw); go_simp; (try with_reducible rfl))
        simp only [Act.put, List.setIfInBounds_toArray, List.set_cons_zero, List.set_cons_succ]
        refine wpAnyZ_take (i := 4) (oi := ?o74) (v := ?v74) ?hi74 (by kernel_rfl) (by kernel_rfl) (by kernel_rfl) (by kernel_rfl) ?hq74 ?hy74 (cell_keep y1 BB.out) ?rest74
        case hi74 => simp only [List.getElem?_toArray, List.getElem?_cons_succ, List.getElem?_cons_zero]; rfl
        case hq74 => exact fun _ _ _ h => h
        case hy74 => (refine Or.inl ⟨by rfl, ?_⟩; intro w hSw; (try dsimp only at hSw); go_simp; (try with_reducible rfl))
        simp only [Act.put, List.setIfInBounds_toArray, List.set_cons_zero, List.set_cons_succ]
        refine wpAnyZ_take (i := 6) (oi := ?o75) (v := ?v75) ?hi75 (by kernel_rfl) (by kernel_rfl) (by kernel_rfl) (by kernel_rfl) ?hq75 ?hy75 (cell_keep y1 BB.out) ?rest75
        case hi75 => simp only [List.getElem?_toArray, List.getElem?_cons_succ, List.getElem?_cons_zero]; rfl
        case hq75 => exact fun _ _ _ h => h
        case hy75 => (refine Or.inl ⟨by rfl, ?_⟩; intro w hSw; (try dsimp only at hSw); go_simp; (try with_reducible rfl))
        simp only [Act.put, List.setIfInBounds_toArray, List.set_cons_zero, List.set_cons_succ]
        refine wpAnyZ_take (i := 7) (oi := ?o76) (v := ?v76) ?hi76 (by kernel_rfl) (by kernel_rfl) (by kernel_rfl) (by kernel_rfl) ?hq76 ?hy76 (cell_keep y1 BB.out) ?rest76
        case hi76 => simp only [List.getElem?_toArray, List.getElem?_cons_succ, List.getElem?_cons_zero]; rfl
        case hq76 => exact fun _ _ _ h => h
        case hy76 => (refine Or.inl ⟨by rfl, ?_⟩; intro w hSw; (try dsimp only at hSw); go_simp; (try with_reducible rfl))
        simp only [Act.put, List.setIfInBounds_toArray, List.set_cons_zero, List.set_cons_succ]
        refine wpAnyZ_take (i := 8) (oi := ?o77) (v := ?v77) ?hi77 (by kernel_rfl) (by kernel_rfl) (by kernel_rfl) (by kernel_rfl) ?hq77 ?hy77 (cell_keep y1 BB.out) ?rest77
        case hi77 => simp only [List.getElem?_toArray, List.getElem?_cons_succ, List.getElem?_cons_zero]; rfl
        case hq77 => exact fun _ _ _ h => h
        case hy77 => (refine Or.inl ⟨by rfl, ?_⟩; intro w hSw; (try dsimp only at hSw); go_simp; (try with_reducible rfl))
        simp only [Act.put, List.setIfInBounds_toArray, List.set_cons_zero, List.set_cons_succ]
        refine wpAnyZ_take (i := 9) (oi := ?o78) (v := ?v78) ?hi78 (by kernel_rfl) (by kernel_rfl) (by kernel_rfl) (by kernel_rfl) ?hq78 ?hy78 (cell_keep y1 BB.out) ?rest78
        case hi78 => simp only [List.getElem?_toArray, List.getElem?_cons_succ, List.getElem?_cons_zero]; rfl
        case hq78 => exact fun _ _ _ h => h
        case hy78 => (refine Or.inl ⟨by rfl, ?_⟩; intro w hSw; (try dsimp only at hSw); go_simp; (try with_reducible rfl))
        simp only [Act.put, List.setIfInBounds_toArray, List.set_cons_zero, List.set_cons_succ]
        refine wpAnyZ_take (i := 10) (oi := ?o79) (v := ?v79) ?hi79 (by kernel_rfl) (by kernel_rfl) (by kernel_rfl) (by kernel_rfl) ?hq79 ?hy79 (cell_keep y1 BB.out) ?rest79
        case hi79 => simp only [List.getElem?_toArray, List.getElem?_cons_succ, List.getElem?_cons_zero]; rfl
        case hq79 => exact fun _ _ _ h => h
        case hy79 => (refine Or.inl ⟨by rfl, ?_⟩; intro w hSw; (try dsimp only at hSw); go_simp; (try with_reducible rfl))
        simp only [Act.put, List.setIfInBounds_toArray, List.set_cons_zero, List.set_cons_succ]
        refine wpAnyZ_one (i := 0) (o := ?o80) (by kernel_rfl) ?hi80 (fun K hK => ?rest80)
        case hi80 => simp only [List.getElem?_toArray, List.getElem?_cons_succ, List.getElem?_cons_zero]; rfl
        go_simp
        have BBn := b_alloc BB.out (.cells #[] 45)
        have OBn := Lib.hid (World.ownsRow_lit (e := 45) (size := 1) (base := wr.heap.size) u0 #[] 0 BB.out.size (by simp [maxLen]) (by simp))
        refine hK.out _ _ (.inr ?hs80) ?more80
        case hs80 => exact (cell_keep y1 BBn)
        clear hK K
        (try simp only [Act.put, List.setIfInBounds_toArray, List.set_cons_zero, List.set_cons_succ])
        clear BB
        have BB := Lib.hid BBn
        clear BBn
        generalize hvv : u0.alloc (.cells #[] 45) = u2 at *
        clear hvv
        refine wpAnyZ_one (i := 5) (o := ?o81) (by kernel_rfl) ?hi81 (fun K hK => ?rest81)
        case hi81 => simp only [List.getElem?_toArray, List.getElem?_cons_succ, List.getElem?_cons_zero]; rfl
        refine step_append_r _ (by rfl) (.tmp 74) (.tmp 78) 27 (by rfl) wr.heap.size 45 i1 (.slice none 0 0) 1 24 Try.underlying27 hi1 hy0 hy1 hy2 rfl (by decide) _ 0 [] OBn.out ?_ (some ⟨gB, 0, none⟩) n d2' (hs.take n) (RD1.out.below BB.out) (by simp [Act.eval, Act.put] <;> fail) (by rw [List.length_take]; omega) (HS1.out n) (by simp only [maxLen]; omega) (by omega) BB.out.size ?_
        simp [Act.eval, Act.put]
        intro v5 w5 o5 g5 n5
        rw [Nat.zero_add] at o5
        obtain ⟨A5, c5, rfl⟩ := own_slice o5
        have BBn := Below.grown BB.out g5 BB.out.size (fun k hk => (OBn.out.lt k hk).1)
        have O5 := Lib.hid o5
        refine hK.out _ _ (.inr ?hs81) ?more81
        case hs81 => exact (cell_keep y1 BBn)
        clear hK K
        (try simp only [Act.put, List.setIfInBounds_toArray, List.set_cons_zero, List.set_cons_succ])
        clear BB OBn o5 g5 n5
        have BB := Lib.hid BBn
        clear BBn
        refine wpAnyZ_one (i := 11) (o := ?o82) (by kernel_rfl) ?hi82 (fun K hK => ?rest82)
        case hi82 => simp only [List.getElem?_toArray, List.getElem?_cons_succ, List.getElem?_cons_zero]; rfl
        refine step_append_r _ (by rfl) (.tmp 79) (.tmp 84) 27 (by rfl) wr.heap.size 45 i1 (.slice none 0 0) 1 24 Try.underlying27 hi1 hy0 hy1 hy2 rfl (by decide) _ n (hs.take n) O5.out ?_ (if d2' = n1 then some ⟨gB, 0, none⟩ else some ⟨gB, n1, none⟩) (S.length - n1) (d2' - n1) (hs.drop n1) (RD2.out.below BB.out) (by simp [Act.eval, Act.put] <;> fail) (by rw [List.length_drop]; omega) (HS2.out n1) (by simp only [maxLen]; omega) (by omega) BB.out.size ?_
        simp [Act.eval, Act.put]
        intro v6 w6 o6 g6 n6
        obtain ⟨A6, c6, rfl⟩ := own_slice o6
        have BBn := Below.grown BB.out g6 BB.out.size (fun k hk => (O5.out.lt k hk).1)
        have O6 := Lib.hid o6
        refine hK.out _ _ (.inr ?hs82) ?more82
        case hs82 => exact (cell_keep y1 BBn)
        clear hK K
        (try simp only [Act.put, List.setIfInBounds_toArray, List.set_cons_zero, List.set_cons_succ])
        clear BB O5 o6 g6 n6
        have BB := Lib.hid BBn
        clear BBn
        have L5 := Lib.hid (blk_below BB.out KM5.out KM5.out.lt)
        have L6 := Lib.hid (blk_below BB.out KM6.out KM6.out.lt)
        obtain ⟨a0, a1, a2, a3⟩ := L5.out.two
        refine wpAnyZ_take (i := 12) (oi := ?o83) (v := ?v83) ?hi83 (by kernel_rfl) (by kernel_rfl) (by kernel_rfl) (by kernel_rfl) ?hq83 ?hy83 (cell_keep y1 BB.out) ?rest83
        case hi83 => simp only [List.getElem?_toArray, List.getElem?_cons_succ, List.getElem?_cons_zero]; rfl
        case hq83 => exact fun _ _ _ h => h
        case hy83 => (refine Or.inl ⟨by rfl, ?_⟩; intro w hSw; (try dsimp only at hSw); go_simp; (try with_reducible rfl))
        simp only [Act.put, List.setIfInBounds_toArray, List.set_cons_zero, List.set_cons_succ]
        refine wpAnyZ_one (i := 13) (o := ?o84) (by kernel_rfl) ?hi84 (fun K hK => ?rest84)
        case hi84 => simp only [List.getElem?_toArray, List.getElem?_cons_succ, List.getElem?_cons_zero]; rfl
        go_simp
        refine hK.out _ _ (.inl rfl) ?_
        clear hK K
        (try simp only [Act.put, List.setIfInBounds_toArray, List.set_cons_zero, List.set_cons_succ])
        refine wpAnyZ_done (by kernel_rfl) ?_ _
        have hel : (M.eraseIdx n).length = S.length - 1 := by rw [List.length_eraseIdx_of_lt (by rw [Hml.out]; omega), Hml.out]
        have he1 := HE1.out
        have hlen : n + (S.length - n1) = S.length - 1 := by omega
        have O7 : w6.ownsRow wr.heap.size 45 1 (.slice A6 (S.length - 1) c6) (S.length - 1) (hs.eraseIdx n) := by
          have := O6.out
          rw [hlen, he1, ← List.eraseIdx_eq_take_drop_succ] at this
          exact this
        have hzz := BB.out.size
        have hrow : RowsS mid w6.heap.size w6 (.slice A6 (M.eraseIdx n).length c6) (M.eraseIdx n) :=
          HH.out.erase (n := n) (by rw [Hml.out]; omega) (by rw [Hml.out]; exact own_mono O7 (by omega)) (fun g hg => (O7.lt g (by rw [Hml.out] at hg; exact hg)).2) (fun a ha g hg hg2 => by have h1 := (O7.lt g (by rw [Hml.out] at hg; exact hg)).1; have h2 := (HH.out.mem ha hg2).2.1; omega) (by omega) (fun a ha g hg => BB.out.block g (HH.out.mem ha hg).2.1)
        have hO9 : VolO w1.heap.size w6.heap.size w6 (.agg #[.slice A2 N.length c2, .slice A6 (S.length - 1) c6]) N (M.eraseIdx n) := by
          have := HCL.out w6 _ (M.eraseIdx n) w6.heap.size hrow (by omega) (fun k hk hk2 => BB.out.block k hk2)
          rwa [hel] at this
        obtain ⟨t5, t6, hv9, hb9⟩ := vx_tail (CM.out.trans (BB.out.mono CM.out.size)) (show w.heap.size ≤ w1.heap.size by omega) (Nat.le_refl _) L5.out L6.out (by omega) hO9
        have hfin := Lib.hid (hyes.out _ _ hv9 hb9)
        obtain ⟨b0, b1, b2, b3⟩ := t5.two
        obtain ⟨f0, f1, f2, f3⟩ := t6.two
        rw [hlen]
        clear hv9 hb9 t5 t6 hO9 hrow O7 O6 BB HH HCL hyes KM5 KM6 CM y0 y1 y2 y3 hel L5 L6 a0 a1 a2 a3 RD1 RD2 HS1 HS2
        go_wp2
        all_goals exact bodyPost_ret (v := .agg #[.slice A2 N.length c2, .slice A6 (S.length - 1) c6]) (by simp [results, Try.results23, go_sem, f0, f1]) rfl hfin.out
      · have hrI : ((0 : Int) < (r.length : Int)) = False := eq_false (by omega)
        have hml : (dropM S n).length = S.length := (dropM_len S n).1
        obtain ⟨M, hMe⟩ : ∃ M, M = dropM S n := ⟨_, rfl⟩
        rw [← hMe] at OM hml hyes
        have OM' := Lib.hid (show VolO w1.heap.size wr.heap.size wr (.agg #[.slice A2 N.length c2, .slice (some ⟨gB, 0, none⟩) M.length d2']) N M by rw [hml]; exact OM.out)
        clear OM hMe
        obtain ⟨g0, mid, hs, e0, m1, m2, m3, _, _, ho0, hH0, _, hne, hcl⟩ := vol_outer OM'.out (by have := HN.out; omega)
        injection e0 with e0
        injection e0 with e0 _
        subst e0
        obtain ⟨i1, hi1, hy0, hy1, hy2⟩ := info_parts info_rowS
        have hcp := own_cap ho0
        have hsl : hs.length = S.length := by rw [hH0.1, hml]
        have hrd := own_read ho0
        have RD1 := Lib.hid (show ReadC wr (some ⟨gB, 0, none⟩) (hs.take n) from by
          intro h9
          obtain ⟨b, off, e, hc⟩ := hrd (by rw [List.length_take] at h9; omega)
          exact ⟨b, off, e, fun i hi => by rw [List.getElem_take]; exact hc i (by rw [List.length_take] at hi; omega)⟩)
        obtain ⟨n1, hn1'⟩ : ∃ n1, n1 = n + 1 := ⟨_, rfl⟩
        have RD2 := Lib.hid (show ReadC wr (if d2' = n1 then some ⟨gB, 0, none⟩ else some ⟨gB, n1, none⟩) (hs.drop n1) from by
          intro h9
          rw [List.length_drop] at h9
          rw [if_neg (by rw [hml] at hcp; omega)]
          obtain ⟨b, off, e, hc⟩ := hrd (by omega)
          injection e with e
          injection e with e1 e2
          subst e1 e2
          refine ⟨gB, n1, rfl, fun i hi => ?_⟩
          rw [List.length_drop] at hi
          rw [List.getElem_drop]
          have := hc (n1 + i) (by omega)
          rwa [Nat.zero_add] at this)
        have hone : ∀ u ∈ hs, u.oneCell' = true := by
          intro u hu
          obtain ⟨i, hi⟩ := List.mem_iff_getElem?.1 hu
          obtain ⟨Ai, ci, x, _⟩ := hH0.2.1 i (by rw [← hH0.1]; exact (List.getElem?_eq_some_iff.1 hi).1)
          have e : u = _ := Option.some.inj (hi.symm.trans x)
          rw [e]
          rfl
        have HS1 := Lib.hid (fun k => show ∀ u ∈ hs.take k, u.oneCell' = true from fun u hu => hone u (List.mem_of_mem_take hu))
        have HS2 := Lib.hid (fun k => show ∀ u ∈ hs.drop k, u.oneCell' = true from fun u hu => hone u (List.mem_of_mem_drop hu))
        have HH := Lib.hid hH0
        have HCL := Lib.hid (fun w' v Q hi' h1 h2 h3 => hcl w' v Q hi' h1 h2 h3)
        have Hml := Lib.hid hml
        have hnl := HN.out
        have hcp1 : S.length ≤ d2' ∧ d2' ≤ 9223372036854775807 := by rw [hml] at hcp; exact hcp
        have dn1 : IntKind.i64.wrap ((n : Int) + 1) = (n1 : Int) := by rw [IntWalk.i64_in _ (by omega)]; omega
        have ia1 : (0 : Int) ≤ (n1 : Int) := by omega
        have ia2 : (n1 : Int) ≤ (S.length : Int) := by omega
        have ia3 : (S.length : Int) ≤ (d2' : Int) := by omega
        have ia4 : (n : Int) ≤ (d2' : Int) := by omega
        have ib1 : n ≤ d2' := by omega
        have ib2 : n1 ≤ S.length := by omega
        have HE1 := Lib.hid hn1'
        have hnb : n ≤ hs.length := by omega
        have hsq : hs.length ≤ S.length ∧ S.length ≤ hs.length := by omega
        have hsl' := Lib.hid hsl
        have hsb : hs.length ≤ 1048576 := by omega
        obtain ⟨y0, y1, y2, y3⟩ := KM5.out.two
        clear hcl hne OM' hml hrd hone hcp hH0 ho0 hn1' hsl
        go_wp2
        refine wp_region_Z (fun w' : World => w'.cell? ⟨w2.heap.size, 1, none⟩ = some (.slice (some ⟨gB, 0, none⟩) S.length d2')) 13 (by kernel_rfl) ?_
        generalize hv0 : wr.drew = u0
        have BB := Lib.hid (show Below wr.heap.size wr u0 by rw [← hv0]; exact (Below.refl _ _).drew)
        clear hv0
        refine wpAnyZ_take (i := 1) (oi := ?o85) (v := ?v85) ?hi85 (by kernel_rfl) (by kernel_rfl) (by kernel_rfl) (by kernel_rfl) ?hq85 ?hy85 (cell_keep y1 BB.out) ?rest85
        case hi85 => simp only [List.getElem?_toArray, List.getElem?_cons_succ, List.getElem?_cons_zero]; rfl
        case hq85 => exact fun _ _ _ h => h
        case hy85 => (refine Or.inl ⟨by rfl, ?_⟩; intro w hSw; (try dsimp only at hSw); go_simp; (try with_reducible rfl))
        simp only [Act.put, List.setIfInBounds_toArray, List.set_cons_zero, List.set_cons_succ]
        refine wpAnyZ_take (i := 2) (oi := ?o86) (v := ?v86) ?hi86 (by kernel_rfl) (by kernel_rfl) (by kernel_rfl) (by kernel_rfl) ?hq86 ?hy86 (cell_keep y1 BB.out) ?rest86
        case hi86 => simp only [List.getElem?_toArray, List.getElem?_cons_succ, List.getElem?_cons_zero]; rfl
        case hq86 => exact fun _ _ _ h => h
        case hy86 => (refine Or.inl ⟨by rfl, ?_⟩; intro w hSw; (try dsimp only at hSw); go_simp; (try with_reducible rfl))
        simp only [Act.put, List.setIfInBounds_toArray, List.set_cons_zero, List.set_cons_succ]
        refine wpAnyZ_take (i := 3) (oi := ?o87) (v := ?v87) ?hi87 (by kernel_rfl) (by kernel_rfl) (by kernel_rfl) (by kernel_rfl) ?hq87 ?hy87 (cell_keep y1 BB.out) ?rest87
        case hi87 => simp only [List.getElem?_toArray, List.getElem?_cons_succ, List.getElem?_cons_zero]; rfl
        case hq87 => exact fun _ _ _ h => h
        case hy87 => (refine Or.inl ⟨by rfl, ?_⟩; intro w hSw; (try dsimp only at hSw); go_simp; (try with_reducible rfl))
        simp only [Act.put, List.setIfInBounds_toArray, List.set_cons_zero, List.set_cons_succ]
        refine wpAnyZ_take (i := 4) (oi := ?o88) (v := ?v88) ?hi88 (by kernel_rfl) (by kernel_rfl) (by kernel_rfl) (by kernel_rfl) ?hq88 ?hy88 (cell_keep y1 BB.out) ?rest88
        case hi88 => simp only [List.getElem?_toArray, List.getElem?_cons_succ, List.getElem?_cons_zero]; rfl
        case hq88 => exact fun _ _ _ h => h
        case hy88 => (refine Or.inl ⟨by rfl, ?_⟩; intro w hSw; (try dsimp only at hSw); go_simp; (try with_reducible rfl))
        simp only [Act.put, List.setIfInBounds_toArray, List.set_cons_zero, List.set_cons_succ]
        refine wpAnyZ_take (i := 6) (oi := ?o89) (v := ?v89) ?hi89 (by kernel_rfl) (by kernel_rfl) (by kernel_rfl) (by kernel_rfl) ?hq89 ?hy89 (cell_keep y1 BB.out) ?rest89
        case hi89 => simp only [List.getElem?_toArray, List.getElem?_cons_succ, List.getElem?_cons_zero]; rfl
        case hq89 => exact fun _ _ _ h => h
        case hy89 => (refine Or.inl ⟨by rfl, ?_⟩; intro w hSw; (try dsimp only at hSw); go_simp; (try with_reducible rfl))
        simp only [Act.put, List.setIfInBounds_toArray, List.set_cons_zero, List.set_cons_succ]
        refine wpAnyZ_take (i := 7) (oi := ?o90) (v := ?v90) ?hi90 (by kernel_rfl) (by kernel_rfl) (by kernel_rfl) (by kernel_rfl) ?hq90 ?hy90 (cell_keep y1 BB.out) ?rest90
        case hi90 => simp only [List.getElem?_toArray, List.getElem?_cons_succ, List.getElem?_cons_zero]; rfl
        case hq90 => exact fun _ _ _ h => h
        case hy90 => (refine Or.inl ⟨by rfl, ?_⟩; intro w hSw; (try dsimp only at hSw); go_simp; (try with_reducible rfl))
        simp only [Act.put, List.setIfInBounds_toArray, List.set_cons_zero, List.set_cons_succ]
        refine wpAnyZ_take (i := 8) (oi := ?o91) (v := ?v91) ?hi91 (by kernel_rfl) (by kernel_rfl) (by kernel_rfl) (by kernel_rfl) ?hq91 ?hy91 (cell_keep y1 BB.out) ?rest91
        case hi91 => simp only [List.getElem?_toArray, List.getElem?_cons_succ, List.getElem?_cons_zero]; rfl
        case hq91 => exact fun _ _ _ h => h
        case hy91 => (refine Or.inl ⟨by rfl, ?_⟩; intro w hSw; (try dsimp only at hSw); go_simp; (try with_reducible rfl))
        simp only [Act.put, List.setIfInBounds_toArray, List.set_cons_zero, List.set_cons_succ]
        refine wpAnyZ_take (i := 9) (oi := ?o92) (v := ?v92) ?hi92 (by kernel_rfl) (by kernel_rfl) (by kernel_rfl) (by kernel_rfl) ?hq92 ?hy92 (cell_keep y1 BB.out) ?rest92
        case hi92 => simp only [List.getElem?_toArray, List.getElem?_cons_succ, List.getElem?_cons_zero]; rfl
        case hq92 => exact fun _ _ _ h => h
        case hy92 => (refine Or.inl ⟨by rfl, ?_⟩; intro w hSw; (try dsimp only at hSw); go_simp; (try with_reducible rfl))
        simp only [Act.put, List.setIfInBounds_toArray, List.set_cons_zero, List.set_cons_succ]
        refine wpAnyZ_take (i := 10) (oi := ?o93) (v := ?v93) ?hi93 (by kernel_rfl) (by kernel_rfl) (by kernel_rfl) (by kernel_rfl) ?hq93 ?hy93 (cell_keep y1 BB.out) ?rest93
        case hi93 => simp only [List.getElem?_toArray, List.getElem?_cons_succ, List.getElem?_cons_zero]; rfl
        case hq93 => exact fun _ _ _ h => h
        case hy93 => (refine Or.inl ⟨by rfl, ?_⟩; intro w hSw; (try dsimp only at hSw); go_simp; (try with_reducible rfl))
        simp only [Act.put, List.setIfInBounds_toArray, List.set_cons_zero, List.set_cons_succ]
        refine wpAnyZ_one (i := 0) (o := ?o94) (by kernel_rfl) ?hi94 (fun K hK => ?rest94)
        case hi94 => simp only [List.getElem?_toArray, List.getElem?_cons_succ, List.getElem?_cons_zero]; rfl
        go_simp
        have BBn := b_alloc BB.out (.cells #[] 45)
        have OBn := Lib.hid (World.ownsRow_lit (e := 45) (size := 1) (base := wr.heap.size) u0 #[] 0 BB.out.size (by simp [maxLen]) (by simp))
        refine hK.out _ _ (.inr ?hs94) ?more94
        case hs94 => exact (cell_keep y1 BBn)
        clear hK K
        (try simp only [Act.put, List.setIfInBounds_toArray, List.set_cons_zero, List.set_cons_succ])
        clear BB
        have BB := Lib.hid BBn
        clear BBn
        generalize hvv : u0.alloc (.cells #[] 45) = u2 at *
        clear hvv
        refine wpAnyZ_one (i := 5) (o := ?o95) (by kernel_rfl) ?hi95 (fun K hK => ?rest95)
        case hi95 => simp only [List.getElem?_toArray, List.getElem?_cons_succ, List.getElem?_cons_zero]; rfl
        refine step_append_r _ (by rfl) (.tmp 74) (.tmp 78) 27 (by rfl) wr.heap.size 45 i1 (.slice none 0 0) 1 24 Try.underlying27 hi1 hy0 hy1 hy2 rfl (by decide) _ 0 [] OBn.out ?_ (some ⟨gB, 0, none⟩) n d2' (hs.take n) (RD1.out.below BB.out) (by simp [Act.eval, Act.put] <;> fail) (by rw [List.length_take]; omega) (HS1.out n) (by simp only [maxLen]; omega) (by omega) BB.out.size ?_
        simp [Act.eval, Act.put]
        intro v5 w5 o5 g5 n5
        rw [Nat.zero_add] at o5
        obtain ⟨A5, c5, rfl⟩ := own_slice o5
        have BBn := Below.grown BB.out g5 BB.out.size (fun k hk => (OBn.out.lt k hk).1)
        have O5 := Lib.hid o5
        refine hK.out _ _ (.inr ?hs95) ?more95
        case hs95 => exact (cell_keep y1 BBn)
        clear hK K
        (try simp only [Act.put, List.setIfInBounds_toArray, List.set_cons_zero, List.set_cons_succ])
        clear BB OBn o5 g5 n5
        have BB := Lib.hid BBn
        clear BBn
        refine wpAnyZ_one (i := 11) (o := ?o96) (by kernel_rfl) ?hi96 (fun K hK => ?rest96)
        case hi96 => simp only [List.getElem?_toArray, List.getElem?_cons_succ, List.getElem?_cons_zero]; rfl
        refine step_append_r _ (by rfl) (.tmp 79) (.tmp 84) 27 (by rfl) wr.heap.size 45 i1 (.slice none 0 0) 1 24 Try.underlying27 hi1 hy0 hy1 hy2 rfl (by decide) _ n (hs.take n) O5.out ?_ (if d2' = n1 then some ⟨gB, 0, none⟩ else some ⟨gB, n1, none⟩) (S.length - n1) (d2' - n1) (hs.drop n1) (RD2.out.below BB.out) (by simp [Act.eval, Act.put] <;> fail) (by rw [List.length_drop]; omega) (HS2.out n1) (by simp only [maxLen]; omega) (by omega) BB.out.size ?_
        simp [Act.eval, Act.put]
        intro v6 w6 o6 g6 n6
        obtain ⟨A6, c6, rfl⟩ := own_slice o6
        have BBn := Below.grown BB.out g6 BB.out.size (fun k hk => (O5.out.lt k hk).1)
        have O6 := Lib.hid o6
        refine hK.out _ _ (.inr ?hs96) ?more96
        case hs96 => exact (cell_keep y1 BBn)
        clear hK K
        (try simp only [Act.put, List.setIfInBounds_toArray, List.set_cons_zero, List.set_cons_succ])
        clear BB O5 o6 g6 n6
        have BB := Lib.hid BBn
        clear BBn
        have L5 := Lib.hid (blk_below BB.out KM5.out KM5.out.lt)
        have L6 := Lib.hid (blk_below BB.out KM6.out KM6.out.lt)
        obtain ⟨a0, a1, a2, a3⟩ := L5.out.two
        refine wpAnyZ_take (i := 12) (oi := ?o97) (v := ?v97) ?hi97 (by kernel_rfl) (by kernel_rfl) (by kernel_rfl) (by kernel_rfl) ?hq97 ?hy97 (cell_keep y1 BB.out) ?rest97
        case hi97 => simp only [List.getElem?_toArray, List.getElem?_cons_succ, List.getElem?_cons_zero]; rfl
        case hq97 => exact fun _ _ _ h => h
        case hy97 => (refine Or.inl ⟨by rfl, ?_⟩; intro w hSw; (try dsimp only at hSw); go_simp; (try with_reducible rfl))
        simp only [Act.put, List.setIfInBounds_toArray, List.set_cons_zero, List.set_cons_succ]
        refine wpAnyZ_one (i := 13) (o := ?o98) (by kernel_rfl) ?hi98 (fun K hK => ?rest98)
        case hi98 => simp only [List.getElem?_toArray, List.getElem?_cons_succ, List.getElem?_cons_zero]; rfl
        go_simp
        refine hK.out _ _ (.inl rfl) ?_
        clear hK K
        (try simp only [Act.put, List.setIfInBounds_toArray, List.set_cons_zero, List.set_cons_succ])
        refine wpAnyZ_done (by kernel_rfl) ?_ _
        have hel : (M.eraseIdx n).length = S.length - 1 := by rw [List.length_eraseIdx_of_lt (by rw [Hml.out]; omega), Hml.out]
        have he1 := HE1.out
        have hlen : n + (S.length - n1) = S.length - 1 := by omega
        have O7 : w6.ownsRow wr.heap.size 45 1 (.slice A6 (S.length - 1) c6) (S.length - 1) (hs.eraseIdx n) := by
          have := O6.out
          rw [hlen, he1, ← List.eraseIdx_eq_take_drop_succ] at this
          exact this
        have hzz := BB.out.size
        have hrow : RowsS mid w6.heap.size w6 (.slice A6 (M.eraseIdx n).length c6) (M.eraseIdx n) :=
          HH.out.erase (n := n) (by rw [Hml.out]; omega) (by rw [Hml.out]; exact own_mono O7 (by omega)) (fun g hg => (O7.lt g (by rw [Hml.out] at hg; exact hg)).2) (fun a ha g hg hg2 => by have h1 := (O7.lt g (by rw [Hml.out] at hg; exact hg)).1; have h2 := (HH.out.mem ha hg2).2.1; omega) (by omega) (fun a ha g hg => BB.out.block g (HH.out.mem ha hg).2.1)
        have hO9 : VolO w1.heap.size w6.heap.size w6 (.agg #[.slice A2 N.length c2, .slice A6 (S.length - 1) c6]) N (M.eraseIdx n) := by
          have := HCL.out w6 _ (M.eraseIdx n) w6.heap.size hrow (by omega) (fun k hk hk2 => BB.out.block k hk2)
          rwa [hel] at this
        obtain ⟨t5, t6, hv9, hb9⟩ := vx_tail (CM.out.trans (BB.out.mono CM.out.size)) (show w.heap.size ≤ w1.heap.size by omega) (Nat.le_refl _) L5.out L6.out (by omega) hO9
        have hfin := Lib.hid (hyes.out _ _ hv9 hb9)
        obtain ⟨b0, b1, b2, b3⟩ := t5.two
        obtain ⟨f0, f1, f2, f3⟩ := t6.two
        rw [hlen]
        clear hv9 hb9 t5 t6 hO9 hrow O7 O6 BB HH HCL hyes KM5 KM6 CM y0 y1 y2 y3 hel L5 L6 a0 a1 a2 a3 RD1 RD2 HS1 HS2
        go_wp2
        all_goals exact bodyPost_ret (v := .agg #[.slice A2 N.length c2, .slice A6 (S.length - 1) c6]) (by simp [results, Try.results23, go_sem, f0, f1]) rfl hfin.out
  · obtain ⟨i, hi⟩ : ∃ i, n = i + 1 := ⟨n - 1, by omega⟩
    have dn : IntKind.i64.wrap ((n : Int) - 1) = (i : Int) := by rw [IntWalk.i64_in _ (by omega)]; omega
    have ix3 : (0 : Int) ≤ (i : Int) := by omega
    have ix4 : (i : Int) < (S.length : Int) := by have := HN.out; omega
    have hiS : i < S.length := by have := HN.out; omega
    have hg0 : (0 : Int) < (n : Int) := by omega
    have HI := Lib.hid hi
    obtain ⟨p0, hp0⟩ : ∃ p0, p0 = S[i] := ⟨_, rfl⟩
    have hpl := sumN_get hiS
    rw [← hp0] at hpl
    have hset0 : S.set i p0 = S := by rw [hp0]; exact List.set_getElem_self hiS
    have hM := Lib.hid (show S.set i (mergeS p0 r) = dropM S n from by
      have e1 : S.getD (n - 1) [] = p0 := by rw [hp0, List.getD_eq_getElem?_getD, show n - 1 = i by omega, List.getElem?_eq_getElem hiS]; rfl
      have e2 : S.getD n [] = r := H0.out
      unfold dropM
      rw [if_pos hz, e1, e2, show n - 1 = i by omega])
    have O4 := Lib.hid (show VolO w1.heap.size (w2.alloc (.cells #[.slice A2 N.length c2, .slice (some ⟨gB, 0, none⟩) S.length d2'] 29)).heap.size (w2.alloc (.cells #[.slice A2 N.length c2, .slice (some ⟨gB, 0, none⟩) S.length d2'] 29)) (.agg #[.slice A2 N.length c2, .slice (some ⟨gB, 0, none⟩) S.length d2']) N (S.set i p0) by rw [hset0]; exact O3.out.mono (Nat.le_refl _) (by omega))
    clear hi hp0 hset0 O3
    go_wp2
    generalize hx3 : w2.alloc (.cells #[.slice A2 N.length c2, .slice (some ⟨gB, 0, none⟩) S.length d2'] 29) = x3 at *
    clear hx3 y0 y1 y2 y3
    go_loopw [6] (fun y wr => ∃ (j : Nat) (p : List Sv), j ≤ r.length ∧ y = .int .i64 j ∧ p.length ≤ p0.length + j ∧ Hid (mergeS p (r.drop j) = mergeS p0 r) ∧ Hid (VolO w1.heap.size wr.heap.size wr (.agg #[.slice A2 N.length c2, .slice (some ⟨gB, 0, none⟩) S.length d2']) N (S.set i p)) ∧ Hid (Blk wr w2.heap.size 29 #[.slice A2 N.length c2, .slice (some ⟨gB, 0, none⟩) S.length d2']) ∧ Hid (Blk wr (w.heap.size + 1) 29 #[.slice none 0 0, .slice none 0 0]) ∧ Hid (Below w.heap.size w wr)) (fun y _ => r.length - (intOf y).toNat)
    case atStart => exact ⟨0, p0, Nat.zero_le _, rfl, by omega, by show mergeS p0 (r.drop 0) = _; rfl, O4, k4, k1', C2⟩
    case round =>
      clear O4 k4 k1' C2
      obtain ⟨j, p, hj, rfl, hpj, hmr, hO, q5, q6, hBw⟩ := hrel
      obtain ⟨g0, mid, Ai, ci, e0, m1, m2, m3, m4, m5, cH, oH, hne0, fr0, hrows, hgr⟩ := vol_rowAt hO.out hiS
      injection e0 with e0
      injection e0 with e0 _
      subst e0
      obtain ⟨An, cn, cN0, rdN, _, hapN0⟩ := hrows n HN.out (by have := HI.out; omega)
      rw [← HR'.out HN.out] at cN0 rdN hapN0
      have cN := cN0
      clear cN0 hrows
      obtain ⟨_, y1, _, _⟩ := q5.out.two
      by_cases hjt : j < r.length
      · obtain ⟨bR, oR, hAn, hc⟩ := SavedIn.of rdN (by omega)
        subst hAn
        obtain ⟨c1, c2'⟩ := hc j hjt
        have hms := hmr.out
        rw [mergeS_step hjt] at hms
        obtain ⟨⟨f, z⟩, hfn⟩ : ∃ q : Sv, q = r[j] := ⟨_, rfl⟩
        rw [← hfn] at c1 c2' hms
        simp only at c1 c2' hms
        have hapR := Lib.hid (hapN0 bR oR rfl (by omega))
        have HGR := Lib.hid hgr
        have hne := Lib.hid hne0
        have HMS := Lib.hid hms
        have hOH := Lib.hid oH
        have hfr := Lib.hid fr0
        have hzw := hBw.out.size
        have ix5 : (0 : Int) ≤ (j : Int) := by omega
        have ix6 : (j : Int) < (r.length : Int) := by omega
        clear hc hfn hmr hapN0 hgr oH fr0 hne0 hms rdN
        have HSI := Lib.hid (SavedIn.of (own_read hOH.out))
        obtain ⟨q, hq⟩ : ∃ q, q = findS p f := ⟨_, rfl⟩
        have hq := Lib.hid hq
        go_wp2
        by_cases hq0 : q < 0
        · refine wp_region_Z (fun w' : World => w'.cell? ⟨w2.heap.size, 1, none⟩ = some (.slice (some ⟨gB, 0, none⟩) S.length d2') ∧ w'.cell? ⟨gB, i, none⟩ = some (.slice Ai p.length ci) ∧ w'.cell? ⟨gB, n, none⟩ = some (.slice (some ⟨bR, oR, none⟩) r.length cn) ∧ w'.cell? ⟨bR, oR + j * 2, none⟩ = some (.int .i64 f)) 99 (by kernel_rfl) ?_
          generalize hv0 : wr.drew = u0
          have BB := Lib.hid (show Below wr.heap.size wr u0 by rw [← hv0]; exact (Below.refl _ _).drew)
          clear hv0
          refine wpAnyZ_take (i := 0) (oi := ?o1) (v := ?v1) ?hi1 (by kernel_rfl) (by kernel_rfl) (by kernel_rfl) (by kernel_rfl) ?hq1 ?hy1 ⟨cell_keep y1 BB.out, cell_keep cH BB.out, cell_keep cN BB.out, cell_keep c1 BB.out⟩ ?rest1
          case hi1 => simp only [List.getElem?_toArray, List.getElem?_cons_succ, List.getElem?_cons_zero]; rfl
          case hq1 => exact fun _ _ _ h => h
          case hy1 => (refine Or.inl ⟨by rfl, ?_⟩; intro w hSw; (try dsimp only at hSw); go_simp; (try with_reducible rfl))
          simp only [Act.put, List.setIfInBounds_toArray, List.set_cons_zero, List.set_cons_succ]
          refine wpAnyZ_take (i := 1) (oi := ?o2) (v := ?v2) ?hi2 (by kernel_rfl) (by kernel_rfl) (by kernel_rfl) (by kernel_rfl) ?hq2 ?hy2 ⟨cell_keep y1 BB.out, cell_keep cH BB.out, cell_keep cN BB.out, cell_keep c1 BB.out⟩ ?rest2
          case hi2 => simp only [List.getElem?_toArray, List.getElem?_cons_succ, List.getElem?_cons_zero]; rfl
          case hq2 => exact fun _ _ _ h => h
          case hy2 => (refine Or.inl ⟨by rfl, ?_⟩; intro w hSw; (try dsimp only at hSw); go_simp; (try with_reducible rfl))
          simp only [Act.put, List.setIfInBounds_toArray, List.set_cons_zero, List.set_cons_succ]
          refine wpAnyZ_take (i := 2) (oi := ?o3) (v := ?v3) ?hi3 (by kernel_rfl) (by kernel_rfl) (by kernel_rfl) (by kernel_rfl) ?hq3 ?hy3 ⟨cell_keep y1 BB.out, cell_keep cH BB.out, cell_keep cN BB.out, cell_keep c1 BB.out⟩ ?rest3
          case hi3 => simp only [List.getElem?_toArray, List.getElem?_cons_succ, List.getElem?_cons_zero]; rfl
          case hq3 => exact fun _ _ _ h => h
          case hy3 => (refine Or.inl ⟨by rfl, ?_⟩; intro w hSw; (try dsimp only at hSw); go_simp; (try with_reducible rfl))
          simp only [Act.put, List.setIfInBounds_toArray, List.set_cons_zero, List.set_cons_succ]
          refine wpAnyZ_take (i := 3) (oi := ?o4) (v := ?v4) ?hi4 (by kernel_rfl) (by kernel_rfl) (by kernel_rfl) (by kernel_rfl) ?hq4 ?hy4 ⟨cell_keep y1 BB.out, cell_keep cH BB.out, cell_keep cN BB.out, cell_keep c1 BB.out⟩ ?rest4
          case hi4 => simp only [List.getElem?_toArray, List.getElem?_cons_succ, List.getElem?_cons_zero]; rfl
          case hq4 => exact fun _ _ _ h => h
          case hy4 => (refine Or.inl ⟨by rfl, ?_⟩; intro w hSw; (try dsimp only at hSw); go_simp; (try with_reducible rfl))
          simp only [Act.put, List.setIfInBounds_toArray, List.set_cons_zero, List.set_cons_succ]
          refine wpAnyZ_take (i := 4) (oi := ?o5) (v := ?v5) ?hi5 (by kernel_rfl) (by kernel_rfl) (by kernel_rfl) (by kernel_rfl) ?hq5 ?hy5 ⟨cell_keep y1 BB.out, cell_keep cH BB.out, cell_keep cN BB.out, cell_keep c1 BB.out⟩ ?rest5
          case hi5 => simp only [List.getElem?_toArray, List.getElem?_cons_succ, List.getElem?_cons_zero]; rfl
          case hq5 => exact fun _ _ _ h => h
          case hy5 => (refine Or.inl ⟨by rfl, ?_⟩; intro w hSw; (try dsimp only at hSw); go_simp; (try with_reducible rfl))
          simp only [Act.put, List.setIfInBounds_toArray, List.set_cons_zero, List.set_cons_succ]
          refine wpAnyZ_take (i := 5) (oi := ?o6) (v := ?v6) ?hi6 (by kernel_rfl) (by kernel_rfl) (by kernel_rfl) (by kernel_rfl) ?hq6 ?hy6 ⟨cell_keep y1 BB.out, cell_keep cH BB.out, cell_keep cN BB.out, cell_keep c1 BB.out⟩ ?rest6
          case hi6 => simp only [List.getElem?_toArray, List.getElem?_cons_succ, List.getElem?_cons_zero]; rfl
          case hq6 => exact fun _ _ _ h => h
          case hy6 => (refine Or.inl ⟨by rfl, ?_⟩; intro w hSw; (try dsimp only at hSw); go_simp; (try with_reducible rfl))
          simp only [Act.put, List.setIfInBounds_toArray, List.set_cons_zero, List.set_cons_succ]
          refine wpAnyZ_take (i := 6) (oi := ?o7) (v := ?v7) ?hi7 (by kernel_rfl) (by kernel_rfl) (by kernel_rfl) (by kernel_rfl) ?hq7 ?hy7 ⟨cell_keep y1 BB.out, cell_keep cH BB.out, cell_keep cN BB.out, cell_keep c1 BB.out⟩ ?rest7
          case hi7 => simp only [List.getElem?_toArray, List.getElem?_cons_succ, List.getElem?_cons_zero]; rfl
          case hq7 => exact fun _ _ _ h => h
          case hy7 => (refine Or.inl ⟨by rfl, ?_⟩; intro w hSw; (try dsimp only at hSw); go_simp; (try with_reducible rfl))
          simp only [Act.put, List.setIfInBounds_toArray, List.set_cons_zero, List.set_cons_succ]
          refine wpAnyZ_take (i := 7) (oi := ?o8) (v := ?v8) ?hi8 (by kernel_rfl) (by kernel_rfl) (by kernel_rfl) (by kernel_rfl) ?hq8 ?hy8 ⟨cell_keep y1 BB.out, cell_keep cH BB.out, cell_keep cN BB.out, cell_keep c1 BB.out⟩ ?rest8
          case hi8 => simp only [List.getElem?_toArray, List.getElem?_cons_succ, List.getElem?_cons_zero]; rfl
          case hq8 => exact fun _ _ _ h => h
          case hy8 => (refine Or.inl ⟨by rfl, ?_⟩; intro w hSw; (try dsimp only at hSw); go_simp; (try with_reducible rfl))
          simp only [Act.put, List.setIfInBounds_toArray, List.set_cons_zero, List.set_cons_succ]
          refine wpAnyZ_take (i := 8) (oi := ?o9) (v := ?v9) ?hi9 (by kernel_rfl) (by kernel_rfl) (by kernel_rfl) (by kernel_rfl) ?hq9 ?hy9 ⟨cell_keep y1 BB.out, cell_keep cH BB.out, cell_keep cN BB.out, cell_keep c1 BB.out⟩ ?rest9
          case hi9 => simp only [List.getElem?_toArray, List.getElem?_cons_succ, List.getElem?_cons_zero]; rfl
          case hq9 => exact fun _ _ _ h => h
          case hy9 => (refine Or.inl ⟨by rfl, ?_⟩; intro w hSw; (try dsimp only at hSw); go_simp; (try with_reducible rfl))
          simp only [Act.put, List.setIfInBounds_toArray, List.set_cons_zero, List.set_cons_succ]
          refine wpAnyZ_take (i := 9) (oi := ?o10) (v := ?v10) ?hi10 (by kernel_rfl) (by kernel_rfl) (by kernel_rfl) (by kernel_rfl) ?hq10 ?hy10 ⟨cell_keep y1 BB.out, cell_keep cH BB.out, cell_keep cN BB.out, cell_keep c1 BB.out⟩ ?rest10
          case hi10 => simp only [List.getElem?_toArray, List.getElem?_cons_succ, List.getElem?_cons_zero]; rfl
          case hq10 => exact fun _ _ _ h => h
          case hy10 => (refine Or.inl ⟨by rfl, ?_⟩; intro w hSw; (try dsimp only at hSw); go_simp; (try with_reducible rfl))
          simp only [Act.put, List.setIfInBounds_toArray, List.set_cons_zero, List.set_cons_succ]
          refine wpAnyZ_take (i := 10) (oi := ?o11) (v := ?v11) ?hi11 (by kernel_rfl) (by kernel_rfl) (by kernel_rfl) (by kernel_rfl) ?hq11 ?hy11 ⟨cell_keep y1 BB.out, cell_keep cH BB.out, cell_keep cN BB.out, cell_keep c1 BB.out⟩ ?rest11
          case hi11 => simp only [List.getElem?_toArray, List.getElem?_cons_succ, List.getElem?_cons_zero]; rfl
          case hq11 => exact fun _ _ _ h => h
          case hy11 => (refine Or.inl ⟨by rfl, ?_⟩; intro w hSw; (try dsimp only at hSw); go_simp; (try with_reducible rfl))
          simp only [Act.put, List.setIfInBounds_toArray, List.set_cons_zero, List.set_cons_succ]
          refine wpAnyZ_take (i := 11) (oi := ?o12) (v := ?v12) ?hi12 (by kernel_rfl) (by kernel_rfl) (by kernel_rfl) (by kernel_rfl) ?hq12 ?hy12 ⟨cell_keep y1 BB.out, cell_keep cH BB.out, cell_keep cN BB.out, cell_keep c1 BB.out⟩ ?rest12
          case hi12 => simp only [List.getElem?_toArray, List.getElem?_cons_succ, List.getElem?_cons_zero]; rfl
          case hq12 => exact fun _ _ _ h => h
          case hy12 => (refine Or.inl ⟨by rfl, ?_⟩; intro w hSw; (try dsimp only at hSw); go_simp; (try with_reducible rfl))
          simp only [Act.put, List.setIfInBounds_toArray, List.set_cons_zero, List.set_cons_succ]
          refine wpAnyZ_take (i := 12) (oi := ?o13) (v := ?v13) ?hi13 (by kernel_rfl) (by kernel_rfl) (by kernel_rfl) (by kernel_rfl) ?hq13 ?hy13 ⟨cell_keep y1 BB.out, cell_keep cH BB.out, cell_keep cN BB.out, cell_keep c1 BB.out⟩ ?rest13
          case hi13 => simp only [List.getElem?_toArray, List.getElem?_cons_succ, List.getElem?_cons_zero]; rfl
          case hq13 => exact fun _ _ _ h => h
          case hy13 => (refine Or.inl ⟨by rfl, ?_⟩; intro w hSw; (try dsimp only at hSw); go_simp; (try with_reducible rfl))
          simp only [Act.put, List.setIfInBounds_toArray, List.set_cons_zero, List.set_cons_succ]
          refine wpAnyZ_take (i := 13) (oi := ?o14) (v := ?v14) ?hi14 (by kernel_rfl) (by kernel_rfl) (by kernel_rfl) (by kernel_rfl) ?hq14 ?hy14 ⟨cell_keep y1 BB.out, cell_keep cH BB.out, cell_keep cN BB.out, cell_keep c1 BB.out⟩ ?rest14
          case hi14 => simp only [List.getElem?_toArray, List.getElem?_cons_succ, List.getElem?_cons_zero]; rfl
          case hq14 => exact fun _ _ _ h => h
          case hy14 => (refine Or.inl ⟨by rfl, ?_⟩; intro w hSw; (try dsimp only at hSw); go_simp; (try with_reducible rfl))
          simp only [Act.put, List.setIfInBounds_toArray, List.set_cons_zero, List.set_cons_succ]
          refine wpAnyZ_take (i := 14) (oi := ?o15) (v := ?v15) ?hi15 (by kernel_rfl) (by kernel_rfl) (by kernel_rfl) (by kernel_rfl) ?hq15 ?hy15 ⟨cell_keep y1 BB.out, cell_keep cH BB.out, cell_keep cN BB.out, cell_keep c1 BB.out⟩ ?rest15
          case hi15 => simp only [List.getElem?_toArray, List.getElem?_cons_succ, List.getElem?_cons_zero]; rfl
          case hq15 => exact fun _ _ _ h => h
          case hy15 => (refine Or.inl ⟨by rfl, ?_⟩; intro w hSw; (try dsimp only at hSw); go_simp; (try with_reducible rfl))
          simp only [Act.put, List.setIfInBounds_toArray, List.set_cons_zero, List.set_cons_succ]
          refine wpAnyZ_one (i := 15) (o := ?o16) (by kernel_rfl) ?hi16 (fun K hK => ?rest16)
          case hi16 => simp only [List.getElem?_toArray, List.getElem?_cons_succ, List.getElem?_cons_zero]; rfl
          go_simp
          go_at_call 52; refine (specFind_any Ai ci p f u0 (HSI.out.below BB.out) (by omega)).mono ?_; rintro e w' ⟨rfl, rfl⟩; rw [← hq.out]; (try dsimp only)
          refine hK.out _ _ (.inr ⟨cell_keep y1 BB.out, cell_keep cH BB.out, cell_keep cN BB.out, cell_keep c1 BB.out⟩) ?_
          clear hK K
          (try simp only [Act.put, List.setIfInBounds_toArray, List.set_cons_zero, List.set_cons_succ])
          refine wpAnyZ_take (i := 16) (oi := ?o17) (v := ?v17) ?hi17 (by kernel_rfl) (by kernel_rfl) (by kernel_rfl) (by kernel_rfl) ?hq17 ?hy17 ⟨cell_keep y1 BB.out, cell_keep cH BB.out, cell_keep cN BB.out, cell_keep c1 BB.out⟩ ?rest17
          case hi17 => simp only [List.getElem?_toArray, List.getElem?_cons_succ, List.getElem?_cons_zero]; rfl
          case hq17 => exact fun _ _ _ h => h
          case hy17 => (refine Or.inl ⟨by rfl, ?_⟩; intro w hSw; (try dsimp only at hSw); go_simp; (try with_reducible rfl))
          simp only [Act.put, List.setIfInBounds_toArray, List.set_cons_zero, List.set_cons_succ]
          refine wpAnyZ_done (by kernel_rfl) ?_ _
          go_wp2
          refine wp_region_Z (fun w' : World => w'.cell? ⟨w2.heap.size, 1, none⟩ = some (.slice (some ⟨gB, 0, none⟩) S.length d2') ∧ w'.cell? ⟨gB, i, none⟩ = some (.slice Ai p.length ci) ∧ w'.cell? ⟨gB, n, none⟩ = some (.slice (some ⟨bR, oR, none⟩) r.length cn) ∧ w'.cell? ⟨bR, oR + j * 2, none⟩ = some (.int .i64 f) ∧ w'.cell? ⟨bR, oR + j * 2 + 1, none⟩ = some (.int .i64 z)) 21 (by kernel_rfl) ?_
          generalize hv0 : u0.drew = u2
          have BB2 := Lib.hid (show Below wr.heap.size wr u2 by rw [← hv0]; exact b_drew BB.out)
          clear hv0 BB
          have BB := BB2
          clear BB2
          refine wpAnyZ_take (i := 0) (oi := ?o18) (v := ?v18) ?hi18 (by kernel_rfl) (by kernel_rfl) (by kernel_rfl) (by kernel_rfl) ?hq18 ?hy18 ⟨cell_keep y1 BB.out, cell_keep cH BB.out, cell_keep cN BB.out, cell_keep c1 BB.out, cell_keep c2' BB.out⟩ ?rest18
          case hi18 => simp only [List.getElem?_toArray, List.getElem?_cons_succ, List.getElem?_cons_zero]; rfl
          case hq18 => exact fun _ _ _ h => h
          case hy18 => (refine Or.inl ⟨by rfl, ?_⟩; intro w hSw; (try dsimp only at hSw); go_simp; (try with_reducible rfl))
          simp only [Act.put, List.setIfInBounds_toArray, List.set_cons_zero, List.set_cons_succ]
          refine wpAnyZ_take (i := 1) (oi := ?o19) (v := ?v19) ?hi19 (by kernel_rfl) (by kernel_rfl) (by kernel_rfl) (by kernel_rfl) ?hq19 ?hy19 ⟨cell_keep y1 BB.out, cell_keep cH BB.out, cell_keep cN BB.out, cell_keep c1 BB.out, cell_keep c2' BB.out⟩ ?rest19
          case hi19 => simp only [List.getElem?_toArray, List.getElem?_cons_succ, List.getElem?_cons_zero]; rfl
          case hq19 => exact fun _ _ _ h => h
          case hy19 => (refine Or.inl ⟨by rfl, ?_⟩; intro w hSw; (try dsimp only at hSw); go_simp; (try with_reducible rfl))
          simp only [Act.put, List.setIfInBounds_toArray, List.set_cons_zero, List.set_cons_succ]
          refine wpAnyZ_take (i := 2) (oi := ?o20) (v := ?v20) ?hi20 (by kernel_rfl) (by kernel_rfl) (by kernel_rfl) (by kernel_rfl) ?hq20 ?hy20 ⟨cell_keep y1 BB.out, cell_keep cH BB.out, cell_keep cN BB.out, cell_keep c1 BB.out, cell_keep c2' BB.out⟩ ?rest20
          case hi20 => simp only [List.getElem?_toArray, List.getElem?_cons_succ, List.getElem?_cons_zero]; rfl
          case hq20 => exact fun _ _ _ h => h
          case hy20 => (refine Or.inl ⟨by rfl, ?_⟩; intro w hSw; (try dsimp only at hSw); go_simp; (try with_reducible rfl))
          simp only [Act.put, List.setIfInBounds_toArray, List.set_cons_zero, List.set_cons_succ]
          refine wpAnyZ_take (i := 3) (oi := ?o21) (v := ?v21) ?hi21 (by kernel_rfl) (by kernel_rfl) (by kernel_rfl) (by kernel_rfl) ?hq21 ?hy21 ⟨cell_keep y1 BB.out, cell_keep cH BB.out, cell_keep cN BB.out, cell_keep c1 BB.out, cell_keep c2' BB.out⟩ ?rest21
          case hi21 => simp only [List.getElem?_toArray, List.getElem?_cons_succ, List.getElem?_cons_zero]; rfl
          case hq21 => exact fun _ _ _ h => h
          case hy21 => (refine Or.inl ⟨by rfl, ?_⟩; intro w hSw; (try dsimp only at hSw); go_simp; (try with_reducible rfl))
          simp only [Act.put, List.setIfInBounds_toArray, List.set_cons_zero, List.set_cons_succ]
          refine wpAnyZ_take (i := 4) (oi := ?o22) (v := ?v22) ?hi22 (by kernel_rfl) (by kernel_rfl) (by kernel_rfl) (by kernel_rfl) ?hq22 ?hy22 ⟨cell_keep y1 BB.out, cell_keep cH BB.out, cell_keep cN BB.out, cell_keep c1 BB.out, cell_keep c2' BB.out⟩ ?rest22
          case hi22 => simp only [List.getElem?_toArray, List.getElem?_cons_succ, List.getElem?_cons_zero]; rfl
          case hq22 => exact fun _ _ _ h => h
          case hy22 => (refine Or.inl ⟨by rfl, ?_⟩; intro w hSw; (try dsimp only at hSw); go_simp; (try with_reducible rfl))
          simp only [Act.put, List.setIfInBounds_toArray, List.set_cons_zero, List.set_cons_succ]
          refine wpAnyZ_take (i := 5) (oi := ?o23) (v := ?v23) ?hi23 (by kernel_rfl) (by kernel_rfl) (by kernel_rfl) (by kernel_rfl) ?hq23 ?hy23 ⟨cell_keep y1 BB.out, cell_keep cH BB.out, cell_keep cN BB.out, cell_keep c1 BB.out, cell_keep c2' BB.out⟩ ?rest23
          case hi23 => simp only [List.getElem?_toArray, List.getElem?_cons_succ, List.getElem?_cons_zero]; rfl
          case hq23 => exact fun _ _ _ h => h
          case hy23 => (refine Or.inl ⟨by rfl, ?_⟩; intro w hSw; (try dsimp only at hSw); go_simp; (try with_reducible rfl))
          simp only [Act.put, List.setIfInBounds_toArray, List.set_cons_zero, List.set_cons_succ]
          refine wpAnyZ_take (i := 6) (oi := ?o24) (v := ?v24) ?hi24 (by kernel_rfl) (by kernel_rfl) (by kernel_rfl) (by kernel_rfl) ?hq24 ?hy24 ⟨cell_keep y1 BB.out, cell_keep cH BB.out, cell_keep cN BB.out, cell_keep c1 BB.out, cell_keep c2' BB.out⟩ ?rest24
          case hi24 => simp only [List.getElem?_toArray, List.getElem?_cons_succ, List.getElem?_cons_zero]; rfl
          case hq24 => exact fun _ _ _ h => h
          case hy24 => (refine Or.inl ⟨by rfl, ?_⟩; intro w hSw; (try dsimp only at hSw); go_simp; (try with_reducible rfl))
          simp only [Act.put, List.setIfInBounds_toArray, List.set_cons_zero, List.set_cons_succ]
          refine wpAnyZ_take (i := 7) (oi := ?o25) (v := ?v25) ?hi25 (by kernel_rfl) (by kernel_rfl) (by kernel_rfl) (by kernel_rfl) ?hq25 ?hy25 ⟨cell_keep y1 BB.out, cell_keep cH BB.out, cell_keep cN BB.out, cell_keep c1 BB.out, cell_keep c2' BB.out⟩ ?rest25
          case hi25 => simp only [List.getElem?_toArray, List.getElem?_cons_succ, List.getElem?_cons_zero]; rfl
          case hq25 => exact fun _ _ _ h => h
          case hy25 => (refine Or.inl ⟨by rfl, ?_⟩; intro w hSw; (try dsimp only at hSw); go_simp; (try with_reducible rfl))
          simp only [Act.put, List.setIfInBounds_toArray, List.set_cons_zero, List.set_cons_succ]
          refine wpAnyZ_take (i := 8) (oi := ?o26) (v := ?v26) ?hi26 (by kernel_rfl) (by kernel_rfl) (by kernel_rfl) (by kernel_rfl) ?hq26 ?hy26 ⟨cell_keep y1 BB.out, cell_keep cH BB.out, cell_keep cN BB.out, cell_keep c1 BB.out, cell_keep c2' BB.out⟩ ?rest26
          case hi26 => simp only [List.getElem?_toArray, List.getElem?_cons_succ, List.getElem?_cons_zero]; rfl
          case hq26 => exact fun _ _ _ h => h
          case hy26 => (refine Or.inl ⟨by rfl, ?_⟩; intro w hSw; (try dsimp only at hSw); go_simp; (try with_reducible rfl))
          simp only [Act.put, List.setIfInBounds_toArray, List.set_cons_zero, List.set_cons_succ]
          refine wpAnyZ_take (i := 9) (oi := ?o27) (v := ?v27) ?hi27 (by kernel_rfl) (by kernel_rfl) (by kernel_rfl) (by kernel_rfl) ?hq27 ?hy27 ⟨cell_keep y1 BB.out, cell_keep cH BB.out, cell_keep cN BB.out, cell_keep c1 BB.out, cell_keep c2' BB.out⟩ ?rest27
          case hi27 => simp only [List.getElem?_toArray, List.getElem?_cons_succ, List.getElem?_cons_zero]; rfl
          case hq27 => exact fun _ _ _ h => h
          case hy27 => (refine Or.inl ⟨by rfl, ?_⟩; intro w hSw; (try dsimp only at hSw); go_simp; (try with_reducible rfl))
          simp only [Act.put, List.setIfInBounds_toArray, List.set_cons_zero, List.set_cons_succ]
          refine wpAnyZ_take (i := 10) (oi := ?o28) (v := ?v28) ?hi28 (by kernel_rfl) (by kernel_rfl) (by kernel_rfl) (by kernel_rfl) ?hq28 ?hy28 ⟨cell_keep y1 BB.out, cell_keep cH BB.out, cell_keep cN BB.out, cell_keep c1 BB.out, cell_keep c2' BB.out⟩ ?rest28
          case hi28 => simp only [List.getElem?_toArray, List.getElem?_cons_succ, List.getElem?_cons_zero]; rfl
          case hq28 => exact fun _ _ _ h => h
          case hy28 => (refine Or.inl ⟨by rfl, ?_⟩; intro w hSw; (try dsimp only at hSw); go_simp; (try with_reducible rfl))
          simp only [Act.put, List.setIfInBounds_toArray, List.set_cons_zero, List.set_cons_succ]
          refine wpAnyZ_take (i := 11) (oi := ?o29) (v := ?v29) ?hi29 (by kernel_rfl) (by kernel_rfl) (by kernel_rfl) (by kernel_rfl) ?hq29 ?hy29 ⟨cell_keep y1 BB.out, cell_keep cH BB.out, cell_keep cN BB.out, cell_keep c1 BB.out, cell_keep c2' BB.out⟩ ?rest29
          case hi29 => simp only [List.getElem?_toArray, List.getElem?_cons_succ, List.getElem?_cons_zero]; rfl
          case hq29 => exact fun _ _ _ h => h
          case hy29 => (refine Or.inl ⟨by rfl, ?_⟩; intro w hSw; (try dsimp only at hSw); go_simp; (try with_reducible rfl))
          simp only [Act.put, List.setIfInBounds_toArray, List.set_cons_zero, List.set_cons_succ]
          refine wpAnyZ_take (i := 12) (oi := ?o30) (v := ?v30) ?hi30 (by kernel_rfl) (by kernel_rfl) (by kernel_rfl) (by kernel_rfl) ?hq30 ?hy30 ⟨cell_keep y1 BB.out, cell_keep cH BB.out, cell_keep cN BB.out, cell_keep c1 BB.out, cell_keep c2' BB.out⟩ ?rest30
          case hi30 => simp only [List.getElem?_toArray, List.getElem?_cons_succ, List.getElem?_cons_zero]; rfl
          case hq30 => exact fun _ _ _ h => h
          case hy30 => (refine Or.inl ⟨by rfl, ?_⟩; intro w hSw; (try dsimp only at hSw); go_simp; (try with_reducible rfl))
          simp only [Act.put, List.setIfInBounds_toArray, List.set_cons_zero, List.set_cons_succ]
          refine wpAnyZ_take (i := 13) (oi := ?o31) (v := ?v31) ?hi31 (by kernel_rfl) (by kernel_rfl) (by kernel_rfl) (by kernel_rfl) ?hq31 ?hy31 ⟨cell_keep y1 BB.out, cell_keep cH BB.out, cell_keep cN BB.out, cell_keep c1 BB.out, cell_keep c2' BB.out⟩ ?rest31
          case hi31 => simp only [List.getElem?_toArray, List.getElem?_cons_succ, List.getElem?_cons_zero]; rfl
          case hq31 => exact fun _ _ _ h => h
          case hy31 => (refine Or.inl ⟨by rfl, ?_⟩; intro w hSw; (try dsimp only at hSw); go_simp; (try with_reducible rfl))
          simp only [Act.put, List.setIfInBounds_toArray, List.set_cons_zero, List.set_cons_succ]
          refine wpAnyZ_take (i := 14) (oi := ?o32) (v := ?v32) ?hi32 (by kernel_rfl) (by kernel_rfl) (by kernel_rfl) (by kernel_rfl) ?hq32 ?hy32 ⟨cell_keep y1 BB.out, cell_keep cH BB.out, cell_keep cN BB.out, cell_keep c1 BB.out, cell_keep c2' BB.out⟩ ?rest32
          case hi32 => simp only [List.getElem?_toArray, List.getElem?_cons_succ, List.getElem?_cons_zero]; rfl
          case hq32 => exact fun _ _ _ h => h
          case hy32 => (refine Or.inl ⟨by rfl, ?_⟩; intro w hSw; (try dsimp only at hSw); go_simp; (try with_reducible rfl))
          simp only [Act.put, List.setIfInBounds_toArray, List.set_cons_zero, List.set_cons_succ]
          refine wpAnyZ_take (i := 15) (oi := ?o33) (v := ?v33) ?hi33 (by kernel_rfl) (by kernel_rfl) (by kernel_rfl) (by kernel_rfl) ?hq33 ?hy33 ⟨cell_keep y1 BB.out, cell_keep cH BB.out, cell_keep cN BB.out, cell_keep c1 BB.out, cell_keep c2' BB.out⟩ ?rest33
          case hi33 => simp only [List.getElem?_toArray, List.getElem?_cons_succ, List.getElem?_cons_zero]; rfl
          case hq33 => exact fun _ _ _ h => h
          case hy33 => (refine Or.inl ⟨by rfl, ?_⟩; intro w hSw; (try dsimp only at hSw); go_simp; (try with_reducible rfl))
          simp only [Act.put, List.setIfInBounds_toArray, List.set_cons_zero, List.set_cons_succ]
          refine wpAnyZ_take (i := 16) (oi := ?o34) (v := ?v34) ?hi34 (by kernel_rfl) (by kernel_rfl) (by kernel_rfl) (by kernel_rfl) ?hq34 ?hy34 ⟨cell_keep y1 BB.out, cell_keep cH BB.out, cell_keep cN BB.out, cell_keep c1 BB.out, cell_keep c2' BB.out⟩ ?rest34
          case hi34 => simp only [List.getElem?_toArray, List.getElem?_cons_succ, List.getElem?_cons_zero]; rfl
          case hq34 => exact fun _ _ _ h => h
          case hy34 => (refine Or.inl ⟨by rfl, ?_⟩; intro w hSw; (try dsimp only at hSw); go_simp; (try with_reducible rfl))
          simp only [Act.put, List.setIfInBounds_toArray, List.set_cons_zero, List.set_cons_succ]
          refine wpAnyZ_take (i := 17) (oi := ?o35) (v := ?v35) ?hi35 (by kernel_rfl) (by kernel_rfl) (by kernel_rfl) (by kernel_rfl) ?hq35 ?hy35 ⟨cell_keep y1 BB.out, cell_keep cH BB.out, cell_keep cN BB.out, cell_keep c1 BB.out, cell_keep c2' BB.out⟩ ?rest35
          case hi35 => simp only [List.getElem?_toArray, List.getElem?_cons_succ, List.getElem?_cons_zero]; rfl
          case hq35 => exact fun _ _ _ h => h
          case hy35 => (refine Or.inl ⟨by rfl, ?_⟩; intro w hSw; (try dsimp only at hSw); go_simp; (try with_reducible rfl))
          simp only [Act.put, List.setIfInBounds_toArray, List.set_cons_zero, List.set_cons_succ]
          refine wpAnyZ_one (i := 18) (o := ?o36) (by kernel_rfl) ?hi36 (fun K hK => ?rest36)
          case hi36 => simp only [List.getElem?_toArray, List.getElem?_cons_succ, List.getElem?_cons_zero]; rfl
          go_simp
          have BBn := b_alloc BB.out (.cells #[.int .i64 f, .int .i64 z] 44)
          have OHn := Lib.hid ((own_below hOH.out BB.out (Nat.le_refl _)).alloc (.cells #[.int .i64 f, .int .i64 z] 44))
          refine hK.out _ _ (.inr ?hs36) ?more36
          case hs36 => exact ⟨cell_keep y1 BBn, cell_keep cH BBn, cell_keep cN BBn, cell_keep c1 BBn, cell_keep c2' BBn⟩
          clear hK K
          (try simp only [Act.put, List.setIfInBounds_toArray, List.set_cons_zero, List.set_cons_succ])
          have BBo := BB
          clear BB
          have BB := Lib.hid BBn
          clear BBn
          have hbz := BBo.out.size
          have RBn := Lib.hid (read_new1 (w := u2) (T := 44) (cs := #[.int .i64 f, .int .i64 z]) (xs := [.int .i64 f, .int .i64 z]) rfl)
          have hzn : u2.heap.size < (u2.alloc (.cells #[.int .i64 f, .int .i64 z] 44)).heap.size := by simp
          generalize hvv : u2.alloc (.cells #[.int .i64 f, .int .i64 z] 44) = u3 at *
          clear hvv
          refine wpAnyZ_one (i := 19) (o := ?o37) (by kernel_rfl) ?hi37 (fun K hK => ?rest37)
          case hi37 => simp only [List.getElem?_toArray, List.getElem?_cons_succ, List.getElem?_cons_zero]; rfl
          refine step_append_r _ (by rfl) (.tmp 62) (.tmp 71) 45 (by rfl) mid 44 i2 (.agg #[.int .i64 0, .int .i64 0]) 2 16 Try.underlying45 hi2 hx0 hx1 hx2 rfl (by decide) _ p.length (savC p) OHn.out ?_ (some ⟨u2.heap.size, 0, none⟩) 1 1 [.int .i64 f, .int .i64 z] RBn.out (by simp [Act.eval, Act.put] <;> fail) (by simp) (by intro u hu; simp at hu; rcases hu with rfl | rfl <;> rfl) (by simp only [maxLen]; omega) (by omega) (by omega) ?_
          simp [Act.eval, Act.put]
          intro v6 w6 o6 g6 n6
          obtain ⟨A6, c6, rfl⟩ := own_slice o6
          have K5 := Lib.hid (blk_below BB.out q5.out q5.out.lt)
          have K6 := Lib.hid (blk_below BB.out q6.out q6.out.lt)
          have e5 := Lib.hid (blk_grown g6 K5.out (fun e => own_apartT OHn.out K5.out (by decide) _ e.symm rfl))
          have e6 := Lib.hid (blk_grown g6 K6.out (fun e => own_apartT OHn.out K6.out (by decide) _ e.symm rfl))
          have eH := cell_grow (cell_keep cH BB.out) g6 (fun e => hne.out _ e.symm rfl)
          have eF := frozen_grow (cell_keep cH BB.out) (frozen_keep cH hfr.out BB.out) g6 (fun e => hne.out _ e.symm rfl)
          have eN := cell_grow (cell_keep cN BB.out) g6 (fun e => hne.out _ e.symm rfl)
          have s7 := cell_grow (cell_keep c1 BB.out) g6 (fun e => hapR.out e.symm)
          have s8 := cell_grow (cell_keep c2' BB.out) g6 (fun e => hapR.out e.symm)
          have s1 := e5.out.cell 1
          refine hK.out _ _ (.inr ?hs37) ?more37
          case hs37 => exact ⟨s1, eH, eN, s7, s8⟩
          clear hK K
          (try simp only [Act.put, List.setIfInBounds_toArray, List.set_cons_zero, List.set_cons_succ])
          refine wpAnyZ_take (i := 20) (oi := ?o38) (v := ?v38) ?hi38 (by kernel_rfl) (by kernel_rfl) (by kernel_rfl) (by kernel_rfl) ?hq38 ?hy38 ⟨s1, eH, eN, s7, s8⟩ ?rest38
          case hi38 => simp only [List.getElem?_toArray, List.getElem?_cons_succ, List.getElem?_cons_zero]; rfl
          case hq38 => exact fun _ _ _ h => h
          case hy38 => (refine Or.inl ⟨by rfl, ?_⟩; intro w hSw; (try dsimp only at hSw); go_simp; (try with_reducible rfl))
          simp only [Act.put, List.setIfInBounds_toArray, List.set_cons_zero, List.set_cons_succ]
          refine wpAnyZ_one (i := 21) (o := ?o39) (by kernel_rfl) ?hi39 (fun K hK => ?rest39)
          case hi39 => simp only [List.getElem?_toArray, List.getElem?_cons_succ, List.getElem?_cons_zero]; rfl
          go_simp
          refine hK.out _ _ (.inl rfl) ?_
          clear hK K
          (try simp only [Act.put, List.setIfInBounds_toArray, List.set_cons_zero, List.set_cons_succ])
          refine wpAnyZ_done (by kernel_rfl) ?_ _
          have O6 := Lib.hid (show VolO w1.heap.size (w6.setCell ⟨gB, i, none⟩ (.slice A6 (p.length + 1) c6)).heap.size (w6.setCell ⟨gB, i, none⟩ (.slice A6 (p.length + 1) c6)) (.agg #[.slice A2 N.length c2, .slice (some ⟨gB, 0, none⟩) S.length d2']) N (S.set i (p ++ [(f, z)])) from by
            have e1 : (p ++ [(f, z)]).length = p.length + 1 := by simp
            have hh := HGR.out u3 w6 (p ++ [(f, z)]) A6 c6
            rw [e1, savC_append] at hh
            rw [World.size_setCell]
            exact hh (fun k k1 k2 k3 => BB.out.block k k3) BB.out.size o6 g6 n6)
          have f5 := Lib.hid (e5.out.far (p := ⟨gB, i, none⟩) (hn5.out) (.slice A6 (p.length + 1) c6))
          have f6 := Lib.hid (e6.out.far (p := ⟨gB, i, none⟩) (by show w.heap.size + 1 ≠ gB; omega) (.slice A6 (p.length + 1) c6))
          have hzz5 : wr.heap.size ≤ u3.heap.size := BB.out.size
          have BW := Lib.hid (((hBw.out.trans (BB.out.mono hBw.out.size)).grown g6 (by have := hBw.out.size; omega) (fun k hk => by have := (hOH.out.lt k hk).1; omega)).setCell (p := ⟨gB, i, none⟩) (by show w.heap.size ≤ gB; omega) (.slice A6 (p.length + 1) c6))
          have hmg := Lib.hid (show mergeS (p ++ [(f, z)]) (r.drop (j + 1)) = mergeS p0 r from by have := HMS.out; rwa [if_pos (by rw [← hq.out]; exact hq0)] at this)
          clear e5 e6 eH eF eN s1 s7 s8 o6 g6 n6 OHn RBn BB BBo hOH q5 q6 HGR HMS hapR K5 K6 HSI hq hBw hne hfr hO
          go_wp2
          go_roundw
          case rel => exact ⟨j + 1, p ++ [(f, z)], by omega, by go_num, by simp; omega, hmg, O6, f5, f6, BW⟩
          case measure => simp [intOf]; omega
        · refine wp_region_Z (fun w' : World => w'.cell? ⟨w2.heap.size, 1, none⟩ = some (.slice (some ⟨gB, 0, none⟩) S.length d2') ∧ w'.cell? ⟨gB, i, none⟩ = some (.slice Ai p.length ci) ∧ w'.cell? ⟨gB, n, none⟩ = some (.slice (some ⟨bR, oR, none⟩) r.length cn) ∧ w'.cell? ⟨bR, oR + j * 2, none⟩ = some (.int .i64 f)) 99 (by kernel_rfl) ?_
          generalize hv0 : wr.drew = u0
          have BB := Lib.hid (show Below wr.heap.size wr u0 by rw [← hv0]; exact (Below.refl _ _).drew)
          clear hv0
          refine wpAnyZ_take (i := 0) (oi := ?o40) (v := ?v40) ?hi40 (by kernel_rfl) (by kernel_rfl) (by kernel_rfl) (by kernel_rfl) ?hq40 ?hy40 ⟨cell_keep y1 BB.out, cell_keep cH BB.out, cell_keep cN BB.out, cell_keep c1 BB.out⟩ ?rest40
          case hi40 => simp only [List.getElem?_toArray, List.getElem?_cons_succ, List.getElem?_cons_zero]; rfl
          case hq40 => exact fun _ _ _ h => h
          case hy40 => (refine Or.inl ⟨by rfl, ?_⟩; intro w hSw; (try dsimp only at hSw); go_simp; (try with_reducible rfl))
          simp only [Act.put, List.setIfInBounds_toArray, List.set_cons_zero, List.set_cons_succ]
          refine wpAnyZ_take (i := 1) (oi := ?o41) (v := ?v41) ?hi41 (by kernel_rfl) (by kernel_rfl) (by kernel_rfl) (by kernel_rfl) ?hq41 ?hy41 ⟨cell_keep y1 BB.out, cell_keep cH BB.out, cell_keep cN BB.out, cell_keep c1 BB.out⟩ ?rest41
          case hi41 => simp only [List.getElem?_toArray, List.getElem?_cons_succ, List.getElem?_cons_zero]; rfl
          case hq41 => exact fun _ _ _ h => h
          case hy41 => (refine Or.inl ⟨by rfl, ?_⟩; intro w hSw; (try dsimp only at hSw); go_simp; (try with_reducible rfl))
          simp only [Act.put, List.setIfInBounds_toArray, List.set_cons_zero, List.set_cons_succ]
          refine wpAnyZ_take (i := 2) (oi := ?o42) (v := ?v42) ?hi42 (by kernel_rfl) (by kernel_rfl) (by kernel_rfl) (by kernel_rfl) ?hq42 ?hy42 ⟨cell_keep y1 BB.out, cell_keep cH BB.out, cell_keep cN BB.out, cell_keep c1 BB.out⟩ ?rest42
          case hi42 => simp only [List.getElem?_toArray, List.getElem?_cons_succ, List.getElem?_cons_zero]; rfl
          case hq42 => exact fun _ _ _ h => h
          case hy42 => (refine Or.inl ⟨by rfl, ?_⟩; intro w hSw; (try dsimp only at hSw); go_simp; (try with_reducible rfl))
          simp only [Act.put, List.setIfInBounds_toArray, List.set_cons_zero, List.set_cons_succ]
          refine wpAnyZ_take (i := 3) (oi := ?o43) (v := ?v43) ?hi43 (by kernel_rfl) (by kernel_rfl) (by kernel_rfl) (by kernel_rfl) ?hq43 ?hy43 ⟨cell_keep y1 BB.out, cell_keep cH BB.out, cell_keep cN BB.out, cell_keep c1 BB.out⟩ ?rest43
          case hi43 => simp only [List.getElem?_toArray, List.getElem?_cons_succ, List.getElem?_cons_zero]; rfl
          case hq43 => exact fun _ _ _ h => h
          case hy43 => (refine Or.inl ⟨by rfl, ?_⟩; intro w hSw; (try dsimp only at hSw); go_simp; (try with_reducible rfl))
          simp only [Act.put, List.setIfInBounds_toArray, List.set_cons_zero, List.set_cons_succ]
          refine wpAnyZ_take (i := 4) (oi := ?o44) (v := ?v44) ?hi44 (by kernel_rfl) (by kernel_rfl) (by kernel_rfl) (by kernel_rfl) ?hq44 ?hy44 ⟨cell_keep y1 BB.out, cell_keep cH BB.out, cell_keep cN BB.out, cell_keep c1 BB.out⟩ ?rest44
          case hi44 => simp only [List.getElem?_toArray, List.getElem?_cons_succ, List.getElem?_cons_zero]; rfl
          case hq44 => exact fun _ _ _ h => h
          case hy44 => (refine Or.inl ⟨by rfl, ?_⟩; intro w hSw; (try dsimp only at hSw); go_simp; (try with_reducible rfl))
          simp only [Act.put, List.setIfInBounds_toArray, List.set_cons_zero, List.set_cons_succ]
          refine wpAnyZ_take (i := 5) (oi := ?o45) (v := ?v45) ?hi45 (by kernel_rfl) (by kernel_rfl) (by kernel_rfl) (by kernel_rfl) ?hq45 ?hy45 ⟨cell_keep y1 BB.out, cell_keep cH BB.out, cell_keep cN BB.out, cell_keep c1 BB.out⟩ ?rest45
          case hi45 => simp only [List.getElem?_toArray, List.getElem?_cons_succ, List.getElem?_cons_zero]; rfl
          case hq45 => exact fun _ _ _ h => h
          case hy45 => (refine Or.inl ⟨by rfl, ?_⟩; intro w hSw; (try dsimp only at hSw); go_simp; (try with_reducible rfl))
          simp only [Act.put, List.setIfInBounds_toArray, List.set_cons_zero, List.set_cons_succ]
          refine wpAnyZ_take (i := 6) (oi := ?o46) (v := ?v46) ?hi46 (by kernel_rfl) (by kernel_rfl) (by kernel_rfl) (by kernel_rfl) ?hq46 ?hy46 ⟨cell_keep y1 BB.out, cell_keep cH BB.out, cell_keep cN BB.out, cell_keep c1 BB.out⟩ ?rest46
          case hi46 => simp only [List.getElem?_toArray, List.getElem?_cons_succ, List.getElem?_cons_zero]; rfl
          case hq46 => exact fun _ _ _ h => h
          case hy46 => (refine Or.inl ⟨by rfl, ?_⟩; intro w hSw; (try dsimp only at hSw); go_simp; (try with_reducible rfl))
          simp only [Act.put, List.setIfInBounds_toArray, List.set_cons_zero, List.set_cons_succ]
          refine wpAnyZ_take (i := 7) (oi := ?o47) (v := ?v47) ?hi47 (by kernel_rfl) (by kernel_rfl) (by kernel_rfl) (by kernel_rfl) ?hq47 ?hy47 ⟨cell_keep y1 BB.out, cell_keep cH BB.out, cell_keep cN BB.out, cell_keep c1 BB.out⟩ ?rest47
          case hi47 => simp only [List.getElem?_toArray, List.getElem?_cons_succ, List.getElem?_cons_zero]; rfl
          case hq47 => exact fun _ _ _ h => h
          case hy47 => (refine Or.inl ⟨by rfl, ?_⟩; intro w hSw; (try dsimp only at hSw); go_simp; (try with_reducible rfl))
          simp only [Act.put, List.setIfInBounds_toArray, List.set_cons_zero, List.set_cons_succ]
          refine wpAnyZ_take (i := 8) (oi := ?o48) (v := ?v48) ?hi48 (by kernel_rfl) (by kernel_rfl) (by kernel_rfl) (by kernel_rfl) ?hq48 ?hy48 ⟨cell_keep y1 BB.out, cell_keep cH BB.out, cell_keep cN BB.out, cell_keep c1 BB.out⟩ ?rest48
          case hi48 => simp only [List.getElem?_toArray, List.getElem?_cons_succ, List.getElem?_cons_zero]; rfl
          case hq48 => exact fun _ _ _ h => h
          case hy48 => (refine Or.inl ⟨by rfl, ?_⟩; intro w hSw; (try dsimp only at hSw); go_simp; (try with_reducible rfl))
          simp only [Act.put, List.setIfInBounds_toArray, List.set_cons_zero, List.set_cons_succ]
          refine wpAnyZ_take (i := 9) (oi := ?o49) (v := ?v49) ?hi49 (by kernel_rfl) (by kernel_rfl) (by kernel_rfl) (by kernel_rfl) ?hq49 ?hy49 ⟨cell_keep y1 BB.out, cell_keep cH BB.out, cell_keep cN BB.out, cell_keep c1 BB.out⟩ ?rest49
          case hi49 => simp only [List.getElem?_toArray, List.getElem?_cons_succ, List.getElem?_cons_zero]; rfl
          case hq49 => exact fun _ _ _ h => h
          case hy49 => (refine Or.inl ⟨by rfl, ?_⟩; intro w hSw; (try dsimp only at hSw); go_simp; (try with_reducible rfl))
          simp only [Act.put, List.setIfInBounds_toArray, List.set_cons_zero, List.set_cons_succ]
          refine wpAnyZ_take (i := 10) (oi := ?o50) (v := ?v50) ?hi50 (by kernel_rfl) (by kernel_rfl) (by kernel_rfl) (by kernel_rfl) ?hq50 ?hy50 ⟨cell_keep y1 BB.out, cell_keep cH BB.out, cell_keep cN BB.out, cell_keep c1 BB.out⟩ ?rest50
          case hi50 => simp only [List.getElem?_toArray, List.getElem?_cons_succ, List.getElem?_cons_zero]; rfl
          case hq50 => exact fun _ _ _ h => h
          case hy50 => (refine Or.inl ⟨by rfl, ?_⟩; intro w hSw; (try dsimp only at hSw); go_simp; (try with_reducible rfl))
          simp only [Act.put, List.setIfInBounds_toArray, List.set_cons_zero, List.set_cons_succ]
          refine wpAnyZ_take (i := 11) (oi := ?o51) (v := ?v51) ?hi51 (by kernel_rfl) (by kernel_rfl) (by kernel_rfl) (by kernel_rfl) ?hq51 ?hy51 ⟨cell_keep y1 BB.out, cell_keep cH BB.out, cell_keep cN BB.out, cell_keep c1 BB.out⟩ ?rest51
          case hi51 => simp only [List.getElem?_toArray, List.getElem?_cons_succ, List.getElem?_cons_zero]; rfl
          case hq51 => exact fun _ _ _ h => h
          case hy51 => (refine Or.inl ⟨by rfl, ?_⟩; intro w hSw; (try dsimp only at hSw); go_simp; (try with_reducible rfl))
          simp only [Act.put, List.setIfInBounds_toArray, List.set_cons_zero, List.set_cons_succ]
          refine wpAnyZ_take (i := 12) (oi := ?o52) (v := ?v52) ?hi52 (by kernel_rfl) (by kernel_rfl) (by kernel_rfl) (by kernel_rfl) ?hq52 ?hy52 ⟨cell_keep y1 BB.out, cell_keep cH BB.out, cell_keep cN BB.out, cell_keep c1 BB.out⟩ ?rest52
          case hi52 => simp only [List.getElem?_toArray, List.getElem?_cons_succ, List.getElem?_cons_zero]; rfl
          case hq52 => exact fun _ _ _ h => h
          case hy52 => (refine Or.inl ⟨by rfl, ?_⟩; intro w hSw; (try dsimp only at hSw); go_simp; (try with_reducible rfl))
          simp only [Act.put, List.setIfInBounds_toArray, List.set_cons_zero, List.set_cons_succ]
          refine wpAnyZ_take (i := 13) (oi := ?o53) (v := ?v53) ?hi53 (by kernel_rfl) (by kernel_rfl) (by kernel_rfl) (by kernel_rfl) ?hq53 ?hy53 ⟨cell_keep y1 BB.out, cell_keep cH BB.out, cell_keep cN BB.out, cell_keep c1 BB.out⟩ ?rest53
          case hi53 => simp only [List.getElem?_toArray, List.getElem?_cons_succ, List.getElem?_cons_zero]; rfl
          case hq53 => exact fun _ _ _ h => h
          case hy53 => (refine Or.inl ⟨by rfl, ?_⟩; intro w hSw; (try dsimp only at hSw); go_simp; (try with_reducible rfl))
          simp only [Act.put, List.setIfInBounds_toArray, List.set_cons_zero, List.set_cons_succ]
          refine wpAnyZ_take (i := 14) (oi := ?o54) (v := ?v54) ?hi54 (by kernel_rfl) (by kernel_rfl) (by kernel_rfl) (by kernel_rfl) ?hq54 ?hy54 ⟨cell_keep y1 BB.out, cell_keep cH BB.out, cell_keep cN BB.out, cell_keep c1 BB.out⟩ ?rest54
          case hi54 => simp only [List.getElem?_toArray, List.getElem?_cons_succ, List.getElem?_cons_zero]; rfl
          case hq54 => exact fun _ _ _ h => h
          case hy54 => (refine Or.inl ⟨by rfl, ?_⟩; intro w hSw; (try dsimp only at hSw); go_simp; (try with_reducible rfl))
          simp only [Act.put, List.setIfInBounds_toArray, List.set_cons_zero, List.set_cons_succ]
          refine wpAnyZ_one (i := 15) (o := ?o55) (by kernel_rfl) ?hi55 (fun K hK => ?rest55)
          case hi55 => simp only [List.getElem?_toArray, List.getElem?_cons_succ, List.getElem?_cons_zero]; rfl
          go_simp
          go_at_call 52; refine (specFind_any Ai ci p f u0 (HSI.out.below BB.out) (by omega)).mono ?_; rintro e w' ⟨rfl, rfl⟩; rw [← hq.out]; (try dsimp only)
          refine hK.out _ _ (.inr ⟨cell_keep y1 BB.out, cell_keep cH BB.out, cell_keep cN BB.out, cell_keep c1 BB.out⟩) ?_
          clear hK K
          (try simp only [Act.put, List.setIfInBounds_toArray, List.set_cons_zero, List.set_cons_succ])
          refine wpAnyZ_take (i := 16) (oi := ?o56) (v := ?v56) ?hi56 (by kernel_rfl) (by kernel_rfl) (by kernel_rfl) (by kernel_rfl) ?hq56 ?hy56 ⟨cell_keep y1 BB.out, cell_keep cH BB.out, cell_keep cN BB.out, cell_keep c1 BB.out⟩ ?rest56
          case hi56 => simp only [List.getElem?_toArray, List.getElem?_cons_succ, List.getElem?_cons_zero]; rfl
          case hq56 => exact fun _ _ _ h => h
          case hy56 => (refine Or.inl ⟨by rfl, ?_⟩; intro w hSw; (try dsimp only at hSw); go_simp; (try with_reducible rfl))
          simp only [Act.put, List.setIfInBounds_toArray, List.set_cons_zero, List.set_cons_succ]
          refine wpAnyZ_done (by kernel_rfl) ?_ _
          have hmg := Lib.hid (show mergeS p (r.drop (j + 1)) = mergeS p0 r from by have := HMS.out; rwa [if_neg (by rw [← hq.out]; exact hq0)] at this)
          have hzz5 : wr.heap.size ≤ u0.heap.size := BB.out.size
          have O6 := Lib.hid ((hO.out.below BB.out).mono (Nat.le_refl w1.heap.size) hzz5)
          have f5 := Lib.hid (blk_below BB.out q5.out q5.out.lt)
          have f6 := Lib.hid (blk_below BB.out q6.out q6.out.lt)
          have BW := Lib.hid (hBw.out.trans (BB.out.mono hBw.out.size))
          clear BB hOH q5 q6 HGR HMS hapR HSI hq hBw hne hfr hO
          go_wp2
          go_roundw
          case rel => exact ⟨j + 1, p, by omega, by go_num, by omega, hmg, O6, f5, f6, BW⟩
          case measure => simp [intOf]; omega
      · have hfinM : p = mergeS p0 r := by
          have := hmr.out
          rw [List.drop_of_length_le (by omega)] at this
          exact this
        have hO2 := hO.out
        rw [hfinM, hM.out] at hO2
        have OM := Lib.hid hO2
        have KM5 := q5
        have KM6 := q6
        have CM := hBw
        clear hO hO2 hmr hfinM hpj q5 q6 hBw oH hne0 fr0 hgr hapN0 rdN
        have hml : (dropM S n).length = S.length := (dropM_len S n).1
        obtain ⟨M, hMe⟩ : ∃ M, M = dropM S n := ⟨_, rfl⟩
        rw [← hMe] at OM hml hyes
        have OM' := Lib.hid (show VolO w1.heap.size wr.heap.size wr (.agg #[.slice A2 N.length c2, .slice (some ⟨gB, 0, none⟩) M.length d2']) N M by rw [hml]; exact OM.out)
        clear OM hMe
        obtain ⟨g0, mid, hs, e0, m1, m2, m3, _, _, ho0, hH0, _, hne, hcl⟩ := vol_outer OM'.out (by have := HN.out; omega)
        injection e0 with e0
        injection e0 with e0 _
        subst e0
        obtain ⟨i1, hi1, hy0, hy1, hy2⟩ := info_parts info_rowS
        have hcp := own_cap ho0
        have hsl : hs.length = S.length := by rw [hH0.1, hml]
        have hrd := own_read ho0
        have RD1 := Lib.hid (show ReadC wr (some ⟨gB, 0, none⟩) (hs.take n) from by
          intro h9
          obtain ⟨b, off, e, hc⟩ := hrd (by rw [List.length_take] at h9; omega)
          exact ⟨b, off, e, fun i hi => by rw [List.getElem_take]; exact hc i (by rw [List.length_take] at hi; omega)⟩)
        obtain ⟨n1, hn1'⟩ : ∃ n1, n1 = n + 1 := ⟨_, rfl⟩
        have RD2 := Lib.hid (show ReadC wr (if d2' = n1 then some ⟨gB, 0, none⟩ else some ⟨gB, n1, none⟩) (hs.drop n1) from by
          intro h9
          rw [List.length_drop] at h9
          rw [if_neg (by rw [hml] at hcp; omega)]
          obtain ⟨b, off, e, hc⟩ := hrd (by omega)
          injection e with e
          injection e with e1 e2
          subst e1 e2
          refine ⟨gB, n1, rfl, fun i hi => ?_⟩
          rw [List.length_drop] at hi
          rw [List.getElem_drop]
          have := hc (n1 + i) (by omega)
          rwa [Nat.zero_add] at this)
        have hone : ∀ u ∈ hs, u.oneCell' = true := by
          intro u hu
          obtain ⟨i, hi⟩ := List.mem_iff_getElem?.1 hu
          obtain ⟨Ai, ci, x, _⟩ := hH0.2.1 i (by rw [← hH0.1]; exact (List.getElem?_eq_some_iff.1 hi).1)
          have e : u = _ := Option.some.inj (hi.symm.trans x)
          rw [e]
          rfl
        have HS1 := Lib.hid (fun k => show ∀ u ∈ hs.take k, u.oneCell' = true from fun u hu => hone u (List.mem_of_mem_take hu))
        have HS2 := Lib.hid (fun k => show ∀ u ∈ hs.drop k, u.oneCell' = true from fun u hu => hone u (List.mem_of_mem_drop hu))
        have HH := Lib.hid hH0
        have HCL := Lib.hid (fun w' v Q hi' h1 h2 h3 => hcl w' v Q hi' h1 h2 h3)
        have Hml := Lib.hid hml
        have hnl := HN.out
        have hcp1 : S.length ≤ d2' ∧ d2' ≤ 9223372036854775807 := by rw [hml] at hcp; exact hcp
        have dn1 : IntKind.i64.wrap ((n : Int) + 1) = (n1 : Int) := by rw [IntWalk.i64_in _ (by omega)]; omega
        have ia1 : (0 : Int) ≤ (n1 : Int) := by omega
        have ia2 : (n1 : Int) ≤ (S.length : Int) := by omega
        have ia3 : (S.length : Int) ≤ (d2' : Int) := by omega
        have ia4 : (n : Int) ≤ (d2' : Int) := by omega
        have ib1 : n ≤ d2' := by omega
        have ib2 : n1 ≤ S.length := by omega
        have HE1 := Lib.hid hn1'
        have hnb : n ≤ hs.length := by omega
        have hsq : hs.length ≤ S.length ∧ S.length ≤ hs.length := by omega
        have hsl' := Lib.hid hsl
        have hsb : hs.length ≤ 1048576 := by omega
        obtain ⟨y0, y1, y2, y3⟩ := KM5.out.two
        clear hcl hne OM' hml hrd hone hcp hH0 ho0 hn1' hsl
        go_wp2
        refine wp_region_Z (fun w' : World => w'.cell? ⟨w2.heap.size, 1, none⟩ = some (.slice (some ⟨gB, 0, none⟩) S.length d2')) 13 (by kernel_rfl) ?_
        generalize hv0 : wr.drew = u0
        have BB := Lib.hid (show Below wr.heap.size wr u0 by rw [← hv0]; exact (Below.refl _ _).drew)
        clear hv0
        refine wpAnyZ_take (i := 1) (oi := ?o57) (v := ?v57) ?hi57 (by kernel_rfl) (by kernel_rfl) (by kernel_rfl) (by kernel_rfl) ?hq57 ?hy57 (cell_keep y1 BB.out) ?rest57
        case hi57 => simp only [List.getElem?_toArray, List.getElem?_cons_succ, List.getElem?_cons_zero]; rfl
        case hq57 => exact fun _ _ _ h => h
        case hy57 => (refine Or.inl ⟨by rfl, ?_⟩; intro w hSw; (try dsimp only at hSw); go_simp; (try with_reducible rfl))
        simp only [Act.put, List.setIfInBounds_toArray, List.set_cons_zero, List.set_cons_succ]
        refine wpAnyZ_take (i := 2) (oi := ?o58) (v := ?v58) ?hi58 (by kernel_rfl) (by kernel_rfl) (by kernel_rfl) (by kernel_rfl) ?hq58 ?hy58 (cell_keep y1 BB.out) ?rest58
        case hi58 => simp only [List.getElem?_toArray, List.getElem?_cons_succ, List.getElem?_cons_zero]; rfl
        case hq58 => exact fun _ _ _ h => h
        case hy58 => (refine Or.inl ⟨by rfl, ?_⟩; intro w hSw; (try dsimp only at hSw); go_simp; (try with_reducible rfl))
        simp only [Act.put, List.setIfInBounds_toArray, List.set_cons_zero, List.set_cons_succ]
        refine wpAnyZ_take (i := 3) (oi := ?o59) (v := ?v59) ?hi59 (by kernel_rfl) (by kernel_rfl) (by kernel_rfl) (by kernel_rfl) ?hq59 ?hy59 (cell_keep y1 BB.out) ?rest59
        case hi59 => simp only [List.getElem?_toArray, List.getElem?_cons_succ, List.getElem?_cons_zero]; rfl
        case hq59 => exact fun _ _ _ h => h
        case hy59 => (refine Or.inl ⟨by rfl, ?_⟩; intro w hSw; (try dsimp only at hSw); go_simp; (try with_reducible rfl))
        simp only [Act.put, List.setIfInBounds_toArray, List.set_cons_zero, List.set_cons_succ]
        refine wpAnyZ_take (i := 4) (oi := ?o60) (v := ?v60) ?hi60 (by kernel_rfl) (by kernel_rfl) (by kernel_rfl) (by kernel_rfl) ?hq60 ?hy60 (cell_keep y1 BB.out) ?rest60
        case hi60 => simp only [List.getElem?_toArray, List.getElem?_cons_succ, List.getElem?_cons_zero]; rfl
        case hq60 => exact fun _ _ _ h => h
        case hy60 => (refine Or.inl ⟨by rfl, ?_⟩; intro w hSw; (try dsimp only at hSw); go_simp; (try with_reducible rfl))
        simp only [Act.put, List.setIfInBounds_toArray, List.set_cons_zero, List.set_cons_succ]
        refine wpAnyZ_take (i := 6) (oi := ?o61) (v := ?v61) ?hi61 (by kernel_rfl) (by kernel_rfl) (by kernel_rfl) (by kernel_rfl) ?hq61 ?hy61 (cell_keep y1 BB.out) ?rest61
        case hi61 => simp only [List.getElem?_toArray, List.getElem?_cons_succ, List.getElem?_cons_zero]; rfl
        case hq61 => exact fun _ _ _ h => h
        case hy61 => (refine Or.inl ⟨by rfl, ?_⟩; intro w hSw; (try dsimp only at hSw); go_simp; (try with_reducible rfl))
        simp only [Act.put, List.setIfInBounds_toArray, List.set_cons_zero, List.set_cons_succ]
        refine wpAnyZ_take (i := 7) (oi := ?o62) (v := ?v62) ?hi62 (by kernel_rfl) (by kernel_rfl) (by kernel_rfl) (by kernel_rfl) ?hq62 ?hy62 (cell_keep y1 BB.out) ?rest62
        case hi62 => simp only [List.getElem?_toArray, List.getElem?_cons_succ, List.getElem?_cons_zero]; rfl
        case hq62 => exact fun _ _ _ h => h
        case hy62 => (refine Or.inl ⟨by rfl, ?_⟩; intro w hSw; (try dsimp only at hSw); go_simp; (try with_reducible rfl))
        simp only [Act.put, List.setIfInBounds_toArray, List.set_cons_zero, List.set_cons_succ]
        refine wpAnyZ_take (i := 8) (oi := ?o63) (v := ?v63) ?hi63 (by kernel_rfl) (by kernel_rfl) (by kernel_rfl) (by kernel_rfl) ?hq63 ?hy63 (cell_keep y1 BB.out) ?rest63
        case hi63 => simp only [List.getElem?_toArray, List.getElem?_cons_succ, List.getElem?_cons_zero]; rfl
        case hq63 => exact fun _ _ _ h => h
        case hy63 => (refine Or.inl ⟨by rfl, ?_⟩; intro w hSw; (try dsimp only at hSw); go_simp; (try with_reducible rfl))
        simp only [Act.put, List.setIfInBounds_toArray, List.set_cons_zero, List.set_cons_succ]
        refine wpAnyZ_take (i := 9) (oi := ?o64) (v := ?v64) ?hi64 (by kernel_rfl) (by kernel_rfl) (by kernel_rfl) (by kernel_rfl) ?hq64 ?hy64 (cell_keep y1 BB.out) ?rest64
        case hi64 => simp only [List.getElem?_toArray, List.getElem?_cons_succ, List.getElem?_cons_zero]; rfl
        case hq64 => exact fun _ _ _ h => h
        case hy64 => (refine Or.inl ⟨by rfl, ?_⟩; intro w hSw; (try dsimp only at hSw); go_simp; (try with_reducible rfl))
        simp only [Act.put, List.setIfInBounds_toArray, List.set_cons_zero, List.set_cons_succ]
        refine wpAnyZ_take (i := 10) (oi := ?o65) (v := ?v65) ?hi65 (by kernel_rfl) (by kernel_rfl) (by kernel_rfl) (by kernel_rfl) ?hq65 ?hy65 (cell_keep y1 BB.out) ?rest65
        case hi65 => simp only [List.getElem?_toArray, List.getElem?_cons_succ, List.getElem?_cons_zero]; rfl
        case hq65 => exact fun _ _ _ h => h
        case hy65 => (refine Or.inl ⟨by rfl, ?_⟩; intro w hSw; (try dsimp only at hSw); go_simp; (try with_reducible rfl))
        simp only [Act.put, List.setIfInBounds_toArray, List.set_cons_zero, List.set_cons_succ]
        refine wpAnyZ_one (i := 0) (o := ?o66) (by kernel_rfl) ?hi66 (fun K hK => ?rest66)
        case hi66 => simp only [List.getElem?_toArray, List.getElem?_cons_succ, List.getElem?_cons_zero]; rfl
        go_simp
        have BBn := b_alloc BB.out (.cells #[] 45)
        have OBn := Lib.hid (World.ownsRow_lit (e := 45) (size := 1) (base := wr.heap.size) u0 #[] 0 BB.out.size (by simp [maxLen]) (by simp))
        refine hK.out _ _ (.inr ?hs66) ?more66
        case hs66 => exact (cell_keep y1 BBn)
        clear hK K
        (try simp only [Act.put, List.setIfInBounds_toArray, List.set_cons_zero, List.set_cons_succ])
        clear BB
        have BB := Lib.hid BBn
        clear BBn
        generalize hvv : u0.alloc (.cells #[] 45) = u2 at *
        clear hvv
        refine wpAnyZ_one (i := 5) (o := ?o67) (by kernel_rfl) ?hi67 (fun K hK => ?rest67)
        case hi67 => simp only [List.getElem?_toArray, List.getElem?_cons_succ, List.getElem?_cons_zero]; rfl
        refine step_append_r _ (by rfl) (.tmp 74) (.tmp 78) 27 (by rfl) wr.heap.size 45 i1 (.slice none 0 0) 1 24 Try.underlying27 hi1 hy0 hy1 hy2 rfl (by decide) _ 0 [] OBn.out ?_ (some ⟨gB, 0, none⟩) n d2' (hs.take n) (RD1.out.below BB.out) (by simp [Act.eval, Act.put] <;> fail) (by rw [List.length_take]; omega) (HS1.out n) (by simp only [maxLen]; omega) (by omega) BB.out.size ?_
        simp [Act.eval, Act.put]
        intro v5 w5 o5 g5 n5
        rw [Nat.zero_add] at o5
        obtain ⟨A5, c5, rfl⟩ := own_slice o5
        have BBn := Below.grown BB.out g5 BB.out.size (fun k hk => (OBn.out.lt k hk).1)
        have O5 := Lib.hid o5
        refine hK.out _ _ (.inr ?hs67) ?more67
        case hs67 => exact (cell_keep y1 BBn)
        clear hK K
        (try simp only [Act.put, List.setIfInBounds_toArray, List.set_cons_zero, List.set_cons_succ])
        clear BB OBn o5 g5 n5
        have BB := Lib.hid BBn
        clear BBn
        refine wpAnyZ_one (i := 11) (o := ?o68) (by kernel_rfl) ?hi68 (fun K hK => ?rest68)
        case hi68 => simp only [List.getElem?_toArray, List.getElem?_cons_succ, List.getElem?_cons_zero]; rfl
        refine step_append_r _ (by rfl) (.tmp 79) (.tmp 84) 27 (by rfl) wr.heap.size 45 i1 (.slice none 0 0) 1 24 Try.underlying27 hi1 hy0 hy1 hy2 rfl (by decide) _ n (hs.take n) O5.out ?_ (if d2' = n1 then some ⟨gB, 0, none⟩ else some ⟨gB, n1, none⟩) (S.length - n1) (d2' - n1) (hs.drop n1) (RD2.out.below BB.out) (by simp [Act.eval, Act.put] <;> fail) (by rw [List.length_drop]; omega) (HS2.out n1) (by simp only [maxLen]; omega) (by omega) BB.out.size ?_
        simp [Act.eval, Act.put]
        intro v6 w6 o6 g6 n6
        obtain ⟨A6, c6, rfl⟩ := own_slice o6
        have BBn := Below.grown BB.out g6 BB.out.size (fun k hk => (O5.out.lt k hk).1)
        have O6 := Lib.hid o6
        refine hK.out _ _ (.inr ?hs68) ?more68
        case hs68 => exact (cell_keep y1 BBn)
        clear hK K
        (try simp only [Act.put, List.setIfInBounds_toArray, List.set_cons_zero, List.set_cons_succ])
        clear BB O5 o6 g6 n6
        have BB := Lib.hid BBn
        clear BBn
        have L5 := Lib.hid (blk_below BB.out KM5.out KM5.out.lt)
        have L6 := Lib.hid (blk_below BB.out KM6.out KM6.out.lt)
        obtain ⟨a0, a1, a2, a3⟩ := L5.out.two
        refine wpAnyZ_take (i := 12) (oi := ?o69) (v := ?v69) ?hi69 (by kernel_rfl) (by kernel_rfl) (by kernel_rfl) (by kernel_rfl) ?hq69 ?hy69 (cell_keep y1 BB.out) ?rest69
        case hi69 => simp only [List.getElem?_toArray, List.getElem?_cons_succ, List.getElem?_cons_zero]; rfl
        case hq69 => exact fun _ _ _ h => h
        case hy69 => (refine Or.inl ⟨by rfl, ?_⟩; intro w hSw; (try dsimp only at hSw); go_simp; (try with_reducible rfl))
        simp only [Act.put, List.setIfInBounds_toArray, List.set_cons_zero, List.set_cons_succ]
        refine wpAnyZ_one (i := 13) (o := ?o70) (by kernel_rfl) ?hi70 (fun K hK => ?rest70)
        case hi70 => simp only [List.getElem?_toArray, List.getElem?_cons_succ, List.getElem?_cons_zero]; rfl
        go_simp
        refine hK.out _ _ (.inl rfl) ?_
        clear hK K
        (try simp only [Act.put, List.setIfInBounds_toArray, List.set_cons_zero, List.set_cons_succ])
        refine wpAnyZ_done (by kernel_rfl) ?_ _
        have hel : (M.eraseIdx n).length = S.length - 1 := by rw [List.length_eraseIdx_of_lt (by rw [Hml.out]; omega), Hml.out]
        have he1 := HE1.out
        have hlen : n + (S.length - n1) = S.length - 1 := by omega
        have O7 : w6.ownsRow wr.heap.size 45 1 (.slice A6 (S.length - 1) c6) (S.length - 1) (hs.eraseIdx n) := by
          have := O6.out
          rw [hlen, he1, ← List.eraseIdx_eq_take_drop_succ] at this
          exact this
        have hzz := BB.out.size
        have hrow : RowsS mid w6.heap.size w6 (.slice A6 (M.eraseIdx n).length c6) (M.eraseIdx n) :=
          HH.out.erase (n := n) (by rw [Hml.out]; omega) (by rw [Hml.out]; exact own_mono O7 (by omega)) (fun g hg => (O7.lt g (by rw [Hml.out] at hg; exact hg)).2) (fun a ha g hg hg2 => by have h1 := (O7.lt g (by rw [Hml.out] at hg; exact hg)).1; have h2 := (HH.out.mem ha hg2).2.1; omega) (by omega) (fun a ha g hg => BB.out.block g (HH.out.mem ha hg).2.1)
        have hO9 : VolO w1.heap.size w6.heap.size w6 (.agg #[.slice A2 N.length c2, .slice A6 (S.length - 1) c6]) N (M.eraseIdx n) := by
          have := HCL.out w6 _ (M.eraseIdx n) w6.heap.size hrow (by omega) (fun k hk hk2 => BB.out.block k hk2)
          rwa [hel] at this
        obtain ⟨t5, t6, hv9, hb9⟩ := vx_tail (CM.out.trans (BB.out.mono CM.out.size)) (show w.heap.size ≤ w1.heap.size by omega) (Nat.le_refl _) L5.out L6.out (by omega) hO9
        have hfin := Lib.hid (hyes.out _ _ hv9 hb9)
        obtain ⟨b0, b1, b2, b3⟩ := t5.two
        obtain ⟨f0, f1, f2, f3⟩ := t6.two
        rw [hlen]
        clear hv9 hb9 t5 t6 hO9 hrow O7 O6 BB HH HCL hyes KM5 KM6 CM y0 y1 y2 y3 hel L5 L6 a0 a1 a2 a3 RD1 RD2 HS1 HS2
        go_wp2
        all_goals exact bodyPost_ret (v := .agg #[.slice A2 N.length c2, .slice A6 (S.length - 1) c6]) (by simp [results, Try.results23, go_sem, f0, f1]) rfl hfin.out
end Go.Proofs.Ytkjjieofoolnhaa
