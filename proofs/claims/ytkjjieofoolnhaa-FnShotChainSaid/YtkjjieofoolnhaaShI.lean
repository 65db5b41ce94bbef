/- ShotView of the program. -/
import Derived.Test.YtkjjieofoolnhaaShB
namespace Go.Proofs.Ytkjjieofoolnhaa
open Go.RowKit Go.Shelf
set_option linter.unusedVariables false
attribute [local go_sem] Oper.semAt_some

/-- The view when the places pre have come. -/
def viewP (N : List Int) (T : List (List Sv)) (pre : List Nat) : List Int := pre.foldl (fun o x => wrSh o (T.getD x [])) N
theorem viewP_app {N : List Int} {T : List (List Sv)} {pre : List Nat} {x : Nat} : viewP N T (pre ++ [x]) = wrSh (viewP N T pre) (T.getD x []) := by simp [viewP]
theorem viewP_len {N : List Int} {T : List (List Sv)} {pre : List Nat} : (viewP N T pre).length = N.length := by
  suffices h : ∀ (pre : List Nat) (o : List Int), (pre.foldl (fun o x => wrSh o (T.getD x [])) o).length = o.length from h pre N
  intro pre
  induction pre with
  | nil => intro o; rfl
  | cons x t ih => intro o; rw [List.foldl_cons, ih, wrSh_len]
theorem viewP_dn {N : List Int} {T : List (List Sv)} {r : Nat} (h : r ≤ T.length) : viewP N T (dn T.length r) = viewT N (T.drop r) := by
  obtain ⟨k, hk⟩ : ∃ k, k + r = T.length := ⟨T.length - r, by omega⟩
  induction k generalizing r with
  | zero =>
    obtain rfl : r = T.length := by omega
    rw [dn_full, List.drop_length]
    rfl
  | succ k ih =>
    have hr : r < T.length := by omega
    rw [dn_step hr, viewP_app, ih (by omega) (by omega), List.drop_eq_getElem_cons hr, List.getD_eq_getElem?_getD, List.getElem?_eq_getElem hr]
    rfl

set_option maxRecDepth 100000 in
set_option linter.unusedSimpArgs false in
set_option maxHeartbeats 8000000 in
theorem implShot_any (v : Value) (N : List Int) (S : List (List Sv)) (a : Int) (w : World) (h : VolR w v N S) (hN : N.length ≤ 1048576) (hS : S.length + sumN S ≤ 1048576) (ha : -9223372036854775808 ≤ a ∧ a ≤ 9223372036854775807) :
    Calls Try.prog 30 #[v, .int .i64 a] w (ShPost (shotV N S a) w) := by
  have HR := Lib.hid h
  obtain ⟨A, c, B, d, rfl, hA, hB, hc1, hc2, hd1, hd2⟩ := h
  have HR0 := Lib.hid (HR.out.alloc (.cells #[.slice A N.length c, .slice B S.length d] 29))
  have K0 := Lib.hid (show Blk (w.alloc (.cells #[.slice A N.length c, .slice B S.length d] 29)) w.heap.size 29 #[.slice A N.length c, .slice B S.length d] from Blk.new rfl)
  have C0 := Lib.hid (show Below w.heap.size w (w.alloc (.cells #[.slice A N.length c, .slice B S.length d] 29)) from b_alloc (Below.refl _ _) _)
  have Z0 : (w.alloc (.cells #[.slice A N.length c, .slice B S.length d] 29)).heap.size = w.heap.size + 1 := by simp
  have d2 : IntKind.i64.wrap ((S.length : Int) - 1) = (S.length : Int) - 1 := IntWalk.i64_in _ (by omega)
  clear hA hB
  have hdd : S.length ≤ 1048576 := by omega
  cases hv : volB N S
  · have hno := Lib.hid (fun (A' : Option Addr) (c' : Nat) (w' : World) ho hb => sh_no (A := A') (c := c') (w := w) (w' := w') (show dropB N S a = false by simp [dropB, hv]) ho hb)
    go_enter Try.func30, Try.ntmps30
    go_wp2_with fail
    refine (implVol_any _ N S _ HR0.out (by omega) (by omega)).mono ?_
    rintro e w1 ⟨rfl, b1⟩
    rw [hv]
    have C1 := Lib.hid (C0.out.trans (b1.mono (by omega)))
    clear hv b1
    go_wp2
    go_ret
    exact hno.out none 0 _ (World.ownsRow_nil _ _ _ _) C1.out
  cases ga : inB a 0 ((S.length : Int) - 1)
  · have hno := Lib.hid (fun (A' : Option Addr) (c' : Nat) (w' : World) ho hb => sh_no (A := A') (c := c') (w := w) (w' := w') (show dropB N S a = false by simp [dropB, hv, ga]) ho hb)
    go_enter Try.func30, Try.ntmps30
    go_wp2_with fail
    refine (implVol_any _ N S _ HR0.out (by omega) (by omega)).mono ?_
    rintro e w1 ⟨rfl, b1⟩
    rw [hv]
    obtain ⟨x0, x1, _, _⟩ := (blk_below b1 K0.out K0.out.lt).two
    have C1 := Lib.hid (C0.out.trans (b1.mono (by omega)))
    clear hv b1
    go_wp2_with fail
    (try rw [d2])
    refine (within_is ga _).mono ?_
    rintro e w' ⟨rfl, rfl⟩
    go_wp2
    go_ret
    exact hno.out none 0 _ (World.ownsRow_nil _ _ _ _) C1.out
  obtain ⟨n, rfl⟩ : ∃ n : Nat, a = n := ⟨a.toNat, by simp [inB] at ga; omega⟩
  have hn : n < S.length := by simp [inB] at ga; omega
  have hyes := Lib.hid (fun (A' : Option Addr) (c' : Nat) (w' : World) ho hb => sh_yes (A := A') (c := c') (w := w) (w' := w') (show dropB N S n = true by simp [dropB, hv, ga]) ho hb)
  have HOK := Lib.hid (vol_iff.1 hv).2.2
  have HV := Lib.hid hv
  clear hv
  refine (callsIn_wide (n := 4)).1 ?_
  refine callsIn_of_wp_marks Try.func30 rfl trivial ?_ rfl
  simp only [Try.ntmps30, List.size_toArray, List.length_cons, List.length_nil, Nat.reduceAdd, Nat.reduceSub, Array.replicate_succ, Array.replicate_zero, List.push_toArray, List.append_toArray, List.nil_append, List.cons_append]
  gi_wp2_with fail
  refine ⟨trivial, ?_⟩
  refine (callsIn_wide.2 (implVol_any _ N S _ HR0.out (by omega) (by omega))).mono ?_
  rintro e w1 ⟨rfl, b1⟩
  rw [HV.out]
  have k1 := Lib.hid (blk_below b1 K0.out K0.out.lt)
  obtain ⟨x0, x1, _, _⟩ := k1.out.two
  have R1 := Lib.hid (HR0.out.below b1)
  have C1 := Lib.hid (C0.out.trans (b1.mono (by omega)))
  have Z1 : w.heap.size + 1 ≤ w1.heap.size := by have := b1.size; omega
  clear b1 HR0 K0 C0 HV
  gi_wp2_with fail
  (try rw [d2])
  refine ⟨trivial, ?_⟩
  refine (callsIn_wide.2 (within_is ga _)).mono ?_
  rintro e w' ⟨rfl, rfl⟩
  have hNin : IntsIn w1 A N := by
    obtain ⟨A', c', B', d', e', h1, _⟩ := R1.out
    injection e' with e'
    simp only [Array.mk.injEq, List.cons.injEq, and_true, Value.slice.injEq] at e'
    obtain ⟨⟨rfl, _, rfl⟩, _⟩ := e'
    exact h1
  have HNI := Lib.hid hNin
  clear hNin
  gi_wp2_with fail
  refine ⟨trivial, ?_⟩
  refine (callsIn_wide.2 (cloneIV_any _ _ N _ HNI.out (by omega))).mono ?_
  rintro e w2 ⟨A3, c3, rfl, o3, b2⟩
  have k2 := Lib.hid ((blk_below b2 k1.out k1.out.lt).alloc (.cells #[.slice A3 N.length c3] 22))
  obtain ⟨y0, y1, _, _⟩ := k2.out.two
  have Z2 := b2.size
  have ix1 : (0 : Int) ≤ (n : Int) := by omega
  have ix2 : (n : Int) ≤ (S.length : Int) := by omega
  have hdn : (S.length : Int) ≤ (d : Int) := by omega
  have hnd : (n : Int) < (d : Int) := by omega
  obtain ⟨b, off, hBe, hcells⟩ : ∃ b off, B = some ⟨b, off, none⟩ ∧ ∀ i (h : i < S.length), ∃ Ai ci, w1.cell? ⟨b, off + i, none⟩ = some (.slice Ai S[i].length ci) ∧ ReadC w1 Ai (savC S[i]) ∧ S[i].length ≤ ci ∧ ci ≤ 9223372036854775807 := by
    obtain ⟨A', c', B', d', e', _, h1, _⟩ := R1.out
    injection e' with e'
    simp only [Array.mk.injEq, List.cons.injEq, and_true, Value.slice.injEq] at e'
    obtain ⟨_, rfl, _, rfl⟩ := e'
    exact h1 (by omega)
  subst hBe
  have HC := Lib.hid hcells
  have O3 := Lib.hid o3
  have B2 := Lib.hid b2
  clear hcells x0 x1 o3 b2
  gi_wp2_with fail
  refine ⟨trivial, ?_⟩
  refine (back_in Fence.wide 3 trivial rfl _ _ _ _).mono ?_
  rintro e w' ⟨rfl, rfl⟩
  gi_wp2_with fail
  have HB2 : Below w1.heap.size w1 ((w2.alloc (.cells #[.slice A3 N.length c3] 22)).alloc (.cells #[.slice (some ⟨b, off + n, none⟩) (S.length - n) (d - n)] 27)) := b_alloc (b_alloc B2.out _) _
  obtain ⟨hsf, hcs, hsP⟩ : ∃ hsf : Nat → Value, (∀ j, j < S.length - n → w1.cell? ⟨b, off + n + j, none⟩ = some (hsf j)) ∧ ∀ x, ∃ Ax cx, hsf x = .slice Ax ((S.drop n).getD x []).length cx ∧ ReadC w1 Ax (savC ((S.drop n).getD x [])) ∧ RowOk N.length ((S.drop n).getD x []) ∧ ((S.drop n).getD x []).length ≤ 1048576 ∧ ((S.drop n).getD x []).length ≤ cx ∧ cx ≤ 9223372036854775807 := by
    have hcell : ∀ j (hj : j < S.length - n), ∃ Ax cx, w1.cell? ⟨b, off + n + j, none⟩ = some (.slice Ax ((S.drop n).getD j []).length cx) ∧ ReadC w1 Ax (savC ((S.drop n).getD j [])) ∧ RowOk N.length ((S.drop n).getD j []) ∧ ((S.drop n).getD j []).length ≤ 1048576 ∧ ((S.drop n).getD j []).length ≤ cx ∧ cx ≤ 9223372036854775807 := by
      intro j hj
      have e : (S.drop n).getD j [] = S[n + j]'(by omega) := by rw [List.getD_eq_getElem?_getD, List.getElem?_drop, List.getElem?_eq_getElem (by omega)]; rfl
      rw [e]
      obtain ⟨Ai, ci, h1, h2, h3, h4⟩ := HC.out (n + j) (by omega)
      have hsm := sumN_get (L := S) (k := n + j) (by omega)
      exact ⟨Ai, ci, by rw [Nat.add_assoc]; exact h1, h2, HOK.out _ (List.getElem_mem _), by omega, h3, h4⟩
    refine ⟨fun x => if x < S.length - n then (w1.cell? ⟨b, off + n + x, none⟩).getD (.slice none 0 0) else .slice none 0 0, fun j hj => ?_, fun x => ?_⟩
    · obtain ⟨Ax, cx, h1, _⟩ := hcell j hj
      simp only [if_pos hj]
      rw [h1]
      rfl
    · by_cases hx : x < S.length - n
      · obtain ⟨Ax, cx, h1, h2⟩ := hcell x hx
        refine ⟨Ax, cx, ?_, h2⟩
        simp only [if_pos hx]
        rw [h1]
        rfl
      · have e : (S.drop n).getD x [] = [] := by rw [List.getD_eq_getElem?_getD, List.getElem?_eq_none (by rw [List.length_drop]; omega)]; rfl
        rw [e]
        refine ⟨none, 0, ?_, fun h => by simp [savC] at h, ⟨by simp, by simp⟩, by simp, by simp, by omega⟩
        simp only [if_neg hx]
        rfl
  have HS := Lib.hid hsP
  have h1s : ∀ j, ∃ A m c, hsf j = .slice A m c := fun j => by obtain ⟨Ax, cx, h, _⟩ := hsP j; exact ⟨_, _, _, h⟩
  have hblt : b < w1.heap.size := by obtain ⟨Ai, ci, h, _⟩ := HC.out 0 (by omega); exact block_lt_of_cell h
  have HG := Lib.hid (fun g (hg : (Value.slice A3 N.length c3).ownBlock = some g) => O3.out.lt g hg)
  have bS := Boxed.new w2 22 (.slice A3 N.length c3)
  have bN := Boxed.new (w2.alloc (.cells #[.slice A3 N.length c3] 22)) 27 (.slice (some ⟨b, off + n, none⟩) (S.length - n) (d - n))
  rw [World.size_alloc] at bN
  have hbc := bN.cell
  have hcs2 : ∀ j, j < S.length - n → ((w2.alloc (.cells #[.slice A3 N.length c3] 22)).alloc (.cells #[.slice (some ⟨b, off + n, none⟩) (S.length - n) (d - n)] 27)).cell? ⟨b, off + n + j, none⟩ = some (hsf j) := fun j hj => (HB2.cell (p := ⟨b, off + n + j, none⟩) hblt).trans (hcs j hj)
  have OO := (O3.out.alloc (.cells #[.slice A3 N.length c3] 22)).alloc (.cells #[.slice (some ⟨b, off + n, none⟩) (S.length - n) (d - n)] 27)
  have hsz0 : ((w2.alloc (.cells #[.slice A3 N.length c3] 22)).alloc (.cells #[.slice (some ⟨b, off + n, none⟩) (S.length - n) (d - n)] 27)).heap.size = w2.heap.size + 2 := by simp
  have bS2 := bS.alloc (.cells #[.slice (some ⟨b, off + n, none⟩) (S.length - n) (d - n)] 27)
  obtain ⟨W0, hW0⟩ : ∃ W0, W0 = ((w2.alloc (.cells #[.slice A3 N.length c3] 22)).alloc (.cells #[.slice (some ⟨b, off + n, none⟩) (S.length - n) (d - n)] 27)) := ⟨_, rfl⟩
  rw [← hW0] at HB2 hbc hcs2 OO hsz0 bS2 ⊢
  clear hcs hsP bS bN hW0 y0 y1
  have DN := Lib.hid (viewP_dn (N := N) (T := S.drop n) (r := 0) (by omega))
  rw [List.length_drop] at DN
  refine wpIn_rangeFunc_ownF (F := Fence.wide) (n := 4) rfl (by omega) (gf := 75) (lb := #[.pointer (some ⟨w2.heap.size + 1, 0, none⟩)]) rfl trivial (enters_of Try.func75 (by kernel_rfl) rfl)
    (back_stops Fence.wide 3 trivial rfl (by omega) (w2.heap.size + 1) w1.heap.size b (off + n) (S.length - n) (d - n) hsf (by omega) W0 (by omega) (by omega) hblt hbc hcs2 h1s) KpB.trans
    (fun W l o o' hl ho h1 _ => ⟨belowK_b (w := W0) (by omega) W l o o' hl ho h1 (by assumption), World.putObj_heap_other (by omega)⟩) (Below.refl _ _) (fun _ => rfl)
    (fun pre W => (∃ v, Boxed W w2.heap.size 22 v ∧ W.ownsRow w1.heap.size 3 1 v N.length ((viewP N (S.drop n) pre).map (Value.int .i64)) ∧ v = .slice A3 N.length c3) ∧ Below w1.heap.size W0 W)
    (fun _ _ _ => False)
    (OwnFrom.and (Own.from (holdsRow_own w1.heap.size w2.heap.size 22 3 1 (fun _ => N.length) (fun pre => (viewP N (S.drop n) pre).map (Value.int .i64)) (fun _ v => v = .slice A3 N.length c3)) _) (ownFrom_below (by omega) (by omega)))
    (fun _ _ _ _ _ hs _ _ => hs)
    ⟨⟨_, bS2, OO, rfl⟩, Below.refl _ _⟩
    (fun x => { tmps := #[.agg #[.slice A N.length c, .slice (some ⟨b, off, none⟩) S.length d], .int .i64 (n : Int), .pointer (some ⟨w.heap.size, 0, none⟩), undef, .slice none 0 0, .pointer (some ⟨w2.heap.size, 0, none⟩), undef, hsf x, undef, undef, .agg #[.slice A N.length c, .slice (some ⟨b, off, none⟩) S.length d], .bool true, .bool false, .bool false, .int .i64 (n : Int), .pointer (some ⟨w.heap.size, 1, none⟩), .slice (some ⟨b, off, none⟩) S.length d, .int .i64 (S.length : Int), .int .i64 ((S.length : Int) - 1), .bool true, .bool false, .bool false, .pointer (some ⟨w.heap.size, 0, none⟩), .slice A N.length c, .slice A3 N.length c3, .pointer (some ⟨w.heap.size, 1, none⟩), .slice (some ⟨b, off, none⟩) S.length d, .int .i64 (n : Int), .slice (some ⟨b, off + n, none⟩) (S.length - n) (d - n), .func (.func 75) #[] #[.pointer (some ⟨w2.heap.size + 1, 0, none⟩)], .int .i64 (x : Int), hsf x, undef, undef, undef, undef, undef, undef, undef, undef, undef, undef, undef, undef, undef, undef], defers := [] }) ?assign ?body ?done ?stop
  case assign =>
    intro l x W K hK
    gi_wp2
    exact hK
  case body =>
    rintro l pre x W ⟨⟨v, hv, hO, rfl⟩, hB⟩ _
    obtain ⟨Ax, cx, hx, hrd, hok, hpl, hpc, hcm⟩ := HS.out x
    simp only [hx]
    have VS := Lib.hid (viewP_app (N := N) (T := S.drop n) (pre := pre) (x := x))
    have VL := Lib.hid (viewP_len (N := N) (T := S.drop n) (pre := pre))
    obtain ⟨p, hp⟩ : ∃ p, p = (S.drop n).getD x [] := ⟨_, rfl⟩
    obtain ⟨V, hV⟩ : ∃ V, V = viewP N (S.drop n) pre := ⟨_, rfl⟩
    rw [← hp] at hrd hok hpl hpc VS ⊢
    rw [← hV] at hO VS VL
    have HRD := Lib.hid hrd
    have HRO := Lib.hid hok
    have HBB := Lib.hid (HB2.trans hB)
    have HBW := Lib.hid hB
    have hsW := hB.size
    clear hx hp hV hrd hok hB h1s hcs2
    gi_wp2
    gi_loopw [34] (fun i wr => ∃ k : Nat, k ≤ p.length ∧ i = .int .i64 k ∧ Hid (Boxed wr w2.heap.size 22 (.slice A3 N.length c3)) ∧ Hid (wr.ownsRow w1.heap.size 3 1 (.slice A3 N.length c3) N.length ((wrSh V (p.take k)).map (Value.int .i64))) ∧ Hid (KeepsOthers W wr) ∧ Hid (KpB w1.heap.size (w2.heap.size + 1) W wr)) (fun i _ => p.length - (intOf i).toNat)
    case atStart => exact ⟨0, Nat.zero_le _, rfl, hv, hO, KeepsOthers.refl _, KpB.refl _ _ _⟩
    case round =>
      obtain ⟨k, hk, rfl, BX, O, KO, KP⟩ := hrel
      by_cases hlt : k < p.length
      · have BW := HBB.out.trans KP.out.1
        obtain ⟨bk, ok, rfl, hcs⟩ := (SavedIn.of (HRD.out.keep BW.block)) (by omega)
        obtain ⟨y0, y1⟩ := hcs k hlt
        have hst := Lib.hid (wrSh_take (o := V) hlt)
        have hqr := (HRO.out.1 p[k] (List.getElem_mem hlt)).1
        obtain ⟨⟨q1, q2⟩, hq⟩ : ∃ q : Int × Int, q = p[k] := ⟨_, rfl⟩
        rw [← hq] at y0 y1 hst hqr
        simp only at y0 y1 hqr
        obtain ⟨t, rfl⟩ : ∃ t : Nat, q1 = t := ⟨q1.toNat, by omega⟩
        have htN : t < N.length := by omega
        have hOa := O.out.alloc (.cells #[.int .i64 (t : Int), .int .i64 q2] 44)
        rcases own_cases hOa with ⟨_, h0⟩ | ⟨g3, cap3, hv3, hg3, hg3s⟩
        · omega
        injection hv3 with hA3 _ hc3
        subst hA3 hc3
        have hg3w := HG.out g3 rfl
        have hstored := hOa.stored t (.int .i64 q2)
        have hcell := hOa.cellAt t (by omega)
        have hfr := hOa.frozenAt t
        have hlw : (wrSh V (p.take k)).length = N.length := by rw [wrSh_len]; exact VL.out
        rw [List.getElem?_eq_getElem (by rw [List.length_map, hlw]; exact htN)] at hcell
        have O2 := Lib.hid (show (((wr.alloc (.cells #[.int .i64 (t : Int), .int .i64 q2] 44)).setCell ⟨g3, t, none⟩ (.int .i64 q2)).ownsRow w1.heap.size 3 1 (.slice (some ⟨g3, 0, none⟩) N.length c3) N.length ((wrSh V (p.take (k + 1))).map (Value.int .i64))) by
          have h1 := hstored.1
          rw [hst.out]
          simp only [Int.toNat_natCast]
          rw [List.map_set]
          exact h1)
        have BXa := BX.out.alloc (.cells #[.int .i64 (t : Int), .int .i64 q2] 44)
        have hbx := BXa.cell
        have BX2 := Lib.hid (show Boxed (((wr.alloc (.cells #[.int .i64 (t : Int), .int .i64 q2] 44)).setCell ⟨g3, t, none⟩ (.int .i64 q2))) w2.heap.size 22 (.slice (some ⟨g3, 0, none⟩) N.length c3) from (Below.heap_setCell _ _ _ _ (by show w2.heap.size ≠ g3; omega)).trans BXa)
        have KO2 := Lib.hid ((KO.out.trans (KeepsOthers.alloc wr (.cells #[.int .i64 (t : Int), .int .i64 q2] 44))).trans (KeepsOthers.setCell _ ⟨g3, t, none⟩ (.int .i64 q2)))
        have hwz := BW.size
        have hbs : w2.heap.size + 1 < wr.heap.size := by have := KO.out.size; omega
        have KP2 := Lib.hid (show KpB w1.heap.size (w2.heap.size + 1) W ((wr.alloc (.cells #[.int .i64 (t : Int), .int .i64 q2] 44)).setCell ⟨g3, t, none⟩ (.int .i64 q2)) from
          ⟨(KP.out.1.alloc (by omega) _).setCell (p := ⟨g3, t, none⟩) hg3 _, ((Below.heap_setCell _ _ _ _ (by show w2.heap.size + 1 ≠ g3; omega)).trans (Below.heap_alloc _ _ _ hbs)).trans KP.out.2⟩)
        have ix3 : (0 : Int) ≤ (k : Int) := by omega
        have ix4 : (k : Int) < (p.length : Int) := by omega
        have ix5 : (0 : Int) ≤ (t : Int) := by omega
        have ix6 : (t : Int) < (N.length : Int) := by omega
        generalize ((wrSh V (p.take k)).map (Value.int .i64))[t]'_ = uu at hcell
        clear hstored hcs hst hq hqr O KO KP BX hlw hOa BXa BW
        gi_wp2
        go_roundw
        case rel => exact ⟨k + 1, by omega, by go_num, BX2, O2, KO2, KP2⟩
        case measure => simp [intOf]; omega
      · have O2 := O.out
        rw [List.take_of_length_le (by omega), ← VS.out] at O2
        gi_wp2
        exact ⟨KO.out, KP.out, ⟨_, BX.out, O2, rfl⟩, HBW.out.trans KP.out.1⟩
  case done =>
    rintro D ys W hD rfl ⟨⟨v, hv, hO, rfl⟩, hB⟩ hK
    have hbx := hv.cell
    rw [DN.out] at hO
    gi_wp2
    refine ⟨by simp, .inl ⟨_, _, rfl, run_takeDeferred hK, ?_⟩⟩
    refine ⟨.slice A3 N.length c3, by simp [results, Try.results30, go_sem], ?_⟩
    exact hyes.out A3 c3 _ (own_mono (ownsRow_putObj hO _ hK rfl) (by omega)) (C1.out.trans (((HB2.trans hB).trans (belowK_b (w := W0) (by omega) W D _ _ hD hK rfl rfl)).mono (by omega)))
  case stop =>
    rintro D c pre W _ _ h _
    exact h.elim
end Go.Proofs.Ytkjjieofoolnhaa
