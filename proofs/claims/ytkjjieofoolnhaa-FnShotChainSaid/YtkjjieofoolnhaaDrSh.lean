/- The draws of the laws on snapshots. -/
import Derived.Test.YtkjjieofoolnhaaDrVr
import Derived.Test.YtkjjieofoolnhaaRegZ
namespace Go.Proofs.Ytkjjieofoolnhaa
open Go.RowKit
set_option linter.unusedVariables false

theorem World.grownBy_refl' (w : World) (row : Option Nat) : w.grownBy w row := ⟨rfl, rfl, rfl, Nat.le_refl _, fun _ _ _ => rfl⟩
def DrawnVN (W : World) (e : Ending) (w' : World) : Prop :=
  ∃ v N S, ∃ n : Int, e = .returned (.tuple #[v, .int .i64 n]) ∧ (∀ w'' : World, (∀ k, W.heap.size ≤ k → k < w'.heap.size → w''.heap[k]? = w'.heap[k]?) → VolR w'' v N S) ∧ N.length ≤ 70 ∧ S.length + sumN S ≤ 40 ∧ Below W.heap.size W w' ∧ -2 ≤ n ∧ n ≤ 100
def DrawnVNX (W : World) (e : Ending) (w' : World) : Prop :=
  ∃ v N S, ∃ n x : Int, e = .returned (.tuple #[v, .int .i64 n, .int .i64 x]) ∧ (∀ w'' : World, (∀ k, W.heap.size ≤ k → k < w'.heap.size → w''.heap[k]? = w'.heap[k]?) → VolR w'' v N S) ∧ N.length ≤ 70 ∧ S.length + sumN S ≤ 40 ∧ Below W.heap.size W w' ∧ -2 ≤ n ∧ n ≤ 100 ∧ -1 ≤ x ∧ x ≤ 256
set_option maxHeartbeats 2000000 in
theorem drawTS_any (A : Option Addr) (m c : Nat) (W : World) (hb : BytesIn W A m) (hmc : m ≤ c) (hc : c ≤ 9223372036854775807) :
    Calls Try.prog 34 #[.slice A m c] W (DrawnVV W) := by
  go_enter Try.func34, Try.ntmps34
  have K0 := Lib.hid (Blk.new (w := W) (g := W.heap.size) (t := 29) (cs := #[.slice none 0 0, .slice none 0 0]) rfl)
  have C0 := Lib.hid (b_alloc (Below.refl W.heap.size W) (.cells #[.slice none 0 0, .slice none 0 0] 29))
  go_wp2_with fail
  refine (open_any A m c _ (vbytes_alloc hb _) hmc hc).mono ?_
  rintro e w1 ⟨rfl, hr, hb1, hs1⟩
  have K1 := Lib.hid (blk_below hb1 K0.out K0.out.lt)
  have C1 := Lib.hid (C0.out.trans (hb1.mono C0.out.size))
  rw [World.size_alloc] at hr
  have hr1 := Lib.hid hr
  clear K0 C0 hb1 hr
  go_wp2_with fail
  refine (l20Volume_any (W.heap.size + 1) 0 _ _ hr1.out (by omega) (by omega)).mono ?_
  rintro e w2 ⟨v, N, S, rfl, ht, lN, lS, hg, _⟩
  have T2 := Lib.hid ht
  obtain ⟨A2, c2, B2, d2, rfl, _⟩ := ht w2 (fun k _ _ => rfl)
  have K2 := Lib.hid (show Blk w2 W.heap.size 29 #[.slice none 0 0, .slice none 0 0] from blk_grown hg K1.out (by intro e; injection e with e; simp at e))
  have C2 := Lib.hid (vbgrown C1.out hg)
  have hz := hg.size
  simp at hs1
  have Z := Lib.hid (show DrawnVV W (.returned (.agg #[.slice A2 N.length c2, .slice B2 S.length d2])) ((w2.setCell ⟨W.heap.size, 0, none⟩ (.slice A2 N.length c2)).setCell ⟨W.heap.size, 1, none⟩ (.slice B2 S.length d2)) from
    ⟨_, N, S, rfl, T2.out _ (fun k hk _ => by rw [Below.heap_setCell _ _ _ _ (by show k ≠ W.heap.size; omega), Below.heap_setCell _ _ _ _ (by show k ≠ W.heap.size; omega)]), lN, lS, (C2.out.setCell (Nat.le_refl _) _).setCell (Nat.le_refl _) _⟩)
  obtain ⟨y0, y1, g0, g1⟩ := K2.out.two
  clear T2 K1 C1 hr1 hg C2 K2
  go_wp2
  exact bodyPost_ret (v := .agg #[.slice A2 N.length c2, .slice B2 S.length d2]) (by simp [results, Try.results34, go_sem, y0, y1]) rfl Z.out

set_option linter.unusedSimpArgs false in
set_option maxHeartbeats 4000000 in
theorem drawSV_any (A : Option Addr) (m c : Nat) (W : World) (hb : BytesIn W A m) (hmc : m ≤ c) (hc : c ≤ 9223372036854775807) :
    Calls Try.prog 29 #[.slice A m c] W (DrawnVN W) := by
  go_enter Try.func29, Try.ntmps29
  have K0 := Lib.hid (Blk.new (w := W) (g := W.heap.size) (t := 29) (cs := #[.slice none 0 0, .slice none 0 0]) rfl)
  have C0 := Lib.hid (b_alloc (Below.refl W.heap.size W) (.cells #[.slice none 0 0, .slice none 0 0] 29))
  go_wp2_with fail
  refine (open_any A m c _ (vbytes_alloc hb _) hmc hc).mono ?_
  rintro e w1 ⟨rfl, hr, hb1, hs1⟩
  have K1 := Lib.hid (blk_below hb1 K0.out K0.out.lt)
  have C1 := Lib.hid (C0.out.trans (hb1.mono C0.out.size))
  rw [World.size_alloc] at hr
  have hr1 := Lib.hid hr
  clear K0 C0 hb1 hr
  go_wp2_with fail
  refine (l20Volume_any (W.heap.size + 1) 0 _ _ hr1.out (by omega) (by omega)).mono ?_
  rintro e w2 ⟨v, N, S, rfl, ht, lN, lS, hg, hrd⟩
  have T2 := Lib.hid ht
  obtain ⟨A2, c2, B2, d2, rfl, _⟩ := ht w2 (fun k _ _ => rfl)
  have K2 := Lib.hid (show Blk w2 W.heap.size 29 #[.slice none 0 0, .slice none 0 0] from blk_grown hg K1.out (by intro e; injection e with e; simp at e))
  have C2 := Lib.hid (vbgrown C1.out hg)
  have hz := hg.size
  simp at hs1
  have K3 := Lib.hid (K2.out.alloc (.cells #[.slice A2 N.length c2, .slice B2 S.length d2] 29))
  have C3 := Lib.hid (b_alloc C2.out (.cells #[.slice A2 N.length c2, .slice B2 S.length d2] 29))
  have KX := (show Blk (w2.alloc (.cells #[.slice A2 N.length c2, .slice B2 S.length d2] 29)) w2.heap.size 29 #[.slice A2 N.length c2, .slice B2 S.length d2] from Blk.new rfl)
  obtain ⟨a0, a1, _, _⟩ := KX.two
  have RD0 := Lib.hid (show RdAt (w2.alloc (.cells #[.slice A2 N.length c2, .slice B2 S.length d2] 29)).drew (W.heap.size + 1) 100002000 from (hrd.alloc _).drew)
  have T3 := Lib.hid (fun (w'' : World) (hk : ∀ k, W.heap.size + 2 ≤ k → k < w2.heap.size → w''.heap[k]? = (w2.alloc (.cells #[.slice A2 N.length c2, .slice B2 S.length d2] 29)).heap[k]?) => T2.out w'' (fun k k1 k2 => (hk k (by omega) k2).trans (Below.heap_alloc _ _ _ k2)))
  have HG0 := Lib.hid (gdrew (World.grownBy_refl' (w2.alloc (.cells #[.slice A2 N.length c2, .slice B2 S.length d2] 29)) (some (W.heap.size + 1))))
  have dwS : IntKind.i64.wrap ((S.length : Int) + 1) = (S.length : Int) + 1 := IntWalk.i64_in _ (by omega)
  have dwN : IntKind.i64.wrap ((N.length : Int) + 1) = (N.length : Int) + 1 := IntWalk.i64_in _ (by omega)
  have hz3 : (w2.alloc (.cells #[.slice A2 N.length c2, .slice B2 S.length d2] 29)).heap.size = w2.heap.size + 1 := by simp
  have hnx : w2.heap.size ≠ W.heap.size + 1 := by omega
  clear hg hrd T2 K2 C2 K1 C1 hr1 KX ht
  go_wp2
  generalize hw3 : w2.alloc (.cells #[.slice A2 N.length c2, .slice B2 S.length d2] 29) = w3 at *
  clear hw3
  refine wp_region_Z (fun w' : World => w'.cell? ⟨w2.heap.size, 0, none⟩ = some (.slice A2 N.length c2) ∧ w'.cell? ⟨w2.heap.size, 1, none⟩ = some (.slice B2 S.length d2)) 99 (by kernel_rfl) ?_
  refine wpAnyZ_take (i := 0) (oi := ?o1) (v := ?v1) ?hi1 (by kernel_rfl) (by kernel_rfl) (by kernel_rfl) (by kernel_rfl) ?hq1 ?hy1 ⟨a0, a1⟩ ?rest1
  case hi1 => simp only [List.getElem?_toArray, List.getElem?_cons_succ, List.getElem?_cons_zero]; rfl
  case hq1 => exact fun _ _ _ h => h
  case hy1 => (refine Or.inl ⟨by rfl, ?_⟩; intro w hSw; (try dsimp only at hSw); go_simp; (try with_reducible rfl))
  simp only [Act.put, List.setIfInBounds_toArray, List.set_cons_zero, List.set_cons_succ]
  refine wpAnyZ_take (i := 1) (oi := ?o2) (v := ?v2) ?hi2 (by kernel_rfl) (by kernel_rfl) (by kernel_rfl) (by kernel_rfl) ?hq2 ?hy2 ⟨a0, a1⟩ ?rest2
  case hi2 => simp only [List.getElem?_toArray, List.getElem?_cons_succ, List.getElem?_cons_zero]; rfl
  case hq2 => exact fun _ _ _ h => h
  case hy2 => (refine Or.inl ⟨by rfl, ?_⟩; intro w hSw; (try dsimp only at hSw); go_simp; (try with_reducible rfl))
  simp only [Act.put, List.setIfInBounds_toArray, List.set_cons_zero, List.set_cons_succ]
  refine wpAnyZ_take (i := 2) (oi := ?o3) (v := ?v3) ?hi3 (by kernel_rfl) (by kernel_rfl) (by kernel_rfl) (by kernel_rfl) ?hq3 ?hy3 ⟨a0, a1⟩ ?rest3
  case hi3 => simp only [List.getElem?_toArray, List.getElem?_cons_succ, List.getElem?_cons_zero]; rfl
  case hq3 => exact fun _ _ _ h => h
  case hy3 => (refine Or.inl ⟨by rfl, ?_⟩; intro w hSw; (try dsimp only at hSw); go_simp; (try with_reducible rfl))
  simp only [Act.put, List.setIfInBounds_toArray, List.set_cons_zero, List.set_cons_succ]
  refine wpAnyZ_take (i := 3) (oi := ?o4) (v := ?v4) ?hi4 (by kernel_rfl) (by kernel_rfl) (by kernel_rfl) (by kernel_rfl) ?hq4 ?hy4 ⟨a0, a1⟩ ?rest4
  case hi4 => simp only [List.getElem?_toArray, List.getElem?_cons_succ, List.getElem?_cons_zero]; rfl
  case hq4 => exact fun _ _ _ h => h
  case hy4 => (refine Or.inl ⟨by rfl, ?_⟩; intro w hSw; (try dsimp only at hSw); go_simp; (try with_reducible rfl))
  simp only [Act.put, List.setIfInBounds_toArray, List.set_cons_zero, List.set_cons_succ]
  refine wpAnyZ_take (i := 4) (oi := ?o5) (v := ?v5) ?hi5 (by kernel_rfl) (by kernel_rfl) (by kernel_rfl) (by kernel_rfl) ?hq5 ?hy5 ⟨a0, a1⟩ ?rest5
  case hi5 => simp only [List.getElem?_toArray, List.getElem?_cons_succ, List.getElem?_cons_zero]; rfl
  case hq5 => exact fun _ _ _ h => h
  case hy5 => (refine Or.inl ⟨by rfl, ?_⟩; intro w hSw; (try dsimp only at hSw); go_simp; (try with_reducible rfl))
  simp only [Act.put, List.setIfInBounds_toArray, List.set_cons_zero, List.set_cons_succ]
  refine wpAnyZ_take (i := 5) (oi := ?o6) (v := ?v6) ?hi6 (by kernel_rfl) (by kernel_rfl) (by kernel_rfl) (by kernel_rfl) ?hq6 ?hy6 ⟨a0, a1⟩ ?rest6
  case hi6 => simp only [List.getElem?_toArray, List.getElem?_cons_succ, List.getElem?_cons_zero]; rfl
  case hq6 => exact fun _ _ _ h => h
  case hy6 => (refine Or.inl ⟨by rfl, ?_⟩; intro w hSw; (try dsimp only at hSw); go_simp; (try with_reducible rfl))
  simp only [Act.put, List.setIfInBounds_toArray, List.set_cons_zero, List.set_cons_succ]
  refine wpAnyZ_take (i := 7) (oi := ?o7) (v := ?v7) ?hi7 (by kernel_rfl) (by kernel_rfl) (by kernel_rfl) (by kernel_rfl) ?hq7 ?hy7 ⟨a0, a1⟩ ?rest7
  case hi7 => simp only [List.getElem?_toArray, List.getElem?_cons_succ, List.getElem?_cons_zero]; rfl
  case hq7 => exact fun _ _ _ h => h
  case hy7 => (refine Or.inl ⟨by rfl, ?_⟩; intro w hSw; (try dsimp only at hSw); go_simp; (try with_reducible rfl))
  simp only [Act.put, List.setIfInBounds_toArray, List.set_cons_zero, List.set_cons_succ]
  refine wpAnyZ_one (i := 6) (o := ?o8) (by kernel_rfl) ?hi8 (fun K hK => ?rest8)
  case hi8 => simp only [List.getElem?_toArray, List.getElem?_cons_succ, List.getElem?_cons_zero]; rfl
  go_simp
  (try rw [dwS])
  (try rw [dwN])
  go_at_call 60; refine (pick_in (W.heap.size + 1) 100002000 _ _ RD0.out (by omega) (by omega)).mono ?_; rintro e v0 ⟨x0, rfl, p0, q0, hr0, hg0, hs0⟩; (try dsimp only)
  have RD1 := Lib.hid hr0
  have HG1 := Lib.hid (gtrans HG0.out hg0)
  have c00 := cell_grow (w := w3.drew) a0 hg0 (fun e => hnx (by injection e))
  have c01 := cell_grow (w := w3.drew) a1 hg0 (fun e => hnx (by injection e))
  refine hK.out _ _ (.inr ⟨c00, c01⟩) ?_
  clear hK K
  (try simp only [Act.put, List.setIfInBounds_toArray, List.set_cons_zero, List.set_cons_succ])
  refine wpAnyZ_one (i := 8) (o := ?o9) (by kernel_rfl) ?hi9 (fun K hK => ?rest9)
  case hi9 => simp only [List.getElem?_toArray, List.getElem?_cons_succ, List.getElem?_cons_zero]; rfl
  go_simp
  (try rw [dwS])
  (try rw [dwN])
  go_at_call 60; refine (pick_in (W.heap.size + 1) 100002001 _ _ RD1.out (by omega) (by omega)).mono ?_; rintro e v1 ⟨x1, rfl, p1, q1, hr1, hg1, hs1⟩; (try dsimp only)
  have RD2 := Lib.hid hr1
  have HG2 := Lib.hid (gtrans HG1.out hg1)
  have c10 := cell_grow (w := v0) c00 hg1 (fun e => hnx (by injection e))
  have c11 := cell_grow (w := v0) c01 hg1 (fun e => hnx (by injection e))
  refine hK.out _ _ (.inr ⟨c10, c11⟩) ?_
  clear hK K
  (try simp only [Act.put, List.setIfInBounds_toArray, List.set_cons_zero, List.set_cons_succ])
  refine wpAnyZ_take (i := 9) (oi := ?o10) (v := ?v10) ?hi10 (by kernel_rfl) (by kernel_rfl) (by kernel_rfl) (by kernel_rfl) ?hq10 ?hy10 ⟨c10, c11⟩ ?rest10
  case hi10 => simp only [List.getElem?_toArray, List.getElem?_cons_succ, List.getElem?_cons_zero]; rfl
  case hq10 => exact fun _ _ _ h => h
  case hy10 => (refine Or.inl ⟨by rfl, ?_⟩; intro w hSw; (try dsimp only at hSw); go_simp; (try with_reducible rfl))
  simp only [Act.put, List.setIfInBounds_toArray, List.set_cons_zero, List.set_cons_succ]
  refine wpAnyZ_take (i := 10) (oi := ?o11) (v := ?v11) ?hi11 (by kernel_rfl) (by kernel_rfl) (by kernel_rfl) (by kernel_rfl) ?hq11 ?hy11 ⟨c10, c11⟩ ?rest11
  case hi11 => simp only [List.getElem?_toArray, List.getElem?_cons_succ, List.getElem?_cons_zero]; rfl
  case hq11 => exact fun _ _ _ h => h
  case hy11 => (refine Or.inl ⟨by rfl, ?_⟩; intro w hSw; (try dsimp only at hSw); go_simp; (try with_reducible rfl))
  simp only [Act.put, List.setIfInBounds_toArray, List.set_cons_zero, List.set_cons_succ]
  have KR := blk_grown HG2.out K3.out (by intro e; injection e with e; omega)
  obtain ⟨y0, y1, g0, g1⟩ := KR.two
  have FR := ((KR.set 0 (.slice A2 N.length c2)).set 1 (.slice B2 S.length d2)).two
  obtain ⟨r0, r1, _, _⟩ := FR
  refine wpAnyZ_one (i := 11) (o := ?o12) (by kernel_rfl) ?hi12 (fun K hK => ?rest12)
  case hi12 => simp only [List.getElem?_toArray, List.getElem?_cons_succ, List.getElem?_cons_zero]; rfl
  go_simp
  refine hK.out _ _ (.inr ⟨cell_far (cell_far c10 (by show w2.heap.size ≠ W.heap.size; omega)) (by show w2.heap.size ≠ W.heap.size; omega), cell_far (cell_far c11 (by show w2.heap.size ≠ W.heap.size; omega)) (by show w2.heap.size ≠ W.heap.size; omega)⟩) ?_
  clear hK K
  (try simp only [Act.put, List.setIfInBounds_toArray, List.set_cons_zero, List.set_cons_succ])
  refine wpAnyZ_take (i := 12) (oi := ?o13) (v := ?v13) ?hi13 (by kernel_rfl) (by kernel_rfl) (by kernel_rfl) (by kernel_rfl) ?hq13 ?hy13 ⟨cell_far (cell_far c10 (by show w2.heap.size ≠ W.heap.size; omega)) (by show w2.heap.size ≠ W.heap.size; omega), cell_far (cell_far c11 (by show w2.heap.size ≠ W.heap.size; omega)) (by show w2.heap.size ≠ W.heap.size; omega)⟩ ?rest13
  case hi13 => simp only [List.getElem?_toArray, List.getElem?_cons_succ, List.getElem?_cons_zero]; rfl
  case hq13 => exact fun _ _ _ h => h
  case hy13 => (refine Or.inl ⟨by rfl, ?_⟩; intro w hSw; (try dsimp only at hSw); go_simp; (try with_reducible rfl))
  simp only [Act.put, List.setIfInBounds_toArray, List.set_cons_zero, List.set_cons_succ]
  refine wpAnyZ_done (by kernel_rfl) ?_ _
  have hgz := HG2.out.size
  have Z := Lib.hid (show DrawnVN W (.returned (.tuple #[.agg #[.slice A2 N.length c2, .slice B2 S.length d2], .int .i64 (x0 - x1 / 11)])) ((v1.setCell ⟨W.heap.size, 0, none⟩ (.slice A2 N.length c2)).setCell ⟨W.heap.size, 1, none⟩ (.slice B2 S.length d2)) from
    ⟨_, N, S, _, rfl, fun w'' hk => T3.out w'' (fun k k1 k2 => by rw [hk k (by omega) (by simp; omega), Below.heap_setCell _ _ _ _ (by show k ≠ W.heap.size; omega), Below.heap_setCell _ _ _ _ (by show k ≠ W.heap.size; omega)]; exact HG2.out.block k (by omega) (by intro e; injection e with e; omega)), lN, lS, ((C3.out.grown HG2.out C3.out.size (fun k e => by injection e with e; omega)).setCell (Nat.le_refl _) _).setCell (Nat.le_refl _) _, by omega, by omega⟩)
  clear T3 C3 K3 dwS dwN
  go_wp2
  have e1 : IntKind.i64.wrap (x1.tdiv 11) = x1 / 11 := by rw [Int.tdiv_eq_ediv_of_nonneg p1]; exact IntWalk.i64_in _ (by omega)
  have e2 : IntKind.i64.wrap (x0 - x1 / 11) = x0 - x1 / 11 := IntWalk.i64_in _ (by omega)
  exact bodyPost_ret (v := .tuple #[.agg #[.slice A2 N.length c2, .slice B2 S.length d2], .int .i64 (x0 - x1 / 11)]) (by simp [results, Try.results29, go_sem, r0, r1, e1, e2]) rfl Z.out

set_option linter.unusedSimpArgs false in
set_option maxHeartbeats 4000000 in
theorem drawVW_any (A : Option Addr) (m c : Nat) (W : World) (hb : BytesIn W A m) (hmc : m ≤ c) (hc : c ≤ 9223372036854775807) :
    Calls Try.prog 36 #[.slice A m c] W (DrawnVNX W) := by
  go_enter Try.func36, Try.ntmps36
  have K0 := Lib.hid (Blk.new (w := W) (g := W.heap.size) (t := 29) (cs := #[.slice none 0 0, .slice none 0 0]) rfl)
  have C0 := Lib.hid (b_alloc (Below.refl W.heap.size W) (.cells #[.slice none 0 0, .slice none 0 0] 29))
  go_wp2_with fail
  refine (open_any A m c _ (vbytes_alloc hb _) hmc hc).mono ?_
  rintro e w1 ⟨rfl, hr, hb1, hs1⟩
  have K1 := Lib.hid (blk_below hb1 K0.out K0.out.lt)
  have C1 := Lib.hid (C0.out.trans (hb1.mono C0.out.size))
  rw [World.size_alloc] at hr
  have hr1 := Lib.hid hr
  clear K0 C0 hb1 hr
  go_wp2_with fail
  refine (l20Volume_any (W.heap.size + 1) 0 _ _ hr1.out (by omega) (by omega)).mono ?_
  rintro e w2 ⟨v, N, S, rfl, ht, lN, lS, hg, hrd⟩
  have T2 := Lib.hid ht
  obtain ⟨A2, c2, B2, d2, rfl, _⟩ := ht w2 (fun k _ _ => rfl)
  have K2 := Lib.hid (show Blk w2 W.heap.size 29 #[.slice none 0 0, .slice none 0 0] from blk_grown hg K1.out (by intro e; injection e with e; simp at e))
  have C2 := Lib.hid (vbgrown C1.out hg)
  have hz := hg.size
  simp at hs1
  have K3 := Lib.hid (K2.out.alloc (.cells #[.slice A2 N.length c2, .slice B2 S.length d2] 29))
  have C3 := Lib.hid (b_alloc C2.out (.cells #[.slice A2 N.length c2, .slice B2 S.length d2] 29))
  have KX := (show Blk (w2.alloc (.cells #[.slice A2 N.length c2, .slice B2 S.length d2] 29)) w2.heap.size 29 #[.slice A2 N.length c2, .slice B2 S.length d2] from Blk.new rfl)
  obtain ⟨a0, a1, _, _⟩ := KX.two
  have RD0 := Lib.hid (show RdAt (w2.alloc (.cells #[.slice A2 N.length c2, .slice B2 S.length d2] 29)).drew (W.heap.size + 1) 100002000 from (hrd.alloc _).drew)
  have T3 := Lib.hid (fun (w'' : World) (hk : ∀ k, W.heap.size + 2 ≤ k → k < w2.heap.size → w''.heap[k]? = (w2.alloc (.cells #[.slice A2 N.length c2, .slice B2 S.length d2] 29)).heap[k]?) => T2.out w'' (fun k k1 k2 => (hk k (by omega) k2).trans (Below.heap_alloc _ _ _ k2)))
  have HG0 := Lib.hid (gdrew (World.grownBy_refl' (w2.alloc (.cells #[.slice A2 N.length c2, .slice B2 S.length d2] 29)) (some (W.heap.size + 1))))
  have dwS : IntKind.i64.wrap ((S.length : Int) + 1) = (S.length : Int) + 1 := IntWalk.i64_in _ (by omega)
  have dwN : IntKind.i64.wrap ((N.length : Int) + 1) = (N.length : Int) + 1 := IntWalk.i64_in _ (by omega)
  have hz3 : (w2.alloc (.cells #[.slice A2 N.length c2, .slice B2 S.length d2] 29)).heap.size = w2.heap.size + 1 := by simp
  have hnx : w2.heap.size ≠ W.heap.size + 1 := by omega
  clear hg hrd T2 K2 C2 K1 C1 hr1 KX ht
  go_wp2
  generalize hw3 : w2.alloc (.cells #[.slice A2 N.length c2, .slice B2 S.length d2] 29) = w3 at *
  clear hw3
  refine wp_region_Z (fun w' : World => w'.cell? ⟨w2.heap.size, 0, none⟩ = some (.slice A2 N.length c2) ∧ w'.cell? ⟨w2.heap.size, 1, none⟩ = some (.slice B2 S.length d2)) 99 (by kernel_rfl) ?_
  refine wpAnyZ_take (i := 0) (oi := ?o14) (v := ?v14) ?hi14 (by kernel_rfl) (by kernel_rfl) (by kernel_rfl) (by kernel_rfl) ?hq14 ?hy14 ⟨a0, a1⟩ ?rest14
  case hi14 => simp only [List.getElem?_toArray, List.getElem?_cons_succ, List.getElem?_cons_zero]; rfl
  case hq14 => exact fun _ _ _ h => h
  case hy14 => (refine Or.inl ⟨by rfl, ?_⟩; intro w hSw; (try dsimp only at hSw); go_simp; (try with_reducible rfl))
  simp only [Act.put, List.setIfInBounds_toArray, List.set_cons_zero, List.set_cons_succ]
  refine wpAnyZ_take (i := 1) (oi := ?o15) (v := ?v15) ?hi15 (by kernel_rfl) (by kernel_rfl) (by kernel_rfl) (by kernel_rfl) ?hq15 ?hy15 ⟨a0, a1⟩ ?rest15
  case hi15 => simp only [List.getElem?_toArray, List.getElem?_cons_succ, List.getElem?_cons_zero]; rfl
  case hq15 => exact fun _ _ _ h => h
  case hy15 => (refine Or.inl ⟨by rfl, ?_⟩; intro w hSw; (try dsimp only at hSw); go_simp; (try with_reducible rfl))
  simp only [Act.put, List.setIfInBounds_toArray, List.set_cons_zero, List.set_cons_succ]
  refine wpAnyZ_take (i := 2) (oi := ?o16) (v := ?v16) ?hi16 (by kernel_rfl) (by kernel_rfl) (by kernel_rfl) (by kernel_rfl) ?hq16 ?hy16 ⟨a0, a1⟩ ?rest16
  case hi16 => simp only [List.getElem?_toArray, List.getElem?_cons_succ, List.getElem?_cons_zero]; rfl
  case hq16 => exact fun _ _ _ h => h
  case hy16 => (refine Or.inl ⟨by rfl, ?_⟩; intro w hSw; (try dsimp only at hSw); go_simp; (try with_reducible rfl))
  simp only [Act.put, List.setIfInBounds_toArray, List.set_cons_zero, List.set_cons_succ]
  refine wpAnyZ_take (i := 3) (oi := ?o17) (v := ?v17) ?hi17 (by kernel_rfl) (by kernel_rfl) (by kernel_rfl) (by kernel_rfl) ?hq17 ?hy17 ⟨a0, a1⟩ ?rest17
  case hi17 => simp only [List.getElem?_toArray, List.getElem?_cons_succ, List.getElem?_cons_zero]; rfl
  case hq17 => exact fun _ _ _ h => h
  case hy17 => (refine Or.inl ⟨by rfl, ?_⟩; intro w hSw; (try dsimp only at hSw); go_simp; (try with_reducible rfl))
  simp only [Act.put, List.setIfInBounds_toArray, List.set_cons_zero, List.set_cons_succ]
  refine wpAnyZ_take (i := 4) (oi := ?o18) (v := ?v18) ?hi18 (by kernel_rfl) (by kernel_rfl) (by kernel_rfl) (by kernel_rfl) ?hq18 ?hy18 ⟨a0, a1⟩ ?rest18
  case hi18 => simp only [List.getElem?_toArray, List.getElem?_cons_succ, List.getElem?_cons_zero]; rfl
  case hq18 => exact fun _ _ _ h => h
  case hy18 => (refine Or.inl ⟨by rfl, ?_⟩; intro w hSw; (try dsimp only at hSw); go_simp; (try with_reducible rfl))
  simp only [Act.put, List.setIfInBounds_toArray, List.set_cons_zero, List.set_cons_succ]
  refine wpAnyZ_take (i := 5) (oi := ?o19) (v := ?v19) ?hi19 (by kernel_rfl) (by kernel_rfl) (by kernel_rfl) (by kernel_rfl) ?hq19 ?hy19 ⟨a0, a1⟩ ?rest19
  case hi19 => simp only [List.getElem?_toArray, List.getElem?_cons_succ, List.getElem?_cons_zero]; rfl
  case hq19 => exact fun _ _ _ h => h
  case hy19 => (refine Or.inl ⟨by rfl, ?_⟩; intro w hSw; (try dsimp only at hSw); go_simp; (try with_reducible rfl))
  simp only [Act.put, List.setIfInBounds_toArray, List.set_cons_zero, List.set_cons_succ]
  refine wpAnyZ_take (i := 7) (oi := ?o20) (v := ?v20) ?hi20 (by kernel_rfl) (by kernel_rfl) (by kernel_rfl) (by kernel_rfl) ?hq20 ?hy20 ⟨a0, a1⟩ ?rest20
  case hi20 => simp only [List.getElem?_toArray, List.getElem?_cons_succ, List.getElem?_cons_zero]; rfl
  case hq20 => exact fun _ _ _ h => h
  case hy20 => (refine Or.inl ⟨by rfl, ?_⟩; intro w hSw; (try dsimp only at hSw); go_simp; (try with_reducible rfl))
  simp only [Act.put, List.setIfInBounds_toArray, List.set_cons_zero, List.set_cons_succ]
  refine wpAnyZ_take (i := 11) (oi := ?o21) (v := ?v21) ?hi21 (by kernel_rfl) (by kernel_rfl) (by kernel_rfl) (by kernel_rfl) ?hq21 ?hy21 ⟨a0, a1⟩ ?rest21
  case hi21 => simp only [List.getElem?_toArray, List.getElem?_cons_succ, List.getElem?_cons_zero]; rfl
  case hq21 => exact fun _ _ _ h => h
  case hy21 => (refine Or.inl ⟨by rfl, ?_⟩; intro w hSw; (try dsimp only at hSw); go_simp; (try with_reducible rfl))
  simp only [Act.put, List.setIfInBounds_toArray, List.set_cons_zero, List.set_cons_succ]
  refine wpAnyZ_one (i := 6) (o := ?o22) (by kernel_rfl) ?hi22 (fun K hK => ?rest22)
  case hi22 => simp only [List.getElem?_toArray, List.getElem?_cons_succ, List.getElem?_cons_zero]; rfl
  go_simp
  (try rw [dwS])
  (try rw [dwN])
  go_at_call 60; refine (pick_in (W.heap.size + 1) 100002000 _ _ RD0.out (by omega) (by omega)).mono ?_; rintro e v0 ⟨x0, rfl, p0, q0, hr0, hg0, hs0⟩; (try dsimp only)
  have RD1 := Lib.hid hr0
  have HG1 := Lib.hid (gtrans HG0.out hg0)
  have c00 := cell_grow (w := w3.drew) a0 hg0 (fun e => hnx (by injection e))
  have c01 := cell_grow (w := w3.drew) a1 hg0 (fun e => hnx (by injection e))
  refine hK.out _ _ (.inr ⟨c00, c01⟩) ?_
  clear hK K
  (try simp only [Act.put, List.setIfInBounds_toArray, List.set_cons_zero, List.set_cons_succ])
  refine wpAnyZ_one (i := 8) (o := ?o23) (by kernel_rfl) ?hi23 (fun K hK => ?rest23)
  case hi23 => simp only [List.getElem?_toArray, List.getElem?_cons_succ, List.getElem?_cons_zero]; rfl
  go_simp
  (try rw [dwS])
  (try rw [dwN])
  go_at_call 60; refine (pick_in (W.heap.size + 1) 100002001 _ _ RD1.out (by omega) (by omega)).mono ?_; rintro e v1 ⟨x1, rfl, p1, q1, hr1, hg1, hs1⟩; (try dsimp only)
  have RD2 := Lib.hid hr1
  have HG2 := Lib.hid (gtrans HG1.out hg1)
  have c10 := cell_grow (w := v0) c00 hg1 (fun e => hnx (by injection e))
  have c11 := cell_grow (w := v0) c01 hg1 (fun e => hnx (by injection e))
  refine hK.out _ _ (.inr ⟨c10, c11⟩) ?_
  clear hK K
  (try simp only [Act.put, List.setIfInBounds_toArray, List.set_cons_zero, List.set_cons_succ])
  refine wpAnyZ_take (i := 9) (oi := ?o24) (v := ?v24) ?hi24 (by kernel_rfl) (by kernel_rfl) (by kernel_rfl) (by kernel_rfl) ?hq24 ?hy24 ⟨c10, c11⟩ ?rest24
  case hi24 => simp only [List.getElem?_toArray, List.getElem?_cons_succ, List.getElem?_cons_zero]; rfl
  case hq24 => exact fun _ _ _ h => h
  case hy24 => (refine Or.inl ⟨by rfl, ?_⟩; intro w hSw; (try dsimp only at hSw); go_simp; (try with_reducible rfl))
  simp only [Act.put, List.setIfInBounds_toArray, List.set_cons_zero, List.set_cons_succ]
  refine wpAnyZ_take (i := 10) (oi := ?o25) (v := ?v25) ?hi25 (by kernel_rfl) (by kernel_rfl) (by kernel_rfl) (by kernel_rfl) ?hq25 ?hy25 ⟨c10, c11⟩ ?rest25
  case hi25 => simp only [List.getElem?_toArray, List.getElem?_cons_succ, List.getElem?_cons_zero]; rfl
  case hq25 => exact fun _ _ _ h => h
  case hy25 => (refine Or.inl ⟨by rfl, ?_⟩; intro w hSw; (try dsimp only at hSw); go_simp; (try with_reducible rfl))
  simp only [Act.put, List.setIfInBounds_toArray, List.set_cons_zero, List.set_cons_succ]
  refine wpAnyZ_one (i := 12) (o := ?o26) (by kernel_rfl) ?hi26 (fun K hK => ?rest26)
  case hi26 => simp only [List.getElem?_toArray, List.getElem?_cons_succ, List.getElem?_cons_zero]; rfl
  go_simp
  (try rw [dwS])
  (try rw [dwN])
  go_at_call 60; refine (pick_in (W.heap.size + 1) 100002002 _ _ RD2.out (by omega) (by omega)).mono ?_; rintro e v2 ⟨x2, rfl, p2, q2, hr2, hg2, hs2⟩; (try dsimp only)
  have RD3 := Lib.hid hr2
  have HG3 := Lib.hid (gtrans HG2.out hg2)
  have c20 := cell_grow (w := v1) c10 hg2 (fun e => hnx (by injection e))
  have c21 := cell_grow (w := v1) c11 hg2 (fun e => hnx (by injection e))
  refine hK.out _ _ (.inr ⟨c20, c21⟩) ?_
  clear hK K
  (try simp only [Act.put, List.setIfInBounds_toArray, List.set_cons_zero, List.set_cons_succ])
  refine wpAnyZ_take (i := 13) (oi := ?o27) (v := ?v27) ?hi27 (by kernel_rfl) (by kernel_rfl) (by kernel_rfl) (by kernel_rfl) ?hq27 ?hy27 ⟨c20, c21⟩ ?rest27
  case hi27 => simp only [List.getElem?_toArray, List.getElem?_cons_succ, List.getElem?_cons_zero]; rfl
  case hq27 => exact fun _ _ _ h => h
  case hy27 => (refine Or.inl ⟨by rfl, ?_⟩; intro w hSw; (try dsimp only at hSw); go_simp; (try with_reducible rfl))
  simp only [Act.put, List.setIfInBounds_toArray, List.set_cons_zero, List.set_cons_succ]
  have KR := blk_grown HG3.out K3.out (by intro e; injection e with e; omega)
  obtain ⟨y0, y1, g0, g1⟩ := KR.two
  have FR := ((KR.set 0 (.slice A2 N.length c2)).set 1 (.slice B2 S.length d2)).two
  obtain ⟨r0, r1, _, _⟩ := FR
  refine wpAnyZ_one (i := 14) (o := ?o28) (by kernel_rfl) ?hi28 (fun K hK => ?rest28)
  case hi28 => simp only [List.getElem?_toArray, List.getElem?_cons_succ, List.getElem?_cons_zero]; rfl
  go_simp
  refine hK.out _ _ (.inr ⟨cell_far (cell_far c20 (by show w2.heap.size ≠ W.heap.size; omega)) (by show w2.heap.size ≠ W.heap.size; omega), cell_far (cell_far c21 (by show w2.heap.size ≠ W.heap.size; omega)) (by show w2.heap.size ≠ W.heap.size; omega)⟩) ?_
  clear hK K
  (try simp only [Act.put, List.setIfInBounds_toArray, List.set_cons_zero, List.set_cons_succ])
  refine wpAnyZ_take (i := 15) (oi := ?o29) (v := ?v29) ?hi29 (by kernel_rfl) (by kernel_rfl) (by kernel_rfl) (by kernel_rfl) ?hq29 ?hy29 ⟨cell_far (cell_far c20 (by show w2.heap.size ≠ W.heap.size; omega)) (by show w2.heap.size ≠ W.heap.size; omega), cell_far (cell_far c21 (by show w2.heap.size ≠ W.heap.size; omega)) (by show w2.heap.size ≠ W.heap.size; omega)⟩ ?rest29
  case hi29 => simp only [List.getElem?_toArray, List.getElem?_cons_succ, List.getElem?_cons_zero]; rfl
  case hq29 => exact fun _ _ _ h => h
  case hy29 => (refine Or.inl ⟨by rfl, ?_⟩; intro w hSw; (try dsimp only at hSw); go_simp; (try with_reducible rfl))
  simp only [Act.put, List.setIfInBounds_toArray, List.set_cons_zero, List.set_cons_succ]
  refine wpAnyZ_take (i := 16) (oi := ?o30) (v := ?v30) ?hi30 (by kernel_rfl) (by kernel_rfl) (by kernel_rfl) (by kernel_rfl) ?hq30 ?hy30 ⟨cell_far (cell_far c20 (by show w2.heap.size ≠ W.heap.size; omega)) (by show w2.heap.size ≠ W.heap.size; omega), cell_far (cell_far c21 (by show w2.heap.size ≠ W.heap.size; omega)) (by show w2.heap.size ≠ W.heap.size; omega)⟩ ?rest30
  case hi30 => simp only [List.getElem?_toArray, List.getElem?_cons_succ, List.getElem?_cons_zero]; rfl
  case hq30 => exact fun _ _ _ h => h
  case hy30 => (refine Or.inl ⟨by rfl, ?_⟩; intro w hSw; (try dsimp only at hSw); go_simp; (try with_reducible rfl))
  simp only [Act.put, List.setIfInBounds_toArray, List.set_cons_zero, List.set_cons_succ]
  refine wpAnyZ_done (by kernel_rfl) ?_ _
  have hgz := HG3.out.size
  have Z := Lib.hid (show DrawnVNX W (.returned (.tuple #[.agg #[.slice A2 N.length c2, .slice B2 S.length d2], .int .i64 (x0 - x1 / 11), .int .i64 (x2 - 1)])) ((v2.setCell ⟨W.heap.size, 0, none⟩ (.slice A2 N.length c2)).setCell ⟨W.heap.size, 1, none⟩ (.slice B2 S.length d2)) from
    ⟨_, N, S, _, _, rfl, fun w'' hk => T3.out w'' (fun k k1 k2 => by rw [hk k (by omega) (by simp; omega), Below.heap_setCell _ _ _ _ (by show k ≠ W.heap.size; omega), Below.heap_setCell _ _ _ _ (by show k ≠ W.heap.size; omega)]; exact HG3.out.block k (by omega) (by intro e; injection e with e; omega)), lN, lS, ((C3.out.grown HG3.out C3.out.size (fun k e => by injection e with e; omega)).setCell (Nat.le_refl _) _).setCell (Nat.le_refl _) _, by omega, by omega, by omega, by omega⟩)
  clear T3 C3 K3 dwS dwN
  go_wp2
  have e1 : IntKind.i64.wrap (x1.tdiv 11) = x1 / 11 := by rw [Int.tdiv_eq_ediv_of_nonneg p1]; exact IntWalk.i64_in _ (by omega)
  have e2 : IntKind.i64.wrap (x0 - x1 / 11) = x0 - x1 / 11 := IntWalk.i64_in _ (by omega)
  have e3 : IntKind.i64.wrap (x2 - 1) = x2 - 1 := IntWalk.i64_in _ (by omega)
  exact bodyPost_ret (v := .tuple #[.agg #[.slice A2 N.length c2, .slice B2 S.length d2], .int .i64 (x0 - x1 / 11), .int .i64 (x2 - 1)]) (by simp [results, Try.results36, go_sem, r0, r1, e1, e2, e3]) rfl Z.out

set_option maxHeartbeats 2000000 in
theorem drawDS_any (A : Option Addr) (m c : Nat) (W : World) (hb : BytesIn W A m) (hmc : m ≤ c) (hc : c ≤ 9223372036854775807) :
    Calls Try.prog 41 #[.slice A m c] W (DrawnVN W) := by
  go_enter Try.func41, Try.ntmps41
  have K0 := Lib.hid (Blk.new (w := W) (g := W.heap.size) (t := 29) (cs := #[.slice none 0 0, .slice none 0 0]) rfl)
  have C0 := Lib.hid (b_alloc (Below.refl W.heap.size W) (.cells #[.slice none 0 0, .slice none 0 0] 29))
  go_wp2_with fail
  refine (drawSV_any A m c _ (vbytes_alloc hb _) hmc hc).mono ?_
  rintro e w1 ⟨v, N, S, n, rfl, hv, lN, lS, b1, n0, n1⟩
  have HV := Lib.hid hv
  obtain ⟨A2, c2, B2, d2, rfl, h1, h2, hr⟩ := hv w1 (fun k _ _ => rfl)
  have K1 := blk_below b1 K0.out K0.out.lt
  have C1 := Lib.hid (C0.out.trans (b1.mono C0.out.size))
  obtain ⟨y0, y1, g0, g1⟩ := K1.two
  obtain ⟨r0, r1, _, _⟩ := ((K1.set 0 (.slice A2 N.length c2)).set 1 (.slice B2 S.length d2)).two
  have Z := Lib.hid (show DrawnVN W (.returned (.tuple #[.agg #[.slice A2 N.length c2, .slice B2 S.length d2], .int .i64 n])) ((w1.setCell ⟨W.heap.size, 0, none⟩ (.slice A2 N.length c2)).setCell ⟨W.heap.size, 1, none⟩ (.slice B2 S.length d2)) from
    ⟨_, N, S, n, rfl, fun w'' hk => HV.out w'' (fun k k1 k2 => by rw [World.size_alloc] at k1; rw [hk k (by omega) (by simpa using k2), Below.heap_setCell _ _ _ _ (by show k ≠ W.heap.size; omega), Below.heap_setCell _ _ _ _ (by show k ≠ W.heap.size; omega)]), lN, lS, (C1.out.setCell (Nat.le_refl _) _).setCell (Nat.le_refl _) _, n0, n1⟩)
  clear hv HV K0 C0 C1 b1 h1 h2
  go_wp2
  exact bodyPost_ret (v := .tuple #[.agg #[.slice A2 N.length c2, .slice B2 S.length d2], .int .i64 n]) (by simp [results, Try.results41, go_sem, r0, r1]) rfl Z.out
end Go.Proofs.Ytkjjieofoolnhaa
