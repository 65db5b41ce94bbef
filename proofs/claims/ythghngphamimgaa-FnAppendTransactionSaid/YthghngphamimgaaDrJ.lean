/- The draw of journals. -/
import Derived.Test.YthghngphamimgaaRecA
import Derived.Test.YthghngphamimgaaRd
namespace Go.Proofs.Ythghngphamimgaa
open Go.RowKit
set_option linter.unusedVariables false

theorem readc_news {w : World} {T : TypeId} {cs : Array Value} {xs : List Value} (h : xs = cs.toList) : ReadC (w.alloc (.cells cs T)) (some ⟨w.heap.size, 0, none⟩) xs := by
  subst h
  intro h0
  refine ⟨w.heap.size, 0, rfl, fun i hi => ?_⟩
  rw [Nat.zero_add, cell_of_row _ _ _ _ _ _ (heap_alloc_new w _)]
  rw [Array.length_toList] at hi
  rw [Array.getElem?_eq_getElem hi, Array.getElem_toList]
/-- What a drawn record's number may be. -/
def numOk (r : Rc) : Prop := r.1 ≤ 7 ∨ r.1 = 41
/-- The state of the draw: the reader rb, the row gd that says which transactions are done, the journal R. -/
def JS (W : World) (rb Q gd : Nat) (ds : List Bool) (D : Option Addr) (cp : Nat) (R : List Rc) (w : World) : Prop :=
  RdAt w rb Q ∧ w.ownsRow W.heap.size 4 1 (.slice (some ⟨gd, 0, none⟩) 6 6) 6 (ds.map Value.bool) ∧ RowR w W.heap.size D cp R ∧ (∀ g, (Value.slice D R.length cp).ownBlock = some g → g ≠ gd) ∧ W.grownBy w (some rb) ∧ rb < W.heap.size
section
variable {W w w' : World} {rb Q Q' gd cp : Nat} {ds : List Bool} {D : Option Addr} {R : List Rc}
theorem JS.pick (h : JS W rb Q gd ds D cp R w) (hr : RdAt w' rb Q') (hg : w.grownBy w' (some rb)) : JS W rb Q' gd ds D cp R w' := by
  obtain ⟨a, b, c, d, e, f⟩ := h
  exact ⟨hr, own_block b (fun g hq => hg.block g (b.lt g hq).2 (fun e => by injection e with e; have := (b.lt g hq).1; omega)), own_block c (fun g hq => hg.block g (c.lt g hq).2 (fun e => by injection e with e; have := (c.lt g hq).1; omega)), d, gtrans e hg, f⟩
theorem JS.alloc (h : JS W rb Q gd ds D cp R w) (o : Obj) : JS W rb Q gd ds D cp R (w.alloc o) := by
  obtain ⟨a, b, c, d, e, f⟩ := h
  exact ⟨a.alloc o, b.alloc o, c.alloc o, d, galloc e o, f⟩
theorem JS.app {A' : Option Addr} {c' m : Nat} {R' : List Rc} (h : JS W rb Q gd ds D cp R w) (ho : w'.ownsRow W.heap.size 33 4 (.slice A' m c') m (recC (R ++ R'))) (hm : m = (R ++ R').length)
    (hg : w.grownBy w' (Value.slice D R.length cp).ownBlock) (hn : (Value.slice A' m c').ownBlock = (Value.slice D R.length cp).ownBlock ∨ (Value.slice A' m c').ownBlock = some w.heap.size) : JS W rb Q gd ds A' c' (R ++ R') w' := by
  subst hm
  obtain ⟨a, b, c, d, e, f⟩ := h
  have hlt := b.lt gd rfl
  refine ⟨a.grown hg (fun k hk => by have := (c.lt k hk).1; omega), own_block b (fun g hq => hg.block g (b.lt g hq).2 (fun e => by
      have : g = gd := by simp [Value.ownBlock] at hq; omega
      exact d g e.symm this)), ho, fun g hq => ?_, ?_, f⟩
  · rcases hn with hn | hn
    · exact d g (by rw [← hn]; exact hq)
    · rw [hn] at hq; injection hq with hq; omega
  · exact ⟨hg.os.trans e.os, hg.tape.trans e.tape, hg.output.trans e.output, Nat.le_trans e.size hg.size, fun k hk hn' => (hg.block k (Nat.lt_of_lt_of_le hk e.size) (fun e' => by have := (c.lt k e'.symm).1; omega)).trans (e.block k hk hn')⟩
theorem JS.store (h : JS W rb Q gd ds D cp R w) (t : Nat) (b : Bool) : JS W rb Q gd (ds.set t b) D cp R (w.setCell ⟨gd, t, none⟩ (.bool b)) := by
  obtain ⟨a, b', c, d, e, f⟩ := h
  have hlt := b'.lt gd rfl
  refine ⟨a.setCell (a := ⟨gd, t, none⟩) (by show _ < gd; omega) _, by rw [List.map_set]; exact (b'.stored t (.bool b)).1, own_far (p := ⟨gd, t, none⟩) c (fun g hq => d g hq) _, d, ?_, f⟩
  have hge := (b'.lt gd rfl).1
  exact ⟨e.os, e.tape, e.output, by simpa using e.size, fun k hk hn => (Below.heap_setCell w ⟨gd, t, none⟩ _ k (by show k ≠ gd; omega)).trans (e.block k hk hn)⟩
theorem JS.cells (h : JS W rb Q gd ds D cp R w) (hl : ds.length = 6) (t : Nat) (ht : t < 6) : w.cell? ⟨gd, t, none⟩ = some (.bool (ds[t]'(by omega))) ∧ w.frozen? ⟨gd, t, none⟩ = false := by
  obtain ⟨a, b, c, d, e, f⟩ := h
  refine ⟨?_, b.frozenAt t⟩
  rw [b.cellAt t (by omega), List.getElem?_map, List.getElem?_eq_getElem (by omega)]
  rfl
end

theorem made41 : (madeCells #[Value.int .i64 0, .bool false, .int .i64 0, .int .i64 0] 164).toList = recC (List.replicate 41 (0, false, 0, 0)) := by kernel_rfl
def DrawnJ (rb : Nat) (W : World) (e : Ending) (w' : World) : Prop :=
  ∃ A c l, e = .returned (.slice A l.length c) ∧ RowR w' W.heap.size A c l ∧ l.length ≤ 41 ∧ (∀ r ∈ l, numOk r) ∧ W.grownBy w' (some rb) ∧ ∃ Q, RdAt w' rb Q ∧ Q ≤ 100000000010
theorem rowinfo_bool : (Try.prog.info? 4).map (fun i => (i.zero, i.size, i.bytes)) = some (some (.bool false), 1, 1) := by kernel_rfl
theorem JS.fin {W w : World} {rb Q gd cp : Nat} {ds : List Bool} {D : Option Addr} {R : List Rc} (h : JS W rb Q gd ds D cp R w) (hl : R.length ≤ 41) (hn : ∀ r ∈ R, numOk r) (hQ : Q ≤ 100000000010) : DrawnJ rb W (.returned (.slice D R.length cp)) w :=
  ⟨D, cp, R, rfl, h.2.2.1, hl, hn, h.2.2.2.2.1, Q, h.1, hQ⟩
theorem num_app {R : List Rc} {r : Rc} (h : ∀ r ∈ R, numOk r) (h2 : numOk r) : ∀ x ∈ R ++ [r], numOk x := by
  intro x hx
  rcases List.mem_append.1 hx with hx | hx
  · exact h x hx
  · simp only [List.mem_singleton] at hx; subst hx; exact h2

set_option maxHeartbeats 4000000 in
theorem l20Journal_any (rb P : Nat) (size n : Int) (W : World) (h : RdAt W rb P) (hP : P ≤ 100000000) (hsz : 0 ≤ size ∧ size ≤ 64) (hn : 0 ≤ n ∧ n ≤ 1000) :
    Calls Try.prog 45 #[.pointer (some ⟨rb, 0, none⟩), .int .i64 size, .int .i64 n] W (DrawnJ rb W) := by
  obtain ⟨i0, hi0, hz0, hz1, hz2⟩ := info_parts rowinfo_records
  have hrb := h.lt
  have hmk : ∀ w : World, (Instr.makeSlice 70 (.int .i64 6) (.int .i64 6)).run Try.prog w = .ok (.slice (some ⟨w.heap.size, 0, none⟩) 6 6) (w.alloc (.cells (madeCells #[Value.bool false] 6) 4)) := fun w =>
    make_rows (P := Try.prog) 70 4 (.bool false) 1 1 Try.underlying70 rowinfo_bool 6 (by omega) (by omega) w
  obtain ⟨w0, hw0⟩ : ∃ w0, w0 = (W.alloc (.cells #[] 33)).alloc (.cells (madeCells #[Value.bool false] 6) 4) := ⟨_, rfl⟩
  have J0 := Lib.hid (show JS W rb P (W.heap.size + 1) (List.replicate 6 false) (some ⟨W.heap.size, 0, none⟩) 0 [] w0 from by
    rw [hw0]
    refine ⟨(h.alloc _).alloc _, ?_, (World.ownsRow_lit (e := 33) (size := 4) (base := W.heap.size) W #[] 0 (Nat.le_refl _) (by simp [maxLen]) (by simp)).alloc _, fun g hg => by simp [Value.ownBlock] at hg; omega, galloc (World.grownBy_alloc W _ _) _, h.lt⟩
    exact ⟨by simp, .inr ⟨W.heap.size + 1, 6, _, rfl, by omega, by have := heap_alloc_new (W.alloc (.cells #[] 33)) (.cells (madeCells #[Value.bool false] 6) 4); simpa using this, Nat.le_refl _, by simp [maxLen], by simp [size_madeCells], by rw [toList_madeCells_one]; rfl⟩⟩)
  have HW0 := Lib.hid hw0
  clear h hw0
  go_enter Try.func45, Try.ntmps45
  go_wp2_with fail
  rw [← HW0.out]
  refine (pick_in rb P _ _ J0.out.1 (by omega) (by omega)).mono ?_
  rintro e w1 ⟨x1, rfl, a1, a2, hr1, hg1, -⟩
  obtain ⟨k1, rfl⟩ := Int.eq_ofNat_of_zero_le a1
  have J1 := Lib.hid (J0.out.pick hr1 hg1)
  clear hr1 hg1 J0 HW0 hmk a1
  go_wp2
  go_loopw [7, 9] (fun x y wr => ∃ (k : Nat) (D : Option Addr) (cp : Nat) (R : List Rc) (ds : List Bool) (Q : Nat), k ≤ 15 ∧ x = .slice D R.length cp ∧ y = .int .i64 k ∧ R.length + k ≤ 15 ∧ ds.length = 6 ∧ Q + 4 * k ≤ P + 100 ∧ Hid (∀ r ∈ R, numOk r) ∧ Hid (JS W rb Q (W.heap.size + 1) ds D cp R wr)) (fun _ y _ => (intOf y).toNat)
  case atStart => exact ⟨k1, _, _, [], _, P + 1, by omega, rfl, rfl, by simp; omega, by simp, by omega, fun r hr => by simp at hr, J1⟩
  case round =>
    obtain ⟨k, D, cp, R, ds, Q, hk, rfl, rfl, hRk, hds, hQ, hnum, hJ⟩ := hrel
    by_cases hpos : 0 < k
    · go_wp2_with fail
      refine (pick_in rb Q _ _ hJ.out.1 (by omega) (by omega)).mono ?_
      rintro e w2 ⟨x2, rfl, a1, a2, hr2, hg2, -⟩
      obtain ⟨t, rfl⟩ := Int.eq_ofNat_of_zero_le a1
      have J2 := Lib.hid (hJ.out.pick hr2 hg2)
      clear hr2 hg2 hJ a1
      obtain ⟨cd, fd⟩ := J2.out.cells hds t (by omega)
      obtain ⟨dn, hdn⟩ : ∃ b, b = ds[t]'(by omega) := ⟨_, rfl⟩
      rw [← hdn] at cd
      clear hdn
      have ht6 : t < 6 := by omega
      cases dn
      · go_wp2_with fail
        refine (pick_in rb (Q + 1) _ _ J2.out.1 (by omega) (by omega)).mono ?_
        rintro e w3 ⟨x3, rfl, a3, a4, hr3, hg3, -⟩
        have J3 := Lib.hid (J2.out.pick hr3 hg3)
        clear hr3 hg3 J2 cd fd
        have hcase : x3 = 0 ∨ (0 < x3 ∧ size < 1) ∨ (0 < x3 ∧ 1 ≤ size) := by omega
        rcases hcase with hx0 | ⟨hx0, hs1⟩ | ⟨hx0, hs1⟩
        · subst hx0
          have J4 := Lib.hid (J3.out.alloc (.cells #[.int .i64 t, .bool true, .int .i64 0, .int .i64 0] 33))
          have HRD := Lib.hid (readc_news (w := w3) (T := 33) (cs := #[.int .i64 t, .bool true, .int .i64 0, .int .i64 0]) (xs := recC [((t : Int), true, 0, 0)]) rfl)
          have hnum2 := Lib.hid (num_app hnum.out (r := ((t : Int), true, 0, 0)) (.inl (by show (t : Int) ≤ 7; omega)))
          go_wp2_with (at_builtin; refine wpList_append_r _ rfl (.tmp 32) (.tmp 35) 25 rfl W.heap.size 33 i0 (.agg #[.int .i64 0, .bool false, .int .i64 0, .int .i64 0]) 4 32 Try.underlying25 hi0 hz0 hz1 hz2 rfl (by decide) _ R.length (recC R) J4.out.2.2.1 rfl (some ⟨w3.heap.size, 0, none⟩) 1 1 (recC [((t : Int), true, 0, 0)]) HRD.out rfl rfl (recC_one _) (by simp only [maxLen]; omega) (by omega) (by have := J4.out.2.2.2.2.1.size; omega) ?_; intro v4 w4 o4 g4 n4; obtain ⟨A4, c4, rfl⟩ := own_slice o4; have J5 := Lib.hid (J4.out.app (R' := [((t : Int), true, 0, 0)]) (by rw [recC_append]; exact o4) (by simp) g4 n4); clear o4 g4 n4; obtain ⟨cd5, fd5⟩ := J5.out.cells hds t ht6)
          have J6 := Lib.hid (J5.out.store t true)
          clear J5 J4 J3 HRD
          go_roundw
          case rel => exact ⟨k - 1, A4, c4, R ++ [((t : Int), true, 0, 0)], ds.set t true, Q + 1 + 1, by omega, by simp, by go_num, by simp; omega, by simpa using hds, by omega, hnum2, J6⟩
          case measure => simp [intOf]; omega
        · have e0 : (x3 == 0) = false := by simp; omega
          have J4 := Lib.hid (J3.out.alloc (.cells #[.int .i64 t, .bool true, .int .i64 0, .int .i64 0] 33))
          have HRD := Lib.hid (readc_news (w := w3) (T := 33) (cs := #[.int .i64 t, .bool true, .int .i64 0, .int .i64 0]) (xs := recC [((t : Int), true, 0, 0)]) rfl)
          have hnum2 := Lib.hid (num_app hnum.out (r := ((t : Int), true, 0, 0)) (.inl (by show (t : Int) ≤ 7; omega)))
          go_wp2_with (at_builtin; refine wpList_append_r _ rfl (.tmp 32) (.tmp 35) 25 rfl W.heap.size 33 i0 (.agg #[.int .i64 0, .bool false, .int .i64 0, .int .i64 0]) 4 32 Try.underlying25 hi0 hz0 hz1 hz2 rfl (by decide) _ R.length (recC R) J4.out.2.2.1 rfl (some ⟨w3.heap.size, 0, none⟩) 1 1 (recC [((t : Int), true, 0, 0)]) HRD.out rfl rfl (recC_one _) (by simp only [maxLen]; omega) (by omega) (by have := J4.out.2.2.2.2.1.size; omega) ?_; intro v4 w4 o4 g4 n4; obtain ⟨A4, c4, rfl⟩ := own_slice o4; have J5 := Lib.hid (J4.out.app (R' := [((t : Int), true, 0, 0)]) (by rw [recC_append]; exact o4) (by simp) g4 n4); clear o4 g4 n4; obtain ⟨cd5, fd5⟩ := J5.out.cells hds t ht6)
          have J6 := Lib.hid (J5.out.store t true)
          clear J5 J4 J3 HRD
          go_roundw
          case rel => exact ⟨k - 1, A4, c4, R ++ [((t : Int), true, 0, 0)], ds.set t true, Q + 1 + 1, by omega, by simp, by go_num, by simp; omega, by simpa using hds, by omega, hnum2, J6⟩
          case measure => simp [intOf]; omega
        · have e0 : (x3 == 0) = false := by simp; omega
          go_wp2_with fail
          refine (pick_in rb (Q + 1 + 1) _ _ J3.out.1 (by omega) (by omega)).mono ?_
          rintro e w5 ⟨x5, rfl, _, _, hr5, hg5, -⟩
          have J5 := Lib.hid (J3.out.pick hr5 hg5)
          clear hr5 hg5 J3
          go_wp2_with fail
          refine (pick_in rb (Q + 1 + 1 + 1) _ _ J5.out.1 (by omega) (by omega)).mono ?_
          rintro e w6 ⟨x6, rfl, _, _, hr6, hg6, -⟩
          have J6 := Lib.hid (J5.out.pick hr6 hg6)
          clear hr6 hg6 J5
          have J4 := Lib.hid (J6.out.alloc (.cells #[.int .i64 t, .bool false, .int .i64 x5, .int .i64 x6] 33))
          have HRD := Lib.hid (readc_news (w := w6) (T := 33) (cs := #[.int .i64 t, .bool false, .int .i64 x5, .int .i64 x6]) (xs := recC [((t : Int), false, x5, x6)]) rfl)
          have hnum2 := Lib.hid (num_app hnum.out (r := ((t : Int), false, x5, x6)) (.inl (by show (t : Int) ≤ 7; omega)))
          clear J6
          go_wp2_with (at_builtin; refine wpList_append_r _ rfl (.tmp 40) (.tmp 48) 25 rfl W.heap.size 33 i0 (.agg #[.int .i64 0, .bool false, .int .i64 0, .int .i64 0]) 4 32 Try.underlying25 hi0 hz0 hz1 hz2 rfl (by decide) _ R.length (recC R) J4.out.2.2.1 rfl (some ⟨w6.heap.size, 0, none⟩) 1 1 (recC [((t : Int), false, x5, x6)]) HRD.out rfl rfl (recC_one _) (by simp only [maxLen]; omega) (by omega) (by have := J4.out.2.2.2.2.1.size; omega) ?_; intro v4 w4 o4 g4 n4; obtain ⟨A4, c4, rfl⟩ := own_slice o4; have J5 := Lib.hid (J4.out.app (R' := [((t : Int), false, x5, x6)]) (by rw [recC_append]; exact o4) (by simp) g4 n4); clear o4 g4 n4)
          clear J4 HRD
          go_roundw
          case rel => exact ⟨k - 1, A4, c4, R ++ [((t : Int), false, x5, x6)], ds, Q + 1 + 1 + 1 + 1, by omega, by simp, by go_num, by simp; omega, hds, by omega, hnum2, J5⟩
          case measure => simp [intOf]; omega
      · go_wp2
        go_roundw
        case rel => exact ⟨k - 1, D, cp, R, ds, Q + 1, by omega, rfl, by go_num, by omega, hds, by omega, hnum, J2⟩
        case measure => simp [intOf]; omega
    · obtain rfl : k = 0 := by omega
      go_wp2_with fail
      refine (odd_any rb Q n _ hJ.out.1 (by omega) (by omega)).mono ?_
      rintro e w2 ⟨x2, rfl, hr2, hg2, -⟩
      have J2 := Lib.hid (hJ.out.pick hr2 hg2)
      clear hr2 hg2 hJ
      cases x2
      · have hfin := Lib.hid (J2.out.fin (by omega) hnum.out (by omega))
        clear J2
        go_wp2
        go_ret
        exact hfin.out
      · go_wp2_with fail
        refine (pick_in rb (Q + 1) _ _ J2.out.1 (by omega) (by omega)).mono ?_
        rintro e w3 ⟨x3, rfl, a3, a4, hr3, hg3, -⟩
        have J3 := Lib.hid (J2.out.pick hr3 hg3)
        clear hr3 hg3 J2
        have hcase : x3 = 0 ∨ x3 = 1 ∨ x3 = 2 ∨ x3 = 3 := by omega
        clear a3 a4
        rcases hcase with rfl | rfl | rfl | rfl
        · have J3a := Lib.hid (J3.out.alloc (.cells #[.int .i64 (-1), .int .i64 41] 3))
          have hb3 := heap_alloc_new w3 (.cells #[.int .i64 (-1), .int .i64 41] 3)
          have hne3 : w3.heap.size ≠ rb := by have := J3.out.1.lt; omega
          clear J3
          go_wp2_with fail
          refine (pick_in rb (Q + 1 + 1) _ _ J3a.out.1 (by omega) (by omega)).mono ?_
          rintro e w5 ⟨x5, rfl, a5, a6, hr5, hg5, -⟩
          have J5 := Lib.hid (J3a.out.pick hr5 hg5)
          have y0 := keepr hg5 hb3 hne3 0
          have y1 := keepr hg5 hb3 hne3 1
          simp at y0 y1
          clear hr5 hg5 J3a hb3 hne3
          have hc5 : x5 = 0 ∨ x5 = 1 := by omega
          clear a5 a6
          rcases hc5 with rfl | rfl
          · have J4 := Lib.hid (J5.out.alloc (.cells #[.int .i64 (-1), .bool false, .int .i64 0, .int .i64 0] 33))
            have HRD := Lib.hid (readc_news (w := w5) (T := 33) (cs := #[.int .i64 (-1), .bool false, .int .i64 0, .int .i64 0]) (xs := recC [((-1), false, 0, 0)]) rfl)
            have hnum2 := Lib.hid (num_app hnum.out (r := ((-1), false, 0, 0)) (.inl (by show (-1 : Int) ≤ 7; omega)))
            clear J5
            go_wp2_with (at_builtin; refine wpList_append_r _ rfl (.tmp 58) (.tmp 65) 25 rfl W.heap.size 33 i0 (.agg #[.int .i64 0, .bool false, .int .i64 0, .int .i64 0]) 4 32 Try.underlying25 hi0 hz0 hz1 hz2 rfl (by decide) _ R.length (recC R) J4.out.2.2.1 rfl (some ⟨w5.heap.size, 0, none⟩) 1 1 (recC [((-1), false, 0, 0)]) HRD.out rfl rfl (recC_one _) (by simp only [maxLen]; omega) (by omega) (by have := J4.out.2.2.2.2.1.size; omega) ?_; intro v4 w4 o4 g4 n4; obtain ⟨A4, c4, rfl⟩ := own_slice o4; have J5 := Lib.hid (J4.out.app (R' := [((-1), false, 0, 0)]) (by rw [recC_append]; exact o4) (by simp) g4 n4); clear o4 g4 n4)
            have hfin := Lib.hid (J5.out.fin (by simp; omega) hnum2.out (by omega))
            clear J5 J4 HRD
            have hlen : R.length + 1 = (R ++ [((-1), false, 0, 0)]).length := by simp
            rw [hlen]
            go_wp2
            go_ret
            exact hfin.out
          · have J4 := Lib.hid (J5.out.alloc (.cells #[.int .i64 41, .bool false, .int .i64 0, .int .i64 0] 33))
            have HRD := Lib.hid (readc_news (w := w5) (T := 33) (cs := #[.int .i64 41, .bool false, .int .i64 0, .int .i64 0]) (xs := recC [(41, false, 0, 0)]) rfl)
            have hnum2 := Lib.hid (num_app hnum.out (r := (41, false, 0, 0)) (.inr rfl))
            clear J5
            go_wp2_with (at_builtin; refine wpList_append_r _ rfl (.tmp 58) (.tmp 65) 25 rfl W.heap.size 33 i0 (.agg #[.int .i64 0, .bool false, .int .i64 0, .int .i64 0]) 4 32 Try.underlying25 hi0 hz0 hz1 hz2 rfl (by decide) _ R.length (recC R) J4.out.2.2.1 rfl (some ⟨w5.heap.size, 0, none⟩) 1 1 (recC [(41, false, 0, 0)]) HRD.out rfl rfl (recC_one _) (by simp only [maxLen]; omega) (by omega) (by have := J4.out.2.2.2.2.1.size; omega) ?_; intro v4 w4 o4 g4 n4; obtain ⟨A4, c4, rfl⟩ := own_slice o4; have J5 := Lib.hid (J4.out.app (R' := [(41, false, 0, 0)]) (by rw [recC_append]; exact o4) (by simp) g4 n4); clear o4 g4 n4)
            have hfin := Lib.hid (J5.out.fin (by simp; omega) hnum2.out (by omega))
            clear J5 J4 HRD
            have hlen : R.length + 1 = (R ++ [(41, false, 0, 0)]).length := by simp
            rw [hlen]
            go_wp2
            go_ret
            exact hfin.out
        · have J4 := Lib.hid (J3.out.alloc (.cells #[.int .i64 0, .bool false, .int .i64 size, .int .i64 0] 33))
          have HRD := Lib.hid (readc_news (w := w3) (T := 33) (cs := #[.int .i64 0, .bool false, .int .i64 size, .int .i64 0]) (xs := recC [(0, false, size, 0)]) rfl)
          have hnum2 := Lib.hid (num_app hnum.out (r := (0, false, size, 0)) (.inl (by show (0 : Int) ≤ 7; omega)))
          clear J3
          go_wp2_with (at_builtin; refine wpList_append_r _ rfl (.tmp 69) (.tmp 72) 25 rfl W.heap.size 33 i0 (.agg #[.int .i64 0, .bool false, .int .i64 0, .int .i64 0]) 4 32 Try.underlying25 hi0 hz0 hz1 hz2 rfl (by decide) _ R.length (recC R) J4.out.2.2.1 rfl (some ⟨w3.heap.size, 0, none⟩) 1 1 (recC [(0, false, size, 0)]) HRD.out rfl rfl (recC_one _) (by simp only [maxLen]; omega) (by omega) (by have := J4.out.2.2.2.2.1.size; omega) ?_; intro v4 w4 o4 g4 n4; obtain ⟨A4, c4, rfl⟩ := own_slice o4; have J5 := Lib.hid (J4.out.app (R' := [(0, false, size, 0)]) (by rw [recC_append]; exact o4) (by simp) g4 n4); clear o4 g4 n4)
          have hfin := Lib.hid (J5.out.fin (by simp; omega) hnum2.out (by omega))
          clear J5 J4 HRD
          have hlen : R.length + 1 = (R ++ [(0, false, size, 0)]).length := by simp
          rw [hlen]
          go_wp2
          go_ret
          exact hfin.out
        · have J4 := Lib.hid (J3.out.alloc (.cells #[.int .i64 7, .bool true, .int .i64 0, .int .i64 0, .int .i64 7, .bool true, .int .i64 0, .int .i64 0] 33))
          have HRD := Lib.hid (readc_news (w := w3) (T := 33) (cs := #[.int .i64 7, .bool true, .int .i64 0, .int .i64 0, .int .i64 7, .bool true, .int .i64 0, .int .i64 0]) (xs := recC [(7, true, 0, 0), (7, true, 0, 0)]) rfl)
          have hnum2 := Lib.hid (num_app (num_app hnum.out (r := (7, true, 0, 0)) (.inl (by show (7 : Int) ≤ 7; omega))) (r := (7, true, 0, 0)) (.inl (by show (7 : Int) ≤ 7; omega)))
          rw [List.append_assoc] at hnum2
          clear J3
          go_wp2_with (at_builtin; refine wpList_append_r _ rfl (.tmp 76) (.tmp 79) 25 rfl W.heap.size 33 i0 (.agg #[.int .i64 0, .bool false, .int .i64 0, .int .i64 0]) 4 32 Try.underlying25 hi0 hz0 hz1 hz2 rfl (by decide) _ R.length (recC R) J4.out.2.2.1 rfl (some ⟨w3.heap.size, 0, none⟩) 2 2 (recC [(7, true, 0, 0), (7, true, 0, 0)]) HRD.out rfl rfl (recC_one _) (by simp only [maxLen]; omega) (by omega) (by have := J4.out.2.2.2.2.1.size; omega) ?_; intro v4 w4 o4 g4 n4; obtain ⟨A4, c4, rfl⟩ := own_slice o4; have J5 := Lib.hid (J4.out.app (R' := [(7, true, 0, 0), (7, true, 0, 0)]) (by rw [recC_append]; exact o4) (by simp) g4 n4); clear o4 g4 n4)
          have hfin := Lib.hid (J5.out.fin (by simp; omega) hnum2.out (by omega))
          clear J5 J4 HRD
          have hlen : R.length + 2 = (R ++ [(7, true, 0, 0), (7, true, 0, 0)]).length := by simp
          rw [hlen]
          go_wp2
          go_ret
          exact hfin.out
        · have hfin := Lib.hid (show DrawnJ rb W (.returned (.slice (some ⟨w3.heap.size, 0, none⟩) 41 41)) (w3.alloc (.cells (madeCells #[.int .i64 0, .bool false, .int .i64 0, .int .i64 0] 164) 33)) from by
            have hs := J3.out.2.2.2.2.1.size
            refine ⟨some ⟨w3.heap.size, 0, none⟩, 41, List.replicate 41 (0, false, 0, 0), rfl, ?_, by simp, fun r hr => by rw [List.eq_of_mem_replicate hr]; exact .inl (by show (0 : Int) ≤ 7; omega), galloc J3.out.2.2.2.2.1 _, _, J3.out.1.alloc _, by omega⟩
            show World.ownsRow _ _ _ _ _ _ _
            rw [← made41]
            exact World.ownsRow_lit (e := 33) (size := 4) (base := W.heap.size) w3 (madeCells #[.int .i64 0, .bool false, .int .i64 0, .int .i64 0] 164) 41 hs (by simp [maxLen]) (by simp [size_madeCells]))
          have hmk : ∀ w : World, (Instr.makeSlice 25 (.int .i64 41) (.int .i64 41)).run Try.prog w = .ok (.slice (some ⟨w.heap.size, 0, none⟩) 41 41) (w.alloc (.cells (madeCells #[.int .i64 0, .bool false, .int .i64 0, .int .i64 0] 164) 33)) := fun w =>
            make_rows (P := Try.prog) 25 33 (.agg #[.int .i64 0, .bool false, .int .i64 0, .int .i64 0]) 4 32 Try.underlying25 rowinfo_records 41 (by omega) (by omega) w
          clear J3
          go_wp2
          go_ret
          exact hfin.out
end Go.Proofs.Ythghngphamimgaa
