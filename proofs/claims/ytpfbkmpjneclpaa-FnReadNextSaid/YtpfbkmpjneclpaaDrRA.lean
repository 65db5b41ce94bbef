/- The draw of a reader's state: l20Ahead returns two integers; the drawing reader lies in block rb and makes at most six picks. -/
import Derived.Test.YtpfbkmpjneclpaaRd
import Derived.Test.YtpfbkmpjneclpaaOwn
import Derived.Test.YtpfbkmpjneclpaaAhead
namespace Go.Proofs.Ytpfbkmpjneclpaa
open Go.RowKit
set_option linter.unusedVariables false

/-- The reader rb after Q picks; nothing else of W has turned. -/
structure AhS (W : World) (rb Q : Nat) (w : World) : Prop where
  rd : RdAt w rb Q
  gr : W.grownBy w (some rb)
  lt : rb < W.heap.size
section
variable {W w w' : World} {rb Q Q' : Nat}
theorem AhS.pick (h : AhS W rb Q w) (hr : RdAt w' rb Q') (hg : w.grownBy w' (some rb)) : AhS W rb Q' w' := ⟨hr, gtrans h.gr hg, h.lt⟩
theorem AhS.alloc (h : AhS W rb Q w) (o : Obj) : AhS W rb Q (w.alloc o) := ⟨h.rd.alloc o, galloc h.gr o, h.lt⟩
theorem AhS.far {p : Nat} (h : AhS W rb Q w) (hp : W.heap.size ≤ p) (i : Nat) (u : Value) : AhS W rb Q (w.setCell ⟨p, i, none⟩ u) := by
  have hl := h.lt
  have e := h.gr
  exact ⟨h.rd.setCell (a := ⟨p, i, none⟩) (by show rb < p; omega) _, ⟨e.os, e.tape, e.output, by simpa using e.size, fun k hk hn => (Below.heap_setCell w ⟨p, i, none⟩ _ k (by show k ≠ p; omega)).trans (e.block k hk hn)⟩, h.lt⟩
theorem AhS.ne (h : AhS W rb Q w) : ¬ (w.heap.size = rb) := by have := h.rd.lt; omega
end
def DrawnAh (rb P : Nat) (W : World) (e : Ending) (w' : World) : Prop := ∃ n v : Int, e = .returned (.agg #[.int .i64 n, .int .i64 v]) ∧ AhS W rb (P + 6) w'
theorem AhS.fin {W w : World} {rb P Q : Nat} (h : AhS W rb Q w) (hQ : Q ≤ P + 6) (n v : Int) : DrawnAh rb P W (.returned (.agg #[.int .i64 n, .int .i64 v])) w := ⟨n, v, rfl, h.rd.mono hQ, h.gr, h.lt⟩

set_option maxHeartbeats 4000000 in
theorem l20Ahead_any (rb P : Nat) (n : Int) (W : World) (h : RdAt W rb P) (hP : P ≤ 100000000) (hn : 0 ≤ n ∧ n ≤ 1000) :
    Calls Try.prog 48 #[.pointer (some ⟨rb, 0, none⟩), .int .i64 n] W (DrawnAh rb P W) := by
  have hlt := h.lt
  have ST := Lib.hid ((show AhS W rb P W from ⟨h, World.grownBy.refl _ _, h.lt⟩).alloc (.cells #[.int .i64 0, .int .i64 0] 36))
  have B4 := Lib.hid (Blk.new (w := W) (t := 36) (cs := #[.int .i64 0, .int .i64 0]) rfl)
  clear h
  go_enter Try.func48, Try.ntmps48
  go_wp2_with fail
  refine (pick_in rb P _ _ ST.out.rd (by omega) (by omega)).mono ?_
  rintro e v1 ⟨y1, rfl, y1a, y1b, hr, hg, -⟩
  replace ST := Lib.hid (ST.out.pick hr hg)
  replace B4 := Lib.hid (blk_grown hg B4.out (fun e => by injection e; omega))
  clear hr hg
  have B8 := Lib.hid (heap_alloc_new v1 (.cells #[.int .i64 0, .int .i64 1, .int .i64 2, .int .i64 4, .int .i64 8, .int .i64 16, .int .i64 32] 3))
  have N8 := Lib.hid ST.out.ne
  replace ST := Lib.hid (ST.out.alloc (.cells #[.int .i64 0, .int .i64 1, .int .i64 2, .int .i64 4, .int .i64 8, .int .i64 16, .int .i64 32] 3))
  replace B4 := Lib.hid (B4.out.alloc (.cells #[.int .i64 0, .int .i64 1, .int .i64 2, .int .i64 4, .int .i64 8, .int .i64 16, .int .i64 32] 3))
  go_wp2_with fail
  refine (pick_in rb (P + 1) _ _ ST.out.rd (by omega) (by omega)).mono ?_
  rintro e v2 ⟨y2, rfl, y2a, y2b, hr, hg, -⟩
  replace ST := Lib.hid (ST.out.pick hr hg)
  replace B4 := Lib.hid (blk_grown hg B4.out (fun e => by injection e; omega))
  obtain ⟨s, rfl⟩ := Int.eq_ofNat_of_zero_le y2a
  obtain ⟨v, hv⟩ : ∃ v : Int, v2.cell? ⟨v1.heap.size, s, none⟩ = some (.int .i64 v) := by
    have hk := keepr hg B8.out N8.out s
    rw [hk]
    rcases (show s = 0 ∨ s = 1 ∨ s = 2 ∨ s = 3 ∨ s = 4 ∨ s = 5 ∨ s = 6 by omega) with rfl | rfl | rfl | rfl | rfl | rfl | rfl <;> exact ⟨_, rfl⟩
  clear hr hg B8 N8
  have BX := Lib.hid (Blk.new (w := v2) (t := 36) (cs := #[.int .i64 y1, .int .i64 v]) rfl)
  have hxr := ST.out.rd.lt
  have hxW := B4.out.lt
  replace ST := Lib.hid (ST.out.alloc (.cells #[.int .i64 y1, .int .i64 v] 36))
  replace B4 := Lib.hid (B4.out.alloc (.cells #[.int .i64 y1, .int .i64 v] 36))
  go_wp2_with fail
  refine (odd_any rb (P + 1 + 1) n _ ST.out.rd (by omega) (by omega)).mono ?_
  rintro e v3 ⟨b3, rfl, hr, hg, -⟩
  obtain ⟨px, hpx⟩ : ∃ px, px = v2.heap.size := ⟨_, rfl⟩
  rw [← hpx] at BX hxr hxW ⊢
  replace ST := Lib.hid (ST.out.pick hr hg)
  replace B4 := Lib.hid (blk_grown hg B4.out (fun e => by injection e; omega))
  replace BX := Lib.hid (blk_grown hg BX.out (fun e => by injection e; omega))
  clear hr hg hpx hv
  cases b3
  · obtain ⟨wv, hwv⟩ : ∃ wv, wv = v3 := ⟨_, rfl⟩
    subst hwv
    obtain ⟨x0, x1, -, -⟩ := BX.out.two
    obtain ⟨r0, r1, f0, f1⟩ := B4.out.two
    have hfin := Lib.hid (show ∀ u : World, u = (wv.setCell ⟨W.heap.size, 0, none⟩ (.int .i64 (y1))).setCell ⟨W.heap.size, 1, none⟩ (.int .i64 (v)) → DrawnAh rb P W (.returned (.agg #[.int .i64 (y1), .int .i64 (v)])) u from fun u hu => by subst hu; exact ((ST.out.far (Nat.le_refl _) 0 _).far (Nat.le_refl _) 1 _).fin (by omega) _ _)
    clear ST BX B4
    go_wp2
    exact bodyPost_ret (v := .agg #[.int .i64 (y1), .int .i64 (v)]) (by simp [results, Try.results48, go_sem, *]) rfl (hfin.out _ rfl)
  · go_wp2_with fail
    refine (pick_in rb (P + 1 + 1 + 1) _ _ ST.out.rd (by omega) (by omega)).mono ?_
    rintro e v4 ⟨y4, rfl, y4a, y4b, hr, hg, -⟩
    replace ST := Lib.hid (ST.out.pick hr hg)
    replace B4 := Lib.hid (blk_grown hg B4.out (fun e => by injection e; omega))
    replace BX := Lib.hid (blk_grown hg BX.out (fun e => by injection e; omega))
    clear hr hg
    by_cases hy4 : y4 = 0
    · subst hy4
      have B8 := Lib.hid (heap_alloc_new v4 (.cells #[.int .i64 (-1), .int .i64 3, .int .i64 64, .int .i64 33] 3))
      have N8 := Lib.hid ST.out.ne
      replace ST := Lib.hid (ST.out.alloc (.cells #[.int .i64 (-1), .int .i64 3, .int .i64 64, .int .i64 33] 3))
      replace B4 := Lib.hid (B4.out.alloc (.cells #[.int .i64 (-1), .int .i64 3, .int .i64 64, .int .i64 33] 3))
      replace BX := Lib.hid (BX.out.alloc (.cells #[.int .i64 (-1), .int .i64 3, .int .i64 64, .int .i64 33] 3))
      go_wp2_with fail
      refine (pick_in rb (P + 1 + 1 + 1 + 1) _ _ ST.out.rd (by omega) (by omega)).mono ?_
      rintro e wv ⟨y5, rfl, y5a, y5b, hr, hg, -⟩
      replace ST := Lib.hid (ST.out.pick hr hg)
      replace B4 := Lib.hid (blk_grown hg B4.out (fun e => by injection e; omega))
      replace BX := Lib.hid (blk_grown hg BX.out (fun e => by injection e; omega))
      obtain ⟨s, rfl⟩ := Int.eq_ofNat_of_zero_le y5a
      obtain ⟨u, hu⟩ : ∃ u : Int, wv.cell? ⟨v4.heap.size, s, none⟩ = some (.int .i64 u) := by
        have hk := keepr hg B8.out N8.out s
        rw [hk]
        rcases (show s = 0 ∨ s = 1 ∨ s = 2 ∨ s = 3 by omega) with rfl | rfl | rfl | rfl <;> exact ⟨_, rfl⟩
      clear hr hg B8 N8
      obtain ⟨x0, x1, g0, g1⟩ := BX.out.two
      obtain ⟨r0, r1, f0, f1⟩ := B4.out.two
      have hfin := Lib.hid (show ∀ w' : World, w' = (((wv.setCell ⟨px, 1, none⟩ (.int .i64 u)).setCell ⟨W.heap.size, 0, none⟩ (.int .i64 y1)).setCell ⟨W.heap.size, 1, none⟩ (.int .i64 u)) → DrawnAh rb P W (.returned (.agg #[.int .i64 y1, .int .i64 u])) w' from fun w' hw' => by subst hw'; exact (((ST.out.far (by omega) 1 _).far (Nat.le_refl _) 0 _).far (Nat.le_refl _) 1 _).fin (by omega) _ _)
      clear ST BX B4
      go_wp2
      exact bodyPost_ret (v := .agg #[.int .i64 y1, .int .i64 u]) (by simp [results, Try.results48, go_sem, *]) rfl (hfin.out _ rfl)
    · have e4 : (y4 == 0) = false := by rw [beq_eq_false_iff_ne]; exact hy4
      have B8 := Lib.hid (heap_alloc_new v4 (.cells #[.int .i64 (-1), .int .i64 100001] 3))
      have N8 := Lib.hid ST.out.ne
      replace ST := Lib.hid (ST.out.alloc (.cells #[.int .i64 (-1), .int .i64 100001] 3))
      replace B4 := Lib.hid (B4.out.alloc (.cells #[.int .i64 (-1), .int .i64 100001] 3))
      replace BX := Lib.hid (BX.out.alloc (.cells #[.int .i64 (-1), .int .i64 100001] 3))
      go_wp2_with fail
      refine (pick_in rb (P + 1 + 1 + 1 + 1) _ _ ST.out.rd (by omega) (by omega)).mono ?_
      rintro e wv ⟨y5, rfl, y5a, y5b, hr, hg, -⟩
      replace ST := Lib.hid (ST.out.pick hr hg)
      replace B4 := Lib.hid (blk_grown hg B4.out (fun e => by injection e; omega))
      replace BX := Lib.hid (blk_grown hg BX.out (fun e => by injection e; omega))
      obtain ⟨s, rfl⟩ := Int.eq_ofNat_of_zero_le y5a
      obtain ⟨u, hu⟩ : ∃ u : Int, wv.cell? ⟨v4.heap.size, s, none⟩ = some (.int .i64 u) := by
        have hk := keepr hg B8.out N8.out s
        rw [hk]
        rcases (show s = 0 ∨ s = 1 by omega) with rfl | rfl <;> exact ⟨_, rfl⟩
      clear hr hg B8 N8
      obtain ⟨x0, x1, g0, g1⟩ := BX.out.two
      obtain ⟨r0, r1, f0, f1⟩ := B4.out.two
      have hfin := Lib.hid (show ∀ w' : World, w' = (((wv.setCell ⟨px, 0, none⟩ (.int .i64 u)).setCell ⟨W.heap.size, 0, none⟩ (.int .i64 u)).setCell ⟨W.heap.size, 1, none⟩ (.int .i64 v)) → DrawnAh rb P W (.returned (.agg #[.int .i64 u, .int .i64 v])) w' from fun w' hw' => by subst hw'; exact (((ST.out.far (by omega) 0 _).far (Nat.le_refl _) 0 _).far (Nat.le_refl _) 1 _).fin (by omega) _ _)
      clear ST BX B4
      go_wp2
      exact bodyPost_ret (v := .agg #[.int .i64 u, .int .i64 v]) (by simp [results, Try.results48, go_sem, *]) rfl (hfin.out _ rfl)
end Go.Proofs.Ytpfbkmpjneclpaa
