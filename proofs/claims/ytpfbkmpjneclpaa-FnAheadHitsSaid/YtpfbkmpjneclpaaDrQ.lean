/- The draw of requests: l20Requests returns a list of at most 100 requests in memory of its own, and DrawAheadHits too; the reader lies in block rb and has made at most P picks. -/
import Derived.Test.YtpfbkmpjneclpaaDrQ0
import Derived.Test.YtpfbkmpjneclpaaRegZ
namespace Go.Proofs.Ytpfbkmpjneclpaa
open Go.RowKit
set_option linter.unusedVariables false

theorem readc_newq {w : World} {T : TypeId} {cs : Array Value} {xs : List Value} (h : xs = cs.toList) : ReadC (w.alloc (.cells cs T)) (some ⟨w.heap.size, 0, none⟩) xs := by
  subst h
  intro h0
  refine ⟨w.heap.size, 0, rfl, fun i hi => ?_⟩
  rw [Nat.zero_add, cell_of_row _ _ _ _ _ _ (heap_alloc_new w _)]
  rw [Array.length_toList] at hi
  rw [Array.getElem?_eq_getElem hi, Array.getElem_toList]
theorem reqC_one (s q : Int) (b : Bool) : ∀ u ∈ reqC [(s, q, b)], u.oneCell' = true := by
  intro u hu
  simp only [reqC, List.flatMap_cons, List.flatMap_nil, List.append_nil, List.mem_cons, List.not_mem_nil, or_false] at hu
  rcases hu with rfl | rfl | rfl <;> rfl
theorem reqC_app (a b : List Rq) : reqC (a ++ b) = reqC a ++ reqC b := by simp [reqC]
def DrawnQ (rb : Nat) (W : World) (e : Ending) (w' : World) : Prop :=
  ∃ A c l, e = .returned (.slice A l.length c) ∧ w'.ownsRow W.heap.size 62 3 (.slice A l.length c) l.length (reqC l) ∧ l.length ≤ 100 ∧ W.grownBy w' (some rb)
theorem reqC_set0 (v : Int) : ∀ (R : List Rq) (t : Nat) (h : t < R.length), (reqC R).set (t * 3) (.int .i64 v) = reqC (R.set t (v, R[t].2.1, R[t].2.2))
  | p :: r, 0, _ => by simp [reqC]
  | p :: r, t + 1, h => by
    have := reqC_set0 v r t (by simpa using h)
    rw [show (t + 1) * 3 = t * 3 + 1 + 1 + 1 by omega]
    show Value.int .i64 p.1 :: .int .i64 p.2.1 :: .bool p.2.2 :: (reqC r).set (t * 3) (.int .i64 v) = _
    rw [this]
    rfl
theorem reqC_set1 (v : Int) : ∀ (R : List Rq) (t : Nat) (h : t < R.length), (reqC R).set (t * 3 + 1) (.int .i64 v) = reqC (R.set t (R[t].1, v, R[t].2.2))
  | p :: r, 0, _ => by simp [reqC]
  | p :: r, t + 1, h => by
    have := reqC_set1 v r t (by simpa using h)
    rw [show (t + 1) * 3 + 1 = t * 3 + 1 + 1 + 1 + 1 by omega]
    show Value.int .i64 p.1 :: .int .i64 p.2.1 :: .bool p.2.2 :: (reqC r).set (t * 3 + 1) (.int .i64 v) = _
    rw [this]
    rfl
theorem reqC_ones (R : List Rq) : ∀ u ∈ reqC R, u.oneCell' = true := by
  intro u hu
  simp only [reqC, List.mem_flatMap, List.mem_cons, List.not_mem_nil, or_false] at hu
  obtain ⟨q, -, rfl | rfl | rfl⟩ := hu <;> rfl
def lenQ : Value → Nat
  | .slice _ n _ => n
  | _ => 0
section
variable {W w : World} {rb Q cp g : Nat} {R : List Rq}
theorem RqS.stored {R' : List Rq} (h : RqS W rb Q (some ⟨g, 0, none⟩) cp R w) (i : Nat) (u : Value) (hR : (reqC R).set i u = reqC R') (hl : R'.length = R.length) : RqS W rb Q (some ⟨g, 0, none⟩) cp R' (w.setCell ⟨g, i, none⟩ u) := by
  obtain ⟨a, c, e, f⟩ := h
  have hge := (c.lt g rfl).1
  refine ⟨a.setCell (a := ⟨g, i, none⟩) (by show _ < g; omega) _, by rw [hl, ← hR]; exact (c.stored i u).1, ?_, f⟩
  exact ⟨e.os, e.tape, e.output, by simpa using e.size, fun k hk hn => (Below.heap_setCell w ⟨g, i, none⟩ _ k (by show k ≠ g; omega)).trans (e.block k hk hn)⟩
theorem RqS.store0 (h : RqS W rb Q (some ⟨g, 0, none⟩) cp R w) {q : Nat} (hq : q < R.length) (v : Int) : RqS W rb Q (some ⟨g, 0, none⟩) cp (R.set q (v, R[q].2.1, R[q].2.2)) (w.setCell ⟨g, q * 3, none⟩ (.int .i64 v)) :=
  h.stored _ _ (reqC_set0 v R q hq) (by simp)
theorem RqS.store1 (h : RqS W rb Q (some ⟨g, 0, none⟩) cp R w) {q : Nat} (hq : q < R.length) (v : Int) : RqS W rb Q (some ⟨g, 0, none⟩) cp (R.set q (R[q].1, v, R[q].2.2)) (w.setCell ⟨g, q * 3 + 1, none⟩ (.int .i64 v)) :=
  h.stored _ _ (reqC_set1 v R q hq) (by simp)
theorem RqS.fin {D : Option Addr} (h : RqS W rb Q D cp R w) (hl : R.length ≤ 100) : DrawnQ rb W (.returned (.slice D R.length cp)) w := ⟨D, cp, R, rfl, h.own, hl, h.gr⟩
end
set_option linter.unusedSimpArgs false in
set_option maxHeartbeats 8000000 in
theorem l20Requests_any (rb P : Nat) (n : Int) (W : World) (h : RdAt W rb P) (hP : P ≤ 100000000) (hn : 0 ≤ n ∧ n ≤ 1000) :
    Calls Try.prog 59 #[.pointer (some ⟨rb, 0, none⟩), .int .i64 n] W (DrawnQ rb W) := by
  obtain ⟨i0, hi0, hz0, hz1, hz2⟩ := info_parts info_req
  have hrb := h.lt
  have ST := Lib.hid (show RqS W rb P (some ⟨W.heap.size, 0, none⟩) 0 [] (W.alloc (.cells #[] 62)) from
    ⟨h.alloc _, World.ownsRow_lit (e := 62) (size := 3) (base := W.heap.size) W #[] 0 (Nat.le_refl _) (by simp [maxLen]) (by simp), World.grownBy_alloc W _ _, hrb⟩)
  clear h
  go_enter Try.func59, Try.ntmps59
  go_wp2_with fail
  refine (pick_in rb P _ _ ST.out.rd (by omega) (by omega)).mono ?_
  rintro e w1 ⟨x1, rfl, a1, a2, hr1, hg1, -⟩
  obtain ⟨k1, rfl⟩ := Int.eq_ofNat_of_zero_le a1
  replace ST := Lib.hid (ST.out.pick hr1 hg1)
  clear hr1 hg1 a1
  go_wp2
  go_loopw [5, 6, 7, 8] (fun x y _ _ wr => ∃ (k : Nat) (D : Option Addr) (cp : Nat) (R : List Rq) (Q : Nat), k ≤ 8 ∧ x = .slice D R.length cp ∧ y = .int .i64 k ∧ R.length + k ≤ 8 ∧ Q + 5 * k ≤ P + 100 ∧ Hid (RqS W rb Q D cp R wr)) (fun _ y _ _ _ => (intOf y).toNat)
  case atStart => exact ⟨k1, _, _, [], P + 1, by omega, rfl, rfl, by simp; omega, by omega, ST⟩
  case round =>
    clear ST
    obtain ⟨k, D, cp, R, Q, hk, rfl, rfl, hRk, hQ, ST⟩ := hrel
    by_cases hpos : 0 < k
    · go_wp2_with fail
      refine (pick_in rb Q _ _ ST.out.rd (by omega) (by omega)).mono ?_
      rintro e v1 ⟨y1, rfl, y1a, y1b, hr, hg, -⟩
      replace ST := Lib.hid (ST.out.pick hr hg)
      clear hr hg
      go_wp2_with fail
      refine (pick_in rb (Q + 1) _ _ ST.out.rd (by omega) (by omega)).mono ?_
      rintro e v2 ⟨y2, rfl, y2a, y2b, hr, hg, -⟩
      replace ST := Lib.hid (ST.out.pick hr hg)
      clear hr hg
      go_wp2_with fail
      refine (pick_in rb (Q + 1 + 1) _ _ ST.out.rd (by omega) (by omega)).mono ?_
      rintro e v3 ⟨y3, rfl, y3a, y3b, hr, hg, -⟩
      replace ST := Lib.hid (ST.out.pick hr hg)
      clear hr hg
      have SA := Lib.hid ((ST.out.alloc (.cells #[.int .i64 y1, .int .i64 (1 + y2), .bool (y3 == 0)] 62)).alloc (.cells #[.int .i64 y1, .int .i64 (1 + y2), .bool (y3 == 0)] 62))
      have RA := Lib.hid (readc_newq (w := v3.alloc (.cells #[.int .i64 y1, .int .i64 (1 + y2), .bool (y3 == 0)] 62)) (T := 62) (cs := #[.int .i64 y1, .int .i64 (1 + y2), .bool (y3 == 0)]) (xs := reqC [(y1, 1 + y2, y3 == 0)]) rfl)
      rw [World.size_alloc] at RA
      by_cases hR0 : ¬ ((0 : Int) < (R.length : Int))
      · skip
        go_wp2_with (at_builtin; refine wpList_append_r _ rfl (.tmp 50) (.tmp 52) 52 rfl W.heap.size 62 i0 (.agg #[.int .i64 0, .int .i64 0, .bool false]) 3 24 Try.underlying52 hi0 hz0 hz1 hz2 rfl (by decide) _ R.length (reqC R) SA.out.own rfl (some ⟨v3.heap.size + 1, 0, none⟩) 1 1 (reqC [(y1, 1 + y2, y3 == 0)]) RA.out rfl rfl (reqC_one _ _ _) (by simp only [maxLen]; omega) (by omega) (by have := SA.out.gr.size; simpa using this) ?_; intro v6 w6 o6 g6 n6; obtain ⟨A6, c6, rfl⟩ := own_slice o6; have S6 := Lib.hid (SA.out.app (R' := [(y1, 1 + y2, y3 == 0)]) (by rw [reqC_app]; exact o6) (by simp) g6); clear o6 g6 n6)
        go_roundw
        case rel => exact ⟨k - 1, A6, c6, R ++ [(y1, 1 + y2, y3 == 0)], Q + 1 + 1 + 1, by omega, by simp, by go_num, by simp; omega, by omega, S6⟩
        case measure => simp [intOf]; omega
      · replace hR0 : (0 : Int) < (R.length : Int) := by omega
        clear SA RA
        have hlt3 := ST.out.rd.lt
        have AP := Lib.hid (ST.out.apart (Nat.le_refl _))
        have BX := Lib.hid (Blk.new (w := v3) (t := 62) (cs := #[.int .i64 y1, .int .i64 (1 + y2), .bool (y3 == 0)]) rfl)
        have hw3 := ST.out.gr.size
        replace ST := Lib.hid (ST.out.alloc (.cells #[.int .i64 y1, .int .i64 (1 + y2), .bool (y3 == 0)] 62))
        obtain ⟨px, hpx⟩ : ∃ px, px = v3.heap.size := ⟨_, rfl⟩
        go_wp2_with fail
        refine (pick_in rb (Q + 1 + 1 + 1) _ _ ST.out.rd (by omega) (by omega)).mono ?_
        rintro e v4 ⟨y4, rfl, y4a, y4b, hr, hg, -⟩
        replace ST := Lib.hid (ST.out.pick hr hg)
        replace BX := Lib.hid (blk_grown hg BX.out (fun e => by injection e with e; omega))
        clear hr hg
        rw [← hpx] at AP BX hw3 ⊢
        clear hpx hlt3
        have XC := Lib.hid (show v4.cell? ⟨px, 0, none⟩ = some (.int .i64 y1) ∧ v4.cell? ⟨px, 1, none⟩ = some (.int .i64 (1 + y2)) ∧ v4.cell? ⟨px, 2, none⟩ = some (.bool (y3 == 0)) from ⟨BX.out.cell 0, BX.out.cell 1, BX.out.cell 2⟩)
        by_cases hy4 : y4 = 0
        · subst hy4
          go_wp2_with fail
          refine (pick_in rb (Q + 1 + 1 + 1 + 1) _ _ ST.out.rd (by omega) (by omega)).mono ?_
          rintro e v5 ⟨y5, rfl, y5a, y5b, hr, hg, -⟩
          obtain ⟨q, rfl⟩ := Int.eq_ofNat_of_zero_le y5a
          have hlt5 := ST.out.lt
          replace ST := Lib.hid (ST.out.pick hr hg)
          replace BX := Lib.hid (blk_grown hg BX.out (fun e => by injection e; omega))
          clear hr hg XC
          have hqR : q < R.length := by omega
          obtain ⟨b, off, hA, hc⟩ := (ReqsIn.of (own_read ST.out.own)) (by omega)
          obtain ⟨c1, c2, c3⟩ := hc q hqR
          obtain ⟨⟨f, c, o⟩, hfn⟩ : ∃ p : Rq, p = R[q] := ⟨_, rfl⟩
          rw [← hfn] at c1 c2 c3
          simp only at c1 c2 c3
          subst hA
          clear hc hfn
          have hpx := BX.out.lt
          have hx0 := BX.out.cell 0
          have hx1 := BX.out.cell 1
          have hx2 := BX.out.cell 2
          simp only [List.getElem?_toArray, List.getElem?_cons_succ, List.getElem?_cons_zero] at hx0 hx1 hx2
          have f0 := BX.out.free 0
          have f2 := BX.out.free 2
          clear BX
          have S5 := Lib.hid ((((ST.out.far hw3 AP.out 0 (.int .i64 (wrap64 (f + c)))).far hw3 AP.out 2 (.bool o)).alloc (.cells #[.int .i64 f, .int .i64 c, .bool o] 62)).alloc (.cells #[.int .i64 (wrap64 (f + c)), .int .i64 (1 + y2), .bool o] 62))
          have RA := Lib.hid (readc_newq (w := ((v5.setCell ⟨px, 0, none⟩ (.int .i64 (wrap64 (f + c)))).setCell ⟨px, 2, none⟩ (.bool o)).alloc (.cells #[.int .i64 f, .int .i64 c, .bool o] 62)) (T := 62) (cs := #[.int .i64 (wrap64 (f + c)), .int .i64 (1 + y2), .bool o]) (xs := reqC [(wrap64 (f + c), 1 + y2, o)]) rfl)
          rw [World.size_alloc, World.size_setCell, World.size_setCell] at RA
          clear ST AP
          go_wp2_with (at_builtin; refine wpList_append_r _ rfl (.tmp 50) (.tmp 52) 52 rfl W.heap.size 62 i0 (.agg #[.int .i64 0, .int .i64 0, .bool false]) 3 24 Try.underlying52 hi0 hz0 hz1 hz2 rfl (by decide) _ R.length (reqC R) S5.out.own rfl (some ⟨v5.heap.size + 1, 0, none⟩) 1 1 (reqC [(wrap64 (f + c), 1 + y2, o)]) RA.out rfl rfl (reqC_one _ _ _) (by simp only [maxLen]; omega) (by omega) (by have := S5.out.gr.size; simpa using this) ?_; intro v6 w6 o6 g6 n6; obtain ⟨A6, c6, rfl⟩ := own_slice o6; have S6 := Lib.hid (S5.out.app (R' := [(wrap64 (f + c), 1 + y2, o)]) (by rw [reqC_app]; exact o6) (by simp) g6); clear o6 g6 n6)
          go_roundw
          case rel => exact ⟨k - 1, A6, c6, R ++ [(wrap64 (f + c), 1 + y2, o)], Q + 1 + 1 + 1 + 1 + 1, by omega, by simp, by go_num, by simp; omega, by omega, S6⟩
          case measure => simp [intOf]; omega
        · have e4 : (y4 == 0) = false := by rw [beq_eq_false_iff_ne]; exact hy4
          obtain ⟨xc0, xc1, xc2⟩ := XC.out
          have SA := Lib.hid (ST.out.alloc (.cells #[.int .i64 y1, .int .i64 (1 + y2), .bool (y3 == 0)] 62))
          have RA := Lib.hid (readc_newq (w := v4) (T := 62) (cs := #[.int .i64 y1, .int .i64 (1 + y2), .bool (y3 == 0)]) (xs := reqC [(y1, 1 + y2, y3 == 0)]) rfl)
          go_wp2_with (at_builtin; refine wpList_append_r _ rfl (.tmp 50) (.tmp 52) 52 rfl W.heap.size 62 i0 (.agg #[.int .i64 0, .int .i64 0, .bool false]) 3 24 Try.underlying52 hi0 hz0 hz1 hz2 rfl (by decide) _ R.length (reqC R) SA.out.own rfl (some ⟨v4.heap.size, 0, none⟩) 1 1 (reqC [(y1, 1 + y2, y3 == 0)]) RA.out rfl rfl (reqC_one _ _ _) (by simp only [maxLen]; omega) (by omega) (by have := SA.out.gr.size; simpa using this) ?_; intro v6 w6 o6 g6 n6; obtain ⟨A6, c6, rfl⟩ := own_slice o6; have S6 := Lib.hid (SA.out.app (R' := [(y1, 1 + y2, y3 == 0)]) (by rw [reqC_app]; exact o6) (by simp) g6); clear o6 g6 n6)
          go_roundw
          case rel => exact ⟨k - 1, A6, c6, R ++ [(y1, 1 + y2, y3 == 0)], Q + 1 + 1 + 1 + 1, by omega, by simp, by go_num, by simp; omega, by omega, S6⟩
          case measure => simp [intOf]; omega
    · obtain rfl : k = 0 := by omega
      by_cases hR0 : ¬ ((0 : Int) < (R.length : Int))
      · have hfin := Lib.hid (ST.out.fin (by omega))
        clear ST
        go_wp2
        go_ret
        exact hfin.out
      · replace hR0 : (0 : Int) < (R.length : Int) := by omega
        go_wp2_with fail
        refine (odd_any rb Q n _ ST.out.rd (by omega) (by omega)).mono ?_
        rintro e v1 ⟨y1, rfl, hr, hg, -⟩
        replace ST := Lib.hid (ST.out.pick hr hg)
        clear hr hg
        cases y1
        · have hfin := Lib.hid (ST.out.fin (by omega))
          clear ST
          go_wp2
          go_ret
          exact hfin.out
        · go_wp2_with fail
          refine (pick_in rb (Q + 1) _ _ ST.out.rd (by omega) (by omega)).mono ?_
          rintro e v2 ⟨y2, rfl, y2a, y2b, hr, hg, -⟩
          obtain ⟨q, rfl⟩ := Int.eq_ofNat_of_zero_le y2a
          replace ST := Lib.hid (ST.out.pick hr hg)
          clear hr hg
          have hqR : q < R.length := by omega
          go_wp2_with fail
          refine (pick_in rb (Q + 1 + 1) _ _ ST.out.rd (by omega) (by omega)).mono ?_
          rintro e v3 ⟨y3, rfl, y3a, y3b, hr, hg, -⟩
          replace ST := Lib.hid (ST.out.pick hr hg)
          clear hr hg
          have hc3 : y3 = 0 ∨ y3 = 1 ∨ y3 = 2 := by omega
          clear y3a y3b
          rcases hc3 with rfl | rfl | rfl
          · have SA := Lib.hid (ST.out.alloc (.cells #[.int .i64 (-1), .int .i64 100001] 3))
            have hb4 := Lib.hid (heap_alloc_new v3 (.cells #[.int .i64 (-1), .int .i64 100001] 3))
            have hne4 := Lib.hid (show v3.heap.size ≠ rb by have := ST.out.rd.lt; omega)
            clear ST
            go_wp2_with fail
            refine (pick_in rb (Q + 1 + 1 + 1) _ _ SA.out.rd (by omega) (by omega)).mono ?_
            rintro e v5 ⟨y5, rfl, y5a, y5b, hr5, hg5, -⟩
            have ST := Lib.hid (SA.out.pick hr5 hg5)
            obtain ⟨s, rfl⟩ := Int.eq_ofNat_of_zero_le y5a
            obtain ⟨v, hv⟩ : ∃ v : Int, v5.cell? ⟨v3.heap.size, s, none⟩ = some (.int .i64 v) := by
              have hk := keepr hg5 hb4.out hne4.out s
              rw [hk]
              rcases (show s = 0 ∨ s = 1 by omega) with rfl | rfl <;> exact ⟨_, rfl⟩
            clear hr5 hg5 SA hb4 hne4 y5a
            rcases own_cases ST.out.own with ⟨_, h0⟩ | ⟨g, cap, hD, _, _⟩
            · omega
            · injection hD with hD _ hcap
              subst hD hcap
              have hcell := ST.out.own.cellAt (q * 3) (by omega)
              have hfr := ST.out.own.frozenAt (q * 3)
              rw [(reqC_get R q hqR).1] at hcell
              have S6 := Lib.hid (ST.out.store0 hqR v)
              have hfin := Lib.hid (S6.out.fin (by simp; omega))
              rw [List.length_set] at hfin
              obtain ⟨u0, hu0⟩ : ∃ u, u = R[q].1 := ⟨_, rfl⟩
              rw [← hu0] at hcell
              clear ST S6 hu0
              go_wp2
              go_ret
              exact hfin.out
          · have SA := Lib.hid (ST.out.alloc (.cells #[.int .i64 0, .int .i64 201] 3))
            have hb4 := Lib.hid (heap_alloc_new v3 (.cells #[.int .i64 0, .int .i64 201] 3))
            have hne4 := Lib.hid (show v3.heap.size ≠ rb by have := ST.out.rd.lt; omega)
            clear ST
            go_wp2_with fail
            refine (pick_in rb (Q + 1 + 1 + 1) _ _ SA.out.rd (by omega) (by omega)).mono ?_
            rintro e v5 ⟨y5, rfl, y5a, y5b, hr5, hg5, -⟩
            have ST := Lib.hid (SA.out.pick hr5 hg5)
            obtain ⟨s, rfl⟩ := Int.eq_ofNat_of_zero_le y5a
            obtain ⟨v, hv⟩ : ∃ v : Int, v5.cell? ⟨v3.heap.size, s, none⟩ = some (.int .i64 v) := by
              have hk := keepr hg5 hb4.out hne4.out s
              rw [hk]
              rcases (show s = 0 ∨ s = 1 by omega) with rfl | rfl <;> exact ⟨_, rfl⟩
            clear hr5 hg5 SA hb4 hne4 y5a
            rcases own_cases ST.out.own with ⟨_, h0⟩ | ⟨g, cap, hD, _, _⟩
            · omega
            · injection hD with hD _ hcap
              subst hD hcap
              have hcell := ST.out.own.cellAt (q * 3 + 1) (by omega)
              have hfr := ST.out.own.frozenAt (q * 3 + 1)
              rw [(reqC_get R q hqR).2.1] at hcell
              have S6 := Lib.hid (ST.out.store1 hqR v)
              have hfin := Lib.hid (S6.out.fin (by simp; omega))
              rw [List.length_set] at hfin
              obtain ⟨u0, hu0⟩ : ∃ u, u = R[q].2.1 := ⟨_, rfl⟩
              rw [← hu0] at hcell
              clear ST S6 hu0
              go_wp2
              go_ret
              exact hfin.out
          · go_wp2
            go_loopw [5] (fun x wr => ∃ (D : Option Addr) (cp : Nat) (R : List Rq) (Q : Nat), x = .slice D R.length cp ∧ 0 < R.length ∧ R.length ≤ 60 ∧ Hid (RqS W rb Q D cp R wr)) (fun x _ => 61 - lenQ x)
            case atStart => exact ⟨D, cp, R, _, rfl, by omega, by omega, ST⟩
            case round =>
              clear ST
              obtain ⟨D, cp, R, Q, rfl, hl0, hl1, ST⟩ := hrel
              by_cases hlt : R.length ≤ 30
              · have RA := Lib.hid (own_read ST.out.own)
                go_wp2_with (at_builtin; refine wpList_append_r _ rfl (.tmp 71) (.tmp 72) 52 rfl W.heap.size 62 i0 (.agg #[.int .i64 0, .int .i64 0, .bool false]) 3 24 Try.underlying52 hi0 hz0 hz1 hz2 rfl (by decide) _ R.length (reqC R) ST.out.own rfl D R.length cp (reqC R) RA.out rfl (by rw [reqC_length]; omega) (reqC_ones R) (by simp only [maxLen]; omega) (by omega) ST.out.gr.size ?_; intro v6 w6 o6 g6 n6; obtain ⟨A6, c6, rfl⟩ := own_slice o6; have S6 := Lib.hid (ST.out.app (R' := R) (by rw [reqC_app]; exact o6) (by simp) g6); clear o6 g6 n6)
                go_roundw
                case rel => exact ⟨A6, c6, R ++ R, Q, by simp, by simp; omega, by simp; omega, S6⟩
                case measure => simp [lenQ]; omega
              · have hfin := Lib.hid (ST.out.fin (by omega))
                clear ST
                go_wp2
                go_ret
                exact hfin.out
def DrawnRq (W : World) (e : Ending) (w' : World) : Prop :=
  ∃ A c l, e = .returned (.slice A l.length c) ∧ w'.ownsRow W.heap.size 62 3 (.slice A l.length c) l.length (reqC l) ∧ l.length ≤ 100 ∧ Below W.heap.size W w'
theorem drawAH_any (A : Option Addr) (m c : Nat) (W : World) (hb : BytesIn W A m) (hmc : m ≤ c) (hc : c ≤ 9223372036854775807) :
    Calls Try.prog 40 #[.slice A m c] W (DrawnRq W) := by
  go_enter Try.func40, Try.ntmps40
  go_wp2_with fail
  refine (open_any A m c W hb hmc hc).mono ?_
  rintro e w1 ⟨rfl, hr, hb1, hs1⟩
  have HB := Lib.hid hb1
  have HR := Lib.hid hr
  have HZ := Lib.hid hb1.size
  clear hb1 hr hs1
  go_wp2_with fail
  refine (l20Requests_any W.heap.size 0 9 _ HR.out (by omega) (by omega)).mono ?_
  rintro e w2 ⟨A2, c2, l, rfl, ho, hl, hg⟩
  have Z := Lib.hid (show DrawnRq W (.returned (.slice A2 l.length c2)) w2 from ⟨A2, c2, l, rfl, own_mono ho HZ.out, hl, bgrown HB.out hg (Nat.le_refl _)⟩)
  clear ho hg HB HR HZ
  go_wp2
  go_ret
  exact Z.out
end Go.Proofs.Ytpfbkmpjneclpaa
