/- The draw of late volumes. -/
import Derived.Test.YtjkbooflbfnbiaaDrF
namespace Go.Proofs.Ytjkbooflbfnbiaa
open Go.RowKit
set_option linter.unusedVariables false

theorem own_some {w : World} {base : Nat} {e : TypeId} {size n : Nat} {v : Value} {xs : List Value} (h : w.ownsRow base e size v (n + 1) xs) : ∃ g c, v = .slice (some ⟨g, 0, none⟩) (n + 1) c := by
  rcases own_cases h with ⟨_, h⟩ | ⟨g, c, h, _⟩
  · omega
  · exact ⟨g, c, h⟩
theorem new_len (n p : Int) (hn : n ≤ 8) (hp : p ≤ 6) : (newW n p).length ≤ 8 ∧ (newP n p).length ≤ 6 := by
  simp only [newW, newP]
  split <;> simp <;> omega

theorem trim_len (W P : List Int) (a : Int) : (trimW W P a).length ≤ W.length ∧ (trimP W P a).length ≤ P.length := by
  rw [trimW, trimP]
  constructor
  · split
    · rw [List.length_set]; omega
    · simp
  · split
    · split
      · rw [List.length_set]; omega
      · omega
    · simp

set_option maxHeartbeats 4000000 in
theorem l20Thin_any (rb P : Nat) (n : Int) (W : World) (h : RdAt W rb P) (hP : P ≤ 100000000000) (hn : 0 ≤ n ∧ n ≤ 1000) :
    Calls Try.prog 46 #[.pointer (some ⟨rb, 0, none⟩), .int .i64 n] W (DrawnThin rb W) := by
  obtain ⟨i0, hi0, hz0, hz1, hz2⟩ := info_parts rowinfo_int
  go_enter Try.func46, Try.ntmps46
  have hrb := h.lt
  have hr0 := Lib.hid (h.alloc (.cells #[.slice none 0 0, .slice none 0 0] 27))
  clear h
  go_wp2_with fail
  refine (pick_in rb P _ _ hr0.out (by omega) (by omega)).mono ?_
  rintro e w1 ⟨a1, rfl, a10, a11, hr1, hg1, hs1⟩
  have hr1 := Lib.hid hr1
  have hg1 := Lib.hid hg1
  clear hr0
  go_wp2_with fail
  refine (pick_in rb (P + 1) _ _ hr1.out (by omega) (by omega)).mono ?_
  rintro e w2 ⟨a2, rfl, a20, a21, hr2, hg2, hs2⟩
  have hr2 := Lib.hid hr2
  have hg2 := Lib.hid (gtrans hg1.out hg2)
  clear hr1 hg1
  have hlen := new_len a1 a2 (by omega) (by omega)
  go_wp2_with fail
  refine (specNew_any a1 a2 _).mono ?_
  rintro e w3 ⟨v3, rfl, o3, b3⟩
  obtain ⟨W0, hW0⟩ : ∃ l, newW a1 a2 = l := ⟨_, rfl⟩
  obtain ⟨P0, hP0⟩ : ∃ l, newP a1 a2 = l := ⟨_, rfl⟩
  rw [hW0, hP0] at hlen o3
  have O3 := o3
  obtain ⟨A3, c3, B3, d3, rfl, _⟩ := o3
  have T3 := Lib.hid (TSt.start (W := W) rfl hr2.out hg2.out hrb b3 O3)
  clear hr2 hg2 b3 O3 hW0 hP0
  go_wp2_with fail
  refine (pick_in rb (P + 1 + 1) _ _ T3.out.rd (by omega) (by omega)).mono ?_
  rintro e w4 ⟨k0, rfl, a30, a31, hr4, hg4, hs4⟩
  have T4 := Lib.hid (T3.out.pick hr4 hg4)
  clear T3 hr4 hg4 hs4
  obtain ⟨gx, hgx⟩ : ∃ gx, w3.heap.size = gx := ⟨_, rfl⟩
  rw [hgx] at T4 ⊢
  clear hgx
  go_wp2
  go_loopw [6] (fun x wr => ∃ (k : Int) (A : Option Addr) (c : Nat) (B : Option Addr) (d : Nat) (Wl Pl : List Int) (Q : Nat), 0 ≤ k ∧ k ≤ 11 ∧ x = .int .i64 k ∧ Wl.length ≤ 8 ∧ Pl.length ≤ 6 ∧ (Q : Int) + 4 * k ≤ P + 60 ∧ Hid (TSt W rb Q gx A c B d Wl Pl wr)) (fun x _ => (intOf x).toNat)
  case atStart => exact ⟨k0, A3, c3, B3, d3, W0, P0, _, by omega, by omega, rfl, hlen.1, hlen.2, by omega, T4⟩
  case round =>
    obtain ⟨k, A, c, B, d, Wl, Pl, Q, k0', k1, rfl, lW, lP, hQ, T⟩ := hrel
    clear T4
    obtain ⟨x0, x1, f0, f1⟩ := T.out.box.two
    by_cases hk : 0 < k
    · by_cases hl : 0 < Wl.length
      · go_wp2_with fail
        refine (pick_in rb Q _ _ T.out.rd (by omega) (by omega)).mono ?_
        rintro e w5 ⟨q, rfl, q0, q1, hr5, hg5, hs5⟩
        have T5 := Lib.hid (T.out.pick hr5 hg5)
        clear T hr5 hg5 hs5 x0 x1 f0 f1
        obtain ⟨x0, x1, f0, f1⟩ := T5.out.drew.box.two
        by_cases hq : q = 0
        · subst hq
          go_wp2_with fail
          go_region_with
            (first
              | (go_at_call 49; refine (pick_in rb (Q + 1) _ _ T5.out.drew.rd (by omega) (by omega)).mono ?_; rintro e w6 ⟨y, rfl, y0, y1, hr6, hg6, hs6⟩; have T6 := Lib.hid (T5.out.drew.pick hr6 hg6); obtain ⟨z0, z1, h0, h1⟩ := T6.out.box.two)
              | (go_at_call 33; refine (specTrim_any _ Wl Pl _ _ T6.out.read (by omega) (by omega)).mono ?_; rintro e w7 ⟨v7, rfl, o7, b7⟩; have O7 := Lib.hid o7; obtain ⟨A7, c7, B7, d7, rfl, _⟩ := o7; obtain ⟨u0, u1, i0, i1⟩ := (blk_below b7 T6.out.box T6.out.box.lt).two))
          all_goals
            have T8 := Lib.hid (T6.out.put b7 O7.out)
            have hl8 := trim_len Wl Pl y
            have d2 : IntKind.i64.wrap (k - 1) = k - 1 := IntWalk.i64_in _ (by omega)
            clear T6 O7 b7 hr6 hg6 hs6 T5 z0 z1 h0 h1 u0 u1 i0 i1
            go_wp2
            go_roundw
            case rel => exact ⟨k - 1, A7, c7, B7, d7, _, _, Q + 1 + 1, by omega, by omega, by go_num, by omega, by omega, by omega, T8⟩
            case measure => simp [intOf]; omega
        · go_wp2_with fail
          go_region_with
            (first
              | (go_at_call 49; refine (pick_in rb (Q + 1) _ _ T5.out.drew.rd (by omega) (by omega)).mono ?_; rintro e w6 ⟨y, rfl, y0, y1, hr6, hg6, hs6⟩; have T6 := Lib.hid (T5.out.drew.pick hr6 hg6); obtain ⟨z0, z1, h0, h1⟩ := T6.out.box.two)
              | (go_at_call 49; refine (pick_in rb (Q + 1 + 1) _ _ T6.out.rd (by omega) (by omega)).mono ?_; rintro e w7 ⟨yy, rfl, yy0, yy1, hr7, hg7, hs7⟩; have T7 := Lib.hid (T6.out.pick hr7 hg7); obtain ⟨t0, t1, j0, j1⟩ := T7.out.box.two)
              | (go_at_call 55; refine (specWrite_any _ Wl Pl _ _ _ T7.out.read (by omega) (by omega)).mono ?_; rintro e w8 ⟨v8, W8, P8, ok, rfl, l8, m8, o8, b8⟩; have O8 := Lib.hid o8; obtain ⟨A8, c8, B8, d8, rfl, _⟩ := o8; obtain ⟨u0, u1, i0, i1⟩ := (blk_below b8 T7.out.box T7.out.box.lt).two))
          all_goals
            have T9 := Lib.hid (T7.out.put b8 O8.out)
            have d2 : IntKind.i64.wrap (k - 1) = k - 1 := IntWalk.i64_in _ (by omega)
            clear T7 O8 b8 hr7 hg7 hs7 T6 hr6 hg6 hs6 T5 z0 z1 h0 h1 t0 t1 j0 j1 u0 u1 i0 i1
            go_wp2
            go_roundw
            case rel => exact ⟨k - 1, A8, c8, B8, d8, _, _, Q + 1 + 1 + 1, by omega, by omega, by go_num, by omega, by omega, by omega, T9⟩
            case measure => simp [intOf]; omega
      · go_wp2_with fail
        refine (odd_any rb Q n _ T.out.rd (by omega) (by omega)).mono ?_
        rintro e w5 ⟨o, rfl, hr5, hg5, hs5⟩
        have T5 := Lib.hid (T.out.pick hr5 hg5)
        clear T hr5 hg5 hs5 x0 x1 f0 f1
        cases o
        · have F5 := Lib.hid T5.out.tfin
          obtain ⟨x0, x1, f0, f1⟩ := F5.out.box.two
          obtain ⟨y0, y1, g0, g1⟩ := F5.out.res.two
          have Z := Lib.hid (F5.out.fin (by omega) (by omega))
          clear T5 F5
          go_wp2
          exact bodyPost_ret (v := .agg #[.slice A Wl.length c, .slice B Pl.length d]) (by simp [results, Try.results46, go_sem, y0, y1]) rfl Z.out
        · go_wp2_with fail
          refine (pick_in rb (Q + 1) _ _ T5.out.rd (by omega) (by omega)).mono ?_
          rintro e w6 ⟨q, rfl, q0, q1, hr6, hg6, hs6⟩
          have F6 := Lib.hid (T5.out.tfin.pick hg6)
          clear T5 hr6 hg6 hs6
          obtain ⟨x0, x1, f0, f1⟩ := F6.out.box.two
          have xl := F6.out.box.lt
          have xg := F6.out.2.2.2.2.2.2.2.2.2
          have hq : q = 0 ∨ q = 1 ∨ q = 2 := by omega
          rcases hq with rfl | rfl | rfl
          · have FA := Lib.hid (F6.out.alloc (.cells #[.int .i64 Pl.length] 3))
            have hrd := Lib.hid (read_new w6 #[.int .i64 Pl.length] 3 [.int .i64 Pl.length] rfl)
            clear F6
            go_wp2_with (at_builtin; refine wpList_append_r _ rfl (.tmp 72) (.tmp 76) 22 rfl (W.heap.size + 1) 3 i0 (.int .i64 0) 1 8 Try.underlying22 hi0 hz0 hz1 hz2 rfl (by decide) _ Wl.length (Wl.map (Value.int .i64)) FA.out.1 rfl (some ⟨w6.heap.size, 0, none⟩) 1 1 [.int .i64 Pl.length] hrd.out rfl rfl (by intro u hu; simp at hu; subst hu; rfl) (by simp only [maxLen]; omega) (by omega) (by simp; omega) ?_; intro v7 w7 hown7 hg7 hv7; obtain ⟨g7, c7, rfl⟩ := own_some hown7; obtain ⟨z0, z1, h0, h1⟩ := (blk_grown hg7 FA.out.box (fun e => FA.out.2.2.2.1 gx e.symm rfl)).two; obtain ⟨y0, y1, g0, g1⟩ := (blk_grown hg7 FA.out.res (fun e => by have := (FA.out.1.lt _ e.symm).1; omega)).two)
            have Z := Lib.hid ((FA.out.pushW (xs := [(Pl.length : Int)]) hown7 hg7 hv7).fin (by simp; omega) (by omega))
            clear FA hrd hown7 hg7 hv7
            exact bodyPost_ret (v := .agg #[.slice (some ⟨g7, 0, none⟩) (Wl.length + 1) c7, .slice B Pl.length d]) (by simp [results, Try.results46, go_sem, y0, y1]) rfl Z.out
          · have FA := Lib.hid (F6.out.alloc (.cells #[.int .i64 256] 3))
            have hrd := Lib.hid (read_new w6 #[.int .i64 256] 3 [.int .i64 256] rfl)
            clear F6
            go_wp2_with (at_builtin; refine wpList_append_r _ rfl (.tmp 82) (.tmp 83) 22 rfl (W.heap.size + 1) 3 i0 (.int .i64 0) 1 8 Try.underlying22 hi0 hz0 hz1 hz2 rfl (by decide) _ Pl.length (Pl.map (Value.int .i64)) FA.out.2.1 rfl (some ⟨w6.heap.size, 0, none⟩) 1 1 [.int .i64 256] hrd.out rfl rfl (by intro u hu; simp at hu; subst hu; rfl) (by simp only [maxLen]; omega) (by omega) (by simp; omega) ?_; intro v7 w7 hown7 hg7 hv7; obtain ⟨g7, c7, rfl⟩ := own_some hown7; obtain ⟨z0, z1, h0, h1⟩ := (blk_grown hg7 FA.out.box (fun e => FA.out.2.2.2.2.1 gx e.symm rfl)).two; obtain ⟨y0, y1, g0, g1⟩ := (blk_grown hg7 FA.out.res (fun e => by have := (FA.out.2.1.lt _ e.symm).1; omega)).two)
            have Z := Lib.hid ((FA.out.pushP (xs := [256]) hown7 hg7 hv7).fin (by omega) (by simp; omega))
            clear FA hrd hown7 hg7 hv7
            exact bodyPost_ret (v := .agg #[.slice A Wl.length c, .slice (some ⟨g7, 0, none⟩) (Pl.length + 1) c7]) (by simp [results, Try.results46, go_sem, y0, y1]) rfl Z.out
          · have FA := Lib.hid (F6.out.alloc (.cells #[.int .i64 0] 3))
            have hrd := Lib.hid (read_new w6 #[.int .i64 0] 3 [.int .i64 0] rfl)
            clear F6
            go_wp2_with (first | (at_builtin; refine wpList_append_r _ rfl (.tmp 52) (.tmp 53) 22 rfl (W.heap.size + 1) 3 i0 (.int .i64 0) 1 8 Try.underlying22 hi0 hz0 hz1 hz2 rfl (by decide) _ Pl.length (Pl.map (Value.int .i64)) FA.out.2.1 rfl (some ⟨w6.heap.size, 0, none⟩) 1 1 [.int .i64 0] hrd.out rfl rfl (by intro u hu; simp at hu; subst hu; rfl) (by simp only [maxLen]; omega) (by omega) (by simp; omega) ?_; intro v7 w7 hown7 hg7 hv7; obtain ⟨g7, c7, rfl⟩ := own_some hown7; obtain ⟨z0, z1, h0, h1⟩ := (blk_grown hg7 FA.out.box (fun e => FA.out.2.2.2.2.1 gx e.symm rfl)).two; have FB := Lib.hid (FA.out.pushP (xs := [0]) hown7 hg7 hv7); obtain ⟨p0, p1, r0, r1⟩ := FB.out.box.two; have FC := Lib.hid (FB.out.alloc (.cells #[.int .i64 Pl.length, .int .i64 Pl.length] 3)); have hrd2 := Lib.hid (read_new (w7.setCell ⟨gx, 1, none⟩ (.slice (some ⟨g7, 0, none⟩) (Pl.length + 1) c7)) #[.int .i64 Pl.length, .int .i64 Pl.length] 3 [.int .i64 Pl.length, .int .i64 Pl.length] rfl); have xl2 := FB.out.box.lt; simp only [World.size_setCell] at xl2 hrd2; clear FB FA hrd hown7 hg7 hv7) | (at_builtin; refine wpList_append_r _ rfl (.tmp 57) (.tmp 66) 22 rfl (W.heap.size + 1) 3 i0 (.int .i64 0) 1 8 Try.underlying22 hi0 hz0 hz1 hz2 rfl (by decide) _ Wl.length (Wl.map (Value.int .i64)) FC.out.1 rfl (some ⟨w7.heap.size, 0, none⟩) 2 2 [.int .i64 Pl.length, .int .i64 Pl.length] hrd2.out rfl rfl (by intro u hu; simp at hu; subst hu; rfl) (by simp only [maxLen]; omega) (by omega) (by simp; omega) ?_; intro v9 w9 hown9 hg9 hv9; obtain ⟨g9, c9, rfl⟩ := own_some hown9; obtain ⟨s0, s1, m0, m1⟩ := (blk_grown hg9 FC.out.box (fun e => FC.out.2.2.2.1 gx e.symm rfl)).two; obtain ⟨y0, y1, g0, g1⟩ := (blk_grown hg9 FC.out.res (fun e => by have := (FC.out.1.lt _ e.symm).1; omega)).two; have FD := Lib.hid (FC.out.pushW (xs := [(Pl.length : Int), (Pl.length : Int)]) hown9 hg9 hv9); clear FC hrd2 hown9 hg9 hv9))
            have Z := Lib.hid (FD.out.fin (by simp; omega) (by simp; omega))
            clear FD
            exact bodyPost_ret (v := .agg #[.slice (some ⟨g9, 0, none⟩) (Wl.length + 2) c9, .slice (some ⟨g7, 0, none⟩) (Pl.length + 1) c7]) (by simp [results, Try.results46, go_sem, y0, y1]) rfl Z.out
    · go_wp2_with fail
      refine (odd_any rb Q n _ T.out.rd (by omega) (by omega)).mono ?_
      rintro e w5 ⟨o, rfl, hr5, hg5, hs5⟩
      have T5 := Lib.hid (T.out.pick hr5 hg5)
      clear T hr5 hg5 hs5 x0 x1 f0 f1
      cases o
      · have F5 := Lib.hid T5.out.tfin
        obtain ⟨x0, x1, f0, f1⟩ := F5.out.box.two
        obtain ⟨y0, y1, g0, g1⟩ := F5.out.res.two
        have Z := Lib.hid (F5.out.fin (by omega) (by omega))
        clear T5 F5
        go_wp2
        exact bodyPost_ret (v := .agg #[.slice A Wl.length c, .slice B Pl.length d]) (by simp [results, Try.results46, go_sem, y0, y1]) rfl Z.out
      · go_wp2_with fail
        refine (pick_in rb (Q + 1) _ _ T5.out.rd (by omega) (by omega)).mono ?_
        rintro e w6 ⟨q, rfl, q0, q1, hr6, hg6, hs6⟩
        have F6 := Lib.hid (T5.out.tfin.pick hg6)
        clear T5 hr6 hg6 hs6
        obtain ⟨x0, x1, f0, f1⟩ := F6.out.box.two
        have xl := F6.out.box.lt
        have xg := F6.out.2.2.2.2.2.2.2.2.2
        have hq : q = 0 ∨ q = 1 ∨ q = 2 := by omega
        rcases hq with rfl | rfl | rfl
        · have FA := Lib.hid (F6.out.alloc (.cells #[.int .i64 Pl.length] 3))
          have hrd := Lib.hid (read_new w6 #[.int .i64 Pl.length] 3 [.int .i64 Pl.length] rfl)
          clear F6
          go_wp2_with (at_builtin; refine wpList_append_r _ rfl (.tmp 72) (.tmp 76) 22 rfl (W.heap.size + 1) 3 i0 (.int .i64 0) 1 8 Try.underlying22 hi0 hz0 hz1 hz2 rfl (by decide) _ Wl.length (Wl.map (Value.int .i64)) FA.out.1 rfl (some ⟨w6.heap.size, 0, none⟩) 1 1 [.int .i64 Pl.length] hrd.out rfl rfl (by intro u hu; simp at hu; subst hu; rfl) (by simp only [maxLen]; omega) (by omega) (by simp; omega) ?_; intro v7 w7 hown7 hg7 hv7; obtain ⟨g7, c7, rfl⟩ := own_some hown7; obtain ⟨z0, z1, h0, h1⟩ := (blk_grown hg7 FA.out.box (fun e => FA.out.2.2.2.1 gx e.symm rfl)).two; obtain ⟨y0, y1, g0, g1⟩ := (blk_grown hg7 FA.out.res (fun e => by have := (FA.out.1.lt _ e.symm).1; omega)).two)
          have Z := Lib.hid ((FA.out.pushW (xs := [(Pl.length : Int)]) hown7 hg7 hv7).fin (by simp; omega) (by omega))
          clear FA hrd hown7 hg7 hv7
          exact bodyPost_ret (v := .agg #[.slice (some ⟨g7, 0, none⟩) (Wl.length + 1) c7, .slice B Pl.length d]) (by simp [results, Try.results46, go_sem, y0, y1]) rfl Z.out
        · have FA := Lib.hid (F6.out.alloc (.cells #[.int .i64 256] 3))
          have hrd := Lib.hid (read_new w6 #[.int .i64 256] 3 [.int .i64 256] rfl)
          clear F6
          go_wp2_with (at_builtin; refine wpList_append_r _ rfl (.tmp 82) (.tmp 83) 22 rfl (W.heap.size + 1) 3 i0 (.int .i64 0) 1 8 Try.underlying22 hi0 hz0 hz1 hz2 rfl (by decide) _ Pl.length (Pl.map (Value.int .i64)) FA.out.2.1 rfl (some ⟨w6.heap.size, 0, none⟩) 1 1 [.int .i64 256] hrd.out rfl rfl (by intro u hu; simp at hu; subst hu; rfl) (by simp only [maxLen]; omega) (by omega) (by simp; omega) ?_; intro v7 w7 hown7 hg7 hv7; obtain ⟨g7, c7, rfl⟩ := own_some hown7; obtain ⟨z0, z1, h0, h1⟩ := (blk_grown hg7 FA.out.box (fun e => FA.out.2.2.2.2.1 gx e.symm rfl)).two; obtain ⟨y0, y1, g0, g1⟩ := (blk_grown hg7 FA.out.res (fun e => by have := (FA.out.2.1.lt _ e.symm).1; omega)).two)
          have Z := Lib.hid ((FA.out.pushP (xs := [256]) hown7 hg7 hv7).fin (by omega) (by simp; omega))
          clear FA hrd hown7 hg7 hv7
          exact bodyPost_ret (v := .agg #[.slice A Wl.length c, .slice (some ⟨g7, 0, none⟩) (Pl.length + 1) c7]) (by simp [results, Try.results46, go_sem, y0, y1]) rfl Z.out
        · have FA := Lib.hid (F6.out.alloc (.cells #[.int .i64 0] 3))
          have hrd := Lib.hid (read_new w6 #[.int .i64 0] 3 [.int .i64 0] rfl)
          clear F6
          go_wp2_with (first | (at_builtin; refine wpList_append_r _ rfl (.tmp 52) (.tmp 53) 22 rfl (W.heap.size + 1) 3 i0 (.int .i64 0) 1 8 Try.underlying22 hi0 hz0 hz1 hz2 rfl (by decide) _ Pl.length (Pl.map (Value.int .i64)) FA.out.2.1 rfl (some ⟨w6.heap.size, 0, none⟩) 1 1 [.int .i64 0] hrd.out rfl rfl (by intro u hu; simp at hu; subst hu; rfl) (by simp only [maxLen]; omega) (by omega) (by simp; omega) ?_; intro v7 w7 hown7 hg7 hv7; obtain ⟨g7, c7, rfl⟩ := own_some hown7; obtain ⟨z0, z1, h0, h1⟩ := (blk_grown hg7 FA.out.box (fun e => FA.out.2.2.2.2.1 gx e.symm rfl)).two; have FB := Lib.hid (FA.out.pushP (xs := [0]) hown7 hg7 hv7); obtain ⟨p0, p1, r0, r1⟩ := FB.out.box.two; have FC := Lib.hid (FB.out.alloc (.cells #[.int .i64 Pl.length, .int .i64 Pl.length] 3)); have hrd2 := Lib.hid (read_new (w7.setCell ⟨gx, 1, none⟩ (.slice (some ⟨g7, 0, none⟩) (Pl.length + 1) c7)) #[.int .i64 Pl.length, .int .i64 Pl.length] 3 [.int .i64 Pl.length, .int .i64 Pl.length] rfl); have xl2 := FB.out.box.lt; simp only [World.size_setCell] at xl2 hrd2; clear FB FA hrd hown7 hg7 hv7) | (at_builtin; refine wpList_append_r _ rfl (.tmp 57) (.tmp 66) 22 rfl (W.heap.size + 1) 3 i0 (.int .i64 0) 1 8 Try.underlying22 hi0 hz0 hz1 hz2 rfl (by decide) _ Wl.length (Wl.map (Value.int .i64)) FC.out.1 rfl (some ⟨w7.heap.size, 0, none⟩) 2 2 [.int .i64 Pl.length, .int .i64 Pl.length] hrd2.out rfl rfl (by intro u hu; simp at hu; subst hu; rfl) (by simp only [maxLen]; omega) (by omega) (by simp; omega) ?_; intro v9 w9 hown9 hg9 hv9; obtain ⟨g9, c9, rfl⟩ := own_some hown9; obtain ⟨s0, s1, m0, m1⟩ := (blk_grown hg9 FC.out.box (fun e => FC.out.2.2.2.1 gx e.symm rfl)).two; obtain ⟨y0, y1, g0, g1⟩ := (blk_grown hg9 FC.out.res (fun e => by have := (FC.out.1.lt _ e.symm).1; omega)).two; have FD := Lib.hid (FC.out.pushW (xs := [(Pl.length : Int), (Pl.length : Int)]) hown9 hg9 hv9); clear FC hrd2 hown9 hg9 hv9))
          have Z := Lib.hid (FD.out.fin (by simp; omega) (by simp; omega))
          clear FD
          exact bodyPost_ret (v := .agg #[.slice (some ⟨g9, 0, none⟩) (Wl.length + 2) c9, .slice (some ⟨g7, 0, none⟩) (Pl.length + 1) c7]) (by simp [results, Try.results46, go_sem, y0, y1]) rfl Z.out
end Go.Proofs.Ytjkbooflbfnbiaa
