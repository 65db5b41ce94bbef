/- Proves Rows.FnThinValidSaid: for every input the law FnThinValid returns true and leaves its arguments as they were. Conditions: none. -/
import Derived.Test.YtjkbooflbfnbiaaOpen
import Derived.Test.YtjkbooflbfnbiaaDrV
import Derived.Test.YtjkbooflbfnbiaaRegZ
import Derived.Test.YtjkbooflbfnbiaaInts
namespace Go.Proofs.Ytjkbooflbfnbiaa.fnThinValid
open Go.ChangeShapes Go.WideShapes Go.ChangeAt Go.RowKit
set_option linter.unusedVariables false
theorem cell_keepT {w w' : World} {p : Addr} {v : Value} (h : w.cell? p = some v) (hb : Below w.heap.size w w') : w'.cell? p = some v :=
  (World.cell?_of_block (hb.block _ (block_lt_of_cell h))).trans h
theorem readc_nwt {w : World} {T : TypeId} {cs : Array Value} {xs : List Value} (h : xs = cs.toList) : ReadC (w.alloc (.cells cs T)) (some ⟨w.heap.size, 0, none⟩) xs := by
  subst h
  intro h0
  refine ⟨w.heap.size, 0, rfl, fun i hi => ?_⟩
  rw [Nat.zero_add, cell_of_row _ _ _ _ _ _ (heap_alloc_new w _)]
  rw [Array.length_toList] at hi
  rw [Array.getElem?_eq_getElem hi, Array.getElem_toList]
theorem readc_grownt {w w' : World} {g : Nat} {row : Option Nat} {xs : List Value} (h : ReadC w (some ⟨g, 0, none⟩) xs) (hg : w.grownBy w' row) (hne : row ≠ some g) : ReadC w' (some ⟨g, 0, none⟩) xs := by
  intro h0
  obtain ⟨b, off, e, hc⟩ := h h0
  injection e with e
  injection e with e1 e2
  subst e1 e2
  exact ⟨g, 0, rfl, fun i hi => hg.cell (hc i hi) (fun e => hne e.symm)⟩
theorem own_apartV {w : World} {base size n g : Nat} {e t : TypeId} {v : Value} {xs : List Value} {cs : Array Value} (h : w.ownsRow base e size v n xs) (hb : Blk w g t cs) (hne : t ≠ e) : ∀ b, v.ownBlock = some b → b ≠ g := by
  intro b hbb e'
  subst e'
  rcases h.2 with ⟨rfl, _⟩ | ⟨g', cap, cur, rfl, _, hg, _⟩
  · simp [Value.ownBlock] at hbb
  · simp only [Value.ownBlock, Option.some.injEq] at hbb
    subst hbb
    have h2 := hb.symm.trans hg
    simp only [Option.some.injEq, Obj.cells.injEq] at h2
    exact hne h2.2.1
/-- Two sectors at place 0 are one too many. -/
theorem thin_twice (W P : List Int) : thinB (W ++ [0, 0]) P = false := by
  have h : oneB (W ++ [0, 0]) = false := by
    unfold oneB
    rw [decide_eq_false_iff_not]
    intro h
    have h1 := h (W.length + 1) (by simp)
    rw [List.getD_eq_getElem?_getD, List.getElem?_append_right (by omega), show W.length + 1 - W.length = 1 by omega] at h1
    refine h1 (by simp) ?_
    rw [List.take_append, List.mem_append]
    right
    simp
  simp [thinB, h]

set_option linter.unusedSimpArgs false in
set_option maxHeartbeats 4000000 in
theorem walk (A : Option Addr) (m cp : Nat) (w : World) (hb : BytesIn w A m) (hmc : m ≤ cp) (hcp : cp ≤ 9223372036854775807) :
    Calls Try.prog 7 #[.slice A m cp] w fun e w' => e = .returned (.bool true) ∧ Below w.heap.size w w' := by
  obtain ⟨i0, hi0, hz0, hz1, hz2⟩ := info_parts rowinfo_ints
  by_cases hbig : 1048576 < m
  · go_enter Try.func7, Try.ntmps7
    go_wp2
    go_ret
    exact ⟨rfl, Below.refl _ _⟩
  · go_enter Try.func7, Try.ntmps7
    go_wp2_with fail
    refine (drawThinValid_any A m cp w hb hmc hcp).mono ?_
    rintro e w1 ⟨v, W, P, rfl, ht, lW, lP, b1⟩
    have T1 := Lib.hid ht
    have C1 := Lib.hid b1
    clear b1 hb
    obtain ⟨A1, c1, B1, d1, rfl, _⟩ := ht
    have X1 := Lib.hid (show Blk (w1.alloc (.cells #[.slice A1 W.length c1, .slice B1 P.length d1] 27)) w1.heap.size 27 #[.slice A1 W.length c1, .slice B1 P.length d1] from Blk.new rfl)
    have T1' := Lib.hid (T1.out.alloc (.cells #[.slice A1 W.length c1, .slice B1 P.length d1] 27))
    have C1' := Lib.hid (b_alloc C1.out (.cells #[.slice A1 W.length c1, .slice B1 P.length d1] 27))
    clear T1 C1
    go_wp2_with fail
    refine (implThin_any _ W P _ T1'.out (by omega) (by omega)).mono ?_
    rintro e w2 ⟨rfl, b2⟩
    have X2 := Lib.hid (blk_below b2 X1.out X1.out.lt)
    have T2 := Lib.hid (T1'.out.below b2)
    have C2 := Lib.hid (C1'.out.trans (b2.mono C1'.out.size))
    clear b2 X1 T1' C1'
    obtain ⟨x0, x1, _, _⟩ := X2.out.two
    go_wp2_with fail
    refine (specThin_any _ W P _ T2.out (by omega) (by omega)).mono ?_
    rintro e w3 ⟨rfl, b3⟩
    have X3 := Lib.hid (blk_below b3 X2.out X2.out.lt)
    have T3 := Lib.hid (T2.out.below b3)
    have C3 := Lib.hid (C2.out.trans (b3.mono C2.out.size))
    clear b3 X2 T2 C2 x0 x1
    obtain ⟨x0, x1, _, _⟩ := X3.out.two
    have hne : (thinB W P != thinB W P) = false := by simp
    have HW := Lib.hid (show ReadC w3 A1 (W.map (Value.int .i64)) from by
      obtain ⟨A', c', B', d', e, r1, _⟩ := T3.out
      injection e with e
      simp only [Array.mk.injEq, List.cons.injEq, and_true, Value.slice.injEq] at e
      obtain ⟨⟨rfl, _⟩, _⟩ := e
      exact readc_of r1)
    have hcd : P.length ≤ d1 ∧ d1 ≤ 9223372036854775807 := by
      obtain ⟨A', c', B', d', e, _, _, _, _, r3, r4⟩ := T3.out
      injection e with e
      simp only [Array.mk.injEq, List.cons.injEq, and_true, Value.slice.injEq] at e
      obtain ⟨_, _, _, rfl⟩ := e
      exact ⟨r3, r4⟩
    go_wp2
    refine wp_region_Z (fun w' : World => w'.cell? ⟨w1.heap.size, 0, none⟩ = some (.slice A1 W.length c1) ∧ w'.cell? ⟨w1.heap.size, 1, none⟩ = some (.slice B1 P.length d1)) 10 (by kernel_rfl) ?_
    generalize hv0 : w3.drew = u0
    have BB := Lib.hid (show Below w3.heap.size w3 u0 by rw [← hv0]; exact (Below.refl _ _).drew)
    clear hv0
    refine wpAnyZ_take (i := 1) (oi := ?o1) (v := ?v1) ?hi1 (by kernel_rfl) (by kernel_rfl) (by kernel_rfl) (by kernel_rfl) ?hq1 ?hy1 ⟨cell_keepT x0 BB.out, cell_keepT x1 BB.out⟩ ?rest1
    case hi1 => simp only [List.getElem?_toArray, List.getElem?_cons_succ, List.getElem?_cons_zero]; rfl
    case hq1 => exact fun _ _ _ h => h
    case hy1 => (refine Or.inl ⟨by rfl, ?_⟩; intro w hSw; (try dsimp only at hSw); go_simp; (try with_reducible rfl))
    simp only [Act.put, List.setIfInBounds_toArray, List.set_cons_zero, List.set_cons_succ]
    refine wpAnyZ_take (i := 2) (oi := ?o2) (v := ?v2) ?hi2 (by kernel_rfl) (by kernel_rfl) (by kernel_rfl) (by kernel_rfl) ?hq2 ?hy2 ⟨cell_keepT x0 BB.out, cell_keepT x1 BB.out⟩ ?rest2
    case hi2 => simp only [List.getElem?_toArray, List.getElem?_cons_succ, List.getElem?_cons_zero]; rfl
    case hq2 => exact fun _ _ _ h => h
    case hy2 => (refine Or.inl ⟨by rfl, ?_⟩; intro w hSw; (try dsimp only at hSw); go_simp; (try with_reducible rfl))
    simp only [Act.put, List.setIfInBounds_toArray, List.set_cons_zero, List.set_cons_succ]
    refine wpAnyZ_take (i := 6) (oi := ?o3) (v := ?v3) ?hi3 (by kernel_rfl) (by kernel_rfl) (by kernel_rfl) (by kernel_rfl) ?hq3 ?hy3 ⟨cell_keepT x0 BB.out, cell_keepT x1 BB.out⟩ ?rest3
    case hi3 => simp only [List.getElem?_toArray, List.getElem?_cons_succ, List.getElem?_cons_zero]; rfl
    case hq3 => exact fun _ _ _ h => h
    case hy3 => (refine Or.inl ⟨by rfl, ?_⟩; intro w hSw; (try dsimp only at hSw); go_simp; (try with_reducible rfl))
    simp only [Act.put, List.setIfInBounds_toArray, List.set_cons_zero, List.set_cons_succ]
    refine wpAnyZ_take (i := 7) (oi := ?o4) (v := ?v4) ?hi4 (by kernel_rfl) (by kernel_rfl) (by kernel_rfl) (by kernel_rfl) ?hq4 ?hy4 ⟨cell_keepT x0 BB.out, cell_keepT x1 BB.out⟩ ?rest4
    case hi4 => simp only [List.getElem?_toArray, List.getElem?_cons_succ, List.getElem?_cons_zero]; rfl
    case hq4 => exact fun _ _ _ h => h
    case hy4 => (refine Or.inl ⟨by rfl, ?_⟩; intro w hSw; (try dsimp only at hSw); go_simp; (try with_reducible rfl))
    simp only [Act.put, List.setIfInBounds_toArray, List.set_cons_zero, List.set_cons_succ]
    refine wpAnyZ_ready (rs := [0, 4, 9]) (by kernel_rfl) (by simp) ?_
    refine AllZ.cons (i := 0) (o := ?o5) ?hi5 (fun K hK => ?ra5) ?mr5
    case hi5 => simp only [List.getElem?_toArray, List.getElem?_cons_succ, List.getElem?_cons_zero]; rfl
    case ra5 =>
      go_simp
      have BBn := b_alloc BB.out (.cells #[] 3)
      have hzn : u0.heap.size < (u0.alloc (.cells #[] 3)).heap.size := by simp
      have hzm := Nat.le_of_lt hzn
      have hbz := BB.out.size
      have OBn := Lib.hid (World.ownsRow_lit (e := 3) (size := 1) (base := w3.heap.size) u0 #[] 0 BB.out.size (by simp [maxLen]) (by simp))
      refine hK.out _ _ (.inr ⟨cell_keepT x0 BBn, cell_keepT x1 BBn⟩) ?_
      clear hK K
      (try simp only [Act.put, List.setIfInBounds_toArray, List.set_cons_zero, List.set_cons_succ])
      have BBm := Lib.hid BBn
      clear BBn
      clear BB
      generalize hvv : u0.alloc (.cells #[] 3) = u1 at *
      clear hvv
      obtain ⟨p1, hpp1⟩ : ∃ x, x = u0.heap.size := ⟨_, rfl⟩
      rw [← hpp1] at hzn OBn ⊢
      clear hpp1
      have OB := OBn
      clear OBn
      have BB := BBm
      clear BBm
      refine wpAnyZ_ready (rs := [3, 4, 9]) (by kernel_rfl) (by simp) ?_
      refine AllZ.cons (i := 3) (o := ?o6) ?hi6 (fun K hK => ?ra6) ?mr6
      case hi6 => simp only [List.getElem?_toArray, List.getElem?_cons_succ, List.getElem?_cons_zero]; rfl
      case ra6 =>
        refine step_append_r _ (by rfl) (.tmp 17) (.tmp 19) 22 (by rfl) w3.heap.size 3 i0 (.int .i64 0) 1 8 Try.underlying22 hi0 hz0 hz1 hz2 rfl (by decide) _ 0 [] OB.out ?_ A1 W.length c1 (W.map (Value.int .i64)) (HW.out.below BB.out) (by simp [Act.eval, Act.put] <;> fail) (by simp) (ints_one W) (by simp only [maxLen]; omega) (by omega) BB.out.size ?_
        simp [Act.eval, Act.put]
        intro v5 u2 o5 g5 d5
        rw [Nat.zero_add] at o5
        obtain ⟨A5, c5, rfl⟩ := own_slice o5
        have BBn := Below.grown BB.out g5 BB.out.size (fun k hk => (OB.out.lt k hk).1)
        have hzn := g5.size
        have hbz := BB.out.size
        refine hK.out _ _ (.inr ⟨cell_keepT x0 BBn, cell_keepT x1 BBn⟩) ?_
        clear hK K
        (try simp only [Act.put, List.setIfInBounds_toArray, List.set_cons_zero, List.set_cons_succ])
        have OA := Lib.hid o5
        clear OB o5 g5 d5 BB
        have BB := Lib.hid BBn
        clear BBn
        refine wpAnyZ_ready (rs := [4, 9]) (by kernel_rfl) (by simp) ?_
        refine AllZ.cons (i := 4) (o := ?o7) ?hi7 (fun K hK => ?ra7) ?mr7
        case hi7 => simp only [List.getElem?_toArray, List.getElem?_cons_succ, List.getElem?_cons_zero]; rfl
        case ra7 =>
          go_simp
          have BBn := b_alloc BB.out (.cells #[.int .i64 0, .int .i64 0] 3)
          have hzn : u2.heap.size < (u2.alloc (.cells #[.int .i64 0, .int .i64 0] 3)).heap.size := by simp
          have hzm := Nat.le_of_lt hzn
          have hbz := BB.out.size
          have OAn := Lib.hid (OA.out.alloc (.cells #[.int .i64 0, .int .i64 0] 3))
          have RBn := Lib.hid (readc_nwt (w := u2) (T := 3) (cs := #[.int .i64 0, .int .i64 0]) (xs := [.int .i64 0, .int .i64 0]) rfl)
          refine hK.out _ _ (.inr ⟨cell_keepT x0 BBn, cell_keepT x1 BBn⟩) ?_
          clear hK K
          (try simp only [Act.put, List.setIfInBounds_toArray, List.set_cons_zero, List.set_cons_succ])
          have BBm := Lib.hid BBn
          clear BBn
          clear OA
          clear BB
          generalize hvv : u2.alloc (.cells #[.int .i64 0, .int .i64 0] 3) = u3 at *
          clear hvv
          obtain ⟨p2, hpp2⟩ : ∃ x, x = u2.heap.size := ⟨_, rfl⟩
          rw [← hpp2] at hzn RBn ⊢
          clear hpp2
          have OA := OAn
          have RB := RBn
          clear OAn RBn
          have BB := BBm
          clear BBm
          refine wpAnyZ_ready (rs := [5, 9]) (by kernel_rfl) (by simp) ?_
          refine AllZ.cons (i := 5) (o := ?o8) ?hi8 (fun K hK => ?ra8) ?mr8
          case hi8 => simp only [List.getElem?_toArray, List.getElem?_cons_succ, List.getElem?_cons_zero]; rfl
          case ra8 =>
            refine step_append_r _ (by rfl) (.tmp 20) (.tmp 21) 22 (by rfl) w3.heap.size 3 i0 (.int .i64 0) 1 8 Try.underlying22 hi0 hz0 hz1 hz2 rfl (by decide) _ W.length (W.map (Value.int .i64)) OA.out ?_ (some ⟨p2, 0, none⟩) 2 2 [.int .i64 0, .int .i64 0] RB.out (by simp [Act.eval, Act.put] <;> fail) rfl (by intro u hu; simp at hu; subst hu; rfl) (by simp only [maxLen]; omega) (by omega) BB.out.size ?_
            simp [Act.eval, Act.put]
            intro v6 u4 o6 g6 d6
            obtain ⟨A6, c6, rfl⟩ := own_slice o6
            have BBn := Below.grown BB.out g6 BB.out.size (fun k hk => (OA.out.lt k hk).1)
            have hzn := g6.size
            have hbz := BB.out.size
            refine hK.out _ _ (.inr ⟨cell_keepT x0 BBn, cell_keepT x1 BBn⟩) ?_
            clear hK K
            (try simp only [Act.put, List.setIfInBounds_toArray, List.set_cons_zero, List.set_cons_succ])
            have O6 := Lib.hid o6
            clear OA RB o6 g6 d6 BB
            have BB := Lib.hid BBn
            clear BBn
            refine wpAnyZ_take (i := 8) (oi := ?o9) (v := ?v9) ?hi9 (by kernel_rfl) (by kernel_rfl) (by kernel_rfl) (by kernel_rfl) ?hq9 ?hy9 ⟨cell_keepT x0 BB.out, cell_keepT x1 BB.out⟩ ?rest9
            case hi9 => simp only [List.getElem?_toArray, List.getElem?_cons_succ, List.getElem?_cons_zero]; rfl
            case hq9 => exact fun _ _ _ h => h
            case hy9 => (refine Or.inl ⟨by rfl, ?_⟩; intro w hSw; (try dsimp only at hSw); go_simp; (try with_reducible rfl))
            simp only [Act.put, List.setIfInBounds_toArray, List.set_cons_zero, List.set_cons_succ]
            refine wpAnyZ_ready (rs := [9]) (by kernel_rfl) (by simp) ?_
            refine AllZ.cons (i := 9) (o := ?o10) ?hi10 (fun K hK => ?ra10) ?mr10
            case hi10 => simp only [List.getElem?_toArray, List.getElem?_cons_succ, List.getElem?_cons_zero]; rfl
            case ra10 =>
              go_simp
              have BBn := b_alloc BB.out (.cells #[.slice none 0 0, .slice none 0 0] 27)
              have hzn : u4.heap.size < (u4.alloc (.cells #[.slice none 0 0, .slice none 0 0] 27)).heap.size := by simp
              have hzm := Nat.le_of_lt hzn
              have hbz := BB.out.size
              have O6n := Lib.hid (O6.out.alloc (.cells #[.slice none 0 0, .slice none 0 0] 27))
              have hlo5 := Lib.hid BB.out.size
              have KAn := Lib.hid (show Blk (u4.alloc (.cells #[.slice none 0 0, .slice none 0 0] 27)) u4.heap.size 27 #[.slice none 0 0, .slice none 0 0] from Blk.new rfl)
              refine hK.out _ _ (.inr ⟨cell_keepT x0 BBn, cell_keepT x1 BBn⟩) ?_
              clear hK K
              (try simp only [Act.put, List.setIfInBounds_toArray, List.set_cons_zero, List.set_cons_succ])
              have BBm := Lib.hid BBn
              clear BBn
              clear O6
              clear BB
              generalize hvv : u4.alloc (.cells #[.slice none 0 0, .slice none 0 0] 27) = u5 at *
              clear hvv
              obtain ⟨p5, hpp5⟩ : ∃ x, x = u4.heap.size := ⟨_, rfl⟩
              rw [← hpp5] at hzn KAn hlo5 ⊢
              clear hpp5
              have KA := KAn
              have O6 := O6n
              clear KAn O6n
              have BB := BBm
              clear BBm
              obtain ⟨s0, s1, s2, s3⟩ := KA.out.two
              refine wpAnyZ_one (i := 10) (o := ?o11) (by kernel_rfl) ?hi11 (fun K hK => ?rest11)
              case hi11 => simp only [List.getElem?_toArray, List.getElem?_cons_succ, List.getElem?_cons_zero]; rfl
              go_simp
              refine hK.out _ _ (.inl rfl) ?_
              clear hK K
              (try simp only [Act.put, List.setIfInBounds_toArray, List.set_cons_zero, List.set_cons_succ])
              refine wpAnyZ_done (by kernel_rfl) ?_ _
              have hbz := BB.out.size
              have hp5 : w3.heap.size ≤ p5 := hlo5.out
              have BF := (BB.out.setCell (p := ⟨p5, 0, none⟩) hp5 (.slice A6 (W.length + 2) c6)).setCell (p := ⟨p5, 1, none⟩) hp5 (.slice B1 P.length d1)
              have KF := (KA.out.set 0 (.slice A6 (W.length + 2) c6)).set 1 (.slice B1 P.length d1)
              have OF := own_far (p := ⟨p5, 1, none⟩) (own_far (p := ⟨p5, 0, none⟩) O6.out (own_apartV O6.out KA.out (by decide)) (.slice A6 (W.length + 2) c6)) (own_apartV O6.out KA.out (by decide)) (.slice B1 P.length d1)
              have HT := Lib.hid (show ThinR ((u5.setCell ⟨p5, 0, none⟩ (.slice A6 (W.length + 2) c6)).setCell ⟨p5, 1, none⟩ (.slice B1 P.length d1)) (.agg #[.slice A6 (W.length + 2) c6, .slice B1 P.length d1]) (W ++ [0, 0]) P from by
                obtain ⟨A', c', B', d', e, _, r2, _⟩ := T3.out.below BF
                injection e with e
                simp only [Array.mk.injEq, List.cons.injEq, and_true, Value.slice.injEq] at e
                obtain ⟨_, rfl, _, rfl⟩ := e
                have e2 : (W ++ [(0 : Int), 0]).length = W.length + 2 := by simp
                have q := own_cap OF
                refine ⟨A6, c6, B1, d1, by rw [e2], IntsIn.of ?_, r2, by rw [e2]; exact q.1, q.2, hcd.1, hcd.2⟩
                have := own_read OF
                simpa using this)
              have CF := Lib.hid (C3.out.trans (BF.mono C3.out.size))
              obtain ⟨t0, t1, _, _⟩ := KF.two
              clear BF KF OF BB KA O6
              go_wp2_with fail
              refine (implThin_any _ (W ++ [0, 0]) P _ HT.out (by simp; omega) (by omega)).mono ?_
              rintro e w8 ⟨rfl, b8⟩
              rw [thin_twice]
              have CG := Lib.hid (CF.out.trans (b8.mono CF.out.size))
              clear b8 CF HT
              go_wp2_with fail
              refine (alive_any _).mono ?_
              rintro e w9 ⟨rfl, b9⟩
              have CH := Lib.hid (CG.out.trans (b9.mono CG.out.size))
              clear b9 CG
              go_wp2
              go_ret
              exact ⟨rfl, CH.out⟩
            exact AllZ.nil
          refine AllZ.cons (i := 9) (o := ?o12) ?hi12 (fun K hK => ?ra12) ?mr12
          case hi12 => simp only [List.getElem?_toArray, List.getElem?_cons_succ, List.getElem?_cons_zero]; rfl
          case ra12 =>
            go_simp
            have BBn := b_alloc BB.out (.cells #[.slice none 0 0, .slice none 0 0] 27)
            have hzn : u3.heap.size < (u3.alloc (.cells #[.slice none 0 0, .slice none 0 0] 27)).heap.size := by simp
            have hzm := Nat.le_of_lt hzn
            have hbz := BB.out.size
            have RBn := Lib.hid (RB.out.alloc (.cells #[.slice none 0 0, .slice none 0 0] 27))
            have OAn := Lib.hid (OA.out.alloc (.cells #[.slice none 0 0, .slice none 0 0] 27))
            have hlo5 := Lib.hid BB.out.size
            have KAn := Lib.hid (show Blk (u3.alloc (.cells #[.slice none 0 0, .slice none 0 0] 27)) u3.heap.size 27 #[.slice none 0 0, .slice none 0 0] from Blk.new rfl)
            refine hK.out _ _ (.inr ⟨cell_keepT x0 BBn, cell_keepT x1 BBn⟩) ?_
            clear hK K
            (try simp only [Act.put, List.setIfInBounds_toArray, List.set_cons_zero, List.set_cons_succ])
            have BBm := Lib.hid BBn
            clear BBn
            clear RB OA
            clear BB
            generalize hvv : u3.alloc (.cells #[.slice none 0 0, .slice none 0 0] 27) = u4 at *
            clear hvv
            obtain ⟨p5, hpp5⟩ : ∃ x, x = u3.heap.size := ⟨_, rfl⟩
            rw [← hpp5] at hzn KAn hlo5 ⊢
            clear hpp5
            have KA := KAn
            have OA := OAn
            have RB := RBn
            clear KAn OAn RBn
            have BB := BBm
            clear BBm
            refine wpAnyZ_ready (rs := [5]) (by kernel_rfl) (by simp) ?_
            refine AllZ.cons (i := 5) (o := ?o13) ?hi13 (fun K hK => ?ra13) ?mr13
            case hi13 => simp only [List.getElem?_toArray, List.getElem?_cons_succ, List.getElem?_cons_zero]; rfl
            case ra13 =>
              refine step_append_r _ (by rfl) (.tmp 20) (.tmp 21) 22 (by rfl) w3.heap.size 3 i0 (.int .i64 0) 1 8 Try.underlying22 hi0 hz0 hz1 hz2 rfl (by decide) _ W.length (W.map (Value.int .i64)) OA.out ?_ (some ⟨p2, 0, none⟩) 2 2 [.int .i64 0, .int .i64 0] RB.out (by simp [Act.eval, Act.put] <;> fail) rfl (by intro u hu; simp at hu; subst hu; rfl) (by simp only [maxLen]; omega) (by omega) BB.out.size ?_
              simp [Act.eval, Act.put]
              intro v6 u5 o6 g6 d6
              obtain ⟨A6, c6, rfl⟩ := own_slice o6
              have BBn := Below.grown BB.out g6 BB.out.size (fun k hk => (OA.out.lt k hk).1)
              have hzn := g6.size
              have hbz := BB.out.size
              have KAn := Lib.hid (blk_grown g6 KA.out (fun e => own_apartV OA.out KA.out (by decide) _ e.symm rfl))
              refine hK.out _ _ (.inr ⟨cell_keepT x0 BBn, cell_keepT x1 BBn⟩) ?_
              clear hK K
              (try simp only [Act.put, List.setIfInBounds_toArray, List.set_cons_zero, List.set_cons_succ])
              have O6 := Lib.hid o6
              clear OA RB o6 g6 d6 BB
              clear KA
              have KA := KAn
              clear KAn
              have BB := Lib.hid BBn
              clear BBn
              refine wpAnyZ_take (i := 8) (oi := ?o14) (v := ?v14) ?hi14 (by kernel_rfl) (by kernel_rfl) (by kernel_rfl) (by kernel_rfl) ?hq14 ?hy14 ⟨cell_keepT x0 BB.out, cell_keepT x1 BB.out⟩ ?rest14
              case hi14 => simp only [List.getElem?_toArray, List.getElem?_cons_succ, List.getElem?_cons_zero]; rfl
              case hq14 => exact fun _ _ _ h => h
              case hy14 => (refine Or.inl ⟨by rfl, ?_⟩; intro w hSw; (try dsimp only at hSw); go_simp; (try with_reducible rfl))
              simp only [Act.put, List.setIfInBounds_toArray, List.set_cons_zero, List.set_cons_succ]
              obtain ⟨s0, s1, s2, s3⟩ := KA.out.two
              refine wpAnyZ_one (i := 10) (o := ?o15) (by kernel_rfl) ?hi15 (fun K hK => ?rest15)
              case hi15 => simp only [List.getElem?_toArray, List.getElem?_cons_succ, List.getElem?_cons_zero]; rfl
              go_simp
              refine hK.out _ _ (.inl rfl) ?_
              clear hK K
              (try simp only [Act.put, List.setIfInBounds_toArray, List.set_cons_zero, List.set_cons_succ])
              refine wpAnyZ_done (by kernel_rfl) ?_ _
              have hbz := BB.out.size
              have hp5 : w3.heap.size ≤ p5 := hlo5.out
              have BF := (BB.out.setCell (p := ⟨p5, 0, none⟩) hp5 (.slice A6 (W.length + 2) c6)).setCell (p := ⟨p5, 1, none⟩) hp5 (.slice B1 P.length d1)
              have KF := (KA.out.set 0 (.slice A6 (W.length + 2) c6)).set 1 (.slice B1 P.length d1)
              have OF := own_far (p := ⟨p5, 1, none⟩) (own_far (p := ⟨p5, 0, none⟩) O6.out (own_apartV O6.out KA.out (by decide)) (.slice A6 (W.length + 2) c6)) (own_apartV O6.out KA.out (by decide)) (.slice B1 P.length d1)
              have HT := Lib.hid (show ThinR ((u5.setCell ⟨p5, 0, none⟩ (.slice A6 (W.length + 2) c6)).setCell ⟨p5, 1, none⟩ (.slice B1 P.length d1)) (.agg #[.slice A6 (W.length + 2) c6, .slice B1 P.length d1]) (W ++ [0, 0]) P from by
                obtain ⟨A', c', B', d', e, _, r2, _⟩ := T3.out.below BF
                injection e with e
                simp only [Array.mk.injEq, List.cons.injEq, and_true, Value.slice.injEq] at e
                obtain ⟨_, rfl, _, rfl⟩ := e
                have e2 : (W ++ [(0 : Int), 0]).length = W.length + 2 := by simp
                have q := own_cap OF
                refine ⟨A6, c6, B1, d1, by rw [e2], IntsIn.of ?_, r2, by rw [e2]; exact q.1, q.2, hcd.1, hcd.2⟩
                have := own_read OF
                simpa using this)
              have CF := Lib.hid (C3.out.trans (BF.mono C3.out.size))
              obtain ⟨t0, t1, _, _⟩ := KF.two
              clear BF KF OF BB KA O6
              go_wp2_with fail
              refine (implThin_any _ (W ++ [0, 0]) P _ HT.out (by simp; omega) (by omega)).mono ?_
              rintro e w8 ⟨rfl, b8⟩
              rw [thin_twice]
              have CG := Lib.hid (CF.out.trans (b8.mono CF.out.size))
              clear b8 CF HT
              go_wp2_with fail
              refine (alive_any _).mono ?_
              rintro e w9 ⟨rfl, b9⟩
              have CH := Lib.hid (CG.out.trans (b9.mono CG.out.size))
              clear b9 CG
              go_wp2
              go_ret
              exact ⟨rfl, CH.out⟩
            exact AllZ.nil
          exact AllZ.nil
        refine AllZ.cons (i := 9) (o := ?o16) ?hi16 (fun K hK => ?ra16) ?mr16
        case hi16 => simp only [List.getElem?_toArray, List.getElem?_cons_succ, List.getElem?_cons_zero]; rfl
        case ra16 =>
          go_simp
          have BBn := b_alloc BB.out (.cells #[.slice none 0 0, .slice none 0 0] 27)
          have hzn : u2.heap.size < (u2.alloc (.cells #[.slice none 0 0, .slice none 0 0] 27)).heap.size := by simp
          have hzm := Nat.le_of_lt hzn
          have hbz := BB.out.size
          have OAn := Lib.hid (OA.out.alloc (.cells #[.slice none 0 0, .slice none 0 0] 27))
          have hlo5 := Lib.hid BB.out.size
          have KAn := Lib.hid (show Blk (u2.alloc (.cells #[.slice none 0 0, .slice none 0 0] 27)) u2.heap.size 27 #[.slice none 0 0, .slice none 0 0] from Blk.new rfl)
          refine hK.out _ _ (.inr ⟨cell_keepT x0 BBn, cell_keepT x1 BBn⟩) ?_
          clear hK K
          (try simp only [Act.put, List.setIfInBounds_toArray, List.set_cons_zero, List.set_cons_succ])
          have BBm := Lib.hid BBn
          clear BBn
          clear OA
          clear BB
          generalize hvv : u2.alloc (.cells #[.slice none 0 0, .slice none 0 0] 27) = u3 at *
          clear hvv
          obtain ⟨p5, hpp5⟩ : ∃ x, x = u2.heap.size := ⟨_, rfl⟩
          rw [← hpp5] at hzn KAn hlo5 ⊢
          clear hpp5
          have KA := KAn
          have OA := OAn
          clear KAn OAn
          have BB := BBm
          clear BBm
          refine wpAnyZ_ready (rs := [4]) (by kernel_rfl) (by simp) ?_
          refine AllZ.cons (i := 4) (o := ?o17) ?hi17 (fun K hK => ?ra17) ?mr17
          case hi17 => simp only [List.getElem?_toArray, List.getElem?_cons_succ, List.getElem?_cons_zero]; rfl
          case ra17 =>
            go_simp
            have BBn := b_alloc BB.out (.cells #[.int .i64 0, .int .i64 0] 3)
            have hzn : u3.heap.size < (u3.alloc (.cells #[.int .i64 0, .int .i64 0] 3)).heap.size := by simp
            have hzm := Nat.le_of_lt hzn
            have hbz := BB.out.size
            have OAn := Lib.hid (OA.out.alloc (.cells #[.int .i64 0, .int .i64 0] 3))
            have KAn := Lib.hid (KA.out.alloc (.cells #[.int .i64 0, .int .i64 0] 3))
            have RBn := Lib.hid (readc_nwt (w := u3) (T := 3) (cs := #[.int .i64 0, .int .i64 0]) (xs := [.int .i64 0, .int .i64 0]) rfl)
            refine hK.out _ _ (.inr ⟨cell_keepT x0 BBn, cell_keepT x1 BBn⟩) ?_
            clear hK K
            (try simp only [Act.put, List.setIfInBounds_toArray, List.set_cons_zero, List.set_cons_succ])
            have BBm := Lib.hid BBn
            clear BBn
            clear OA KA
            clear BB
            generalize hvv : u3.alloc (.cells #[.int .i64 0, .int .i64 0] 3) = u4 at *
            clear hvv
            obtain ⟨p2, hpp2⟩ : ∃ x, x = u3.heap.size := ⟨_, rfl⟩
            rw [← hpp2] at hzn RBn ⊢
            clear hpp2
            have KA := KAn
            have OA := OAn
            have RB := RBn
            clear KAn OAn RBn
            have BB := BBm
            clear BBm
            refine wpAnyZ_ready (rs := [5]) (by kernel_rfl) (by simp) ?_
            refine AllZ.cons (i := 5) (o := ?o18) ?hi18 (fun K hK => ?ra18) ?mr18
            case hi18 => simp only [List.getElem?_toArray, List.getElem?_cons_succ, List.getElem?_cons_zero]; rfl
            case ra18 =>
              refine step_append_r _ (by rfl) (.tmp 20) (.tmp 21) 22 (by rfl) w3.heap.size 3 i0 (.int .i64 0) 1 8 Try.underlying22 hi0 hz0 hz1 hz2 rfl (by decide) _ W.length (W.map (Value.int .i64)) OA.out ?_ (some ⟨p2, 0, none⟩) 2 2 [.int .i64 0, .int .i64 0] RB.out (by simp [Act.eval, Act.put] <;> fail) rfl (by intro u hu; simp at hu; subst hu; rfl) (by simp only [maxLen]; omega) (by omega) BB.out.size ?_
              simp [Act.eval, Act.put]
              intro v6 u5 o6 g6 d6
              obtain ⟨A6, c6, rfl⟩ := own_slice o6
              have BBn := Below.grown BB.out g6 BB.out.size (fun k hk => (OA.out.lt k hk).1)
              have hzn := g6.size
              have hbz := BB.out.size
              have KAn := Lib.hid (blk_grown g6 KA.out (fun e => own_apartV OA.out KA.out (by decide) _ e.symm rfl))
              refine hK.out _ _ (.inr ⟨cell_keepT x0 BBn, cell_keepT x1 BBn⟩) ?_
              clear hK K
              (try simp only [Act.put, List.setIfInBounds_toArray, List.set_cons_zero, List.set_cons_succ])
              have O6 := Lib.hid o6
              clear OA RB o6 g6 d6 BB
              clear KA
              have KA := KAn
              clear KAn
              have BB := Lib.hid BBn
              clear BBn
              refine wpAnyZ_take (i := 8) (oi := ?o19) (v := ?v19) ?hi19 (by kernel_rfl) (by kernel_rfl) (by kernel_rfl) (by kernel_rfl) ?hq19 ?hy19 ⟨cell_keepT x0 BB.out, cell_keepT x1 BB.out⟩ ?rest19
              case hi19 => simp only [List.getElem?_toArray, List.getElem?_cons_succ, List.getElem?_cons_zero]; rfl
              case hq19 => exact fun _ _ _ h => h
              case hy19 => (refine Or.inl ⟨by rfl, ?_⟩; intro w hSw; (try dsimp only at hSw); go_simp; (try with_reducible rfl))
              simp only [Act.put, List.setIfInBounds_toArray, List.set_cons_zero, List.set_cons_succ]
              obtain ⟨s0, s1, s2, s3⟩ := KA.out.two
              refine wpAnyZ_one (i := 10) (o := ?o20) (by kernel_rfl) ?hi20 (fun K hK => ?rest20)
              case hi20 => simp only [List.getElem?_toArray, List.getElem?_cons_succ, List.getElem?_cons_zero]; rfl
              go_simp
              refine hK.out _ _ (.inl rfl) ?_
              clear hK K
              (try simp only [Act.put, List.setIfInBounds_toArray, List.set_cons_zero, List.set_cons_succ])
              refine wpAnyZ_done (by kernel_rfl) ?_ _
              have hbz := BB.out.size
              have hp5 : w3.heap.size ≤ p5 := hlo5.out
              have BF := (BB.out.setCell (p := ⟨p5, 0, none⟩) hp5 (.slice A6 (W.length + 2) c6)).setCell (p := ⟨p5, 1, none⟩) hp5 (.slice B1 P.length d1)
              have KF := (KA.out.set 0 (.slice A6 (W.length + 2) c6)).set 1 (.slice B1 P.length d1)
              have OF := own_far (p := ⟨p5, 1, none⟩) (own_far (p := ⟨p5, 0, none⟩) O6.out (own_apartV O6.out KA.out (by decide)) (.slice A6 (W.length + 2) c6)) (own_apartV O6.out KA.out (by decide)) (.slice B1 P.length d1)
              have HT := Lib.hid (show ThinR ((u5.setCell ⟨p5, 0, none⟩ (.slice A6 (W.length + 2) c6)).setCell ⟨p5, 1, none⟩ (.slice B1 P.length d1)) (.agg #[.slice A6 (W.length + 2) c6, .slice B1 P.length d1]) (W ++ [0, 0]) P from by
                obtain ⟨A', c', B', d', e, _, r2, _⟩ := T3.out.below BF
                injection e with e
                simp only [Array.mk.injEq, List.cons.injEq, and_true, Value.slice.injEq] at e
                obtain ⟨_, rfl, _, rfl⟩ := e
                have e2 : (W ++ [(0 : Int), 0]).length = W.length + 2 := by simp
                have q := own_cap OF
                refine ⟨A6, c6, B1, d1, by rw [e2], IntsIn.of ?_, r2, by rw [e2]; exact q.1, q.2, hcd.1, hcd.2⟩
                have := own_read OF
                simpa using this)
              have CF := Lib.hid (C3.out.trans (BF.mono C3.out.size))
              obtain ⟨t0, t1, _, _⟩ := KF.two
              clear BF KF OF BB KA O6
              go_wp2_with fail
              refine (implThin_any _ (W ++ [0, 0]) P _ HT.out (by simp; omega) (by omega)).mono ?_
              rintro e w8 ⟨rfl, b8⟩
              rw [thin_twice]
              have CG := Lib.hid (CF.out.trans (b8.mono CF.out.size))
              clear b8 CF HT
              go_wp2_with fail
              refine (alive_any _).mono ?_
              rintro e w9 ⟨rfl, b9⟩
              have CH := Lib.hid (CG.out.trans (b9.mono CG.out.size))
              clear b9 CG
              go_wp2
              go_ret
              exact ⟨rfl, CH.out⟩
            exact AllZ.nil
          exact AllZ.nil
        exact AllZ.nil
      refine AllZ.cons (i := 4) (o := ?o21) ?hi21 (fun K hK => ?ra21) ?mr21
      case hi21 => simp only [List.getElem?_toArray, List.getElem?_cons_succ, List.getElem?_cons_zero]; rfl
      case ra21 =>
        go_simp
        have BBn := b_alloc BB.out (.cells #[.int .i64 0, .int .i64 0] 3)
        have hzn : u1.heap.size < (u1.alloc (.cells #[.int .i64 0, .int .i64 0] 3)).heap.size := by simp
        have hzm := Nat.le_of_lt hzn
        have hbz := BB.out.size
        have OBn := Lib.hid (OB.out.alloc (.cells #[.int .i64 0, .int .i64 0] 3))
        have RBn := Lib.hid (readc_nwt (w := u1) (T := 3) (cs := #[.int .i64 0, .int .i64 0]) (xs := [.int .i64 0, .int .i64 0]) rfl)
        have hpp : u1.heap.size ≠ p1 := by omega
        refine hK.out _ _ (.inr ⟨cell_keepT x0 BBn, cell_keepT x1 BBn⟩) ?_
        clear hK K
        (try simp only [Act.put, List.setIfInBounds_toArray, List.set_cons_zero, List.set_cons_succ])
        have BBm := Lib.hid BBn
        clear BBn
        clear OB
        clear BB
        generalize hvv : u1.alloc (.cells #[.int .i64 0, .int .i64 0] 3) = u2 at *
        clear hvv
        obtain ⟨p2, hpp2⟩ : ∃ x, x = u1.heap.size := ⟨_, rfl⟩
        rw [← hpp2] at hzn RBn hpp ⊢
        clear hpp2
        have OB := OBn
        have RB := RBn
        clear OBn RBn
        have BB := BBm
        clear BBm
        refine wpAnyZ_ready (rs := [3, 9]) (by kernel_rfl) (by simp) ?_
        refine AllZ.cons (i := 3) (o := ?o22) ?hi22 (fun K hK => ?ra22) ?mr22
        case hi22 => simp only [List.getElem?_toArray, List.getElem?_cons_succ, List.getElem?_cons_zero]; rfl
        case ra22 =>
          refine step_append_r _ (by rfl) (.tmp 17) (.tmp 19) 22 (by rfl) w3.heap.size 3 i0 (.int .i64 0) 1 8 Try.underlying22 hi0 hz0 hz1 hz2 rfl (by decide) _ 0 [] OB.out ?_ A1 W.length c1 (W.map (Value.int .i64)) (HW.out.below BB.out) (by simp [Act.eval, Act.put] <;> fail) (by simp) (ints_one W) (by simp only [maxLen]; omega) (by omega) BB.out.size ?_
          simp [Act.eval, Act.put]
          intro v5 u3 o5 g5 d5
          rw [Nat.zero_add] at o5
          obtain ⟨A5, c5, rfl⟩ := own_slice o5
          have BBn := Below.grown BB.out g5 BB.out.size (fun k hk => (OB.out.lt k hk).1)
          have hzn := g5.size
          have hbz := BB.out.size
          have RBn := Lib.hid (readc_grownt RB.out g5 (by simp [Value.ownBlock]; omega))
          refine hK.out _ _ (.inr ⟨cell_keepT x0 BBn, cell_keepT x1 BBn⟩) ?_
          clear hK K
          (try simp only [Act.put, List.setIfInBounds_toArray, List.set_cons_zero, List.set_cons_succ])
          have OA := Lib.hid o5
          clear OB o5 g5 d5 BB
          clear RB
          have RB := RBn
          clear RBn
          have BB := Lib.hid BBn
          clear BBn
          refine wpAnyZ_ready (rs := [5, 9]) (by kernel_rfl) (by simp) ?_
          refine AllZ.cons (i := 5) (o := ?o23) ?hi23 (fun K hK => ?ra23) ?mr23
          case hi23 => simp only [List.getElem?_toArray, List.getElem?_cons_succ, List.getElem?_cons_zero]; rfl
          case ra23 =>
            refine step_append_r _ (by rfl) (.tmp 20) (.tmp 21) 22 (by rfl) w3.heap.size 3 i0 (.int .i64 0) 1 8 Try.underlying22 hi0 hz0 hz1 hz2 rfl (by decide) _ W.length (W.map (Value.int .i64)) OA.out ?_ (some ⟨p2, 0, none⟩) 2 2 [.int .i64 0, .int .i64 0] RB.out (by simp [Act.eval, Act.put] <;> fail) rfl (by intro u hu; simp at hu; subst hu; rfl) (by simp only [maxLen]; omega) (by omega) BB.out.size ?_
            simp [Act.eval, Act.put]
            intro v6 u4 o6 g6 d6
            obtain ⟨A6, c6, rfl⟩ := own_slice o6
            have BBn := Below.grown BB.out g6 BB.out.size (fun k hk => (OA.out.lt k hk).1)
            have hzn := g6.size
            have hbz := BB.out.size
            refine hK.out _ _ (.inr ⟨cell_keepT x0 BBn, cell_keepT x1 BBn⟩) ?_
            clear hK K
            (try simp only [Act.put, List.setIfInBounds_toArray, List.set_cons_zero, List.set_cons_succ])
            have O6 := Lib.hid o6
            clear OA RB o6 g6 d6 BB
            have BB := Lib.hid BBn
            clear BBn
            refine wpAnyZ_take (i := 8) (oi := ?o24) (v := ?v24) ?hi24 (by kernel_rfl) (by kernel_rfl) (by kernel_rfl) (by kernel_rfl) ?hq24 ?hy24 ⟨cell_keepT x0 BB.out, cell_keepT x1 BB.out⟩ ?rest24
            case hi24 => simp only [List.getElem?_toArray, List.getElem?_cons_succ, List.getElem?_cons_zero]; rfl
            case hq24 => exact fun _ _ _ h => h
            case hy24 => (refine Or.inl ⟨by rfl, ?_⟩; intro w hSw; (try dsimp only at hSw); go_simp; (try with_reducible rfl))
            simp only [Act.put, List.setIfInBounds_toArray, List.set_cons_zero, List.set_cons_succ]
            refine wpAnyZ_ready (rs := [9]) (by kernel_rfl) (by simp) ?_
            refine AllZ.cons (i := 9) (o := ?o25) ?hi25 (fun K hK => ?ra25) ?mr25
            case hi25 => simp only [List.getElem?_toArray, List.getElem?_cons_succ, List.getElem?_cons_zero]; rfl
            case ra25 =>
              go_simp
              have BBn := b_alloc BB.out (.cells #[.slice none 0 0, .slice none 0 0] 27)
              have hzn : u4.heap.size < (u4.alloc (.cells #[.slice none 0 0, .slice none 0 0] 27)).heap.size := by simp
              have hzm := Nat.le_of_lt hzn
              have hbz := BB.out.size
              have O6n := Lib.hid (O6.out.alloc (.cells #[.slice none 0 0, .slice none 0 0] 27))
              have hlo5 := Lib.hid BB.out.size
              have KAn := Lib.hid (show Blk (u4.alloc (.cells #[.slice none 0 0, .slice none 0 0] 27)) u4.heap.size 27 #[.slice none 0 0, .slice none 0 0] from Blk.new rfl)
              refine hK.out _ _ (.inr ⟨cell_keepT x0 BBn, cell_keepT x1 BBn⟩) ?_
              clear hK K
              (try simp only [Act.put, List.setIfInBounds_toArray, List.set_cons_zero, List.set_cons_succ])
              have BBm := Lib.hid BBn
              clear BBn
              clear O6
              clear BB
              generalize hvv : u4.alloc (.cells #[.slice none 0 0, .slice none 0 0] 27) = u5 at *
              clear hvv
              obtain ⟨p5, hpp5⟩ : ∃ x, x = u4.heap.size := ⟨_, rfl⟩
              rw [← hpp5] at hzn KAn hlo5 ⊢
              clear hpp5
              have KA := KAn
              have O6 := O6n
              clear KAn O6n
              have BB := BBm
              clear BBm
              obtain ⟨s0, s1, s2, s3⟩ := KA.out.two
              refine wpAnyZ_one (i := 10) (o := ?o26) (by kernel_rfl) ?hi26 (fun K hK => ?rest26)
              case hi26 => simp only [List.getElem?_toArray, List.getElem?_cons_succ, List.getElem?_cons_zero]; rfl
              go_simp
              refine hK.out _ _ (.inl rfl) ?_
              clear hK K
              (try simp only [Act.put, List.setIfInBounds_toArray, List.set_cons_zero, List.set_cons_succ])
              refine wpAnyZ_done (by kernel_rfl) ?_ _
              have hbz := BB.out.size
              have hp5 : w3.heap.size ≤ p5 := hlo5.out
              have BF := (BB.out.setCell (p := ⟨p5, 0, none⟩) hp5 (.slice A6 (W.length + 2) c6)).setCell (p := ⟨p5, 1, none⟩) hp5 (.slice B1 P.length d1)
              have KF := (KA.out.set 0 (.slice A6 (W.length + 2) c6)).set 1 (.slice B1 P.length d1)
              have OF := own_far (p := ⟨p5, 1, none⟩) (own_far (p := ⟨p5, 0, none⟩) O6.out (own_apartV O6.out KA.out (by decide)) (.slice A6 (W.length + 2) c6)) (own_apartV O6.out KA.out (by decide)) (.slice B1 P.length d1)
              have HT := Lib.hid (show ThinR ((u5.setCell ⟨p5, 0, none⟩ (.slice A6 (W.length + 2) c6)).setCell ⟨p5, 1, none⟩ (.slice B1 P.length d1)) (.agg #[.slice A6 (W.length + 2) c6, .slice B1 P.length d1]) (W ++ [0, 0]) P from by
                obtain ⟨A', c', B', d', e, _, r2, _⟩ := T3.out.below BF
                injection e with e
                simp only [Array.mk.injEq, List.cons.injEq, and_true, Value.slice.injEq] at e
                obtain ⟨_, rfl, _, rfl⟩ := e
                have e2 : (W ++ [(0 : Int), 0]).length = W.length + 2 := by simp
                have q := own_cap OF
                refine ⟨A6, c6, B1, d1, by rw [e2], IntsIn.of ?_, r2, by rw [e2]; exact q.1, q.2, hcd.1, hcd.2⟩
                have := own_read OF
                simpa using this)
              have CF := Lib.hid (C3.out.trans (BF.mono C3.out.size))
              obtain ⟨t0, t1, _, _⟩ := KF.two
              clear BF KF OF BB KA O6
              go_wp2_with fail
              refine (implThin_any _ (W ++ [0, 0]) P _ HT.out (by simp; omega) (by omega)).mono ?_
              rintro e w8 ⟨rfl, b8⟩
              rw [thin_twice]
              have CG := Lib.hid (CF.out.trans (b8.mono CF.out.size))
              clear b8 CF HT
              go_wp2_with fail
              refine (alive_any _).mono ?_
              rintro e w9 ⟨rfl, b9⟩
              have CH := Lib.hid (CG.out.trans (b9.mono CG.out.size))
              clear b9 CG
              go_wp2
              go_ret
              exact ⟨rfl, CH.out⟩
            exact AllZ.nil
          refine AllZ.cons (i := 9) (o := ?o27) ?hi27 (fun K hK => ?ra27) ?mr27
          case hi27 => simp only [List.getElem?_toArray, List.getElem?_cons_succ, List.getElem?_cons_zero]; rfl
          case ra27 =>
            go_simp
            have BBn := b_alloc BB.out (.cells #[.slice none 0 0, .slice none 0 0] 27)
            have hzn : u3.heap.size < (u3.alloc (.cells #[.slice none 0 0, .slice none 0 0] 27)).heap.size := by simp
            have hzm := Nat.le_of_lt hzn
            have hbz := BB.out.size
            have RBn := Lib.hid (RB.out.alloc (.cells #[.slice none 0 0, .slice none 0 0] 27))
            have OAn := Lib.hid (OA.out.alloc (.cells #[.slice none 0 0, .slice none 0 0] 27))
            have hlo5 := Lib.hid BB.out.size
            have KAn := Lib.hid (show Blk (u3.alloc (.cells #[.slice none 0 0, .slice none 0 0] 27)) u3.heap.size 27 #[.slice none 0 0, .slice none 0 0] from Blk.new rfl)
            refine hK.out _ _ (.inr ⟨cell_keepT x0 BBn, cell_keepT x1 BBn⟩) ?_
            clear hK K
            (try simp only [Act.put, List.setIfInBounds_toArray, List.set_cons_zero, List.set_cons_succ])
            have BBm := Lib.hid BBn
            clear BBn
            clear RB OA
            clear BB
            generalize hvv : u3.alloc (.cells #[.slice none 0 0, .slice none 0 0] 27) = u4 at *
            clear hvv
            obtain ⟨p5, hpp5⟩ : ∃ x, x = u3.heap.size := ⟨_, rfl⟩
            rw [← hpp5] at hzn KAn hlo5 ⊢
            clear hpp5
            have KA := KAn
            have OA := OAn
            have RB := RBn
            clear KAn OAn RBn
            have BB := BBm
            clear BBm
            refine wpAnyZ_ready (rs := [5]) (by kernel_rfl) (by simp) ?_
            refine AllZ.cons (i := 5) (o := ?o28) ?hi28 (fun K hK => ?ra28) ?mr28
            case hi28 => simp only [List.getElem?_toArray, List.getElem?_cons_succ, List.getElem?_cons_zero]; rfl
            case ra28 =>
              refine step_append_r _ (by rfl) (.tmp 20) (.tmp 21) 22 (by rfl) w3.heap.size 3 i0 (.int .i64 0) 1 8 Try.underlying22 hi0 hz0 hz1 hz2 rfl (by decide) _ W.length (W.map (Value.int .i64)) OA.out ?_ (some ⟨p2, 0, none⟩) 2 2 [.int .i64 0, .int .i64 0] RB.out (by simp [Act.eval, Act.put] <;> fail) rfl (by intro u hu; simp at hu; subst hu; rfl) (by simp only [maxLen]; omega) (by omega) BB.out.size ?_
              simp [Act.eval, Act.put]
              intro v6 u5 o6 g6 d6
              obtain ⟨A6, c6, rfl⟩ := own_slice o6
              have BBn := Below.grown BB.out g6 BB.out.size (fun k hk => (OA.out.lt k hk).1)
              have hzn := g6.size
              have hbz := BB.out.size
              have KAn := Lib.hid (blk_grown g6 KA.out (fun e => own_apartV OA.out KA.out (by decide) _ e.symm rfl))
              refine hK.out _ _ (.inr ⟨cell_keepT x0 BBn, cell_keepT x1 BBn⟩) ?_
              clear hK K
              (try simp only [Act.put, List.setIfInBounds_toArray, List.set_cons_zero, List.set_cons_succ])
              have O6 := Lib.hid o6
              clear OA RB o6 g6 d6 BB
              clear KA
              have KA := KAn
              clear KAn
              have BB := Lib.hid BBn
              clear BBn
              refine wpAnyZ_take (i := 8) (oi := ?o29) (v := ?v29) ?hi29 (by kernel_rfl) (by kernel_rfl) (by kernel_rfl) (by kernel_rfl) ?hq29 ?hy29 ⟨cell_keepT x0 BB.out, cell_keepT x1 BB.out⟩ ?rest29
              case hi29 => simp only [List.getElem?_toArray, List.getElem?_cons_succ, List.getElem?_cons_zero]; rfl
              case hq29 => exact fun _ _ _ h => h
              case hy29 => (refine Or.inl ⟨by rfl, ?_⟩; intro w hSw; (try dsimp only at hSw); go_simp; (try with_reducible rfl))
              simp only [Act.put, List.setIfInBounds_toArray, List.set_cons_zero, List.set_cons_succ]
              obtain ⟨s0, s1, s2, s3⟩ := KA.out.two
              refine wpAnyZ_one (i := 10) (o := ?o30) (by kernel_rfl) ?hi30 (fun K hK => ?rest30)
              case hi30 => simp only [List.getElem?_toArray, List.getElem?_cons_succ, List.getElem?_cons_zero]; rfl
              go_simp
              refine hK.out _ _ (.inl rfl) ?_
              clear hK K
              (try simp only [Act.put, List.setIfInBounds_toArray, List.set_cons_zero, List.set_cons_succ])
              refine wpAnyZ_done (by kernel_rfl) ?_ _
              have hbz := BB.out.size
              have hp5 : w3.heap.size ≤ p5 := hlo5.out
              have BF := (BB.out.setCell (p := ⟨p5, 0, none⟩) hp5 (.slice A6 (W.length + 2) c6)).setCell (p := ⟨p5, 1, none⟩) hp5 (.slice B1 P.length d1)
              have KF := (KA.out.set 0 (.slice A6 (W.length + 2) c6)).set 1 (.slice B1 P.length d1)
              have OF := own_far (p := ⟨p5, 1, none⟩) (own_far (p := ⟨p5, 0, none⟩) O6.out (own_apartV O6.out KA.out (by decide)) (.slice A6 (W.length + 2) c6)) (own_apartV O6.out KA.out (by decide)) (.slice B1 P.length d1)
              have HT := Lib.hid (show ThinR ((u5.setCell ⟨p5, 0, none⟩ (.slice A6 (W.length + 2) c6)).setCell ⟨p5, 1, none⟩ (.slice B1 P.length d1)) (.agg #[.slice A6 (W.length + 2) c6, .slice B1 P.length d1]) (W ++ [0, 0]) P from by
                obtain ⟨A', c', B', d', e, _, r2, _⟩ := T3.out.below BF
                injection e with e
                simp only [Array.mk.injEq, List.cons.injEq, and_true, Value.slice.injEq] at e
                obtain ⟨_, rfl, _, rfl⟩ := e
                have e2 : (W ++ [(0 : Int), 0]).length = W.length + 2 := by simp
                have q := own_cap OF
                refine ⟨A6, c6, B1, d1, by rw [e2], IntsIn.of ?_, r2, by rw [e2]; exact q.1, q.2, hcd.1, hcd.2⟩
                have := own_read OF
                simpa using this)
              have CF := Lib.hid (C3.out.trans (BF.mono C3.out.size))
              obtain ⟨t0, t1, _, _⟩ := KF.two
              clear BF KF OF BB KA O6
              go_wp2_with fail
              refine (implThin_any _ (W ++ [0, 0]) P _ HT.out (by simp; omega) (by omega)).mono ?_
              rintro e w8 ⟨rfl, b8⟩
              rw [thin_twice]
              have CG := Lib.hid (CF.out.trans (b8.mono CF.out.size))
              clear b8 CF HT
              go_wp2_with fail
              refine (alive_any _).mono ?_
              rintro e w9 ⟨rfl, b9⟩
              have CH := Lib.hid (CG.out.trans (b9.mono CG.out.size))
              clear b9 CG
              go_wp2
              go_ret
              exact ⟨rfl, CH.out⟩
            exact AllZ.nil
          exact AllZ.nil
        refine AllZ.cons (i := 9) (o := ?o31) ?hi31 (fun K hK => ?ra31) ?mr31
        case hi31 => simp only [List.getElem?_toArray, List.getElem?_cons_succ, List.getElem?_cons_zero]; rfl
        case ra31 =>
          go_simp
          have BBn := b_alloc BB.out (.cells #[.slice none 0 0, .slice none 0 0] 27)
          have hzn : u2.heap.size < (u2.alloc (.cells #[.slice none 0 0, .slice none 0 0] 27)).heap.size := by simp
          have hzm := Nat.le_of_lt hzn
          have hbz := BB.out.size
          have OBn := Lib.hid (OB.out.alloc (.cells #[.slice none 0 0, .slice none 0 0] 27))
          have RBn := Lib.hid (RB.out.alloc (.cells #[.slice none 0 0, .slice none 0 0] 27))
          have hlo5 := Lib.hid BB.out.size
          have KAn := Lib.hid (show Blk (u2.alloc (.cells #[.slice none 0 0, .slice none 0 0] 27)) u2.heap.size 27 #[.slice none 0 0, .slice none 0 0] from Blk.new rfl)
          refine hK.out _ _ (.inr ⟨cell_keepT x0 BBn, cell_keepT x1 BBn⟩) ?_
          clear hK K
          (try simp only [Act.put, List.setIfInBounds_toArray, List.set_cons_zero, List.set_cons_succ])
          have BBm := Lib.hid BBn
          clear BBn
          clear OB RB
          clear BB
          generalize hvv : u2.alloc (.cells #[.slice none 0 0, .slice none 0 0] 27) = u3 at *
          clear hvv
          obtain ⟨p5, hpp5⟩ : ∃ x, x = u2.heap.size := ⟨_, rfl⟩
          rw [← hpp5] at hzn KAn hlo5 ⊢
          clear hpp5
          have KA := KAn
          have OB := OBn
          have RB := RBn
          clear KAn OBn RBn
          have BB := BBm
          clear BBm
          refine wpAnyZ_ready (rs := [3]) (by kernel_rfl) (by simp) ?_
          refine AllZ.cons (i := 3) (o := ?o32) ?hi32 (fun K hK => ?ra32) ?mr32
          case hi32 => simp only [List.getElem?_toArray, List.getElem?_cons_succ, List.getElem?_cons_zero]; rfl
          case ra32 =>
            refine step_append_r _ (by rfl) (.tmp 17) (.tmp 19) 22 (by rfl) w3.heap.size 3 i0 (.int .i64 0) 1 8 Try.underlying22 hi0 hz0 hz1 hz2 rfl (by decide) _ 0 [] OB.out ?_ A1 W.length c1 (W.map (Value.int .i64)) (HW.out.below BB.out) (by simp [Act.eval, Act.put] <;> fail) (by simp) (ints_one W) (by simp only [maxLen]; omega) (by omega) BB.out.size ?_
            simp [Act.eval, Act.put]
            intro v5 u4 o5 g5 d5
            rw [Nat.zero_add] at o5
            obtain ⟨A5, c5, rfl⟩ := own_slice o5
            have BBn := Below.grown BB.out g5 BB.out.size (fun k hk => (OB.out.lt k hk).1)
            have hzn := g5.size
            have hbz := BB.out.size
            have KAn := Lib.hid (blk_grown g5 KA.out (fun e => own_apartV OB.out KA.out (by decide) _ e.symm rfl))
            have RBn := Lib.hid (readc_grownt RB.out g5 (by simp [Value.ownBlock]; omega))
            refine hK.out _ _ (.inr ⟨cell_keepT x0 BBn, cell_keepT x1 BBn⟩) ?_
            clear hK K
            (try simp only [Act.put, List.setIfInBounds_toArray, List.set_cons_zero, List.set_cons_succ])
            have OA := Lib.hid o5
            clear OB o5 g5 d5 BB
            clear KA
            have KA := KAn
            clear KAn
            clear RB
            have RB := RBn
            clear RBn
            have BB := Lib.hid BBn
            clear BBn
            refine wpAnyZ_ready (rs := [5]) (by kernel_rfl) (by simp) ?_
            refine AllZ.cons (i := 5) (o := ?o33) ?hi33 (fun K hK => ?ra33) ?mr33
            case hi33 => simp only [List.getElem?_toArray, List.getElem?_cons_succ, List.getElem?_cons_zero]; rfl
            case ra33 =>
              refine step_append_r _ (by rfl) (.tmp 20) (.tmp 21) 22 (by rfl) w3.heap.size 3 i0 (.int .i64 0) 1 8 Try.underlying22 hi0 hz0 hz1 hz2 rfl (by decide) _ W.length (W.map (Value.int .i64)) OA.out ?_ (some ⟨p2, 0, none⟩) 2 2 [.int .i64 0, .int .i64 0] RB.out (by simp [Act.eval, Act.put] <;> fail) rfl (by intro u hu; simp at hu; subst hu; rfl) (by simp only [maxLen]; omega) (by omega) BB.out.size ?_
              simp [Act.eval, Act.put]
              intro v6 u5 o6 g6 d6
              obtain ⟨A6, c6, rfl⟩ := own_slice o6
              have BBn := Below.grown BB.out g6 BB.out.size (fun k hk => (OA.out.lt k hk).1)
              have hzn := g6.size
              have hbz := BB.out.size
              have KAn := Lib.hid (blk_grown g6 KA.out (fun e => own_apartV OA.out KA.out (by decide) _ e.symm rfl))
              refine hK.out _ _ (.inr ⟨cell_keepT x0 BBn, cell_keepT x1 BBn⟩) ?_
              clear hK K
              (try simp only [Act.put, List.setIfInBounds_toArray, List.set_cons_zero, List.set_cons_succ])
              have O6 := Lib.hid o6
              clear OA RB o6 g6 d6 BB
              clear KA
              have KA := KAn
              clear KAn
              have BB := Lib.hid BBn
              clear BBn
              refine wpAnyZ_take (i := 8) (oi := ?o34) (v := ?v34) ?hi34 (by kernel_rfl) (by kernel_rfl) (by kernel_rfl) (by kernel_rfl) ?hq34 ?hy34 ⟨cell_keepT x0 BB.out, cell_keepT x1 BB.out⟩ ?rest34
              case hi34 => simp only [List.getElem?_toArray, List.getElem?_cons_succ, List.getElem?_cons_zero]; rfl
              case hq34 => exact fun _ _ _ h => h
              case hy34 => (refine Or.inl ⟨by rfl, ?_⟩; intro w hSw; (try dsimp only at hSw); go_simp; (try with_reducible rfl))
              simp only [Act.put, List.setIfInBounds_toArray, List.set_cons_zero, List.set_cons_succ]
              obtain ⟨s0, s1, s2, s3⟩ := KA.out.two
              refine wpAnyZ_one (i := 10) (o := ?o35) (by kernel_rfl) ?hi35 (fun K hK => ?rest35)
              case hi35 => simp only [List.getElem?_toArray, List.getElem?_cons_succ, List.getElem?_cons_zero]; rfl
              go_simp
              refine hK.out _ _ (.inl rfl) ?_
              clear hK K
              (try simp only [Act.put, List.setIfInBounds_toArray, List.set_cons_zero, List.set_cons_succ])
              refine wpAnyZ_done (by kernel_rfl) ?_ _
              have hbz := BB.out.size
              have hp5 : w3.heap.size ≤ p5 := hlo5.out
              have BF := (BB.out.setCell (p := ⟨p5, 0, none⟩) hp5 (.slice A6 (W.length + 2) c6)).setCell (p := ⟨p5, 1, none⟩) hp5 (.slice B1 P.length d1)
              have KF := (KA.out.set 0 (.slice A6 (W.length + 2) c6)).set 1 (.slice B1 P.length d1)
              have OF := own_far (p := ⟨p5, 1, none⟩) (own_far (p := ⟨p5, 0, none⟩) O6.out (own_apartV O6.out KA.out (by decide)) (.slice A6 (W.length + 2) c6)) (own_apartV O6.out KA.out (by decide)) (.slice B1 P.length d1)
              have HT := Lib.hid (show ThinR ((u5.setCell ⟨p5, 0, none⟩ (.slice A6 (W.length + 2) c6)).setCell ⟨p5, 1, none⟩ (.slice B1 P.length d1)) (.agg #[.slice A6 (W.length + 2) c6, .slice B1 P.length d1]) (W ++ [0, 0]) P from by
                obtain ⟨A', c', B', d', e, _, r2, _⟩ := T3.out.below BF
                injection e with e
                simp only [Array.mk.injEq, List.cons.injEq, and_true, Value.slice.injEq] at e
                obtain ⟨_, rfl, _, rfl⟩ := e
                have e2 : (W ++ [(0 : Int), 0]).length = W.length + 2 := by simp
                have q := own_cap OF
                refine ⟨A6, c6, B1, d1, by rw [e2], IntsIn.of ?_, r2, by rw [e2]; exact q.1, q.2, hcd.1, hcd.2⟩
                have := own_read OF
                simpa using this)
              have CF := Lib.hid (C3.out.trans (BF.mono C3.out.size))
              obtain ⟨t0, t1, _, _⟩ := KF.two
              clear BF KF OF BB KA O6
              go_wp2_with fail
              refine (implThin_any _ (W ++ [0, 0]) P _ HT.out (by simp; omega) (by omega)).mono ?_
              rintro e w8 ⟨rfl, b8⟩
              rw [thin_twice]
              have CG := Lib.hid (CF.out.trans (b8.mono CF.out.size))
              clear b8 CF HT
              go_wp2_with fail
              refine (alive_any _).mono ?_
              rintro e w9 ⟨rfl, b9⟩
              have CH := Lib.hid (CG.out.trans (b9.mono CG.out.size))
              clear b9 CG
              go_wp2
              go_ret
              exact ⟨rfl, CH.out⟩
            exact AllZ.nil
          exact AllZ.nil
        exact AllZ.nil
      refine AllZ.cons (i := 9) (o := ?o36) ?hi36 (fun K hK => ?ra36) ?mr36
      case hi36 => simp only [List.getElem?_toArray, List.getElem?_cons_succ, List.getElem?_cons_zero]; rfl
      case ra36 =>
        go_simp
        have BBn := b_alloc BB.out (.cells #[.slice none 0 0, .slice none 0 0] 27)
        have hzn : u1.heap.size < (u1.alloc (.cells #[.slice none 0 0, .slice none 0 0] 27)).heap.size := by simp
        have hzm := Nat.le_of_lt hzn
        have hbz := BB.out.size
        have OBn := Lib.hid (OB.out.alloc (.cells #[.slice none 0 0, .slice none 0 0] 27))
        have hlo5 := Lib.hid BB.out.size
        have KAn := Lib.hid (show Blk (u1.alloc (.cells #[.slice none 0 0, .slice none 0 0] 27)) u1.heap.size 27 #[.slice none 0 0, .slice none 0 0] from Blk.new rfl)
        refine hK.out _ _ (.inr ⟨cell_keepT x0 BBn, cell_keepT x1 BBn⟩) ?_
        clear hK K
        (try simp only [Act.put, List.setIfInBounds_toArray, List.set_cons_zero, List.set_cons_succ])
        have BBm := Lib.hid BBn
        clear BBn
        clear OB
        clear BB
        generalize hvv : u1.alloc (.cells #[.slice none 0 0, .slice none 0 0] 27) = u2 at *
        clear hvv
        obtain ⟨p5, hpp5⟩ : ∃ x, x = u1.heap.size := ⟨_, rfl⟩
        rw [← hpp5] at hzn KAn hlo5 ⊢
        clear hpp5
        have KA := KAn
        have OB := OBn
        clear KAn OBn
        have BB := BBm
        clear BBm
        refine wpAnyZ_ready (rs := [3, 4]) (by kernel_rfl) (by simp) ?_
        refine AllZ.cons (i := 3) (o := ?o37) ?hi37 (fun K hK => ?ra37) ?mr37
        case hi37 => simp only [List.getElem?_toArray, List.getElem?_cons_succ, List.getElem?_cons_zero]; rfl
        case ra37 =>
          refine step_append_r _ (by rfl) (.tmp 17) (.tmp 19) 22 (by rfl) w3.heap.size 3 i0 (.int .i64 0) 1 8 Try.underlying22 hi0 hz0 hz1 hz2 rfl (by decide) _ 0 [] OB.out ?_ A1 W.length c1 (W.map (Value.int .i64)) (HW.out.below BB.out) (by simp [Act.eval, Act.put] <;> fail) (by simp) (ints_one W) (by simp only [maxLen]; omega) (by omega) BB.out.size ?_
          simp [Act.eval, Act.put]
          intro v5 u3 o5 g5 d5
          rw [Nat.zero_add] at o5
          obtain ⟨A5, c5, rfl⟩ := own_slice o5
          have BBn := Below.grown BB.out g5 BB.out.size (fun k hk => (OB.out.lt k hk).1)
          have hzn := g5.size
          have hbz := BB.out.size
          have KAn := Lib.hid (blk_grown g5 KA.out (fun e => own_apartV OB.out KA.out (by decide) _ e.symm rfl))
          refine hK.out _ _ (.inr ⟨cell_keepT x0 BBn, cell_keepT x1 BBn⟩) ?_
          clear hK K
          (try simp only [Act.put, List.setIfInBounds_toArray, List.set_cons_zero, List.set_cons_succ])
          have OA := Lib.hid o5
          clear OB o5 g5 d5 BB
          clear KA
          have KA := KAn
          clear KAn
          have BB := Lib.hid BBn
          clear BBn
          refine wpAnyZ_ready (rs := [4]) (by kernel_rfl) (by simp) ?_
          refine AllZ.cons (i := 4) (o := ?o38) ?hi38 (fun K hK => ?ra38) ?mr38
          case hi38 => simp only [List.getElem?_toArray, List.getElem?_cons_succ, List.getElem?_cons_zero]; rfl
          case ra38 =>
            go_simp
            have BBn := b_alloc BB.out (.cells #[.int .i64 0, .int .i64 0] 3)
            have hzn : u3.heap.size < (u3.alloc (.cells #[.int .i64 0, .int .i64 0] 3)).heap.size := by simp
            have hzm := Nat.le_of_lt hzn
            have hbz := BB.out.size
            have OAn := Lib.hid (OA.out.alloc (.cells #[.int .i64 0, .int .i64 0] 3))
            have KAn := Lib.hid (KA.out.alloc (.cells #[.int .i64 0, .int .i64 0] 3))
            have RBn := Lib.hid (readc_nwt (w := u3) (T := 3) (cs := #[.int .i64 0, .int .i64 0]) (xs := [.int .i64 0, .int .i64 0]) rfl)
            refine hK.out _ _ (.inr ⟨cell_keepT x0 BBn, cell_keepT x1 BBn⟩) ?_
            clear hK K
            (try simp only [Act.put, List.setIfInBounds_toArray, List.set_cons_zero, List.set_cons_succ])
            have BBm := Lib.hid BBn
            clear BBn
            clear OA KA
            clear BB
            generalize hvv : u3.alloc (.cells #[.int .i64 0, .int .i64 0] 3) = u4 at *
            clear hvv
            obtain ⟨p2, hpp2⟩ : ∃ x, x = u3.heap.size := ⟨_, rfl⟩
            rw [← hpp2] at hzn RBn ⊢
            clear hpp2
            have KA := KAn
            have OA := OAn
            have RB := RBn
            clear KAn OAn RBn
            have BB := BBm
            clear BBm
            refine wpAnyZ_ready (rs := [5]) (by kernel_rfl) (by simp) ?_
            refine AllZ.cons (i := 5) (o := ?o39) ?hi39 (fun K hK => ?ra39) ?mr39
            case hi39 => simp only [List.getElem?_toArray, List.getElem?_cons_succ, List.getElem?_cons_zero]; rfl
            case ra39 =>
              refine step_append_r _ (by rfl) (.tmp 20) (.tmp 21) 22 (by rfl) w3.heap.size 3 i0 (.int .i64 0) 1 8 Try.underlying22 hi0 hz0 hz1 hz2 rfl (by decide) _ W.length (W.map (Value.int .i64)) OA.out ?_ (some ⟨p2, 0, none⟩) 2 2 [.int .i64 0, .int .i64 0] RB.out (by simp [Act.eval, Act.put] <;> fail) rfl (by intro u hu; simp at hu; subst hu; rfl) (by simp only [maxLen]; omega) (by omega) BB.out.size ?_
              simp [Act.eval, Act.put]
              intro v6 u5 o6 g6 d6
              obtain ⟨A6, c6, rfl⟩ := own_slice o6
              have BBn := Below.grown BB.out g6 BB.out.size (fun k hk => (OA.out.lt k hk).1)
              have hzn := g6.size
              have hbz := BB.out.size
              have KAn := Lib.hid (blk_grown g6 KA.out (fun e => own_apartV OA.out KA.out (by decide) _ e.symm rfl))
              refine hK.out _ _ (.inr ⟨cell_keepT x0 BBn, cell_keepT x1 BBn⟩) ?_
              clear hK K
              (try simp only [Act.put, List.setIfInBounds_toArray, List.set_cons_zero, List.set_cons_succ])
              have O6 := Lib.hid o6
              clear OA RB o6 g6 d6 BB
              clear KA
              have KA := KAn
              clear KAn
              have BB := Lib.hid BBn
              clear BBn
              refine wpAnyZ_take (i := 8) (oi := ?o40) (v := ?v40) ?hi40 (by kernel_rfl) (by kernel_rfl) (by kernel_rfl) (by kernel_rfl) ?hq40 ?hy40 ⟨cell_keepT x0 BB.out, cell_keepT x1 BB.out⟩ ?rest40
              case hi40 => simp only [List.getElem?_toArray, List.getElem?_cons_succ, List.getElem?_cons_zero]; rfl
              case hq40 => exact fun _ _ _ h => h
              case hy40 => (refine Or.inl ⟨by rfl, ?_⟩; intro w hSw; (try dsimp only at hSw); go_simp; (try with_reducible rfl))
              simp only [Act.put, List.setIfInBounds_toArray, List.set_cons_zero, List.set_cons_succ]
              obtain ⟨s0, s1, s2, s3⟩ := KA.out.two
              refine wpAnyZ_one (i := 10) (o := ?o41) (by kernel_rfl) ?hi41 (fun K hK => ?rest41)
              case hi41 => simp only [List.getElem?_toArray, List.getElem?_cons_succ, List.getElem?_cons_zero]; rfl
              go_simp
              refine hK.out _ _ (.inl rfl) ?_
              clear hK K
              (try simp only [Act.put, List.setIfInBounds_toArray, List.set_cons_zero, List.set_cons_succ])
              refine wpAnyZ_done (by kernel_rfl) ?_ _
              have hbz := BB.out.size
              have hp5 : w3.heap.size ≤ p5 := hlo5.out
              have BF := (BB.out.setCell (p := ⟨p5, 0, none⟩) hp5 (.slice A6 (W.length + 2) c6)).setCell (p := ⟨p5, 1, none⟩) hp5 (.slice B1 P.length d1)
              have KF := (KA.out.set 0 (.slice A6 (W.length + 2) c6)).set 1 (.slice B1 P.length d1)
              have OF := own_far (p := ⟨p5, 1, none⟩) (own_far (p := ⟨p5, 0, none⟩) O6.out (own_apartV O6.out KA.out (by decide)) (.slice A6 (W.length + 2) c6)) (own_apartV O6.out KA.out (by decide)) (.slice B1 P.length d1)
              have HT := Lib.hid (show ThinR ((u5.setCell ⟨p5, 0, none⟩ (.slice A6 (W.length + 2) c6)).setCell ⟨p5, 1, none⟩ (.slice B1 P.length d1)) (.agg #[.slice A6 (W.length + 2) c6, .slice B1 P.length d1]) (W ++ [0, 0]) P from by
                obtain ⟨A', c', B', d', e, _, r2, _⟩ := T3.out.below BF
                injection e with e
                simp only [Array.mk.injEq, List.cons.injEq, and_true, Value.slice.injEq] at e
                obtain ⟨_, rfl, _, rfl⟩ := e
                have e2 : (W ++ [(0 : Int), 0]).length = W.length + 2 := by simp
                have q := own_cap OF
                refine ⟨A6, c6, B1, d1, by rw [e2], IntsIn.of ?_, r2, by rw [e2]; exact q.1, q.2, hcd.1, hcd.2⟩
                have := own_read OF
                simpa using this)
              have CF := Lib.hid (C3.out.trans (BF.mono C3.out.size))
              obtain ⟨t0, t1, _, _⟩ := KF.two
              clear BF KF OF BB KA O6
              go_wp2_with fail
              refine (implThin_any _ (W ++ [0, 0]) P _ HT.out (by simp; omega) (by omega)).mono ?_
              rintro e w8 ⟨rfl, b8⟩
              rw [thin_twice]
              have CG := Lib.hid (CF.out.trans (b8.mono CF.out.size))
              clear b8 CF HT
              go_wp2_with fail
              refine (alive_any _).mono ?_
              rintro e w9 ⟨rfl, b9⟩
              have CH := Lib.hid (CG.out.trans (b9.mono CG.out.size))
              clear b9 CG
              go_wp2
              go_ret
              exact ⟨rfl, CH.out⟩
            exact AllZ.nil
          exact AllZ.nil
        refine AllZ.cons (i := 4) (o := ?o42) ?hi42 (fun K hK => ?ra42) ?mr42
        case hi42 => simp only [List.getElem?_toArray, List.getElem?_cons_succ, List.getElem?_cons_zero]; rfl
        case ra42 =>
          go_simp
          have BBn := b_alloc BB.out (.cells #[.int .i64 0, .int .i64 0] 3)
          have hzn : u2.heap.size < (u2.alloc (.cells #[.int .i64 0, .int .i64 0] 3)).heap.size := by simp
          have hzm := Nat.le_of_lt hzn
          have hbz := BB.out.size
          have OBn := Lib.hid (OB.out.alloc (.cells #[.int .i64 0, .int .i64 0] 3))
          have KAn := Lib.hid (KA.out.alloc (.cells #[.int .i64 0, .int .i64 0] 3))
          have RBn := Lib.hid (readc_nwt (w := u2) (T := 3) (cs := #[.int .i64 0, .int .i64 0]) (xs := [.int .i64 0, .int .i64 0]) rfl)
          have hpp : u2.heap.size ≠ p1 := by omega
          refine hK.out _ _ (.inr ⟨cell_keepT x0 BBn, cell_keepT x1 BBn⟩) ?_
          clear hK K
          (try simp only [Act.put, List.setIfInBounds_toArray, List.set_cons_zero, List.set_cons_succ])
          have BBm := Lib.hid BBn
          clear BBn
          clear OB KA
          clear BB
          generalize hvv : u2.alloc (.cells #[.int .i64 0, .int .i64 0] 3) = u3 at *
          clear hvv
          obtain ⟨p2, hpp2⟩ : ∃ x, x = u2.heap.size := ⟨_, rfl⟩
          rw [← hpp2] at hzn RBn hpp ⊢
          clear hpp2
          have KA := KAn
          have OB := OBn
          have RB := RBn
          clear KAn OBn RBn
          have BB := BBm
          clear BBm
          refine wpAnyZ_ready (rs := [3]) (by kernel_rfl) (by simp) ?_
          refine AllZ.cons (i := 3) (o := ?o43) ?hi43 (fun K hK => ?ra43) ?mr43
          case hi43 => simp only [List.getElem?_toArray, List.getElem?_cons_succ, List.getElem?_cons_zero]; rfl
          case ra43 =>
            refine step_append_r _ (by rfl) (.tmp 17) (.tmp 19) 22 (by rfl) w3.heap.size 3 i0 (.int .i64 0) 1 8 Try.underlying22 hi0 hz0 hz1 hz2 rfl (by decide) _ 0 [] OB.out ?_ A1 W.length c1 (W.map (Value.int .i64)) (HW.out.below BB.out) (by simp [Act.eval, Act.put] <;> fail) (by simp) (ints_one W) (by simp only [maxLen]; omega) (by omega) BB.out.size ?_
            simp [Act.eval, Act.put]
            intro v5 u4 o5 g5 d5
            rw [Nat.zero_add] at o5
            obtain ⟨A5, c5, rfl⟩ := own_slice o5
            have BBn := Below.grown BB.out g5 BB.out.size (fun k hk => (OB.out.lt k hk).1)
            have hzn := g5.size
            have hbz := BB.out.size
            have KAn := Lib.hid (blk_grown g5 KA.out (fun e => own_apartV OB.out KA.out (by decide) _ e.symm rfl))
            have RBn := Lib.hid (readc_grownt RB.out g5 (by simp [Value.ownBlock]; omega))
            refine hK.out _ _ (.inr ⟨cell_keepT x0 BBn, cell_keepT x1 BBn⟩) ?_
            clear hK K
            (try simp only [Act.put, List.setIfInBounds_toArray, List.set_cons_zero, List.set_cons_succ])
            have OA := Lib.hid o5
            clear OB o5 g5 d5 BB
            clear KA
            have KA := KAn
            clear KAn
            clear RB
            have RB := RBn
            clear RBn
            have BB := Lib.hid BBn
            clear BBn
            refine wpAnyZ_ready (rs := [5]) (by kernel_rfl) (by simp) ?_
            refine AllZ.cons (i := 5) (o := ?o44) ?hi44 (fun K hK => ?ra44) ?mr44
            case hi44 => simp only [List.getElem?_toArray, List.getElem?_cons_succ, List.getElem?_cons_zero]; rfl
            case ra44 =>
              refine step_append_r _ (by rfl) (.tmp 20) (.tmp 21) 22 (by rfl) w3.heap.size 3 i0 (.int .i64 0) 1 8 Try.underlying22 hi0 hz0 hz1 hz2 rfl (by decide) _ W.length (W.map (Value.int .i64)) OA.out ?_ (some ⟨p2, 0, none⟩) 2 2 [.int .i64 0, .int .i64 0] RB.out (by simp [Act.eval, Act.put] <;> fail) rfl (by intro u hu; simp at hu; subst hu; rfl) (by simp only [maxLen]; omega) (by omega) BB.out.size ?_
              simp [Act.eval, Act.put]
              intro v6 u5 o6 g6 d6
              obtain ⟨A6, c6, rfl⟩ := own_slice o6
              have BBn := Below.grown BB.out g6 BB.out.size (fun k hk => (OA.out.lt k hk).1)
              have hzn := g6.size
              have hbz := BB.out.size
              have KAn := Lib.hid (blk_grown g6 KA.out (fun e => own_apartV OA.out KA.out (by decide) _ e.symm rfl))
              refine hK.out _ _ (.inr ⟨cell_keepT x0 BBn, cell_keepT x1 BBn⟩) ?_
              clear hK K
              (try simp only [Act.put, List.setIfInBounds_toArray, List.set_cons_zero, List.set_cons_succ])
              have O6 := Lib.hid o6
              clear OA RB o6 g6 d6 BB
              clear KA
              have KA := KAn
              clear KAn
              have BB := Lib.hid BBn
              clear BBn
              refine wpAnyZ_take (i := 8) (oi := ?o45) (v := ?v45) ?hi45 (by kernel_rfl) (by kernel_rfl) (by kernel_rfl) (by kernel_rfl) ?hq45 ?hy45 ⟨cell_keepT x0 BB.out, cell_keepT x1 BB.out⟩ ?rest45
              case hi45 => simp only [List.getElem?_toArray, List.getElem?_cons_succ, List.getElem?_cons_zero]; rfl
              case hq45 => exact fun _ _ _ h => h
              case hy45 => (refine Or.inl ⟨by rfl, ?_⟩; intro w hSw; (try dsimp only at hSw); go_simp; (try with_reducible rfl))
              simp only [Act.put, List.setIfInBounds_toArray, List.set_cons_zero, List.set_cons_succ]
              obtain ⟨s0, s1, s2, s3⟩ := KA.out.two
              refine wpAnyZ_one (i := 10) (o := ?o46) (by kernel_rfl) ?hi46 (fun K hK => ?rest46)
              case hi46 => simp only [List.getElem?_toArray, List.getElem?_cons_succ, List.getElem?_cons_zero]; rfl
              go_simp
              refine hK.out _ _ (.inl rfl) ?_
              clear hK K
              (try simp only [Act.put, List.setIfInBounds_toArray, List.set_cons_zero, List.set_cons_succ])
              refine wpAnyZ_done (by kernel_rfl) ?_ _
              have hbz := BB.out.size
              have hp5 : w3.heap.size ≤ p5 := hlo5.out
              have BF := (BB.out.setCell (p := ⟨p5, 0, none⟩) hp5 (.slice A6 (W.length + 2) c6)).setCell (p := ⟨p5, 1, none⟩) hp5 (.slice B1 P.length d1)
              have KF := (KA.out.set 0 (.slice A6 (W.length + 2) c6)).set 1 (.slice B1 P.length d1)
              have OF := own_far (p := ⟨p5, 1, none⟩) (own_far (p := ⟨p5, 0, none⟩) O6.out (own_apartV O6.out KA.out (by decide)) (.slice A6 (W.length + 2) c6)) (own_apartV O6.out KA.out (by decide)) (.slice B1 P.length d1)
              have HT := Lib.hid (show ThinR ((u5.setCell ⟨p5, 0, none⟩ (.slice A6 (W.length + 2) c6)).setCell ⟨p5, 1, none⟩ (.slice B1 P.length d1)) (.agg #[.slice A6 (W.length + 2) c6, .slice B1 P.length d1]) (W ++ [0, 0]) P from by
                obtain ⟨A', c', B', d', e, _, r2, _⟩ := T3.out.below BF
                injection e with e
                simp only [Array.mk.injEq, List.cons.injEq, and_true, Value.slice.injEq] at e
                obtain ⟨_, rfl, _, rfl⟩ := e
                have e2 : (W ++ [(0 : Int), 0]).length = W.length + 2 := by simp
                have q := own_cap OF
                refine ⟨A6, c6, B1, d1, by rw [e2], IntsIn.of ?_, r2, by rw [e2]; exact q.1, q.2, hcd.1, hcd.2⟩
                have := own_read OF
                simpa using this)
              have CF := Lib.hid (C3.out.trans (BF.mono C3.out.size))
              obtain ⟨t0, t1, _, _⟩ := KF.two
              clear BF KF OF BB KA O6
              go_wp2_with fail
              refine (implThin_any _ (W ++ [0, 0]) P _ HT.out (by simp; omega) (by omega)).mono ?_
              rintro e w8 ⟨rfl, b8⟩
              rw [thin_twice]
              have CG := Lib.hid (CF.out.trans (b8.mono CF.out.size))
              clear b8 CF HT
              go_wp2_with fail
              refine (alive_any _).mono ?_
              rintro e w9 ⟨rfl, b9⟩
              have CH := Lib.hid (CG.out.trans (b9.mono CG.out.size))
              clear b9 CG
              go_wp2
              go_ret
              exact ⟨rfl, CH.out⟩
            exact AllZ.nil
          exact AllZ.nil
        exact AllZ.nil
      exact AllZ.nil
    refine AllZ.cons (i := 4) (o := ?o47) ?hi47 (fun K hK => ?ra47) ?mr47
    case hi47 => simp only [List.getElem?_toArray, List.getElem?_cons_succ, List.getElem?_cons_zero]; rfl
    case ra47 =>
      go_simp
      have BBn := b_alloc BB.out (.cells #[.int .i64 0, .int .i64 0] 3)
      have hzn : u0.heap.size < (u0.alloc (.cells #[.int .i64 0, .int .i64 0] 3)).heap.size := by simp
      have hzm := Nat.le_of_lt hzn
      have hbz := BB.out.size
      have RBn := Lib.hid (readc_nwt (w := u0) (T := 3) (cs := #[.int .i64 0, .int .i64 0]) (xs := [.int .i64 0, .int .i64 0]) rfl)
      refine hK.out _ _ (.inr ⟨cell_keepT x0 BBn, cell_keepT x1 BBn⟩) ?_
      clear hK K
      (try simp only [Act.put, List.setIfInBounds_toArray, List.set_cons_zero, List.set_cons_succ])
      have BBm := Lib.hid BBn
      clear BBn
      clear BB
      generalize hvv : u0.alloc (.cells #[.int .i64 0, .int .i64 0] 3) = u1 at *
      clear hvv
      obtain ⟨p2, hpp2⟩ : ∃ x, x = u0.heap.size := ⟨_, rfl⟩
      rw [← hpp2] at hzn RBn ⊢
      clear hpp2
      have RB := RBn
      clear RBn
      have BB := BBm
      clear BBm
      refine wpAnyZ_ready (rs := [0, 9]) (by kernel_rfl) (by simp) ?_
      refine AllZ.cons (i := 0) (o := ?o48) ?hi48 (fun K hK => ?ra48) ?mr48
      case hi48 => simp only [List.getElem?_toArray, List.getElem?_cons_succ, List.getElem?_cons_zero]; rfl
      case ra48 =>
        go_simp
        have BBn := b_alloc BB.out (.cells #[] 3)
        have hzn : u1.heap.size < (u1.alloc (.cells #[] 3)).heap.size := by simp
        have hzm := Nat.le_of_lt hzn
        have hbz := BB.out.size
        have RBn := Lib.hid (RB.out.alloc (.cells #[] 3))
        have OBn := Lib.hid (World.ownsRow_lit (e := 3) (size := 1) (base := w3.heap.size) u1 #[] 0 BB.out.size (by simp [maxLen]) (by simp))
        have hpp : p2 ≠ u1.heap.size := by omega
        refine hK.out _ _ (.inr ⟨cell_keepT x0 BBn, cell_keepT x1 BBn⟩) ?_
        clear hK K
        (try simp only [Act.put, List.setIfInBounds_toArray, List.set_cons_zero, List.set_cons_succ])
        have BBm := Lib.hid BBn
        clear BBn
        clear RB
        clear BB
        generalize hvv : u1.alloc (.cells #[] 3) = u2 at *
        clear hvv
        obtain ⟨p1, hpp1⟩ : ∃ x, x = u1.heap.size := ⟨_, rfl⟩
        rw [← hpp1] at hzn OBn hpp ⊢
        clear hpp1
        have OB := OBn
        have RB := RBn
        clear OBn RBn
        have BB := BBm
        clear BBm
        refine wpAnyZ_ready (rs := [3, 9]) (by kernel_rfl) (by simp) ?_
        refine AllZ.cons (i := 3) (o := ?o49) ?hi49 (fun K hK => ?ra49) ?mr49
        case hi49 => simp only [List.getElem?_toArray, List.getElem?_cons_succ, List.getElem?_cons_zero]; rfl
        case ra49 =>
          refine step_append_r _ (by rfl) (.tmp 17) (.tmp 19) 22 (by rfl) w3.heap.size 3 i0 (.int .i64 0) 1 8 Try.underlying22 hi0 hz0 hz1 hz2 rfl (by decide) _ 0 [] OB.out ?_ A1 W.length c1 (W.map (Value.int .i64)) (HW.out.below BB.out) (by simp [Act.eval, Act.put] <;> fail) (by simp) (ints_one W) (by simp only [maxLen]; omega) (by omega) BB.out.size ?_
          simp [Act.eval, Act.put]
          intro v5 u3 o5 g5 d5
          rw [Nat.zero_add] at o5
          obtain ⟨A5, c5, rfl⟩ := own_slice o5
          have BBn := Below.grown BB.out g5 BB.out.size (fun k hk => (OB.out.lt k hk).1)
          have hzn := g5.size
          have hbz := BB.out.size
          have RBn := Lib.hid (readc_grownt RB.out g5 (by simp [Value.ownBlock]; omega))
          refine hK.out _ _ (.inr ⟨cell_keepT x0 BBn, cell_keepT x1 BBn⟩) ?_
          clear hK K
          (try simp only [Act.put, List.setIfInBounds_toArray, List.set_cons_zero, List.set_cons_succ])
          have OA := Lib.hid o5
          clear OB o5 g5 d5 BB
          clear RB
          have RB := RBn
          clear RBn
          have BB := Lib.hid BBn
          clear BBn
          refine wpAnyZ_ready (rs := [5, 9]) (by kernel_rfl) (by simp) ?_
          refine AllZ.cons (i := 5) (o := ?o50) ?hi50 (fun K hK => ?ra50) ?mr50
          case hi50 => simp only [List.getElem?_toArray, List.getElem?_cons_succ, List.getElem?_cons_zero]; rfl
          case ra50 =>
            refine step_append_r _ (by rfl) (.tmp 20) (.tmp 21) 22 (by rfl) w3.heap.size 3 i0 (.int .i64 0) 1 8 Try.underlying22 hi0 hz0 hz1 hz2 rfl (by decide) _ W.length (W.map (Value.int .i64)) OA.out ?_ (some ⟨p2, 0, none⟩) 2 2 [.int .i64 0, .int .i64 0] RB.out (by simp [Act.eval, Act.put] <;> fail) rfl (by intro u hu; simp at hu; subst hu; rfl) (by simp only [maxLen]; omega) (by omega) BB.out.size ?_
            simp [Act.eval, Act.put]
            intro v6 u4 o6 g6 d6
            obtain ⟨A6, c6, rfl⟩ := own_slice o6
            have BBn := Below.grown BB.out g6 BB.out.size (fun k hk => (OA.out.lt k hk).1)
            have hzn := g6.size
            have hbz := BB.out.size
            refine hK.out _ _ (.inr ⟨cell_keepT x0 BBn, cell_keepT x1 BBn⟩) ?_
            clear hK K
            (try simp only [Act.put, List.setIfInBounds_toArray, List.set_cons_zero, List.set_cons_succ])
            have O6 := Lib.hid o6
            clear OA RB o6 g6 d6 BB
            have BB := Lib.hid BBn
            clear BBn
            refine wpAnyZ_take (i := 8) (oi := ?o51) (v := ?v51) ?hi51 (by kernel_rfl) (by kernel_rfl) (by kernel_rfl) (by kernel_rfl) ?hq51 ?hy51 ⟨cell_keepT x0 BB.out, cell_keepT x1 BB.out⟩ ?rest51
            case hi51 => simp only [List.getElem?_toArray, List.getElem?_cons_succ, List.getElem?_cons_zero]; rfl
            case hq51 => exact fun _ _ _ h => h
            case hy51 => (refine Or.inl ⟨by rfl, ?_⟩; intro w hSw; (try dsimp only at hSw); go_simp; (try with_reducible rfl))
            simp only [Act.put, List.setIfInBounds_toArray, List.set_cons_zero, List.set_cons_succ]
            refine wpAnyZ_ready (rs := [9]) (by kernel_rfl) (by simp) ?_
            refine AllZ.cons (i := 9) (o := ?o52) ?hi52 (fun K hK => ?ra52) ?mr52
            case hi52 => simp only [List.getElem?_toArray, List.getElem?_cons_succ, List.getElem?_cons_zero]; rfl
            case ra52 =>
              go_simp
              have BBn := b_alloc BB.out (.cells #[.slice none 0 0, .slice none 0 0] 27)
              have hzn : u4.heap.size < (u4.alloc (.cells #[.slice none 0 0, .slice none 0 0] 27)).heap.size := by simp
              have hzm := Nat.le_of_lt hzn
              have hbz := BB.out.size
              have O6n := Lib.hid (O6.out.alloc (.cells #[.slice none 0 0, .slice none 0 0] 27))
              have hlo5 := Lib.hid BB.out.size
              have KAn := Lib.hid (show Blk (u4.alloc (.cells #[.slice none 0 0, .slice none 0 0] 27)) u4.heap.size 27 #[.slice none 0 0, .slice none 0 0] from Blk.new rfl)
              refine hK.out _ _ (.inr ⟨cell_keepT x0 BBn, cell_keepT x1 BBn⟩) ?_
              clear hK K
              (try simp only [Act.put, List.setIfInBounds_toArray, List.set_cons_zero, List.set_cons_succ])
              have BBm := Lib.hid BBn
              clear BBn
              clear O6
              clear BB
              generalize hvv : u4.alloc (.cells #[.slice none 0 0, .slice none 0 0] 27) = u5 at *
              clear hvv
              obtain ⟨p5, hpp5⟩ : ∃ x, x = u4.heap.size := ⟨_, rfl⟩
              rw [← hpp5] at hzn KAn hlo5 ⊢
              clear hpp5
              have KA := KAn
              have O6 := O6n
              clear KAn O6n
              have BB := BBm
              clear BBm
              obtain ⟨s0, s1, s2, s3⟩ := KA.out.two
              refine wpAnyZ_one (i := 10) (o := ?o53) (by kernel_rfl) ?hi53 (fun K hK => ?rest53)
              case hi53 => simp only [List.getElem?_toArray, List.getElem?_cons_succ, List.getElem?_cons_zero]; rfl
              go_simp
              refine hK.out _ _ (.inl rfl) ?_
              clear hK K
              (try simp only [Act.put, List.setIfInBounds_toArray, List.set_cons_zero, List.set_cons_succ])
              refine wpAnyZ_done (by kernel_rfl) ?_ _
              have hbz := BB.out.size
              have hp5 : w3.heap.size ≤ p5 := hlo5.out
              have BF := (BB.out.setCell (p := ⟨p5, 0, none⟩) hp5 (.slice A6 (W.length + 2) c6)).setCell (p := ⟨p5, 1, none⟩) hp5 (.slice B1 P.length d1)
              have KF := (KA.out.set 0 (.slice A6 (W.length + 2) c6)).set 1 (.slice B1 P.length d1)
              have OF := own_far (p := ⟨p5, 1, none⟩) (own_far (p := ⟨p5, 0, none⟩) O6.out (own_apartV O6.out KA.out (by decide)) (.slice A6 (W.length + 2) c6)) (own_apartV O6.out KA.out (by decide)) (.slice B1 P.length d1)
              have HT := Lib.hid (show ThinR ((u5.setCell ⟨p5, 0, none⟩ (.slice A6 (W.length + 2) c6)).setCell ⟨p5, 1, none⟩ (.slice B1 P.length d1)) (.agg #[.slice A6 (W.length + 2) c6, .slice B1 P.length d1]) (W ++ [0, 0]) P from by
                obtain ⟨A', c', B', d', e, _, r2, _⟩ := T3.out.below BF
                injection e with e
                simp only [Array.mk.injEq, List.cons.injEq, and_true, Value.slice.injEq] at e
                obtain ⟨_, rfl, _, rfl⟩ := e
                have e2 : (W ++ [(0 : Int), 0]).length = W.length + 2 := by simp
                have q := own_cap OF
                refine ⟨A6, c6, B1, d1, by rw [e2], IntsIn.of ?_, r2, by rw [e2]; exact q.1, q.2, hcd.1, hcd.2⟩
                have := own_read OF
                simpa using this)
              have CF := Lib.hid (C3.out.trans (BF.mono C3.out.size))
              obtain ⟨t0, t1, _, _⟩ := KF.two
              clear BF KF OF BB KA O6
              go_wp2_with fail
              refine (implThin_any _ (W ++ [0, 0]) P _ HT.out (by simp; omega) (by omega)).mono ?_
              rintro e w8 ⟨rfl, b8⟩
              rw [thin_twice]
              have CG := Lib.hid (CF.out.trans (b8.mono CF.out.size))
              clear b8 CF HT
              go_wp2_with fail
              refine (alive_any _).mono ?_
              rintro e w9 ⟨rfl, b9⟩
              have CH := Lib.hid (CG.out.trans (b9.mono CG.out.size))
              clear b9 CG
              go_wp2
              go_ret
              exact ⟨rfl, CH.out⟩
            exact AllZ.nil
          refine AllZ.cons (i := 9) (o := ?o54) ?hi54 (fun K hK => ?ra54) ?mr54
          case hi54 => simp only [List.getElem?_toArray, List.getElem?_cons_succ, List.getElem?_cons_zero]; rfl
          case ra54 =>
            go_simp
            have BBn := b_alloc BB.out (.cells #[.slice none 0 0, .slice none 0 0] 27)
            have hzn : u3.heap.size < (u3.alloc (.cells #[.slice none 0 0, .slice none 0 0] 27)).heap.size := by simp
            have hzm := Nat.le_of_lt hzn
            have hbz := BB.out.size
            have RBn := Lib.hid (RB.out.alloc (.cells #[.slice none 0 0, .slice none 0 0] 27))
            have OAn := Lib.hid (OA.out.alloc (.cells #[.slice none 0 0, .slice none 0 0] 27))
            have hlo5 := Lib.hid BB.out.size
            have KAn := Lib.hid (show Blk (u3.alloc (.cells #[.slice none 0 0, .slice none 0 0] 27)) u3.heap.size 27 #[.slice none 0 0, .slice none 0 0] from Blk.new rfl)
            refine hK.out _ _ (.inr ⟨cell_keepT x0 BBn, cell_keepT x1 BBn⟩) ?_
            clear hK K
            (try simp only [Act.put, List.setIfInBounds_toArray, List.set_cons_zero, List.set_cons_succ])
            have BBm := Lib.hid BBn
            clear BBn
            clear RB OA
            clear BB
            generalize hvv : u3.alloc (.cells #[.slice none 0 0, .slice none 0 0] 27) = u4 at *
            clear hvv
            obtain ⟨p5, hpp5⟩ : ∃ x, x = u3.heap.size := ⟨_, rfl⟩
            rw [← hpp5] at hzn KAn hlo5 ⊢
            clear hpp5
            have KA := KAn
            have OA := OAn
            have RB := RBn
            clear KAn OAn RBn
            have BB := BBm
            clear BBm
            refine wpAnyZ_ready (rs := [5]) (by kernel_rfl) (by simp) ?_
            refine AllZ.cons (i := 5) (o := ?o55) ?hi55 (fun K hK => ?ra55) ?mr55
            case hi55 => simp only [List.getElem?_toArray, List.getElem?_cons_succ, List.getElem?_cons_zero]; rfl
            case ra55 =>
              refine step_append_r _ (by rfl) (.tmp 20) (.tmp 21) 22 (by rfl) w3.heap.size 3 i0 (.int .i64 0) 1 8 Try.underlying22 hi0 hz0 hz1 hz2 rfl (by decide) _ W.length (W.map (Value.int .i64)) OA.out ?_ (some ⟨p2, 0, none⟩) 2 2 [.int .i64 0, .int .i64 0] RB.out (by simp [Act.eval, Act.put] <;> fail) rfl (by intro u hu; simp at hu; subst hu; rfl) (by simp only [maxLen]; omega) (by omega) BB.out.size ?_
              simp [Act.eval, Act.put]
              intro v6 u5 o6 g6 d6
              obtain ⟨A6, c6, rfl⟩ := own_slice o6
              have BBn := Below.grown BB.out g6 BB.out.size (fun k hk => (OA.out.lt k hk).1)
              have hzn := g6.size
              have hbz := BB.out.size
              have KAn := Lib.hid (blk_grown g6 KA.out (fun e => own_apartV OA.out KA.out (by decide) _ e.symm rfl))
              refine hK.out _ _ (.inr ⟨cell_keepT x0 BBn, cell_keepT x1 BBn⟩) ?_
              clear hK K
              (try simp only [Act.put, List.setIfInBounds_toArray, List.set_cons_zero, List.set_cons_succ])
              have O6 := Lib.hid o6
              clear OA RB o6 g6 d6 BB
              clear KA
              have KA := KAn
              clear KAn
              have BB := Lib.hid BBn
              clear BBn
              refine wpAnyZ_take (i := 8) (oi := ?o56) (v := ?v56) ?hi56 (by kernel_rfl) (by kernel_rfl) (by kernel_rfl) (by kernel_rfl) ?hq56 ?hy56 ⟨cell_keepT x0 BB.out, cell_keepT x1 BB.out⟩ ?rest56
              case hi56 => simp only [List.getElem?_toArray, List.getElem?_cons_succ, List.getElem?_cons_zero]; rfl
              case hq56 => exact fun _ _ _ h => h
              case hy56 => (refine Or.inl ⟨by rfl, ?_⟩; intro w hSw; (try dsimp only at hSw); go_simp; (try with_reducible rfl))
              simp only [Act.put, List.setIfInBounds_toArray, List.set_cons_zero, List.set_cons_succ]
              obtain ⟨s0, s1, s2, s3⟩ := KA.out.two
              refine wpAnyZ_one (i := 10) (o := ?o57) (by kernel_rfl) ?hi57 (fun K hK => ?rest57)
              case hi57 => simp only [List.getElem?_toArray, List.getElem?_cons_succ, List.getElem?_cons_zero]; rfl
              go_simp
              refine hK.out _ _ (.inl rfl) ?_
              clear hK K
              (try simp only [Act.put, List.setIfInBounds_toArray, List.set_cons_zero, List.set_cons_succ])
              refine wpAnyZ_done (by kernel_rfl) ?_ _
              have hbz := BB.out.size
              have hp5 : w3.heap.size ≤ p5 := hlo5.out
              have BF := (BB.out.setCell (p := ⟨p5, 0, none⟩) hp5 (.slice A6 (W.length + 2) c6)).setCell (p := ⟨p5, 1, none⟩) hp5 (.slice B1 P.length d1)
              have KF := (KA.out.set 0 (.slice A6 (W.length + 2) c6)).set 1 (.slice B1 P.length d1)
              have OF := own_far (p := ⟨p5, 1, none⟩) (own_far (p := ⟨p5, 0, none⟩) O6.out (own_apartV O6.out KA.out (by decide)) (.slice A6 (W.length + 2) c6)) (own_apartV O6.out KA.out (by decide)) (.slice B1 P.length d1)
              have HT := Lib.hid (show ThinR ((u5.setCell ⟨p5, 0, none⟩ (.slice A6 (W.length + 2) c6)).setCell ⟨p5, 1, none⟩ (.slice B1 P.length d1)) (.agg #[.slice A6 (W.length + 2) c6, .slice B1 P.length d1]) (W ++ [0, 0]) P from by
                obtain ⟨A', c', B', d', e, _, r2, _⟩ := T3.out.below BF
                injection e with e
                simp only [Array.mk.injEq, List.cons.injEq, and_true, Value.slice.injEq] at e
                obtain ⟨_, rfl, _, rfl⟩ := e
                have e2 : (W ++ [(0 : Int), 0]).length = W.length + 2 := by simp
                have q := own_cap OF
                refine ⟨A6, c6, B1, d1, by rw [e2], IntsIn.of ?_, r2, by rw [e2]; exact q.1, q.2, hcd.1, hcd.2⟩
                have := own_read OF
                simpa using this)
              have CF := Lib.hid (C3.out.trans (BF.mono C3.out.size))
              obtain ⟨t0, t1, _, _⟩ := KF.two
              clear BF KF OF BB KA O6
              go_wp2_with fail
              refine (implThin_any _ (W ++ [0, 0]) P _ HT.out (by simp; omega) (by omega)).mono ?_
              rintro e w8 ⟨rfl, b8⟩
              rw [thin_twice]
              have CG := Lib.hid (CF.out.trans (b8.mono CF.out.size))
              clear b8 CF HT
              go_wp2_with fail
              refine (alive_any _).mono ?_
              rintro e w9 ⟨rfl, b9⟩
              have CH := Lib.hid (CG.out.trans (b9.mono CG.out.size))
              clear b9 CG
              go_wp2
              go_ret
              exact ⟨rfl, CH.out⟩
            exact AllZ.nil
          exact AllZ.nil
        refine AllZ.cons (i := 9) (o := ?o58) ?hi58 (fun K hK => ?ra58) ?mr58
        case hi58 => simp only [List.getElem?_toArray, List.getElem?_cons_succ, List.getElem?_cons_zero]; rfl
        case ra58 =>
          go_simp
          have BBn := b_alloc BB.out (.cells #[.slice none 0 0, .slice none 0 0] 27)
          have hzn : u2.heap.size < (u2.alloc (.cells #[.slice none 0 0, .slice none 0 0] 27)).heap.size := by simp
          have hzm := Nat.le_of_lt hzn
          have hbz := BB.out.size
          have OBn := Lib.hid (OB.out.alloc (.cells #[.slice none 0 0, .slice none 0 0] 27))
          have RBn := Lib.hid (RB.out.alloc (.cells #[.slice none 0 0, .slice none 0 0] 27))
          have hlo5 := Lib.hid BB.out.size
          have KAn := Lib.hid (show Blk (u2.alloc (.cells #[.slice none 0 0, .slice none 0 0] 27)) u2.heap.size 27 #[.slice none 0 0, .slice none 0 0] from Blk.new rfl)
          refine hK.out _ _ (.inr ⟨cell_keepT x0 BBn, cell_keepT x1 BBn⟩) ?_
          clear hK K
          (try simp only [Act.put, List.setIfInBounds_toArray, List.set_cons_zero, List.set_cons_succ])
          have BBm := Lib.hid BBn
          clear BBn
          clear OB RB
          clear BB
          generalize hvv : u2.alloc (.cells #[.slice none 0 0, .slice none 0 0] 27) = u3 at *
          clear hvv
          obtain ⟨p5, hpp5⟩ : ∃ x, x = u2.heap.size := ⟨_, rfl⟩
          rw [← hpp5] at hzn KAn hlo5 ⊢
          clear hpp5
          have KA := KAn
          have OB := OBn
          have RB := RBn
          clear KAn OBn RBn
          have BB := BBm
          clear BBm
          refine wpAnyZ_ready (rs := [3]) (by kernel_rfl) (by simp) ?_
          refine AllZ.cons (i := 3) (o := ?o59) ?hi59 (fun K hK => ?ra59) ?mr59
          case hi59 => simp only [List.getElem?_toArray, List.getElem?_cons_succ, List.getElem?_cons_zero]; rfl
          case ra59 =>
            refine step_append_r _ (by rfl) (.tmp 17) (.tmp 19) 22 (by rfl) w3.heap.size 3 i0 (.int .i64 0) 1 8 Try.underlying22 hi0 hz0 hz1 hz2 rfl (by decide) _ 0 [] OB.out ?_ A1 W.length c1 (W.map (Value.int .i64)) (HW.out.below BB.out) (by simp [Act.eval, Act.put] <;> fail) (by simp) (ints_one W) (by simp only [maxLen]; omega) (by omega) BB.out.size ?_
            simp [Act.eval, Act.put]
            intro v5 u4 o5 g5 d5
            rw [Nat.zero_add] at o5
            obtain ⟨A5, c5, rfl⟩ := own_slice o5
            have BBn := Below.grown BB.out g5 BB.out.size (fun k hk => (OB.out.lt k hk).1)
            have hzn := g5.size
            have hbz := BB.out.size
            have KAn := Lib.hid (blk_grown g5 KA.out (fun e => own_apartV OB.out KA.out (by decide) _ e.symm rfl))
            have RBn := Lib.hid (readc_grownt RB.out g5 (by simp [Value.ownBlock]; omega))
            refine hK.out _ _ (.inr ⟨cell_keepT x0 BBn, cell_keepT x1 BBn⟩) ?_
            clear hK K
            (try simp only [Act.put, List.setIfInBounds_toArray, List.set_cons_zero, List.set_cons_succ])
            have OA := Lib.hid o5
            clear OB o5 g5 d5 BB
            clear KA
            have KA := KAn
            clear KAn
            clear RB
            have RB := RBn
            clear RBn
            have BB := Lib.hid BBn
            clear BBn
            refine wpAnyZ_ready (rs := [5]) (by kernel_rfl) (by simp) ?_
            refine AllZ.cons (i := 5) (o := ?o60) ?hi60 (fun K hK => ?ra60) ?mr60
            case hi60 => simp only [List.getElem?_toArray, List.getElem?_cons_succ, List.getElem?_cons_zero]; rfl
            case ra60 =>
              refine step_append_r _ (by rfl) (.tmp 20) (.tmp 21) 22 (by rfl) w3.heap.size 3 i0 (.int .i64 0) 1 8 Try.underlying22 hi0 hz0 hz1 hz2 rfl (by decide) _ W.length (W.map (Value.int .i64)) OA.out ?_ (some ⟨p2, 0, none⟩) 2 2 [.int .i64 0, .int .i64 0] RB.out (by simp [Act.eval, Act.put] <;> fail) rfl (by intro u hu; simp at hu; subst hu; rfl) (by simp only [maxLen]; omega) (by omega) BB.out.size ?_
              simp [Act.eval, Act.put]
              intro v6 u5 o6 g6 d6
              obtain ⟨A6, c6, rfl⟩ := own_slice o6
              have BBn := Below.grown BB.out g6 BB.out.size (fun k hk => (OA.out.lt k hk).1)
              have hzn := g6.size
              have hbz := BB.out.size
              have KAn := Lib.hid (blk_grown g6 KA.out (fun e => own_apartV OA.out KA.out (by decide) _ e.symm rfl))
              refine hK.out _ _ (.inr ⟨cell_keepT x0 BBn, cell_keepT x1 BBn⟩) ?_
              clear hK K
              (try simp only [Act.put, List.setIfInBounds_toArray, List.set_cons_zero, List.set_cons_succ])
              have O6 := Lib.hid o6
              clear OA RB o6 g6 d6 BB
              clear KA
              have KA := KAn
              clear KAn
              have BB := Lib.hid BBn
              clear BBn
              refine wpAnyZ_take (i := 8) (oi := ?o61) (v := ?v61) ?hi61 (by kernel_rfl) (by kernel_rfl) (by kernel_rfl) (by kernel_rfl) ?hq61 ?hy61 ⟨cell_keepT x0 BB.out, cell_keepT x1 BB.out⟩ ?rest61
              case hi61 => simp only [List.getElem?_toArray, List.getElem?_cons_succ, List.getElem?_cons_zero]; rfl
              case hq61 => exact fun _ _ _ h => h
              case hy61 => (refine Or.inl ⟨by rfl, ?_⟩; intro w hSw; (try dsimp only at hSw); go_simp; (try with_reducible rfl))
              simp only [Act.put, List.setIfInBounds_toArray, List.set_cons_zero, List.set_cons_succ]
              obtain ⟨s0, s1, s2, s3⟩ := KA.out.two
              refine wpAnyZ_one (i := 10) (o := ?o62) (by kernel_rfl) ?hi62 (fun K hK => ?rest62)
              case hi62 => simp only [List.getElem?_toArray, List.getElem?_cons_succ, List.getElem?_cons_zero]; rfl
              go_simp
              refine hK.out _ _ (.inl rfl) ?_
              clear hK K
              (try simp only [Act.put, List.setIfInBounds_toArray, List.set_cons_zero, List.set_cons_succ])
              refine wpAnyZ_done (by kernel_rfl) ?_ _
              have hbz := BB.out.size
              have hp5 : w3.heap.size ≤ p5 := hlo5.out
              have BF := (BB.out.setCell (p := ⟨p5, 0, none⟩) hp5 (.slice A6 (W.length + 2) c6)).setCell (p := ⟨p5, 1, none⟩) hp5 (.slice B1 P.length d1)
              have KF := (KA.out.set 0 (.slice A6 (W.length + 2) c6)).set 1 (.slice B1 P.length d1)
              have OF := own_far (p := ⟨p5, 1, none⟩) (own_far (p := ⟨p5, 0, none⟩) O6.out (own_apartV O6.out KA.out (by decide)) (.slice A6 (W.length + 2) c6)) (own_apartV O6.out KA.out (by decide)) (.slice B1 P.length d1)
              have HT := Lib.hid (show ThinR ((u5.setCell ⟨p5, 0, none⟩ (.slice A6 (W.length + 2) c6)).setCell ⟨p5, 1, none⟩ (.slice B1 P.length d1)) (.agg #[.slice A6 (W.length + 2) c6, .slice B1 P.length d1]) (W ++ [0, 0]) P from by
                obtain ⟨A', c', B', d', e, _, r2, _⟩ := T3.out.below BF
                injection e with e
                simp only [Array.mk.injEq, List.cons.injEq, and_true, Value.slice.injEq] at e
                obtain ⟨_, rfl, _, rfl⟩ := e
                have e2 : (W ++ [(0 : Int), 0]).length = W.length + 2 := by simp
                have q := own_cap OF
                refine ⟨A6, c6, B1, d1, by rw [e2], IntsIn.of ?_, r2, by rw [e2]; exact q.1, q.2, hcd.1, hcd.2⟩
                have := own_read OF
                simpa using this)
              have CF := Lib.hid (C3.out.trans (BF.mono C3.out.size))
              obtain ⟨t0, t1, _, _⟩ := KF.two
              clear BF KF OF BB KA O6
              go_wp2_with fail
              refine (implThin_any _ (W ++ [0, 0]) P _ HT.out (by simp; omega) (by omega)).mono ?_
              rintro e w8 ⟨rfl, b8⟩
              rw [thin_twice]
              have CG := Lib.hid (CF.out.trans (b8.mono CF.out.size))
              clear b8 CF HT
              go_wp2_with fail
              refine (alive_any _).mono ?_
              rintro e w9 ⟨rfl, b9⟩
              have CH := Lib.hid (CG.out.trans (b9.mono CG.out.size))
              clear b9 CG
              go_wp2
              go_ret
              exact ⟨rfl, CH.out⟩
            exact AllZ.nil
          exact AllZ.nil
        exact AllZ.nil
      refine AllZ.cons (i := 9) (o := ?o63) ?hi63 (fun K hK => ?ra63) ?mr63
      case hi63 => simp only [List.getElem?_toArray, List.getElem?_cons_succ, List.getElem?_cons_zero]; rfl
      case ra63 =>
        go_simp
        have BBn := b_alloc BB.out (.cells #[.slice none 0 0, .slice none 0 0] 27)
        have hzn : u1.heap.size < (u1.alloc (.cells #[.slice none 0 0, .slice none 0 0] 27)).heap.size := by simp
        have hzm := Nat.le_of_lt hzn
        have hbz := BB.out.size
        have RBn := Lib.hid (RB.out.alloc (.cells #[.slice none 0 0, .slice none 0 0] 27))
        have hlo5 := Lib.hid BB.out.size
        have KAn := Lib.hid (show Blk (u1.alloc (.cells #[.slice none 0 0, .slice none 0 0] 27)) u1.heap.size 27 #[.slice none 0 0, .slice none 0 0] from Blk.new rfl)
        refine hK.out _ _ (.inr ⟨cell_keepT x0 BBn, cell_keepT x1 BBn⟩) ?_
        clear hK K
        (try simp only [Act.put, List.setIfInBounds_toArray, List.set_cons_zero, List.set_cons_succ])
        have BBm := Lib.hid BBn
        clear BBn
        clear RB
        clear BB
        generalize hvv : u1.alloc (.cells #[.slice none 0 0, .slice none 0 0] 27) = u2 at *
        clear hvv
        obtain ⟨p5, hpp5⟩ : ∃ x, x = u1.heap.size := ⟨_, rfl⟩
        rw [← hpp5] at hzn KAn hlo5 ⊢
        clear hpp5
        have KA := KAn
        have RB := RBn
        clear KAn RBn
        have BB := BBm
        clear BBm
        refine wpAnyZ_ready (rs := [0]) (by kernel_rfl) (by simp) ?_
        refine AllZ.cons (i := 0) (o := ?o64) ?hi64 (fun K hK => ?ra64) ?mr64
        case hi64 => simp only [List.getElem?_toArray, List.getElem?_cons_succ, List.getElem?_cons_zero]; rfl
        case ra64 =>
          go_simp
          have BBn := b_alloc BB.out (.cells #[] 3)
          have hzn : u2.heap.size < (u2.alloc (.cells #[] 3)).heap.size := by simp
          have hzm := Nat.le_of_lt hzn
          have hbz := BB.out.size
          have RBn := Lib.hid (RB.out.alloc (.cells #[] 3))
          have KAn := Lib.hid (KA.out.alloc (.cells #[] 3))
          have OBn := Lib.hid (World.ownsRow_lit (e := 3) (size := 1) (base := w3.heap.size) u2 #[] 0 BB.out.size (by simp [maxLen]) (by simp))
          have hpp : p2 ≠ u2.heap.size := by omega
          refine hK.out _ _ (.inr ⟨cell_keepT x0 BBn, cell_keepT x1 BBn⟩) ?_
          clear hK K
          (try simp only [Act.put, List.setIfInBounds_toArray, List.set_cons_zero, List.set_cons_succ])
          have BBm := Lib.hid BBn
          clear BBn
          clear RB KA
          clear BB
          generalize hvv : u2.alloc (.cells #[] 3) = u3 at *
          clear hvv
          obtain ⟨p1, hpp1⟩ : ∃ x, x = u2.heap.size := ⟨_, rfl⟩
          rw [← hpp1] at hzn OBn hpp ⊢
          clear hpp1
          have KA := KAn
          have OB := OBn
          have RB := RBn
          clear KAn OBn RBn
          have BB := BBm
          clear BBm
          refine wpAnyZ_ready (rs := [3]) (by kernel_rfl) (by simp) ?_
          refine AllZ.cons (i := 3) (o := ?o65) ?hi65 (fun K hK => ?ra65) ?mr65
          case hi65 => simp only [List.getElem?_toArray, List.getElem?_cons_succ, List.getElem?_cons_zero]; rfl
          case ra65 =>
            refine step_append_r _ (by rfl) (.tmp 17) (.tmp 19) 22 (by rfl) w3.heap.size 3 i0 (.int .i64 0) 1 8 Try.underlying22 hi0 hz0 hz1 hz2 rfl (by decide) _ 0 [] OB.out ?_ A1 W.length c1 (W.map (Value.int .i64)) (HW.out.below BB.out) (by simp [Act.eval, Act.put] <;> fail) (by simp) (ints_one W) (by simp only [maxLen]; omega) (by omega) BB.out.size ?_
            simp [Act.eval, Act.put]
            intro v5 u4 o5 g5 d5
            rw [Nat.zero_add] at o5
            obtain ⟨A5, c5, rfl⟩ := own_slice o5
            have BBn := Below.grown BB.out g5 BB.out.size (fun k hk => (OB.out.lt k hk).1)
            have hzn := g5.size
            have hbz := BB.out.size
            have KAn := Lib.hid (blk_grown g5 KA.out (fun e => own_apartV OB.out KA.out (by decide) _ e.symm rfl))
            have RBn := Lib.hid (readc_grownt RB.out g5 (by simp [Value.ownBlock]; omega))
            refine hK.out _ _ (.inr ⟨cell_keepT x0 BBn, cell_keepT x1 BBn⟩) ?_
            clear hK K
            (try simp only [Act.put, List.setIfInBounds_toArray, List.set_cons_zero, List.set_cons_succ])
            have OA := Lib.hid o5
            clear OB o5 g5 d5 BB
            clear KA
            have KA := KAn
            clear KAn
            clear RB
            have RB := RBn
            clear RBn
            have BB := Lib.hid BBn
            clear BBn
            refine wpAnyZ_ready (rs := [5]) (by kernel_rfl) (by simp) ?_
            refine AllZ.cons (i := 5) (o := ?o66) ?hi66 (fun K hK => ?ra66) ?mr66
            case hi66 => simp only [List.getElem?_toArray, List.getElem?_cons_succ, List.getElem?_cons_zero]; rfl
            case ra66 =>
              refine step_append_r _ (by rfl) (.tmp 20) (.tmp 21) 22 (by rfl) w3.heap.size 3 i0 (.int .i64 0) 1 8 Try.underlying22 hi0 hz0 hz1 hz2 rfl (by decide) _ W.length (W.map (Value.int .i64)) OA.out ?_ (some ⟨p2, 0, none⟩) 2 2 [.int .i64 0, .int .i64 0] RB.out (by simp [Act.eval, Act.put] <;> fail) rfl (by intro u hu; simp at hu; subst hu; rfl) (by simp only [maxLen]; omega) (by omega) BB.out.size ?_
              simp [Act.eval, Act.put]
              intro v6 u5 o6 g6 d6
              obtain ⟨A6, c6, rfl⟩ := own_slice o6
              have BBn := Below.grown BB.out g6 BB.out.size (fun k hk => (OA.out.lt k hk).1)
              have hzn := g6.size
              have hbz := BB.out.size
              have KAn := Lib.hid (blk_grown g6 KA.out (fun e => own_apartV OA.out KA.out (by decide) _ e.symm rfl))
              refine hK.out _ _ (.inr ⟨cell_keepT x0 BBn, cell_keepT x1 BBn⟩) ?_
              clear hK K
              (try simp only [Act.put, List.setIfInBounds_toArray, List.set_cons_zero, List.set_cons_succ])
              have O6 := Lib.hid o6
              clear OA RB o6 g6 d6 BB
              clear KA
              have KA := KAn
              clear KAn
              have BB := Lib.hid BBn
              clear BBn
              refine wpAnyZ_take (i := 8) (oi := ?o67) (v := ?v67) ?hi67 (by kernel_rfl) (by kernel_rfl) (by kernel_rfl) (by kernel_rfl) ?hq67 ?hy67 ⟨cell_keepT x0 BB.out, cell_keepT x1 BB.out⟩ ?rest67
              case hi67 => simp only [List.getElem?_toArray, List.getElem?_cons_succ, List.getElem?_cons_zero]; rfl
              case hq67 => exact fun _ _ _ h => h
              case hy67 => (refine Or.inl ⟨by rfl, ?_⟩; intro w hSw; (try dsimp only at hSw); go_simp; (try with_reducible rfl))
              simp only [Act.put, List.setIfInBounds_toArray, List.set_cons_zero, List.set_cons_succ]
              obtain ⟨s0, s1, s2, s3⟩ := KA.out.two
              refine wpAnyZ_one (i := 10) (o := ?o68) (by kernel_rfl) ?hi68 (fun K hK => ?rest68)
              case hi68 => simp only [List.getElem?_toArray, List.getElem?_cons_succ, List.getElem?_cons_zero]; rfl
              go_simp
              refine hK.out _ _ (.inl rfl) ?_
              clear hK K
              (try simp only [Act.put, List.setIfInBounds_toArray, List.set_cons_zero, List.set_cons_succ])
              refine wpAnyZ_done (by kernel_rfl) ?_ _
              have hbz := BB.out.size
              have hp5 : w3.heap.size ≤ p5 := hlo5.out
              have BF := (BB.out.setCell (p := ⟨p5, 0, none⟩) hp5 (.slice A6 (W.length + 2) c6)).setCell (p := ⟨p5, 1, none⟩) hp5 (.slice B1 P.length d1)
              have KF := (KA.out.set 0 (.slice A6 (W.length + 2) c6)).set 1 (.slice B1 P.length d1)
              have OF := own_far (p := ⟨p5, 1, none⟩) (own_far (p := ⟨p5, 0, none⟩) O6.out (own_apartV O6.out KA.out (by decide)) (.slice A6 (W.length + 2) c6)) (own_apartV O6.out KA.out (by decide)) (.slice B1 P.length d1)
              have HT := Lib.hid (show ThinR ((u5.setCell ⟨p5, 0, none⟩ (.slice A6 (W.length + 2) c6)).setCell ⟨p5, 1, none⟩ (.slice B1 P.length d1)) (.agg #[.slice A6 (W.length + 2) c6, .slice B1 P.length d1]) (W ++ [0, 0]) P from by
                obtain ⟨A', c', B', d', e, _, r2, _⟩ := T3.out.below BF
                injection e with e
                simp only [Array.mk.injEq, List.cons.injEq, and_true, Value.slice.injEq] at e
                obtain ⟨_, rfl, _, rfl⟩ := e
                have e2 : (W ++ [(0 : Int), 0]).length = W.length + 2 := by simp
                have q := own_cap OF
                refine ⟨A6, c6, B1, d1, by rw [e2], IntsIn.of ?_, r2, by rw [e2]; exact q.1, q.2, hcd.1, hcd.2⟩
                have := own_read OF
                simpa using this)
              have CF := Lib.hid (C3.out.trans (BF.mono C3.out.size))
              obtain ⟨t0, t1, _, _⟩ := KF.two
              clear BF KF OF BB KA O6
              go_wp2_with fail
              refine (implThin_any _ (W ++ [0, 0]) P _ HT.out (by simp; omega) (by omega)).mono ?_
              rintro e w8 ⟨rfl, b8⟩
              rw [thin_twice]
              have CG := Lib.hid (CF.out.trans (b8.mono CF.out.size))
              clear b8 CF HT
              go_wp2_with fail
              refine (alive_any _).mono ?_
              rintro e w9 ⟨rfl, b9⟩
              have CH := Lib.hid (CG.out.trans (b9.mono CG.out.size))
              clear b9 CG
              go_wp2
              go_ret
              exact ⟨rfl, CH.out⟩
            exact AllZ.nil
          exact AllZ.nil
        exact AllZ.nil
      exact AllZ.nil
    refine AllZ.cons (i := 9) (o := ?o69) ?hi69 (fun K hK => ?ra69) ?mr69
    case hi69 => simp only [List.getElem?_toArray, List.getElem?_cons_succ, List.getElem?_cons_zero]; rfl
    case ra69 =>
      go_simp
      have BBn := b_alloc BB.out (.cells #[.slice none 0 0, .slice none 0 0] 27)
      have hzn : u0.heap.size < (u0.alloc (.cells #[.slice none 0 0, .slice none 0 0] 27)).heap.size := by simp
      have hzm := Nat.le_of_lt hzn
      have hbz := BB.out.size
      have hlo5 := Lib.hid BB.out.size
      have KAn := Lib.hid (show Blk (u0.alloc (.cells #[.slice none 0 0, .slice none 0 0] 27)) u0.heap.size 27 #[.slice none 0 0, .slice none 0 0] from Blk.new rfl)
      refine hK.out _ _ (.inr ⟨cell_keepT x0 BBn, cell_keepT x1 BBn⟩) ?_
      clear hK K
      (try simp only [Act.put, List.setIfInBounds_toArray, List.set_cons_zero, List.set_cons_succ])
      have BBm := Lib.hid BBn
      clear BBn
      clear BB
      generalize hvv : u0.alloc (.cells #[.slice none 0 0, .slice none 0 0] 27) = u1 at *
      clear hvv
      obtain ⟨p5, hpp5⟩ : ∃ x, x = u0.heap.size := ⟨_, rfl⟩
      rw [← hpp5] at hzn KAn hlo5 ⊢
      clear hpp5
      have KA := KAn
      clear KAn
      have BB := BBm
      clear BBm
      refine wpAnyZ_ready (rs := [0, 4]) (by kernel_rfl) (by simp) ?_
      refine AllZ.cons (i := 0) (o := ?o70) ?hi70 (fun K hK => ?ra70) ?mr70
      case hi70 => simp only [List.getElem?_toArray, List.getElem?_cons_succ, List.getElem?_cons_zero]; rfl
      case ra70 =>
        go_simp
        have BBn := b_alloc BB.out (.cells #[] 3)
        have hzn : u1.heap.size < (u1.alloc (.cells #[] 3)).heap.size := by simp
        have hzm := Nat.le_of_lt hzn
        have hbz := BB.out.size
        have KAn := Lib.hid (KA.out.alloc (.cells #[] 3))
        have OBn := Lib.hid (World.ownsRow_lit (e := 3) (size := 1) (base := w3.heap.size) u1 #[] 0 BB.out.size (by simp [maxLen]) (by simp))
        refine hK.out _ _ (.inr ⟨cell_keepT x0 BBn, cell_keepT x1 BBn⟩) ?_
        clear hK K
        (try simp only [Act.put, List.setIfInBounds_toArray, List.set_cons_zero, List.set_cons_succ])
        have BBm := Lib.hid BBn
        clear BBn
        clear KA
        clear BB
        generalize hvv : u1.alloc (.cells #[] 3) = u2 at *
        clear hvv
        obtain ⟨p1, hpp1⟩ : ∃ x, x = u1.heap.size := ⟨_, rfl⟩
        rw [← hpp1] at hzn OBn ⊢
        clear hpp1
        have KA := KAn
        have OB := OBn
        clear KAn OBn
        have BB := BBm
        clear BBm
        refine wpAnyZ_ready (rs := [3, 4]) (by kernel_rfl) (by simp) ?_
        refine AllZ.cons (i := 3) (o := ?o71) ?hi71 (fun K hK => ?ra71) ?mr71
        case hi71 => simp only [List.getElem?_toArray, List.getElem?_cons_succ, List.getElem?_cons_zero]; rfl
        case ra71 =>
          refine step_append_r _ (by rfl) (.tmp 17) (.tmp 19) 22 (by rfl) w3.heap.size 3 i0 (.int .i64 0) 1 8 Try.underlying22 hi0 hz0 hz1 hz2 rfl (by decide) _ 0 [] OB.out ?_ A1 W.length c1 (W.map (Value.int .i64)) (HW.out.below BB.out) (by simp [Act.eval, Act.put] <;> fail) (by simp) (ints_one W) (by simp only [maxLen]; omega) (by omega) BB.out.size ?_
          simp [Act.eval, Act.put]
          intro v5 u3 o5 g5 d5
          rw [Nat.zero_add] at o5
          obtain ⟨A5, c5, rfl⟩ := own_slice o5
          have BBn := Below.grown BB.out g5 BB.out.size (fun k hk => (OB.out.lt k hk).1)
          have hzn := g5.size
          have hbz := BB.out.size
          have KAn := Lib.hid (blk_grown g5 KA.out (fun e => own_apartV OB.out KA.out (by decide) _ e.symm rfl))
          refine hK.out _ _ (.inr ⟨cell_keepT x0 BBn, cell_keepT x1 BBn⟩) ?_
          clear hK K
          (try simp only [Act.put, List.setIfInBounds_toArray, List.set_cons_zero, List.set_cons_succ])
          have OA := Lib.hid o5
          clear OB o5 g5 d5 BB
          clear KA
          have KA := KAn
          clear KAn
          have BB := Lib.hid BBn
          clear BBn
          refine wpAnyZ_ready (rs := [4]) (by kernel_rfl) (by simp) ?_
          refine AllZ.cons (i := 4) (o := ?o72) ?hi72 (fun K hK => ?ra72) ?mr72
          case hi72 => simp only [List.getElem?_toArray, List.getElem?_cons_succ, List.getElem?_cons_zero]; rfl
          case ra72 =>
            go_simp
            have BBn := b_alloc BB.out (.cells #[.int .i64 0, .int .i64 0] 3)
            have hzn : u3.heap.size < (u3.alloc (.cells #[.int .i64 0, .int .i64 0] 3)).heap.size := by simp
            have hzm := Nat.le_of_lt hzn
            have hbz := BB.out.size
            have OAn := Lib.hid (OA.out.alloc (.cells #[.int .i64 0, .int .i64 0] 3))
            have KAn := Lib.hid (KA.out.alloc (.cells #[.int .i64 0, .int .i64 0] 3))
            have RBn := Lib.hid (readc_nwt (w := u3) (T := 3) (cs := #[.int .i64 0, .int .i64 0]) (xs := [.int .i64 0, .int .i64 0]) rfl)
            refine hK.out _ _ (.inr ⟨cell_keepT x0 BBn, cell_keepT x1 BBn⟩) ?_
            clear hK K
            (try simp only [Act.put, List.setIfInBounds_toArray, List.set_cons_zero, List.set_cons_succ])
            have BBm := Lib.hid BBn
            clear BBn
            clear OA KA
            clear BB
            generalize hvv : u3.alloc (.cells #[.int .i64 0, .int .i64 0] 3) = u4 at *
            clear hvv
            obtain ⟨p2, hpp2⟩ : ∃ x, x = u3.heap.size := ⟨_, rfl⟩
            rw [← hpp2] at hzn RBn ⊢
            clear hpp2
            have KA := KAn
            have OA := OAn
            have RB := RBn
            clear KAn OAn RBn
            have BB := BBm
            clear BBm
            refine wpAnyZ_ready (rs := [5]) (by kernel_rfl) (by simp) ?_
            refine AllZ.cons (i := 5) (o := ?o73) ?hi73 (fun K hK => ?ra73) ?mr73
            case hi73 => simp only [List.getElem?_toArray, List.getElem?_cons_succ, List.getElem?_cons_zero]; rfl
            case ra73 =>
              refine step_append_r _ (by rfl) (.tmp 20) (.tmp 21) 22 (by rfl) w3.heap.size 3 i0 (.int .i64 0) 1 8 Try.underlying22 hi0 hz0 hz1 hz2 rfl (by decide) _ W.length (W.map (Value.int .i64)) OA.out ?_ (some ⟨p2, 0, none⟩) 2 2 [.int .i64 0, .int .i64 0] RB.out (by simp [Act.eval, Act.put] <;> fail) rfl (by intro u hu; simp at hu; subst hu; rfl) (by simp only [maxLen]; omega) (by omega) BB.out.size ?_
              simp [Act.eval, Act.put]
              intro v6 u5 o6 g6 d6
              obtain ⟨A6, c6, rfl⟩ := own_slice o6
              have BBn := Below.grown BB.out g6 BB.out.size (fun k hk => (OA.out.lt k hk).1)
              have hzn := g6.size
              have hbz := BB.out.size
              have KAn := Lib.hid (blk_grown g6 KA.out (fun e => own_apartV OA.out KA.out (by decide) _ e.symm rfl))
              refine hK.out _ _ (.inr ⟨cell_keepT x0 BBn, cell_keepT x1 BBn⟩) ?_
              clear hK K
              (try simp only [Act.put, List.setIfInBounds_toArray, List.set_cons_zero, List.set_cons_succ])
              have O6 := Lib.hid o6
              clear OA RB o6 g6 d6 BB
              clear KA
              have KA := KAn
              clear KAn
              have BB := Lib.hid BBn
              clear BBn
              refine wpAnyZ_take (i := 8) (oi := ?o74) (v := ?v74) ?hi74 (by kernel_rfl) (by kernel_rfl) (by kernel_rfl) (by kernel_rfl) ?hq74 ?hy74 ⟨cell_keepT x0 BB.out, cell_keepT x1 BB.out⟩ ?rest74
              case hi74 => simp only [List.getElem?_toArray, List.getElem?_cons_succ, List.getElem?_cons_zero]; rfl
              case hq74 => exact fun _ _ _ h => h
              case hy74 => (refine Or.inl ⟨by rfl, ?_⟩; intro w hSw; (try dsimp only at hSw); go_simp; (try with_reducible rfl))
              simp only [Act.put, List.setIfInBounds_toArray, List.set_cons_zero, List.set_cons_succ]
              obtain ⟨s0, s1, s2, s3⟩ := KA.out.two
              refine wpAnyZ_one (i := 10) (o := ?o75) (by kernel_rfl) ?hi75 (fun K hK => ?rest75)
              case hi75 => simp only [List.getElem?_toArray, List.getElem?_cons_succ, List.getElem?_cons_zero]; rfl
              go_simp
              refine hK.out _ _ (.inl rfl) ?_
              clear hK K
              (try simp only [Act.put, List.setIfInBounds_toArray, List.set_cons_zero, List.set_cons_succ])
              refine wpAnyZ_done (by kernel_rfl) ?_ _
              have hbz := BB.out.size
              have hp5 : w3.heap.size ≤ p5 := hlo5.out
              have BF := (BB.out.setCell (p := ⟨p5, 0, none⟩) hp5 (.slice A6 (W.length + 2) c6)).setCell (p := ⟨p5, 1, none⟩) hp5 (.slice B1 P.length d1)
              have KF := (KA.out.set 0 (.slice A6 (W.length + 2) c6)).set 1 (.slice B1 P.length d1)
              have OF := own_far (p := ⟨p5, 1, none⟩) (own_far (p := ⟨p5, 0, none⟩) O6.out (own_apartV O6.out KA.out (by decide)) (.slice A6 (W.length + 2) c6)) (own_apartV O6.out KA.out (by decide)) (.slice B1 P.length d1)
              have HT := Lib.hid (show ThinR ((u5.setCell ⟨p5, 0, none⟩ (.slice A6 (W.length + 2) c6)).setCell ⟨p5, 1, none⟩ (.slice B1 P.length d1)) (.agg #[.slice A6 (W.length + 2) c6, .slice B1 P.length d1]) (W ++ [0, 0]) P from by
                obtain ⟨A', c', B', d', e, _, r2, _⟩ := T3.out.below BF
                injection e with e
                simp only [Array.mk.injEq, List.cons.injEq, and_true, Value.slice.injEq] at e
                obtain ⟨_, rfl, _, rfl⟩ := e
                have e2 : (W ++ [(0 : Int), 0]).length = W.length + 2 := by simp
                have q := own_cap OF
                refine ⟨A6, c6, B1, d1, by rw [e2], IntsIn.of ?_, r2, by rw [e2]; exact q.1, q.2, hcd.1, hcd.2⟩
                have := own_read OF
                simpa using this)
              have CF := Lib.hid (C3.out.trans (BF.mono C3.out.size))
              obtain ⟨t0, t1, _, _⟩ := KF.two
              clear BF KF OF BB KA O6
              go_wp2_with fail
              refine (implThin_any _ (W ++ [0, 0]) P _ HT.out (by simp; omega) (by omega)).mono ?_
              rintro e w8 ⟨rfl, b8⟩
              rw [thin_twice]
              have CG := Lib.hid (CF.out.trans (b8.mono CF.out.size))
              clear b8 CF HT
              go_wp2_with fail
              refine (alive_any _).mono ?_
              rintro e w9 ⟨rfl, b9⟩
              have CH := Lib.hid (CG.out.trans (b9.mono CG.out.size))
              clear b9 CG
              go_wp2
              go_ret
              exact ⟨rfl, CH.out⟩
            exact AllZ.nil
          exact AllZ.nil
        refine AllZ.cons (i := 4) (o := ?o76) ?hi76 (fun K hK => ?ra76) ?mr76
        case hi76 => simp only [List.getElem?_toArray, List.getElem?_cons_succ, List.getElem?_cons_zero]; rfl
        case ra76 =>
          go_simp
          have BBn := b_alloc BB.out (.cells #[.int .i64 0, .int .i64 0] 3)
          have hzn : u2.heap.size < (u2.alloc (.cells #[.int .i64 0, .int .i64 0] 3)).heap.size := by simp
          have hzm := Nat.le_of_lt hzn
          have hbz := BB.out.size
          have OBn := Lib.hid (OB.out.alloc (.cells #[.int .i64 0, .int .i64 0] 3))
          have KAn := Lib.hid (KA.out.alloc (.cells #[.int .i64 0, .int .i64 0] 3))
          have RBn := Lib.hid (readc_nwt (w := u2) (T := 3) (cs := #[.int .i64 0, .int .i64 0]) (xs := [.int .i64 0, .int .i64 0]) rfl)
          have hpp : u2.heap.size ≠ p1 := by omega
          refine hK.out _ _ (.inr ⟨cell_keepT x0 BBn, cell_keepT x1 BBn⟩) ?_
          clear hK K
          (try simp only [Act.put, List.setIfInBounds_toArray, List.set_cons_zero, List.set_cons_succ])
          have BBm := Lib.hid BBn
          clear BBn
          clear OB KA
          clear BB
          generalize hvv : u2.alloc (.cells #[.int .i64 0, .int .i64 0] 3) = u3 at *
          clear hvv
          obtain ⟨p2, hpp2⟩ : ∃ x, x = u2.heap.size := ⟨_, rfl⟩
          rw [← hpp2] at hzn RBn hpp ⊢
          clear hpp2
          have KA := KAn
          have OB := OBn
          have RB := RBn
          clear KAn OBn RBn
          have BB := BBm
          clear BBm
          refine wpAnyZ_ready (rs := [3]) (by kernel_rfl) (by simp) ?_
          refine AllZ.cons (i := 3) (o := ?o77) ?hi77 (fun K hK => ?ra77) ?mr77
          case hi77 => simp only [List.getElem?_toArray, List.getElem?_cons_succ, List.getElem?_cons_zero]; rfl
          case ra77 =>
            refine step_append_r _ (by rfl) (.tmp 17) (.tmp 19) 22 (by rfl) w3.heap.size 3 i0 (.int .i64 0) 1 8 Try.underlying22 hi0 hz0 hz1 hz2 rfl (by decide) _ 0 [] OB.out ?_ A1 W.length c1 (W.map (Value.int .i64)) (HW.out.below BB.out) (by simp [Act.eval, Act.put] <;> fail) (by simp) (ints_one W) (by simp only [maxLen]; omega) (by omega) BB.out.size ?_
            simp [Act.eval, Act.put]
            intro v5 u4 o5 g5 d5
            rw [Nat.zero_add] at o5
            obtain ⟨A5, c5, rfl⟩ := own_slice o5
            have BBn := Below.grown BB.out g5 BB.out.size (fun k hk => (OB.out.lt k hk).1)
            have hzn := g5.size
            have hbz := BB.out.size
            have KAn := Lib.hid (blk_grown g5 KA.out (fun e => own_apartV OB.out KA.out (by decide) _ e.symm rfl))
            have RBn := Lib.hid (readc_grownt RB.out g5 (by simp [Value.ownBlock]; omega))
            refine hK.out _ _ (.inr ⟨cell_keepT x0 BBn, cell_keepT x1 BBn⟩) ?_
            clear hK K
            (try simp only [Act.put, List.setIfInBounds_toArray, List.set_cons_zero, List.set_cons_succ])
            have OA := Lib.hid o5
            clear OB o5 g5 d5 BB
            clear KA
            have KA := KAn
            clear KAn
            clear RB
            have RB := RBn
            clear RBn
            have BB := Lib.hid BBn
            clear BBn
            refine wpAnyZ_ready (rs := [5]) (by kernel_rfl) (by simp) ?_
            refine AllZ.cons (i := 5) (o := ?o78) ?hi78 (fun K hK => ?ra78) ?mr78
            case hi78 => simp only [List.getElem?_toArray, List.getElem?_cons_succ, List.getElem?_cons_zero]; rfl
            case ra78 =>
              refine step_append_r _ (by rfl) (.tmp 20) (.tmp 21) 22 (by rfl) w3.heap.size 3 i0 (.int .i64 0) 1 8 Try.underlying22 hi0 hz0 hz1 hz2 rfl (by decide) _ W.length (W.map (Value.int .i64)) OA.out ?_ (some ⟨p2, 0, none⟩) 2 2 [.int .i64 0, .int .i64 0] RB.out (by simp [Act.eval, Act.put] <;> fail) rfl (by intro u hu; simp at hu; subst hu; rfl) (by simp only [maxLen]; omega) (by omega) BB.out.size ?_
              simp [Act.eval, Act.put]
              intro v6 u5 o6 g6 d6
              obtain ⟨A6, c6, rfl⟩ := own_slice o6
              have BBn := Below.grown BB.out g6 BB.out.size (fun k hk => (OA.out.lt k hk).1)
              have hzn := g6.size
              have hbz := BB.out.size
              have KAn := Lib.hid (blk_grown g6 KA.out (fun e => own_apartV OA.out KA.out (by decide) _ e.symm rfl))
              refine hK.out _ _ (.inr ⟨cell_keepT x0 BBn, cell_keepT x1 BBn⟩) ?_
              clear hK K
              (try simp only [Act.put, List.setIfInBounds_toArray, List.set_cons_zero, List.set_cons_succ])
              have O6 := Lib.hid o6
              clear OA RB o6 g6 d6 BB
              clear KA
              have KA := KAn
              clear KAn
              have BB := Lib.hid BBn
              clear BBn
              refine wpAnyZ_take (i := 8) (oi := ?o79) (v := ?v79) ?hi79 (by kernel_rfl) (by kernel_rfl) (by kernel_rfl) (by kernel_rfl) ?hq79 ?hy79 ⟨cell_keepT x0 BB.out, cell_keepT x1 BB.out⟩ ?rest79
              case hi79 => simp only [List.getElem?_toArray, List.getElem?_cons_succ, List.getElem?_cons_zero]; rfl
              case hq79 => exact fun _ _ _ h => h
              case hy79 => (refine Or.inl ⟨by rfl, ?_⟩; intro w hSw; (try dsimp only at hSw); go_simp; (try with_reducible rfl))
              simp only [Act.put, List.setIfInBounds_toArray, List.set_cons_zero, List.set_cons_succ]
              obtain ⟨s0, s1, s2, s3⟩ := KA.out.two
              refine wpAnyZ_one (i := 10) (o := ?o80) (by kernel_rfl) ?hi80 (fun K hK => ?rest80)
              case hi80 => simp only [List.getElem?_toArray, List.getElem?_cons_succ, List.getElem?_cons_zero]; rfl
              go_simp
              refine hK.out _ _ (.inl rfl) ?_
              clear hK K
              (try simp only [Act.put, List.setIfInBounds_toArray, List.set_cons_zero, List.set_cons_succ])
              refine wpAnyZ_done (by kernel_rfl) ?_ _
              have hbz := BB.out.size
              have hp5 : w3.heap.size ≤ p5 := hlo5.out
              have BF := (BB.out.setCell (p := ⟨p5, 0, none⟩) hp5 (.slice A6 (W.length + 2) c6)).setCell (p := ⟨p5, 1, none⟩) hp5 (.slice B1 P.length d1)
              have KF := (KA.out.set 0 (.slice A6 (W.length + 2) c6)).set 1 (.slice B1 P.length d1)
              have OF := own_far (p := ⟨p5, 1, none⟩) (own_far (p := ⟨p5, 0, none⟩) O6.out (own_apartV O6.out KA.out (by decide)) (.slice A6 (W.length + 2) c6)) (own_apartV O6.out KA.out (by decide)) (.slice B1 P.length d1)
              have HT := Lib.hid (show ThinR ((u5.setCell ⟨p5, 0, none⟩ (.slice A6 (W.length + 2) c6)).setCell ⟨p5, 1, none⟩ (.slice B1 P.length d1)) (.agg #[.slice A6 (W.length + 2) c6, .slice B1 P.length d1]) (W ++ [0, 0]) P from by
                obtain ⟨A', c', B', d', e, _, r2, _⟩ := T3.out.below BF
                injection e with e
                simp only [Array.mk.injEq, List.cons.injEq, and_true, Value.slice.injEq] at e
                obtain ⟨_, rfl, _, rfl⟩ := e
                have e2 : (W ++ [(0 : Int), 0]).length = W.length + 2 := by simp
                have q := own_cap OF
                refine ⟨A6, c6, B1, d1, by rw [e2], IntsIn.of ?_, r2, by rw [e2]; exact q.1, q.2, hcd.1, hcd.2⟩
                have := own_read OF
                simpa using this)
              have CF := Lib.hid (C3.out.trans (BF.mono C3.out.size))
              obtain ⟨t0, t1, _, _⟩ := KF.two
              clear BF KF OF BB KA O6
              go_wp2_with fail
              refine (implThin_any _ (W ++ [0, 0]) P _ HT.out (by simp; omega) (by omega)).mono ?_
              rintro e w8 ⟨rfl, b8⟩
              rw [thin_twice]
              have CG := Lib.hid (CF.out.trans (b8.mono CF.out.size))
              clear b8 CF HT
              go_wp2_with fail
              refine (alive_any _).mono ?_
              rintro e w9 ⟨rfl, b9⟩
              have CH := Lib.hid (CG.out.trans (b9.mono CG.out.size))
              clear b9 CG
              go_wp2
              go_ret
              exact ⟨rfl, CH.out⟩
            exact AllZ.nil
          exact AllZ.nil
        exact AllZ.nil
      refine AllZ.cons (i := 4) (o := ?o81) ?hi81 (fun K hK => ?ra81) ?mr81
      case hi81 => simp only [List.getElem?_toArray, List.getElem?_cons_succ, List.getElem?_cons_zero]; rfl
      case ra81 =>
        go_simp
        have BBn := b_alloc BB.out (.cells #[.int .i64 0, .int .i64 0] 3)
        have hzn : u1.heap.size < (u1.alloc (.cells #[.int .i64 0, .int .i64 0] 3)).heap.size := by simp
        have hzm := Nat.le_of_lt hzn
        have hbz := BB.out.size
        have KAn := Lib.hid (KA.out.alloc (.cells #[.int .i64 0, .int .i64 0] 3))
        have RBn := Lib.hid (readc_nwt (w := u1) (T := 3) (cs := #[.int .i64 0, .int .i64 0]) (xs := [.int .i64 0, .int .i64 0]) rfl)
        refine hK.out _ _ (.inr ⟨cell_keepT x0 BBn, cell_keepT x1 BBn⟩) ?_
        clear hK K
        (try simp only [Act.put, List.setIfInBounds_toArray, List.set_cons_zero, List.set_cons_succ])
        have BBm := Lib.hid BBn
        clear BBn
        clear KA
        clear BB
        generalize hvv : u1.alloc (.cells #[.int .i64 0, .int .i64 0] 3) = u2 at *
        clear hvv
        obtain ⟨p2, hpp2⟩ : ∃ x, x = u1.heap.size := ⟨_, rfl⟩
        rw [← hpp2] at hzn RBn ⊢
        clear hpp2
        have KA := KAn
        have RB := RBn
        clear KAn RBn
        have BB := BBm
        clear BBm
        refine wpAnyZ_ready (rs := [0]) (by kernel_rfl) (by simp) ?_
        refine AllZ.cons (i := 0) (o := ?o82) ?hi82 (fun K hK => ?ra82) ?mr82
        case hi82 => simp only [List.getElem?_toArray, List.getElem?_cons_succ, List.getElem?_cons_zero]; rfl
        case ra82 =>
          go_simp
          have BBn := b_alloc BB.out (.cells #[] 3)
          have hzn : u2.heap.size < (u2.alloc (.cells #[] 3)).heap.size := by simp
          have hzm := Nat.le_of_lt hzn
          have hbz := BB.out.size
          have RBn := Lib.hid (RB.out.alloc (.cells #[] 3))
          have KAn := Lib.hid (KA.out.alloc (.cells #[] 3))
          have OBn := Lib.hid (World.ownsRow_lit (e := 3) (size := 1) (base := w3.heap.size) u2 #[] 0 BB.out.size (by simp [maxLen]) (by simp))
          have hpp : p2 ≠ u2.heap.size := by omega
          refine hK.out _ _ (.inr ⟨cell_keepT x0 BBn, cell_keepT x1 BBn⟩) ?_
          clear hK K
          (try simp only [Act.put, List.setIfInBounds_toArray, List.set_cons_zero, List.set_cons_succ])
          have BBm := Lib.hid BBn
          clear BBn
          clear RB KA
          clear BB
          generalize hvv : u2.alloc (.cells #[] 3) = u3 at *
          clear hvv
          obtain ⟨p1, hpp1⟩ : ∃ x, x = u2.heap.size := ⟨_, rfl⟩
          rw [← hpp1] at hzn OBn hpp ⊢
          clear hpp1
          have KA := KAn
          have OB := OBn
          have RB := RBn
          clear KAn OBn RBn
          have BB := BBm
          clear BBm
          refine wpAnyZ_ready (rs := [3]) (by kernel_rfl) (by simp) ?_
          refine AllZ.cons (i := 3) (o := ?o83) ?hi83 (fun K hK => ?ra83) ?mr83
          case hi83 => simp only [List.getElem?_toArray, List.getElem?_cons_succ, List.getElem?_cons_zero]; rfl
          case ra83 =>
            refine step_append_r _ (by rfl) (.tmp 17) (.tmp 19) 22 (by rfl) w3.heap.size 3 i0 (.int .i64 0) 1 8 Try.underlying22 hi0 hz0 hz1 hz2 rfl (by decide) _ 0 [] OB.out ?_ A1 W.length c1 (W.map (Value.int .i64)) (HW.out.below BB.out) (by simp [Act.eval, Act.put] <;> fail) (by simp) (ints_one W) (by simp only [maxLen]; omega) (by omega) BB.out.size ?_
            simp [Act.eval, Act.put]
            intro v5 u4 o5 g5 d5
            rw [Nat.zero_add] at o5
            obtain ⟨A5, c5, rfl⟩ := own_slice o5
            have BBn := Below.grown BB.out g5 BB.out.size (fun k hk => (OB.out.lt k hk).1)
            have hzn := g5.size
            have hbz := BB.out.size
            have KAn := Lib.hid (blk_grown g5 KA.out (fun e => own_apartV OB.out KA.out (by decide) _ e.symm rfl))
            have RBn := Lib.hid (readc_grownt RB.out g5 (by simp [Value.ownBlock]; omega))
            refine hK.out _ _ (.inr ⟨cell_keepT x0 BBn, cell_keepT x1 BBn⟩) ?_
            clear hK K
            (try simp only [Act.put, List.setIfInBounds_toArray, List.set_cons_zero, List.set_cons_succ])
            have OA := Lib.hid o5
            clear OB o5 g5 d5 BB
            clear KA
            have KA := KAn
            clear KAn
            clear RB
            have RB := RBn
            clear RBn
            have BB := Lib.hid BBn
            clear BBn
            refine wpAnyZ_ready (rs := [5]) (by kernel_rfl) (by simp) ?_
            refine AllZ.cons (i := 5) (o := ?o84) ?hi84 (fun K hK => ?ra84) ?mr84
            case hi84 => simp only [List.getElem?_toArray, List.getElem?_cons_succ, List.getElem?_cons_zero]; rfl
            case ra84 =>
              refine step_append_r _ (by rfl) (.tmp 20) (.tmp 21) 22 (by rfl) w3.heap.size 3 i0 (.int .i64 0) 1 8 Try.underlying22 hi0 hz0 hz1 hz2 rfl (by decide) _ W.length (W.map (Value.int .i64)) OA.out ?_ (some ⟨p2, 0, none⟩) 2 2 [.int .i64 0, .int .i64 0] RB.out (by simp [Act.eval, Act.put] <;> fail) rfl (by intro u hu; simp at hu; subst hu; rfl) (by simp only [maxLen]; omega) (by omega) BB.out.size ?_
              simp [Act.eval, Act.put]
              intro v6 u5 o6 g6 d6
              obtain ⟨A6, c6, rfl⟩ := own_slice o6
              have BBn := Below.grown BB.out g6 BB.out.size (fun k hk => (OA.out.lt k hk).1)
              have hzn := g6.size
              have hbz := BB.out.size
              have KAn := Lib.hid (blk_grown g6 KA.out (fun e => own_apartV OA.out KA.out (by decide) _ e.symm rfl))
              refine hK.out _ _ (.inr ⟨cell_keepT x0 BBn, cell_keepT x1 BBn⟩) ?_
              clear hK K
              (try simp only [Act.put, List.setIfInBounds_toArray, List.set_cons_zero, List.set_cons_succ])
              have O6 := Lib.hid o6
              clear OA RB o6 g6 d6 BB
              clear KA
              have KA := KAn
              clear KAn
              have BB := Lib.hid BBn
              clear BBn
              refine wpAnyZ_take (i := 8) (oi := ?o85) (v := ?v85) ?hi85 (by kernel_rfl) (by kernel_rfl) (by kernel_rfl) (by kernel_rfl) ?hq85 ?hy85 ⟨cell_keepT x0 BB.out, cell_keepT x1 BB.out⟩ ?rest85
              case hi85 => simp only [List.getElem?_toArray, List.getElem?_cons_succ, List.getElem?_cons_zero]; rfl
              case hq85 => exact fun _ _ _ h => h
              case hy85 => (refine Or.inl ⟨by rfl, ?_⟩; intro w hSw; (try dsimp only at hSw); go_simp; (try with_reducible rfl))
              simp only [Act.put, List.setIfInBounds_toArray, List.set_cons_zero, List.set_cons_succ]
              obtain ⟨s0, s1, s2, s3⟩ := KA.out.two
              refine wpAnyZ_one (i := 10) (o := ?o86) (by kernel_rfl) ?hi86 (fun K hK => ?rest86)
              case hi86 => simp only [List.getElem?_toArray, List.getElem?_cons_succ, List.getElem?_cons_zero]; rfl
              go_simp
              refine hK.out _ _ (.inl rfl) ?_
              clear hK K
              (try simp only [Act.put, List.setIfInBounds_toArray, List.set_cons_zero, List.set_cons_succ])
              refine wpAnyZ_done (by kernel_rfl) ?_ _
              have hbz := BB.out.size
              have hp5 : w3.heap.size ≤ p5 := hlo5.out
              have BF := (BB.out.setCell (p := ⟨p5, 0, none⟩) hp5 (.slice A6 (W.length + 2) c6)).setCell (p := ⟨p5, 1, none⟩) hp5 (.slice B1 P.length d1)
              have KF := (KA.out.set 0 (.slice A6 (W.length + 2) c6)).set 1 (.slice B1 P.length d1)
              have OF := own_far (p := ⟨p5, 1, none⟩) (own_far (p := ⟨p5, 0, none⟩) O6.out (own_apartV O6.out KA.out (by decide)) (.slice A6 (W.length + 2) c6)) (own_apartV O6.out KA.out (by decide)) (.slice B1 P.length d1)
              have HT := Lib.hid (show ThinR ((u5.setCell ⟨p5, 0, none⟩ (.slice A6 (W.length + 2) c6)).setCell ⟨p5, 1, none⟩ (.slice B1 P.length d1)) (.agg #[.slice A6 (W.length + 2) c6, .slice B1 P.length d1]) (W ++ [0, 0]) P from by
                obtain ⟨A', c', B', d', e, _, r2, _⟩ := T3.out.below BF
                injection e with e
                simp only [Array.mk.injEq, List.cons.injEq, and_true, Value.slice.injEq] at e
                obtain ⟨_, rfl, _, rfl⟩ := e
                have e2 : (W ++ [(0 : Int), 0]).length = W.length + 2 := by simp
                have q := own_cap OF
                refine ⟨A6, c6, B1, d1, by rw [e2], IntsIn.of ?_, r2, by rw [e2]; exact q.1, q.2, hcd.1, hcd.2⟩
                have := own_read OF
                simpa using this)
              have CF := Lib.hid (C3.out.trans (BF.mono C3.out.size))
              obtain ⟨t0, t1, _, _⟩ := KF.two
              clear BF KF OF BB KA O6
              go_wp2_with fail
              refine (implThin_any _ (W ++ [0, 0]) P _ HT.out (by simp; omega) (by omega)).mono ?_
              rintro e w8 ⟨rfl, b8⟩
              rw [thin_twice]
              have CG := Lib.hid (CF.out.trans (b8.mono CF.out.size))
              clear b8 CF HT
              go_wp2_with fail
              refine (alive_any _).mono ?_
              rintro e w9 ⟨rfl, b9⟩
              have CH := Lib.hid (CG.out.trans (b9.mono CG.out.size))
              clear b9 CG
              go_wp2
              go_ret
              exact ⟨rfl, CH.out⟩
            exact AllZ.nil
          exact AllZ.nil
        exact AllZ.nil
      exact AllZ.nil
    exact AllZ.nil

set_option maxRecDepth 100000 in
theorem lifted (os : Os) (started : os.Started) (H : Type) (enc : TypeId × Value → H) :
    ReturnsInHanded {} Try.checked os 7 .any (Rows.fnThinValidSpec.pre6 enc Try.prog Try.f7 Rows.fnThinValidRow.domain false) (Rows.fnThinValidSpec.post enc Try.prog Try.f7 false true false false) := by
  refine returnsInHanded_of_change (C := Try.checked) own started (by kernel_rfl) Try.func7
    (ChangeSpec.witness6 (enc := enc) (C := Try.checked) false ⟨#[], #[.slice none 0 0], []⟩ 8 (by kernel_rfl) (by kernel_rfl) (by kernel_rfl) (by kernel_rfl)) ?_
  intro W base args ds gs before hval0 hW hcnd _
  have hval : ∀ (j : Nat) t v, Try.f7.params[j]? = some t → args[j]? = some v → Value.okWide Try.prog W .any base t v := hval0
  have hW' := hW
  obtain ⟨p, q, hA0, hV, rfl, hfz, hnd⟩ := hW
  have hA : DataW.TrodAll enc Try.prog W 0 (fun _ => true) true Try.f7.params.toList args.toList ds p := hA0
  rw [Try.params7] at hA hval
  obtain ⟨v0, vs0, d0, ds0, p0, q0, hargs, rfl, rfl, h0, r0⟩ := trodAll_cons hA
  obtain ⟨rfl, rfl, rfl⟩ := trodAll_nil r0
  obtain rfl : args = #[v0] := by cases args; simp_all
  obtain ⟨rfl, rfl⟩ := trodVars_none hV
  have k0 := h0
  have lt0 : ∀ x ∈ p0, x.block < W.heap.size := by obtain ⟨m, hm⟩ := k0; exact DataW.trod_lt m _ _ _ hm
  obtain ⟨a0, n0, c0, rfl, ok0, le0, cl0⟩ := open_bytes (hval 0 38 v0 rfl rfl) h0
  clear hA0 hval0
  refine (walk a0 n0 c0 W ok0 le0 cl0).mono fun e W' ⟨he, bel⟩ => ?_
  subst he
  exact ⟨_, rfl, _, _, _, [], _, [], hW', trodAll_mk1 (shut_bool Try.underlying4 _), (trodAll_cons_mk (Below.trod laidOut (by kernel_rfl) (of_decide_eq_true (by kernel_rfl)) k0 bel lt0) trodAll_mk0), rfl, bel.frame _, fun h => by cases h⟩

theorem proved : Rows.FnThinValidSaid :=
  OpenClaim.holds_of_wide 7 Try.f7 rfl rfl rfl rfl rfl rfl rfl ⟨rfl, rfl, rfl, rfl, rfl⟩ rfl rfl rfl rfl rfl (by kernel_rfl) Try.func7 (by kernel_rfl)
    (of_decide_eq_true (by kernel_rfl)) (by unfold Func.isWrapper; first | (rw [if_pos (by decide +kernel)]; kernel_rfl) | (rw [if_neg (by decide +kernel)]; exact ⟨rfl, rfl⟩))
    (fun os started H enc _ => lifted os started H enc)
#print axioms proved
end Go.Proofs.Ytjkbooflbfnbiaa.fnThinValid
