/- Proves Rows.FnJournalValidSaid: for every input the law FnJournalValid returns true and leaves its arguments as they were. Conditions: none. -/
import Derived.Test.YthghngphamimgaaOpen
import Derived.Test.YthghngphamimgaaDrJV
import Derived.Test.YthghngphamimgaaRecV
import Derived.Test.YthghngphamimgaaAppH
import Derived.Test.YthghngphamimgaaRegZ
namespace Go.Proofs.Ythghngphamimgaa.fnJournalValid
open Go.ChangeShapes Go.WideShapes Go.ChangeAt Go.RowKit
set_option linter.unusedVariables false
theorem cell_keepJ {w w' : World} {p : Addr} {v : Value} (h : w.cell? p = some v) (hb : Below w.heap.size w w') : w'.cell? p = some v :=
  (World.cell?_of_block (hb.block _ (block_lt_of_cell h))).trans h
theorem jr_twice (l : List Rc) (s : Int) : jrB (l ++ [(9, true, 0, 0), (9, true, 0, 0)]) s = false := by
  cases h : jrB (l ++ [(9, true, 0, 0), (9, true, 0, 0)]) s
  · rfl
  · obtain ⟨_, _, _, hu⟩ := jr_parts h
    rw [upB_app] at hu
    simp only [Bool.and_eq_true, upB, recOk] at hu
    have h2 := hu.2.2.1.2
    simp [commN] at h2
theorem four {w : World} {g : Nat} {t : TypeId} {a b c d : Value} (h : Blk w g t #[a, b, c, d]) : w.cell? ⟨g, 0, none⟩ = some a ∧ w.cell? ⟨g, 1, none⟩ = some b ∧ w.cell? ⟨g, 2, none⟩ = some c ∧ w.cell? ⟨g, 3, none⟩ = some d :=
  ⟨h.cell 0, h.cell 1, h.cell 2, h.cell 3⟩
theorem readc_nwj {w : World} {T : TypeId} {cs : Array Value} {xs : List Value} (h : xs = cs.toList) : ReadC (w.alloc (.cells cs T)) (some ⟨w.heap.size, 0, none⟩) xs := by
  subst h
  intro h0
  refine ⟨w.heap.size, 0, rfl, fun i hi => ?_⟩
  rw [Nat.zero_add, cell_of_row _ _ _ _ _ _ (heap_alloc_new w _)]
  rw [Array.length_toList] at hi
  rw [Array.getElem?_eq_getElem hi, Array.getElem_toList]
theorem jr_take {l : List Rc} {s : Int} (h : jrB l s = true) (m : Nat) : jrB (l.take m) s = true := jr_front (m := l.drop m) (by rw [List.take_append_drop]; exact h)

set_option linter.unusedSimpArgs false in
set_option maxHeartbeats 4000000 in
theorem walk (A : Option Addr) (m cp : Nat) (w : World) (hb : BytesIn w A m) (hmc : m ≤ cp) (hcp : cp ≤ 9223372036854775807) :
    Calls Try.prog 4 #[.slice A m cp] w fun e w' => e = .returned (.bool true) ∧ Below w.heap.size w w' := by
  by_cases hbig : 1048576 < m
  · go_enter Try.func4, Try.ntmps4
    go_wp2
    go_ret
    exact ⟨rfl, Below.refl _ _⟩
  · obtain ⟨i0, hi0, hz0, hz1, hz2⟩ := info_parts rowinfo_records
    go_enter Try.func4, Try.ntmps4
    go_wp2_with fail
    refine (drawJV_any A m cp w hb hmc hcp).mono ?_
    rintro e w1 ⟨A1, c1, l, size, rfl, o1, hl, s0, s1, -, b1⟩
    have O1 := Lib.hid (show World.ownsRow w1 w.heap.size 33 4 (.slice A1 l.length c1) l.length (recC l) from o1)
    have C1 := Lib.hid b1
    clear b1 o1 hb
    have hcap := own_cap O1.out
    go_wp2_with fail
    refine (implJr_any A1 c1 l size _ (RecsIn.of (own_read O1.out)) (by omega) hcap.1 hcap.2).mono ?_
    rintro e w2 ⟨rfl, b2⟩
    have O2 := Lib.hid (own_below O1.out b2 (Nat.le_refl _))
    have C2 := Lib.hid (C1.out.trans (b2.mono C1.out.size))
    clear b2 O1 C1
    go_wp2_with fail
    refine (specJr_any A1 c1 l size _ (RecsIn.of (own_read O2.out)) (by omega)).mono ?_
    rintro e w3 ⟨rfl, b3⟩
    have O3 := Lib.hid (own_below O2.out b3 (Nat.le_refl _))
    have C3 := Lib.hid (C2.out.trans (b3.mono C2.out.size))
    clear b3 O2 C2
    have hne : (jrB l size != jrB l size) = false := by simp
    obtain ⟨h2, hh2, hh3⟩ : ∃ h2 : Nat, (l.length : Int) / 2 = h2 ∧ h2 ≤ l.length := ⟨l.length / 2, by omega, by omega⟩
    have hhc : h2 ≤ c1 := by omega
    have X4 := Lib.hid (show Blk (w3.alloc (.cells #[.int .i64 9, .bool true, .int .i64 0, .int .i64 0] 33)) w3.heap.size 33 #[.int .i64 9, .bool true, .int .i64 0, .int .i64 0] from Blk.new rfl)
    have O4 := Lib.hid (O3.out.alloc (.cells #[.int .i64 9, .bool true, .int .i64 0, .int .i64 0] 33))
    have C4 := Lib.hid (b_alloc C3.out (.cells #[.int .i64 9, .bool true, .int .i64 0, .int .i64 0] 33))
    have hcall := implJr_any A1 c1 (l.take h2) size (w3.alloc (.cells #[.int .i64 9, .bool true, .int .i64 0, .int .i64 0] 33)).drew ((RecsIn.of (own_read O4.out)).take h2) (by rw [List.length_take]; omega) (by rw [List.length_take]; omega) hcap.2
    rw [List.length_take, Nat.min_eq_left hh3] at hcall
    obtain ⟨w4, hw4⟩ : ∃ w4, w4 = w3.alloc (.cells #[.int .i64 9, .bool true, .int .i64 0, .int .i64 0] 33) := ⟨_, rfl⟩
    have HW4 := Lib.hid hw4
    have hz4 : w3.heap.size < w4.heap.size := by rw [hw4]; simp
    have hz3 : w.heap.size ≤ w3.heap.size := C3.out.size
    rw [← hw4] at hcall X4 O4 C4
    have HC := Lib.hid hcall
    clear hcall hw4 O3 C3
    cases hv : jrB l size
    · rw [hv] at hne
      have KX := Lib.hid (show Blk w4 w3.heap.size 33 #[.int .i64 9, .bool true, .int .i64 0, .int .i64 0] from X4.out)
      have OX := Lib.hid (show w4.ownsRow w.heap.size 33 4 (.slice A1 l.length c1) l.length (recC l) from O4.out)
      have CX := Lib.hid (show Below w.heap.size w w4 from C4.out)
      obtain ⟨k0, k1, k2, k3⟩ := four KX.out
      clear X4 O4 C4 HC
      go_wp2
      rw [← HW4.out]
      refine wp_region_Z (fun w' : World => w'.cell? ⟨w3.heap.size, 0, none⟩ = some (.int .i64 9) ∧ w'.cell? ⟨w3.heap.size, 1, none⟩ = some (.bool true) ∧ w'.cell? ⟨w3.heap.size, 2, none⟩ = some (.int .i64 0) ∧ w'.cell? ⟨w3.heap.size, 3, none⟩ = some (.int .i64 0)) 99 (by kernel_rfl) ?_
      generalize hv0 : w4.drew = u0
      have BB := Lib.hid (show Below w4.heap.size w4 u0 by rw [← hv0]; exact (Below.refl _ _).drew)
      clear hv0
      refine wpAnyZ_take (i := 0) (oi := ?o1) (v := ?v1) ?hi1 (by kernel_rfl) (by kernel_rfl) (by kernel_rfl) (by kernel_rfl) ?hq1 ?hy1 ⟨cell_keepJ k0 BB.out, cell_keepJ k1 BB.out, cell_keepJ k2 BB.out, cell_keepJ k3 BB.out⟩ ?rest1
      case hi1 => simp only [List.getElem?_toArray, List.getElem?_cons_succ, List.getElem?_cons_zero]; rfl
      case hq1 => exact fun _ _ _ h => h
      case hy1 => (refine Or.inl ⟨by rfl, ?_⟩; intro w hSw; (try dsimp only at hSw); go_simp; (try with_reducible rfl))
      simp only [Act.put, List.setIfInBounds_toArray, List.set_cons_zero, List.set_cons_succ]
      refine wpAnyZ_take (i := 1) (oi := ?o2) (v := ?v2) ?hi2 (by kernel_rfl) (by kernel_rfl) (by kernel_rfl) (by kernel_rfl) ?hq2 ?hy2 ⟨cell_keepJ k0 BB.out, cell_keepJ k1 BB.out, cell_keepJ k2 BB.out, cell_keepJ k3 BB.out⟩ ?rest2
      case hi2 => simp only [List.getElem?_toArray, List.getElem?_cons_succ, List.getElem?_cons_zero]; rfl
      case hq2 => exact fun _ _ _ h => h
      case hy2 => (refine Or.inl ⟨by rfl, ?_⟩; intro w hSw; (try dsimp only at hSw); go_simp; (try with_reducible rfl))
      simp only [Act.put, List.setIfInBounds_toArray, List.set_cons_zero, List.set_cons_succ]
      refine wpAnyZ_take (i := 2) (oi := ?o3) (v := ?v3) ?hi3 (by kernel_rfl) (by kernel_rfl) (by kernel_rfl) (by kernel_rfl) ?hq3 ?hy3 ⟨cell_keepJ k0 BB.out, cell_keepJ k1 BB.out, cell_keepJ k2 BB.out, cell_keepJ k3 BB.out⟩ ?rest3
      case hi3 => simp only [List.getElem?_toArray, List.getElem?_cons_succ, List.getElem?_cons_zero]; rfl
      case hq3 => exact fun _ _ _ h => h
      case hy3 => (refine Or.inl ⟨by rfl, ?_⟩; intro w hSw; (try dsimp only at hSw); go_simp; (try with_reducible rfl))
      simp only [Act.put, List.setIfInBounds_toArray, List.set_cons_zero, List.set_cons_succ]
      refine wpAnyZ_take (i := 3) (oi := ?o4) (v := undef) ?hi4 (by kernel_rfl) (by kernel_rfl) (by kernel_rfl) (by kernel_rfl) ?hq4 ?hy4 ⟨cell_keepJ k0 BB.out, cell_keepJ k1 BB.out, cell_keepJ k2 BB.out, cell_keepJ k3 BB.out⟩ ?rest4
      case hi4 => simp only [List.getElem?_toArray, List.getElem?_cons_succ, List.getElem?_cons_zero]; rfl
      case hq4 => exact fun _ _ _ h => h
      case hy4 => exact Or.inr ⟨by rfl, rfl⟩
      simp only [Act.put, List.setIfInBounds_toArray, List.set_cons_zero, List.set_cons_succ]
      refine wpAnyZ_take (i := 4) (oi := ?o5) (v := undef) ?hi5 (by kernel_rfl) (by kernel_rfl) (by kernel_rfl) (by kernel_rfl) ?hq5 ?hy5 ⟨cell_keepJ k0 BB.out, cell_keepJ k1 BB.out, cell_keepJ k2 BB.out, cell_keepJ k3 BB.out⟩ ?rest5
      case hi5 => simp only [List.getElem?_toArray, List.getElem?_cons_succ, List.getElem?_cons_zero]; rfl
      case hq5 => exact fun _ _ _ h => h
      case hy5 => exact Or.inr ⟨by rfl, rfl⟩
      simp only [Act.put, List.setIfInBounds_toArray, List.set_cons_zero, List.set_cons_succ]
      refine wpAnyZ_take (i := 5) (oi := ?o6) (v := undef) ?hi6 (by kernel_rfl) (by kernel_rfl) (by kernel_rfl) (by kernel_rfl) ?hq6 ?hy6 ⟨cell_keepJ k0 BB.out, cell_keepJ k1 BB.out, cell_keepJ k2 BB.out, cell_keepJ k3 BB.out⟩ ?rest6
      case hi6 => simp only [List.getElem?_toArray, List.getElem?_cons_succ, List.getElem?_cons_zero]; rfl
      case hq6 => exact fun _ _ _ h => h
      case hy6 => exact Or.inr ⟨by rfl, rfl⟩
      simp only [Act.put, List.setIfInBounds_toArray, List.set_cons_zero, List.set_cons_succ]
      refine wpAnyZ_take (i := 6) (oi := ?o7) (v := undef) ?hi7 (by kernel_rfl) (by kernel_rfl) (by kernel_rfl) (by kernel_rfl) ?hq7 ?hy7 ⟨cell_keepJ k0 BB.out, cell_keepJ k1 BB.out, cell_keepJ k2 BB.out, cell_keepJ k3 BB.out⟩ ?rest7
      case hi7 => simp only [List.getElem?_toArray, List.getElem?_cons_succ, List.getElem?_cons_zero]; rfl
      case hq7 => exact fun _ _ _ h => h
      case hy7 => exact Or.inr ⟨by rfl, rfl⟩
      simp only [Act.put, List.setIfInBounds_toArray, List.set_cons_zero, List.set_cons_succ]
      refine wpAnyZ_take (i := 7) (oi := ?o8) (v := undef) ?hi8 (by kernel_rfl) (by kernel_rfl) (by kernel_rfl) (by kernel_rfl) ?hq8 ?hy8 ⟨cell_keepJ k0 BB.out, cell_keepJ k1 BB.out, cell_keepJ k2 BB.out, cell_keepJ k3 BB.out⟩ ?rest8
      case hi8 => simp only [List.getElem?_toArray, List.getElem?_cons_succ, List.getElem?_cons_zero]; rfl
      case hq8 => exact fun _ _ _ h => h
      case hy8 => exact Or.inr ⟨by rfl, rfl⟩
      simp only [Act.put, List.setIfInBounds_toArray, List.set_cons_zero, List.set_cons_succ]
      refine wpAnyZ_take (i := 8) (oi := ?o9) (v := undef) ?hi9 (by kernel_rfl) (by kernel_rfl) (by kernel_rfl) (by kernel_rfl) ?hq9 ?hy9 ⟨cell_keepJ k0 BB.out, cell_keepJ k1 BB.out, cell_keepJ k2 BB.out, cell_keepJ k3 BB.out⟩ ?rest9
      case hi9 => simp only [List.getElem?_toArray, List.getElem?_cons_succ, List.getElem?_cons_zero]; rfl
      case hq9 => exact fun _ _ _ h => h
      case hy9 => exact Or.inr ⟨by rfl, rfl⟩
      simp only [Act.put, List.setIfInBounds_toArray, List.set_cons_zero, List.set_cons_succ]
      refine wpAnyZ_take (i := 9) (oi := ?o10) (v := undef) ?hi10 (by kernel_rfl) (by kernel_rfl) (by kernel_rfl) (by kernel_rfl) ?hq10 ?hy10 ⟨cell_keepJ k0 BB.out, cell_keepJ k1 BB.out, cell_keepJ k2 BB.out, cell_keepJ k3 BB.out⟩ ?rest10
      case hi10 => simp only [List.getElem?_toArray, List.getElem?_cons_succ, List.getElem?_cons_zero]; rfl
      case hq10 => exact fun _ _ _ h => h
      case hy10 => exact Or.inr ⟨by rfl, rfl⟩
      simp only [Act.put, List.setIfInBounds_toArray, List.set_cons_zero, List.set_cons_succ]
      refine wpAnyZ_take (i := 10) (oi := ?o11) (v := ?v11) ?hi11 (by kernel_rfl) (by kernel_rfl) (by kernel_rfl) (by kernel_rfl) ?hq11 ?hy11 ⟨cell_keepJ k0 BB.out, cell_keepJ k1 BB.out, cell_keepJ k2 BB.out, cell_keepJ k3 BB.out⟩ ?rest11
      case hi11 => simp only [List.getElem?_toArray, List.getElem?_cons_succ, List.getElem?_cons_zero]; rfl
      case hq11 => exact fun _ _ _ h => h
      case hy11 => (refine Or.inl ⟨by rfl, ?_⟩; intro w hSw; (try dsimp only at hSw); go_simp; (try with_reducible rfl))
      simp only [Act.put, List.setIfInBounds_toArray, List.set_cons_zero, List.set_cons_succ]
      refine wpAnyZ_take (i := 11) (oi := ?o12) (v := ?v12) ?hi12 (by kernel_rfl) (by kernel_rfl) (by kernel_rfl) (by kernel_rfl) ?hq12 ?hy12 ⟨cell_keepJ k0 BB.out, cell_keepJ k1 BB.out, cell_keepJ k2 BB.out, cell_keepJ k3 BB.out⟩ ?rest12
      case hi12 => simp only [List.getElem?_toArray, List.getElem?_cons_succ, List.getElem?_cons_zero]; rfl
      case hq12 => exact fun _ _ _ h => h
      case hy12 => (refine Or.inl ⟨by rfl, ?_⟩; intro w hSw; (try dsimp only at hSw); go_simp; (try with_reducible rfl))
      simp only [Act.put, List.setIfInBounds_toArray, List.set_cons_zero, List.set_cons_succ]
      refine wpAnyZ_take (i := 13) (oi := ?o13) (v := ?v13) ?hi13 (by kernel_rfl) (by kernel_rfl) (by kernel_rfl) (by kernel_rfl) ?hq13 ?hy13 ⟨cell_keepJ k0 BB.out, cell_keepJ k1 BB.out, cell_keepJ k2 BB.out, cell_keepJ k3 BB.out⟩ ?rest13
      case hi13 => simp only [List.getElem?_toArray, List.getElem?_cons_succ, List.getElem?_cons_zero]; rfl
      case hq13 => exact fun _ _ _ h => h
      case hy13 => (refine Or.inl ⟨by rfl, ?_⟩; intro w hSw; (try dsimp only at hSw); go_simp; (try with_reducible rfl))
      simp only [Act.put, List.setIfInBounds_toArray, List.set_cons_zero, List.set_cons_succ]
      refine wpAnyZ_take (i := 15) (oi := ?o14) (v := ?v14) ?hi14 (by kernel_rfl) (by kernel_rfl) (by kernel_rfl) (by kernel_rfl) ?hq14 ?hy14 ⟨cell_keepJ k0 BB.out, cell_keepJ k1 BB.out, cell_keepJ k2 BB.out, cell_keepJ k3 BB.out⟩ ?rest14
      case hi14 => simp only [List.getElem?_toArray, List.getElem?_cons_succ, List.getElem?_cons_zero]; rfl
      case hq14 => exact fun _ _ _ h => h
      case hy14 => (refine Or.inl ⟨by rfl, ?_⟩; intro w hSw; (try dsimp only at hSw); go_simp; (try with_reducible rfl))
      simp only [Act.put, List.setIfInBounds_toArray, List.set_cons_zero, List.set_cons_succ]
      refine wpAnyZ_take (i := 16) (oi := ?o15) (v := ?v15) ?hi15 (by kernel_rfl) (by kernel_rfl) (by kernel_rfl) (by kernel_rfl) ?hq15 ?hy15 ⟨cell_keepJ k0 BB.out, cell_keepJ k1 BB.out, cell_keepJ k2 BB.out, cell_keepJ k3 BB.out⟩ ?rest15
      case hi15 => simp only [List.getElem?_toArray, List.getElem?_cons_succ, List.getElem?_cons_zero]; rfl
      case hq15 => exact fun _ _ _ h => h
      case hy15 => (refine Or.inl ⟨by rfl, ?_⟩; intro w hSw; (try dsimp only at hSw); go_simp; (try with_reducible rfl))
      simp only [Act.put, List.setIfInBounds_toArray, List.set_cons_zero, List.set_cons_succ]
      refine wpAnyZ_take (i := 19) (oi := ?o16) (v := ?v16) ?hi16 (by kernel_rfl) (by kernel_rfl) (by kernel_rfl) (by kernel_rfl) ?hq16 ?hy16 ⟨cell_keepJ k0 BB.out, cell_keepJ k1 BB.out, cell_keepJ k2 BB.out, cell_keepJ k3 BB.out⟩ ?rest16
      case hi16 => simp only [List.getElem?_toArray, List.getElem?_cons_succ, List.getElem?_cons_zero]; rfl
      case hq16 => exact fun _ _ _ h => h
      case hy16 => (refine Or.inl ⟨by rfl, ?_⟩; intro w hSw; (try dsimp only at hSw); go_simp; (try with_reducible rfl))
      simp only [Act.put, List.setIfInBounds_toArray, List.set_cons_zero, List.set_cons_succ]
      refine wpAnyZ_ready (rs := [12, 17]) (by kernel_rfl) (by simp) ?_
      refine AllZ.cons (i := 12) (o := ?o17) ?hi17 (fun K hK => ?ra17) ?mr17
      case hi17 => simp only [List.getElem?_toArray, List.getElem?_cons_succ, List.getElem?_cons_zero]; rfl
      case ra17 =>
        go_simp
        have BBn := b_alloc BB.out (.cells #[] 33)
        have hzn : u0.heap.size < (u0.alloc (.cells #[] 33)).heap.size := by simp
        have hzm := Nat.le_of_lt hzn
        have hbz := BB.out.size
        have OBn := Lib.hid (World.ownsRow_lit (e := 33) (size := 4) (base := w4.heap.size) u0 #[] 0 BB.out.size (by simp [maxLen]) (by simp))
        refine hK.out _ _ (.inr ⟨cell_keepJ k0 BBn, cell_keepJ k1 BBn, cell_keepJ k2 BBn, cell_keepJ k3 BBn⟩) ?_
        clear hK K
        (try simp only [Act.put, List.setIfInBounds_toArray, List.set_cons_zero, List.set_cons_succ])
        have BBm := Lib.hid BBn
        clear BBn
        clear BB
        generalize hvv : u0.alloc (.cells #[] 33) = u1 at *
        clear hvv
        obtain ⟨p1, hpp1⟩ : ∃ x, x = u0.heap.size := ⟨_, rfl⟩
        rw [← hpp1] at hzn OBn ⊢
        clear hpp1
        have OB := OBn
        clear OBn
        have BB := BBm
        clear BBm
        refine wpAnyZ_ready (rs := [14, 17]) (by kernel_rfl) (by simp) ?_
        refine AllZ.cons (i := 14) (o := ?o18) ?hi18 (fun K hK => ?ra18) ?mr18
        case hi18 => simp only [List.getElem?_toArray, List.getElem?_cons_succ, List.getElem?_cons_zero]; rfl
        case ra18 =>
          refine step_append_rg _ (by rfl) (.tmp 36) (.tmp 37) 25 (by rfl) w4.heap.size 33 i0 (.agg #[.int .i64 0, .bool false, .int .i64 0, .int .i64 0]) 4 32 Try.underlying25 hi0 hz0 hz1 hz2 rfl (by decide) _ 0 [] OB.out ?_ A1 l.length c1 (recC l) ((own_read OX.out).below BB.out) (by simp [Act.eval, Act.put] <;> fail) (by rw [recC_length]; omega) (recC_one l) (by simp only [maxLen]; omega) (by omega) BB.out.size ?_
          simp [Act.eval, Act.put]
          intro v5 u2 o5 g5 d5
          rw [Nat.zero_add] at o5
          obtain ⟨A5, c5, rfl⟩ := own_slice o5
          have BBn := Below.grown BB.out g5 BB.out.size (fun k hk => (OB.out.lt k hk).1)
          have hzn := g5.size
          have hbz := BB.out.size
          refine hK.out _ _ (.inr ⟨cell_keepJ k0 BBn, cell_keepJ k1 BBn, cell_keepJ k2 BBn, cell_keepJ k3 BBn⟩) ?_
          clear hK K
          (try simp only [Act.put, List.setIfInBounds_toArray, List.set_cons_zero, List.set_cons_succ])
          have OA := Lib.hid o5
          clear OB o5 g5 d5 BB
          have BB := Lib.hid BBn
          clear BBn
          refine wpAnyZ_ready (rs := [17]) (by kernel_rfl) (by simp) ?_
          refine AllZ.cons (i := 17) (o := ?o19) ?hi19 (fun K hK => ?ra19) ?mr19
          case hi19 => simp only [List.getElem?_toArray, List.getElem?_cons_succ, List.getElem?_cons_zero]; rfl
          case ra19 =>
            go_simp
            have BBn := b_alloc BB.out (.cells #[.int .i64 9, .bool true, .int .i64 0, .int .i64 0, .int .i64 9, .bool true, .int .i64 0, .int .i64 0] 33)
            have hzn : u2.heap.size < (u2.alloc (.cells #[.int .i64 9, .bool true, .int .i64 0, .int .i64 0, .int .i64 9, .bool true, .int .i64 0, .int .i64 0] 33)).heap.size := by simp
            have hzm := Nat.le_of_lt hzn
            have hbz := BB.out.size
            have OAn := Lib.hid (OA.out.alloc (.cells #[.int .i64 9, .bool true, .int .i64 0, .int .i64 0, .int .i64 9, .bool true, .int .i64 0, .int .i64 0] 33))
            have RBn := Lib.hid (readc_nwj (w := u2) (T := 33) (cs := #[.int .i64 9, .bool true, .int .i64 0, .int .i64 0, .int .i64 9, .bool true, .int .i64 0, .int .i64 0]) (xs := recC [(9, true, 0, 0), (9, true, 0, 0)]) rfl)
            refine hK.out _ _ (.inr ⟨cell_keepJ k0 BBn, cell_keepJ k1 BBn, cell_keepJ k2 BBn, cell_keepJ k3 BBn⟩) ?_
            clear hK K
            (try simp only [Act.put, List.setIfInBounds_toArray, List.set_cons_zero, List.set_cons_succ])
            have BBm := Lib.hid BBn
            clear BBn
            clear OA
            clear BB
            generalize hvv : u2.alloc (.cells #[.int .i64 9, .bool true, .int .i64 0, .int .i64 0, .int .i64 9, .bool true, .int .i64 0, .int .i64 0] 33) = u3 at *
            clear hvv
            obtain ⟨p2, hpp2⟩ : ∃ x, x = u2.heap.size := ⟨_, rfl⟩
            rw [← hpp2] at hzn RBn ⊢
            clear hpp2
            have OA := OAn
            have RB := RBn
            clear OAn RBn
            have BB := BBm
            clear BBm
            refine wpAnyZ_ready (rs := [18]) (by kernel_rfl) (by simp) ?_
            refine AllZ.cons (i := 18) (o := ?o20) ?hi20 (fun K hK => ?ra20) ?mr20
            case hi20 => simp only [List.getElem?_toArray, List.getElem?_cons_succ, List.getElem?_cons_zero]; rfl
            case ra20 =>
              refine step_append_rg _ (by rfl) (.tmp 38) (.tmp 41) 25 (by rfl) w4.heap.size 33 i0 (.agg #[.int .i64 0, .bool false, .int .i64 0, .int .i64 0]) 4 32 Try.underlying25 hi0 hz0 hz1 hz2 rfl (by decide) _ l.length (recC l) OA.out ?_ (some ⟨p2, 0, none⟩) 2 2 (recC [(9, true, 0, 0), (9, true, 0, 0)]) RB.out (by simp [Act.eval, Act.put] <;> fail) rfl (recC_one _) (by simp only [maxLen]; omega) (by omega) BB.out.size ?_
              simp [Act.eval, Act.put]
              intro v6 u4 o6 g6 d6
              obtain ⟨A6, c6, rfl⟩ := own_slice o6
              have BBn := Below.grown BB.out g6 BB.out.size (fun k hk => (OA.out.lt k hk).1)
              have hzn := g6.size
              have hbz := BB.out.size
              refine hK.out _ _ (.inr ⟨cell_keepJ k0 BBn, cell_keepJ k1 BBn, cell_keepJ k2 BBn, cell_keepJ k3 BBn⟩) ?_
              clear hK K
              (try simp only [Act.put, List.setIfInBounds_toArray, List.set_cons_zero, List.set_cons_succ])
              have O6 := Lib.hid o6
              clear OA RB o6 g6 d6 BB
              have BB := Lib.hid BBn
              clear BBn
              refine wpAnyZ_one (i := 20) (o := ?o21) (by kernel_rfl) ?hi21 (fun K hK => ?rest21)
              case hi21 => simp only [List.getElem?_toArray, List.getElem?_cons_succ, List.getElem?_cons_zero]; rfl
              have LL : (l ++ [(9, true, 0, 0), (9, true, 0, 0)]).length = l.length + 2 := by simp
              have O7 := Lib.hid (show u4.ownsRow w4.heap.size 33 4 (.slice A6 (l ++ [(9, true, 0, 0), (9, true, 0, 0)]).length c6) (l ++ [(9, true, 0, 0), (9, true, 0, 0)]).length (recC (l ++ [(9, true, 0, 0), (9, true, 0, 0)])) by rw [recC_append, LL]; exact O6.out)
              have hj := implJr_any A6 c6 (l ++ [(9, true, 0, 0), (9, true, 0, 0)]) size u4 (RecsIn.of (own_read O7.out)) (by rw [LL]; omega) (own_cap O7.out).1 (own_cap O7.out).2
              rw [LL] at hj
              have HJ := Lib.hid hj
              clear hj LL O7 O6
              go_simp
              go_at_call 15; refine HJ.out.mono ?_; rintro e w7 ⟨rfl, b7⟩; rw [jr_twice]; (try dsimp only)
              have BBn := BB.out.trans (b7.mono BB.out.size)
              refine hK.out _ _ (.inr ⟨cell_keepJ k0 BBn, cell_keepJ k1 BBn, cell_keepJ k2 BBn, cell_keepJ k3 BBn⟩) ?_
              clear hK K
              (try simp only [Act.put, List.setIfInBounds_toArray, List.set_cons_zero, List.set_cons_succ])
              clear BB HJ b7
              have BB := Lib.hid BBn
              clear BBn
              refine wpAnyZ_take (i := 21) (oi := ?o22) (v := ?v22) ?hi22 (by kernel_rfl) (by kernel_rfl) (by kernel_rfl) (by kernel_rfl) ?hq22 ?hy22 ⟨cell_keepJ k0 BB.out, cell_keepJ k1 BB.out, cell_keepJ k2 BB.out, cell_keepJ k3 BB.out⟩ ?rest22
              case hi22 => simp only [List.getElem?_toArray, List.getElem?_cons_succ, List.getElem?_cons_zero]; rfl
              case hq22 => exact fun _ _ _ h => h
              case hy22 => (refine Or.inl ⟨by rfl, ?_⟩; intro w hSw; (try dsimp only at hSw); go_simp; (try with_reducible rfl))
              simp only [Act.put, List.setIfInBounds_toArray, List.set_cons_zero, List.set_cons_succ]
              refine wpAnyZ_take (i := 22) (oi := ?o23) (v := ?v23) ?hi23 (by kernel_rfl) (by kernel_rfl) (by kernel_rfl) (by kernel_rfl) ?hq23 ?hy23 ⟨cell_keepJ k0 BB.out, cell_keepJ k1 BB.out, cell_keepJ k2 BB.out, cell_keepJ k3 BB.out⟩ ?rest23
              case hi23 => simp only [List.getElem?_toArray, List.getElem?_cons_succ, List.getElem?_cons_zero]; rfl
              case hq23 => exact fun _ _ _ h => h
              case hy23 => (refine Or.inl ⟨by rfl, ?_⟩; intro w hSw; (try dsimp only at hSw); go_simp; (try with_reducible rfl))
              simp only [Act.put, List.setIfInBounds_toArray, List.set_cons_zero, List.set_cons_succ]
              refine wpAnyZ_take (i := 23) (oi := ?o24) (v := ?v24) ?hi24 (by kernel_rfl) (by kernel_rfl) (by kernel_rfl) (by kernel_rfl) ?hq24 ?hy24 ⟨cell_keepJ k0 BB.out, cell_keepJ k1 BB.out, cell_keepJ k2 BB.out, cell_keepJ k3 BB.out⟩ ?rest24
              case hi24 => simp only [List.getElem?_toArray, List.getElem?_cons_succ, List.getElem?_cons_zero]; rfl
              case hq24 => exact fun _ _ _ h => h
              case hy24 => (refine Or.inl ⟨by rfl, ?_⟩; intro w hSw; (try dsimp only at hSw); go_simp; (try with_reducible rfl))
              simp only [Act.put, List.setIfInBounds_toArray, List.set_cons_zero, List.set_cons_succ]
              refine wpAnyZ_one (i := 24) (o := ?o25) (by kernel_rfl) ?hi25 (fun K hK => ?rest25)
              case hi25 => simp only [List.getElem?_toArray, List.getElem?_cons_succ, List.getElem?_cons_zero]; rfl
              go_simp
              go_at_call 18; refine (alive_any _).mono ?_; rintro e w8 ⟨rfl, b8⟩; (try dsimp only)
              have BBn := BB.out.trans (b8.mono BB.out.size)
              refine hK.out _ _ (.inr ⟨cell_keepJ k0 BBn, cell_keepJ k1 BBn, cell_keepJ k2 BBn, cell_keepJ k3 BBn⟩) ?_
              clear hK K
              (try simp only [Act.put, List.setIfInBounds_toArray, List.set_cons_zero, List.set_cons_succ])
              clear BB b8
              have BB := Lib.hid BBn
              clear BBn
              refine wpAnyZ_take (i := 25) (oi := ?o26) (v := ?v26) ?hi26 (by kernel_rfl) (by kernel_rfl) (by kernel_rfl) (by kernel_rfl) ?hq26 ?hy26 ⟨cell_keepJ k0 BB.out, cell_keepJ k1 BB.out, cell_keepJ k2 BB.out, cell_keepJ k3 BB.out⟩ ?rest26
              case hi26 => simp only [List.getElem?_toArray, List.getElem?_cons_succ, List.getElem?_cons_zero]; rfl
              case hq26 => exact fun _ _ _ h => h
              case hy26 => (refine Or.inl ⟨by rfl, ?_⟩; intro w hSw; (try dsimp only at hSw); go_simp; (try with_reducible rfl))
              simp only [Act.put, List.setIfInBounds_toArray, List.set_cons_zero, List.set_cons_succ]
              refine wpAnyZ_one (i := 26) (o := ?o27) (by kernel_rfl) ?hi27 (fun K hK => ?rest27)
              case hi27 => simp only [List.getElem?_toArray, List.getElem?_cons_succ, List.getElem?_cons_zero]; rfl
              go_simp
              refine hK.out _ _ (.inr ?hs27) ?more27
              case hs27 => exact ⟨cell_keepJ k0 BB.out, cell_keepJ k1 BB.out, cell_keepJ k2 BB.out, cell_keepJ k3 BB.out⟩
              clear hK K
              (try simp only [Act.put, List.setIfInBounds_toArray, List.set_cons_zero, List.set_cons_succ])
              refine wpAnyZ_done (by kernel_rfl) ?_ _
              have hfin := Lib.hid (CX.out.trans (BB.out.mono CX.out.size))
              clear BB
              go_wp2
              go_ret
              exact ⟨rfl, hfin.out⟩
            exact AllZ.nil
          exact AllZ.nil
        refine AllZ.cons (i := 17) (o := ?o28) ?hi28 (fun K hK => ?ra28) ?mr28
        case hi28 => simp only [List.getElem?_toArray, List.getElem?_cons_succ, List.getElem?_cons_zero]; rfl
        case ra28 =>
          go_simp
          have BBn := b_alloc BB.out (.cells #[.int .i64 9, .bool true, .int .i64 0, .int .i64 0, .int .i64 9, .bool true, .int .i64 0, .int .i64 0] 33)
          have hzn : u1.heap.size < (u1.alloc (.cells #[.int .i64 9, .bool true, .int .i64 0, .int .i64 0, .int .i64 9, .bool true, .int .i64 0, .int .i64 0] 33)).heap.size := by simp
          have hzm := Nat.le_of_lt hzn
          have hbz := BB.out.size
          have OBn := Lib.hid (OB.out.alloc (.cells #[.int .i64 9, .bool true, .int .i64 0, .int .i64 0, .int .i64 9, .bool true, .int .i64 0, .int .i64 0] 33))
          have RBn := Lib.hid (readc_nwj (w := u1) (T := 33) (cs := #[.int .i64 9, .bool true, .int .i64 0, .int .i64 0, .int .i64 9, .bool true, .int .i64 0, .int .i64 0]) (xs := recC [(9, true, 0, 0), (9, true, 0, 0)]) rfl)
          have hpp : u1.heap.size ≠ p1 := by omega
          refine hK.out _ _ (.inr ⟨cell_keepJ k0 BBn, cell_keepJ k1 BBn, cell_keepJ k2 BBn, cell_keepJ k3 BBn⟩) ?_
          clear hK K
          (try simp only [Act.put, List.setIfInBounds_toArray, List.set_cons_zero, List.set_cons_succ])
          have BBm := Lib.hid BBn
          clear BBn
          clear OB
          clear BB
          generalize hvv : u1.alloc (.cells #[.int .i64 9, .bool true, .int .i64 0, .int .i64 0, .int .i64 9, .bool true, .int .i64 0, .int .i64 0] 33) = u2 at *
          clear hvv
          obtain ⟨p2, hpp2⟩ : ∃ x, x = u1.heap.size := ⟨_, rfl⟩
          rw [← hpp2] at hzn RBn hpp ⊢
          clear hpp2
          have OB := OBn
          have RB := RBn
          clear OBn RBn
          have BB := BBm
          clear BBm
          refine wpAnyZ_ready (rs := [14]) (by kernel_rfl) (by simp) ?_
          refine AllZ.cons (i := 14) (o := ?o29) ?hi29 (fun K hK => ?ra29) ?mr29
          case hi29 => simp only [List.getElem?_toArray, List.getElem?_cons_succ, List.getElem?_cons_zero]; rfl
          case ra29 =>
            refine step_append_rg _ (by rfl) (.tmp 36) (.tmp 37) 25 (by rfl) w4.heap.size 33 i0 (.agg #[.int .i64 0, .bool false, .int .i64 0, .int .i64 0]) 4 32 Try.underlying25 hi0 hz0 hz1 hz2 rfl (by decide) _ 0 [] OB.out ?_ A1 l.length c1 (recC l) ((own_read OX.out).below BB.out) (by simp [Act.eval, Act.put] <;> fail) (by rw [recC_length]; omega) (recC_one l) (by simp only [maxLen]; omega) (by omega) BB.out.size ?_
            simp [Act.eval, Act.put]
            intro v5 u3 o5 g5 d5
            rw [Nat.zero_add] at o5
            obtain ⟨A5, c5, rfl⟩ := own_slice o5
            have BBn := Below.grown BB.out g5 BB.out.size (fun k hk => (OB.out.lt k hk).1)
            have hzn := g5.size
            have hbz := BB.out.size
            have RBn := Lib.hid (readc_grown RB.out g5 (by simp [Value.ownBlock]; omega))
            refine hK.out _ _ (.inr ⟨cell_keepJ k0 BBn, cell_keepJ k1 BBn, cell_keepJ k2 BBn, cell_keepJ k3 BBn⟩) ?_
            clear hK K
            (try simp only [Act.put, List.setIfInBounds_toArray, List.set_cons_zero, List.set_cons_succ])
            have OA := Lib.hid o5
            clear OB o5 g5 d5 BB
            clear RB
            have RB := RBn
            clear RBn
            have BB := Lib.hid BBn
            clear BBn
            refine wpAnyZ_ready (rs := [18]) (by kernel_rfl) (by simp) ?_
            refine AllZ.cons (i := 18) (o := ?o30) ?hi30 (fun K hK => ?ra30) ?mr30
            case hi30 => simp only [List.getElem?_toArray, List.getElem?_cons_succ, List.getElem?_cons_zero]; rfl
            case ra30 =>
              refine step_append_rg _ (by rfl) (.tmp 38) (.tmp 41) 25 (by rfl) w4.heap.size 33 i0 (.agg #[.int .i64 0, .bool false, .int .i64 0, .int .i64 0]) 4 32 Try.underlying25 hi0 hz0 hz1 hz2 rfl (by decide) _ l.length (recC l) OA.out ?_ (some ⟨p2, 0, none⟩) 2 2 (recC [(9, true, 0, 0), (9, true, 0, 0)]) RB.out (by simp [Act.eval, Act.put] <;> fail) rfl (recC_one _) (by simp only [maxLen]; omega) (by omega) BB.out.size ?_
              simp [Act.eval, Act.put]
              intro v6 u4 o6 g6 d6
              obtain ⟨A6, c6, rfl⟩ := own_slice o6
              have BBn := Below.grown BB.out g6 BB.out.size (fun k hk => (OA.out.lt k hk).1)
              have hzn := g6.size
              have hbz := BB.out.size
              refine hK.out _ _ (.inr ⟨cell_keepJ k0 BBn, cell_keepJ k1 BBn, cell_keepJ k2 BBn, cell_keepJ k3 BBn⟩) ?_
              clear hK K
              (try simp only [Act.put, List.setIfInBounds_toArray, List.set_cons_zero, List.set_cons_succ])
              have O6 := Lib.hid o6
              clear OA RB o6 g6 d6 BB
              have BB := Lib.hid BBn
              clear BBn
              refine wpAnyZ_one (i := 20) (o := ?o31) (by kernel_rfl) ?hi31 (fun K hK => ?rest31)
              case hi31 => simp only [List.getElem?_toArray, List.getElem?_cons_succ, List.getElem?_cons_zero]; rfl
              have LL : (l ++ [(9, true, 0, 0), (9, true, 0, 0)]).length = l.length + 2 := by simp
              have O7 := Lib.hid (show u4.ownsRow w4.heap.size 33 4 (.slice A6 (l ++ [(9, true, 0, 0), (9, true, 0, 0)]).length c6) (l ++ [(9, true, 0, 0), (9, true, 0, 0)]).length (recC (l ++ [(9, true, 0, 0), (9, true, 0, 0)])) by rw [recC_append, LL]; exact O6.out)
              have hj := implJr_any A6 c6 (l ++ [(9, true, 0, 0), (9, true, 0, 0)]) size u4 (RecsIn.of (own_read O7.out)) (by rw [LL]; omega) (own_cap O7.out).1 (own_cap O7.out).2
              rw [LL] at hj
              have HJ := Lib.hid hj
              clear hj LL O7 O6
              go_simp
              go_at_call 15; refine HJ.out.mono ?_; rintro e w7 ⟨rfl, b7⟩; rw [jr_twice]; (try dsimp only)
              have BBn := BB.out.trans (b7.mono BB.out.size)
              refine hK.out _ _ (.inr ⟨cell_keepJ k0 BBn, cell_keepJ k1 BBn, cell_keepJ k2 BBn, cell_keepJ k3 BBn⟩) ?_
              clear hK K
              (try simp only [Act.put, List.setIfInBounds_toArray, List.set_cons_zero, List.set_cons_succ])
              clear BB HJ b7
              have BB := Lib.hid BBn
              clear BBn
              refine wpAnyZ_take (i := 21) (oi := ?o32) (v := ?v32) ?hi32 (by kernel_rfl) (by kernel_rfl) (by kernel_rfl) (by kernel_rfl) ?hq32 ?hy32 ⟨cell_keepJ k0 BB.out, cell_keepJ k1 BB.out, cell_keepJ k2 BB.out, cell_keepJ k3 BB.out⟩ ?rest32
              case hi32 => simp only [List.getElem?_toArray, List.getElem?_cons_succ, List.getElem?_cons_zero]; rfl
              case hq32 => exact fun _ _ _ h => h
              case hy32 => (refine Or.inl ⟨by rfl, ?_⟩; intro w hSw; (try dsimp only at hSw); go_simp; (try with_reducible rfl))
              simp only [Act.put, List.setIfInBounds_toArray, List.set_cons_zero, List.set_cons_succ]
              refine wpAnyZ_take (i := 22) (oi := ?o33) (v := ?v33) ?hi33 (by kernel_rfl) (by kernel_rfl) (by kernel_rfl) (by kernel_rfl) ?hq33 ?hy33 ⟨cell_keepJ k0 BB.out, cell_keepJ k1 BB.out, cell_keepJ k2 BB.out, cell_keepJ k3 BB.out⟩ ?rest33
              case hi33 => simp only [List.getElem?_toArray, List.getElem?_cons_succ, List.getElem?_cons_zero]; rfl
              case hq33 => exact fun _ _ _ h => h
              case hy33 => (refine Or.inl ⟨by rfl, ?_⟩; intro w hSw; (try dsimp only at hSw); go_simp; (try with_reducible rfl))
              simp only [Act.put, List.setIfInBounds_toArray, List.set_cons_zero, List.set_cons_succ]
              refine wpAnyZ_take (i := 23) (oi := ?o34) (v := ?v34) ?hi34 (by kernel_rfl) (by kernel_rfl) (by kernel_rfl) (by kernel_rfl) ?hq34 ?hy34 ⟨cell_keepJ k0 BB.out, cell_keepJ k1 BB.out, cell_keepJ k2 BB.out, cell_keepJ k3 BB.out⟩ ?rest34
              case hi34 => simp only [List.getElem?_toArray, List.getElem?_cons_succ, List.getElem?_cons_zero]; rfl
              case hq34 => exact fun _ _ _ h => h
              case hy34 => (refine Or.inl ⟨by rfl, ?_⟩; intro w hSw; (try dsimp only at hSw); go_simp; (try with_reducible rfl))
              simp only [Act.put, List.setIfInBounds_toArray, List.set_cons_zero, List.set_cons_succ]
              refine wpAnyZ_one (i := 24) (o := ?o35) (by kernel_rfl) ?hi35 (fun K hK => ?rest35)
              case hi35 => simp only [List.getElem?_toArray, List.getElem?_cons_succ, List.getElem?_cons_zero]; rfl
              go_simp
              go_at_call 18; refine (alive_any _).mono ?_; rintro e w8 ⟨rfl, b8⟩; (try dsimp only)
              have BBn := BB.out.trans (b8.mono BB.out.size)
              refine hK.out _ _ (.inr ⟨cell_keepJ k0 BBn, cell_keepJ k1 BBn, cell_keepJ k2 BBn, cell_keepJ k3 BBn⟩) ?_
              clear hK K
              (try simp only [Act.put, List.setIfInBounds_toArray, List.set_cons_zero, List.set_cons_succ])
              clear BB b8
              have BB := Lib.hid BBn
              clear BBn
              refine wpAnyZ_take (i := 25) (oi := ?o36) (v := ?v36) ?hi36 (by kernel_rfl) (by kernel_rfl) (by kernel_rfl) (by kernel_rfl) ?hq36 ?hy36 ⟨cell_keepJ k0 BB.out, cell_keepJ k1 BB.out, cell_keepJ k2 BB.out, cell_keepJ k3 BB.out⟩ ?rest36
              case hi36 => simp only [List.getElem?_toArray, List.getElem?_cons_succ, List.getElem?_cons_zero]; rfl
              case hq36 => exact fun _ _ _ h => h
              case hy36 => (refine Or.inl ⟨by rfl, ?_⟩; intro w hSw; (try dsimp only at hSw); go_simp; (try with_reducible rfl))
              simp only [Act.put, List.setIfInBounds_toArray, List.set_cons_zero, List.set_cons_succ]
              refine wpAnyZ_one (i := 26) (o := ?o37) (by kernel_rfl) ?hi37 (fun K hK => ?rest37)
              case hi37 => simp only [List.getElem?_toArray, List.getElem?_cons_succ, List.getElem?_cons_zero]; rfl
              go_simp
              refine hK.out _ _ (.inr ?hs37) ?more37
              case hs37 => exact ⟨cell_keepJ k0 BB.out, cell_keepJ k1 BB.out, cell_keepJ k2 BB.out, cell_keepJ k3 BB.out⟩
              clear hK K
              (try simp only [Act.put, List.setIfInBounds_toArray, List.set_cons_zero, List.set_cons_succ])
              refine wpAnyZ_done (by kernel_rfl) ?_ _
              have hfin := Lib.hid (CX.out.trans (BB.out.mono CX.out.size))
              clear BB
              go_wp2
              go_ret
              exact ⟨rfl, hfin.out⟩
            exact AllZ.nil
          exact AllZ.nil
        exact AllZ.nil
      refine AllZ.cons (i := 17) (o := ?o38) ?hi38 (fun K hK => ?ra38) ?mr38
      case hi38 => simp only [List.getElem?_toArray, List.getElem?_cons_succ, List.getElem?_cons_zero]; rfl
      case ra38 =>
        go_simp
        have BBn := b_alloc BB.out (.cells #[.int .i64 9, .bool true, .int .i64 0, .int .i64 0, .int .i64 9, .bool true, .int .i64 0, .int .i64 0] 33)
        have hzn : u0.heap.size < (u0.alloc (.cells #[.int .i64 9, .bool true, .int .i64 0, .int .i64 0, .int .i64 9, .bool true, .int .i64 0, .int .i64 0] 33)).heap.size := by simp
        have hzm := Nat.le_of_lt hzn
        have hbz := BB.out.size
        have RBn := Lib.hid (readc_nwj (w := u0) (T := 33) (cs := #[.int .i64 9, .bool true, .int .i64 0, .int .i64 0, .int .i64 9, .bool true, .int .i64 0, .int .i64 0]) (xs := recC [(9, true, 0, 0), (9, true, 0, 0)]) rfl)
        refine hK.out _ _ (.inr ⟨cell_keepJ k0 BBn, cell_keepJ k1 BBn, cell_keepJ k2 BBn, cell_keepJ k3 BBn⟩) ?_
        clear hK K
        (try simp only [Act.put, List.setIfInBounds_toArray, List.set_cons_zero, List.set_cons_succ])
        have BBm := Lib.hid BBn
        clear BBn
        clear BB
        generalize hvv : u0.alloc (.cells #[.int .i64 9, .bool true, .int .i64 0, .int .i64 0, .int .i64 9, .bool true, .int .i64 0, .int .i64 0] 33) = u1 at *
        clear hvv
        obtain ⟨p2, hpp2⟩ : ∃ x, x = u0.heap.size := ⟨_, rfl⟩
        rw [← hpp2] at hzn RBn ⊢
        clear hpp2
        have RB := RBn
        clear RBn
        have BB := BBm
        clear BBm
        refine wpAnyZ_ready (rs := [12]) (by kernel_rfl) (by simp) ?_
        refine AllZ.cons (i := 12) (o := ?o39) ?hi39 (fun K hK => ?ra39) ?mr39
        case hi39 => simp only [List.getElem?_toArray, List.getElem?_cons_succ, List.getElem?_cons_zero]; rfl
        case ra39 =>
          go_simp
          have BBn := b_alloc BB.out (.cells #[] 33)
          have hzn : u1.heap.size < (u1.alloc (.cells #[] 33)).heap.size := by simp
          have hzm := Nat.le_of_lt hzn
          have hbz := BB.out.size
          have RBn := Lib.hid (RB.out.alloc (.cells #[] 33))
          have OBn := Lib.hid (World.ownsRow_lit (e := 33) (size := 4) (base := w4.heap.size) u1 #[] 0 BB.out.size (by simp [maxLen]) (by simp))
          have hpp : p2 ≠ u1.heap.size := by omega
          refine hK.out _ _ (.inr ⟨cell_keepJ k0 BBn, cell_keepJ k1 BBn, cell_keepJ k2 BBn, cell_keepJ k3 BBn⟩) ?_
          clear hK K
          (try simp only [Act.put, List.setIfInBounds_toArray, List.set_cons_zero, List.set_cons_succ])
          have BBm := Lib.hid BBn
          clear BBn
          clear RB
          clear BB
          generalize hvv : u1.alloc (.cells #[] 33) = u2 at *
          clear hvv
          obtain ⟨p1, hpp1⟩ : ∃ x, x = u1.heap.size := ⟨_, rfl⟩
          rw [← hpp1] at hzn OBn hpp ⊢
          clear hpp1
          have OB := OBn
          have RB := RBn
          clear OBn RBn
          have BB := BBm
          clear BBm
          refine wpAnyZ_ready (rs := [14]) (by kernel_rfl) (by simp) ?_
          refine AllZ.cons (i := 14) (o := ?o40) ?hi40 (fun K hK => ?ra40) ?mr40
          case hi40 => simp only [List.getElem?_toArray, List.getElem?_cons_succ, List.getElem?_cons_zero]; rfl
          case ra40 =>
            refine step_append_rg _ (by rfl) (.tmp 36) (.tmp 37) 25 (by rfl) w4.heap.size 33 i0 (.agg #[.int .i64 0, .bool false, .int .i64 0, .int .i64 0]) 4 32 Try.underlying25 hi0 hz0 hz1 hz2 rfl (by decide) _ 0 [] OB.out ?_ A1 l.length c1 (recC l) ((own_read OX.out).below BB.out) (by simp [Act.eval, Act.put] <;> fail) (by rw [recC_length]; omega) (recC_one l) (by simp only [maxLen]; omega) (by omega) BB.out.size ?_
            simp [Act.eval, Act.put]
            intro v5 u3 o5 g5 d5
            rw [Nat.zero_add] at o5
            obtain ⟨A5, c5, rfl⟩ := own_slice o5
            have BBn := Below.grown BB.out g5 BB.out.size (fun k hk => (OB.out.lt k hk).1)
            have hzn := g5.size
            have hbz := BB.out.size
            have RBn := Lib.hid (readc_grown RB.out g5 (by simp [Value.ownBlock]; omega))
            refine hK.out _ _ (.inr ⟨cell_keepJ k0 BBn, cell_keepJ k1 BBn, cell_keepJ k2 BBn, cell_keepJ k3 BBn⟩) ?_
            clear hK K
            (try simp only [Act.put, List.setIfInBounds_toArray, List.set_cons_zero, List.set_cons_succ])
            have OA := Lib.hid o5
            clear OB o5 g5 d5 BB
            clear RB
            have RB := RBn
            clear RBn
            have BB := Lib.hid BBn
            clear BBn
            refine wpAnyZ_ready (rs := [18]) (by kernel_rfl) (by simp) ?_
            refine AllZ.cons (i := 18) (o := ?o41) ?hi41 (fun K hK => ?ra41) ?mr41
            case hi41 => simp only [List.getElem?_toArray, List.getElem?_cons_succ, List.getElem?_cons_zero]; rfl
            case ra41 =>
              refine step_append_rg _ (by rfl) (.tmp 38) (.tmp 41) 25 (by rfl) w4.heap.size 33 i0 (.agg #[.int .i64 0, .bool false, .int .i64 0, .int .i64 0]) 4 32 Try.underlying25 hi0 hz0 hz1 hz2 rfl (by decide) _ l.length (recC l) OA.out ?_ (some ⟨p2, 0, none⟩) 2 2 (recC [(9, true, 0, 0), (9, true, 0, 0)]) RB.out (by simp [Act.eval, Act.put] <;> fail) rfl (recC_one _) (by simp only [maxLen]; omega) (by omega) BB.out.size ?_
              simp [Act.eval, Act.put]
              intro v6 u4 o6 g6 d6
              obtain ⟨A6, c6, rfl⟩ := own_slice o6
              have BBn := Below.grown BB.out g6 BB.out.size (fun k hk => (OA.out.lt k hk).1)
              have hzn := g6.size
              have hbz := BB.out.size
              refine hK.out _ _ (.inr ⟨cell_keepJ k0 BBn, cell_keepJ k1 BBn, cell_keepJ k2 BBn, cell_keepJ k3 BBn⟩) ?_
              clear hK K
              (try simp only [Act.put, List.setIfInBounds_toArray, List.set_cons_zero, List.set_cons_succ])
              have O6 := Lib.hid o6
              clear OA RB o6 g6 d6 BB
              have BB := Lib.hid BBn
              clear BBn
              refine wpAnyZ_one (i := 20) (o := ?o42) (by kernel_rfl) ?hi42 (fun K hK => ?rest42)
              case hi42 => simp only [List.getElem?_toArray, List.getElem?_cons_succ, List.getElem?_cons_zero]; rfl
              have LL : (l ++ [(9, true, 0, 0), (9, true, 0, 0)]).length = l.length + 2 := by simp
              have O7 := Lib.hid (show u4.ownsRow w4.heap.size 33 4 (.slice A6 (l ++ [(9, true, 0, 0), (9, true, 0, 0)]).length c6) (l ++ [(9, true, 0, 0), (9, true, 0, 0)]).length (recC (l ++ [(9, true, 0, 0), (9, true, 0, 0)])) by rw [recC_append, LL]; exact O6.out)
              have hj := implJr_any A6 c6 (l ++ [(9, true, 0, 0), (9, true, 0, 0)]) size u4 (RecsIn.of (own_read O7.out)) (by rw [LL]; omega) (own_cap O7.out).1 (own_cap O7.out).2
              rw [LL] at hj
              have HJ := Lib.hid hj
              clear hj LL O7 O6
              go_simp
              go_at_call 15; refine HJ.out.mono ?_; rintro e w7 ⟨rfl, b7⟩; rw [jr_twice]; (try dsimp only)
              have BBn := BB.out.trans (b7.mono BB.out.size)
              refine hK.out _ _ (.inr ⟨cell_keepJ k0 BBn, cell_keepJ k1 BBn, cell_keepJ k2 BBn, cell_keepJ k3 BBn⟩) ?_
              clear hK K
              (try simp only [Act.put, List.setIfInBounds_toArray, List.set_cons_zero, List.set_cons_succ])
              clear BB HJ b7
              have BB := Lib.hid BBn
              clear BBn
              refine wpAnyZ_take (i := 21) (oi := ?o43) (v := ?v43) ?hi43 (by kernel_rfl) (by kernel_rfl) (by kernel_rfl) (by kernel_rfl) ?hq43 ?hy43 ⟨cell_keepJ k0 BB.out, cell_keepJ k1 BB.out, cell_keepJ k2 BB.out, cell_keepJ k3 BB.out⟩ ?rest43
              case hi43 => simp only [List.getElem?_toArray, List.getElem?_cons_succ, List.getElem?_cons_zero]; rfl
              case hq43 => exact fun _ _ _ h => h
              case hy43 => (refine Or.inl ⟨by rfl, ?_⟩; intro w hSw; (try dsimp only at hSw); go_simp; (try with_reducible rfl))
              simp only [Act.put, List.setIfInBounds_toArray, List.set_cons_zero, List.set_cons_succ]
              refine wpAnyZ_take (i := 22) (oi := ?o44) (v := ?v44) ?hi44 (by kernel_rfl) (by kernel_rfl) (by kernel_rfl) (by kernel_rfl) ?hq44 ?hy44 ⟨cell_keepJ k0 BB.out, cell_keepJ k1 BB.out, cell_keepJ k2 BB.out, cell_keepJ k3 BB.out⟩ ?rest44
              case hi44 => simp only [List.getElem?_toArray, List.getElem?_cons_succ, List.getElem?_cons_zero]; rfl
              case hq44 => exact fun _ _ _ h => h
              case hy44 => (refine Or.inl ⟨by rfl, ?_⟩; intro w hSw; (try dsimp only at hSw); go_simp; (try with_reducible rfl))
              simp only [Act.put, List.setIfInBounds_toArray, List.set_cons_zero, List.set_cons_succ]
              refine wpAnyZ_take (i := 23) (oi := ?o45) (v := ?v45) ?hi45 (by kernel_rfl) (by kernel_rfl) (by kernel_rfl) (by kernel_rfl) ?hq45 ?hy45 ⟨cell_keepJ k0 BB.out, cell_keepJ k1 BB.out, cell_keepJ k2 BB.out, cell_keepJ k3 BB.out⟩ ?rest45
              case hi45 => simp only [List.getElem?_toArray, List.getElem?_cons_succ, List.getElem?_cons_zero]; rfl
              case hq45 => exact fun _ _ _ h => h
              case hy45 => (refine Or.inl ⟨by rfl, ?_⟩; intro w hSw; (try dsimp only at hSw); go_simp; (try with_reducible rfl))
              simp only [Act.put, List.setIfInBounds_toArray, List.set_cons_zero, List.set_cons_succ]
              refine wpAnyZ_one (i := 24) (o := ?o46) (by kernel_rfl) ?hi46 (fun K hK => ?rest46)
              case hi46 => simp only [List.getElem?_toArray, List.getElem?_cons_succ, List.getElem?_cons_zero]; rfl
              go_simp
              go_at_call 18; refine (alive_any _).mono ?_; rintro e w8 ⟨rfl, b8⟩; (try dsimp only)
              have BBn := BB.out.trans (b8.mono BB.out.size)
              refine hK.out _ _ (.inr ⟨cell_keepJ k0 BBn, cell_keepJ k1 BBn, cell_keepJ k2 BBn, cell_keepJ k3 BBn⟩) ?_
              clear hK K
              (try simp only [Act.put, List.setIfInBounds_toArray, List.set_cons_zero, List.set_cons_succ])
              clear BB b8
              have BB := Lib.hid BBn
              clear BBn
              refine wpAnyZ_take (i := 25) (oi := ?o47) (v := ?v47) ?hi47 (by kernel_rfl) (by kernel_rfl) (by kernel_rfl) (by kernel_rfl) ?hq47 ?hy47 ⟨cell_keepJ k0 BB.out, cell_keepJ k1 BB.out, cell_keepJ k2 BB.out, cell_keepJ k3 BB.out⟩ ?rest47
              case hi47 => simp only [List.getElem?_toArray, List.getElem?_cons_succ, List.getElem?_cons_zero]; rfl
              case hq47 => exact fun _ _ _ h => h
              case hy47 => (refine Or.inl ⟨by rfl, ?_⟩; intro w hSw; (try dsimp only at hSw); go_simp; (try with_reducible rfl))
              simp only [Act.put, List.setIfInBounds_toArray, List.set_cons_zero, List.set_cons_succ]
              refine wpAnyZ_one (i := 26) (o := ?o48) (by kernel_rfl) ?hi48 (fun K hK => ?rest48)
              case hi48 => simp only [List.getElem?_toArray, List.getElem?_cons_succ, List.getElem?_cons_zero]; rfl
              go_simp
              refine hK.out _ _ (.inr ?hs48) ?more48
              case hs48 => exact ⟨cell_keepJ k0 BB.out, cell_keepJ k1 BB.out, cell_keepJ k2 BB.out, cell_keepJ k3 BB.out⟩
              clear hK K
              (try simp only [Act.put, List.setIfInBounds_toArray, List.set_cons_zero, List.set_cons_succ])
              refine wpAnyZ_done (by kernel_rfl) ?_ _
              have hfin := Lib.hid (CX.out.trans (BB.out.mono CX.out.size))
              clear BB
              go_wp2
              go_ret
              exact ⟨rfl, hfin.out⟩
            exact AllZ.nil
          exact AllZ.nil
        exact AllZ.nil
      exact AllZ.nil
    · rw [hv] at hne
      have hjt := Lib.hid (jr_take hv h2)
      have KX := Lib.hid (show Blk w4 w3.heap.size 33 #[.int .i64 9, .bool true, .int .i64 0, .int .i64 0] from X4.out)
      have OX := Lib.hid (show w4.ownsRow w.heap.size 33 4 (.slice A1 l.length c1) l.length (recC l) from O4.out)
      have CX := Lib.hid (show Below w.heap.size w w4 from C4.out)
      obtain ⟨k0, k1, k2, k3⟩ := four KX.out
      clear X4 O4 C4 HC
      go_wp2
      rw [← HW4.out]
      have dh : IntKind.i64.wrap (h2 : Int) = h2 := IntWalk.i64_in _ (by omega)
      refine wp_region_Z (fun w' : World => w'.cell? ⟨w3.heap.size, 0, none⟩ = some (.int .i64 9) ∧ w'.cell? ⟨w3.heap.size, 1, none⟩ = some (.bool true) ∧ w'.cell? ⟨w3.heap.size, 2, none⟩ = some (.int .i64 0) ∧ w'.cell? ⟨w3.heap.size, 3, none⟩ = some (.int .i64 0)) 99 (by kernel_rfl) ?_
      generalize hv0 : w4.drew = u0
      have BB := Lib.hid (show Below w4.heap.size w4 u0 by rw [← hv0]; exact (Below.refl _ _).drew)
      clear hv0
      refine wpAnyZ_take (i := 0) (oi := ?o49) (v := ?v49) ?hi49 (by kernel_rfl) (by kernel_rfl) (by kernel_rfl) (by kernel_rfl) ?hq49 ?hy49 ⟨cell_keepJ k0 BB.out, cell_keepJ k1 BB.out, cell_keepJ k2 BB.out, cell_keepJ k3 BB.out⟩ ?rest49
      case hi49 => simp only [List.getElem?_toArray, List.getElem?_cons_succ, List.getElem?_cons_zero]; rfl
      case hq49 => exact fun _ _ _ h => h
      case hy49 => (refine Or.inl ⟨by rfl, ?_⟩; intro w hSw; (try dsimp only at hSw); go_simp; (try with_reducible rfl))
      simp only [Act.put, List.setIfInBounds_toArray, List.set_cons_zero, List.set_cons_succ]
      refine wpAnyZ_take (i := 1) (oi := ?o50) (v := ?v50) ?hi50 (by kernel_rfl) (by kernel_rfl) (by kernel_rfl) (by kernel_rfl) ?hq50 ?hy50 ⟨cell_keepJ k0 BB.out, cell_keepJ k1 BB.out, cell_keepJ k2 BB.out, cell_keepJ k3 BB.out⟩ ?rest50
      case hi50 => simp only [List.getElem?_toArray, List.getElem?_cons_succ, List.getElem?_cons_zero]; rfl
      case hq50 => exact fun _ _ _ h => h
      case hy50 => (refine Or.inl ⟨by rfl, ?_⟩; intro w hSw; (try dsimp only at hSw); go_simp; (try with_reducible rfl))
      simp only [Act.put, List.setIfInBounds_toArray, List.set_cons_zero, List.set_cons_succ]
      refine wpAnyZ_take (i := 2) (oi := ?o51) (v := ?v51) ?hi51 (by kernel_rfl) (by kernel_rfl) (by kernel_rfl) (by kernel_rfl) ?hq51 ?hy51 ⟨cell_keepJ k0 BB.out, cell_keepJ k1 BB.out, cell_keepJ k2 BB.out, cell_keepJ k3 BB.out⟩ ?rest51
      case hi51 => simp only [List.getElem?_toArray, List.getElem?_cons_succ, List.getElem?_cons_zero]; rfl
      case hq51 => exact fun _ _ _ h => h
      case hy51 => (refine Or.inl ⟨by rfl, ?_⟩; intro w hSw; (try dsimp only at hSw); go_simp; (try with_reducible rfl))
      simp only [Act.put, List.setIfInBounds_toArray, List.set_cons_zero, List.set_cons_succ]
      refine wpAnyZ_take (i := 3) (oi := ?o52) (v := ?v52) ?hi52 (by kernel_rfl) (by kernel_rfl) (by kernel_rfl) (by kernel_rfl) ?hq52 ?hy52 ⟨cell_keepJ k0 BB.out, cell_keepJ k1 BB.out, cell_keepJ k2 BB.out, cell_keepJ k3 BB.out⟩ ?rest52
      case hi52 => simp only [List.getElem?_toArray, List.getElem?_cons_succ, List.getElem?_cons_zero]; rfl
      case hq52 => exact fun _ _ _ h => h
      case hy52 => (refine Or.inl ⟨by rfl, ?_⟩; intro w hSw; (try dsimp only at hSw); go_simp; (try with_reducible rfl))
      simp only [Act.put, List.setIfInBounds_toArray, List.set_cons_zero, List.set_cons_succ]
      refine wpAnyZ_take (i := 4) (oi := ?o53) (v := ?v53) ?hi53 (by kernel_rfl) (by kernel_rfl) (by kernel_rfl) (by kernel_rfl) ?hq53 ?hy53 ⟨cell_keepJ k0 BB.out, cell_keepJ k1 BB.out, cell_keepJ k2 BB.out, cell_keepJ k3 BB.out⟩ ?rest53
      case hi53 => simp only [List.getElem?_toArray, List.getElem?_cons_succ, List.getElem?_cons_zero]; rfl
      case hq53 => exact fun _ _ _ h => h
      case hy53 => (refine Or.inl ⟨by rfl, ?_⟩; intro w hSw; (try dsimp only at hSw); go_simp; (try with_reducible rfl))
      simp only [Act.put, List.setIfInBounds_toArray, List.set_cons_zero, List.set_cons_succ]
      refine wpAnyZ_take (i := 5) (oi := ?o54) (v := ?v54) ?hi54 (by kernel_rfl) (by kernel_rfl) (by kernel_rfl) (by kernel_rfl) ?hq54 ?hy54 ⟨cell_keepJ k0 BB.out, cell_keepJ k1 BB.out, cell_keepJ k2 BB.out, cell_keepJ k3 BB.out⟩ ?rest54
      case hi54 => simp only [List.getElem?_toArray, List.getElem?_cons_succ, List.getElem?_cons_zero]; rfl
      case hq54 => exact fun _ _ _ h => h
      case hy54 => (refine Or.inl ⟨by rfl, ?_⟩; intro w hSw; (try dsimp only at hSw); go_simp; (try with_reducible rfl))
      simp only [Act.put, List.setIfInBounds_toArray, List.set_cons_zero, List.set_cons_succ]
      refine wpAnyZ_take (i := 6) (oi := ?o55) (v := ?v55) ?hi55 (by kernel_rfl) (by kernel_rfl) (by kernel_rfl) (by kernel_rfl) ?hq55 ?hy55 ⟨cell_keepJ k0 BB.out, cell_keepJ k1 BB.out, cell_keepJ k2 BB.out, cell_keepJ k3 BB.out⟩ ?rest55
      case hi55 => simp only [List.getElem?_toArray, List.getElem?_cons_succ, List.getElem?_cons_zero]; rfl
      case hq55 => exact fun _ _ _ h => h
      case hy55 => (refine Or.inl ⟨by rfl, ?_⟩; intro w hSw; (try dsimp only at hSw); go_simp; (try with_reducible rfl))
      simp only [Act.put, List.setIfInBounds_toArray, List.set_cons_zero, List.set_cons_succ]
      refine wpAnyZ_take (i := 7) (oi := ?o56) (v := ?v56) ?hi56 (by kernel_rfl) (by kernel_rfl) (by kernel_rfl) (by kernel_rfl) ?hq56 ?hy56 ⟨cell_keepJ k0 BB.out, cell_keepJ k1 BB.out, cell_keepJ k2 BB.out, cell_keepJ k3 BB.out⟩ ?rest56
      case hi56 => simp only [List.getElem?_toArray, List.getElem?_cons_succ, List.getElem?_cons_zero]; rfl
      case hq56 => exact fun _ _ _ h => h
      case hy56 => (refine Or.inl ⟨by rfl, ?_⟩; intro w hSw; (try dsimp only at hSw); go_simp; (try with_reducible rfl))
      simp only [Act.put, List.setIfInBounds_toArray, List.set_cons_zero, List.set_cons_succ]
      refine wpAnyZ_take (i := 8) (oi := ?o57) (v := ?v57) ?hi57 (by kernel_rfl) (by kernel_rfl) (by kernel_rfl) (by kernel_rfl) ?hq57 ?hy57 ⟨cell_keepJ k0 BB.out, cell_keepJ k1 BB.out, cell_keepJ k2 BB.out, cell_keepJ k3 BB.out⟩ ?rest57
      case hi57 => simp only [List.getElem?_toArray, List.getElem?_cons_succ, List.getElem?_cons_zero]; rfl
      case hq57 => exact fun _ _ _ h => h
      case hy57 => (refine Or.inl ⟨by rfl, ?_⟩; intro w hSw; (try dsimp only at hSw); go_simp; (try with_reducible rfl))
      simp only [Act.put, List.setIfInBounds_toArray, List.set_cons_zero, List.set_cons_succ]
      refine wpAnyZ_one (i := 9) (o := ?o58) (by kernel_rfl) ?hi58 (fun K hK => ?rest58)
      case hi58 => simp only [List.getElem?_toArray, List.getElem?_cons_succ, List.getElem?_cons_zero]; rfl
      have hj0 := implJr_any A1 c1 (l.take h2) size u0 ((RecsIn.of ((own_read OX.out).below BB.out)).take h2) (by rw [List.length_take]; omega) (by rw [List.length_take]; omega) hcap.2
      rw [List.length_take, Nat.min_eq_left hh3] at hj0
      have HJ0 := Lib.hid hj0
      clear hj0
      go_simp
      go_at_call 15; refine HJ0.out.mono ?_; rintro e u1 ⟨rfl, b1⟩; rw [hjt.out]; (try dsimp only)
      have BBn := BB.out.trans (b1.mono BB.out.size)
      refine hK.out _ _ (.inr ⟨cell_keepJ k0 BBn, cell_keepJ k1 BBn, cell_keepJ k2 BBn, cell_keepJ k3 BBn⟩) ?_
      clear hK K
      (try simp only [Act.put, List.setIfInBounds_toArray, List.set_cons_zero, List.set_cons_succ])
      clear BB HJ0 b1
      have BB := Lib.hid BBn
      clear BBn
      refine wpAnyZ_take (i := 10) (oi := ?o59) (v := ?v59) ?hi59 (by kernel_rfl) (by kernel_rfl) (by kernel_rfl) (by kernel_rfl) ?hq59 ?hy59 ⟨cell_keepJ k0 BB.out, cell_keepJ k1 BB.out, cell_keepJ k2 BB.out, cell_keepJ k3 BB.out⟩ ?rest59
      case hi59 => simp only [List.getElem?_toArray, List.getElem?_cons_succ, List.getElem?_cons_zero]; rfl
      case hq59 => exact fun _ _ _ h => h
      case hy59 => (refine Or.inl ⟨by rfl, ?_⟩; intro w hSw; (try dsimp only at hSw); go_simp; (try with_reducible rfl))
      simp only [Act.put, List.setIfInBounds_toArray, List.set_cons_zero, List.set_cons_succ]
      refine wpAnyZ_take (i := 11) (oi := ?o60) (v := ?v60) ?hi60 (by kernel_rfl) (by kernel_rfl) (by kernel_rfl) (by kernel_rfl) ?hq60 ?hy60 ⟨cell_keepJ k0 BB.out, cell_keepJ k1 BB.out, cell_keepJ k2 BB.out, cell_keepJ k3 BB.out⟩ ?rest60
      case hi60 => simp only [List.getElem?_toArray, List.getElem?_cons_succ, List.getElem?_cons_zero]; rfl
      case hq60 => exact fun _ _ _ h => h
      case hy60 => (refine Or.inl ⟨by rfl, ?_⟩; intro w hSw; (try dsimp only at hSw); go_simp; (try with_reducible rfl))
      simp only [Act.put, List.setIfInBounds_toArray, List.set_cons_zero, List.set_cons_succ]
      refine wpAnyZ_take (i := 13) (oi := ?o61) (v := ?v61) ?hi61 (by kernel_rfl) (by kernel_rfl) (by kernel_rfl) (by kernel_rfl) ?hq61 ?hy61 ⟨cell_keepJ k0 BB.out, cell_keepJ k1 BB.out, cell_keepJ k2 BB.out, cell_keepJ k3 BB.out⟩ ?rest61
      case hi61 => simp only [List.getElem?_toArray, List.getElem?_cons_succ, List.getElem?_cons_zero]; rfl
      case hq61 => exact fun _ _ _ h => h
      case hy61 => (refine Or.inl ⟨by rfl, ?_⟩; intro w hSw; (try dsimp only at hSw); go_simp; (try with_reducible rfl))
      simp only [Act.put, List.setIfInBounds_toArray, List.set_cons_zero, List.set_cons_succ]
      refine wpAnyZ_take (i := 15) (oi := ?o62) (v := ?v62) ?hi62 (by kernel_rfl) (by kernel_rfl) (by kernel_rfl) (by kernel_rfl) ?hq62 ?hy62 ⟨cell_keepJ k0 BB.out, cell_keepJ k1 BB.out, cell_keepJ k2 BB.out, cell_keepJ k3 BB.out⟩ ?rest62
      case hi62 => simp only [List.getElem?_toArray, List.getElem?_cons_succ, List.getElem?_cons_zero]; rfl
      case hq62 => exact fun _ _ _ h => h
      case hy62 => (refine Or.inl ⟨by rfl, ?_⟩; intro w hSw; (try dsimp only at hSw); go_simp; (try with_reducible rfl))
      simp only [Act.put, List.setIfInBounds_toArray, List.set_cons_zero, List.set_cons_succ]
      refine wpAnyZ_take (i := 16) (oi := ?o63) (v := ?v63) ?hi63 (by kernel_rfl) (by kernel_rfl) (by kernel_rfl) (by kernel_rfl) ?hq63 ?hy63 ⟨cell_keepJ k0 BB.out, cell_keepJ k1 BB.out, cell_keepJ k2 BB.out, cell_keepJ k3 BB.out⟩ ?rest63
      case hi63 => simp only [List.getElem?_toArray, List.getElem?_cons_succ, List.getElem?_cons_zero]; rfl
      case hq63 => exact fun _ _ _ h => h
      case hy63 => (refine Or.inl ⟨by rfl, ?_⟩; intro w hSw; (try dsimp only at hSw); go_simp; (try with_reducible rfl))
      simp only [Act.put, List.setIfInBounds_toArray, List.set_cons_zero, List.set_cons_succ]
      refine wpAnyZ_take (i := 19) (oi := ?o64) (v := ?v64) ?hi64 (by kernel_rfl) (by kernel_rfl) (by kernel_rfl) (by kernel_rfl) ?hq64 ?hy64 ⟨cell_keepJ k0 BB.out, cell_keepJ k1 BB.out, cell_keepJ k2 BB.out, cell_keepJ k3 BB.out⟩ ?rest64
      case hi64 => simp only [List.getElem?_toArray, List.getElem?_cons_succ, List.getElem?_cons_zero]; rfl
      case hq64 => exact fun _ _ _ h => h
      case hy64 => (refine Or.inl ⟨by rfl, ?_⟩; intro w hSw; (try dsimp only at hSw); go_simp; (try with_reducible rfl))
      simp only [Act.put, List.setIfInBounds_toArray, List.set_cons_zero, List.set_cons_succ]
      refine wpAnyZ_ready (rs := [12, 17]) (by kernel_rfl) (by simp) ?_
      refine AllZ.cons (i := 12) (o := ?o65) ?hi65 (fun K hK => ?ra65) ?mr65
      case hi65 => simp only [List.getElem?_toArray, List.getElem?_cons_succ, List.getElem?_cons_zero]; rfl
      case ra65 =>
        go_simp
        have BBn := b_alloc BB.out (.cells #[] 33)
        have hzn : u1.heap.size < (u1.alloc (.cells #[] 33)).heap.size := by simp
        have hzm := Nat.le_of_lt hzn
        have hbz := BB.out.size
        have OBn := Lib.hid (World.ownsRow_lit (e := 33) (size := 4) (base := w4.heap.size) u1 #[] 0 BB.out.size (by simp [maxLen]) (by simp))
        refine hK.out _ _ (.inr ⟨cell_keepJ k0 BBn, cell_keepJ k1 BBn, cell_keepJ k2 BBn, cell_keepJ k3 BBn⟩) ?_
        clear hK K
        (try simp only [Act.put, List.setIfInBounds_toArray, List.set_cons_zero, List.set_cons_succ])
        have BBm := Lib.hid BBn
        clear BBn
        clear BB
        generalize hvv : u1.alloc (.cells #[] 33) = u2 at *
        clear hvv
        obtain ⟨p1, hpp1⟩ : ∃ x, x = u1.heap.size := ⟨_, rfl⟩
        rw [← hpp1] at hzn OBn ⊢
        clear hpp1
        have OB := OBn
        clear OBn
        have BB := BBm
        clear BBm
        refine wpAnyZ_ready (rs := [14, 17]) (by kernel_rfl) (by simp) ?_
        refine AllZ.cons (i := 14) (o := ?o66) ?hi66 (fun K hK => ?ra66) ?mr66
        case hi66 => simp only [List.getElem?_toArray, List.getElem?_cons_succ, List.getElem?_cons_zero]; rfl
        case ra66 =>
          refine step_append_rg _ (by rfl) (.tmp 36) (.tmp 37) 25 (by rfl) w4.heap.size 33 i0 (.agg #[.int .i64 0, .bool false, .int .i64 0, .int .i64 0]) 4 32 Try.underlying25 hi0 hz0 hz1 hz2 rfl (by decide) _ 0 [] OB.out ?_ A1 l.length c1 (recC l) ((own_read OX.out).below BB.out) (by simp [Act.eval, Act.put] <;> fail) (by rw [recC_length]; omega) (recC_one l) (by simp only [maxLen]; omega) (by omega) BB.out.size ?_
          simp [Act.eval, Act.put]
          intro v5 u3 o5 g5 d5
          rw [Nat.zero_add] at o5
          obtain ⟨A5, c5, rfl⟩ := own_slice o5
          have BBn := Below.grown BB.out g5 BB.out.size (fun k hk => (OB.out.lt k hk).1)
          have hzn := g5.size
          have hbz := BB.out.size
          refine hK.out _ _ (.inr ⟨cell_keepJ k0 BBn, cell_keepJ k1 BBn, cell_keepJ k2 BBn, cell_keepJ k3 BBn⟩) ?_
          clear hK K
          (try simp only [Act.put, List.setIfInBounds_toArray, List.set_cons_zero, List.set_cons_succ])
          have OA := Lib.hid o5
          clear OB o5 g5 d5 BB
          have BB := Lib.hid BBn
          clear BBn
          refine wpAnyZ_ready (rs := [17]) (by kernel_rfl) (by simp) ?_
          refine AllZ.cons (i := 17) (o := ?o67) ?hi67 (fun K hK => ?ra67) ?mr67
          case hi67 => simp only [List.getElem?_toArray, List.getElem?_cons_succ, List.getElem?_cons_zero]; rfl
          case ra67 =>
            go_simp
            have BBn := b_alloc BB.out (.cells #[.int .i64 9, .bool true, .int .i64 0, .int .i64 0, .int .i64 9, .bool true, .int .i64 0, .int .i64 0] 33)
            have hzn : u3.heap.size < (u3.alloc (.cells #[.int .i64 9, .bool true, .int .i64 0, .int .i64 0, .int .i64 9, .bool true, .int .i64 0, .int .i64 0] 33)).heap.size := by simp
            have hzm := Nat.le_of_lt hzn
            have hbz := BB.out.size
            have OAn := Lib.hid (OA.out.alloc (.cells #[.int .i64 9, .bool true, .int .i64 0, .int .i64 0, .int .i64 9, .bool true, .int .i64 0, .int .i64 0] 33))
            have RBn := Lib.hid (readc_nwj (w := u3) (T := 33) (cs := #[.int .i64 9, .bool true, .int .i64 0, .int .i64 0, .int .i64 9, .bool true, .int .i64 0, .int .i64 0]) (xs := recC [(9, true, 0, 0), (9, true, 0, 0)]) rfl)
            refine hK.out _ _ (.inr ⟨cell_keepJ k0 BBn, cell_keepJ k1 BBn, cell_keepJ k2 BBn, cell_keepJ k3 BBn⟩) ?_
            clear hK K
            (try simp only [Act.put, List.setIfInBounds_toArray, List.set_cons_zero, List.set_cons_succ])
            have BBm := Lib.hid BBn
            clear BBn
            clear OA
            clear BB
            generalize hvv : u3.alloc (.cells #[.int .i64 9, .bool true, .int .i64 0, .int .i64 0, .int .i64 9, .bool true, .int .i64 0, .int .i64 0] 33) = u4 at *
            clear hvv
            obtain ⟨p2, hpp2⟩ : ∃ x, x = u3.heap.size := ⟨_, rfl⟩
            rw [← hpp2] at hzn RBn ⊢
            clear hpp2
            have OA := OAn
            have RB := RBn
            clear OAn RBn
            have BB := BBm
            clear BBm
            refine wpAnyZ_ready (rs := [18]) (by kernel_rfl) (by simp) ?_
            refine AllZ.cons (i := 18) (o := ?o68) ?hi68 (fun K hK => ?ra68) ?mr68
            case hi68 => simp only [List.getElem?_toArray, List.getElem?_cons_succ, List.getElem?_cons_zero]; rfl
            case ra68 =>
              refine step_append_rg _ (by rfl) (.tmp 38) (.tmp 41) 25 (by rfl) w4.heap.size 33 i0 (.agg #[.int .i64 0, .bool false, .int .i64 0, .int .i64 0]) 4 32 Try.underlying25 hi0 hz0 hz1 hz2 rfl (by decide) _ l.length (recC l) OA.out ?_ (some ⟨p2, 0, none⟩) 2 2 (recC [(9, true, 0, 0), (9, true, 0, 0)]) RB.out (by simp [Act.eval, Act.put] <;> fail) rfl (recC_one _) (by simp only [maxLen]; omega) (by omega) BB.out.size ?_
              simp [Act.eval, Act.put]
              intro v6 u5 o6 g6 d6
              obtain ⟨A6, c6, rfl⟩ := own_slice o6
              have BBn := Below.grown BB.out g6 BB.out.size (fun k hk => (OA.out.lt k hk).1)
              have hzn := g6.size
              have hbz := BB.out.size
              refine hK.out _ _ (.inr ⟨cell_keepJ k0 BBn, cell_keepJ k1 BBn, cell_keepJ k2 BBn, cell_keepJ k3 BBn⟩) ?_
              clear hK K
              (try simp only [Act.put, List.setIfInBounds_toArray, List.set_cons_zero, List.set_cons_succ])
              have O6 := Lib.hid o6
              clear OA RB o6 g6 d6 BB
              have BB := Lib.hid BBn
              clear BBn
              refine wpAnyZ_one (i := 20) (o := ?o69) (by kernel_rfl) ?hi69 (fun K hK => ?rest69)
              case hi69 => simp only [List.getElem?_toArray, List.getElem?_cons_succ, List.getElem?_cons_zero]; rfl
              have LL : (l ++ [(9, true, 0, 0), (9, true, 0, 0)]).length = l.length + 2 := by simp
              have O7 := Lib.hid (show u5.ownsRow w4.heap.size 33 4 (.slice A6 (l ++ [(9, true, 0, 0), (9, true, 0, 0)]).length c6) (l ++ [(9, true, 0, 0), (9, true, 0, 0)]).length (recC (l ++ [(9, true, 0, 0), (9, true, 0, 0)])) by rw [recC_append, LL]; exact O6.out)
              have hj := implJr_any A6 c6 (l ++ [(9, true, 0, 0), (9, true, 0, 0)]) size u5 (RecsIn.of (own_read O7.out)) (by rw [LL]; omega) (own_cap O7.out).1 (own_cap O7.out).2
              rw [LL] at hj
              have HJ := Lib.hid hj
              clear hj LL O7 O6
              go_simp
              go_at_call 15; refine HJ.out.mono ?_; rintro e w7 ⟨rfl, b7⟩; rw [jr_twice]; (try dsimp only)
              have BBn := BB.out.trans (b7.mono BB.out.size)
              refine hK.out _ _ (.inr ⟨cell_keepJ k0 BBn, cell_keepJ k1 BBn, cell_keepJ k2 BBn, cell_keepJ k3 BBn⟩) ?_
              clear hK K
              (try simp only [Act.put, List.setIfInBounds_toArray, List.set_cons_zero, List.set_cons_succ])
              clear BB HJ b7
              have BB := Lib.hid BBn
              clear BBn
              refine wpAnyZ_take (i := 21) (oi := ?o70) (v := ?v70) ?hi70 (by kernel_rfl) (by kernel_rfl) (by kernel_rfl) (by kernel_rfl) ?hq70 ?hy70 ⟨cell_keepJ k0 BB.out, cell_keepJ k1 BB.out, cell_keepJ k2 BB.out, cell_keepJ k3 BB.out⟩ ?rest70
              case hi70 => simp only [List.getElem?_toArray, List.getElem?_cons_succ, List.getElem?_cons_zero]; rfl
              case hq70 => exact fun _ _ _ h => h
              case hy70 => (refine Or.inl ⟨by rfl, ?_⟩; intro w hSw; (try dsimp only at hSw); go_simp; (try with_reducible rfl))
              simp only [Act.put, List.setIfInBounds_toArray, List.set_cons_zero, List.set_cons_succ]
              refine wpAnyZ_take (i := 22) (oi := ?o71) (v := ?v71) ?hi71 (by kernel_rfl) (by kernel_rfl) (by kernel_rfl) (by kernel_rfl) ?hq71 ?hy71 ⟨cell_keepJ k0 BB.out, cell_keepJ k1 BB.out, cell_keepJ k2 BB.out, cell_keepJ k3 BB.out⟩ ?rest71
              case hi71 => simp only [List.getElem?_toArray, List.getElem?_cons_succ, List.getElem?_cons_zero]; rfl
              case hq71 => exact fun _ _ _ h => h
              case hy71 => (refine Or.inl ⟨by rfl, ?_⟩; intro w hSw; (try dsimp only at hSw); go_simp; (try with_reducible rfl))
              simp only [Act.put, List.setIfInBounds_toArray, List.set_cons_zero, List.set_cons_succ]
              refine wpAnyZ_take (i := 23) (oi := ?o72) (v := ?v72) ?hi72 (by kernel_rfl) (by kernel_rfl) (by kernel_rfl) (by kernel_rfl) ?hq72 ?hy72 ⟨cell_keepJ k0 BB.out, cell_keepJ k1 BB.out, cell_keepJ k2 BB.out, cell_keepJ k3 BB.out⟩ ?rest72
              case hi72 => simp only [List.getElem?_toArray, List.getElem?_cons_succ, List.getElem?_cons_zero]; rfl
              case hq72 => exact fun _ _ _ h => h
              case hy72 => (refine Or.inl ⟨by rfl, ?_⟩; intro w hSw; (try dsimp only at hSw); go_simp; (try with_reducible rfl))
              simp only [Act.put, List.setIfInBounds_toArray, List.set_cons_zero, List.set_cons_succ]
              refine wpAnyZ_one (i := 24) (o := ?o73) (by kernel_rfl) ?hi73 (fun K hK => ?rest73)
              case hi73 => simp only [List.getElem?_toArray, List.getElem?_cons_succ, List.getElem?_cons_zero]; rfl
              go_simp
              go_at_call 18; refine (alive_any _).mono ?_; rintro e w8 ⟨rfl, b8⟩; (try dsimp only)
              have BBn := BB.out.trans (b8.mono BB.out.size)
              refine hK.out _ _ (.inr ⟨cell_keepJ k0 BBn, cell_keepJ k1 BBn, cell_keepJ k2 BBn, cell_keepJ k3 BBn⟩) ?_
              clear hK K
              (try simp only [Act.put, List.setIfInBounds_toArray, List.set_cons_zero, List.set_cons_succ])
              clear BB b8
              have BB := Lib.hid BBn
              clear BBn
              refine wpAnyZ_take (i := 25) (oi := ?o74) (v := ?v74) ?hi74 (by kernel_rfl) (by kernel_rfl) (by kernel_rfl) (by kernel_rfl) ?hq74 ?hy74 ⟨cell_keepJ k0 BB.out, cell_keepJ k1 BB.out, cell_keepJ k2 BB.out, cell_keepJ k3 BB.out⟩ ?rest74
              case hi74 => simp only [List.getElem?_toArray, List.getElem?_cons_succ, List.getElem?_cons_zero]; rfl
              case hq74 => exact fun _ _ _ h => h
              case hy74 => (refine Or.inl ⟨by rfl, ?_⟩; intro w hSw; (try dsimp only at hSw); go_simp; (try with_reducible rfl))
              simp only [Act.put, List.setIfInBounds_toArray, List.set_cons_zero, List.set_cons_succ]
              refine wpAnyZ_one (i := 26) (o := ?o75) (by kernel_rfl) ?hi75 (fun K hK => ?rest75)
              case hi75 => simp only [List.getElem?_toArray, List.getElem?_cons_succ, List.getElem?_cons_zero]; rfl
              go_simp
              refine hK.out _ _ (.inr ?hs75) ?more75
              case hs75 => exact ⟨cell_keepJ k0 BB.out, cell_keepJ k1 BB.out, cell_keepJ k2 BB.out, cell_keepJ k3 BB.out⟩
              clear hK K
              (try simp only [Act.put, List.setIfInBounds_toArray, List.set_cons_zero, List.set_cons_succ])
              refine wpAnyZ_done (by kernel_rfl) ?_ _
              have hfin := Lib.hid (CX.out.trans (BB.out.mono CX.out.size))
              clear BB
              go_wp2
              go_ret
              exact ⟨rfl, hfin.out⟩
            exact AllZ.nil
          exact AllZ.nil
        refine AllZ.cons (i := 17) (o := ?o76) ?hi76 (fun K hK => ?ra76) ?mr76
        case hi76 => simp only [List.getElem?_toArray, List.getElem?_cons_succ, List.getElem?_cons_zero]; rfl
        case ra76 =>
          go_simp
          have BBn := b_alloc BB.out (.cells #[.int .i64 9, .bool true, .int .i64 0, .int .i64 0, .int .i64 9, .bool true, .int .i64 0, .int .i64 0] 33)
          have hzn : u2.heap.size < (u2.alloc (.cells #[.int .i64 9, .bool true, .int .i64 0, .int .i64 0, .int .i64 9, .bool true, .int .i64 0, .int .i64 0] 33)).heap.size := by simp
          have hzm := Nat.le_of_lt hzn
          have hbz := BB.out.size
          have OBn := Lib.hid (OB.out.alloc (.cells #[.int .i64 9, .bool true, .int .i64 0, .int .i64 0, .int .i64 9, .bool true, .int .i64 0, .int .i64 0] 33))
          have RBn := Lib.hid (readc_nwj (w := u2) (T := 33) (cs := #[.int .i64 9, .bool true, .int .i64 0, .int .i64 0, .int .i64 9, .bool true, .int .i64 0, .int .i64 0]) (xs := recC [(9, true, 0, 0), (9, true, 0, 0)]) rfl)
          have hpp : u2.heap.size ≠ p1 := by omega
          refine hK.out _ _ (.inr ⟨cell_keepJ k0 BBn, cell_keepJ k1 BBn, cell_keepJ k2 BBn, cell_keepJ k3 BBn⟩) ?_
          clear hK K
          (try simp only [Act.put, List.setIfInBounds_toArray, List.set_cons_zero, List.set_cons_succ])
          have BBm := Lib.hid BBn
          clear BBn
          clear OB
          clear BB
          generalize hvv : u2.alloc (.cells #[.int .i64 9, .bool true, .int .i64 0, .int .i64 0, .int .i64 9, .bool true, .int .i64 0, .int .i64 0] 33) = u3 at *
          clear hvv
          obtain ⟨p2, hpp2⟩ : ∃ x, x = u2.heap.size := ⟨_, rfl⟩
          rw [← hpp2] at hzn RBn hpp ⊢
          clear hpp2
          have OB := OBn
          have RB := RBn
          clear OBn RBn
          have BB := BBm
          clear BBm
          refine wpAnyZ_ready (rs := [14]) (by kernel_rfl) (by simp) ?_
          refine AllZ.cons (i := 14) (o := ?o77) ?hi77 (fun K hK => ?ra77) ?mr77
          case hi77 => simp only [List.getElem?_toArray, List.getElem?_cons_succ, List.getElem?_cons_zero]; rfl
          case ra77 =>
            refine step_append_rg _ (by rfl) (.tmp 36) (.tmp 37) 25 (by rfl) w4.heap.size 33 i0 (.agg #[.int .i64 0, .bool false, .int .i64 0, .int .i64 0]) 4 32 Try.underlying25 hi0 hz0 hz1 hz2 rfl (by decide) _ 0 [] OB.out ?_ A1 l.length c1 (recC l) ((own_read OX.out).below BB.out) (by simp [Act.eval, Act.put] <;> fail) (by rw [recC_length]; omega) (recC_one l) (by simp only [maxLen]; omega) (by omega) BB.out.size ?_
            simp [Act.eval, Act.put]
            intro v5 u4 o5 g5 d5
            rw [Nat.zero_add] at o5
            obtain ⟨A5, c5, rfl⟩ := own_slice o5
            have BBn := Below.grown BB.out g5 BB.out.size (fun k hk => (OB.out.lt k hk).1)
            have hzn := g5.size
            have hbz := BB.out.size
            have RBn := Lib.hid (readc_grown RB.out g5 (by simp [Value.ownBlock]; omega))
            refine hK.out _ _ (.inr ⟨cell_keepJ k0 BBn, cell_keepJ k1 BBn, cell_keepJ k2 BBn, cell_keepJ k3 BBn⟩) ?_
            clear hK K
            (try simp only [Act.put, List.setIfInBounds_toArray, List.set_cons_zero, List.set_cons_succ])
            have OA := Lib.hid o5
            clear OB o5 g5 d5 BB
            clear RB
            have RB := RBn
            clear RBn
            have BB := Lib.hid BBn
            clear BBn
            refine wpAnyZ_ready (rs := [18]) (by kernel_rfl) (by simp) ?_
            refine AllZ.cons (i := 18) (o := ?o78) ?hi78 (fun K hK => ?ra78) ?mr78
            case hi78 => simp only [List.getElem?_toArray, List.getElem?_cons_succ, List.getElem?_cons_zero]; rfl
            case ra78 =>
              refine step_append_rg _ (by rfl) (.tmp 38) (.tmp 41) 25 (by rfl) w4.heap.size 33 i0 (.agg #[.int .i64 0, .bool false, .int .i64 0, .int .i64 0]) 4 32 Try.underlying25 hi0 hz0 hz1 hz2 rfl (by decide) _ l.length (recC l) OA.out ?_ (some ⟨p2, 0, none⟩) 2 2 (recC [(9, true, 0, 0), (9, true, 0, 0)]) RB.out (by simp [Act.eval, Act.put] <;> fail) rfl (recC_one _) (by simp only [maxLen]; omega) (by omega) BB.out.size ?_
              simp [Act.eval, Act.put]
              intro v6 u5 o6 g6 d6
              obtain ⟨A6, c6, rfl⟩ := own_slice o6
              have BBn := Below.grown BB.out g6 BB.out.size (fun k hk => (OA.out.lt k hk).1)
              have hzn := g6.size
              have hbz := BB.out.size
              refine hK.out _ _ (.inr ⟨cell_keepJ k0 BBn, cell_keepJ k1 BBn, cell_keepJ k2 BBn, cell_keepJ k3 BBn⟩) ?_
              clear hK K
              (try simp only [Act.put, List.setIfInBounds_toArray, List.set_cons_zero, List.set_cons_succ])
              have O6 := Lib.hid o6
              clear OA RB o6 g6 d6 BB
              have BB := Lib.hid BBn
              clear BBn
              refine wpAnyZ_one (i := 20) (o := ?o79) (by kernel_rfl) ?hi79 (fun K hK => ?rest79)
              case hi79 => simp only [List.getElem?_toArray, List.getElem?_cons_succ, List.getElem?_cons_zero]; rfl
              have LL : (l ++ [(9, true, 0, 0), (9, true, 0, 0)]).length = l.length + 2 := by simp
              have O7 := Lib.hid (show u5.ownsRow w4.heap.size 33 4 (.slice A6 (l ++ [(9, true, 0, 0), (9, true, 0, 0)]).length c6) (l ++ [(9, true, 0, 0), (9, true, 0, 0)]).length (recC (l ++ [(9, true, 0, 0), (9, true, 0, 0)])) by rw [recC_append, LL]; exact O6.out)
              have hj := implJr_any A6 c6 (l ++ [(9, true, 0, 0), (9, true, 0, 0)]) size u5 (RecsIn.of (own_read O7.out)) (by rw [LL]; omega) (own_cap O7.out).1 (own_cap O7.out).2
              rw [LL] at hj
              have HJ := Lib.hid hj
              clear hj LL O7 O6
              go_simp
              go_at_call 15; refine HJ.out.mono ?_; rintro e w7 ⟨rfl, b7⟩; rw [jr_twice]; (try dsimp only)
              have BBn := BB.out.trans (b7.mono BB.out.size)
              refine hK.out _ _ (.inr ⟨cell_keepJ k0 BBn, cell_keepJ k1 BBn, cell_keepJ k2 BBn, cell_keepJ k3 BBn⟩) ?_
              clear hK K
              (try simp only [Act.put, List.setIfInBounds_toArray, List.set_cons_zero, List.set_cons_succ])
              clear BB HJ b7
              have BB := Lib.hid BBn
              clear BBn
              refine wpAnyZ_take (i := 21) (oi := ?o80) (v := ?v80) ?hi80 (by kernel_rfl) (by kernel_rfl) (by kernel_rfl) (by kernel_rfl) ?hq80 ?hy80 ⟨cell_keepJ k0 BB.out, cell_keepJ k1 BB.out, cell_keepJ k2 BB.out, cell_keepJ k3 BB.out⟩ ?rest80
              case hi80 => simp only [List.getElem?_toArray, List.getElem?_cons_succ, List.getElem?_cons_zero]; rfl
              case hq80 => exact fun _ _ _ h => h
              case hy80 => (refine Or.inl ⟨by rfl, ?_⟩; intro w hSw; (try dsimp only at hSw); go_simp; (try with_reducible rfl))
              simp only [Act.put, List.setIfInBounds_toArray, List.set_cons_zero, List.set_cons_succ]
              refine wpAnyZ_take (i := 22) (oi := ?o81) (v := ?v81) ?hi81 (by kernel_rfl) (by kernel_rfl) (by kernel_rfl) (by kernel_rfl) ?hq81 ?hy81 ⟨cell_keepJ k0 BB.out, cell_keepJ k1 BB.out, cell_keepJ k2 BB.out, cell_keepJ k3 BB.out⟩ ?rest81
              case hi81 => simp only [List.getElem?_toArray, List.getElem?_cons_succ, List.getElem?_cons_zero]; rfl
              case hq81 => exact fun _ _ _ h => h
              case hy81 => (refine Or.inl ⟨by rfl, ?_⟩; intro w hSw; (try dsimp only at hSw); go_simp; (try with_reducible rfl))
              simp only [Act.put, List.setIfInBounds_toArray, List.set_cons_zero, List.set_cons_succ]
              refine wpAnyZ_take (i := 23) (oi := ?o82) (v := ?v82) ?hi82 (by kernel_rfl) (by kernel_rfl) (by kernel_rfl) (by kernel_rfl) ?hq82 ?hy82 ⟨cell_keepJ k0 BB.out, cell_keepJ k1 BB.out, cell_keepJ k2 BB.out, cell_keepJ k3 BB.out⟩ ?rest82
              case hi82 => simp only [List.getElem?_toArray, List.getElem?_cons_succ, List.getElem?_cons_zero]; rfl
              case hq82 => exact fun _ _ _ h => h
              case hy82 => (refine Or.inl ⟨by rfl, ?_⟩; intro w hSw; (try dsimp only at hSw); go_simp; (try with_reducible rfl))
              simp only [Act.put, List.setIfInBounds_toArray, List.set_cons_zero, List.set_cons_succ]
              refine wpAnyZ_one (i := 24) (o := ?o83) (by kernel_rfl) ?hi83 (fun K hK => ?rest83)
              case hi83 => simp only [List.getElem?_toArray, List.getElem?_cons_succ, List.getElem?_cons_zero]; rfl
              go_simp
              go_at_call 18; refine (alive_any _).mono ?_; rintro e w8 ⟨rfl, b8⟩; (try dsimp only)
              have BBn := BB.out.trans (b8.mono BB.out.size)
              refine hK.out _ _ (.inr ⟨cell_keepJ k0 BBn, cell_keepJ k1 BBn, cell_keepJ k2 BBn, cell_keepJ k3 BBn⟩) ?_
              clear hK K
              (try simp only [Act.put, List.setIfInBounds_toArray, List.set_cons_zero, List.set_cons_succ])
              clear BB b8
              have BB := Lib.hid BBn
              clear BBn
              refine wpAnyZ_take (i := 25) (oi := ?o84) (v := ?v84) ?hi84 (by kernel_rfl) (by kernel_rfl) (by kernel_rfl) (by kernel_rfl) ?hq84 ?hy84 ⟨cell_keepJ k0 BB.out, cell_keepJ k1 BB.out, cell_keepJ k2 BB.out, cell_keepJ k3 BB.out⟩ ?rest84
              case hi84 => simp only [List.getElem?_toArray, List.getElem?_cons_succ, List.getElem?_cons_zero]; rfl
              case hq84 => exact fun _ _ _ h => h
              case hy84 => (refine Or.inl ⟨by rfl, ?_⟩; intro w hSw; (try dsimp only at hSw); go_simp; (try with_reducible rfl))
              simp only [Act.put, List.setIfInBounds_toArray, List.set_cons_zero, List.set_cons_succ]
              refine wpAnyZ_one (i := 26) (o := ?o85) (by kernel_rfl) ?hi85 (fun K hK => ?rest85)
              case hi85 => simp only [List.getElem?_toArray, List.getElem?_cons_succ, List.getElem?_cons_zero]; rfl
              go_simp
              refine hK.out _ _ (.inr ?hs85) ?more85
              case hs85 => exact ⟨cell_keepJ k0 BB.out, cell_keepJ k1 BB.out, cell_keepJ k2 BB.out, cell_keepJ k3 BB.out⟩
              clear hK K
              (try simp only [Act.put, List.setIfInBounds_toArray, List.set_cons_zero, List.set_cons_succ])
              refine wpAnyZ_done (by kernel_rfl) ?_ _
              have hfin := Lib.hid (CX.out.trans (BB.out.mono CX.out.size))
              clear BB
              go_wp2
              go_ret
              exact ⟨rfl, hfin.out⟩
            exact AllZ.nil
          exact AllZ.nil
        exact AllZ.nil
      refine AllZ.cons (i := 17) (o := ?o86) ?hi86 (fun K hK => ?ra86) ?mr86
      case hi86 => simp only [List.getElem?_toArray, List.getElem?_cons_succ, List.getElem?_cons_zero]; rfl
      case ra86 =>
        go_simp
        have BBn := b_alloc BB.out (.cells #[.int .i64 9, .bool true, .int .i64 0, .int .i64 0, .int .i64 9, .bool true, .int .i64 0, .int .i64 0] 33)
        have hzn : u1.heap.size < (u1.alloc (.cells #[.int .i64 9, .bool true, .int .i64 0, .int .i64 0, .int .i64 9, .bool true, .int .i64 0, .int .i64 0] 33)).heap.size := by simp
        have hzm := Nat.le_of_lt hzn
        have hbz := BB.out.size
        have RBn := Lib.hid (readc_nwj (w := u1) (T := 33) (cs := #[.int .i64 9, .bool true, .int .i64 0, .int .i64 0, .int .i64 9, .bool true, .int .i64 0, .int .i64 0]) (xs := recC [(9, true, 0, 0), (9, true, 0, 0)]) rfl)
        refine hK.out _ _ (.inr ⟨cell_keepJ k0 BBn, cell_keepJ k1 BBn, cell_keepJ k2 BBn, cell_keepJ k3 BBn⟩) ?_
        clear hK K
        (try simp only [Act.put, List.setIfInBounds_toArray, List.set_cons_zero, List.set_cons_succ])
        have BBm := Lib.hid BBn
        clear BBn
        clear BB
        generalize hvv : u1.alloc (.cells #[.int .i64 9, .bool true, .int .i64 0, .int .i64 0, .int .i64 9, .bool true, .int .i64 0, .int .i64 0] 33) = u2 at *
        clear hvv
        obtain ⟨p2, hpp2⟩ : ∃ x, x = u1.heap.size := ⟨_, rfl⟩
        rw [← hpp2] at hzn RBn ⊢
        clear hpp2
        have RB := RBn
        clear RBn
        have BB := BBm
        clear BBm
        refine wpAnyZ_ready (rs := [12]) (by kernel_rfl) (by simp) ?_
        refine AllZ.cons (i := 12) (o := ?o87) ?hi87 (fun K hK => ?ra87) ?mr87
        case hi87 => simp only [List.getElem?_toArray, List.getElem?_cons_succ, List.getElem?_cons_zero]; rfl
        case ra87 =>
          go_simp
          have BBn := b_alloc BB.out (.cells #[] 33)
          have hzn : u2.heap.size < (u2.alloc (.cells #[] 33)).heap.size := by simp
          have hzm := Nat.le_of_lt hzn
          have hbz := BB.out.size
          have RBn := Lib.hid (RB.out.alloc (.cells #[] 33))
          have OBn := Lib.hid (World.ownsRow_lit (e := 33) (size := 4) (base := w4.heap.size) u2 #[] 0 BB.out.size (by simp [maxLen]) (by simp))
          have hpp : p2 ≠ u2.heap.size := by omega
          refine hK.out _ _ (.inr ⟨cell_keepJ k0 BBn, cell_keepJ k1 BBn, cell_keepJ k2 BBn, cell_keepJ k3 BBn⟩) ?_
          clear hK K
          (try simp only [Act.put, List.setIfInBounds_toArray, List.set_cons_zero, List.set_cons_succ])
          have BBm := Lib.hid BBn
          clear BBn
          clear RB
          clear BB
          generalize hvv : u2.alloc (.cells #[] 33) = u3 at *
          clear hvv
          obtain ⟨p1, hpp1⟩ : ∃ x, x = u2.heap.size := ⟨_, rfl⟩
          rw [← hpp1] at hzn OBn hpp ⊢
          clear hpp1
          have OB := OBn
          have RB := RBn
          clear OBn RBn
          have BB := BBm
          clear BBm
          refine wpAnyZ_ready (rs := [14]) (by kernel_rfl) (by simp) ?_
          refine AllZ.cons (i := 14) (o := ?o88) ?hi88 (fun K hK => ?ra88) ?mr88
          case hi88 => simp only [List.getElem?_toArray, List.getElem?_cons_succ, List.getElem?_cons_zero]; rfl
          case ra88 =>
            refine step_append_rg _ (by rfl) (.tmp 36) (.tmp 37) 25 (by rfl) w4.heap.size 33 i0 (.agg #[.int .i64 0, .bool false, .int .i64 0, .int .i64 0]) 4 32 Try.underlying25 hi0 hz0 hz1 hz2 rfl (by decide) _ 0 [] OB.out ?_ A1 l.length c1 (recC l) ((own_read OX.out).below BB.out) (by simp [Act.eval, Act.put] <;> fail) (by rw [recC_length]; omega) (recC_one l) (by simp only [maxLen]; omega) (by omega) BB.out.size ?_
            simp [Act.eval, Act.put]
            intro v5 u4 o5 g5 d5
            rw [Nat.zero_add] at o5
            obtain ⟨A5, c5, rfl⟩ := own_slice o5
            have BBn := Below.grown BB.out g5 BB.out.size (fun k hk => (OB.out.lt k hk).1)
            have hzn := g5.size
            have hbz := BB.out.size
            have RBn := Lib.hid (readc_grown RB.out g5 (by simp [Value.ownBlock]; omega))
            refine hK.out _ _ (.inr ⟨cell_keepJ k0 BBn, cell_keepJ k1 BBn, cell_keepJ k2 BBn, cell_keepJ k3 BBn⟩) ?_
            clear hK K
            (try simp only [Act.put, List.setIfInBounds_toArray, List.set_cons_zero, List.set_cons_succ])
            have OA := Lib.hid o5
            clear OB o5 g5 d5 BB
            clear RB
            have RB := RBn
            clear RBn
            have BB := Lib.hid BBn
            clear BBn
            refine wpAnyZ_ready (rs := [18]) (by kernel_rfl) (by simp) ?_
            refine AllZ.cons (i := 18) (o := ?o89) ?hi89 (fun K hK => ?ra89) ?mr89
            case hi89 => simp only [List.getElem?_toArray, List.getElem?_cons_succ, List.getElem?_cons_zero]; rfl
            case ra89 =>
              refine step_append_rg _ (by rfl) (.tmp 38) (.tmp 41) 25 (by rfl) w4.heap.size 33 i0 (.agg #[.int .i64 0, .bool false, .int .i64 0, .int .i64 0]) 4 32 Try.underlying25 hi0 hz0 hz1 hz2 rfl (by decide) _ l.length (recC l) OA.out ?_ (some ⟨p2, 0, none⟩) 2 2 (recC [(9, true, 0, 0), (9, true, 0, 0)]) RB.out (by simp [Act.eval, Act.put] <;> fail) rfl (recC_one _) (by simp only [maxLen]; omega) (by omega) BB.out.size ?_
              simp [Act.eval, Act.put]
              intro v6 u5 o6 g6 d6
              obtain ⟨A6, c6, rfl⟩ := own_slice o6
              have BBn := Below.grown BB.out g6 BB.out.size (fun k hk => (OA.out.lt k hk).1)
              have hzn := g6.size
              have hbz := BB.out.size
              refine hK.out _ _ (.inr ⟨cell_keepJ k0 BBn, cell_keepJ k1 BBn, cell_keepJ k2 BBn, cell_keepJ k3 BBn⟩) ?_
              clear hK K
              (try simp only [Act.put, List.setIfInBounds_toArray, List.set_cons_zero, List.set_cons_succ])
              have O6 := Lib.hid o6
              clear OA RB o6 g6 d6 BB
              have BB := Lib.hid BBn
              clear BBn
              refine wpAnyZ_one (i := 20) (o := ?o90) (by kernel_rfl) ?hi90 (fun K hK => ?rest90)
              case hi90 => simp only [List.getElem?_toArray, List.getElem?_cons_succ, List.getElem?_cons_zero]; rfl
              have LL : (l ++ [(9, true, 0, 0), (9, true, 0, 0)]).length = l.length + 2 := by simp
              have O7 := Lib.hid (show u5.ownsRow w4.heap.size 33 4 (.slice A6 (l ++ [(9, true, 0, 0), (9, true, 0, 0)]).length c6) (l ++ [(9, true, 0, 0), (9, true, 0, 0)]).length (recC (l ++ [(9, true, 0, 0), (9, true, 0, 0)])) by rw [recC_append, LL]; exact O6.out)
              have hj := implJr_any A6 c6 (l ++ [(9, true, 0, 0), (9, true, 0, 0)]) size u5 (RecsIn.of (own_read O7.out)) (by rw [LL]; omega) (own_cap O7.out).1 (own_cap O7.out).2
              rw [LL] at hj
              have HJ := Lib.hid hj
              clear hj LL O7 O6
              go_simp
              go_at_call 15; refine HJ.out.mono ?_; rintro e w7 ⟨rfl, b7⟩; rw [jr_twice]; (try dsimp only)
              have BBn := BB.out.trans (b7.mono BB.out.size)
              refine hK.out _ _ (.inr ⟨cell_keepJ k0 BBn, cell_keepJ k1 BBn, cell_keepJ k2 BBn, cell_keepJ k3 BBn⟩) ?_
              clear hK K
              (try simp only [Act.put, List.setIfInBounds_toArray, List.set_cons_zero, List.set_cons_succ])
              clear BB HJ b7
              have BB := Lib.hid BBn
              clear BBn
              refine wpAnyZ_take (i := 21) (oi := ?o91) (v := ?v91) ?hi91 (by kernel_rfl) (by kernel_rfl) (by kernel_rfl) (by kernel_rfl) ?hq91 ?hy91 ⟨cell_keepJ k0 BB.out, cell_keepJ k1 BB.out, cell_keepJ k2 BB.out, cell_keepJ k3 BB.out⟩ ?rest91
              case hi91 => simp only [List.getElem?_toArray, List.getElem?_cons_succ, List.getElem?_cons_zero]; rfl
              case hq91 => exact fun _ _ _ h => h
              case hy91 => (refine Or.inl ⟨by rfl, ?_⟩; intro w hSw; (try dsimp only at hSw); go_simp; (try with_reducible rfl))
              simp only [Act.put, List.setIfInBounds_toArray, List.set_cons_zero, List.set_cons_succ]
              refine wpAnyZ_take (i := 22) (oi := ?o92) (v := ?v92) ?hi92 (by kernel_rfl) (by kernel_rfl) (by kernel_rfl) (by kernel_rfl) ?hq92 ?hy92 ⟨cell_keepJ k0 BB.out, cell_keepJ k1 BB.out, cell_keepJ k2 BB.out, cell_keepJ k3 BB.out⟩ ?rest92
              case hi92 => simp only [List.getElem?_toArray, List.getElem?_cons_succ, List.getElem?_cons_zero]; rfl
              case hq92 => exact fun _ _ _ h => h
              case hy92 => (refine Or.inl ⟨by rfl, ?_⟩; intro w hSw; (try dsimp only at hSw); go_simp; (try with_reducible rfl))
              simp only [Act.put, List.setIfInBounds_toArray, List.set_cons_zero, List.set_cons_succ]
              refine wpAnyZ_take (i := 23) (oi := ?o93) (v := ?v93) ?hi93 (by kernel_rfl) (by kernel_rfl) (by kernel_rfl) (by kernel_rfl) ?hq93 ?hy93 ⟨cell_keepJ k0 BB.out, cell_keepJ k1 BB.out, cell_keepJ k2 BB.out, cell_keepJ k3 BB.out⟩ ?rest93
              case hi93 => simp only [List.getElem?_toArray, List.getElem?_cons_succ, List.getElem?_cons_zero]; rfl
              case hq93 => exact fun _ _ _ h => h
              case hy93 => (refine Or.inl ⟨by rfl, ?_⟩; intro w hSw; (try dsimp only at hSw); go_simp; (try with_reducible rfl))
              simp only [Act.put, List.setIfInBounds_toArray, List.set_cons_zero, List.set_cons_succ]
              refine wpAnyZ_one (i := 24) (o := ?o94) (by kernel_rfl) ?hi94 (fun K hK => ?rest94)
              case hi94 => simp only [List.getElem?_toArray, List.getElem?_cons_succ, List.getElem?_cons_zero]; rfl
              go_simp
              go_at_call 18; refine (alive_any _).mono ?_; rintro e w8 ⟨rfl, b8⟩; (try dsimp only)
              have BBn := BB.out.trans (b8.mono BB.out.size)
              refine hK.out _ _ (.inr ⟨cell_keepJ k0 BBn, cell_keepJ k1 BBn, cell_keepJ k2 BBn, cell_keepJ k3 BBn⟩) ?_
              clear hK K
              (try simp only [Act.put, List.setIfInBounds_toArray, List.set_cons_zero, List.set_cons_succ])
              clear BB b8
              have BB := Lib.hid BBn
              clear BBn
              refine wpAnyZ_take (i := 25) (oi := ?o95) (v := ?v95) ?hi95 (by kernel_rfl) (by kernel_rfl) (by kernel_rfl) (by kernel_rfl) ?hq95 ?hy95 ⟨cell_keepJ k0 BB.out, cell_keepJ k1 BB.out, cell_keepJ k2 BB.out, cell_keepJ k3 BB.out⟩ ?rest95
              case hi95 => simp only [List.getElem?_toArray, List.getElem?_cons_succ, List.getElem?_cons_zero]; rfl
              case hq95 => exact fun _ _ _ h => h
              case hy95 => (refine Or.inl ⟨by rfl, ?_⟩; intro w hSw; (try dsimp only at hSw); go_simp; (try with_reducible rfl))
              simp only [Act.put, List.setIfInBounds_toArray, List.set_cons_zero, List.set_cons_succ]
              refine wpAnyZ_one (i := 26) (o := ?o96) (by kernel_rfl) ?hi96 (fun K hK => ?rest96)
              case hi96 => simp only [List.getElem?_toArray, List.getElem?_cons_succ, List.getElem?_cons_zero]; rfl
              go_simp
              refine hK.out _ _ (.inr ?hs96) ?more96
              case hs96 => exact ⟨cell_keepJ k0 BB.out, cell_keepJ k1 BB.out, cell_keepJ k2 BB.out, cell_keepJ k3 BB.out⟩
              clear hK K
              (try simp only [Act.put, List.setIfInBounds_toArray, List.set_cons_zero, List.set_cons_succ])
              refine wpAnyZ_done (by kernel_rfl) ?_ _
              have hfin := Lib.hid (CX.out.trans (BB.out.mono CX.out.size))
              clear BB
              go_wp2
              go_ret
              exact ⟨rfl, hfin.out⟩
            exact AllZ.nil
          exact AllZ.nil
        exact AllZ.nil
      exact AllZ.nil

set_option maxRecDepth 100000 in
theorem lifted (os : Os) (started : os.Started) (H : Type) (enc : TypeId × Value → H) :
    ReturnsInHanded {} Try.checked os 4 .any (Rows.fnJournalValidSpec.pre6 enc Try.prog Try.f4 Rows.fnJournalValidRow.domain false) (Rows.fnJournalValidSpec.post enc Try.prog Try.f4 false true false false) := by
  refine returnsInHanded_of_change (C := Try.checked) own started (by kernel_rfl) Try.func4
    (ChangeSpec.witness6 (enc := enc) (C := Try.checked) false ⟨#[], #[.slice none 0 0], []⟩ 8 (by kernel_rfl) (by kernel_rfl) (by kernel_rfl) (by kernel_rfl)) ?_
  intro W base args ds gs before hval0 hW hcnd _
  have hval : ∀ (j : Nat) t v, Try.f4.params[j]? = some t → args[j]? = some v → Value.okWide Try.prog W .any base t v := hval0
  have hW' := hW
  obtain ⟨p, q, hA0, hV, rfl, hfz, hnd⟩ := hW
  have hA : DataW.TrodAll enc Try.prog W 0 (fun _ => true) true Try.f4.params.toList args.toList ds p := hA0
  rw [Try.params4] at hA hval
  obtain ⟨v0, vs0, d0, ds0, p0, q0, hargs, rfl, rfl, h0, r0⟩ := trodAll_cons hA
  obtain ⟨rfl, rfl, rfl⟩ := trodAll_nil r0
  obtain rfl : args = #[v0] := by cases args; simp_all
  obtain ⟨rfl, rfl⟩ := trodVars_none hV
  have k0 := h0
  have lt0 : ∀ x ∈ p0, x.block < W.heap.size := by obtain ⟨m, hm⟩ := k0; exact DataW.trod_lt m _ _ _ hm
  obtain ⟨a0, n0, c0, rfl, ok0, le0, cl0⟩ := open_bytes (hval 0 29 v0 rfl rfl) h0
  clear hA0 hval0
  refine (walk a0 n0 c0 W ok0 le0 cl0).mono fun e W' ⟨he, bel⟩ => ?_
  subst he
  exact ⟨_, rfl, _, _, _, [], _, [], hW', trodAll_mk1 (shut_bool Try.underlying4 _), (trodAll_cons_mk (Below.trod laidOut (by kernel_rfl) (of_decide_eq_true (by kernel_rfl)) k0 bel lt0) trodAll_mk0), rfl, bel.frame _, fun h => by cases h⟩

theorem proved : Rows.FnJournalValidSaid :=
  OpenClaim.holds_of_wide 4 Try.f4 rfl rfl rfl rfl rfl rfl rfl ⟨rfl, rfl, rfl, rfl, rfl⟩ rfl rfl rfl rfl rfl (by kernel_rfl) Try.func4 (by kernel_rfl)
    (of_decide_eq_true (by kernel_rfl)) (by unfold Func.isWrapper; first | (rw [if_pos (by decide +kernel)]; kernel_rfl) | (rw [if_neg (by decide +kernel)]; exact ⟨rfl, rfl⟩))
    (fun os started H enc _ => lifted os started H enc)
#print axioms proved
end Go.Proofs.Ythghngphamimgaa.fnJournalValid
