/- Proves Rows.FnPartsValidSaid: for every input the law FnPartsValid returns true and leaves its arguments as they were. Conditions: none. -/
import Derived.Test.YtpfbkmpjneclpaaOpen
import Derived.Test.YtpfbkmpjneclpaaDrawPs
import Derived.Test.YtpfbkmpjneclpaaRegZ
import Derived.Test.YtpfbkmpjneclpaaAppH
import Derived.Test.YtpfbkmpjneclpaaInts
namespace Go.Proofs.Ytpfbkmpjneclpaa.fnPartsValid
open Go.ChangeShapes Go.WideShapes Go.ChangeAt Go.RowKit
set_option linter.unusedVariables false
theorem cell_keepP {w w' : World} {p : Addr} {v : Value} (h : w.cell? p = some v) (hb : Below w.heap.size w w') : w'.cell? p = some v :=
  (World.cell?_of_block (hb.block _ (block_lt_of_cell h))).trans h
theorem readc_nwp {w : World} {T : TypeId} {cs : Array Value} {xs : List Value} (h : xs = cs.toList) : ReadC (w.alloc (.cells cs T)) (some ⟨w.heap.size, 0, none⟩) xs := by
  subst h
  intro h0
  refine ⟨w.heap.size, 0, rfl, fun i hi => ?_⟩
  rw [Nat.zero_add, cell_of_row _ _ _ _ _ _ (heap_alloc_new w _)]
  rw [Array.length_toList] at hi
  rw [Array.getElem?_eq_getElem hi, Array.getElem_toList]
theorem parts_one (l : List (Int × Int)) : ∀ u ∈ partsC l, u.oneCell' = true := by
  intro u hu
  simp only [partsC, List.mem_flatMap] at hu
  obtain ⟨q, _, hq⟩ := hu
  simp only [List.mem_cons, List.not_mem_nil, or_false] at hq
  rcases hq with rfl | rfl <;> rfl
theorem partsC_app (l m : List (Int × Int)) : partsC (l ++ m) = partsC l ++ partsC m := by simp [partsC]
theorem partsOk_less {size : Int} : ∀ {l : List (Int × Int)} {a b : Int}, a ≤ b → partsOk size b l = true → partsOk size a l = true
  | [], _, _, _, _ => rfl
  | p :: r, a, b, h, hp => by
    simp only [partsOk, Bool.and_eq_true, inB_iff] at hp ⊢
    exact ⟨⟨by omega, hp.1.2⟩, hp.2⟩
/-- Valid partitions but the first are valid. -/
theorem parts_tail {l : List (Int × Int)} {size : Int} (h : partsB l size = true) : partsB l.tail size = true := by
  cases l with
  | nil => exact h
  | cons p r =>
    simp only [partsB, Bool.and_eq_true, decide_eq_true_eq, partsOk, inB_iff, List.length_cons, List.tail_cons] at h ⊢
    obtain ⟨⟨h1, h2⟩, ⟨⟨h3, h4⟩, h5⟩⟩ := h
    refine ⟨⟨h1, ?_⟩, ?_⟩
    · exact decide_eq_true (by omega)
    · exact partsOk_less (b := p.1 + p.2) (by omega) h5
theorem partsOk_twice (size : Int) (q : Int × Int) : ∀ (l : List (Int × Int)) (a : Int), partsOk size a (l ++ [q, q]) = false
  | [], a => by
    cases h : partsOk size a ([] ++ [q, q])
    · rfl
    · simp only [List.nil_append, partsOk, Bool.and_eq_true, inB_iff] at h
      omega
  | p :: r, a => by
    rw [List.cons_append, partsOk, partsOk_twice size q r, Bool.and_false]
/-- The last partition twice is one too many. -/
theorem parts_twice {l : List (Int × Int)} (size : Int) (h : 0 < l.length) : partsB (l ++ [l[l.length - 1]]) size = false := by
  have e : l = l.take (l.length - 1) ++ [l[l.length - 1]] := by
    have h1 := List.take_succ_eq_append_getElem (show l.length - 1 < l.length by omega)
    rw [show l.length - 1 + 1 = l.length by omega, List.take_of_length_le (Nat.le_refl _)] at h1
    exact h1
  have h2 : partsOk size 0 (l ++ [l[l.length - 1]]) = false := by
    obtain ⟨q, hq⟩ : ∃ q, q = l[l.length - 1] := ⟨_, rfl⟩
    rw [← hq] at e ⊢
    rw [e, List.append_assoc]
    exact partsOk_twice size q _ _
  simp [partsB, h2]

set_option linter.unusedSimpArgs false in
set_option maxHeartbeats 4000000 in
theorem walk (A : Option Addr) (m cp : Nat) (w : World) (hb : BytesIn w A m) (hmc : m ≤ cp) (hcp : cp ≤ 9223372036854775807) :
    Calls Try.prog 7 #[.slice A m cp] w fun e w' => e = .returned (.bool true) ∧ Below w.heap.size w w' := by
  obtain ⟨i0, hi0, hz0, hz1, hz2⟩ := info_parts rowinfo_parts
  by_cases hbig : 1048576 < m
  · go_enter Try.func7, Try.ntmps7
    go_wp2
    go_ret
    exact ⟨rfl, Below.refl _ _⟩
  · go_enter Try.func7, Try.ntmps7
    go_wp2_with fail
    refine (drawPartsValid_c A m cp w hb hmc hcp).mono ?_
    rintro e w1 ⟨ad, c1, l, size, rfl, r1, hl, s0, s1, b1, hlc, hc1⟩
    have R1 := Lib.hid r1
    have C1 := Lib.hid b1
    clear r1 b1 hb
    go_wp2_with fail
    refine (implParts_any _ _ l size _ (PartsIn.of R1.out) (by omega)).mono ?_
    rintro e w2 ⟨rfl, b2⟩
    have R2 := Lib.hid (R1.out.below b2)
    have C2 := Lib.hid (C1.out.trans (b2.mono C1.out.size))
    clear b2 R1 C1
    go_wp2_with fail
    refine (specParts_any _ _ l size _ (PartsIn.of R2.out) (by omega)).mono ?_
    rintro e w3 ⟨rfl, b3⟩
    have R3 := Lib.hid (R2.out.below b3)
    have C3 := Lib.hid (C2.out.trans (b3.mono C2.out.size))
    clear b3 R2 C2
    have hne : (partsB l size != partsB l size) = false := by simp
    cases hv : partsB l size
    · rw [hv] at hne
      go_wp2_with fail
      refine (alive_any _).mono ?_
      rintro e w4 ⟨rfl, b4⟩
      have C4 := Lib.hid (C3.out.trans (b4.mono C3.out.size))
      clear b4
      go_wp2
      go_ret
      exact ⟨rfl, C4.out⟩
    rcases Nat.eq_zero_or_pos l.length with h0 | h0
    · rw [hv] at hne
      have e0 : ((l.length : Int) == 0) = true := by simp [h0]
      clear h0
      go_wp2_with fail
      refine (alive_any _).mono ?_
      rintro e w4 ⟨rfl, b4⟩
      have C4 := Lib.hid (C3.out.trans (b4.mono C3.out.size))
      clear b4
      go_wp2
      go_ret
      exact ⟨rfl, C4.out⟩
    rw [hv] at hne
    have e0 : ((l.length : Int) == 0) = false := by rw [beq_eq_false_iff_ne]; omega
    have htw := Lib.hid (parts_twice size h0)
    have htl := Lib.hid (parts_tail hv)
    obtain ⟨b, off, hA, hc⟩ := PartsIn.of R3.out h0
    obtain ⟨k0, k1⟩ := hc (l.length - 1) (by omega)
    obtain ⟨⟨q1, q2⟩, hq⟩ : ∃ q : Int × Int, q = l[l.length - 1] := ⟨_, rfl⟩
    rw [← hq] at k0 k1 htw
    simp only at k0 k1
    injection hA with hA
    subst hA
    have HR := R3
    have htp : PartsIn w3 (some ⟨b, off + 2, none⟩) l.tail := by
      intro _
      refine ⟨b, off + 2, rfl, fun i hi => ?_⟩
      rw [List.length_tail] at hi
      obtain ⟨a1, a2⟩ := hc (i + 1) (by omega)
      rw [List.getElem_tail]
      exact ⟨by rw [show off + 2 + i * 2 = off + (i + 1) * 2 by omega]; exact a1, by rw [show off + 2 + i * 2 + 1 = off + (i + 1) * 2 + 1 by omega]; exact a2⟩
    have HTP := Lib.hid htp
    obtain ⟨n, hn⟩ : ∃ n, n = l.length := ⟨_, rfl⟩
    obtain ⟨j, hj⟩ : ∃ j, j = l.length - 1 := ⟨_, rfl⟩
    rw [← hj] at k0 k1
    rw [← hn] at e0 hlc hj h0 hl
    have dn : IntKind.i64.wrap ((n : Int) - 1) = (j : Int) := by rw [IntWalk.i64_in _ (by omega)]; omega
    have ix1 : (0 : Int) ≤ (j : Int) := by omega
    have ix2 : (j : Int) < (n : Int) := by omega
    have ix3 : (1 : Int) ≤ (n : Int) := by omega
    have ix4 : (n : Int) ≤ (c1 : Int) := by omega
    have HN := Lib.hid hn
    have HJJ := Lib.hid hj
    clear hc hq hv htp hj R3
    rw [← hn]
    clear hn
    go_wp2
    refine wp_region_Z (fun w' : World => w'.cell? ⟨b, off + j * 2, none⟩ = some (.int .i64 q1) ∧ w'.cell? ⟨b, off + j * 2 + 1, none⟩ = some (.int .i64 q2)) 99 (by kernel_rfl) ?_
    generalize hv0 : w3.drew = u0
    have BB := Lib.hid (show Below w3.heap.size w3 u0 by rw [← hv0]; exact (Below.refl _ _).drew)
    clear hv0
    refine wpAnyZ_take (i := 0) (oi := ?o1) (v := ?v1) ?hi1 (by kernel_rfl) (by kernel_rfl) (by kernel_rfl) (by kernel_rfl) ?hq1 ?hy1 ⟨cell_keepP k0 BB.out, cell_keepP k1 BB.out⟩ ?rest1
    case hi1 => simp only [List.getElem?_toArray, List.getElem?_cons_succ, List.getElem?_cons_zero]; rfl
    case hq1 => exact fun _ _ _ h => h
    case hy1 => (refine Or.inl ⟨by rfl, ?_⟩; intro w hSw; (try dsimp only at hSw); go_simp; (try with_reducible rfl))
    simp only [Act.put, List.setIfInBounds_toArray, List.set_cons_zero, List.set_cons_succ]
    refine wpAnyZ_take (i := 1) (oi := ?o2) (v := ?v2) ?hi2 (by kernel_rfl) (by kernel_rfl) (by kernel_rfl) (by kernel_rfl) ?hq2 ?hy2 ⟨cell_keepP k0 BB.out, cell_keepP k1 BB.out⟩ ?rest2
    case hi2 => simp only [List.getElem?_toArray, List.getElem?_cons_succ, List.getElem?_cons_zero]; rfl
    case hq2 => exact fun _ _ _ h => h
    case hy2 => (refine Or.inl ⟨by rfl, ?_⟩; intro w hSw; (try dsimp only at hSw); go_simp; (try with_reducible rfl))
    simp only [Act.put, List.setIfInBounds_toArray, List.set_cons_zero, List.set_cons_succ]
    refine wpAnyZ_take (i := 2) (oi := ?o3) (v := ?v3) ?hi3 (by kernel_rfl) (by kernel_rfl) (by kernel_rfl) (by kernel_rfl) ?hq3 ?hy3 ⟨cell_keepP k0 BB.out, cell_keepP k1 BB.out⟩ ?rest3
    case hi3 => simp only [List.getElem?_toArray, List.getElem?_cons_succ, List.getElem?_cons_zero]; rfl
    case hq3 => exact fun _ _ _ h => h
    case hy3 => (refine Or.inl ⟨by rfl, ?_⟩; intro w hSw; (try dsimp only at hSw); go_simp; (try with_reducible rfl))
    simp only [Act.put, List.setIfInBounds_toArray, List.set_cons_zero, List.set_cons_succ]
    refine wpAnyZ_one (i := 3) (o := ?o4) (by kernel_rfl) ?hi4 (fun K hK => ?rest4)
    case hi4 => simp only [List.getElem?_toArray, List.getElem?_cons_succ, List.getElem?_cons_zero]; rfl
    have ht1 : PartsIn u0 (if c1 = 1 then some ⟨b, off, none⟩ else some ⟨b, off + 2, none⟩) l.tail := by
      by_cases hcc : c1 = 1
      · intro h9
        rw [List.length_tail, ← HN.out] at h9
        omega
      · rw [if_neg hcc]
        exact HTP.out.below BB.out
    have hj0 := implParts_any _ (c1 - 1) l.tail size u0 ht1 (by rw [List.length_tail, ← HN.out]; omega)
    rw [List.length_tail, ← HN.out] at hj0
    have HJ0 := Lib.hid hj0
    clear hj0 ht1
    go_simp
    go_at_call 18; refine HJ0.out.mono ?_; rintro e u1 ⟨rfl, b1⟩; rw [htl.out]; (try dsimp only)
    have BBn := BB.out.trans (b1.mono BB.out.size)
    refine hK.out _ _ (.inr ⟨cell_keepP k0 BBn, cell_keepP k1 BBn⟩) ?_
    clear hK K
    (try simp only [Act.put, List.setIfInBounds_toArray, List.set_cons_zero, List.set_cons_succ])
    clear BB HJ0 b1
    have BB := Lib.hid BBn
    clear BBn
    refine wpAnyZ_take (i := 4) (oi := ?o5) (v := ?v5) ?hi5 (by kernel_rfl) (by kernel_rfl) (by kernel_rfl) (by kernel_rfl) ?hq5 ?hy5 ⟨cell_keepP k0 BB.out, cell_keepP k1 BB.out⟩ ?rest5
    case hi5 => simp only [List.getElem?_toArray, List.getElem?_cons_succ, List.getElem?_cons_zero]; rfl
    case hq5 => exact fun _ _ _ h => h
    case hy5 => (refine Or.inl ⟨by rfl, ?_⟩; intro w hSw; (try dsimp only at hSw); go_simp; (try with_reducible rfl))
    simp only [Act.put, List.setIfInBounds_toArray, List.set_cons_zero, List.set_cons_succ]
    refine wpAnyZ_take (i := 6) (oi := ?o6) (v := ?v6) ?hi6 (by kernel_rfl) (by kernel_rfl) (by kernel_rfl) (by kernel_rfl) ?hq6 ?hy6 ⟨cell_keepP k0 BB.out, cell_keepP k1 BB.out⟩ ?rest6
    case hi6 => simp only [List.getElem?_toArray, List.getElem?_cons_succ, List.getElem?_cons_zero]; rfl
    case hq6 => exact fun _ _ _ h => h
    case hy6 => (refine Or.inl ⟨by rfl, ?_⟩; intro w hSw; (try dsimp only at hSw); go_simp; (try with_reducible rfl))
    simp only [Act.put, List.setIfInBounds_toArray, List.set_cons_zero, List.set_cons_succ]
    refine wpAnyZ_take (i := 8) (oi := ?o7) (v := ?v7) ?hi7 (by kernel_rfl) (by kernel_rfl) (by kernel_rfl) (by kernel_rfl) ?hq7 ?hy7 ⟨cell_keepP k0 BB.out, cell_keepP k1 BB.out⟩ ?rest7
    case hi7 => simp only [List.getElem?_toArray, List.getElem?_cons_succ, List.getElem?_cons_zero]; rfl
    case hq7 => exact fun _ _ _ h => h
    case hy7 => (refine Or.inl ⟨by rfl, ?_⟩; intro w hSw; (try dsimp only at hSw); go_simp; (try with_reducible rfl))
    simp only [Act.put, List.setIfInBounds_toArray, List.set_cons_zero, List.set_cons_succ]
    refine wpAnyZ_take (i := 9) (oi := ?o8) (v := ?v8) ?hi8 (by kernel_rfl) (by kernel_rfl) (by kernel_rfl) (by kernel_rfl) ?hq8 ?hy8 ⟨cell_keepP k0 BB.out, cell_keepP k1 BB.out⟩ ?rest8
    case hi8 => simp only [List.getElem?_toArray, List.getElem?_cons_succ, List.getElem?_cons_zero]; rfl
    case hq8 => exact fun _ _ _ h => h
    case hy8 => (refine Or.inl ⟨by rfl, ?_⟩; intro w hSw; (try dsimp only at hSw); go_simp; (try with_reducible rfl))
    simp only [Act.put, List.setIfInBounds_toArray, List.set_cons_zero, List.set_cons_succ]
    refine wpAnyZ_take (i := 10) (oi := ?o9) (v := ?v9) ?hi9 (by kernel_rfl) (by kernel_rfl) (by kernel_rfl) (by kernel_rfl) ?hq9 ?hy9 ⟨cell_keepP k0 BB.out, cell_keepP k1 BB.out⟩ ?rest9
    case hi9 => simp only [List.getElem?_toArray, List.getElem?_cons_succ, List.getElem?_cons_zero]; rfl
    case hq9 => exact fun _ _ _ h => h
    case hy9 => (refine Or.inl ⟨by rfl, ?_⟩; intro w hSw; (try dsimp only at hSw); go_simp; (try with_reducible rfl))
    simp only [Act.put, List.setIfInBounds_toArray, List.set_cons_zero, List.set_cons_succ]
    refine wpAnyZ_take (i := 11) (oi := ?o10) (v := ?v10) ?hi10 (by kernel_rfl) (by kernel_rfl) (by kernel_rfl) (by kernel_rfl) ?hq10 ?hy10 ⟨cell_keepP k0 BB.out, cell_keepP k1 BB.out⟩ ?rest10
    case hi10 => simp only [List.getElem?_toArray, List.getElem?_cons_succ, List.getElem?_cons_zero]; rfl
    case hq10 => exact fun _ _ _ h => h
    case hy10 => (refine Or.inl ⟨by rfl, ?_⟩; intro w hSw; (try dsimp only at hSw); go_simp; (try with_reducible rfl))
    simp only [Act.put, List.setIfInBounds_toArray, List.set_cons_zero, List.set_cons_succ]
    refine wpAnyZ_take (i := 12) (oi := ?o11) (v := ?v11) ?hi11 (by kernel_rfl) (by kernel_rfl) (by kernel_rfl) (by kernel_rfl) ?hq11 ?hy11 ⟨cell_keepP k0 BB.out, cell_keepP k1 BB.out⟩ ?rest11
    case hi11 => simp only [List.getElem?_toArray, List.getElem?_cons_succ, List.getElem?_cons_zero]; rfl
    case hq11 => exact fun _ _ _ h => h
    case hy11 => (refine Or.inl ⟨by rfl, ?_⟩; intro w hSw; (try dsimp only at hSw); go_simp; (try with_reducible rfl))
    simp only [Act.put, List.setIfInBounds_toArray, List.set_cons_zero, List.set_cons_succ]
    refine wpAnyZ_take (i := 13) (oi := ?o12) (v := ?v12) ?hi12 (by kernel_rfl) (by kernel_rfl) (by kernel_rfl) (by kernel_rfl) ?hq12 ?hy12 ⟨cell_keepP k0 BB.out, cell_keepP k1 BB.out⟩ ?rest12
    case hi12 => simp only [List.getElem?_toArray, List.getElem?_cons_succ, List.getElem?_cons_zero]; rfl
    case hq12 => exact fun _ _ _ h => h
    case hy12 => (refine Or.inl ⟨by rfl, ?_⟩; intro w hSw; (try dsimp only at hSw); go_simp; (try with_reducible rfl))
    simp only [Act.put, List.setIfInBounds_toArray, List.set_cons_zero, List.set_cons_succ]
    refine wpAnyZ_take (i := 16) (oi := ?o13) (v := ?v13) ?hi13 (by kernel_rfl) (by kernel_rfl) (by kernel_rfl) (by kernel_rfl) ?hq13 ?hy13 ⟨cell_keepP k0 BB.out, cell_keepP k1 BB.out⟩ ?rest13
    case hi13 => simp only [List.getElem?_toArray, List.getElem?_cons_succ, List.getElem?_cons_zero]; rfl
    case hq13 => exact fun _ _ _ h => h
    case hy13 => (refine Or.inl ⟨by rfl, ?_⟩; intro w hSw; (try dsimp only at hSw); go_simp; (try with_reducible rfl))
    simp only [Act.put, List.setIfInBounds_toArray, List.set_cons_zero, List.set_cons_succ]
    refine wpAnyZ_ready (rs := [5, 14]) (by kernel_rfl) (by simp) ?_
    refine AllZ.cons (i := 5) (o := ?o14) ?hi14 (fun K hK => ?ra14) ?mr14
    case hi14 => simp only [List.getElem?_toArray, List.getElem?_cons_succ, List.getElem?_cons_zero]; rfl
    case ra14 =>
      go_simp
      have BBn := b_alloc BB.out (.cells #[] 47)
      have hzn : u1.heap.size < (u1.alloc (.cells #[] 47)).heap.size := by simp
      have hzm := Nat.le_of_lt hzn
      have hbz := BB.out.size
      have OBn := Lib.hid (World.ownsRow_lit (e := 47) (size := 2) (base := w3.heap.size) u1 #[] 0 BB.out.size (by simp [maxLen]) (by simp))
      refine hK.out _ _ (.inr ⟨cell_keepP k0 BBn, cell_keepP k1 BBn⟩) ?_
      clear hK K
      (try simp only [Act.put, List.setIfInBounds_toArray, List.set_cons_zero, List.set_cons_succ])
      have BBm := Lib.hid BBn
      clear BBn
      clear BB
      generalize hvv : u1.alloc (.cells #[] 47) = u2 at *
      clear hvv
      obtain ⟨p1, hpp1⟩ : ∃ x, x = u1.heap.size := ⟨_, rfl⟩
      rw [← hpp1] at hzn OBn ⊢
      clear hpp1
      have OB := OBn
      clear OBn
      have BB := BBm
      clear BBm
      refine wpAnyZ_ready (rs := [7, 14]) (by kernel_rfl) (by simp) ?_
      refine AllZ.cons (i := 7) (o := ?o15) ?hi15 (fun K hK => ?ra15) ?mr15
      case hi15 => simp only [List.getElem?_toArray, List.getElem?_cons_succ, List.getElem?_cons_zero]; rfl
      case ra15 =>
        refine step_append_rg _ (by rfl) (.tmp 35) (.tmp 36) 25 (by rfl) w3.heap.size 47 i0 (.agg #[.int .i64 0, .int .i64 0]) 2 16 Try.underlying25 hi0 hz0 hz1 hz2 rfl (by decide) _ 0 [] OB.out ?_ (some ⟨b, off, none⟩) n c1 (partsC l) (HR.out.below BB.out) (by simp [Act.eval, Act.put] <;> fail) (by rw [partsC_length, ← HN.out]; omega) (parts_one l) (by simp only [maxLen]; omega) (by omega) BB.out.size ?_
        simp [Act.eval, Act.put]
        intro v5 u3 o5 g5 d5
        rw [Nat.zero_add] at o5
        obtain ⟨A5, c5, rfl⟩ := own_slice o5
        have BBn := Below.grown BB.out g5 BB.out.size (fun k hk => (OB.out.lt k hk).1)
        have hzn := g5.size
        have hbz := BB.out.size
        refine hK.out _ _ (.inr ⟨cell_keepP k0 BBn, cell_keepP k1 BBn⟩) ?_
        clear hK K
        (try simp only [Act.put, List.setIfInBounds_toArray, List.set_cons_zero, List.set_cons_succ])
        have OA := Lib.hid o5
        clear OB o5 g5 d5 BB
        have BB := Lib.hid BBn
        clear BBn
        refine wpAnyZ_ready (rs := [14]) (by kernel_rfl) (by simp) ?_
        refine AllZ.cons (i := 14) (o := ?o16) ?hi16 (fun K hK => ?ra16) ?mr16
        case hi16 => simp only [List.getElem?_toArray, List.getElem?_cons_succ, List.getElem?_cons_zero]; rfl
        case ra16 =>
          go_simp
          have BBn := b_alloc BB.out (.cells #[.int .i64 q1, .int .i64 q2] 47)
          have hzn : u3.heap.size < (u3.alloc (.cells #[.int .i64 q1, .int .i64 q2] 47)).heap.size := by simp
          have hzm := Nat.le_of_lt hzn
          have hbz := BB.out.size
          have OAn := Lib.hid (OA.out.alloc (.cells #[.int .i64 q1, .int .i64 q2] 47))
          have RBn := Lib.hid (readc_nwp (w := u3) (T := 47) (cs := #[.int .i64 q1, .int .i64 q2]) (xs := partsC [(q1, q2)]) rfl)
          refine hK.out _ _ (.inr ⟨cell_keepP k0 BBn, cell_keepP k1 BBn⟩) ?_
          clear hK K
          (try simp only [Act.put, List.setIfInBounds_toArray, List.set_cons_zero, List.set_cons_succ])
          have BBm := Lib.hid BBn
          clear BBn
          clear OA
          clear BB
          generalize hvv : u3.alloc (.cells #[.int .i64 q1, .int .i64 q2] 47) = u4 at *
          clear hvv
          obtain ⟨p2, hpp2⟩ : ∃ x, x = u3.heap.size := ⟨_, rfl⟩
          rw [← hpp2] at hzn RBn ⊢
          clear hpp2
          have OA := OAn
          have RB := RBn
          clear OAn RBn
          have BB := BBm
          clear BBm
          refine wpAnyZ_ready (rs := [15]) (by kernel_rfl) (by simp) ?_
          refine AllZ.cons (i := 15) (o := ?o17) ?hi17 (fun K hK => ?ra17) ?mr17
          case hi17 => simp only [List.getElem?_toArray, List.getElem?_cons_succ, List.getElem?_cons_zero]; rfl
          case ra17 =>
            refine step_append_rg _ (by rfl) (.tmp 37) (.tmp 44) 25 (by rfl) w3.heap.size 47 i0 (.agg #[.int .i64 0, .int .i64 0]) 2 16 Try.underlying25 hi0 hz0 hz1 hz2 rfl (by decide) _ n (partsC l) OA.out ?_ (some ⟨p2, 0, none⟩) 1 1 (partsC [(q1, q2)]) RB.out (by simp [Act.eval, Act.put] <;> fail) rfl (parts_one _) (by simp only [maxLen]; omega) (by omega) BB.out.size ?_
            simp [Act.eval, Act.put]
            intro v6 u5 o6 g6 d6
            obtain ⟨A6, c6, rfl⟩ := own_slice o6
            have BBn := Below.grown BB.out g6 BB.out.size (fun k hk => (OA.out.lt k hk).1)
            have hzn := g6.size
            have hbz := BB.out.size
            refine hK.out _ _ (.inr ⟨cell_keepP k0 BBn, cell_keepP k1 BBn⟩) ?_
            clear hK K
            (try simp only [Act.put, List.setIfInBounds_toArray, List.set_cons_zero, List.set_cons_succ])
            have O6 := Lib.hid o6
            clear OA RB o6 g6 d6 BB
            have BB := Lib.hid BBn
            clear BBn
            refine wpAnyZ_one (i := 17) (o := ?o18) (by kernel_rfl) ?hi18 (fun K hK => ?rest18)
            case hi18 => simp only [List.getElem?_toArray, List.getElem?_cons_succ, List.getElem?_cons_zero]; rfl
            have LL : (l ++ [(q1, q2)]).length = n + 1 := by rw [HN.out]; simp
            have O7 := Lib.hid (show PartsIn u5 A6 (l ++ [(q1, q2)]) from PartsIn.of (by rw [partsC_app]; exact (OwnC.of_row O6.out).read))
            have hj := implParts_any A6 c6 (l ++ [(q1, q2)]) size u5 O7.out (by rw [LL]; omega)
            rw [LL] at hj
            have HJ := Lib.hid hj
            clear hj LL O7 O6
            go_simp
            go_at_call 18; refine HJ.out.mono ?_; rintro e w7 ⟨rfl, b7⟩; rw [htw.out]; (try dsimp only)
            have BBn := BB.out.trans (b7.mono BB.out.size)
            refine hK.out _ _ (.inr ⟨cell_keepP k0 BBn, cell_keepP k1 BBn⟩) ?_
            clear hK K
            (try simp only [Act.put, List.setIfInBounds_toArray, List.set_cons_zero, List.set_cons_succ])
            clear BB HJ b7
            have BB := Lib.hid BBn
            clear BBn
            refine wpAnyZ_take (i := 18) (oi := ?o19) (v := ?v19) ?hi19 (by kernel_rfl) (by kernel_rfl) (by kernel_rfl) (by kernel_rfl) ?hq19 ?hy19 ⟨cell_keepP k0 BB.out, cell_keepP k1 BB.out⟩ ?rest19
            case hi19 => simp only [List.getElem?_toArray, List.getElem?_cons_succ, List.getElem?_cons_zero]; rfl
            case hq19 => exact fun _ _ _ h => h
            case hy19 => (refine Or.inl ⟨by rfl, ?_⟩; intro w hSw; (try dsimp only at hSw); go_simp; (try with_reducible rfl))
            simp only [Act.put, List.setIfInBounds_toArray, List.set_cons_zero, List.set_cons_succ]
            refine wpAnyZ_take (i := 19) (oi := ?o20) (v := ?v20) ?hi20 (by kernel_rfl) (by kernel_rfl) (by kernel_rfl) (by kernel_rfl) ?hq20 ?hy20 ⟨cell_keepP k0 BB.out, cell_keepP k1 BB.out⟩ ?rest20
            case hi20 => simp only [List.getElem?_toArray, List.getElem?_cons_succ, List.getElem?_cons_zero]; rfl
            case hq20 => exact fun _ _ _ h => h
            case hy20 => (refine Or.inl ⟨by rfl, ?_⟩; intro w hSw; (try dsimp only at hSw); go_simp; (try with_reducible rfl))
            simp only [Act.put, List.setIfInBounds_toArray, List.set_cons_zero, List.set_cons_succ]
            refine wpAnyZ_one (i := 20) (o := ?o21) (by kernel_rfl) ?hi21 (fun K hK => ?rest21)
            case hi21 => simp only [List.getElem?_toArray, List.getElem?_cons_succ, List.getElem?_cons_zero]; rfl
            go_simp
            refine hK.out _ _ (.inr ?hs21) ?more21
            case hs21 => exact ⟨cell_keepP k0 BB.out, cell_keepP k1 BB.out⟩
            clear hK K
            (try simp only [Act.put, List.setIfInBounds_toArray, List.set_cons_zero, List.set_cons_succ])
            refine wpAnyZ_done (by kernel_rfl) ?_ _
            have hfin := Lib.hid (C3.out.trans (BB.out.mono C3.out.size))
            clear BB
            go_wp2
            all_goals
              go_ret
              exact ⟨rfl, hfin.out⟩
          exact AllZ.nil
        exact AllZ.nil
      refine AllZ.cons (i := 14) (o := ?o22) ?hi22 (fun K hK => ?ra22) ?mr22
      case hi22 => simp only [List.getElem?_toArray, List.getElem?_cons_succ, List.getElem?_cons_zero]; rfl
      case ra22 =>
        go_simp
        have BBn := b_alloc BB.out (.cells #[.int .i64 q1, .int .i64 q2] 47)
        have hzn : u2.heap.size < (u2.alloc (.cells #[.int .i64 q1, .int .i64 q2] 47)).heap.size := by simp
        have hzm := Nat.le_of_lt hzn
        have hbz := BB.out.size
        have OBn := Lib.hid (OB.out.alloc (.cells #[.int .i64 q1, .int .i64 q2] 47))
        have RBn := Lib.hid (readc_nwp (w := u2) (T := 47) (cs := #[.int .i64 q1, .int .i64 q2]) (xs := partsC [(q1, q2)]) rfl)
        have hpp : u2.heap.size ≠ p1 := by omega
        refine hK.out _ _ (.inr ⟨cell_keepP k0 BBn, cell_keepP k1 BBn⟩) ?_
        clear hK K
        (try simp only [Act.put, List.setIfInBounds_toArray, List.set_cons_zero, List.set_cons_succ])
        have BBm := Lib.hid BBn
        clear BBn
        clear OB
        clear BB
        generalize hvv : u2.alloc (.cells #[.int .i64 q1, .int .i64 q2] 47) = u3 at *
        clear hvv
        obtain ⟨p2, hpp2⟩ : ∃ x, x = u2.heap.size := ⟨_, rfl⟩
        rw [← hpp2] at hzn RBn hpp ⊢
        clear hpp2
        have OB := OBn
        have RB := RBn
        clear OBn RBn
        have BB := BBm
        clear BBm
        refine wpAnyZ_ready (rs := [7]) (by kernel_rfl) (by simp) ?_
        refine AllZ.cons (i := 7) (o := ?o23) ?hi23 (fun K hK => ?ra23) ?mr23
        case hi23 => simp only [List.getElem?_toArray, List.getElem?_cons_succ, List.getElem?_cons_zero]; rfl
        case ra23 =>
          refine step_append_rg _ (by rfl) (.tmp 35) (.tmp 36) 25 (by rfl) w3.heap.size 47 i0 (.agg #[.int .i64 0, .int .i64 0]) 2 16 Try.underlying25 hi0 hz0 hz1 hz2 rfl (by decide) _ 0 [] OB.out ?_ (some ⟨b, off, none⟩) n c1 (partsC l) (HR.out.below BB.out) (by simp [Act.eval, Act.put] <;> fail) (by rw [partsC_length, ← HN.out]; omega) (parts_one l) (by simp only [maxLen]; omega) (by omega) BB.out.size ?_
          simp [Act.eval, Act.put]
          intro v5 u4 o5 g5 d5
          rw [Nat.zero_add] at o5
          obtain ⟨A5, c5, rfl⟩ := own_slice o5
          have BBn := Below.grown BB.out g5 BB.out.size (fun k hk => (OB.out.lt k hk).1)
          have hzn := g5.size
          have hbz := BB.out.size
          have RBn := Lib.hid (readc_grown RB.out g5 (by simp [Value.ownBlock]; omega))
          refine hK.out _ _ (.inr ⟨cell_keepP k0 BBn, cell_keepP k1 BBn⟩) ?_
          clear hK K
          (try simp only [Act.put, List.setIfInBounds_toArray, List.set_cons_zero, List.set_cons_succ])
          have OA := Lib.hid o5
          clear OB o5 g5 d5 BB
          clear RB
          have RB := RBn
          clear RBn
          have BB := Lib.hid BBn
          clear BBn
          refine wpAnyZ_ready (rs := [15]) (by kernel_rfl) (by simp) ?_
          refine AllZ.cons (i := 15) (o := ?o24) ?hi24 (fun K hK => ?ra24) ?mr24
          case hi24 => simp only [List.getElem?_toArray, List.getElem?_cons_succ, List.getElem?_cons_zero]; rfl
          case ra24 =>
            refine step_append_rg _ (by rfl) (.tmp 37) (.tmp 44) 25 (by rfl) w3.heap.size 47 i0 (.agg #[.int .i64 0, .int .i64 0]) 2 16 Try.underlying25 hi0 hz0 hz1 hz2 rfl (by decide) _ n (partsC l) OA.out ?_ (some ⟨p2, 0, none⟩) 1 1 (partsC [(q1, q2)]) RB.out (by simp [Act.eval, Act.put] <;> fail) rfl (parts_one _) (by simp only [maxLen]; omega) (by omega) BB.out.size ?_
            simp [Act.eval, Act.put]
            intro v6 u5 o6 g6 d6
            obtain ⟨A6, c6, rfl⟩ := own_slice o6
            have BBn := Below.grown BB.out g6 BB.out.size (fun k hk => (OA.out.lt k hk).1)
            have hzn := g6.size
            have hbz := BB.out.size
            refine hK.out _ _ (.inr ⟨cell_keepP k0 BBn, cell_keepP k1 BBn⟩) ?_
            clear hK K
            (try simp only [Act.put, List.setIfInBounds_toArray, List.set_cons_zero, List.set_cons_succ])
            have O6 := Lib.hid o6
            clear OA RB o6 g6 d6 BB
            have BB := Lib.hid BBn
            clear BBn
            refine wpAnyZ_one (i := 17) (o := ?o25) (by kernel_rfl) ?hi25 (fun K hK => ?rest25)
            case hi25 => simp only [List.getElem?_toArray, List.getElem?_cons_succ, List.getElem?_cons_zero]; rfl
            have LL : (l ++ [(q1, q2)]).length = n + 1 := by rw [HN.out]; simp
            have O7 := Lib.hid (show PartsIn u5 A6 (l ++ [(q1, q2)]) from PartsIn.of (by rw [partsC_app]; exact (OwnC.of_row O6.out).read))
            have hj := implParts_any A6 c6 (l ++ [(q1, q2)]) size u5 O7.out (by rw [LL]; omega)
            rw [LL] at hj
            have HJ := Lib.hid hj
            clear hj LL O7 O6
            go_simp
            go_at_call 18; refine HJ.out.mono ?_; rintro e w7 ⟨rfl, b7⟩; rw [htw.out]; (try dsimp only)
            have BBn := BB.out.trans (b7.mono BB.out.size)
            refine hK.out _ _ (.inr ⟨cell_keepP k0 BBn, cell_keepP k1 BBn⟩) ?_
            clear hK K
            (try simp only [Act.put, List.setIfInBounds_toArray, List.set_cons_zero, List.set_cons_succ])
            clear BB HJ b7
            have BB := Lib.hid BBn
            clear BBn
            refine wpAnyZ_take (i := 18) (oi := ?o26) (v := ?v26) ?hi26 (by kernel_rfl) (by kernel_rfl) (by kernel_rfl) (by kernel_rfl) ?hq26 ?hy26 ⟨cell_keepP k0 BB.out, cell_keepP k1 BB.out⟩ ?rest26
            case hi26 => simp only [List.getElem?_toArray, List.getElem?_cons_succ, List.getElem?_cons_zero]; rfl
            case hq26 => exact fun _ _ _ h => h
            case hy26 => (refine Or.inl ⟨by rfl, ?_⟩; intro w hSw; (try dsimp only at hSw); go_simp; (try with_reducible rfl))
            simp only [Act.put, List.setIfInBounds_toArray, List.set_cons_zero, List.set_cons_succ]
            refine wpAnyZ_take (i := 19) (oi := ?o27) (v := ?v27) ?hi27 (by kernel_rfl) (by kernel_rfl) (by kernel_rfl) (by kernel_rfl) ?hq27 ?hy27 ⟨cell_keepP k0 BB.out, cell_keepP k1 BB.out⟩ ?rest27
            case hi27 => simp only [List.getElem?_toArray, List.getElem?_cons_succ, List.getElem?_cons_zero]; rfl
            case hq27 => exact fun _ _ _ h => h
            case hy27 => (refine Or.inl ⟨by rfl, ?_⟩; intro w hSw; (try dsimp only at hSw); go_simp; (try with_reducible rfl))
            simp only [Act.put, List.setIfInBounds_toArray, List.set_cons_zero, List.set_cons_succ]
            refine wpAnyZ_one (i := 20) (o := ?o28) (by kernel_rfl) ?hi28 (fun K hK => ?rest28)
            case hi28 => simp only [List.getElem?_toArray, List.getElem?_cons_succ, List.getElem?_cons_zero]; rfl
            go_simp
            refine hK.out _ _ (.inr ?hs28) ?more28
            case hs28 => exact ⟨cell_keepP k0 BB.out, cell_keepP k1 BB.out⟩
            clear hK K
            (try simp only [Act.put, List.setIfInBounds_toArray, List.set_cons_zero, List.set_cons_succ])
            refine wpAnyZ_done (by kernel_rfl) ?_ _
            have hfin := Lib.hid (C3.out.trans (BB.out.mono C3.out.size))
            clear BB
            go_wp2
            all_goals
              go_ret
              exact ⟨rfl, hfin.out⟩
          exact AllZ.nil
        exact AllZ.nil
      exact AllZ.nil
    refine AllZ.cons (i := 14) (o := ?o29) ?hi29 (fun K hK => ?ra29) ?mr29
    case hi29 => simp only [List.getElem?_toArray, List.getElem?_cons_succ, List.getElem?_cons_zero]; rfl
    case ra29 =>
      go_simp
      have BBn := b_alloc BB.out (.cells #[.int .i64 q1, .int .i64 q2] 47)
      have hzn : u1.heap.size < (u1.alloc (.cells #[.int .i64 q1, .int .i64 q2] 47)).heap.size := by simp
      have hzm := Nat.le_of_lt hzn
      have hbz := BB.out.size
      have RBn := Lib.hid (readc_nwp (w := u1) (T := 47) (cs := #[.int .i64 q1, .int .i64 q2]) (xs := partsC [(q1, q2)]) rfl)
      refine hK.out _ _ (.inr ⟨cell_keepP k0 BBn, cell_keepP k1 BBn⟩) ?_
      clear hK K
      (try simp only [Act.put, List.setIfInBounds_toArray, List.set_cons_zero, List.set_cons_succ])
      have BBm := Lib.hid BBn
      clear BBn
      clear BB
      generalize hvv : u1.alloc (.cells #[.int .i64 q1, .int .i64 q2] 47) = u2 at *
      clear hvv
      obtain ⟨p2, hpp2⟩ : ∃ x, x = u1.heap.size := ⟨_, rfl⟩
      rw [← hpp2] at hzn RBn ⊢
      clear hpp2
      have RB := RBn
      clear RBn
      have BB := BBm
      clear BBm
      refine wpAnyZ_ready (rs := [5]) (by kernel_rfl) (by simp) ?_
      refine AllZ.cons (i := 5) (o := ?o30) ?hi30 (fun K hK => ?ra30) ?mr30
      case hi30 => simp only [List.getElem?_toArray, List.getElem?_cons_succ, List.getElem?_cons_zero]; rfl
      case ra30 =>
        go_simp
        have BBn := b_alloc BB.out (.cells #[] 47)
        have hzn : u2.heap.size < (u2.alloc (.cells #[] 47)).heap.size := by simp
        have hzm := Nat.le_of_lt hzn
        have hbz := BB.out.size
        have RBn := Lib.hid (RB.out.alloc (.cells #[] 47))
        have OBn := Lib.hid (World.ownsRow_lit (e := 47) (size := 2) (base := w3.heap.size) u2 #[] 0 BB.out.size (by simp [maxLen]) (by simp))
        have hpp : p2 ≠ u2.heap.size := by omega
        refine hK.out _ _ (.inr ⟨cell_keepP k0 BBn, cell_keepP k1 BBn⟩) ?_
        clear hK K
        (try simp only [Act.put, List.setIfInBounds_toArray, List.set_cons_zero, List.set_cons_succ])
        have BBm := Lib.hid BBn
        clear BBn
        clear RB
        clear BB
        generalize hvv : u2.alloc (.cells #[] 47) = u3 at *
        clear hvv
        obtain ⟨p1, hpp1⟩ : ∃ x, x = u2.heap.size := ⟨_, rfl⟩
        rw [← hpp1] at hzn OBn hpp ⊢
        clear hpp1
        have OB := OBn
        have RB := RBn
        clear OBn RBn
        have BB := BBm
        clear BBm
        refine wpAnyZ_ready (rs := [7]) (by kernel_rfl) (by simp) ?_
        refine AllZ.cons (i := 7) (o := ?o31) ?hi31 (fun K hK => ?ra31) ?mr31
        case hi31 => simp only [List.getElem?_toArray, List.getElem?_cons_succ, List.getElem?_cons_zero]; rfl
        case ra31 =>
          refine step_append_rg _ (by rfl) (.tmp 35) (.tmp 36) 25 (by rfl) w3.heap.size 47 i0 (.agg #[.int .i64 0, .int .i64 0]) 2 16 Try.underlying25 hi0 hz0 hz1 hz2 rfl (by decide) _ 0 [] OB.out ?_ (some ⟨b, off, none⟩) n c1 (partsC l) (HR.out.below BB.out) (by simp [Act.eval, Act.put] <;> fail) (by rw [partsC_length, ← HN.out]; omega) (parts_one l) (by simp only [maxLen]; omega) (by omega) BB.out.size ?_
          simp [Act.eval, Act.put]
          intro v5 u4 o5 g5 d5
          rw [Nat.zero_add] at o5
          obtain ⟨A5, c5, rfl⟩ := own_slice o5
          have BBn := Below.grown BB.out g5 BB.out.size (fun k hk => (OB.out.lt k hk).1)
          have hzn := g5.size
          have hbz := BB.out.size
          have RBn := Lib.hid (readc_grown RB.out g5 (by simp [Value.ownBlock]; omega))
          refine hK.out _ _ (.inr ⟨cell_keepP k0 BBn, cell_keepP k1 BBn⟩) ?_
          clear hK K
          (try simp only [Act.put, List.setIfInBounds_toArray, List.set_cons_zero, List.set_cons_succ])
          have OA := Lib.hid o5
          clear OB o5 g5 d5 BB
          clear RB
          have RB := RBn
          clear RBn
          have BB := Lib.hid BBn
          clear BBn
          refine wpAnyZ_ready (rs := [15]) (by kernel_rfl) (by simp) ?_
          refine AllZ.cons (i := 15) (o := ?o32) ?hi32 (fun K hK => ?ra32) ?mr32
          case hi32 => simp only [List.getElem?_toArray, List.getElem?_cons_succ, List.getElem?_cons_zero]; rfl
          case ra32 =>
            refine step_append_rg _ (by rfl) (.tmp 37) (.tmp 44) 25 (by rfl) w3.heap.size 47 i0 (.agg #[.int .i64 0, .int .i64 0]) 2 16 Try.underlying25 hi0 hz0 hz1 hz2 rfl (by decide) _ n (partsC l) OA.out ?_ (some ⟨p2, 0, none⟩) 1 1 (partsC [(q1, q2)]) RB.out (by simp [Act.eval, Act.put] <;> fail) rfl (parts_one _) (by simp only [maxLen]; omega) (by omega) BB.out.size ?_
            simp [Act.eval, Act.put]
            intro v6 u5 o6 g6 d6
            obtain ⟨A6, c6, rfl⟩ := own_slice o6
            have BBn := Below.grown BB.out g6 BB.out.size (fun k hk => (OA.out.lt k hk).1)
            have hzn := g6.size
            have hbz := BB.out.size
            refine hK.out _ _ (.inr ⟨cell_keepP k0 BBn, cell_keepP k1 BBn⟩) ?_
            clear hK K
            (try simp only [Act.put, List.setIfInBounds_toArray, List.set_cons_zero, List.set_cons_succ])
            have O6 := Lib.hid o6
            clear OA RB o6 g6 d6 BB
            have BB := Lib.hid BBn
            clear BBn
            refine wpAnyZ_one (i := 17) (o := ?o33) (by kernel_rfl) ?hi33 (fun K hK => ?rest33)
            case hi33 => simp only [List.getElem?_toArray, List.getElem?_cons_succ, List.getElem?_cons_zero]; rfl
            have LL : (l ++ [(q1, q2)]).length = n + 1 := by rw [HN.out]; simp
            have O7 := Lib.hid (show PartsIn u5 A6 (l ++ [(q1, q2)]) from PartsIn.of (by rw [partsC_app]; exact (OwnC.of_row O6.out).read))
            have hj := implParts_any A6 c6 (l ++ [(q1, q2)]) size u5 O7.out (by rw [LL]; omega)
            rw [LL] at hj
            have HJ := Lib.hid hj
            clear hj LL O7 O6
            go_simp
            go_at_call 18; refine HJ.out.mono ?_; rintro e w7 ⟨rfl, b7⟩; rw [htw.out]; (try dsimp only)
            have BBn := BB.out.trans (b7.mono BB.out.size)
            refine hK.out _ _ (.inr ⟨cell_keepP k0 BBn, cell_keepP k1 BBn⟩) ?_
            clear hK K
            (try simp only [Act.put, List.setIfInBounds_toArray, List.set_cons_zero, List.set_cons_succ])
            clear BB HJ b7
            have BB := Lib.hid BBn
            clear BBn
            refine wpAnyZ_take (i := 18) (oi := ?o34) (v := ?v34) ?hi34 (by kernel_rfl) (by kernel_rfl) (by kernel_rfl) (by kernel_rfl) ?hq34 ?hy34 ⟨cell_keepP k0 BB.out, cell_keepP k1 BB.out⟩ ?rest34
            case hi34 => simp only [List.getElem?_toArray, List.getElem?_cons_succ, List.getElem?_cons_zero]; rfl
            case hq34 => exact fun _ _ _ h => h
            case hy34 => (refine Or.inl ⟨by rfl, ?_⟩; intro w hSw; (try dsimp only at hSw); go_simp; (try with_reducible rfl))
            simp only [Act.put, List.setIfInBounds_toArray, List.set_cons_zero, List.set_cons_succ]
            refine wpAnyZ_take (i := 19) (oi := ?o35) (v := ?v35) ?hi35 (by kernel_rfl) (by kernel_rfl) (by kernel_rfl) (by kernel_rfl) ?hq35 ?hy35 ⟨cell_keepP k0 BB.out, cell_keepP k1 BB.out⟩ ?rest35
            case hi35 => simp only [List.getElem?_toArray, List.getElem?_cons_succ, List.getElem?_cons_zero]; rfl
            case hq35 => exact fun _ _ _ h => h
            case hy35 => (refine Or.inl ⟨by rfl, ?_⟩; intro w hSw; (try dsimp only at hSw); go_simp; (try with_reducible rfl))
            simp only [Act.put, List.setIfInBounds_toArray, List.set_cons_zero, List.set_cons_succ]
            refine wpAnyZ_one (i := 20) (o := ?o36) (by kernel_rfl) ?hi36 (fun K hK => ?rest36)
            case hi36 => simp only [List.getElem?_toArray, List.getElem?_cons_succ, List.getElem?_cons_zero]; rfl
            go_simp
            refine hK.out _ _ (.inr ?hs36) ?more36
            case hs36 => exact ⟨cell_keepP k0 BB.out, cell_keepP k1 BB.out⟩
            clear hK K
            (try simp only [Act.put, List.setIfInBounds_toArray, List.set_cons_zero, List.set_cons_succ])
            refine wpAnyZ_done (by kernel_rfl) ?_ _
            have hfin := Lib.hid (C3.out.trans (BB.out.mono C3.out.size))
            clear BB
            go_wp2
            all_goals
              go_ret
              exact ⟨rfl, hfin.out⟩
          exact AllZ.nil
        exact AllZ.nil
      exact AllZ.nil
    exact AllZ.nil

set_option maxRecDepth 100000 in
theorem lifted (os : Os) (started : os.Started) (H : Type) (enc : TypeId × Value → H) :
    ReturnsInHanded {} Try.checked os 7 .any (Rows.fnPartsValidSpec.pre6 enc Try.prog Try.f7 Rows.fnPartsValidRow.domain false) (Rows.fnPartsValidSpec.post enc Try.prog Try.f7 false true false false) := by
  refine returnsInHanded_of_change (C := Try.checked) own started (by kernel_rfl) Try.func7
    (ChangeSpec.witness6 (enc := enc) (C := Try.checked) false ⟨#[], #[.slice none 0 0], []⟩ 8 (by kernel_rfl) (by kernel_rfl) (by kernel_rfl) (by kernel_rfl)) ?_
  intro W base args ds gs before hval0 hW hcnd _
  have hval : ∀ (j : Nat) t v, Try.f7.params[j]? = some t → args[j]? = some v → Value.okWide Try.prog W .any base t v := hval0
  have hW' := hW
  obtain ⟨p, q, hA0, hV, rfl, hfz, hnd⟩ := hW
  have hA : DataW.TrodAll enc Try.prog W 0 (fun _ => true) true Try.f7.params.toList args.toList ds p := hA0
  rw [Try.params7] at hA hval
  obtain ⟨v0, vs0, d0, ds0, p0, q0, hargs, rfl, rfl, h0, r0⟩ := trodAll_cons hA
  obtain ⟨rfl, rfl, rfl⟩ := trodAll_nil r0
  obtain rfl : args = #[v0] := by cases args; simp_all
  obtain ⟨rfl, rfl⟩ := trodVars_none hV
  have k0 := h0
  have lt0 : ∀ x ∈ p0, x.block < W.heap.size := by obtain ⟨m, hm⟩ := k0; exact DataW.trod_lt m _ _ _ hm
  obtain ⟨a0, n0, c0, rfl, ok0, le0, cl0⟩ := open_bytes (hval 0 34 v0 rfl rfl) h0
  clear hA0 hval0
  refine (walk a0 n0 c0 W ok0 le0 cl0).mono fun e W' ⟨he, bel⟩ => ?_
  subst he
  exact ⟨_, rfl, _, _, _, [], _, [], hW', trodAll_mk1 (shut_bool Try.underlying4 _), (trodAll_cons_mk (Below.trod laidOut (by kernel_rfl) (of_decide_eq_true (by kernel_rfl)) k0 bel lt0) trodAll_mk0), rfl, bel.frame _, fun h => by cases h⟩

theorem proved : Rows.FnPartsValidSaid :=
  OpenClaim.holds_of_wide 7 Try.f7 rfl rfl rfl rfl rfl rfl rfl ⟨rfl, rfl, rfl, rfl, rfl⟩ rfl rfl rfl rfl rfl (by kernel_rfl) Try.func7 (by kernel_rfl)
    (of_decide_eq_true (by kernel_rfl)) (by unfold Func.isWrapper; first | (rw [if_pos (by decide +kernel)]; kernel_rfl) | (rw [if_neg (by decide +kernel)]; exact ⟨rfl, rfl⟩))
    (fun os started H enc _ => lifted os started H enc)
#print axioms proved
end Go.Proofs.Ytpfbkmpjneclpaa.fnPartsValid
