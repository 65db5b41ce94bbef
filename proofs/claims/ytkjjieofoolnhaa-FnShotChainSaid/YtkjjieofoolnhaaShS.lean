/- ShotView of the reference. -/
import Derived.Test.YtkjjieofoolnhaaShP
import Derived.Test.YtkjjieofoolnhaaRegZ
namespace Go.Proofs.Ytkjjieofoolnhaa
open Go.RowKit
set_option linter.unusedVariables false

/-- A row of the call's own with the ints l. -/
def ShPost (l : List Int) (W : World) (e : Ending) (w' : World) : Prop :=
  ∃ A c, e = .returned (.slice A l.length c) ∧ w'.ownsRow W.heap.size 3 1 (.slice A l.length c) l.length (l.map (Value.int .i64)) ∧ Below W.heap.size W w'
theorem sh_no {N : List Int} {S : List (List Sv)} {a : Int} {w w' : World} {A : Option Addr} {c : Nat} (hv : dropB N S a = false) (ho : w'.ownsRow w.heap.size 3 1 (.slice A 0 c) 0 []) (hb : Below w.heap.size w w') : ShPost (shotV N S a) w (.returned (.slice A 0 c)) w' := by
  have e : shotV N S a = [] := by unfold shotV; rw [hv]; rfl
  rw [e]
  exact ⟨A, c, rfl, ho, hb⟩
theorem sh_yes {N : List Int} {S : List (List Sv)} {n : Nat} {w w' : World} {A : Option Addr} {c : Nat} (hv : dropB N S n = true) (ho : w'.ownsRow w.heap.size 3 1 (.slice A N.length c) N.length ((viewT N (S.drop n)).map (Value.int .i64))) (hb : Below w.heap.size w w') : ShPost (shotV N S n) w (.returned (.slice A N.length c)) w' := by
  have e : shotV N S n = viewT N (S.drop n) := by unfold shotV; rw [hv]; rfl
  rw [e]
  exact ⟨A, c, by rw [viewT_len], by rw [viewT_len]; exact ho, hb⟩
theorem wrSh_take {o : List Int} {p : List Sv} {i : Nat} (h : i < p.length) : wrSh o (p.take (i + 1)) = (wrSh o (p.take i)).set p[i].1.toNat p[i].2 := by
  rw [List.take_succ_eq_append_getElem h, wrSh_app]
  rfl
theorem viewT_down {N : List Int} {S : List (List Sv)} {k : Nat} (h : k < S.length) : viewT N (S.drop k) = wrSh (viewT N (S.drop (k + 1))) S[k] := by
  rw [List.drop_eq_getElem_cons h]
  rfl

set_option linter.unusedSimpArgs false in
set_option maxHeartbeats 8000000 in
theorem specShot_any (v : Value) (N : List Int) (S : List (List Sv)) (a : Int) (w : World) (h : VolR w v N S) (hN : N.length ≤ 1048576) (hS : S.length + sumN S ≤ 1048576) (ha : -9223372036854775808 ≤ a ∧ a ≤ 9223372036854775807) :
    Calls Try.prog 32 #[v, .int .i64 a] w (ShPost (shotV N S a) w) := by
  have HR := Lib.hid h
  obtain ⟨A, c, B, d, rfl, hA, hB, hc1, hc2, hd1, hd2⟩ := h
  obtain ⟨i0, hi0, hz0, hz1, hz2⟩ := info_parts info_int
  have HR0 := Lib.hid (HR.out.alloc (.cells #[.slice A N.length c, .slice B S.length d] 29))
  have K0 := Lib.hid (show Blk (w.alloc (.cells #[.slice A N.length c, .slice B S.length d] 29)) w.heap.size 29 #[.slice A N.length c, .slice B S.length d] from Blk.new rfl)
  have C0 := Lib.hid (show Below w.heap.size w (w.alloc (.cells #[.slice A N.length c, .slice B S.length d] 29)) from b_alloc (Below.refl _ _) _)
  have Z0 : (w.alloc (.cells #[.slice A N.length c, .slice B S.length d] 29)).heap.size = w.heap.size + 1 := by simp
  have d2 : IntKind.i64.wrap ((S.length : Int) - 1) = (S.length : Int) - 1 := IntWalk.i64_in _ (by omega)
  clear hA hB
  have hdd : S.length ≤ 1048576 := by omega
  cases hv : volB N S
  · have hno := Lib.hid (fun (A' : Option Addr) (c' : Nat) (w' : World) ho hb => sh_no (A := A') (c := c') (w := w) (w' := w') (show dropB N S a = false by simp [dropB, hv]) ho hb)
    go_enter Try.func32, Try.ntmps32
    go_wp2_with fail
    refine (specVol_any _ N S _ HR0.out (by omega) (by omega)).mono ?_
    rintro e w1 ⟨rfl, b1⟩
    rw [hv]
    have C1 := Lib.hid (C0.out.trans (b1.mono (by omega)))
    have L1 := Lib.hid (World.ownsRow_lit (e := 3) (size := 1) (base := w.heap.size) w1 #[] 0 C1.out.size (by simp [maxLen]) (by simp))
    have C2 := Lib.hid (b_alloc C1.out (.cells #[] 3))
    clear hv b1
    go_wp2
    go_ret
    exact hno.out _ _ _ L1.out C2.out
  cases ga : inB a 0 ((S.length : Int) - 1)
  · have hno := Lib.hid (fun (A' : Option Addr) (c' : Nat) (w' : World) ho hb => sh_no (A := A') (c := c') (w := w) (w' := w') (show dropB N S a = false by simp [dropB, hv, ga]) ho hb)
    go_enter Try.func32, Try.ntmps32
    go_wp2_with fail
    refine (specVol_any _ N S _ HR0.out (by omega) (by omega)).mono ?_
    rintro e w1 ⟨rfl, b1⟩
    rw [hv]
    obtain ⟨x0, x1, _, _⟩ := (blk_below b1 K0.out K0.out.lt).two
    have C1 := Lib.hid (C0.out.trans (b1.mono (by omega)))
    have L1 := Lib.hid (World.ownsRow_lit (e := 3) (size := 1) (base := w.heap.size) w1 #[] 0 C1.out.size (by simp [maxLen]) (by simp))
    have C2 := Lib.hid (b_alloc C1.out (.cells #[] 3))
    clear hv b1
    go_wp2_with fail
    (try rw [d2])
    refine (l1In_is ga _).mono ?_
    rintro e w' ⟨rfl, rfl⟩
    go_wp2
    go_ret
    exact hno.out _ _ _ L1.out C2.out
  obtain ⟨n, rfl⟩ : ∃ n : Nat, a = n := ⟨a.toNat, by simp [inB] at ga; omega⟩
  have hn : n < S.length := by simp [inB] at ga; omega
  have hyes := Lib.hid (fun (A' : Option Addr) (c' : Nat) (w' : World) ho hb => sh_yes (A := A') (c := c') (w := w) (w' := w') (show dropB N S n = true by simp [dropB, hv, ga]) ho hb)
  have HOK := Lib.hid (vol_iff.1 hv).2.2
  go_enter Try.func32, Try.ntmps32
  go_wp2_with fail
  refine (specVol_any _ N S _ HR0.out (by omega) (by omega)).mono ?_
  rintro e w1 ⟨rfl, b1⟩
  rw [hv]
  have k1 := Lib.hid (blk_below b1 K0.out K0.out.lt)
  obtain ⟨x0, x1, _, _⟩ := k1.out.two
  have R1 := Lib.hid (HR0.out.below b1)
  have C1 := Lib.hid (C0.out.trans (b1.mono (by omega)))
  have Z1 : w.heap.size + 1 ≤ w1.heap.size := by have := b1.size; omega
  clear hv b1 HR0 K0 C0
  have HNr := Lib.hid (show ReadC (w1.alloc (.cells #[] 3)) A (N.map (Value.int .i64)) by
    obtain ⟨A', c', B', d', e', h1, _⟩ := R1.out
    injection e' with e'
    simp only [Array.mk.injEq, List.cons.injEq, and_true, Value.slice.injEq] at e'
    obtain ⟨⟨rfl, _, rfl⟩, _⟩ := e'
    exact vread_of (h1.alloc _))
  have L1 := Lib.hid (World.ownsRow_lit (e := 3) (size := 1) (base := w1.heap.size) w1 #[] 0 (Nat.le_refl _) (by simp [maxLen]) (by simp))
  go_wp2_with fail
  (try rw [d2])
  refine (l1In_is ga _).mono ?_
  rintro e w' ⟨rfl, rfl⟩
  have kA := Lib.hid (k1.out.alloc (.cells #[] 3))
  obtain ⟨xa0, xa1, _, _⟩ := kA.out.two
  go_wp2_with (at_builtin; refine wpList_append_r _ rfl (.tmp 21) (.tmp 23) 22 rfl w1.heap.size 3 i0 (.int .i64 0) 1 8 Try.underlying22 hi0 hz0 hz1 hz2 rfl (by decide) _ 0 [] L1.out rfl A N.length c (N.map (Value.int .i64)) HNr.out rfl (by simp) (vints_one N) (by simp only [maxLen]; omega) (by omega) (by simp; try omega) ?_; intro v3 w3 o3 g3 n3; rw [Nat.zero_add] at o3; obtain ⟨A3, c3, rfl⟩ := own_slice o3; have k3 := Lib.hid (blk_grown g3 kA.out (by simp [Value.ownBlock]; omega)); obtain ⟨z0, z1, _, _⟩ := k3.out.two)
  have B3 := Lib.hid (show Below w1.heap.size w1 w3 from (b_alloc (Below.refl _ _) (.cells #[] 3)).grown g3 (by simp) (fun b hb => by simp [Value.ownBlock] at hb; omega))
  have O3 := Lib.hid (show w3.ownsRow w1.heap.size 3 1 (.slice A3 N.length c3) N.length ((viewT N (S.drop S.length)).map (Value.int .i64)) by
    rw [List.drop_length]
    simpa [viewT] using o3)
  clear o3 g3 n3 HNr L1 kA k3 xa0 xa1
  go_loopw [6] (fun x wr => ∃ (y : Int) (j : Nat), y = (j : Int) - 1 ∧ n ≤ j ∧ j ≤ S.length ∧ x = .int .i64 y ∧ Hid (wr.ownsRow w1.heap.size 3 1 (.slice A3 N.length c3) N.length ((viewT N (S.drop j)).map (Value.int .i64))) ∧ Hid (Below w1.heap.size w1 wr)) (fun x _ => (intOf x + 1).toNat)
  case atStart => exact ⟨_, S.length, rfl, by omega, Nat.le_refl _, rfl, O3, B3⟩
  case round =>
    clear O3 B3 z0 z1 x0 x1
    obtain ⟨y, j, hy, hnj, hjS, rfl, O, BB⟩ := hrel
    by_cases hlt : n < j
    · obtain ⟨k, rfl⟩ : ∃ k, j = k + 1 := ⟨j - 1, by omega⟩
      obtain rfl : y = (k : Int) := by omega
      have hkS : k < S.length := by omega
      have hnk : n ≤ k := by omega
      have hnk' : (n : Int) ≤ (k : Int) := by omega
      clear hlt
      have hsm := sumN_get hkS
      have hdn := Lib.hid (viewT_down (N := N) hkS)
      have hro := HOK.out S[k] (List.getElem_mem hkS)
      obtain ⟨p, hp⟩ : ∃ p, p = S[k] := ⟨_, rfl⟩
      obtain ⟨V, hV⟩ : ∃ V, V = viewT N (S.drop (k + 1)) := ⟨_, rfl⟩
      rw [← hp] at hsm hdn hro
      rw [← hV] at hdn O
      have HP := Lib.hid hp
      have HRO := Lib.hid hro
      have hVl : V.length = N.length := by rw [hV, viewT_len]
      have HVL := Lib.hid hVl
      clear hp hV hro hVl hy
      have O0 : Hid (wr.ownsRow w1.heap.size 3 1 (.slice A3 N.length c3) N.length ((wrSh V (p.take 0)).map (Value.int .i64))) := O
      go_wp2
      go_loopw [7] (fun x wr => ∃ i : Nat, i ≤ p.length ∧ x = .int .i64 i ∧ Hid (wr.ownsRow w1.heap.size 3 1 (.slice A3 N.length c3) N.length ((wrSh V (p.take i)).map (Value.int .i64))) ∧ Hid (Below w1.heap.size w1 wr)) (fun x _ => p.length - (intOf x).toNat)
      case atStart => exact ⟨0, Nat.zero_le _, rfl, O0, BB⟩
      case round =>
        clear O BB O0
        obtain ⟨i, hi, rfl, O, BB⟩ := hrel
        have R := R1.out.below BB.out
        obtain ⟨A', c', B', d', e', _, hB, _⟩ := R
        injection e' with e'
        simp only [Array.mk.injEq, List.cons.injEq, and_true, Value.slice.injEq] at e'
        obtain ⟨⟨rfl, _, rfl⟩, rfl, _, rfl⟩ := e'
        obtain ⟨b, off, rfl, hc⟩ := hB (by omega)
        obtain ⟨Ak, ck, xk, yk, zk, _⟩ := hc k hkS
        rw [← HP.out] at xk yk zk
        obtain ⟨x0, x1, _, _⟩ := (blk_below BB.out k1.out (by omega)).two
        have hwz := BB.out.size
        have ix1 : (0 : Int) ≤ (k : Int) := by omega
        have ix2 : (k : Int) < (S.length : Int) := by omega
        clear hc hB
        by_cases hip : i < p.length
        · obtain ⟨bk, ok, rfl, hcs⟩ := (SavedIn.of yk) (by omega)
          obtain ⟨y0, y1⟩ := hcs i hip
          have hst := Lib.hid (wrSh_take (o := V) hip)
          have hqr := (HRO.out.1 p[i] (List.getElem_mem hip)).1
          obtain ⟨⟨q1, q2⟩, hq⟩ : ∃ q : Int × Int, q = p[i] := ⟨_, rfl⟩
          rw [← hq] at y0 y1 hst hqr
          simp only at y0 y1 hqr
          obtain ⟨t, rfl⟩ : ∃ t : Nat, q1 = t := ⟨q1.toNat, by omega⟩
          have htN : t < N.length := by omega
          rcases own_cases O.out with ⟨_, h0⟩ | ⟨g3, cap3, hv3, hg3, hg3s⟩
          · omega
          injection hv3 with hA3 _ hc3
          subst hA3 hc3
          have hstored := O.out.stored t (.int .i64 q2)
          have hcell := O.out.cellAt t (by omega)
          have hfr := O.out.frozenAt t
          have hlw : (wrSh V (p.take i)).length = N.length := by rw [wrSh_len]; exact HVL.out
          rw [List.getElem?_eq_getElem (by rw [List.length_map, hlw]; exact htN)] at hcell
          have O2 := Lib.hid (show (wr.drew.setCell ⟨g3, t, none⟩ (.int .i64 q2)).ownsRow w1.heap.size 3 1 (.slice (some ⟨g3, 0, none⟩) N.length c3) N.length ((wrSh V (p.take (i + 1))).map (Value.int .i64)) by
            have h1 := hstored.1
            rw [hst.out]
            simp only [Int.toNat_natCast]
            rw [List.map_set]
            exact h1)
          have BB2 := Lib.hid ((b_drew BB.out).setCell (p := ⟨g3, t, none⟩) hg3 (.int .i64 q2))
          have ix3 : (0 : Int) ≤ (i : Int) := by omega
          have ix4 : (i : Int) < (p.length : Int) := by omega
          have ix5 : (0 : Int) ≤ (t : Int) := by omega
          have ix6 : (t : Int) < (N.length : Int) := by omega
          generalize ((wrSh V (p.take i)).map (Value.int .i64))[t]'_ = uu at hcell
          clear hstored hcs hst hq hqr yk O BB hlw
          go_wp2
          refine wp_region_Z (fun w' : World => w'.cell? ⟨w.heap.size, 1, none⟩ = some (.slice (some ⟨b, off, none⟩) S.length d) ∧ w'.cell? ⟨b, off + k, none⟩ = some (.slice (some ⟨bk, ok, none⟩) p.length ck) ∧ w'.cell? ⟨bk, ok + i * 2, none⟩ = some (.int .i64 (t : Int)) ∧ w'.cell? ⟨bk, ok + i * 2 + 1, none⟩ = some (.int .i64 q2)) 20 (by kernel_rfl) ?_
          have hHeld : (fun w' : World => w'.cell? ⟨w.heap.size, 1, none⟩ = some (.slice (some ⟨b, off, none⟩) S.length d) ∧ w'.cell? ⟨b, off + k, none⟩ = some (.slice (some ⟨bk, ok, none⟩) p.length ck) ∧ w'.cell? ⟨bk, ok + i * 2, none⟩ = some (.int .i64 (t : Int)) ∧ w'.cell? ⟨bk, ok + i * 2 + 1, none⟩ = some (.int .i64 q2)) _ := ⟨x1, xk, y0, y1⟩
          refine wpAnyZ_take (i := 0) (oi := ?o1) (v := ?v1) ?hi1 (by kernel_rfl) (by kernel_rfl) (by kernel_rfl) (by kernel_rfl) ?hq1 ?hy1 hHeld ?rest1
          case hi1 => simp only [List.getElem?_toArray, List.getElem?_cons_succ, List.getElem?_cons_zero]; rfl
          case hq1 => exact fun _ _ _ h => h
          case hy1 => (refine Or.inl ⟨by rfl, ?_⟩; intro w hSw; (try dsimp only at hSw); go_simp; (try with_reducible rfl))
          simp only [Act.put, List.setIfInBounds_toArray, List.set_cons_zero, List.set_cons_succ]
          refine wpAnyZ_take (i := 1) (oi := ?o2) (v := ?v2) ?hi2 (by kernel_rfl) (by kernel_rfl) (by kernel_rfl) (by kernel_rfl) ?hq2 ?hy2 hHeld ?rest2
          case hi2 => simp only [List.getElem?_toArray, List.getElem?_cons_succ, List.getElem?_cons_zero]; rfl
          case hq2 => exact fun _ _ _ h => h
          case hy2 => (refine Or.inl ⟨by rfl, ?_⟩; intro w hSw; (try dsimp only at hSw); go_simp; (try with_reducible rfl))
          simp only [Act.put, List.setIfInBounds_toArray, List.set_cons_zero, List.set_cons_succ]
          refine wpAnyZ_take (i := 2) (oi := ?o3) (v := ?v3) ?hi3 (by kernel_rfl) (by kernel_rfl) (by kernel_rfl) (by kernel_rfl) ?hq3 ?hy3 hHeld ?rest3
          case hi3 => simp only [List.getElem?_toArray, List.getElem?_cons_succ, List.getElem?_cons_zero]; rfl
          case hq3 => exact fun _ _ _ h => h
          case hy3 => (refine Or.inl ⟨by rfl, ?_⟩; intro w hSw; (try dsimp only at hSw); go_simp; (try with_reducible rfl))
          simp only [Act.put, List.setIfInBounds_toArray, List.set_cons_zero, List.set_cons_succ]
          refine wpAnyZ_take (i := 3) (oi := ?o4) (v := ?v4) ?hi4 (by kernel_rfl) (by kernel_rfl) (by kernel_rfl) (by kernel_rfl) ?hq4 ?hy4 hHeld ?rest4
          case hi4 => simp only [List.getElem?_toArray, List.getElem?_cons_succ, List.getElem?_cons_zero]; rfl
          case hq4 => exact fun _ _ _ h => h
          case hy4 => (refine Or.inl ⟨by rfl, ?_⟩; intro w hSw; (try dsimp only at hSw); go_simp; (try with_reducible rfl))
          simp only [Act.put, List.setIfInBounds_toArray, List.set_cons_zero, List.set_cons_succ]
          refine wpAnyZ_take (i := 4) (oi := ?o5) (v := ?v5) ?hi5 (by kernel_rfl) (by kernel_rfl) (by kernel_rfl) (by kernel_rfl) ?hq5 ?hy5 hHeld ?rest5
          case hi5 => simp only [List.getElem?_toArray, List.getElem?_cons_succ, List.getElem?_cons_zero]; rfl
          case hq5 => exact fun _ _ _ h => h
          case hy5 => (refine Or.inl ⟨by rfl, ?_⟩; intro w hSw; (try dsimp only at hSw); go_simp; (try with_reducible rfl))
          simp only [Act.put, List.setIfInBounds_toArray, List.set_cons_zero, List.set_cons_succ]
          refine wpAnyZ_take (i := 5) (oi := ?o6) (v := ?v6) ?hi6 (by kernel_rfl) (by kernel_rfl) (by kernel_rfl) (by kernel_rfl) ?hq6 ?hy6 hHeld ?rest6
          case hi6 => simp only [List.getElem?_toArray, List.getElem?_cons_succ, List.getElem?_cons_zero]; rfl
          case hq6 => exact fun _ _ _ h => h
          case hy6 => (refine Or.inl ⟨by rfl, ?_⟩; intro w hSw; (try dsimp only at hSw); go_simp; (try with_reducible rfl))
          simp only [Act.put, List.setIfInBounds_toArray, List.set_cons_zero, List.set_cons_succ]
          refine wpAnyZ_take (i := 6) (oi := ?o7) (v := ?v7) ?hi7 (by kernel_rfl) (by kernel_rfl) (by kernel_rfl) (by kernel_rfl) ?hq7 ?hy7 hHeld ?rest7
          case hi7 => simp only [List.getElem?_toArray, List.getElem?_cons_succ, List.getElem?_cons_zero]; rfl
          case hq7 => exact fun _ _ _ h => h
          case hy7 => (refine Or.inl ⟨by rfl, ?_⟩; intro w hSw; (try dsimp only at hSw); go_simp; (try with_reducible rfl))
          simp only [Act.put, List.setIfInBounds_toArray, List.set_cons_zero, List.set_cons_succ]
          refine wpAnyZ_take (i := 7) (oi := ?o8) (v := ?v8) ?hi8 (by kernel_rfl) (by kernel_rfl) (by kernel_rfl) (by kernel_rfl) ?hq8 ?hy8 hHeld ?rest8
          case hi8 => simp only [List.getElem?_toArray, List.getElem?_cons_succ, List.getElem?_cons_zero]; rfl
          case hq8 => exact fun _ _ _ h => h
          case hy8 => (refine Or.inl ⟨by rfl, ?_⟩; intro w hSw; (try dsimp only at hSw); go_simp; (try with_reducible rfl))
          simp only [Act.put, List.setIfInBounds_toArray, List.set_cons_zero, List.set_cons_succ]
          refine wpAnyZ_take (i := 8) (oi := ?o9) (v := ?v9) ?hi9 (by kernel_rfl) (by kernel_rfl) (by kernel_rfl) (by kernel_rfl) ?hq9 ?hy9 hHeld ?rest9
          case hi9 => simp only [List.getElem?_toArray, List.getElem?_cons_succ, List.getElem?_cons_zero]; rfl
          case hq9 => exact fun _ _ _ h => h
          case hy9 => (refine Or.inl ⟨by rfl, ?_⟩; intro w hSw; (try dsimp only at hSw); go_simp; (try with_reducible rfl))
          simp only [Act.put, List.setIfInBounds_toArray, List.set_cons_zero, List.set_cons_succ]
          refine wpAnyZ_take (i := 9) (oi := ?o10) (v := ?v10) ?hi10 (by kernel_rfl) (by kernel_rfl) (by kernel_rfl) (by kernel_rfl) ?hq10 ?hy10 hHeld ?rest10
          case hi10 => simp only [List.getElem?_toArray, List.getElem?_cons_succ, List.getElem?_cons_zero]; rfl
          case hq10 => exact fun _ _ _ h => h
          case hy10 => (refine Or.inl ⟨by rfl, ?_⟩; intro w hSw; (try dsimp only at hSw); go_simp; (try with_reducible rfl))
          simp only [Act.put, List.setIfInBounds_toArray, List.set_cons_zero, List.set_cons_succ]
          refine wpAnyZ_take (i := 10) (oi := ?o11) (v := ?v11) ?hi11 (by kernel_rfl) (by kernel_rfl) (by kernel_rfl) (by kernel_rfl) ?hq11 ?hy11 hHeld ?rest11
          case hi11 => simp only [List.getElem?_toArray, List.getElem?_cons_succ, List.getElem?_cons_zero]; rfl
          case hq11 => exact fun _ _ _ h => h
          case hy11 => (refine Or.inl ⟨by rfl, ?_⟩; intro w hSw; (try dsimp only at hSw); go_simp; (try with_reducible rfl))
          simp only [Act.put, List.setIfInBounds_toArray, List.set_cons_zero, List.set_cons_succ]
          refine wpAnyZ_take (i := 11) (oi := ?o12) (v := ?v12) ?hi12 (by kernel_rfl) (by kernel_rfl) (by kernel_rfl) (by kernel_rfl) ?hq12 ?hy12 hHeld ?rest12
          case hi12 => simp only [List.getElem?_toArray, List.getElem?_cons_succ, List.getElem?_cons_zero]; rfl
          case hq12 => exact fun _ _ _ h => h
          case hy12 => (refine Or.inl ⟨by rfl, ?_⟩; intro w hSw; (try dsimp only at hSw); go_simp; (try with_reducible rfl))
          simp only [Act.put, List.setIfInBounds_toArray, List.set_cons_zero, List.set_cons_succ]
          refine wpAnyZ_take (i := 12) (oi := ?o13) (v := ?v13) ?hi13 (by kernel_rfl) (by kernel_rfl) (by kernel_rfl) (by kernel_rfl) ?hq13 ?hy13 hHeld ?rest13
          case hi13 => simp only [List.getElem?_toArray, List.getElem?_cons_succ, List.getElem?_cons_zero]; rfl
          case hq13 => exact fun _ _ _ h => h
          case hy13 => (refine Or.inl ⟨by rfl, ?_⟩; intro w hSw; (try dsimp only at hSw); go_simp; (try with_reducible rfl))
          simp only [Act.put, List.setIfInBounds_toArray, List.set_cons_zero, List.set_cons_succ]
          refine wpAnyZ_take (i := 13) (oi := ?o14) (v := ?v14) ?hi14 (by kernel_rfl) (by kernel_rfl) (by kernel_rfl) (by kernel_rfl) ?hq14 ?hy14 hHeld ?rest14
          case hi14 => simp only [List.getElem?_toArray, List.getElem?_cons_succ, List.getElem?_cons_zero]; rfl
          case hq14 => exact fun _ _ _ h => h
          case hy14 => (refine Or.inl ⟨by rfl, ?_⟩; intro w hSw; (try dsimp only at hSw); go_simp; (try with_reducible rfl))
          simp only [Act.put, List.setIfInBounds_toArray, List.set_cons_zero, List.set_cons_succ]
          refine wpAnyZ_take (i := 14) (oi := ?o15) (v := ?v15) ?hi15 (by kernel_rfl) (by kernel_rfl) (by kernel_rfl) (by kernel_rfl) ?hq15 ?hy15 hHeld ?rest15
          case hi15 => simp only [List.getElem?_toArray, List.getElem?_cons_succ, List.getElem?_cons_zero]; rfl
          case hq15 => exact fun _ _ _ h => h
          case hy15 => (refine Or.inl ⟨by rfl, ?_⟩; intro w hSw; (try dsimp only at hSw); go_simp; (try with_reducible rfl))
          simp only [Act.put, List.setIfInBounds_toArray, List.set_cons_zero, List.set_cons_succ]
          refine wpAnyZ_take (i := 15) (oi := ?o16) (v := ?v16) ?hi16 (by kernel_rfl) (by kernel_rfl) (by kernel_rfl) (by kernel_rfl) ?hq16 ?hy16 hHeld ?rest16
          case hi16 => simp only [List.getElem?_toArray, List.getElem?_cons_succ, List.getElem?_cons_zero]; rfl
          case hq16 => exact fun _ _ _ h => h
          case hy16 => (refine Or.inl ⟨by rfl, ?_⟩; intro w hSw; (try dsimp only at hSw); go_simp; (try with_reducible rfl))
          simp only [Act.put, List.setIfInBounds_toArray, List.set_cons_zero, List.set_cons_succ]
          refine wpAnyZ_take (i := 16) (oi := ?o17) (v := ?v17) ?hi17 (by kernel_rfl) (by kernel_rfl) (by kernel_rfl) (by kernel_rfl) ?hq17 ?hy17 hHeld ?rest17
          case hi17 => simp only [List.getElem?_toArray, List.getElem?_cons_succ, List.getElem?_cons_zero]; rfl
          case hq17 => exact fun _ _ _ h => h
          case hy17 => (refine Or.inl ⟨by rfl, ?_⟩; intro w hSw; (try dsimp only at hSw); go_simp; (try with_reducible rfl))
          simp only [Act.put, List.setIfInBounds_toArray, List.set_cons_zero, List.set_cons_succ]
          refine wpAnyZ_take (i := 17) (oi := ?o18) (v := ?v18) ?hi18 (by kernel_rfl) (by kernel_rfl) (by kernel_rfl) (by kernel_rfl) ?hq18 ?hy18 hHeld ?rest18
          case hi18 => simp only [List.getElem?_toArray, List.getElem?_cons_succ, List.getElem?_cons_zero]; rfl
          case hq18 => exact fun _ _ _ h => h
          case hy18 => (refine Or.inl ⟨by rfl, ?_⟩; intro w hSw; (try dsimp only at hSw); go_simp; (try with_reducible rfl))
          simp only [Act.put, List.setIfInBounds_toArray, List.set_cons_zero, List.set_cons_succ]
          refine wpAnyZ_take (i := 18) (oi := ?o19) (v := ?v19) ?hi19 (by kernel_rfl) (by kernel_rfl) (by kernel_rfl) (by kernel_rfl) ?hq19 ?hy19 hHeld ?rest19
          case hi19 => simp only [List.getElem?_toArray, List.getElem?_cons_succ, List.getElem?_cons_zero]; rfl
          case hq19 => exact fun _ _ _ h => h
          case hy19 => (refine Or.inl ⟨by rfl, ?_⟩; intro w hSw; (try dsimp only at hSw); go_simp; (try with_reducible rfl))
          simp only [Act.put, List.setIfInBounds_toArray, List.set_cons_zero, List.set_cons_succ]
          refine wpAnyZ_take (i := 19) (oi := ?o20) (v := ?v20) ?hi20 (by kernel_rfl) (by kernel_rfl) (by kernel_rfl) (by kernel_rfl) ?hq20 ?hy20 hHeld ?rest20
          case hi20 => simp only [List.getElem?_toArray, List.getElem?_cons_succ, List.getElem?_cons_zero]; rfl
          case hq20 => exact fun _ _ _ h => h
          case hy20 => (refine Or.inl ⟨by rfl, ?_⟩; intro w hSw; (try dsimp only at hSw); go_simp; (try with_reducible rfl))
          simp only [Act.put, List.setIfInBounds_toArray, List.set_cons_zero, List.set_cons_succ]
          refine wpAnyZ_one (i := 20) (o := ?o21) (by kernel_rfl) ?hi21 (fun K hK => ?rest21)
          case hi21 => simp only [List.getElem?_toArray, List.getElem?_cons_succ, List.getElem?_cons_zero]; rfl
          go_simp
          refine hK.out _ _ (.inl rfl) ?_
          clear hK K
          (try simp only [Act.put, List.setIfInBounds_toArray, List.set_cons_zero, List.set_cons_succ])
          refine wpAnyZ_done (by kernel_rfl) ?_ _
          clear hHeld
          go_wp2
          go_roundw
          case rel => exact ⟨i + 1, by omega, by go_num, O2, BB2⟩
          case measure => simp [intOf]; omega
        · have O2 := Lib.hid (show wr.ownsRow w1.heap.size 3 1 (.slice A3 N.length c3) N.length ((viewT N (S.drop k)).map (Value.int .i64)) by
            have := O.out
            rw [List.take_of_length_le (by omega)] at this
            rw [hdn.out]
            exact this)
          clear O yk
          go_wp2
          go_roundw
          case rel => exact ⟨(k : Int) - 1, k, rfl, by omega, by omega, by go_num, O2, BB⟩
          case measure => simp [intOf] <;> omega
    · obtain rfl : n = j := by omega
      have hfin := Lib.hid (hyes.out A3 c3 wr (own_mono O.out (by omega)) (C1.out.trans (BB.out.mono (by omega))))
      clear O BB hyes
      go_wp2
      go_ret
      exact hfin.out
end Go.Proofs.Ytkjjieofoolnhaa
