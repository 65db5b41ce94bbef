/- Proves Rows.FnRebuildDiskSaid: for every input the law FnRebuildDisk returns true and leaves its arguments as they were. Conditions: none. -/
import Derived.Test.YtgdbchodlapdpaaOpen
import Derived.Test.YtgdbchodlapdpaaArrS
import Derived.Test.YtgdbchodlapdpaaSameR
import Derived.Test.YtgdbchodlapdpaaDrAr
namespace Go.Proofs.Ytgdbchodlapdpaa.fnRebuildDisk
open Go.ChangeShapes Go.WideShapes Go.ChangeAt Go.RowKit
set_option linter.unusedVariables false
/-- The headers hs, in a slice in block ob, lead to the rows L, which anyone may have laid, but not in ob. -/
def HdrsR (ob : Option Nat) (w : World) (hs : List Value) (L : List (List Int)) : Prop :=
  hs.length = L.length ∧ ∀ i (h : i < L.length), ∃ Ai ci, hs[i]? = some (.slice Ai L[i].length ci) ∧ ReadC w Ai (CI L[i]) ∧ (0 < L[i].length → ∀ b off, Ai = some ⟨b, off, none⟩ → ob ≠ some b) ∧ L[i].length ≤ ci ∧ ci ≤ 9223372036854775807
theorem HdrsR.nil (ob : Option Nat) (w : World) : HdrsR ob w [] [] := ⟨rfl, fun i h => absurd h (by simp)⟩
theorem HdrsR.keep {ob : Option Nat} {w w' : World} {hs : List Value} {L : List (List Int)} (h : HdrsR ob w hs L) (hb : Below w.heap.size w w') : HdrsR ob w' hs L :=
  ⟨h.1, fun i hi => by obtain ⟨Ai, ci, a, b, c⟩ := h.2 i hi; exact ⟨Ai, ci, a, b.keep hb.block, c⟩⟩
theorem read_blk {w : World} {b off : Nat} {r : List Int} (h : ReadC w (some ⟨b, off, none⟩) (CI r)) (h0 : 0 < r.length) : b < w.heap.size := by
  obtain ⟨b', off', e, hc⟩ := h (by simpa using h0)
  injection e with e
  injection e with e1 e2
  subst e1 e2
  exact block_lt_of_cell (hc 0 (by simpa using h0))
theorem read_grow {ob : Option Nat} {w w' : World} {A : Option Addr} {r : List Int} (h : ReadC w A (CI r)) (ha : 0 < r.length → ∀ b off, A = some ⟨b, off, none⟩ → ob ≠ some b) (hg : w.grownBy w' ob) : ReadC w' A (CI r) := by
  intro h0
  have h0' : 0 < r.length := by simpa using h0
  obtain ⟨b, off, e, hc⟩ := h h0
  refine ⟨b, off, e, fun i hi => ?_⟩
  exact hg.cell (hc i hi) (fun e2 => ha h0' b off e e2.symm)
theorem HdrsR.grow {ob ob' : Option Nat} {w w' : World} {hs : List Value} {L : List (List Int)} {r : List Int} {Ar : Option Addr} {cr : Nat} (h : HdrsR ob w hs L) (hg : w.grownBy w' ob) (hn : ob' = ob ∨ ob' = some w.heap.size)
    (hr : ReadC w Ar (CI r)) (ha : 0 < r.length → ∀ b off, Ar = some ⟨b, off, none⟩ → ob ≠ some b) (h1 : r.length ≤ cr) (h2 : cr ≤ 9223372036854775807) : HdrsR ob' w' (hs ++ [.slice Ar r.length cr]) (L ++ [r]) := by
  obtain ⟨hl, hc⟩ := h
  have hap : ∀ (q : List Int) (A : Option Addr), ReadC w A (CI q) → (0 < q.length → ∀ b off, A = some ⟨b, off, none⟩ → ob ≠ some b) → (0 < q.length → ∀ b off, A = some ⟨b, off, none⟩ → ob' ≠ some b) := by
    intro q A hq hqa h0 b off e
    subst e
    rcases hn with hn | hn
    · rw [hn]; exact hqa h0 b off rfl
    · rw [hn]
      have := read_blk hq h0
      intro e
      injection e with e
      omega
  refine ⟨by simp [hl], fun i hi => ?_⟩
  simp only [List.length_append, List.length_singleton] at hi
  by_cases hlt : i < L.length
  · obtain ⟨Ai, ci, a, b, c, d⟩ := hc i hlt
    rw [List.getElem_append_left hlt]
    exact ⟨Ai, ci, by rw [List.getElem?_append_left (by omega)]; exact a, read_grow b c hg, hap _ _ b c, d⟩
  · have hie : i = L.length := by omega
    subst hie
    rw [List.getElem_append_right (by omega)]
    simp only [Nat.sub_self, List.getElem_cons_zero]
    exact ⟨Ar, cr, by rw [List.getElem?_append_right (by omega), hl, Nat.sub_self]; rfl, read_grow hr ha hg, hap _ _ hr ha, h1, h2⟩
theorem HdrsR.rows {ob : Option Nat} {w : World} {A : Option Addr} {c n : Nat} {base : Nat} {hs : List Value} {L : List (List Int)} (h : HdrsR ob w hs L) (ho : w.ownsRow base 30 1 (.slice A n c) n hs) : RowsR CI w A L := by
  intro h0
  obtain ⟨b, off, e, hc⟩ := own_read ho (by rw [h.1]; exact h0)
  refine ⟨b, off, e, fun i hi => ?_⟩
  obtain ⟨Ai, ci, a, r, _, s⟩ := h.2 i hi
  have := hc i (by rw [h.1]; exact hi)
  rw [List.getElem?_eq_getElem (by rw [h.1]; exact hi)] at a
  injection a with a
  rw [a] at this
  exact ⟨Ai, ci, this, r, s⟩
theorem arr_small {L : List (List Int)} {D m : Nat} (h : ArrOk L D m) : L.length + sumN L ≤ 1000 := by
  have h1 := sumN_le' (m := 16) (L := L) (fun r hr => by have := (h.2.2.2.2 r hr).1; have := h.2.2.2.1; omega)
  have := h.1
  have := h.2.2.1
  omega
theorem own_base {w : World} {base n g : Nat} {e : TypeId} {v : Value} {xs : List Value} (h : w.ownsRow base e 1 v n xs) (hg : v.ownBlock = some g) : base ≤ g ∧ g < w.heap.size := h.lt g hg
theorem made_read (w : World) (n : Nat) : ReadC (w.alloc (.cells (madeCells #[Value.int .i64 0] n) 3)) (some ⟨w.heap.size, 0, none⟩) (CI (List.replicate n 0)) :=
  aread_new (by rw [toList_madeCells_one]; simp)
set_option maxHeartbeats 8000000 in
theorem walk (A : Option Addr) (m cp : Nat) (w : World) (hb : BytesIn w A m) (hmc : m ≤ cp) (hcp : cp ≤ 9223372036854775807) :
    Calls Try.prog 12 #[.slice A m cp] w fun e w' => e = .returned (.bool true) ∧ Below w.heap.size w w' := by
  obtain ⟨i1, hi1, hy0, hy1, hy2⟩ := info_parts info_row
  by_cases hbig : 1048576 < m
  · go_enter Try.func12, Try.ntmps12
    go_wp2
    go_ret
    exact ⟨rfl, Below.refl _ _⟩
  · go_enter Try.func12, Try.ntmps12
    go_wp2_with fail
    refine (drawReb_any A m cp w hb hmc hcp).mono ?_
    rintro e w1 ⟨A1, c1, L, n, rfl, ⟨ht, l1, lc, hc1, hs, b1⟩, n0, n1⟩
    have T1 := Lib.hid ht
    have C1 := Lib.hid b1
    clear b1 hb ht
    obtain ⟨X, hX⟩ : ∃ X, X = rebV L n := ⟨_, rfl⟩
    have HX := Lib.hid hX
    clear hX
    have hXs : X.length + sumN X ≤ 1000 := by
      rw [HX.out]
      unfold rebV
      split
      · rename_i h
        simp only [Bool.and_eq_true] at h
        exact arr_small (ArrOk.of h.1).reb
      · simp [sumN]
    go_wp2_with fail
    refine (implReb_any A1 c1 L n _ T1.out (by omega)).mono ?_
    rw [← HX.out]
    rintro e w2 ⟨A2, c2, rfl, o2, b2⟩
    have T2 := Lib.hid (T1.out.below b2)
    have X2 := Lib.hid o2.read
    have C2 := Lib.hid (C1.out.trans (b2.mono C1.out.size))
    clear o2 b2 T1 C1
    go_wp2_with fail
    refine (specReb_any A1 c1 L n _ T2.out (by omega)).mono ?_
    rw [← HX.out]
    rintro e w3 ⟨A3, c3, rfl, o3, b3⟩
    have T3 := Lib.hid (T2.out.below b3)
    have X3 := Lib.hid (X2.out.below b3)
    have Y3 := Lib.hid o3.read
    have C3 := Lib.hid (C2.out.trans (b3.mono C2.out.size))
    clear o3 b3 T2 X2 C2
    go_wp2_with fail
    refine (sameRows_same A2 A3 c2 c3 X _ X3.out Y3.out (by omega)).mono ?_
    rintro e w4 ⟨rfl, b4⟩
    have T4 := Lib.hid (T3.out.below b4)
    have X4 := Lib.hid (X3.out.below b4)
    have C4 := Lib.hid (C3.out.trans (b4.mono C3.out.size))
    clear b4 T3 X3 Y3 C3
    by_cases hX0 : X.length = 0
    · go_wp2_with (go_at_call 22; refine (alive_any _).mono ?_; rintro e w7 ⟨rfl, hb7⟩)
      go_ret
      exact ⟨rfl, C4.out.trans (hb7.mono C4.out.size)⟩
    · have hpv : arrB L = true ∧ inB n 0 ((L.length : Int) - 1) = true := by
        cases hp : arrB L
        · exact absurd (by rw [HX.out, rebV, hp]; rfl) hX0
        · cases hv : inB n 0 ((L.length : Int) - 1)
          · exact absurd (by rw [HX.out, rebV, hp, hv]; rfl) hX0
          · exact ⟨rfl, rfl⟩
      obtain ⟨ha, hn⟩ := hpv
      obtain ⟨d, hnd⟩ : ∃ d : Nat, n = d := ⟨n.toNat, by have := inB_iff.1 hn; omega⟩
      subst hnd
      have hdl : d < L.length := by have := inB_iff.1 hn; omega
      have HA := Lib.hid (ArrOk.of ha)
      obtain ⟨M, hM⟩ : ∃ M, M = headN L := ⟨_, rfl⟩
      rw [← hM] at HA
      have hXe : X = rebL L d := by rw [HX.out, rebV, ha, hn]; rfl
      obtain ⟨D, hD⟩ : ∃ D, D = L.length := ⟨_, rfl⟩
      have hdD : d < D := by omega
      rw [← hD] at HA
      have HXC := Lib.hid (show conB X = true by rw [hXe]; exact HA.out.rebCon hdD)
      obtain ⟨Z, hZ⟩ : ∃ Z, Z = L.set d (List.replicate M 0) := ⟨_, rfl⟩
      have hzr : (List.replicate M (0 : Int)).length = M ∧ ∀ x ∈ List.replicate M (0 : Int), 0 ≤ x ∧ x ≤ 255 := ⟨by simp, fun x hx => by rw [List.eq_of_mem_replicate hx]; omega⟩
      have OZ : ArrOk Z D M := by rw [hZ]; exact HA.out.put hzr.1 hzr.2
      have HXL := Lib.hid (show rebV Z d = X by
        rw [hXe, rebV, OZ.okB, inB_iff.2 (show (0 : Int) ≤ (d : Int) ∧ (d : Int) ≤ (Z.length : Int) - 1 by rw [OZ.1]; omega)]
        show rebL Z d = rebL L d
        rw [hZ]
        exact HA.out.rebLost hdD hzr.1 hzr.2)
      have HXS := Lib.hid (fun hc : conB L = true => show X = L by rw [hXe]; exact HA.out.rebSame hdD hc)
      have hzs := arr_small OZ
      have hZD := Lib.hid OZ.1
      have hLk : ∀ k (hk : k < L.length), L[k].length = M := fun k hk => (HA.out.2.2.2.2 _ (List.getElem_mem hk)).1
      have HLK := Lib.hid hLk
      have hst : ∀ k (hk : k < L.length), Z.take (k + 1) = Z.take k ++ [if k = d then List.replicate M 0 else L[k]] := by
        intro k hk
        rw [List.take_succ_eq_append_getElem (by rw [OZ.1]; omega)]
        congr 2
        simp only [hZ, List.getElem_set]
        by_cases e : d = k
        · rw [if_pos e, if_pos e.symm]
        · rw [if_neg e, if_neg (fun x => e x.symm)]
      have HST := Lib.hid hst
      have hM16 : M ≤ 16 := HA.out.2.2.2.1
      have hD6 : D ≤ 6 := HA.out.2.2.1
      have HDL := Lib.hid hD
      have hX0' : ((X.length : Int) == 0) = false := by rw [beq_eq_false_iff_ne]; omega
      clear ha hn hXe hzr OZ hst hLk hM hX0 HA hZ hdD
      rw [← hD] at hdl ⊢
      rw [← hD] at l1 lc hs
      clear hD
      obtain ⟨b, off, hA1, _⟩ := T4.out (by rw [← HDL.out]; omega)
      subst hA1
      have TT := Lib.hid (fun (w' : World) (hb : Below w4.heap.size w4 w') (k : Nat) (hk : k < D) => show ∃ Ak ck, w'.cell? ⟨b, off + k, none⟩ = some (.slice Ak M ck) ∧ ReadC w' Ak (CI (L[k]'(by rw [← HDL.out]; exact hk))) ∧ M ≤ ck ∧ ck ≤ 9223372036854775807 ∧ (∀ g o, Ak = some ⟨g, o, none⟩ → 0 < M → g < w4.heap.size) by
        obtain ⟨b', off', e, hc⟩ := T4.out (by rw [← HDL.out]; omega)
        injection e with e
        injection e with e1 e2
        subst e1 e2
        have hkl : k < L.length := by rw [← HDL.out]; exact hk
        obtain ⟨Ak, ck, x, y, z⟩ := hc k hkl
        have hm := HLK.out k hkl
        rw [hm] at x z
        refine ⟨Ak, ck, (World.cell?_of_block (hb.block _ (block_lt_of_cell x))).trans x, y.keep hb.block, z.1, z.2, fun g o e h0 => ?_⟩
        subst e
        exact read_blk y (by rw [hm]; exact h0))
      go_wp2
      go_loopw [6, 7] (fun x y wr => ∃ (k : Nat) (A6 : Option Addr) (c6 : Nat) (hs : List Value), k ≤ D ∧ x = .slice A6 k c6 ∧ y = .int .i64 k ∧ Hid (wr.ownsRow w4.heap.size 30 1 (.slice A6 k c6) k hs) ∧ Hid (HdrsR (Value.slice A6 k c6).ownBlock wr hs (Z.take k)) ∧ Hid (Below w4.heap.size w4 wr)) (fun _ y _ => D - (intOf y).toNat)
      case atStart => exact ⟨0, _, _, [], Nat.zero_le _, rfl, rfl, Lib.hid (World.ownsRow_lit (e := 30) (size := 1) (base := w4.heap.size) w4 #[] 0 (Nat.le_refl _) (by simp [maxLen]) (by simp)), Lib.hid (by rw [List.take_zero]; exact HdrsR.nil _ _), Lib.hid (b_alloc (Below.refl _ _) _)⟩
      case round =>
        obtain ⟨k, A6, c6, hsv, hk, rfl, rfl, O6, H6, B6⟩ := hrel
        by_cases hlt : k < D
        · have hstep := HST.out k (by rw [← HDL.out]; exact hlt)
          obtain ⟨Ak, ck, x0, y0, z0, z1, z2⟩ := TT.out wr B6.out k hlt
          have hwz := B6.out.size
          by_cases hkd : k = d
          · rw [if_pos hkd] at hstep
            have hq : ((k : Int) == (d : Int)) = true := by simp [hkd]
            have hmk : (Instr.makeSlice 30 (.int .i64 (M : Int)) (.int .i64 (M : Int))).run Try.prog wr = .ok (.slice (some ⟨wr.heap.size, 0, none⟩) M M) (wr.alloc (.cells (madeCells #[.int .i64 0] M) 3)) := by
              have := make_rows (P := Try.prog) 30 3 (.int .i64 0) 1 8 Try.underlying30 info_i1 M (by omega) (by omega) wr
              rw [Nat.mul_one] at this
              exact this
            have B7 : Below w4.heap.size w4 ((wr.alloc (.cells (madeCells #[.int .i64 0] M) 3)).alloc (.cells #[.slice (some ⟨wr.heap.size, 0, none⟩) M M] 30)) := b_alloc (b_alloc B6.out _) _
            have O7 := Lib.hid ((O6.out.alloc (.cells (madeCells #[.int .i64 0] M) 3)).alloc (.cells #[.slice (some ⟨wr.heap.size, 0, none⟩) M M] 30))
            have bb : Below wr.heap.size wr ((wr.alloc (.cells (madeCells #[.int .i64 0] M) 3)).alloc (.cells #[.slice (some ⟨wr.heap.size, 0, none⟩) M M] 30)) := b_alloc (b_alloc (Below.refl _ _) _) _
            have H7 := Lib.hid (H6.out.keep bb)
            have RD := Lib.hid (show ReadC ((wr.alloc (.cells (madeCells #[.int .i64 0] M) 3)).alloc (.cells #[.slice (some ⟨wr.heap.size, 0, none⟩) M M] 30)) (some ⟨wr.heap.size, 0, none⟩) (CI (List.replicate M 0)) from (made_read wr M).keep fun k hk => Below.heap_alloc _ _ k hk)
            have RH := Lib.hid (show ReadC ((wr.alloc (.cells (madeCells #[.int .i64 0] M) 3)).alloc (.cells #[.slice (some ⟨wr.heap.size, 0, none⟩) M M] 30)) (some ⟨wr.heap.size + 1, 0, none⟩) [.slice (some ⟨wr.heap.size, 0, none⟩) M M] by
              have := aread_new (w := wr.alloc (.cells (madeCells #[.int .i64 0] M) 3)) (T := 30) (cs := #[.slice (some ⟨wr.heap.size, 0, none⟩) M M]) (xs := [.slice (some ⟨wr.heap.size, 0, none⟩) M M]) rfl
              simpa using this)
            have BB7 := Lib.hid B7
            have HSTEP := Lib.hid hstep
            have olt : ∀ g, (Value.slice A6 k c6).ownBlock = some g → g < wr.heap.size := fun g hg => (O6.out.lt g hg).2
            have OLT := Lib.hid olt
            clear hkd hstep B7 bb O6 H6 B6 y0 olt
            go_wp2_with (at_builtin; refine wpList_append_r _ rfl (.tmp 39) (.tmp 46) 22 rfl w4.heap.size 30 i1 (.slice none 0 0) 1 24 Try.underlying22 hi1 hy0 hy1 hy2 rfl (by decide) _ k hsv O7.out rfl _ 1 1 [.slice (some ⟨wr.heap.size, 0, none⟩) M M] (by simpa using RH.out) rfl rfl (by intro u hu; simp at hu; subst hu; rfl) (by simp only [maxLen]; omega) (by omega) (by simp; omega) ?_; intro v8 w8 o8 g8 n8; obtain ⟨A8, c8, rfl⟩ := own_slice o8)
            have O8 := Lib.hid o8
            have H8 := Lib.hid (show HdrsR (Value.slice A8 (k + 1) c8).ownBlock w8 (hsv ++ [.slice (some ⟨wr.heap.size, 0, none⟩) M M]) (Z.take (k + 1)) by
              rw [HSTEP.out]
              have := H7.out.grow (r := List.replicate M 0) (Ar := some ⟨wr.heap.size, 0, none⟩) (cr := M) g8 n8 RD.out (fun _ b off e => by
                injection e with e
                injection e with e1 e2
                subst e1
                intro e3
                have := OLT.out _ e3
                omega) (by simp) (by omega)
              rw [List.length_replicate] at this
              exact this)
            have B8 := Lib.hid (Below.grown BB7.out g8 BB7.out.size (fun k hk => (O7.out.lt k hk).1))
            clear O7 H7 RD RH BB7 HSTEP OLT o8 g8 n8 hmk
            go_roundw
            case rel => exact ⟨k + 1, A8, c8, _, by omega, rfl, by go_num, O8, H8, B8⟩
            case measure => simp [intOf]; omega
          · rw [if_neg hkd] at hstep
            have hq : ((k : Int) == (d : Int)) = false := by rw [beq_eq_false_iff_ne]; omega
            have hlen := HLK.out k (by rw [← HDL.out]; exact hlt)
            obtain ⟨r, hr⟩ : ∃ r, r = L[k]'(by rw [← HDL.out]; exact hlt) := ⟨_, rfl⟩
            rw [← hr] at hstep y0 hlen
            have O7 := Lib.hid (O6.out.alloc (.cells #[.slice Ak M ck] 30))
            have B7 := Lib.hid (b_alloc B6.out (.cells #[.slice Ak M ck] 30))
            have H7 := Lib.hid (H6.out.keep (b_alloc (Below.refl _ wr) (.cells #[.slice Ak M ck] 30)))
            have RD := Lib.hid (show ReadC (wr.alloc (.cells #[.slice Ak M ck] 30)) Ak (CI r) from y0.keep fun k hk => Below.heap_alloc _ _ k hk)
            have RH := Lib.hid (aread_new (w := wr) (T := 30) (cs := #[.slice Ak M ck]) (xs := [.slice Ak M ck]) rfl)
            have HSTEP := Lib.hid hstep
            have HLEN := Lib.hid hlen
            have OLT := Lib.hid (fun g (hg : (Value.slice A6 k c6).ownBlock = some g) => (O6.out.lt g hg).1)
            have Z2 := Lib.hid z2
            clear hkd hstep O6 H6 B6 y0 hr hlen z2
            go_wp2_with (at_builtin; refine wpList_append_r _ rfl (.tmp 48) (.tmp 53) 22 rfl w4.heap.size 30 i1 (.slice none 0 0) 1 24 Try.underlying22 hi1 hy0 hy1 hy2 rfl (by decide) _ k hsv O7.out rfl _ 1 1 [.slice Ak M ck] RH.out rfl rfl (by intro u hu; simp at hu; subst hu; rfl) (by simp only [maxLen]; omega) (by omega) (by simp; omega) ?_; intro v8 w8 o8 g8 n8; obtain ⟨A8, c8, rfl⟩ := own_slice o8)
            have O8 := Lib.hid o8
            have H8 := Lib.hid (show HdrsR (Value.slice A8 (k + 1) c8).ownBlock w8 (hsv ++ [.slice Ak M ck]) (Z.take (k + 1)) by
              rw [HSTEP.out]
              have := H7.out.grow (r := r) (Ar := Ak) (cr := ck) g8 n8 RD.out (fun h0 b off e e3 => by
                have h1 := Z2.out b off e (by rw [← HLEN.out]; exact h0)
                have := OLT.out _ e3
                omega) (by rw [HLEN.out]; exact z0) z1
              rw [HLEN.out] at this
              exact this)
            have B8 := Lib.hid (Below.grown B7.out g8 B7.out.size (fun k hk => (O7.out.lt k hk).1))
            clear O7 H7 RD RH B7 HSTEP HLEN OLT Z2 o8 g8 n8
            go_roundw
            case rel => exact ⟨k + 1, A8, c8, _, by omega, rfl, by go_num, O8, H8, B8⟩
            case measure => simp [intOf]; omega
        · have hkD : k = D := by omega
          have hzt : Z.take k = Z := List.take_of_length_le (by rw [hZD.out]; omega)
          have RZ : RowsR CI wr A6 Z := by
            have := H6.out.rows O6.out
            rwa [hzt] at this
          have TR := T4.out.below B6.out
          have X6 := Lib.hid (X4.out.below B6.out)
          have C6 := Lib.hid (C4.out.trans (B6.out.mono C4.out.size))
          have T6 := Lib.hid TR
          have Z6 := Lib.hid RZ
          clear O6 H6 B6 hzt RZ TR TT T4 X4 C4 hlt hk HST HLK
          subst hkD
          go_wp2_with fail
          refine (implCon_any A2 c2 X _ X6.out (by omega)).mono ?_
          rintro e w7 ⟨rfl, b7⟩
          rw [HXC.out]
          have T7 := Lib.hid (T6.out.below b7)
          have X7 := Lib.hid (X6.out.below b7)
          have Z7 := Lib.hid (Z6.out.below b7)
          have C7 := Lib.hid (C6.out.trans (b7.mono C6.out.size))
          clear b7 T6 X6 Z6 C6
          have hw := Lib.hid (implReb_any A6 c6 Z d w7 Z7.out (by omega))
          rw [hZD.out, HXL.out] at hw
          go_wp2_with fail
          refine hw.out.mono ?_
          rintro e w8 ⟨A8, c8, rfl, o8, b8⟩
          have T8 := Lib.hid (T7.out.below b8)
          have X8 := Lib.hid (X7.out.below b8)
          have Y8 := Lib.hid o8.read
          have C8 := Lib.hid (C7.out.trans (b8.mono C7.out.size))
          clear o8 b8 T7 X7 Z7 C7 hw
          go_wp2_with fail
          refine (sameRows_same A8 A2 c8 c2 X _ Y8.out X8.out (by omega)).mono ?_
          rintro e w9 ⟨rfl, b9⟩
          have T9 := Lib.hid (T8.out.below b9)
          have X9 := Lib.hid (X8.out.below b9)
          have C9 := Lib.hid (C8.out.trans (b9.mono C8.out.size))
          clear b9 T8 X8 Y8 C8
          have hw := Lib.hid (implCon_any (some ⟨b, off, none⟩) c1 L w9 T9.out (by rw [← HDL.out]; omega))
          rw [← HDL.out] at hw
          go_wp2_with fail
          refine hw.out.mono ?_
          rintro e w10 ⟨rfl, b10⟩
          have T10 := Lib.hid (T9.out.below b10)
          have X10 := Lib.hid (X9.out.below b10)
          have C10 := Lib.hid (C9.out.trans (b10.mono C9.out.size))
          clear b10 T9 X9 C9 hw
          cases hc : conB L
          · go_wp2
            go_ret
            exact ⟨rfl, C10.out⟩
          · have hw := Lib.hid (sameRows_same A2 (some ⟨b, off, none⟩) c2 c1 X w10 X10.out (by rw [HXS.out hc]; exact T10.out) (by omega))
            have hXk : X.length = k := by rw [HXS.out hc, ← HDL.out]
            have hw2 := Lib.hid (show Calls Try.prog 34 #[.slice A2 X.length c2, .slice (some ⟨b, off, none⟩) k c1] w10 (fun e w' => e = .returned (.bool true) ∧ Below w10.heap.size w10 w') by
              have := hw.out
              rw [hXk] at this ⊢
              exact this)
            clear hw hXk hc T10 X10
            go_wp2_with fail
            refine hw2.out.mono ?_
            rintro e w11 ⟨rfl, b11⟩
            have C11 := Lib.hid (C10.out.trans (b11.mono C10.out.size))
            clear b11 hw2 C10
            go_wp2
            go_ret
            exact ⟨rfl, C11.out⟩

set_option maxRecDepth 100000 in
theorem lifted (os : Os) (started : os.Started) (H : Type) (enc : TypeId × Value → H) :
    ReturnsInHanded {} Try.checked os 12 .any (Rows.fnRebuildDiskSpec.pre6 enc Try.prog Try.f12 Rows.fnRebuildDiskRow.domain false) (Rows.fnRebuildDiskSpec.post enc Try.prog Try.f12 false true false false) := by
  refine returnsInHanded_of_change (C := Try.checked) own started (by kernel_rfl) Try.func12
    (ChangeSpec.witness6 (enc := enc) (C := Try.checked) false ⟨#[], #[.slice none 0 0], []⟩ 8 (by kernel_rfl) (by kernel_rfl) (by kernel_rfl) (by kernel_rfl)) ?_
  intro W base args ds gs before hval0 hW hcnd _
  have hval : ∀ (j : Nat) t v, Try.f12.params[j]? = some t → args[j]? = some v → Value.okWide Try.prog W .any base t v := hval0
  have hW' := hW
  obtain ⟨p, q, hA0, hV, rfl, hfz, hnd⟩ := hW
  have hA : DataW.TrodAll enc Try.prog W 0 (fun _ => true) true Try.f12.params.toList args.toList ds p := hA0
  rw [Try.params12] at hA hval
  obtain ⟨v0, vs0, d0, ds0, p0, q0, hargs, rfl, rfl, h0, r0⟩ := trodAll_cons hA
  obtain ⟨rfl, rfl, rfl⟩ := trodAll_nil r0
  obtain rfl : args = #[v0] := by cases args; simp_all
  obtain ⟨rfl, rfl⟩ := trodVars_none hV
  have k0 := h0
  have lt0 : ∀ x ∈ p0, x.block < W.heap.size := by obtain ⟨m, hm⟩ := k0; exact DataW.trod_lt m _ _ _ hm
  obtain ⟨a0, n0, c0, rfl, ok0, le0, cl0⟩ := open_bytes (hval 0 27 v0 rfl rfl) h0
  clear hA0 hval0
  refine (walk a0 n0 c0 W ok0 le0 cl0).mono fun e W' ⟨he, bel⟩ => ?_
  subst he
  exact ⟨_, rfl, _, _, _, [], _, [], hW', trodAll_mk1 (shut_bool Try.underlying4 _), (trodAll_cons_mk (Below.trod laidOut (by kernel_rfl) (of_decide_eq_true (by kernel_rfl)) k0 bel lt0) trodAll_mk0), rfl, bel.frame _, fun h => by cases h⟩

theorem proved : Rows.FnRebuildDiskSaid :=
  OpenClaim.holds_of_wide 12 Try.f12 rfl rfl rfl rfl rfl rfl rfl ⟨rfl, rfl, rfl, rfl, rfl⟩ rfl rfl rfl rfl rfl (by kernel_rfl) Try.func12 (by kernel_rfl)
    (of_decide_eq_true (by kernel_rfl)) (by unfold Func.isWrapper; first | (rw [if_pos (by decide +kernel)]; kernel_rfl) | (rw [if_neg (by decide +kernel)]; exact ⟨rfl, rfl⟩))
    (fun os started H enc _ => lifted os started H enc)
#print axioms proved
end Go.Proofs.Ytgdbchodlapdpaa.fnRebuildDisk
