/- Contracts of ThinView, the program's and the reference's. -/
import Derived.Test.YtjkbooflbfnbiaaThinV
import Derived.StillTailTactics
namespace Go.Proofs.Ytjkbooflbfnbiaa
open Go.RowKit
set_option linter.unusedVariables false

def viewV (W P : List Int) : List Int := if thinB W P = true then viewL W P else []
theorem thin_at {W P : List Int} (h : thinB W P = true) {k : Nat} (hk : k < W.length) : -1 ≤ W[k] ∧ W[k] < P.length := by
  simp only [thinB, Bool.and_eq_true, allB, List.all_eq_true] at h
  have := inB_iff.1 (h.1.2 _ (List.getElem_mem hk))
  omega
theorem thin_len {W P : List Int} (h : thinB W P = true) : W.length ≤ 64 ∧ P.length ≤ 64 := by
  simp only [thinB, Bool.and_eq_true, diskB, decide_eq_true_eq] at h
  omega
def vw (P : List Int) (p : Int) : Int := if 0 ≤ p then P.getD p.toNat 0 else 0
theorem viewL_length (W P : List Int) : (viewL W P).length = W.length := by simp [viewL]
theorem viewV_length (W P : List Int) : (viewV W P).length ≤ W.length := by unfold viewV; split <;> simp [viewL_length]
theorem view_step {W P : List Int} {k : Nat} (h : k < W.length) : (viewL W P).take (k + 1) = (viewL W P).take k ++ [vw P W[k]] := by
  rw [List.take_succ_eq_append_getElem (by rw [viewL_length]; exact h)]
  simp [viewL, vw]

/-- A row of the call's own with the ints l. -/
def OwnInts (l : List Int) (W : World) (e : Ending) (w' : World) : Prop :=
  ∃ A c, e = .returned (.slice A l.length c) ∧ w'.ownsRow W.heap.size 3 1 (.slice A l.length c) l.length (l.map (Value.int .i64)) ∧ Below W.heap.size W w'

theorem zeros_row (w : World) (n : Nat) (hn : n ≤ maxLen) {base : Nat} (hb : base ≤ w.heap.size) : (w.alloc (.cells (madeCells #[Value.int .i64 0] n) 3)).ownsRow base 3 1 (.slice (some ⟨w.heap.size, 0, none⟩) n n) n ((List.replicate n (0 : Int)).map (Value.int .i64)) := by
  refine ⟨by simp, .inr ⟨w.heap.size, n, _, rfl, hb, heap_alloc_new w _, Nat.le_refl _, hn, by simp [size_madeCells], ?_⟩⟩
  rw [toList_madeCells_one, List.map_replicate, List.take_of_length_le (by simp)]
theorem view_start (W P : List Int) : (viewL W P).take 0 ++ List.replicate (W.length - 0) 0 = List.replicate W.length 0 := by simp
theorem view_set {W P : List Int} {k : Nat} (h : k < W.length) : (((viewL W P).take k ++ List.replicate (W.length - k) (0 : Int)).map (Value.int .i64)).set k (.int .i64 (vw P W[k])) = ((viewL W P).take (k + 1) ++ List.replicate (W.length - (k + 1)) (0 : Int)).map (Value.int .i64) := by
  rw [← List.map_set, view_step h, show W.length - k = (W.length - (k + 1)) + 1 by omega, List.replicate_succ]
  have hl : ((viewL W P).take k).length = k := by rw [List.length_take, viewL_length]; omega
  rw [List.set_append_right _ _ (by omega), hl, Nat.sub_self, List.set_cons_zero, List.append_assoc]
  rfl
theorem view_skip {W P : List Int} {k : Nat} (h : k < W.length) (hv : vw P W[k] = 0) : (viewL W P).take k ++ List.replicate (W.length - k) (0 : Int) = (viewL W P).take (k + 1) ++ List.replicate (W.length - (k + 1)) (0 : Int) := by
  rw [view_step h, hv, show W.length - k = (W.length - (k + 1)) + 1 by omega, List.replicate_succ, List.append_assoc]
  rfl

set_option maxHeartbeats 1000000 in
theorem implView_any (v : Value) (W P : List Int) (w : World) (h : ThinR w v W P) (hW : W.length ≤ 1000000000000) (hP : P.length ≤ 1000000000000) :
    Calls Try.prog 24 #[v] w (OwnInts (viewV W P) w) := by
  have HR := Lib.hid h
  obtain ⟨A, c, B, d, rfl, hA, hB, hc1, hc2, hd1, hd2⟩ := h
  have hmk := make_rows (P := Try.prog) 22 3 (.int .i64 0) 1 8 Try.underlying22 (by kernel_rfl) W.length (by omega) (by omega)
  go_enter Try.func24, Try.ntmps24
  go_wp2_with fail
  refine (implThin_any _ W P _ (HR.out.alloc _) (by omega) (by omega)).mono ?_
  rintro e w1 ⟨rfl, b1⟩
  have K1 := Lib.hid (show Blk w1 w.heap.size 27 #[.slice A W.length c, .slice B P.length d] from blk_below b1 (Blk.new rfl) (by simp))
  have C1 := Lib.hid ((b_alloc (Below.refl w.heap.size w) _).trans (b1.mono (by simp)))
  clear b1
  obtain ⟨x0, x1, f0, f1⟩ := K1.out.two
  have hz : w.heap.size < w1.heap.size := K1.out.lt
  have hzn : w.heap.size ≠ w1.heap.size := by omega
  cases hv : thinB W P
  · have hno := Lib.hid (show OwnInts (viewV W P) w (.returned (.slice none 0 0)) w1 from ⟨none, 0, by simp [viewV, hv], by simp [viewV, hv]; exact World.ownsRow_nil _ _ _ _, C1.out⟩)
    clear hv hmk
    go_wp2
    go_ret
    exact hno.out
  · have hl := thin_len hv
    have hval := Lib.hid (fun A c w' (ho : w'.ownsRow w.heap.size 3 1 (.slice A W.length c) W.length ((viewL W P).map (Value.int .i64))) (hb : Below w.heap.size w w') => show OwnInts (viewV W P) w (.returned (.slice A W.length c)) w' from
      ⟨A, c, by simp [viewV, hv, viewL_length], by simp only [viewV, hv, viewL_length, if_true]; exact ho, hb⟩)
    have HV := Lib.hid hv
    have HA := Lib.hid hA
    have HB := Lib.hid hB
    clear hv hA hB
    go_wp2
    clear hmk
    go_loopw [16] (fun y wr => ∃ k : Nat, k ≤ W.length ∧ y = .int .i64 k ∧ Hid (wr.ownsRow w.heap.size 3 1 (.slice (some ⟨w1.heap.size, 0, none⟩) W.length W.length) W.length (((viewL W P).take k ++ List.replicate (W.length - k) 0).map (Value.int .i64))) ∧ Hid (Blk wr w.heap.size 27 #[.slice A W.length c, .slice B P.length d]) ∧ Hid (Below w.heap.size w wr)) (fun y _ => W.length - (intOf y).toNat)
    case atStart => exact ⟨0, Nat.zero_le _, rfl, by show World.ownsRow _ _ _ _ _ _ _; rw [view_start]; exact zeros_row _ _ (by simp only [maxLen]; omega) C1.out.size, K1.out.alloc _, b_alloc C1.out _⟩
    case round =>
      obtain ⟨k, hk, rfl, ho, hK, hb⟩ := hrel
      obtain ⟨x0, x1, f0, f1⟩ := hK.out.two
      by_cases hlt : k < W.length
      · obtain ⟨b, off, rfl, hc⟩ := HA.out.below hb.out (by omega)
        have c1 := hc k hlt
        have hat := thin_at HV.out hlt
        have hset := Lib.hid (view_set (P := P) hlt)
        have hskip := Lib.hid (fun h => view_skip (P := P) hlt h)
        obtain ⟨x, hx⟩ : ∃ x, x = W[k] := ⟨_, rfl⟩
        rw [← hx] at c1 hat hset hskip
        clear hx hc
        by_cases h0 : 0 ≤ x
        · obtain ⟨b', off', rfl, hc'⟩ := HB.out.below hb.out (by omega)
          obtain ⟨q, rfl⟩ := Int.eq_ofNat_of_zero_le h0
          have hq : q < P.length := by omega
          have c2 := hc' q hq
          have hvw : vw P (q : Int) = P[q] := by simp [vw, List.getD_eq_getElem?_getD, List.getElem?_eq_getElem hq]
          rw [hvw] at hset
          have hst := ho.out.stored k (.int .i64 P[q])
          have hcell := ho.out.cellAt k (by omega)
          have hfr := ho.out.frozenAt k
          rw [List.getElem?_eq_getElem (by simp [viewL_length]; omega)] at hcell
          have Ho2 := Lib.hid (show World.ownsRow _ _ _ _ _ _ _ by have := hst.1; rw [hset.out] at this; exact this)
          have HK2 := Lib.hid (hK.out.far (p := ⟨w1.heap.size, k, none⟩) (by have := K1.out.lt; simp; omega) (.int .i64 P[q]))
          have Hb2 := Lib.hid (hb.out.setCell (p := ⟨w1.heap.size, k, none⟩) C1.out.size (.int .i64 P[q]))
          clear hst hc' hvw hset hskip ho hK hb hat
          obtain ⟨y, hy⟩ : ∃ y, y = P[q] := ⟨_, rfl⟩
          rw [← hy] at c2 Ho2 HK2 Hb2
          clear hy
          go_wp2
          go_roundw
          case rel => exact ⟨k + 1, by omega, by go_num, Ho2, HK2, Hb2⟩
          case measure => simp [intOf]; omega
        · have Ho2 := ho
          rw [hskip.out (by simp [vw]; omega)] at Ho2
          clear hset hskip ho hat
          go_wp2
          go_roundw
          case rel => exact ⟨k + 1, by omega, by go_num, Ho2, hK, hb⟩
          case measure => simp [intOf]; omega
      · have hfin := Lib.hid (hval.out _ _ wr (by have := ho.out; rw [List.take_of_length_le (by rw [viewL_length]; omega), show W.length - k = 0 by omega] at this; simpa using this) hb.out)
        clear ho hK hb hval
        go_wp2
        go_ret
        exact hfin.out

theorem rowinfo_int : (Try.prog.info? 3).map (fun i => (i.zero, i.size, i.bytes)) = some (some (.int .i64 0), 1, 8) := by kernel_rfl

set_option maxHeartbeats 1000000 in
theorem specView_any (v : Value) (W P : List Int) (w : World) (h : ThinR w v W P) (hW : W.length ≤ 1000000000000) (hP : P.length ≤ 1000000000000) :
    Calls Try.prog 23 #[v] w (OwnInts (viewV W P) w) := by
  have HR := Lib.hid h
  obtain ⟨A, c, B, d, rfl, hA, hB, hc1, hc2, hd1, hd2⟩ := h
  obtain ⟨i0, hi0, hz0, hz1, hz2⟩ := info_parts rowinfo_int
  have HA := Lib.hid hA
  have HB := Lib.hid hB
  clear hA hB
  have hfal := Lib.hid (fun (hv : thinB W P = false) (A : Option Addr) c w' (ho : w'.ownsRow (w.heap.size + 1) 3 1 (.slice A 0 c) 0 []) (hb : Below w.heap.size w w') => show OwnInts (viewV W P) w (.returned (.slice A 0 c)) w' from
      ⟨A, c, by simp [viewV, hv], by simp [viewV, hv]; exact own_mono ho (by omega), hb⟩)
  have hval := Lib.hid (fun (hv : W.length = 0 ∨ thinB W P = true) A c w' (ho : w'.ownsRow (w.heap.size + 1) 3 1 (.slice A W.length c) W.length ((viewL W P).map (Value.int .i64))) (hb : Below w.heap.size w w') => show OwnInts (viewV W P) w (.returned (.slice A W.length c)) w' from by
      rcases hv with hv | hv
      · have hvv : viewV W P = [] := List.eq_nil_of_length_eq_zero (by have := viewV_length W P; omega)
        rw [hv] at ho ⊢
        have hl0 : viewL W P = [] := List.eq_nil_of_length_eq_zero (by rw [viewL_length]; exact hv)
        rw [hl0] at ho
        exact ⟨A, c, by simp [hvv], by simp [hvv]; exact own_mono ho (by omega), hb⟩
      · exact ⟨A, c, by simp [viewV, hv, viewL_length], by simp only [viewV, hv, viewL_length, if_true]; exact own_mono ho (by omega), hb⟩)
  go_enter Try.func23, Try.ntmps23
  go_wp2
  go_loopw [3, 4] (fun x y wr => ∃ (k : Nat) (E : Option Addr) (cp : Nat), k ≤ W.length ∧ x = .slice E k cp ∧ y = .int .i64 k ∧ Hid (0 < k → thinB W P = true) ∧ Hid (wr.ownsRow (w.heap.size + 1) 3 1 (.slice E k cp) k (((viewL W P).take k).map (Value.int .i64))) ∧ Hid (Blk wr w.heap.size 27 #[.slice A W.length c, .slice B P.length d]) ∧ Hid (Below w.heap.size w wr)) (fun _ y _ => W.length - (intOf y).toNat)
  case atStart => exact ⟨0, _, _, Nat.zero_le _, rfl, rfl, fun h => absurd h (by omega), by
      have := World.ownsRow_lit (e := 3) (size := 1) (base := w.heap.size + 1) (w.alloc (.cells #[.slice A W.length c, .slice B P.length d] 27)) #[] 0 (by simp) (by simp [maxLen]) (by simp)
      exact (by simpa using this : World.ownsRow _ _ _ _ _ _ _), (Blk.new rfl).alloc _, b_alloc (b_alloc (Below.refl _ _) _) _⟩
  case round =>
    obtain ⟨k, E, cp, hk, rfl, rfl, hkv, ho, hK, hb⟩ := hrel
    obtain ⟨x0, x1, f0, f1⟩ := hK.out.two
    by_cases hlt : k < W.length
    · go_wp2_with fail
      refine (specThin_any _ W P _ (HR.out.below hb.out) (by omega) (by omega)).mono ?_
      rintro e w2 ⟨rfl, b2⟩
      have K2 := Lib.hid (show Blk w2 w.heap.size 27 #[.slice A W.length c, .slice B P.length d] from blk_below b2 hK.out hK.out.lt)
      have C2 := Lib.hid (hb.out.trans (b2.mono hb.out.size))
      have O2 := Lib.hid (own_below ho.out b2 (Nat.le_refl _))
      clear b2 hK hb ho x0 x1 f0 f1
      obtain ⟨x0, x1, f0, f1⟩ := K2.out.two
      cases hv : thinB W P
      · have hk0 : k = 0 := by
          rcases Nat.eq_zero_or_pos k with h | h
          · exact h
          · rw [hkv.out h] at hv; cases hv
        subst hk0
        have hfin := Lib.hid (hfal.out hv E cp w2 (by simpa using O2.out) C2.out)
        clear hv hfal hval hi0 hz0 hz1 hz2
        go_wp2
        go_ret
        exact hfin.out
      · have hkv2 := Lib.hid (show 0 < k + 1 → thinB W P = true from fun _ => hv)
        have hat := thin_at hv hlt
        obtain ⟨b, off, rfl, hc⟩ := HA.out.below C2.out (by omega)
        have c1 := hc k hlt
        have hst := Lib.hid (view_step (P := P) hlt)
        obtain ⟨x, hx⟩ : ∃ x, x = W[k] := ⟨_, rfl⟩
        rw [← hx] at c1 hat hst
        clear hx hc hv hkv hfal
        by_cases h0 : 0 ≤ x
        · obtain ⟨b', off', rfl, hc'⟩ := HB.out.below C2.out (by omega)
          obtain ⟨q, rfl⟩ := Int.eq_ofNat_of_zero_le h0
          have hq : q < P.length := by omega
          have c2 := hc' q hq
          obtain ⟨y, hy⟩ : ∃ y, y = P[q] := ⟨_, rfl⟩
          have HVW := Lib.hid (show vw P (q : Int) = y by rw [hy]; simp [vw, List.getD_eq_getElem?_getD, List.getElem?_eq_getElem hq])
          rw [← hy] at c2
          clear hy hc' hat
          have hx' := Lib.hid (fun m => And.intro (own_drewN O2.out m) (And.intro (K2.out.drewN m) (belowN C2.out m)))
          go_wp2
          go_quiet (fail)
          obtain ⟨hO, hK3, hb3⟩ := hx'.out nq
          clear hx' O2 K2 C2 c1 c2 x0 x1 f0 f1
          generalize w2.drewN nq = w3 at *
          have H3 := Lib.hid (show World.ownsRow _ _ _ _ _ _ _ from hO.alloc (.cells #[.int .i64 y] 3))
          have hnw := Lib.hid (news_at (w := w3) (T := 3) (cs := #[.int .i64 y]))
          have KA := Lib.hid (hK3.alloc (.cells #[.int .i64 y] 3))
          have hz3 := hb3.size
          have Hb3 := Lib.hid hb3
          clear hO hK3 hb3
          go_wp2_with (at_builtin; go_loud (refine wpList_append_own _ rfl (.tmp 33) (.tmp 35) 22 rfl (w.heap.size + 1) 3 i0 (.int .i64 0) 1 8 Try.underlying22 hi0 hz0 hz1 hz2 rfl (by decide) _ k (((viewL W P).take k).map (Value.int .i64)) rfl H3.out ⟨w3.heap.size, 0, none⟩ 1 1 [.int .i64 y] rfl rfl hnw.out (by intro u hu; simp at hu; subst hu; rfl) (by simp only [maxLen]; omega) (by omega) (by have := KA.out.lt; omega) ?_; intro v4 w4 hown4 hg4 hnil4; obtain ⟨g4, cap4, rfl⟩ := own_shape hown4))
          have K4 := Lib.hid (show Blk w4 w.heap.size 27 _ from blk_grown hg4 KA.out (fun e => by have := (H3.out.lt _ e.symm).1; omega))
          have C4 := Lib.hid ((b_alloc Hb3.out (.cells #[.int .i64 y] 3)).grown hg4 (by have := Hb3.out.size; simp; omega) (fun g hg => by have := (H3.out.lt g hg).1; omega))
          have O4 := Lib.hid (show w4.ownsRow (w.heap.size + 1) 3 1 (.slice (some ⟨g4, 0, none⟩) (k + 1) cap4) (k + 1) (((viewL W P).take (k + 1)).map (Value.int .i64)) by rw [hst.out, HVW.out, List.map_append]; exact hown4)
          clear hown4 hg4 hnil4 hnw KA H3 Hb3
          go_roundw
          case rel => exact ⟨k + 1, _, _, by omega, rfl, by go_num, hkv2, O4, K4, C4⟩
          case measure => simp [intOf]; omega
        · have HVW := Lib.hid (show vw P x = 0 by simp [vw]; omega)
          have hd0 : decide (0 ≤ x) = false := by simpa using h0
          have hO := O2.out
          have hK3 := K2.out
          have hb3 := C2.out
          clear O2 K2 C2
          have H3 := Lib.hid (show World.ownsRow _ _ _ _ _ _ _ from hO.alloc (.cells #[.int .i64 0] 3))
          have hnw := Lib.hid (news_at (w := w2) (T := 3) (cs := #[.int .i64 0]))
          have KA := Lib.hid (hK3.alloc (.cells #[.int .i64 0] 3))
          have hz3 := hb3.size
          have Hb3 := Lib.hid hb3
          clear hO hK3 hb3
          go_wp2_with (at_builtin; go_loud (refine wpList_append_own _ rfl (.tmp 33) (.tmp 35) 22 rfl (w.heap.size + 1) 3 i0 (.int .i64 0) 1 8 Try.underlying22 hi0 hz0 hz1 hz2 rfl (by decide) _ k (((viewL W P).take k).map (Value.int .i64)) rfl H3.out ⟨w2.heap.size, 0, none⟩ 1 1 [.int .i64 0] rfl rfl hnw.out (by intro u hu; simp at hu; subst hu; rfl) (by simp only [maxLen]; omega) (by omega) (by have := KA.out.lt; omega) ?_; intro v4 w4 hown4 hg4 hnil4; obtain ⟨g4, cap4, rfl⟩ := own_shape hown4))
          have K4 := Lib.hid (show Blk w4 w.heap.size 27 _ from blk_grown hg4 KA.out (fun e => by have := (H3.out.lt _ e.symm).1; omega))
          have C4 := Lib.hid ((b_alloc Hb3.out (.cells #[.int .i64 0] 3)).grown hg4 (by have := Hb3.out.size; simp; omega) (fun g hg => by have := (H3.out.lt g hg).1; omega))
          have O4 := Lib.hid (show w4.ownsRow (w.heap.size + 1) 3 1 (.slice (some ⟨g4, 0, none⟩) (k + 1) cap4) (k + 1) (((viewL W P).take (k + 1)).map (Value.int .i64)) by rw [hst.out, HVW.out, List.map_append]; exact hown4)
          clear hown4 hg4 hnil4 hnw KA H3 Hb3
          go_roundw
          case rel => exact ⟨k + 1, _, _, by omega, rfl, by go_num, hkv2, O4, K4, C4⟩
          case measure => simp [intOf]; omega
    · have hfin := Lib.hid (hval.out (by by_cases h0 : W.length = 0; exact .inl h0; exact .inr (hkv.out (by omega))) E cp wr (by have := ho.out; rw [List.take_of_length_le (by rw [viewL_length]; omega), show k = W.length by omega] at this; exact this) hb.out)
      obtain rfl : k = W.length := by omega
      clear hval hfal hkv ho hb hi0 hz0 hz1 hz2
      go_wp2
      go_ret
      exact hfin.out
end Go.Proofs.Ytjkbooflbfnbiaa
