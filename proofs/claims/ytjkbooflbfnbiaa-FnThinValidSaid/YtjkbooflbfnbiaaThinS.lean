/- The contract of ThinTrim, the reference's. -/
import Derived.Test.YtjkbooflbfnbiaaThinC
namespace Go.Proofs.Ytjkbooflbfnbiaa
open Go.RowKit
set_option linter.unusedVariables false

set_option maxHeartbeats 2000000 in
theorem specTrim_any (v : Value) (W P : List Int) (a : Int) (w : World) (h : ThinR w v W P) (hW : W.length ≤ 1048576) (hP : P.length ≤ 1048576) :
    Calls Try.prog 33 #[v, .int .i64 a] w (OwnThinC (trimW W P a) (trimP W P a) w) := by
  have HR := Lib.hid h
  obtain ⟨A, c, B, d, rfl, hA, hB, hc1, hc2, hd1, hd2⟩ := h
  have HA := Lib.hid hA
  clear hA hB
  go_enter Try.func33, Try.ntmps33
  go_wp2_with fail
  refine (specThin_any _ W P _ ((HR.out.alloc _).alloc _) (by omega) (by omega)).mono ?_
  rintro e w1 ⟨rfl, b1⟩
  have K1 := Lib.hid (show Blk w1 w.heap.size 27 #[.slice A W.length c, .slice B P.length d] from blk_below b1 ((Blk.new rfl).alloc _) (by simp; omega))
  have L1 := Lib.hid (show Blk w1 (w.heap.size + 1) 27 #[.slice none 0 0, .slice none 0 0] from blk_below b1 (Blk.new (by simp)) (by simp))
  have C1 := Lib.hid ((b_alloc (b_alloc (Below.refl w.heap.size w) _) _).trans (b1.mono (by simp; omega)))
  have Z1 : w.heap.size + 2 ≤ w1.heap.size := by have := b1.size; simp at this; omega
  clear b1
  obtain ⟨x0, x1, f0, f1⟩ := K1.out.two
  obtain ⟨y0, y1, g0, g1⟩ := L1.out.two
  cases hv : secB W P a
  · have hno := Lib.hid (fun w' (hb : Below w.heap.size w w') => show OwnThinC (trimW W P a) (trimP W P a) w (.returned (.agg #[.slice none 0 0, .slice none 0 0])) w' from ⟨_, rfl, by simp only [trimW, trimP, hv]; exact thin_nil' _ _ _, hb⟩)
    have hv' : thinB W P = false ∨ (thinB W P = true ∧ inB a 0 ((W.length : Int) - 1) = false) := by
      cases h1 : thinB W P
      · exact .inl rfl
      · right; refine ⟨rfl, ?_⟩; simpa [secB, h1] using hv
    clear hv
    rcases hv' with h1 | ⟨h1, h2⟩
    all_goals
      go_wp2_with (go_at_call 39; refine (l1In_any _ _ _ _).mono ?_; rintro e w' ⟨rfl, rfl⟩)
      exact bodyPost_ret (v := .agg #[.slice none 0 0, .slice none 0 0]) (by simp [results, Try.results33, go_sem, y0, y1]) rfl (hno.out _ ((C1.out.setCell (by simp) _).setCell (by simp) _))
  · have hs := hv
    simp only [secB, Bool.and_eq_true, inB_iff] at hs
    obtain ⟨hthin, a0, a1⟩ := hs
    obtain ⟨k, rfl⟩ := Int.eq_ofNat_of_zero_le a0
    have hk : k < W.length := by omega
    have hat := thin_at' hthin hk
    have HT := Lib.hid hthin
    have hyes := (fun A B c d w' (ho : ThinO w.heap.size w'.heap.size w' (.agg #[.slice A W.length c, .slice B P.length d]) (W.set k (-1)) (if 0 ≤ W.getD k 0 then P.set (W.getD k 0).toNat 0 else P)) (hb : Below w.heap.size w w') => show OwnThinC (trimW W P k) (trimP W P k) w (.returned (.agg #[.slice A W.length c, .slice B P.length d])) w' from ⟨_, rfl, by simp only [trimW, trimP, hv, if_true, Int.toNat_natCast]; exact ho, hb⟩)
    have hgd : W.getD k 0 = W[k] := by rw [List.getD_eq_getElem?_getD, List.getElem?_eq_getElem hk]; rfl
    rw [← hgd] at hat
    have HG := Lib.hid hgd
    have HY := Lib.hid hyes
    have hin : inB (k : Int) 0 ((W.length : Int) - 1) = true := inB_iff.2 ⟨a0, a1⟩
    clear hv hgd hyes
    go_wp2_with fail
    refine (l1In_any _ _ _ _).mono ?_
    rintro e w' ⟨rfl, rfl⟩
    go_wp2_with fail
    refine (specCopy_any _ W P _ (HR.out.below C1.out) hW hP).mono ?_
    rintro e w2 ⟨v2, rfl, o2, b2⟩
    have O2 := Lib.hid o2
    obtain ⟨A2, c2, B2, d2, rfl, _, _, hap, _⟩ := o2
    have HAP := Lib.hid hap
    clear hap
    have K2 := Lib.hid (show Blk w2 w.heap.size 27 #[.slice A W.length c, .slice B P.length d] from blk_below b2 K1.out K1.out.lt)
    have L2 := Lib.hid (show Blk w2 (w.heap.size + 1) 27 #[.slice none 0 0, .slice none 0 0] from blk_below b2 L1.out L1.out.lt)
    have C2 := Lib.hid (C1.out.trans (b2.mono C1.out.size))
    have Z2 : w1.heap.size ≤ w2.heap.size := b2.size
    clear b2 K1 L1 x0 x1 f0 f1 y0 y1 g0 g1
    obtain ⟨x0, x1, f0, f1⟩ := K2.out.two
    obtain ⟨y0, y1, g0, g1⟩ := L2.out.two
    have zl1 : w.heap.size < w2.heap.size := by omega
    have zl2 : w.heap.size + 1 < w2.heap.size := by omega
    have hyes := HY.out
    clear HY hthin hin
    obtain ⟨x, hx⟩ : ∃ x, x = W.getD k 0 := ⟨_, rfl⟩
    rw [← hx] at hat hyes
    have HX := Lib.hid hx
    clear hx
    by_cases h0 : 0 ≤ x
    · obtain ⟨q, rfl⟩ := Int.eq_ofNat_of_zero_le h0
      obtain ⟨gP, rfl, p1, p2, p3, p4, p5, OP⟩ := O2.out.setP rfl rfl q 0 (by omega)
      obtain ⟨gW, rfl, r1, r2, r3, r4, r5, OW⟩ := OP.setW rfl (by simp) k (-1) hk
      rw [if_pos (by omega)] at hyes
      simp only [Int.toNat_natCast] at hyes
      have hy := hyes
      have HOW := Lib.hid OW
      have hne : gP ≠ gW := fun e => HAP.out gW rfl (by rw [← e]; rfl)
      have n1 : gP ≠ w.heap.size + 1 := by omega
      have n2 : gW ≠ w.heap.size + 1 := by omega
      have n3 : gP ≠ w2.heap.size := by omega
      have n4 : gW ≠ w2.heap.size := by omega
      have r4' : w2.cell? ⟨gW, k, none⟩ = some (.int .i64 q) := by
        rw [World.cell?_setCell_other _ _ _ _ (by intro e; injection e with e; exact hne e)] at r4
        rw [r4, HX.out]
      have r5' : w2.frozen? ⟨gW, k, none⟩ = false := by simpa using r5
      have F1 := Lib.hid (fun m : Nat => hy _ _ _ _ (((((((w2.setCell ⟨gP, q, none⟩ (.int .i64 0)).setCell ⟨gW, k, none⟩ (.int .i64 (-1))).setCell ⟨w.heap.size + 1, 0, none⟩ (.slice (some ⟨gW, 0, none⟩) W.length c2)).setCell ⟨w.heap.size + 1, 1, none⟩ (.slice (some ⟨gP, 0, none⟩) P.length d2)).alloc (.cells #[.slice (some ⟨gW, 0, none⟩) W.length c2, .slice (some ⟨gP, 0, none⟩) P.length d2] 27))).drew) ((((HOW.out.turn (((Turn.refl (w.heap.size + 1) (w.heap.size + 2) _).setCell (by simp) (by simp) _).setCell (by simp) (by simp) _) (.inl (by omega))).below (b_alloc (Below.refl _ _) _)).mono (by omega) (by simp)) : ThinO _ _ _ _ _ _) (b_drew (b_alloc ((((C2.out.setCell (p := ⟨gP, q, none⟩) (by show _ ≤ gP; omega) _).setCell (p := ⟨gW, k, none⟩) (by show _ ≤ gW; omega) _).setCell (by simp) _).setCell (by simp) _) _)))
      clear hy HOW HAP hyes O2 OW OP r4 r5
      go_wp2
      go_region_held3 (fun w' => w'.cell? ⟨w2.heap.size, 0, none⟩ = some (.slice (some ⟨gW, 0, none⟩) W.length c2) ∧ w'.cell? ⟨w2.heap.size, 1, none⟩ = some (.slice (some ⟨gP, 0, none⟩) P.length d2) ∧ w'.cell? ⟨gW, k, none⟩ = some (.int .i64 q)) (first | (refine ⟨?_, ?_, ?_⟩; (exact (Blk.new (g := w2.heap.size) (t := 27) (cs := #[.slice (some ⟨gW, 0, none⟩) W.length c2, .slice (some ⟨gP, 0, none⟩) P.length d2]) (w := w2.setCell ⟨gP, q, none⟩ (.int .i64 0)) (by simp)).drew.cell 0); (exact (Blk.new (g := w2.heap.size) (t := 27) (cs := #[.slice (some ⟨gW, 0, none⟩) W.length c2, .slice (some ⟨gP, 0, none⟩) P.length d2]) (w := w2.setCell ⟨gP, q, none⟩ (.int .i64 0)) (by simp)).drew.cell 1); go_keep) | go_keep) (fail)
      go_wp2
      exact bodyPost_ret (v := .agg #[.slice (some ⟨gW, 0, none⟩) W.length c2, .slice (some ⟨gP, 0, none⟩) P.length d2]) (by simp [results, Try.results33, go_sem, y0, y1, zl2]) rfl (F1.out 0)
    · have hx1 : x = -1 := by omega
      obtain ⟨gW, rfl, r1, r2, r3, r4, r5, OW⟩ := O2.out.setW rfl rfl k (-1) hk
      rw [if_neg h0] at hyes
      have n2 : gW ≠ w.heap.size + 1 := by omega
      have n4 : gW ≠ w2.heap.size := by omega
      rw [← HX.out] at r4
      have F1 := Lib.hid (hyes _ _ _ _ (((((w2.setCell ⟨gW, k, none⟩ (.int .i64 (-1))).setCell ⟨w.heap.size + 1, 0, none⟩ (.slice (some ⟨gW, 0, none⟩) W.length c2)).setCell ⟨w.heap.size + 1, 1, none⟩ (.slice B2 P.length d2)).alloc (.cells #[.slice (some ⟨gW, 0, none⟩) W.length c2, .slice B2 P.length d2] 27))) (((OW.turn (((Turn.refl (w.heap.size + 1) (w.heap.size + 2) _).setCell (by simp) (by simp) _).setCell (by simp) (by simp) _) (.inl (by omega))).below (b_alloc (Below.refl _ _) _)).mono (by omega) (by simp)) (b_alloc (((C2.out.setCell (p := ⟨gW, k, none⟩) (by show _ ≤ gW; omega) _).setCell (by simp) _).setCell (by simp) _) _))
      clear hyes O2 HAP OW hx1
      go_wp2
      exact bodyPost_ret (v := .agg #[.slice (some ⟨gW, 0, none⟩) W.length c2, .slice B2 P.length d2]) (by simp [results, Try.results33, go_sem, y0, y1, zl2]) rfl F1.out
end Go.Proofs.Ytjkbooflbfnbiaa
