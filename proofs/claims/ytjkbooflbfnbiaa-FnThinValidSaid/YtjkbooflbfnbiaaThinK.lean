/- The contract of ThinWrite, the reference's, as far as the draw of volumes asks. -/
import Derived.Test.YtjkbooflbfnbiaaThinJ
import Derived.Deep.RegionHeld3
namespace Go.Proofs.Ytjkbooflbfnbiaa
open Go.RowKit
set_option linter.unusedVariables false

def OwnSomeB (n m : Nat) (w : World) (e : Ending) (w' : World) : Prop :=
  ∃ v W P b, e = .returned (.tuple #[v, .bool b]) ∧ W.length ≤ n ∧ P.length ≤ m ∧ ThinO w.heap.size w'.heap.size w' v W P ∧ Below w.heap.size w w'

set_option maxHeartbeats 4000000 in
theorem specWrite_any (v : Value) (W P : List Int) (a x : Int) (w : World) (h : ThinR w v W P) (hW : W.length ≤ 1048576) (hP : P.length ≤ 1048576) :
    Calls Try.prog 55 #[v, .int .i64 a, .int .i64 x] w (OwnSomeB W.length P.length w) := by
  have HR := Lib.hid h
  obtain ⟨A, c, B, d, rfl, hA, hB, hc1, hc2, hd1, hd2⟩ := h
  clear hA hB
  go_enter Try.func55, Try.ntmps55
  go_wp2_with fail
  refine (specThin_any _ W P _ ((HR.out.alloc _).alloc _) (by omega) (by omega)).mono ?_
  rintro e w1 ⟨rfl, b1⟩
  have K1 := Lib.hid (show Blk w1 w.heap.size 27 #[.slice A W.length c, .slice B P.length d] from blk_below b1 ((Blk.new rfl).alloc _) (by simp; omega))
  have L1 := Lib.hid (show Blk w1 (w.heap.size + 1) 27 #[.slice none 0 0, .slice none 0 0] from blk_below b1 (Blk.new (by simp)) (by simp))
  have C1 := Lib.hid ((b_alloc (b_alloc (Below.refl w.heap.size w) _) _).trans (b1.mono (by simp; omega)))
  have Z1 : w.heap.size + 2 ≤ w1.heap.size := by have := b1.size; simp at this; omega
  clear b1
  obtain ⟨x0, x1, f0, f1⟩ := K1.out.two
  obtain ⟨y0, y1, g0, g1⟩ := L1.out.two
  have hcase : (secB W P a = false ∨ (secB W P a = true ∧ inB x 0 255 = false)) ∨ (secB W P a = true ∧ inB x 0 255 = true) := by
    cases secB W P a <;> cases inB x 0 255 <;> simp
  rcases hcase with hbad | ⟨hv, hin⟩
  · have hno := Lib.hid (fun w' (hb : Below w.heap.size w w') => show OwnSomeB W.length P.length w (.returned (.tuple #[.agg #[.slice none 0 0, .slice none 0 0], .bool false])) w' from ⟨_, [], [], false, rfl, Nat.zero_le _, Nat.zero_le _, thin_nil' _ _ _, hb⟩)
    have hv' : thinB W P = false ∨ (thinB W P = true ∧ inB a 0 ((W.length : Int) - 1) = false) ∨ (thinB W P = true ∧ inB a 0 ((W.length : Int) - 1) = true ∧ inB x 0 255 = false) := by
      simp only [secB] at hbad
      cases h1 : thinB W P
      · exact .inl rfl
      · cases h2 : inB a 0 ((W.length : Int) - 1)
        · exact .inr (.inl ⟨rfl, rfl⟩)
        · simp [h1, h2] at hbad
          exact .inr (.inr ⟨rfl, rfl, hbad⟩)
    clear hbad
    rcases hv' with h1 | ⟨h1, h2⟩ | ⟨h1, h2, h3⟩
    all_goals
      go_wp2_with (go_at_call 39; refine (l1In_any _ _ _ _).mono ?_; rintro e w' ⟨rfl, rfl⟩)
      exact bodyPost_ret (v := .tuple #[.agg #[.slice none 0 0, .slice none 0 0], .bool false]) (by simp [results, Try.results55, go_sem, y0, y1]) rfl (hno.out _ ((C1.out.setCell (by simp) _).setCell (by simp) _))
  · have hs := hv
    simp only [secB, Bool.and_eq_true, inB_iff] at hs
    obtain ⟨hthin, a0, a1⟩ := hs
    obtain ⟨k, rfl⟩ := Int.eq_ofNat_of_zero_le a0
    have hk : k < W.length := by omega
    have hat := thin_at' hthin hk
    have hin2 : inB (k : Int) 0 ((W.length : Int) - 1) = true := inB_iff.2 ⟨a0, a1⟩
    have hgd : W.getD k 0 = W[k] := by rw [List.getD_eq_getElem?_getD, List.getElem?_eq_getElem hk]; rfl
    rw [← hgd] at hat
    have HY := Lib.hid (fun v W' P' b w' (h1 : W'.length ≤ W.length) (h2 : P'.length ≤ P.length) (ho : ThinO w.heap.size w'.heap.size w' v W' P') (hb : Below w.heap.size w w') => show OwnSomeB W.length P.length w (.returned (.tuple #[v, .bool b])) w' from ⟨v, W', P', b, rfl, h1, h2, ho, hb⟩)
    clear hv hgd
    go_wp2_with fail
    refine (l1In_any _ _ _ _).mono ?_
    rintro e w' ⟨rfl, rfl⟩
    go_wp2_with fail
    refine (l1In_any _ _ _ _).mono ?_
    rintro e w' ⟨rfl, rfl⟩
    go_wp2_with fail
    refine (specCopy_any _ W P _ (HR.out.below C1.out) hW hP).mono ?_
    rintro e w2 ⟨v2, rfl, o2, b2⟩
    have O2 := Lib.hid o2
    obtain ⟨A2, c2, B2, d2, rfl, _, _, hap, _⟩ := o2
    have HAP := Lib.hid hap
    clear hap
    have K2 := Lib.hid (show Blk w2 w.heap.size 27 #[.slice A W.length c, .slice B P.length d] from blk_below b2 K1.out K1.out.lt)
    have L2 := Lib.hid (show Blk w2 (w.heap.size + 1) 27 #[.slice none 0 0, .slice none 0 0] from blk_below b2 L1.out L1.out.lt)
    have C2 := Lib.hid (C1.out.trans (b2.mono C1.out.size))
    have Z2 : w1.heap.size ≤ w2.heap.size := b2.size
    clear b2 K1 L1 x0 x1 f0 f1 y0 y1 g0 g1 hin hin2 hthin
    obtain ⟨z, hz⟩ : ∃ z, z = W.getD k 0 := ⟨_, rfl⟩
    rw [← hz] at hat
    have BX := Lib.hid (Blk.new (w := w2) (g := w2.heap.size) (t := 27) (cs := #[.slice A2 W.length c2, .slice B2 P.length d2]) rfl)
    have KB := Lib.hid (K2.out.alloc (.cells #[.slice A2 W.length c2, .slice B2 P.length d2] 27))
    have LB := Lib.hid (L2.out.alloc (.cells #[.slice A2 W.length c2, .slice B2 P.length d2] 27))
    have OB := Lib.hid (O2.out.below (b_alloc (Below.refl _ _) (.cells #[.slice A2 W.length c2, .slice B2 P.length d2] 27)))
    have CB := Lib.hid (b_alloc C2.out (.cells #[.slice A2 W.length c2, .slice B2 P.length d2] 27))
    have SB : (w2.alloc (.cells #[.slice A2 W.length c2, .slice B2 P.length d2] 27)).heap.size = w2.heap.size + 1 := by simp
    clear K2 L2 O2 C2
    generalize hwb : w2.alloc (.cells #[.slice A2 W.length c2, .slice B2 P.length d2] 27) = w3 at BX KB LB OB CB SB
    obtain ⟨gW, rfl, r1, r2, r3, r4, r5, _⟩ := OB.out.setW rfl rfl k 0 hk
    rw [← hz] at r4
    have n2 : gW ≠ w.heap.size + 1 := by omega
    have n4 : gW ≠ w2.heap.size := by omega
    have n6 : gW ≠ w.heap.size := by omega
    obtain ⟨x0, x1, f0, f1⟩ := BX.out.two
    obtain ⟨k0, k1, _, _⟩ := KB.out.two
    clear hz
    by_cases h0 : z < 0
    · have r6f := Lib.hid (fun w5 (b5 : Below w3.drew.heap.size w3.drew w5) => show w5.cell? ⟨gW, k, none⟩ = some (.int .i64 z) from (b5.cell (p := ⟨gW, k, none⟩) r3).trans r4)
      have r7f := Lib.hid (fun w5 (b5 : Below w3.drew.heap.size w3.drew w5) => show w5.frozen? ⟨gW, k, none⟩ = false from (b5.frozen (p := ⟨gW, k, none⟩) r3).trans r5)
      have hfr := Lib.hid (l19Free_any _ W P _ (HR.out.below (b_drew CB.out)) hW hP)
      go_wp2_with fail
      go_region_held3 (fun w' => w'.cell? ⟨w2.heap.size, 0, none⟩ = some (.slice (some ⟨gW, 0, none⟩) W.length c2) ∧ w'.cell? ⟨w2.heap.size, 1, none⟩ = some (.slice B2 P.length d2) ∧ w'.cell? ⟨w.heap.size, 0, none⟩ = some (.slice A W.length c) ∧ w'.cell? ⟨w.heap.size, 1, none⟩ = some (.slice B P.length d)) (go_keep)
        (first | (go_at_call 60; refine hfr.out.mono ?_; rintro e w5 ⟨y, rfl, yl, yh, b5⟩; obtain ⟨q0, q1, _, _⟩ := (blk_below b5 BX.out.drew BX.out.lt).two; obtain ⟨m0, m1, _, _⟩ := (blk_below b5 KB.out.drew KB.out.lt).two; have r6 := r6f.out _ b5; have r7 := r7f.out _ b5))
      have X5 := Lib.hid (show Blk w5 w2.heap.size 27 #[.slice (some ⟨gW, 0, none⟩) W.length c2, .slice B2 P.length d2] from blk_below b5 BX.out.drew BX.out.lt)
      have X4 := Lib.hid (X5.out.far (p := ⟨gW, k, none⟩) (fun e => n4 e.symm) (.int .i64 y))
      have L5 := Lib.hid (show Blk w5 (w.heap.size + 1) 27 #[.slice none 0 0, .slice none 0 0] from blk_below b5 LB.out.drew LB.out.lt)
      have L4 := Lib.hid (L5.out.far (p := ⟨gW, k, none⟩) (fun e => n2 e.symm) (.int .i64 y))
      have C5 := Lib.hid ((b_drew CB.out).trans (b5.mono CB.out.size))
      have C4 := Lib.hid (C5.out.setCell (p := ⟨gW, k, none⟩) (show w.heap.size ≤ gW by omega) (.int .i64 y))
      have O4 := Lib.hid (show ThinO w1.heap.size w2.heap.size (w5.setCell ⟨gW, k, none⟩ (.int .i64 y)) (.agg #[.slice (some ⟨gW, 0, none⟩) W.length c2, .slice B2 P.length d2]) (W.set k y) P from by
        obtain ⟨g, q0, _, _, _, _, _, q6⟩ := (OB.out.drew.below b5).setW rfl rfl k y hk
        obtain rfl : gW = g := by injection q0 with q; injection q
        exact q6)
      have z4 : w2.heap.size ≤ (w5.setCell ⟨gW, k, none⟩ (.int .i64 y)).heap.size := by have := b5.size; simp at *; omega
      have e4 := World.cell?_setCell_same w5 ⟨gW, k, none⟩ (.int .i64 y) (by assumption : w5.cell? ⟨gW, k, none⟩ = some (.int .i64 z))
      clear b5 X5 L5 C5 BX KB LB OB CB r6f r7f hfr HR
      generalize w5.setCell ⟨gW, k, none⟩ (.int .i64 y) = w4 at *
      by_cases hy0 : y < 0
      · obtain ⟨x0, x1, f0, f1⟩ := X4.out.two
        obtain ⟨y0, y1, g0, g1⟩ := L4.out.two
        have xl := X4.out.lt
        have ll := L4.out.lt
        have F1 := Lib.hid (HY.out (.agg #[.slice (some ⟨gW, 0, none⟩) W.length c2, .slice B2 P.length d2]) (W.set k y) P false ((w4.setCell ⟨w.heap.size + 1, 0, none⟩ (.slice (some ⟨gW, 0, none⟩) W.length c2)).setCell ⟨w.heap.size + 1, 1, none⟩ (.slice B2 P.length d2)) (by simp) (by simp) ((O4.out.turn (((Turn.refl (w.heap.size + 1) (w.heap.size + 2) _).setCell (by simp) (by simp) _).setCell (by simp) (by simp) _) (.inl (by omega))).mono (by omega) (by simp; omega) : ThinO _ _ _ _ _ _) ((C4.out.setCell (by simp) _).setCell (by simp) _))
        clear HY HAP O4 X4 L4 C4
        go_wp2
        exact bodyPost_ret (v := .tuple #[.agg #[.slice (some ⟨gW, 0, none⟩) W.length c2, .slice B2 P.length d2], .bool false]) (by simp [results, Try.results55, go_sem, y0, y1]) rfl F1.out
      · obtain ⟨q, rfl⟩ := Int.eq_ofNat_of_zero_le (show 0 ≤ y by omega)
        obtain ⟨gP, rfl, p1, p2, p3, p4, p5, OP⟩ := O4.out.setP (by simp) rfl q x (by omega)
        have hne : gP ≠ gW := fun e => HAP.out gW rfl (by rw [← e]; rfl)
        have n1 : gP ≠ w.heap.size + 1 := by omega
        have n3 : gP ≠ w2.heap.size := by omega
        have n5 : gP ≠ w.heap.size := by omega
        have HOP := Lib.hid OP
        obtain ⟨x0, x1, f0, f1⟩ := X4.out.two
        obtain ⟨y0, y1, g0, g1⟩ := L4.out.two
        have xl := X4.out.lt
        have ll := L4.out.lt
        have hq : q < P.length := by omega
        have F1 := Lib.hid (HY.out (.agg #[.slice (some ⟨gW, 0, none⟩) W.length c2, .slice (some ⟨gP, 0, none⟩) P.length d2]) (W.set k q) (P.set q x) true ((((w4.setCell ⟨gP, q, none⟩ (.int .i64 x)).setCell ⟨w.heap.size + 1, 0, none⟩ (.slice (some ⟨gW, 0, none⟩) W.length c2)).setCell ⟨w.heap.size + 1, 1, none⟩ (.slice (some ⟨gP, 0, none⟩) P.length d2)).drew) (by simp) (by simp) (((HOP.out.turn (((Turn.refl (w.heap.size + 1) (w.heap.size + 2) _).setCell (by simp) (by simp) _).setCell (by simp) (by simp) _) (.inl (by omega))).drew).mono (by omega) (by simp; omega) : ThinO _ _ _ _ _ _) (b_drew (((C4.out.setCell (p := ⟨gP, q, none⟩) (by show _ ≤ gP; omega) _).setCell (by simp) _).setCell (by simp) _)))
        clear HY HOP HAP OP O4 X4 L4 C4
        go_wp2
        go_region_held3 (fun w' => w'.cell? ⟨w2.heap.size, 0, none⟩ = some (.slice (some ⟨gW, 0, none⟩) W.length c2) ∧ w'.cell? ⟨w2.heap.size, 1, none⟩ = some (.slice (some ⟨gP, 0, none⟩) P.length d2) ∧ w'.cell? ⟨gW, k, none⟩ = some (.int .i64 q)) (go_keep) (fail)
        go_wp2
        exact bodyPost_ret (v := .tuple #[.agg #[.slice (some ⟨gW, 0, none⟩) W.length c2, .slice (some ⟨gP, 0, none⟩) P.length d2], .bool true]) (by simp [results, Try.results55, go_sem, y0, y1]) rfl F1.out
    · obtain ⟨q, rfl⟩ := Int.eq_ofNat_of_zero_le (show 0 ≤ z by omega)
      have X4 := BX
      have L4 := LB
      have O4 := OB
      have C4 := CB
      have z4 : w2.heap.size ≤ w3.heap.size := by omega
      go_wp2_with fail
      have e4 := r4
      clear BX KB LB OB CB HR hwb
      generalize w3 = w4 at *
      obtain ⟨gP, rfl, p1, p2, p3, p4, p5, OP⟩ := O4.out.setP (by simp) rfl q x (by omega)
      have hne : gP ≠ gW := fun e => HAP.out gW rfl (by rw [← e]; rfl)
      have n1 : gP ≠ w.heap.size + 1 := by omega
      have n3 : gP ≠ w2.heap.size := by omega
      have n5 : gP ≠ w.heap.size := by omega
      have HOP := Lib.hid OP
      obtain ⟨x0, x1, f0, f1⟩ := X4.out.two
      obtain ⟨y0, y1, g0, g1⟩ := L4.out.two
      have xl := X4.out.lt
      have ll := L4.out.lt
      have hq : q < P.length := by omega
      have F1 := Lib.hid (HY.out (.agg #[.slice (some ⟨gW, 0, none⟩) W.length c2, .slice (some ⟨gP, 0, none⟩) P.length d2]) W (P.set q x) true ((((w4.setCell ⟨gP, q, none⟩ (.int .i64 x)).setCell ⟨w.heap.size + 1, 0, none⟩ (.slice (some ⟨gW, 0, none⟩) W.length c2)).setCell ⟨w.heap.size + 1, 1, none⟩ (.slice (some ⟨gP, 0, none⟩) P.length d2)).drew) (by simp) (by simp) (((HOP.out.turn (((Turn.refl (w.heap.size + 1) (w.heap.size + 2) _).setCell (by simp) (by simp) _).setCell (by simp) (by simp) _) (.inl (by omega))).drew).mono (by omega) (by simp; omega) : ThinO _ _ _ _ _ _) (b_drew (((C4.out.setCell (p := ⟨gP, q, none⟩) (by show _ ≤ gP; omega) _).setCell (by simp) _).setCell (by simp) _)))
      clear HY HOP HAP OP O4 X4 L4 C4
      go_region_held3 (fun w' => w'.cell? ⟨w2.heap.size, 0, none⟩ = some (.slice (some ⟨gW, 0, none⟩) W.length c2) ∧ w'.cell? ⟨w2.heap.size, 1, none⟩ = some (.slice (some ⟨gP, 0, none⟩) P.length d2) ∧ w'.cell? ⟨gW, k, none⟩ = some (.int .i64 q)) (go_keep) (fail)
      go_wp2
      exact bodyPost_ret (v := .tuple #[.agg #[.slice (some ⟨gW, 0, none⟩) W.length c2, .slice (some ⟨gP, 0, none⟩) P.length d2], .bool true]) (by simp [results, Try.results55, go_sem, y0, y1]) rfl F1.out
end Go.Proofs.Ytjkbooflbfnbiaa
