/- Contracts of the exact laws' own functions over late volumes: szThin, toThin, eqThin. -/
import Derived.Test.YtjkbooflbfnbiaaThinW
import Derived.Test.YtjkbooflbfnbiaaIntsX
import Derived.Test.YtjkbooflbfnbiaaEqI
namespace Go.Proofs.Ytjkbooflbfnbiaa
open Go.RowKit
set_option linter.unusedVariables false

theorem bcell {W w1 : World} (hb : Below W.heap.size W w1) : (∀ b o, b < W.heap.size → w1.cell? ⟨b, o, none⟩ = W.cell? ⟨b, o, none⟩) ∧ (∀ b o, b < W.heap.size → w1.frozen? ⟨b, o, none⟩ = W.frozen? ⟨b, o, none⟩) :=
  ⟨fun b o h => hb.cell (p := ⟨b, o, none⟩) h, fun b o h => hb.frozen (p := ⟨b, o, none⟩) h⟩

def szV (W P : List Int) (left : Int) : Int := if left - W.length < 0 then -1 else if left - W.length - P.length < 0 then -1 else left - W.length - P.length
theorem szThin_any (v : Value) (W P : List Int) (left : Int) (w : World) (h : ThinR w v W P) (hl : 0 ≤ left ∧ left ≤ 4000000000000000000) :
    Calls Try.prog 12 #[v, .int .i64 left] w fun e w' => e = .returned (.int .i64 (szV W P left)) ∧ Below w.heap.size w w' := by
  obtain ⟨A, c, B, d, rfl, hA, hB, hc1, hc2, hd1, hd2⟩ := h
  by_cases h1 : left - W.length < 0
  · have hs : (if left - (W.length : Int) < 0 then (-1 : Int) else left - W.length) = -1 := if_pos h1
    have hz := Lib.hid (show szV W P left = -1 from if_pos h1)
    go_enter Try.func12, Try.ntmps12
    go_wp2_with fail
    refine (szInts_any _ _ _ _ _ (by omega) (by omega)).mono ?_
    rintro e w' ⟨rfl, rfl⟩
    rw [hs]
    clear hs
    go_wp2
    go_ret
    exact ⟨ret_int hz.out.symm, b_alloc (Below.refl _ _) _⟩
  · have hs : (if left - (W.length : Int) < 0 then (-1 : Int) else left - W.length) = left - W.length := if_neg h1
    by_cases h2 : left - W.length - P.length < 0
    · have hs2 : (if left - (W.length : Int) - P.length < 0 then (-1 : Int) else left - W.length - P.length) = -1 := if_pos h2
      have hz := Lib.hid (show szV W P left = -1 by rw [szV, if_neg h1, if_pos h2])
      have Hs := Lib.hid hs
      have Hs2 := Lib.hid hs2
      clear hs hs2
      go_enter Try.func12, Try.ntmps12
      go_wp2_with fail
      refine (szInts_any _ _ _ _ _ (by omega) (by omega)).mono ?_
      rintro e w' ⟨rfl, rfl⟩
      rw [Hs.out]
      go_wp2_with fail
      refine (szInts_any _ _ _ _ _ (by omega) (by omega)).mono ?_
      rintro e w' ⟨rfl, rfl⟩
      rw [Hs2.out]
      go_wp2
      go_ret
      exact ⟨ret_int hz.out.symm, b_alloc (Below.refl _ _) _⟩
    · have hs2 : (if left - (W.length : Int) - P.length < 0 then (-1 : Int) else left - W.length - P.length) = left - W.length - P.length := if_neg h2
      have hz := Lib.hid (show szV W P left = left - W.length - P.length by rw [szV, if_neg h1, if_neg h2])
      have Hs := Lib.hid hs
      have Hs2 := Lib.hid hs2
      clear hs hs2
      go_enter Try.func12, Try.ntmps12
      go_wp2_with fail
      refine (szInts_any _ _ _ _ _ (by omega) (by omega)).mono ?_
      rintro e w' ⟨rfl, rfl⟩
      rw [Hs.out]
      go_wp2_with fail
      refine (szInts_any _ _ _ _ _ (by omega) (by omega)).mono ?_
      rintro e w' ⟨rfl, rfl⟩
      rw [Hs2.out]
      go_wp2
      go_ret
      exact ⟨ret_int hz.out.symm, b_alloc (Below.refl _ _) _⟩

def ToThinPost (W P : List Int) (w : World) (e : Ending) (w' : World) : Prop :=
  ∃ v, e = .returned v ∧ ThinO w.heap.size w'.heap.size w' v W P ∧ Below w.heap.size w w'

set_option maxHeartbeats 1000000 in
theorem toThin_any (v : Value) (W P : List Int) (w : World) (h : ThinR w v W P) (hW : W.length ≤ 1048576) (hP : P.length ≤ 1048576) :
    Calls Try.prog 14 #[v] w (ToThinPost W P w) := by
  obtain ⟨A, c, B, d, rfl, hA, hB, hc1, hc2, hd1, hd2⟩ := h
  go_enter Try.func14, Try.ntmps14
  go_wp2_with fail
  refine (toInts_any _ _ W _ (((hA.alloc _).alloc _).alloc _) (by omega)).mono ?_
  rintro e w1 ⟨A1, c1, rfl, o1, b1⟩
  have k0 : Blk w1 w.heap.size _ _ := blk_below b1 (((Blk.new rfl).alloc _).alloc _) (by simp; omega)
  have k1 : Blk w1 (w.heap.size + 1) _ _ := blk_below b1 ((Blk.new (by simp)).alloc _) (by simp)
  have k2 : Blk w1 (w.heap.size + 2) _ _ := blk_below b1 (Blk.new (by simp)) (by simp)
  have b1' : Below w.heap.size w w1 := (b_alloc (b_alloc (b_alloc (Below.refl _ _) _) _) _).trans (b1.mono (by simp; omega))
  have o1' := own_mono o1 (show w.heap.size + 3 ≤ _ by simp)
  have hz : w.heap.size + 3 ≤ w1.heap.size := by have := b1.size; simp at this; omega
  clear o1 b1 hA
  obtain ⟨x0, x1, _, _⟩ := k0.two
  obtain ⟨y0, y1, f0, f1⟩ := k2.two
  have K1 := Lib.hid k1
  have K2 := Lib.hid k2
  have Ho1 := Lib.hid o1'
  have Hb1 := Lib.hid b1'
  clear o1' b1' k0 k1 k2
  go_wp2_with fail
  refine (toInts_any _ _ P _ (hB.below (Hb1.out.setCell (by simp; omega) _)) (by omega)).mono ?_
  rintro e w2 ⟨A2, c2, rfl, o2, b2⟩
  have k1 : Blk w2 (w.heap.size + 1) _ _ := blk_below b2 (K1.out.far (by simp) _) (by simp; omega)
  have k2 : Blk w2 (w.heap.size + 2) 27 #[.slice A1 W.length c1, .slice none 0 0] := blk_below b2 (K2.out.set 0 _) (by simp; omega)
  have o1 := own_below (own_far Ho1.out (p := ⟨w.heap.size + 1 + 1, 0, none⟩) (fun g hg => by have := (Ho1.out.lt g hg).1; simp; omega) (.slice A1 W.length c1)) b2 (Nat.le_refl _)
  have hv : ThinO (w.heap.size + 3) w2.heap.size w2 (.agg #[.slice A1 W.length c1, .slice A2 P.length c2]) W P := ThinO.mk o1 (own_mono o2 (by simp; omega)) (apart_new Ho1.out o2 (by simp)) (Nat.le_refl _)
  have b2' := (Hb1.out.setCell (p := ⟨w.heap.size + 1 + 1, 0, none⟩) (by simp; omega) (.slice A1 W.length c1)).trans (b2.mono (by simp; omega))
  have Hv := Lib.hid hv
  have Hb2 := Lib.hid b2'
  obtain ⟨y0', y1', f0', f1'⟩ := k2.two
  obtain ⟨z0', z1', g0', g1'⟩ := k1.two
  clear hv b2' o1 o2 b2 k1 k2 x0 x1 y0 y1 f0 f1
  go_wp2
  refine bodyPost_ret (v := .agg #[.slice A1 W.length c1, .slice A2 P.length c2]) (by simp [results, Try.results14, go_sem, *]) rfl ⟨_, rfl, ?_, ?_⟩
  · exact (Hv.out.turn ((((Turn.refl (w.heap.size) (w.heap.size + 3) _).setCell (by simp; omega) (by simp) _).setCell (by simp) (by simp) _).setCell (by simp) (by simp) _) (.inl (Nat.le_refl _))).mono (by omega) (by simp)
  · exact ((Hb2.out.setCell (by simp; omega) _).setCell (by simp) _).setCell (by simp) _
end Go.Proofs.Ytjkbooflbfnbiaa
