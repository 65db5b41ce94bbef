/- What the laws on snapshots share. -/
import Derived.Test.YtkjjieofoolnhaaShI
import Derived.Test.YtkjjieofoolnhaaDrSh
import Derived.Test.YtkjjieofoolnhaaSameV
import Derived.Test.YtkjjieofoolnhaaVolD
import Derived.Test.YtkjjieofoolnhaaVolF
namespace Go.Proofs.Ytkjjieofoolnhaa
open Go.RowKit
set_option linter.unusedVariables false

theorem same_b (A B : Option Addr) (c d : Nat) (l : List Int) (w : World) (h1 : IntsIn w A l) (h2 : IntsIn w B l) (hl : l.length ≤ 1000000) :
    Calls Try.prog 31 #[.slice A l.length c, .slice B l.length d] w fun e w' => e = .returned (.bool true) ∧ Below w.heap.size w w' :=
  (sameInts_any A B c d l l w h1 h2 (by omega) (by omega)).mono fun e w' ⟨he, q, hq⟩ => ⟨by rw [he]; simp, by rw [hq]; exact belowN (Below.refl _ _) q⟩
/-- The cells of two boxes. -/
theorem boxes_at {w : World} {g h : Nat} {a0 a1 b0 b1 : Value} (K : Blk w g 29 #[a0, a1]) (L : Blk w h 29 #[b0, b1]) (u : World) (hu : Below w.heap.size w u) :
    u.cell? ⟨g, 0, none⟩ = some a0 ∧ u.cell? ⟨g, 1, none⟩ = some a1 ∧ u.cell? ⟨h, 0, none⟩ = some b0 ∧ u.cell? ⟨h, 1, none⟩ = some b1 := by
  obtain ⟨x0, x1, _, _⟩ := (blk_below hu K K.lt).two
  obtain ⟨y0, y1, _, _⟩ := (blk_below hu L L.lt).two
  exact ⟨x0, x1, y0, y1⟩
theorem vol_ints {w : World} {A B : Option Addr} {c d n : Nat} {N : List Int} {S : List (List Sv)} (h : VolR w (.agg #[.slice A N.length c, .slice B n d]) N S) : IntsIn w A N := by
  obtain ⟨A', c', B', d', e, h1, _⟩ := h
  injection e with e
  simp only [Array.mk.injEq, List.cons.injEq, and_true, Value.slice.injEq] at e
  obtain ⟨⟨rfl, _, rfl⟩, _⟩ := e
  exact h1
theorem vol_intsL {w : World} {A B : Option Addr} {c d n m : Nat} {N : List Int} {S : List (List Sv)} (hm : N.length = m) (h : VolR w (.agg #[.slice A m c, .slice B n d]) N S) : IntsIn w A N := by
  subst hm
  exact vol_ints h
/-- The zero volume beside another one. -/
theorem sameVol_zero (v v' : Value) (N : List Int) (S : List (List Sv)) (w : World) (h : VolR w v [] []) (h' : VolR w v' N S) (hN : N.length ≤ 1000000) :
    Calls Try.prog 35 #[v, v'] w fun e w' => ∃ t : Bool, e = .returned (.bool t) ∧ Below w.heap.size w w' := by
  obtain ⟨A, c, B, d, rfl, hA, hB, _, _, _, _⟩ := h
  obtain ⟨A', c', B', d', rfl, hA', hB', hc1, hc2, hd1, hd2⟩ := h'
  have K0 := Lib.hid (show Blk ((w.alloc (.cells #[.slice A 0 c, .slice B 0 d] 29)).alloc (.cells #[.slice A' N.length c', .slice B' S.length d'] 29)) w.heap.size 29 #[.slice A 0 c, .slice B 0 d] from (Blk.new rfl).alloc _)
  have K1 := Lib.hid (show Blk ((w.alloc (.cells #[.slice A 0 c, .slice B 0 d] 29)).alloc (.cells #[.slice A' N.length c', .slice B' S.length d'] 29)) (w.heap.size + 1) 29 #[.slice A' N.length c', .slice B' S.length d'] from Blk.new (by simp))
  have C0 := Lib.hid (show Below w.heap.size w ((w.alloc (.cells #[.slice A 0 c, .slice B 0 d] 29)).alloc (.cells #[.slice A' N.length c', .slice B' S.length d'] 29)) from b_alloc (b_alloc (Below.refl _ _) _) _)
  have HA := Lib.hid (hA.below C0.out)
  have HA' := Lib.hid (hA'.below C0.out)
  simp only [List.length_nil]
  clear hA hA' hB hB'
  go_enter Try.func35, Try.ntmps35
  rcases Nat.eq_zero_or_pos S.length with h0 | h0
  · rw [h0] at K1 C0 HA HA' K0 ⊢
    go_wp2
    generalize hw2 : (w.alloc (.cells #[.slice A 0 c, .slice B 0 d] 29)).alloc (.cells #[.slice A' N.length c', .slice B' 0 d'] 29) = w2 at *
    clear hw2
    go_loopw [5] (fun x wr => x = .int .i64 0 ∧ wr = w2) (fun _ _ => 0)
    case atStart => exact ⟨rfl, rfl⟩
    case round =>
      obtain ⟨rfl, rfl⟩ := hrel
      obtain ⟨x0, x1, _, _⟩ := K0.out.two
      obtain ⟨y0, y1, _, _⟩ := K1.out.two
      have hw := Lib.hid (sameInts_any A A' c c' [] N wr HA.out HA'.out (by simp) (by omega))
      simp only [List.length_nil] at hw
      go_wp2_with fail
      refine hw.out.mono ?_
      rintro e w5 ⟨rfl, q, rfl⟩
      have hfin := Lib.hid (belowN C0.out q)
      go_wp2
      go_ret
      exact ⟨_, rfl, hfin.out⟩
  · have hne : ((0 : Int) != (S.length : Int)) = true := by simp; omega
    clear h0
    go_wp2
    go_ret
    exact ⟨_, rfl, C0.out⟩
end Go.Proofs.Ytkjjieofoolnhaa
