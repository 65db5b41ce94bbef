/- Contracts of eqThin, markThin, heldThin, sameThin. -/
import Derived.Test.YtjkbooflbfnbiaaThinX
import Derived.Test.YtjkbooflbfnbiaaMark
import Derived.Test.YtjkbooflbfnbiaaSame
namespace Go.Proofs.Ytjkbooflbfnbiaa
open Go.RowKit
set_option linter.unusedVariables false

theorem eqThin_same (v v' : Value) (W P : List Int) (w : World) (h : ThinR w v W P) (h' : ThinR w v' W P) (hW : W.length ≤ 1000000000000) (hP : P.length ≤ 1000000000000) :
    Calls Try.prog 16 #[v, v'] w fun e w' => e = .returned (.bool true) ∧ Below w.heap.size w w' := by
  obtain ⟨A, c, B, d, rfl, hA, hB, hc1, hc2, hd1, hd2⟩ := h
  obtain ⟨A', c', B', d', rfl, hA', hB', hc1', hc2', hd1', hd2'⟩ := h'
  go_enter Try.func16, Try.ntmps16
  go_wp2_with fail
  refine (eqIntS_any _ _ _ _ W W _ ((hA.alloc _).alloc _) ((hA'.alloc _).alloc _) (by omega) (by omega)).mono ?_
  rintro e w3 ⟨rfl, q, rfl⟩
  go_wp2_with fail
  refine (eqIntS_any _ _ _ _ P P _ (((hB.alloc _).alloc _).drewN q) (((hB'.alloc _).alloc _).drewN q) (by omega) (by omega)).mono ?_
  rintro e w3 ⟨rfl, q', rfl⟩
  go_wp2
  go_ret
  exact ⟨rfl, belowN (b_alloc (b_alloc (Below.refl _ _) _) _) _⟩

theorem sameThin_same (v v' : Value) (W P : List Int) (w : World) (h : ThinR w v W P) (h' : ThinR w v' W P) (hW : W.length ≤ 1000000000000) (hP : P.length ≤ 1000000000000) :
    Calls Try.prog 31 #[v, v'] w fun e w' => e = .returned (.bool true) ∧ Below w.heap.size w w' := by
  obtain ⟨A, c, B, d, rfl, hA, hB, hc1, hc2, hd1, hd2⟩ := h
  obtain ⟨A', c', B', d', rfl, hA', hB', hc1', hc2', hd1', hd2'⟩ := h'
  go_enter Try.func31, Try.ntmps31
  go_wp2_with fail
  refine (sameInts_any _ _ _ _ W W _ ((hA.alloc _).alloc _) ((hA'.alloc _).alloc _) (by omega) (by omega)).mono ?_
  rintro e w3 ⟨rfl, q, rfl⟩
  go_wp2_with fail
  refine (sameInts_any _ _ _ _ P P _ (((hB.alloc _).alloc _).drewN q) (((hB'.alloc _).alloc _).drewN q) (by omega) (by omega)).mono ?_
  rintro e w3 ⟨rfl, q', rfl⟩
  go_wp2
  go_ret
  exact ⟨ret_bool (by simp), belowN (b_alloc (b_alloc (Below.refl _ _) _) _) _⟩

theorem heldThin_any (v : Value) (n m : Nat) (k : Int) (w : World) (h : ThinR w v (marks k n) (marks (k + n) m)) (hk : 0 ≤ k ∧ k ≤ 1000000000) (hn : n ≤ 1000000000) (hm : m ≤ 1000000000) :
    Calls Try.prog 20 #[v, .int .i64 k] w fun e w' => e = .returned (.int .i64 (k + n + m)) ∧ Below w.heap.size w w' := by
  obtain ⟨A, c, B, d, rfl, hA, hB, hc1, hc2, hd1, hd2⟩ := h
  rw [marks_length, marks_length] at *
  go_enter Try.func20, Try.ntmps20
  go_wp2_with fail
  refine (held_any _ n _ _ _ (hA.alloc _) (by omega) (by omega)).mono ?_
  rintro e w3 ⟨rfl, rfl⟩
  go_wp2_with fail
  refine (held_any _ m _ _ _ (hB.alloc _) (by omega) (by omega)).mono ?_
  rintro e w3 ⟨rfl, rfl⟩
  go_wp2
  go_ret
  exact ⟨rfl, b_alloc (Below.refl _ _) _⟩

def MarkThinPost (lo hi : Nat) (v : Value) (n m : Nat) (k : Int) (w : World) (e : Ending) (w' : World) : Prop :=
  e = .returned (.int .i64 (k + n + m)) ∧ ThinR w' v (marks k n) (marks (k + n) m) ∧ Turn lo hi w w'

set_option maxHeartbeats 400000 in
theorem markThin_any (lo hi : Nat) (v : Value) (W P : List Int) (k : Int) (w : World) (h : ThinO lo hi w v W P) (hk : 0 ≤ k ∧ k ≤ 1000000000) (hW : W.length ≤ 1000000000) (hP : P.length ≤ 1000000000) (hh : hi ≤ w.heap.size) :
    Calls Try.prog 19 #[v, .int .i64 k] w (MarkThinPost lo hi v W.length P.length k w) := by
  obtain ⟨A, c, B, d, rfl, h1, h2, h3, h4, h5⟩ := h
  have q1 := own_cap h1
  have q2 := own_cap h2
  obtain ⟨a, b, oA, rA⟩ := own_range (h1.alloc (.cells #[.slice A W.length c, .slice B P.length d] 27))
  obtain ⟨a', b', oB, rB⟩ := own_range (h2.alloc (.cells #[.slice A W.length c, .slice B P.length d] 27))
  have lA : ∀ g, a ≤ g → g < b → lo ≤ g ∧ g < hi := fun g x y => ⟨(h1.lt g (rA g x y)).1, h4 g (rA g x y)⟩
  have lB : ∀ g, a' ≤ g → g < b' → lo ≤ g ∧ g < hi := fun g x y => ⟨(h2.lt g (rB g x y)).1, h5 g (rB g x y)⟩
  have k0 : Blk (w.alloc (.cells #[.slice A W.length c, .slice B P.length d] 27)) w.heap.size 27 #[.slice A W.length c, .slice B P.length d] := Blk.new rfl
  have R := Lib.hid (And.intro rA rB)
  have L := Lib.hid (And.intro lA lB)
  have K0 := Lib.hid k0
  have H3 := Lib.hid h3
  clear rA rB lA lB k0 h1 h2 h3 h4 h5
  go_enter Try.func19, Try.ntmps19
  go_wp2_with fail
  refine (mark_any a b _ _ W _ _ oA (by omega) (by omega)).mono ?_
  rintro e w1 ⟨rfl, oA1, t1⟩
  have oB1 : OwnC a' b' w1 3 B (P.map (Value.int .i64)) := oB.keep fun g x y hg => t1.block g hg (fun ⟨p, q⟩ => H3.out g (R.out.1 g p q) (R.out.2 g x y))
  obtain ⟨x0, x1, f0, f1⟩ := (blk_turn' t1 K0.out (fun ⟨p, q⟩ => by have := L.out.1 _ p q; omega)).two
  have T1 := Lib.hid t1
  have OA1 := Lib.hid oA1
  clear oA oB t1 oA1
  go_wp2_with fail
  refine (mark_any a' b' _ _ P _ _ oB1 (by omega) (by omega)).mono ?_
  rintro e w2 ⟨rfl, oB2, t2⟩
  have oA2 : OwnC a b w2 3 A ((marks k W.length).map (Value.int .i64)) := OA1.out.keep fun g x y hg => t2.block g hg (fun ⟨p, q⟩ => H3.out g (R.out.1 g x y) (R.out.2 g p q))
  have hfin := Lib.hid (show MarkThinPost lo hi (.agg #[.slice A W.length c, .slice B P.length d]) W.length P.length k w (.returned (.int .i64 (k + W.length + P.length))) w2 from
    ⟨rfl, ⟨A, c, B, d, by rw [marks_length, marks_length], IntsIn.of oA2.read, IntsIn.of oB2.read, by rw [marks_length]; omega, by omega, by rw [marks_length]; omega, by omega⟩,
      ((Turn.refl lo hi w).alloc _).trans ((T1.out.wide L.out.1).trans (t2.wide L.out.2))⟩)
  clear oA2 oB2 t2 oB1 x0 x1 f0 f1
  go_wp2
  go_ret
  exact hfin.out
end Go.Proofs.Ytjkbooflbfnbiaa
