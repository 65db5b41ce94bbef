/- The iterator slices.Backward over a slice of headers: what its rounds are handed. -/
import Derived.RangeFuncNested
import Derived.RangeFuncBound
import Derived.RangeFuncCalls
import Derived.RangeFuncLeaves
import Derived.RangeFuncBox
import Derived.Shelf.Abstract
import Derived.Shelf.RegionOpen
import Derived.WalkKit
import Derived.OwnWalkIn
import Derived.TacticsInMore
import Derived.LoopNIn
import Derived.LoopIn
import Derived.Test.YtkjjieofoolnhaaShS
namespace Go.Proofs.Ytkjjieofoolnhaa
open Go.RowKit Go.Shelf
set_option linter.unusedVariables false
attribute [local go_sem] Oper.semAt_some

/-- The places that have come when r are left, the last one first. -/
def dn (len r : Nat) : List Nat := ((List.range len).drop r).reverse
theorem dn_full (len : Nat) : dn len len = [] := by simp [dn]
theorem dn_step {len q : Nat} (h : q < len) : dn len q = dn len (q + 1) ++ [q] := by
  unfold dn
  rw [List.drop_eq_getElem_cons (by simpa using h), List.reverse_cons]
  simp
theorem dn_len {len r : Nat} : (dn len r).length = len - r := by simp [dn]
/-- What a round keeps: the blocks below n₀, and block Bs. -/
def KpB (n₀ Bs : Nat) (A B : World) : Prop := Below n₀ A B ∧ B.heap[Bs]? = A.heap[Bs]?
theorem KpB.refl (n₀ Bs : Nat) (A : World) : KpB n₀ Bs A A := ⟨Below.refl _ _, rfl⟩
theorem KpB.trans {n₀ Bs : Nat} {A B C : World} (h : KpB n₀ Bs A B) (k : KpB n₀ Bs B C) : KpB n₀ Bs A C := ⟨h.1.trans k.1, k.2.trans h.2⟩

set_option maxRecDepth 100000 in
set_option maxHeartbeats 2000000 in
theorem back1_in (F : Fence) (n : Nat) (hf : F.fn 75) (hro : F.round = none) (hn : 1 ≤ n) (l Bs n₀ b off len cap : Nat) (hs : Nat → Value) (hreach : len ≤ 1048576) (hb : b < n₀) (J Jx : List Nat → World → Prop)
    (hY : ∀ pre (x : Nat) W, J pre W → pre.length < len → YieldAt F (n - 1) Try.prog l #[.int .i64 (x : Int), hs x] W fun e W' =>
      (e = .returned (.bool true) ∧ J (pre ++ [x]) W' ∧ KpB n₀ Bs W W') ∨ (e = .returned (.bool false) ∧ Jx (pre ++ [x]) W'))
    (W : World) (hBs : W.cell? ⟨Bs, 0, none⟩ = some (.slice (some ⟨b, off, none⟩) len cap)) (hc : ∀ j, j < len → W.cell? ⟨b, off + j, none⟩ = some (hs j)) (h1 : ∀ j, ∃ A m c, hs j = .slice A m c) (h0 : J [] W) :
    CallsIn F n Try.prog 75 #[.func (.yield l) #[] #[], .pointer (some ⟨Bs, 0, none⟩)] W fun e W' => (∃ v, e = .returned v) ∧
      ((∃ ys, ys = dn len 0 ∧ J ys W') ∨ (∃ pre, (∃ k, pre = dn len k) ∧ Jx pre W')) := by
  refine callsIn_of_wp Try.func75 rfl hf ?_ hro
  simp only [Try.ntmps75, List.size_toArray, List.length_cons, List.length_nil, Nat.reduceAdd, Nat.reduceSub, Array.replicate_succ, Array.replicate_zero, List.push_toArray, List.append_toArray, List.nil_append, List.cons_append]
  gi_wp2
  gi_loopw [3] (fun i wr => ∃ (y : Int) (r : Nat), y = (r : Int) - 1 ∧ r ≤ len ∧ i = .int .i64 y ∧ J (dn len r) wr ∧ KpB n₀ Bs W wr)
    (fun i _ => (intOf i + 1).toNat)
  case atStart => exact ⟨_, len, rfl, Nat.le_refl _, rfl, by rw [dn_full]; exact h0, KpB.refl _ _ _⟩
  case round =>
    obtain ⟨y, r, hy0, hr, rfl, hJs, hnx⟩ := hrel
    have hbs := (World.cell?_of_block (a := ⟨Bs, 0, none⟩) hnx.2).trans hBs
    by_cases hlt : 0 < r
    · obtain ⟨q, rfl⟩ : ∃ q, r = q + 1 := ⟨r - 1, by omega⟩
      obtain rfl : y = (q : Int) := by omega
      have hcx : wr.cell? ⟨b, off + q, none⟩ = some (hs q) := (hnx.1.cell (p := ⟨b, off + q, none⟩) hb).trans (hc q (by omega))
      obtain ⟨A, m, c, he⟩ := h1 q
      obtain ⟨fn, tmps, assign, body, hy, hR⟩ := hY _ q wr hJs (by rw [dn_len]; omega)
      rw [he] at hcx hy
      have hq0 : (0 : Int) ≤ (q : Int) := by omega
      have hq1 : (q : Int) < (len : Int) := by omega
      have hd := dn_step (len := len) (q := q) (by omega)
      clear hy0 hlt
      gi_wp2
      refine hR.mono ?_
      rintro e W3 (⟨rfl, hJ3, hk3⟩ | ⟨rfl, hJx3⟩)
      · gi_wp2
        go_roundw
        case rel => exact ⟨(q : Int) - 1, q, rfl, by omega, by go_num, by rw [hd]; exact hJ3, hnx.trans hk3⟩
        case measure => simp [intOf] <;> omega
      · gi_wp2
        refine bodyPost_ret (results_none rfl _ _ _) rfl ?_
        exact ⟨⟨_, rfl⟩, .inr ⟨_, ⟨q, hd.symm⟩, hJx3⟩⟩
    · obtain rfl : r = 0 := by omega
      have hyn : y < 0 := by omega
      clear hy0 hlt
      gi_wp2
      go_end0
      exact ⟨⟨_, rfl⟩, .inl ⟨_, rfl, hJs⟩⟩

set_option maxHeartbeats 1000000 in
theorem back_in (F : Fence) (n : Nat) (hf : F.fn 62) (hro : F.round = none) (a : Option Addr) (len cap : Nat) (w : World) :
    CallsIn F n Try.prog 62 #[.slice a len cap] w fun e w' => e = .returned (.func (.func 75) #[] #[.pointer (some ⟨w.heap.size, 0, none⟩)]) ∧ w' = w.alloc (.cells #[.slice a len cap] 27) := by
  refine callsIn_of_wp Try.func62 rfl hf ?_ hro
  simp only [Try.ntmps62, List.size_toArray, List.length_cons, List.length_nil, Nat.reduceAdd, Nat.reduceSub, Array.replicate_succ, Array.replicate_zero, List.push_toArray, List.append_toArray, List.nil_append, List.cons_append]
  gi_wp2
  go_ret
  exact ⟨rfl, rfl⟩

theorem back_stops (F : Fence) (n : Nat) (hf : F.fn 75) (hro : F.round = none) (hn : 1 ≤ n) (Bs n₀ b off len cap : Nat) (hs : Nat → Value) (hreach : len ≤ 1048576) (w : World) (hBs : Bs < w.heap.size) (hn₀ : n₀ ≤ w.heap.size) (hb : b < n₀)
    (hc : w.cell? ⟨Bs, 0, none⟩ = some (.slice (some ⟨b, off, none⟩) len cap)) (hcs : ∀ j, j < len → w.cell? ⟨b, off + j, none⟩ = some (hs j)) (h1 : ∀ j, ∃ A m c, hs j = .slice A m c) :
    SeqStopsK F n Try.prog 75 #[.pointer (some ⟨Bs, 0, none⟩)] (fun x : Nat => #[Value.int .i64 (x : Int), hs x]) (KpB n₀ Bs) (fun ys => ys = dn len 0) (fun pre => ∃ k, pre = dn len k) len w := fun l J Jx W hW _ _ hY h0 =>
  back1_in F n hf hro hn l Bs n₀ b off len cap hs hreach hb J Jx hY W ((hW.cell (p := ⟨Bs, 0, none⟩) hBs).trans hc) (fun j hj => (hW.cell (p := ⟨b, off + j, none⟩) (by show b < _; omega)).trans (hcs j hj)) h1 h0
end Go.Proofs.Ytkjjieofoolnhaa
