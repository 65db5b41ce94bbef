/- The contracts of markRecordS and heldRecordS. -/
import Derived.Test.YthghngphamimgaaRecX
namespace Go.Proofs.Ythghngphamimgaa
open Go.RowKit
set_option linter.unusedVariables false

/-- The record number i of the marks from k on. -/
def markR (k : Int) : Rc := (k, (k + 1) % 3 == 0, k + 1 + 1, k + 1 + 1 + 1)
def marksR (k : Int) (n : Nat) : List Rc := (List.range n).map fun (j : Nat) => markR (k + 4 * (j : Int))
theorem marksR_length (k : Int) (n : Nat) : (marksR k n).length = n := by simp [marksR]
theorem marksR_get (k : Int) (n i : Nat) (h : i < (marksR k n).length) : (marksR k n)[i] = markR (k + 4 * i) := by simp [marksR]
theorem marksR_succ (k : Int) (n : Nat) : marksR k (n + 1) = marksR k n ++ [markR (k + 4 * (n : Int))] := by simp [marksR, List.range_succ]
theorem recC_set (l : List Rc) (i : Nat) (h : i < l.length) (q : Rc) :
    ((((recC l).set (i * 4) (.int .i64 q.1)).set (i * 4 + 1) (.bool q.2.1)).set (i * 4 + 2) (.int .i64 q.2.2.1)).set (i * 4 + 3) (.int .i64 q.2.2.2) = recC (l.set i q) := by
  induction l generalizing i with
  | nil => simp at h
  | cons p r ih =>
    cases i with
    | zero => rfl
    | succ i =>
      have e : recC (p :: r) = .int .i64 p.1 :: .bool p.2.1 :: .int .i64 p.2.2.1 :: .int .i64 p.2.2.2 :: recC r := rfl
      have e2 : recC ((p :: r).set (i + 1) q) = .int .i64 p.1 :: .bool p.2.1 :: .int .i64 p.2.2.1 :: .int .i64 p.2.2.2 :: recC (r.set i q) := rfl
      rw [e2, ← ih i (by simpa using h), e, show (i + 1) * 4 = i * 4 + 1 + 1 + 1 + 1 by omega]
      rfl
theorem markedR_set (k : Int) (i : Nat) (l : List Rc) (h : i < l.length) : (marksR k i ++ l.drop i).set i (markR (k + 4 * (i : Int))) = marksR k (i + 1) ++ l.drop (i + 1) := by
  rw [List.set_append_right _ _ (by rw [marksR_length]; omega), marksR_length, Nat.sub_self, List.drop_eq_getElem_cons h, List.set_cons_zero, marksR_succ, List.append_assoc]
  rfl

set_option maxHeartbeats 1000000 in
theorem markRec_any (lo up : Nat) (A : Option Addr) (c : Nat) (l : List Rc) (k : Int) (w : World) (h : OwnC lo up w 33 A (recC l)) (hk : 0 ≤ k ∧ k ≤ 1000000000000) (hl : l.length ≤ 1000000000) :
    Calls Try.prog 22 #[.slice A l.length c, .int .i64 k] w fun e w' => e = .returned (.int .i64 (k + 4 * l.length)) ∧ OwnC lo up w' 33 A (recC (marksR k l.length)) ∧ Turn lo up w w' := by
  go_enter Try.func22, Try.ntmps22
  go_wp2
  go_loopw [1, 5] (fun x y wr => ∃ (i : Nat) (q : Int), i ≤ l.length ∧ x = .int .i64 q ∧ q = k + 4 * i ∧ y = .int .i64 i ∧ OwnC lo up wr 33 A (recC (marksR k i ++ l.drop i)) ∧ Turn lo up w wr) (fun _ y _ => l.length - (intOf y).toNat)
  case atStart => exact ⟨0, k, Nat.zero_le _, rfl, by simp, rfl, by simpa [marksR] using h, Turn.refl _ _ _⟩
  case round =>
    obtain ⟨i, q, hi, rfl, hq, rfl, ho, ht⟩ := hrel
    by_cases hlt : i < l.length
    · have hll : (marksR k i ++ l.drop i).length = l.length := by simp [marksR_length]; omega
      have hlen : (recC (marksR k i ++ l.drop i)).length = 4 * l.length := by rw [recC_length, hll]
      obtain ⟨g, cur, rfl, h1, h2, hh, hcur⟩ := id ho (by omega)
      have hcell : ∀ j, j < 4 * l.length → ∃ u, wr.cell? ⟨g, j, none⟩ = some u := fun j hj => ⟨_, by rw [cell_of_row _ _ _ _ _ _ hh]; exact take_getElem hcur j (by omega)⟩
      obtain ⟨u0, hu0⟩ := hcell (i * 4) (by omega)
      obtain ⟨u1, hu1⟩ := hcell (i * 4 + 1) (by omega)
      obtain ⟨u2, hu2⟩ := hcell (i * 4 + 2) (by omega)
      obtain ⟨u3, hu3⟩ := hcell (i * 4 + 3) (by omega)
      have hf : ∀ j, wr.frozen? ⟨g, j, none⟩ = false := fun j => frozen_of_row _ _ _ _ _ hh
      have hf0 := hf (i * 4)
      have hf1 := hf (i * 4 + 1)
      have hf2 := hf (i * 4 + 2)
      have hf3 := hf (i * 4 + 3)
      have hset := recC_set (marksR k i ++ l.drop i) i (by omega) (markR q)
      rw [show markR q = markR (k + 4 * (i : Int)) by rw [hq], markedR_set k i l hlt, ← hq] at hset
      have ho2 := (((OwnC.set ho (i * 4) (.int .i64 (markR q).1)).set (i * 4 + 1) (.bool (markR q).2.1)).set (i * 4 + 2) (.int .i64 (markR q).2.2.1)).set (i * 4 + 3) (.int .i64 (markR q).2.2.2)
      rw [hset] at ho2
      have ht2 := (((ht.setCell (p := ⟨g, i * 4, none⟩) h1 h2 (.int .i64 (markR q).1)).setCell (p := ⟨g, i * 4 + 1, none⟩) h1 h2 (.bool (markR q).2.1)).setCell (p := ⟨g, i * 4 + 2, none⟩) h1 h2 (.int .i64 (markR q).2.2.1)).setCell (p := ⟨g, i * 4 + 3, none⟩) h1 h2 (.int .i64 (markR q).2.2.2)
      simp only [markR] at ho2 ht2
      have q0 : 0 ≤ q := by omega
      have q1 : q ≤ 2000000000000 := by omega
      have HO := Lib.hid ho2
      have HT := Lib.hid ht2
      clear hh hcur ho ht hlen h hcell hf hset hll ho2 ht2
      have HQ := Lib.hid hq
      clear hq
      go_wp2
      go_roundw
      case rel => exact ⟨i + 1, q + 1 + 1 + 1 + 1, by omega, by go_num, by have := HQ.out; omega, by go_num, HO.out, HT.out⟩
      case measure => simp [intOf]; omega
    · obtain rfl : i = l.length := by omega
      have ho2 : OwnC lo up wr 33 A (recC (marksR k l.length)) := by simpa using ho
      rw [hq]
      clear ho hq
      go_wp2
      go_ret
      exact ⟨rfl, ho2, ht⟩

set_option maxHeartbeats 1000000 in
theorem heldRec_any (A : Option Addr) (n c : Nat) (k : Int) (w : World) (h : RecsIn w A (marksR k n)) (hk : 0 ≤ k ∧ k ≤ 1000000000000) (hl : n ≤ 1000000000) :
    Calls Try.prog 30 #[.slice A n c, .int .i64 k] w fun e w' => e = .returned (.int .i64 (k + 4 * n)) ∧ w = w' := by
  go_enter Try.func30, Try.ntmps30
  go_wp2
  go_loop [1, 5] (fun x y => ∃ (i : Nat) (q : Int), i ≤ n ∧ x = .int .i64 q ∧ q = k + 4 * i ∧ y = .int .i64 i) (fun _ y => n - (intOf y).toNat)
  case atStart => exact ⟨0, k, Nat.zero_le _, rfl, by simp, rfl⟩
  case round =>
    obtain ⟨i, q, hi, rfl, hq, rfl⟩ := hrel
    by_cases hlt : i < n
    · obtain ⟨b, off, rfl, hc⟩ := h (by rw [marksR_length]; omega)
      obtain ⟨c1, c2, c3, c4⟩ := hc i (by rw [marksR_length]; omega)
      rw [marksR_get, ← hq] at c1 c2 c3 c4
      simp only [markR] at c1 c2 c3 c4
      have e1 : (q != q) = false := by simp
      have e2 : (((q + 1) % 3 == 0) != ((q + 1) % 3 == 0)) = false := by simp
      have e3 : (q + 1 + 1 != q + 1 + 1) = false := by simp
      have e4 : (q + 1 + 1 + 1 != q + 1 + 1 + 1) = false := by simp
      have q0 : 0 ≤ q := by omega
      have q1 : q ≤ 2000000000000 := by omega
      have HQ := Lib.hid hq
      clear hc h hq
      go_wp2
      go_round
      case rel => exact ⟨i + 1, q + 1 + 1 + 1 + 1, by omega, by go_num, by have := HQ.out; omega, by go_num⟩
      case measure => simp [intOf]; omega
    · obtain rfl : i = n := by omega
      rw [hq]
      go_wp2
      go_ret
      exact ⟨rfl, rfl⟩
end Go.Proofs.Ythghngphamimgaa
