/- The contracts of markIntS and heldIntS: the marks that an exact law lays in a result's memory, and reads again. -/
import Derived.Test.YtkjjieofoolnhaaInts
namespace Go.Proofs.Ytkjjieofoolnhaa
open Go.RowKit

/-- The numbers k, k + 1 and so on, n of them. -/
def marks (k : Int) (n : Nat) : List Int := (List.range n).map fun (j : Nat) => k + (j : Int)
theorem marks_length (k : Int) (n : Nat) : (marks k n).length = n := by simp [marks]
theorem marks_get (k : Int) (n i : Nat) (h : i < (marks k n).length) : (marks k n)[i] = k + i := by simp [marks]
theorem marks_succ (k : Int) (n : Nat) : marks k (n + 1) = marks k n ++ [k + (n : Int)] := by simp [marks, List.range_succ]

theorem marked_set (k : Int) (i : Nat) (l : List Int) (h : i < l.length) :
    ((marks k i ++ l.drop i).map (Value.int .i64)).set i (.int .i64 (k + (i : Int))) = (marks k (i + 1) ++ l.drop (i + 1)).map (Value.int .i64) := by
  rw [← List.map_set, List.set_append_right _ _ (by rw [marks_length]; omega), marks_length, Nat.sub_self, List.drop_eq_getElem_cons h, List.set_cons_zero, marks_succ, List.append_assoc]
  rfl

set_option maxHeartbeats 400000 in
theorem mark_any (lo up : Nat) (A : Option Addr) (c : Nat) (l : List Int) (k : Int) (w : World) (h : OwnC lo up w 3 A (l.map (Value.int .i64))) (hk : 0 ≤ k ∧ k ≤ 1000000000000) (hl : l.length ≤ 1000000000000) :
    Calls Try.prog 39 #[.slice A l.length c, .int .i64 k] w fun e w' => e = .returned (.int .i64 (k + l.length)) ∧ OwnC lo up w' 3 A ((marks k l.length).map (Value.int .i64)) ∧ Turn lo up w w' := by
  go_enter Try.func39, Try.ntmps39
  go_wp2
  go_loopw [1, 5] (fun x y wr => ∃ i : Nat, i ≤ l.length ∧ x = .int .i64 (k + i) ∧ y = .int .i64 i ∧ OwnC lo up wr 3 A ((marks k i ++ l.drop i).map (Value.int .i64)) ∧ Turn lo up w wr) (fun _ y _ => l.length - (intOf y).toNat)
  case atStart => exact ⟨0, Nat.zero_le _, by go_num, rfl, by simpa [marks] using h, Turn.refl _ _ _⟩
  case round =>
    obtain ⟨i, hi, rfl, rfl, ho, ht⟩ := hrel
    by_cases hlt : i < l.length
    · have hlen : ((marks k i ++ l.drop i).map (Value.int .i64)).length = l.length := by simp [marks_length]; omega
      obtain ⟨g, cur, rfl, h1, h2, hh, hcur⟩ := id ho (by omega)
      obtain ⟨u, hu⟩ : ∃ u, wr.cell? ⟨g, i, none⟩ = some u := ⟨_, by rw [cell_of_row _ _ _ _ _ _ hh]; exact take_getElem hcur i (by omega)⟩
      have hf : wr.frozen? ⟨g, i, none⟩ = false := frozen_of_row _ _ _ _ _ hh
      have ho2 := OwnC.set ho i (.int .i64 (k + (i : Int)))
      rw [marked_set k i l hlt] at ho2
      have ht2 := ht.setCell (p := ⟨g, i, none⟩) h1 h2 (.int .i64 (k + (i : Int)))
      clear hh hcur ho ht hlen h
      go_wp2
      go_roundw
      case rel => exact ⟨i + 1, by omega, by go_num, by go_num, ho2, ht2⟩
      case measure => simp [intOf]; omega
    · obtain rfl : i = l.length := by omega
      have ho2 : OwnC lo up wr 3 A ((marks k l.length).map (Value.int .i64)) := by simpa using ho
      clear ho
      go_wp2
      go_ret
      exact ⟨rfl, ho2, ht⟩

set_option maxHeartbeats 400000 in
theorem held_any (A : Option Addr) (n c : Nat) (k : Int) (w : World) (h : IntsIn w A (marks k n)) (hk : 0 ≤ k ∧ k ≤ 1000000000000) (hl : n ≤ 1000000000000) :
    Calls Try.prog 40 #[.slice A n c, .int .i64 k] w fun e w' => e = .returned (.int .i64 (k + n)) ∧ w = w' := by
  go_enter Try.func40, Try.ntmps40
  go_wp2
  go_loop [1, 5] (fun x y => ∃ i : Nat, i ≤ n ∧ x = .int .i64 (k + i) ∧ y = .int .i64 i) (fun _ y => n - (intOf y).toNat)
  case atStart => exact ⟨0, Nat.zero_le _, by go_num, rfl⟩
  case round =>
    obtain ⟨i, hi, rfl, rfl⟩ := hrel
    by_cases hlt : i < n
    · obtain ⟨b, off, rfl, hc⟩ := h (by rw [marks_length]; omega)
      have hx := hc i (by rw [marks_length]; omega)
      rw [marks_get] at hx
      have hne : (k + (i : Int) != k + (i : Int)) = false := by simp
      clear hc h
      go_wp2
      go_round
      case rel => exact ⟨i + 1, by omega, by go_num, by go_num⟩
      case measure => simp [intOf]; omega
    · obtain rfl : i = n := by omega
      go_wp2
      go_ret
      exact ⟨rfl, rfl⟩
end Go.Proofs.Ytkjjieofoolnhaa
