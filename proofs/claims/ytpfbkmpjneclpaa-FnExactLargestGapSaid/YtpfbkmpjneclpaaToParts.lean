/- The contract of toPartS: a list of partitions in new memory. -/
import Derived.Test.YtpfbkmpjneclpaaPartsX
namespace Go.Proofs.Ytpfbkmpjneclpaa
open Go.RowKit
set_option linter.unusedVariables false

theorem toPart_any (a b : Int) (w : World) :
    Calls Try.prog 43 #[.agg #[.int .i64 a, .int .i64 b]] w fun e w' => e = .returned (.agg #[.int .i64 a, .int .i64 b]) ∧ Below w.heap.size w w' := by
  go_enter Try.func43, Try.ntmps43
  go_wp2
  refine bodyPost_ret (v := .agg #[.int .i64 a, .int .i64 b]) (by simp [results, Try.results43, go_sem]) rfl ⟨rfl, ?_⟩
  exact b_alloc (b_alloc (b_alloc (Below.refl _ _) _) _) _

theorem info_part : (Try.prog.info? 47).map (fun i => (i.zero, i.size, i.bytes)) = some (some (.agg #[.int .i64 0, .int .i64 0]), 2, 16) := by kernel_rfl

def ToPartsPost (l : List (Int × Int)) (W : World) (e : Ending) (w' : World) : Prop :=
  ∃ A, e = .returned (.slice A l.length l.length) ∧ OwnC W.heap.size w'.heap.size w' 47 A (partsC l) ∧ Below W.heap.size W w'

theorem partsC_take {l : List (Int × Int)} {k : Nat} (h : k < l.length) : partsC (l.take (k + 1)) = partsC (l.take k) ++ [.int .i64 l[k].1] ++ [.int .i64 l[k].2] := by
  rw [List.take_succ_eq_append_getElem h]
  simp only [partsC, List.flatMap_append, List.flatMap_cons, List.flatMap_nil, List.append_nil, List.append_assoc]
  rfl

set_option maxHeartbeats 1000000 in
theorem toParts_any (A : Option Addr) (c : Nat) (l : List (Int × Int)) (w : World) (h : PartsIn w A l) (hl : l.length ≤ 1048576) :
    Calls Try.prog 17 #[.slice A l.length c] w (ToPartsPost l w) := by
  have hmk := make_rows (P := Try.prog) 25 47 (.agg #[.int .i64 0, .int .i64 0]) 2 16 Try.underlying25 info_part l.length (by omega) (by omega)
  go_enter Try.func17, Try.ntmps17
  go_wp2
  go_loopw [4] (fun x wr => ∃ k : Nat, k ≤ l.length ∧ x = .int .i64 k ∧ Fill wr w.heap.size 47 (l.length * 2) (partsC (l.take k)) ∧ Below w.heap.size w wr) (fun x _ => l.length - (intOf x).toNat)
  case atStart => exact ⟨0, Nat.zero_le _, rfl, by have := Fill.new w 47 (madeCells (Value.agg #[.int .i64 0, .int .i64 0]).cells (l.length * 2)); rw [size_madeCells] at this; exact this, b_alloc (Below.refl _ _) _⟩
  case round =>
    obtain ⟨k, hk, rfl, hf, hb⟩ := hrel
    by_cases hlt : k < l.length
    · obtain ⟨b, off, rfl, hc⟩ := h.below hb (by omega)
      obtain ⟨c1, c2⟩ := hc k hlt
      have hs := partsC_take hlt
      clear hc h hmk
      obtain ⟨⟨f, n⟩, e1⟩ : ∃ p : Int × Int, p = l[k] := ⟨_, rfl⟩
      rw [← e1] at c1 c2 hs
      simp only at c1 c2 hs
      have HS := Lib.hid hs
      clear hs e1
      go_wp2_with (go_at_call 43; refine (toPart_any _ _ _).mono ?_; rintro e w3 ⟨rfl, hb3⟩; have hf3 := hf.below hb3; have hbb := hb.trans (hb3.mono hb.size); obtain ⟨u1, hu1⟩ := hf3.cell (k * 2) (by omega); obtain ⟨u2, hu2⟩ := hf3.cell (k * 2 + 1) (by omega); have z1 := hf3.free (k * 2); have z2 := hf3.free (k * 2 + 1))
      have hlen : (partsC (l.take k)).length = 2 * k := by rw [partsC_length, List.length_take]; omega
      have hf4 := (hf3.push (.int .i64 f) (k * 2) (by omega) (by omega)).push (.int .i64 n) (k * 2 + 1) (by rw [List.length_append, hlen]; simp; omega) (by omega)
      rw [← HS.out] at hf4
      have hb4 := (hbb.setCell (p := ⟨w.heap.size, k * 2, none⟩) (Nat.le_refl _) (.int .i64 f)).setCell (p := ⟨w.heap.size, k * 2 + 1, none⟩) (Nat.le_refl _) (.int .i64 n)
      go_roundw
      case rel => exact ⟨k + 1, by omega, by go_num, hf4, hb4⟩
      case measure => simp [intOf]; omega
    · rw [List.take_of_length_le (by omega)] at hf
      have ho := Lib.hid (hf.own w.heap.size wr.heap.size (Nat.le_refl _) hf.lt)
      clear hf
      go_wp2
      go_ret
      exact ⟨_, rfl, ho.out, hb⟩
end Go.Proofs.Ytpfbkmpjneclpaa
