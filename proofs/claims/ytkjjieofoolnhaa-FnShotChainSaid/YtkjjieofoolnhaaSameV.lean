/- The contract of sameVolume on volumes that are the same. -/
import Derived.Test.YtkjjieofoolnhaaVolX
import Derived.Test.YtkjjieofoolnhaaSame
namespace Go.Proofs.Ytkjjieofoolnhaa
open Go.RowKit
set_option linter.unusedVariables false

theorem cell_keepV {w w' : World} {p : Addr} {v : Value} (h : w.cell? p = some v) (hb : Below w.heap.size w w') : w'.cell? p = some v :=
  (World.cell?_of_block (hb.block _ (block_lt_of_cell h))).trans h
set_option linter.unusedSimpArgs false in
set_option maxHeartbeats 4000000 in
theorem sameVol_same (v v' : Value) (N : List Int) (S : List (List Sv)) (w : World) (h : VolR w v N S) (h' : VolR w v' N S) (hN : N.length ≤ 1000000000) (hS : S.length + sumN S ≤ 1000000000) :
    Calls Try.prog 35 #[v, v'] w fun e w' => e = .returned (.bool true) ∧ Below w.heap.size w w' := by
  obtain ⟨A, c, B, d, rfl, hA, hB, _, _, _, _⟩ := h
  obtain ⟨A', c', B', d', rfl, hA', hB', _, _, _, _⟩ := h'
  have K0 := Lib.hid (show Blk ((w.alloc (.cells #[.slice A N.length c, .slice B S.length d] 29)).alloc (.cells #[.slice A' N.length c', .slice B' S.length d'] 29)) w.heap.size 29 #[.slice A N.length c, .slice B S.length d] from (Blk.new rfl).alloc _)
  have K1 := Lib.hid (show Blk ((w.alloc (.cells #[.slice A N.length c, .slice B S.length d] 29)).alloc (.cells #[.slice A' N.length c', .slice B' S.length d'] 29)) (w.heap.size + 1) 29 #[.slice A' N.length c', .slice B' S.length d'] from Blk.new (by simp))
  have C0 := Lib.hid (show Below w.heap.size w ((w.alloc (.cells #[.slice A N.length c, .slice B S.length d] 29)).alloc (.cells #[.slice A' N.length c', .slice B' S.length d'] 29)) from b_alloc (b_alloc (Below.refl _ _) _) _)
  have HA := Lib.hid (hA.below C0.out)
  have HA' := Lib.hid (hA'.below C0.out)
  have HB := Lib.hid (hB.below C0.out)
  have HB' := Lib.hid (hB'.below C0.out)
  have hbl : ((S.length : Int) != S.length) = false := by simp
  have hS2 : S.length ≤ 1000000000 := by omega
  clear hA hA' hB hB'
  go_enter Try.func35, Try.ntmps35
  go_wp2
  generalize hw2 : (w.alloc (.cells #[.slice A N.length c, .slice B S.length d] 29)).alloc (.cells #[.slice A' N.length c', .slice B' S.length d'] 29) = w2 at *
  clear hw2
  go_loopw [5] (fun x wr => ∃ i : Nat, i ≤ S.length ∧ x = .int .i64 i ∧ Hid (Below w2.heap.size w2 wr)) (fun x _ => S.length - (intOf x).toNat)
  case atStart => exact ⟨0, Nat.zero_le _, rfl, Lib.hid (Below.refl _ _)⟩
  case round =>
    obtain ⟨i, hi, rfl, BB⟩ := hrel
    obtain ⟨x0, x1, _, _⟩ := (blk_below BB.out K0.out K0.out.lt).two
    obtain ⟨y0, y1, _, _⟩ := (blk_below BB.out K1.out K1.out.lt).two
    by_cases hlt : i < S.length
    · obtain ⟨b, off, rfl, hc⟩ := HB.out (by omega)
      obtain ⟨b', off', rfl, hc'⟩ := HB'.out (by omega)
      obtain ⟨Ai, ci, z0, z1, _, _⟩ := hc i hlt
      obtain ⟨Ai', ci', z0', z1', _, _⟩ := hc' i hlt
      have hsm := sumN_get hlt
      obtain ⟨p, hp⟩ : ∃ p, p = S[i] := ⟨_, rfl⟩
      rw [← hp] at z0 z1 z0' z1' hsm
      have q0 := cell_keepV z0 BB.out
      have q0' := cell_keepV z0' BB.out
      have HZ := Lib.hid (fun (u : World) (hu : Below w2.heap.size w2 u) => cell_keepV z0 hu)
      have HZ' := Lib.hid (fun (u : World) (hu : Below w2.heap.size w2 u) => cell_keepV z0' hu)
      have Z1 := Lib.hid (SavedIn.of z1)
      have Z1' := Lib.hid (SavedIn.of z1')
      have hpl : ((p.length : Int) != p.length) = false := by simp
      have hi2 : (i : Int) < (S.length : Int) := by omega
      have hi3 : (0 : Int) ≤ (i : Int) := by omega
      clear hc hc' hp z0 z0' z1 z1'
      go_wp2
      go_quiet (fail)
      go_wp2
      have B2 := Lib.hid (belowN BB.out nq)
      generalize wr.drewN nq = w3 at *
      clear BB x0 x1 y0 y1 q0 q0'
      go_loopw [6] (fun x wr => ∃ j : Nat, j ≤ p.length ∧ x = .int .i64 j ∧ Hid (Below w2.heap.size w2 wr)) (fun x _ => p.length - (intOf x).toNat)
      case atStart => exact ⟨0, Nat.zero_le _, rfl, B2⟩
      case round =>
        clear B2
        obtain ⟨j, hj, rfl, BB⟩ := hrel
        obtain ⟨x0, x1, _, _⟩ := (blk_below BB.out K0.out K0.out.lt).two
        obtain ⟨y0, y1, _, _⟩ := (blk_below BB.out K1.out K1.out.lt).two
        have q0 := HZ.out _ BB.out
        have q0' := HZ'.out _ BB.out
        by_cases hjl : j < p.length
        · obtain ⟨bk, ok, rfl, hcs⟩ := (Z1.out.below BB.out) (by omega)
          obtain ⟨bk', ok', rfl, hcs'⟩ := (Z1'.out.below BB.out) (by omega)
          obtain ⟨s0, s1⟩ := hcs j hjl
          obtain ⟨s0', s1'⟩ := hcs' j hjl
          obtain ⟨⟨q1, q2⟩, hq⟩ : ∃ q : Int × Int, q = p[j] := ⟨_, rfl⟩
          rw [← hq] at s0 s1 s0' s1'
          simp only at s0 s1 s0' s1'
          have hj2 : (j : Int) < (p.length : Int) := by omega
          have hj3 : (0 : Int) ≤ (j : Int) := by omega
          clear hcs hcs' hq
          go_wp2
          go_quiet (fail)
          go_wp2
          have B2 := Lib.hid (belowN BB.out nq)
          go_roundw
          case rel => exact ⟨j + 1, by omega, by go_num, B2⟩
          case measure => simp [intOf]; omega
        · go_wp2
          go_roundw
          case rel => exact ⟨i + 1, by omega, by go_num, BB⟩
          case measure => simp [intOf]; omega
    · have HI := Lib.hid (HA.out.below BB.out)
      have HI' := Lib.hid (HA'.out.below BB.out)
      go_wp2_with fail
      refine (sameInts_any A A' c c' N N wr HI.out HI'.out (by omega) (by omega)).mono ?_
      rintro e w5 ⟨rfl, q, rfl⟩
      have hd : decide (N = N) = true := by simp
      rw [hd]
      have hfin := Lib.hid (belowN (C0.out.trans (BB.out.mono C0.out.size)) q)
      go_wp2
      go_ret
      exact ⟨rfl, hfin.out⟩
end Go.Proofs.Ytkjjieofoolnhaa
