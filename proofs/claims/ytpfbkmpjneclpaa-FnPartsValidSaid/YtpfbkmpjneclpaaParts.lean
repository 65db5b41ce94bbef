/- Partitions: how a list of them reads, and the contracts of PartsValid, the program's and the reference's. -/
import Derived.Test.YtpfbkmpjneclpaaMem
import Derived.Deep.QuietTactic
import Derived.BigQuiet
namespace Go.Proofs.Ytpfbkmpjneclpaa
open Go.RowKit
set_option linter.unusedVariables false

/-- The slice's address A leads to the partitions l: each its first sector and its number of sectors. -/
def PartsIn (w : World) (A : Option Addr) (l : List (Int × Int)) : Prop :=
  0 < l.length → ∃ b off, A = some ⟨b, off, none⟩ ∧ ∀ i (h : i < l.length), w.cell? ⟨b, off + i * 2, none⟩ = some (.int .i64 l[i].1) ∧ w.cell? ⟨b, off + i * 2 + 1, none⟩ = some (.int .i64 l[i].2)
theorem PartsIn.nil (w : World) (A : Option Addr) : PartsIn w A [] := fun h => absurd h (by simp)
theorem PartsIn.keep {w w' : World} {A : Option Addr} {l : List (Int × Int)} (h : PartsIn w A l) (hk : ∀ k, k < w.heap.size → w'.heap[k]? = w.heap[k]?) : PartsIn w' A l := by
  intro h0
  obtain ⟨b, off, e, hc⟩ := h h0
  refine ⟨b, off, e, fun i hi => ?_⟩
  obtain ⟨c1, c2⟩ := hc i hi
  exact ⟨(World.cell?_of_block (hk b (block_lt_of_cell c1))).trans c1, (World.cell?_of_block (hk b (block_lt_of_cell c2))).trans c2⟩
theorem PartsIn.below {w w' : World} {A : Option Addr} {l : List (Int × Int)} (h : PartsIn w A l) (hb : Below w.heap.size w w') : PartsIn w' A l := h.keep hb.block
theorem PartsIn.drewN {w : World} {A : Option Addr} {l : List (Int × Int)} (h : PartsIn w A l) (n : Nat) : PartsIn (w.drewN n) A l := h

theorem quietl {P : Program} {f : FuncId} {args : Array Value} {w : World} {v : Value} (h : Calls P f args w fun e w' => e = .returned v ∧ w = w') : Calls P f args w fun e w' => e = .returned v ∧ w' = w :=
  h.mono fun _ _ ⟨a, b⟩ => ⟨a, b.symm⟩

/-- From the end of the partition before on: each in its place. -/
def partsOk (size : Int) : Int → List (Int × Int) → Bool
  | _, [] => true
  | last, p :: r => inB p.1 last (size - 1) && inB p.2 1 (size - p.1) && partsOk size (p.1 + p.2) r
def partsB (l : List (Int × Int)) (size : Int) : Bool := inB size 0 100000 && decide ((l.length : Int) ≤ 8) && partsOk size 0 l

theorem drop_cons {α : Type} {l : List α} {k : Nat} (h : k < l.length) : l.drop k = l[k] :: l.drop (k + 1) := List.drop_eq_getElem_cons h

def PVPost (l : List (Int × Int)) (size : Int) (W : World) (e : Ending) (w' : World) : Prop := e = .returned (.bool (partsB l size)) ∧ Below W.heap.size W w'

set_option maxHeartbeats 1000000 in
theorem specParts_any (A : Option Addr) (c : Nat) (l : List (Int × Int)) (size : Int) (w : World) (h : PartsIn w A l) (hl : l.length ≤ 1000000000000) :
    Calls Try.prog 16 #[.slice A l.length c, .int .i64 size] w (PVPost l size w) := by
  cases h1 : inB size 0 100000
  · have hno := Lib.hid (show PVPost l size w (.returned (.bool false)) w from ⟨ret_bool (by simp [partsB, h1]), Below.refl _ _⟩)
    go_enter Try.func16, Try.ntmps16
    go_wp2_with (go_at_call 42; refine (l1In_any _ _ _ _).mono ?_; rintro e w' ⟨rfl, rfl⟩)
    go_ret
    exact hno.out
  · obtain ⟨z0, z1⟩ := inB_iff.1 h1
    go_enter Try.func16, Try.ntmps16
    go_wp2_with (go_at_call 42; refine (l1In_any _ _ _ _).mono ?_; rintro e w' ⟨rfl, rfl⟩)
    go_loopw [5, 6] (fun x y wr => ∃ (e : Int) (k : Nat), k ≤ l.length ∧ x = .int .i64 e ∧ y = .int .i64 k ∧ 0 ≤ e ∧ e ≤ 100000 ∧ Hid (partsOk size 0 l = partsOk size e (l.drop k)) ∧ Below w.heap.size w wr) (fun _ y _ => l.length - (intOf y).toNat)
    case atStart => exact ⟨0, 0, Nat.zero_le _, rfl, rfl, by omega, by omega, rfl, Below.refl _ _⟩
    case round =>
      obtain ⟨last, k, hk, rfl, rfl, e0, e1, hp, hb⟩ := hrel
      by_cases hlt : k < l.length
      · obtain ⟨b, off, rfl, hc⟩ := h.below hb (by omega)
        obtain ⟨c1, c2⟩ := hc k hlt
        have hd := hp.out
        rw [drop_cons hlt] at hd
        clear hc h hp
        obtain ⟨⟨f, n⟩, hfn⟩ : ∃ p : Int × Int, p = l[k] := ⟨_, rfl⟩
        rw [← hfn] at c1 c2 hd
        simp only at c1 c2 hd
        clear hfn
        have hd2 : partsOk size last ((f, n) :: l.drop (k + 1)) = (inB f last (size - 1) && inB n 1 (size - f) && partsOk size (f + n) (l.drop (k + 1))) := rfl
        rw [hd2] at hd
        clear hd2
        cases g1 : inB f last (size - 1)
        · have hno := Lib.hid (fun m => show PVPost l size w (.returned (.bool false)) (wr.drewN m) from ⟨ret_bool (by simp [partsB, hd, g1]), belowN hb _⟩)
          clear hd hb
          go_wp2
          go_quiet ((go_at_call 42; exact Calls.quiet_of_same (quietl (l1In_any _ _ _ _))))
          go_wp2
          go_ret
          exact hno.out _
        · obtain ⟨f0, f1⟩ := inB_iff.1 g1
          cases g2 : inB n 1 (size - f)
          · have hno := Lib.hid (fun m => show PVPost l size w (.returned (.bool false)) (wr.drewN m) from ⟨ret_bool (by simp [partsB, hd, g1, g2]), belowN hb _⟩)
            clear hd hb
            go_wp2
            go_quiet ((go_at_call 42; exact Calls.quiet_of_same (quietl (l1In_any _ _ _ _))))
            go_wp2
            go_ret
            exact hno.out _
          · obtain ⟨n0, n1⟩ := inB_iff.1 g2
            have hd3 := Lib.hid (show partsOk size 0 l = partsOk size (f + n) (l.drop (k + 1)) by rw [hd, g1, g2]; rfl)
            have hb3 := Lib.hid (fun m => belowN hb m)
            clear hd hb
            go_wp2
            go_quiet ((go_at_call 42; exact Calls.quiet_of_same (quietl (l1In_any _ _ _ _))))
            go_wp2
            go_quiet (fail)
            go_wp2
            go_roundw
            case rel => exact ⟨f + n, k + 1, by omega, rfl, by go_num, by omega, by omega, hd3.out, hb3.out _⟩
            case measure => simp [intOf]; omega
      · have hd := hp.out
        rw [List.drop_of_length_le (by omega)] at hd
        have hyes := Lib.hid (show PVPost l size w (.returned (.bool (decide ((l.length : Int) ≤ 8)))) wr from ⟨ret_bool (by simp [partsB, hd, h1, partsOk]), hb⟩)
        clear hd hb hp
        go_wp2
        go_ret
        exact hyes.out

/-- A stretch of a disk. -/
def stB (at_ count n : Int) : Bool := inB at_ 0 n && inB count 0 (n - at_)
theorem isStretch_any (a c n : Int) (w : World) (hn : 0 ≤ n ∧ n ≤ 1000000000) :
    Calls Try.prog 45 #[.int .i64 a, .int .i64 c, .int .i64 n] w fun e w' => e = .returned (.bool (stB a c n)) ∧ w = w' := by
  cases h1 : inB a 0 n
  · go_enter Try.func45, Try.ntmps45
    go_wp2_with (go_at_call 44; refine (within_any _ _ _ _).mono ?_; rintro e w' ⟨rfl, rfl⟩)
    go_ret
    exact ⟨ret_bool (by rw [stB, h1]; rfl), rfl⟩
  · obtain ⟨a0, a1⟩ := inB_iff.1 h1
    go_enter Try.func45, Try.ntmps45
    go_wp2_with (go_at_call 44; refine (within_any _ _ _ _).mono ?_; rintro e w' ⟨rfl, rfl⟩)
    go_ret
    exact ⟨ret_bool (by rw [stB, h1]; rfl), rfl⟩

/-- The program's test of a partition is the reference's. -/
theorem part_test (f n last size : Int) (h0 : 0 ≤ last) (h1 : last ≤ f) (h2 : 1 ≤ n) (h3 : size ≤ 100000) : stB f n size = (inB f last (size - 1) && inB n 1 (size - f)) := by
  rw [Bool.eq_iff_iff]
  unfold stB
  simp only [Bool.and_eq_true, inB_iff]
  omega

set_option maxHeartbeats 1000000 in
theorem implParts_any (A : Option Addr) (c : Nat) (l : List (Int × Int)) (size : Int) (w : World) (h : PartsIn w A l) (hl : l.length ≤ 1000000000000) :
    Calls Try.prog 18 #[.slice A l.length c, .int .i64 size] w (PVPost l size w) := by
  by_cases h8 : 8 < l.length
  · have hno := Lib.hid (show PVPost l size w (.returned (.bool false)) w from ⟨ret_bool (by simp [partsB]; omega), Below.refl _ _⟩)
    go_enter Try.func18, Try.ntmps18
    go_wp2
    go_ret
    exact hno.out
  · cases h1 : inB size 0 100000
    · have hno := Lib.hid (show PVPost l size w (.returned (.bool false)) w from ⟨ret_bool (by simp [partsB, h1]), Below.refl _ _⟩)
      go_enter Try.func18, Try.ntmps18
      go_wp2_with (go_at_call 44; refine (within_any _ _ _ _).mono ?_; rintro e w' ⟨rfl, rfl⟩)
      go_ret
      exact hno.out
    · obtain ⟨z0, z1⟩ := inB_iff.1 h1
      go_enter Try.func18, Try.ntmps18
      go_wp2_with (go_at_call 44; refine (within_any _ _ _ _).mono ?_; rintro e w' ⟨rfl, rfl⟩)
      go_loopw [5, 18] (fun x y wr => ∃ (e : Int) (k : Nat), k ≤ l.length ∧ x = .int .i64 e ∧ y = .int .i64 k ∧ 0 ≤ e ∧ e ≤ 100000 ∧ Hid (partsOk size 0 l = partsOk size e (l.drop k)) ∧ Below w.heap.size w wr) (fun _ y _ => l.length - (intOf y).toNat)
      case atStart => exact ⟨0, 0, Nat.zero_le _, rfl, rfl, by omega, by omega, rfl, Below.refl _ _⟩
      case round =>
        obtain ⟨last, k, hk, rfl, rfl, e0, e1, hp, hb⟩ := hrel
        by_cases hlt : k < l.length
        · obtain ⟨b, off, rfl, hc⟩ := h.below hb (by omega)
          obtain ⟨c1, c2⟩ := hc k hlt
          have hd := hp.out
          rw [drop_cons hlt] at hd
          clear hc h hp
          obtain ⟨⟨f, n⟩, hfn⟩ : ∃ p : Int × Int, p = l[k] := ⟨_, rfl⟩
          rw [← hfn] at c1 c2 hd
          simp only at c1 c2 hd
          clear hfn
          have hd2 : partsOk size last ((f, n) :: l.drop (k + 1)) = (inB f last (size - 1) && inB n 1 (size - f) && partsOk size (f + n) (l.drop (k + 1))) := rfl
          rw [hd2] at hd
          clear hd2
          have hb1 : Below w.heap.size w (wr.alloc (.cells #[.int .i64 f, .int .i64 n] 47)) := hb.alloc hb.size _
          by_cases g1 : f < last
          · have hno := Lib.hid (show PVPost l size w (.returned (.bool false)) (wr.alloc (.cells #[.int .i64 f, .int .i64 n] 47)) from ⟨ret_bool (by simp [partsB, hd, inB_lo (show ¬ last ≤ f by omega)]), hb1⟩)
            clear hd hb hb1
            go_wp2
            go_ret
            exact hno.out
          · by_cases g2 : n < 1
            · have hno := Lib.hid (show PVPost l size w (.returned (.bool false)) (wr.alloc (.cells #[.int .i64 f, .int .i64 n] 47)) from ⟨ret_bool (by simp [partsB, hd, inB_lo (show ¬ 1 ≤ n by omega)]), hb1⟩)
              clear hd hb hb1
              go_wp2
              go_ret
              exact hno.out
            · have ht := part_test f n last size e0 (by omega) (by omega) z1
              cases g3 : stB f n size
              · rw [g3] at ht
                have hno := Lib.hid (show PVPost l size w (.returned (.bool false)) (wr.alloc (.cells #[.int .i64 f, .int .i64 n] 47)) from ⟨ret_bool (by simp [partsB, hd, ← ht]), hb1⟩)
                clear hd hb hb1 ht
                go_wp2_with (go_at_call 45; refine (isStretch_any _ _ _ _ (by omega)).mono ?_; rintro e w' ⟨rfl, rfl⟩)
                go_ret
                exact hno.out
              · rw [g3] at ht
                have hs := ht.symm
                simp only [Bool.and_eq_true, inB_iff] at hs
                have hd3 := Lib.hid (show partsOk size 0 l = partsOk size (f + n) (l.drop (k + 1)) by rw [hd, ← ht]; rfl)
                have hb3 := Lib.hid hb1
                clear hd hb hb1 ht
                go_wp2_with (go_at_call 45; refine (isStretch_any _ _ _ _ (by omega)).mono ?_; rintro e w' ⟨rfl, rfl⟩)
                go_roundw
                case rel => exact ⟨f + n, k + 1, by omega, rfl, by go_num, by omega, by omega, hd3.out, hb3.out⟩
                case measure => simp [intOf]; omega
        · have hd := hp.out
          rw [List.drop_of_length_le (by omega)] at hd
          have hyes := Lib.hid (show PVPost l size w (.returned (.bool true)) wr from ⟨ret_bool (by simp [partsB, hd, h1, partsOk]; omega), hb⟩)
          clear hd hb hp
          go_wp2
          go_ret
          exact hyes.out
end Go.Proofs.Ytpfbkmpjneclpaa
