/- Lists of integers that are only read: allWithin and DiskValid; and that the module is alive. -/
import Derived.Test.YtpfbkmpjneclpaaMem
import Derived.Lib.Hide
import Derived.LoopN
namespace Go.Proofs.Ytpfbkmpjneclpaa
open Go.RowKit

/-- The slice value '.slice A l.length c' reads as the list l. -/
def IntsIn (w : World) (A : Option Addr) (l : List Int) : Prop :=
  0 < l.length → ∃ b off, A = some ⟨b, off, none⟩ ∧ ∀ i (h : i < l.length), w.cell? ⟨b, off + i, none⟩ = some (.int .i64 l[i])

theorem IntsIn.of {w : World} {A : Option Addr} {l : List Int} (h : ReadC w A (l.map (Value.int .i64))) : IntsIn w A l := by
  intro h0
  obtain ⟨b, off, e, hc⟩ := h (by simpa using h0)
  exact ⟨b, off, e, fun i hi => (hc i (by simpa using hi)).trans (by rw [List.getElem_map])⟩
theorem IntsIn.drewN {w : World} {A : Option Addr} {l : List Int} (h : IntsIn w A l) (n : Nat) : IntsIn (w.drewN n) A l := h
theorem IntsIn.nil (w : World) (A : Option Addr) : IntsIn w A [] := fun h => absurd h (by simp)
theorem IntsIn.keep {w w' : World} {A : Option Addr} {l : List Int} (h : IntsIn w A l) (hk : ∀ k, k < w.heap.size → w'.heap[k]? = w.heap[k]?) : IntsIn w' A l := by
  intro h0
  obtain ⟨b, off, e, hc⟩ := h h0
  exact ⟨b, off, e, fun i hi => (World.cell?_of_block (hk b (block_lt_of_cell (hc i hi)))).trans (hc i hi)⟩
theorem IntsIn.below {w w' : World} {A : Option Addr} {l : List Int} (h : IntsIn w A l) (hb : Below w.heap.size w w') : IntsIn w' A l := h.keep hb.block
theorem IntsIn.alloc {w : World} {A : Option Addr} {l : List Int} (h : IntsIn w A l) (o : Obj) : IntsIn (w.alloc o) A l := h.keep fun k hk => Below.heap_alloc w o k hk

/-- All numbers of l are lo to hi. -/
def allB (l : List Int) (lo hi : Int) : Bool := l.all (inB · lo hi)
theorem allB_take {l : List Int} {lo hi : Int} {k : Nat} (h : k < l.length) : allB (l.take (k + 1)) lo hi = (allB (l.take k) lo hi && inB l[k] lo hi) := by
  unfold allB
  rw [List.take_succ_eq_append_getElem h, List.all_append]
  simp
theorem allB_false {l : List Int} {lo hi : Int} {k : Nat} (h : k < l.length) (hn : inB l[k] lo hi = false) : allB l lo hi = false := by
  unfold allB
  rw [List.all_eq_false]
  exact ⟨l[k], List.getElem_mem h, by simp [hn]⟩

set_option maxHeartbeats 400000 in
theorem allWithin_any (A : Option Addr) (c : Nat) (l : List Int) (lo hi : Int) (w : World) (h : IntsIn w A l) (hl : l.length ≤ 9000000000000000000) :
    Calls Try.prog 65 #[.slice A l.length c, .int .i64 lo, .int .i64 hi] w fun e w' => e = .returned (.bool (allB l lo hi)) ∧ w = w' := by
  go_enter Try.func65, Try.ntmps65
  go_wp2
  go_loop [11] (fun i => ∃ k : Nat, k ≤ l.length ∧ i = .int .i64 k ∧ Hid (allB (l.take k) lo hi = true)) (fun i => l.length - (intOf i).toNat)
  case atStart => exact ⟨0, Nat.zero_le _, rfl, by show allB (l.take 0) lo hi = true; simp [allB]⟩
  case round =>
    obtain ⟨k, hk, rfl, ha⟩ := hrel
    by_cases hlt : k < l.length
    · obtain ⟨b, off, rfl, hc⟩ := h (by omega)
      have hx := hc k hlt
      clear hc h
      cases hb : inB l[k] lo hi
      · have hn := Lib.hid (allB_false hlt hb)
        go_wp2_with (go_at_call 44; refine (within_any _ _ _ _).mono ?_; rintro e w' ⟨rfl, rfl⟩)
        go_ret
        exact ⟨ret_bool hn.out.symm, rfl⟩
      · have hn := Lib.hid (show allB (l.take (k + 1)) lo hi = true by rw [allB_take hlt, ha.out, hb]; rfl)
        go_wp2_with (go_at_call 44; refine (within_any _ _ _ _).mono ?_; rintro e w' ⟨rfl, rfl⟩)
        go_round
        case rel => exact ⟨k + 1, by omega, by go_num, hn⟩
        case measure => simp [intOf]; omega
    · have hn := Lib.hid (show allB l lo hi = true by have := ha.out; rwa [List.take_of_length_le (by omega)] at this)
      go_wp2
      go_ret
      exact ⟨ret_bool hn.out.symm, rfl⟩

def diskB (l : List Int) : Bool := decide ((l.length : Int) ≤ 64) && allB l 0 255
theorem diskValid_any (A : Option Addr) (c : Nat) (l : List Int) (w : World) (h : IntsIn w A l) (hl : l.length ≤ 9000000000000000000) :
    Calls Try.prog 61 #[.slice A l.length c] w fun e w' => e = .returned (.bool (diskB l)) ∧ w = w' := by
  by_cases h1 : (l.length : Int) ≤ 64
  · go_enter Try.func61, Try.ntmps61
    go_wp2_with (go_at_call 65; refine (allWithin_any _ _ l _ _ _ h hl).mono ?_; rintro e w' ⟨rfl, rfl⟩)
    go_ret
    exact ⟨ret_bool (by simp [diskB, h1]), rfl⟩
  · go_enter Try.func61, Try.ntmps61
    go_wp2
    go_ret
    exact ⟨ret_bool (by rw [diskB, decide_eq_false (by omega)]; rfl), rfl⟩

set_option maxHeartbeats 400000 in
/-- The module is alive. -/
theorem alive_any (w : World) : Calls Try.prog 28 #[] w fun e w' => e = .returned (.bool true) ∧ Below w.heap.size w w' := by
  have hv : ∀ W : World, W.cell? ⟨w.heap.size, 0, none⟩ = some (.int .i64 1) → Calls Try.prog 52 #[.slice (some ⟨w.heap.size, 0, none⟩) 1 1] W fun e w' => e = .returned (.int .i64 34) ∧ W = w' := by
    intro W hc
    have hi : IntsIn W (some ⟨w.heap.size, 0, none⟩) [1] := fun _ => ⟨w.heap.size, 0, rfl, fun i hi => by
      obtain rfl : i = 0 := by simpa using hi
      exact hc⟩
    go_enter Try.func52, Try.ntmps52
    go_wp2_with (go_at_call 61; refine (diskValid_any _ 1 [1] _ hi (by simp)).mono ?_; rintro e w' ⟨rfl, rfl⟩)
    refine wp_loop_rounds 2 ?_
    rw [rounds_succ]
    go_wp2
    rw [rounds_succ]
    go_wp2
    go_ret
    exact ⟨rfl, rfl⟩
  go_enter Try.func28, Try.ntmps28
  go_wp2_with (go_at_call 52; refine (hv _ (by simp)).mono ?_; rintro e w' ⟨rfl, rfl⟩)
  go_ret
  exact ⟨rfl, (Below.refl _ _).alloc (Nat.le_refl _) _⟩
end Go.Proofs.Ytpfbkmpjneclpaa
