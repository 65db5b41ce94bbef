/- The draws of FnJournalValid, FnCommittedNumbers, FnReplayJournal. -/
import Derived.Test.YthghngphamimgaaDrJ
namespace Go.Proofs.Ythghngphamimgaa
open Go.RowKit
set_option linter.unusedVariables false

def DJPost (W : World) (e : Ending) (w' : World) : Prop :=
  ∃ A c l size, e = .returned (.tuple #[.slice A l.length c, .int .i64 size]) ∧ RowR w' W.heap.size A c l ∧ l.length ≤ 41 ∧ 0 ≤ size ∧ size ≤ 11 ∧ (∀ r ∈ l, numOk r) ∧ Below W.heap.size W w'
theorem drawJV_any (A : Option Addr) (m c : Nat) (W : World) (hb : BytesIn W A m) (hmc : m ≤ c) (hc : c ≤ 9223372036854775807) :
    Calls Try.prog 17 #[.slice A m c] W (DJPost W) := by
  go_enter Try.func17, Try.ntmps17
  go_wp2_with fail
  refine (open_any A m c W hb hmc hc).mono ?_
  rintro e w1 ⟨rfl, hr, hb1, -⟩
  go_wp2_with fail
  refine (pick_in W.heap.size 0 _ _ hr (by omega) (by omega)).mono ?_
  rintro e w2 ⟨x, rfl, a1, a2, hr2, hg2, -⟩
  have hb2 := bgrown hb1 hg2 (Nat.le_refl _)
  have hz := hb2.size
  clear hb1 hg2 hr
  go_wp2_with fail
  refine (l20Journal_any W.heap.size 1 x 2 _ hr2 (by omega) (by omega) (by omega)).mono ?_
  rintro e w3 ⟨A3, c3, l, rfl, hrow, hl, hnum, hg3, -⟩
  have hfin := Lib.hid (show DJPost W (.returned (.tuple #[.slice A3 l.length c3, .int .i64 x])) w3 from ⟨A3, c3, l, x, rfl, own_mono hrow hz, hl, a1, by omega, hnum, bgrown hb2 hg3 (Nat.le_refl _)⟩)
  clear hr2 hg3 hb2 hrow hnum
  go_wp2
  go_ret2
  exact hfin.out

def DCPost (W : World) (e : Ending) (w' : World) : Prop :=
  ∃ A c l, e = .returned (.slice A l.length c) ∧ RowR w' W.heap.size A c l ∧ l.length ≤ 41 ∧ (∀ r ∈ l, numOk r) ∧ Below W.heap.size W w'
theorem drawCN_any (A : Option Addr) (m c : Nat) (W : World) (hb : BytesIn W A m) (hmc : m ≤ c) (hc : c ≤ 9223372036854775807) :
    Calls Try.prog 25 #[.slice A m c] W (DCPost W) := by
  go_enter Try.func25, Try.ntmps25
  go_wp2_with fail
  refine (open_any A m c W hb hmc hc).mono ?_
  rintro e w1 ⟨rfl, hr, hb1, -⟩
  have hz := hb1.size
  go_wp2_with fail
  refine (l20Journal_any W.heap.size 0 12 9 _ hr (by omega) (by omega) (by omega)).mono ?_
  rintro e w3 ⟨A3, c3, l, rfl, hrow, hl, hnum, hg3, -⟩
  have hfin := Lib.hid (show DCPost W (.returned (.slice A3 l.length c3)) w3 from ⟨A3, c3, l, rfl, own_mono hrow hz, hl, hnum, bgrown hb1 hg3 (Nat.le_refl _)⟩)
  clear hr hg3 hb1 hrow hnum
  go_wp2
  go_ret
  exact hfin.out
end Go.Proofs.Ythghngphamimgaa
