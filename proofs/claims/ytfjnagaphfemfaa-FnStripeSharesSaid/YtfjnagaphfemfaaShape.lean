/- The draw of numbers of disks and of sectors of a chunk: both lie in their ranges. -/
import Derived.Test.YtfjnagaphfemfaaRd
import Derived.Deep.RegionHeld3
import Derived.Deep.RegionWith
namespace Go.Proofs.Ytfjnagaphfemfaa
open Go.RowKit

def ShapePost (rb P : Nat) (W : World) (e : Ending) (w' : World) : Prop :=
  ∃ d c : Int, e = .returned (.tuple #[.int .i64 d, .int .i64 c]) ∧ 0 ≤ d ∧ d ≤ 7 ∧ 0 ≤ c ∧ c ≤ 17 ∧ RdAt w' rb (P + 3) ∧ W.grownBy w' (some rb)

set_option maxHeartbeats 8000000 in
theorem shape_any (rb P : Nat) (n : Int) (W : World) (h : RdAt W rb P) (hP : P ≤ 100000000000) (hn : 0 ≤ n ∧ n ≤ 1000) :
    Calls Try.prog 39 #[.pointer (some ⟨rb, 0, none⟩), .int .i64 n] W (ShapePost rb P W) := by
  go_enter Try.func39, Try.ntmps39
  go_wp2_with (first
    | (go_at_call 41; refine (odd_any rb P n _ h (by omega) (by omega)).mono ?_; rintro e w1 ⟨x, rfl, hr, hg, hs⟩; have hlt1 := hr.lt; clear h hs)
    | (go_at_call 37; refine (pick_in rb _ _ _ (by assumption) (by omega) (by omega)).mono ?_; rintro e w1 ⟨x, rfl, x0, x1, hr, hg, hs⟩))
  · have m0 : w1.heap.size ≠ rb := by omega
    have m1 : w1.heap.size + 1 ≠ rb := by omega
    go_region_with (first
      | (go_at_call 37; first
          | refine (pick_in rb (P + 1) _ _ (by first | assumption | exact RdAt.alloc (by assumption) _ | exact RdAt.alloc (RdAt.alloc (by assumption) _) _) (by omega) (by omega)).mono ?_
          | refine (pick_in rb (P + 1 + 1) _ _ (by first | assumption | exact RdAt.alloc (by assumption) _ | exact RdAt.alloc (RdAt.alloc (by assumption) _) _) (by omega) (by omega)).mono ?_
         rintro e w2 ⟨x, rfl, x0, x1, hr2, hg2, hs2⟩
         have k0 := fun i h => keepc (g := w1.heap.size) i hg2 h m0
         have k1 := fun i h => keepc (g := w1.heap.size + 1) i hg2 h m1
         obtain ⟨u, u0, u1, hu⟩ := sel [0, 7, 2] 0 7 (by decide) x x0 x1
         obtain ⟨v, v0, v1, hv⟩ := sel [0, 17, 2] 0 17 (by decide) x x0 x1
         simp only [List.map] at hu hv))
    all_goals
      go_wp2
      go_ret2
      exact ⟨_, _, rfl, by omega, by omega, by omega, by omega,
        by first | assumption | exact RdAt.alloc (by assumption) _ | exact RdAt.alloc (RdAt.alloc (by assumption) _) _,
        by repeat' (first | assumption | (with_reducible exact World.grownBy.refl _ _) | refine gdrew ?_ | refine galloc ?_ _ | refine gtrans ?_ (by assumption))⟩
  · go_ret2
    exact ⟨_, _, rfl, by omega, by omega, by omega, by omega, by assumption,
      by repeat' (first | assumption | (with_reducible exact World.grownBy.refl _ _) | refine gtrans ?_ (by assumption))⟩
end Go.Proofs.Ytfjnagaphfemfaa
