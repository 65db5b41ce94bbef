/- The draw of a row and a number of disks. -/
import Derived.Test.YtfjnagaphfemfaaRd
namespace Go.Proofs.Ytfjnagaphfemfaa
open Go.RowKit

def DrawParityPost (W : World) (e : Ending) (w' : World) : Prop :=
  ∃ r d : Int, e = .returned (.tuple #[.int .i64 r, .int .i64 d]) ∧ -1 ≤ r ∧ r ≤ 17 ∧ 0 ≤ d ∧ d ≤ 8 ∧ Below W.heap.size W w'

theorem drawParity_any (A : Option Addr) (m c : Nat) (W : World) (hb : BytesIn W A m) (hmc : m ≤ c) (hc : c ≤ 9223372036854775807) :
    Calls Try.prog 24 #[.slice A m c] W (DrawParityPost W) := by
  go_enter Try.func24, Try.ntmps24
  go_wp2_with (first
    | (go_at_call 36; refine (open_any A m c W hb hmc hc).mono ?_; rintro e w1 ⟨rfl, hr, hb1, hs1⟩)
    | (go_at_call 37; refine (pick_in W.heap.size _ _ _ (by assumption) (by omega) (by omega)).mono ?_; rintro e w2 ⟨x, rfl, x0, x1, hr, hg, hs⟩))
  go_ret2
  exact ⟨_, _, rfl, by omega, by omega, by omega, by omega, by repeat' (first | assumption | refine bgrown ?_ (by assumption) (by omega))⟩
end Go.Proofs.Ytfjnagaphfemfaa
