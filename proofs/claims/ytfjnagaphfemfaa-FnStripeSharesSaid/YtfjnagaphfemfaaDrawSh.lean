/- The contract of DrawStripeShares: whatever the code, the numbers lie in their ranges. -/
import Derived.Test.YtfjnagaphfemfaaDrawS
import Derived.Test.YtfjnagaphfemfaaMem
import Derived.Deep.RegionWith
namespace Go.Proofs.Ytfjnagaphfemfaa
open Go.RowKit

theorem drawn_bd (a b : Int) (h1 : 0 ≤ a ∧ a < 100) (h2 : 0 ≤ b ∧ b < 14) :
    -1000 ≤ IntKind.i64.wrap (a - IntKind.i64.wrap (IntKind.i64.wrap (b.tdiv 13) * 200)) ∧ IntKind.i64.wrap (a - IntKind.i64.wrap (IntKind.i64.wrap (b.tdiv 13) * 200)) ≤ 1000 := by
  rw [IntWalk.i64_quo b 13 (by omega), IntWalk.i64_in (b / 13 * 200) (by omega), IntWalk.i64_in _ (by omega)]
  omega

set_option maxHeartbeats 16000000 in
theorem drawShares_any (A : Option Addr) (m c : Nat) (W : World) (hb : BytesIn W A m) (hmc : m ≤ c) (hc : c ≤ 9223372036854775807) :
    Calls Try.prog 28 #[.slice A m c] W (Draw4 W) := by
  go_enter Try.func28, Try.ntmps28
  go_wp2_with fail
  refine (open_any A m c W hb hmc hc).mono ?_
  rintro e w1 ⟨rfl, hr, hb1, hs1⟩
  go_wp2_with fail
  refine (shape_any W.heap.size 0 9 _ hr (by omega) (by omega)).mono ?_
  rintro e w2 ⟨d, k, rfl, d0, d1, k0, k1, hr2, hg2⟩
  have hb2 := bgrown hb1 hg2 (Nat.le_refl _)
  have m0 : w2.heap.size ≠ W.heap.size := by have := hr2.lt; omega
  have m1 : w2.heap.size + 1 ≠ W.heap.size := by have := hr2.lt; omega
  clear hr hb1 hs1 hg2 hb hmc hc
  go_wp2_with fail
  go_region_with (first
    | (go_at_call_of 37 (Value.int IntKind.i64 100)
       refine (pick_in W.heap.size (0 + 3) 100 _ (by first | assumption | exact RdAt.alloc (by assumption) _ | exact RdAt.alloc (RdAt.alloc (by assumption) _) _) (by omega) (by omega)).mono ?_
       rintro e w3 ⟨xa, rfl, xa0, xa1, hr3, hg3, hs3⟩
       have ka := fun i h => keepc (g := w2.heap.size) i hg3 h m0)
    | (go_at_call_of 37 (Value.int IntKind.i64 14)
       refine (pick_in W.heap.size (0 + 3 + 1) 14 _ (by first | assumption | exact RdAt.alloc (by assumption) _ | exact RdAt.alloc (RdAt.alloc (by assumption) _) _) (by omega) (by omega)).mono ?_
       rintro e w4 ⟨xb, rfl, xb0, xb1, hr4, hg4, hs4⟩
       have kb := fun i h => keepc (g := w2.heap.size) i hg4 h m0)
    | (go_at_call_of 37 (Value.int IntKind.i64 60)
       refine (pick_in W.heap.size (0 + 3 + 1 + 1) 60 _ (by first | assumption | exact RdAt.alloc (by assumption) _ | exact RdAt.alloc (RdAt.alloc (by assumption) _) _) (by omega) (by omega)).mono ?_
       rintro e w5 ⟨xc, rfl, xc0, xc1, hr5, hg5, hs5⟩
       have kc := fun i h => keepc (g := w2.heap.size) i hg5 h m0)
    | (go_at_call_of 37 (Value.int IntKind.i64 7)
       refine (pick_in W.heap.size (0 + 3 + 1 + 1 + 1) 7 _ (by first | assumption | exact RdAt.alloc (by assumption) _ | exact RdAt.alloc (RdAt.alloc (by assumption) _) _) (by omega) (by omega)).mono ?_
       rintro e w6 ⟨y, rfl, y0, y1, hr6, hg6, hs6⟩
       have kd := fun i h => keepc (g := w2.heap.size) i hg6 h m0
       have ke := fun i h => keepc (g := w2.heap.size + 1) i hg6 h m1
       obtain ⟨u, u0, u1, hu', hu⟩ := selq [0, 0, 0, 0, 1, 2, 3] 0 3 (by decide) y y0 y1
       obtain ⟨v, v0, v1, hv', hv⟩ := selq [xc, 200, -1, 201] (-1) 201 (by intro b hb; simp only [List.mem_cons, List.not_mem_nil, or_false] at hb; omega) u u0 (by simp only [List.length_cons, List.length_nil]; omega)
       simp only [List.map] at hu hv hu' hv'
       have u2 : u < 4 := by omega))
  all_goals
    obtain ⟨p1, p2⟩ := drawn_bd xa xb ⟨xa0, xa1⟩ ⟨xb0, xb1⟩
    go_wp2
    refine bodyPost_ret (results_tmp4 rfl _ _ _) rfl ?_
    exact ⟨_, _, _, _, rfl, by omega, by omega, by omega, by omega, by omega, by omega, by omega, by omega,
      by repeat' (first | assumption | refine b_drew ?_ | refine b_alloc ?_ _ | refine bgrown ?_ (by assumption) (by omega))⟩
end Go.Proofs.Ytfjnagaphfemfaa
