/- Contracts of the draws of stripes: whatever the code, the numbers lie in their ranges. -/
import Derived.Test.YtfjnagaphfemfaaShape
import Derived.Deep.RegionWith
namespace Go.Proofs.Ytfjnagaphfemfaa
open Go.RowKit

def Draw3 (W : World) (e : Ending) (w' : World) : Prop :=
  ∃ a d c : Int, e = .returned (.tuple #[.int .i64 a, .int .i64 d, .int .i64 c]) ∧ -1000 ≤ a ∧ a ≤ 100000 ∧ 0 ≤ d ∧ d ≤ 7 ∧ 0 ≤ c ∧ c ≤ 17 ∧ Below W.heap.size W w'
def Draw4 (W : World) (e : Ending) (w' : World) : Prop :=
  ∃ k a d c : Int, e = .returned (.tuple #[.int .i64 k, .int .i64 a, .int .i64 d, .int .i64 c]) ∧ -1000 ≤ k ∧ k ≤ 1000 ∧ -1000 ≤ a ∧ a ≤ 100000 ∧ 0 ≤ d ∧ d ≤ 7 ∧ 0 ≤ c ∧ c ≤ 17 ∧ Below W.heap.size W w'

theorem results_tmp4 {fn : Func} {t u v x : Tmp} (h : fn.results = #[.tmp t, .tmp u, .tmp v, .tmp x]) (tmps : Array Value) (P : Program) (w : World) :
    (results fn tmps).run P w = .ok (.tuple #[tmps.getD t undef, tmps.getD u undef, tmps.getD v undef, tmps.getD x undef]) w := by simp [results, h]

theorem drawPlace_any (A : Option Addr) (m c : Nat) (W : World) (hb : BytesIn W A m) (hmc : m ≤ c) (hc : c ≤ 9223372036854775807) :
    Calls Try.prog 26 #[.slice A m c] W (Draw3 W) := by
  go_enter Try.func26, Try.ntmps26
  go_wp2_with fail
  refine (open_any A m c W hb hmc hc).mono ?_
  rintro e w1 ⟨rfl, hr, hb1, hs1⟩
  go_wp2_with fail
  refine (shape_any W.heap.size 0 9 _ hr (by omega) (by omega)).mono ?_
  rintro e w2 ⟨d, k, rfl, d0, d1, k0, k1, hr2, hg2⟩
  have hb2 := bgrown hb1 hg2 (Nat.le_refl _)
  clear hr hb1 hs1 hg2
  go_wp2_with fail
  refine (pick_in W.heap.size _ 256 _ hr2 (by omega) (by omega)).mono ?_
  rintro e w3 ⟨x, rfl, x0, x1, hr3, hg3, hs3⟩
  have hb3 := bgrown hb2 hg3 (Nat.le_refl _)
  have m0 : w3.heap.size ≠ W.heap.size := by have := hr3.lt; omega
  have m1 : w3.heap.size + 1 ≠ W.heap.size := by have := hr3.lt; omega
  clear hr2 hb2 hs3 hg3
  go_wp2_with fail
  refine (pick_in W.heap.size _ 6 _ (RdAt.alloc (RdAt.alloc hr3 _) _) (by omega) (by omega)).mono ?_
  rintro e w4 ⟨y, rfl, y0, y1, hr4, hg4, hs4⟩
  have q0 := keepr hg4 (heap_alloc2_old w3 _ _) m0
  have q1 := keepr hg4 (heap_alloc2_new w3 _ _) m1
  have hb4 := bgrown ((hb3.alloc hb3.size _).alloc (by have := hb3.size; simp; omega) _) hg4 (Nat.le_refl _)
  obtain ⟨u, u0, u1, hu', hu⟩ := selq [0, 0, 0, 0, 1, 2] 0 2 (by decide) y y0 y1
  obtain ⟨v, v0, v1, hv', hv⟩ := selq [x, 100000, -1] (-1) 100000 (by intro b hb; simp only [List.mem_cons, List.not_mem_nil, or_false] at hb; omega) u u0 (by simp only [List.length_cons, List.length_nil]; omega)
  simp only [List.map] at hu hv hu' hv'
  clear hs4 hg4 hr4 hr3 hb3
  go_wp2
  go_ret3
  exact ⟨_, _, _, rfl, by omega, by omega, by omega, by omega, by omega, by omega, hb4⟩

theorem drawSector_any (A : Option Addr) (m c : Nat) (W : World) (hb : BytesIn W A m) (hmc : m ≤ c) (hc : c ≤ 9223372036854775807) :
    Calls Try.prog 27 #[.slice A m c] W (Draw4 W) := by
  go_enter Try.func27, Try.ntmps27
  go_wp2_with fail
  refine (open_any A m c W hb hmc hc).mono ?_
  rintro e w1 ⟨rfl, hr, hb1, hs1⟩
  go_wp2_with fail
  refine (shape_any W.heap.size 0 9 _ hr (by omega) (by omega)).mono ?_
  rintro e w2 ⟨d, k, rfl, d0, d1, k0, k1, hr2, hg2⟩
  have hb2 := bgrown hb1 hg2 (Nat.le_refl _)
  clear hr hb1 hs1 hg2
  go_wp2_with (go_at_call 37; refine (pick_in W.heap.size _ _ _ (by assumption) (by omega) (by omega)).mono ?_; rintro e w3 ⟨x, rfl, x0, x1, hr, hg, hs⟩)
  refine bodyPost_ret (results_tmp4 rfl _ _ _) rfl ?_
  exact ⟨_, _, _, _, rfl, by omega, by omega, by omega, by omega, by omega, by omega, by omega, by omega, by repeat' (first | assumption | refine bgrown ?_ (by assumption) (by omega))⟩
end Go.Proofs.Ytfjnagaphfemfaa
