/- New late volumes: plain facts, and the draw of two numbers. -/
import Derived.Test.YtjkbooflbfnbiaaThinN
import Derived.Test.YtjkbooflbfnbiaaThinF
import Derived.Test.YtjkbooflbfnbiaaRd
namespace Go.Proofs.Ytjkbooflbfnbiaa
open Go.RowKit
set_option linter.unusedVariables false

theorem all_rep (n : Nat) (v lo hi : Int) (h : lo ≤ v ∧ v ≤ hi) : allB (List.replicate n v) lo hi = true := by
  unfold allB
  rw [List.all_eq_true]
  intro x hx
  rw [(List.mem_replicate.1 hx).2]
  exact inB_iff.2 h
theorem new_valid (N M : Nat) (hN : N ≤ 64) (hM : M ≤ 64) : thinB (List.replicate N (-1)) (List.replicate M 0) = true := by
  have h1 : oneB (List.replicate N (-1)) = true := by
    unfold oneB
    rw [decide_eq_true_iff]
    intro i hi h0
    rw [List.getD_eq_getElem?_getD, List.getElem?_eq_getElem hi, List.getElem_replicate] at h0
    exact absurd h0 (by simp)
  unfold thinB diskB
  rw [h1, all_rep N (-1) _ _ (by simp; omega), all_rep M 0 _ _ (by omega)]
  simp
  omega
theorem new_view (N M : Nat) (hN : N ≤ 64) (hM : M ≤ 64) : viewV (List.replicate N (-1)) (List.replicate M 0) = List.replicate N 0 := by
  rw [viewV, if_pos (new_valid N M hN hM), viewL, List.map_replicate]
  rfl
theorem new_free (N M : Nat) (hN : N ≤ 64) (hM : M ≤ 64) : freeV (List.replicate N (-1)) (List.replicate M 0) = M := by
  rw [freeV, if_pos (new_valid N M hN hM)]
  simp [usedN]

def DNPost (W : World) (e : Ending) (w' : World) : Prop :=
  ∃ n p : Int, e = .returned (.tuple #[.int .i64 n, .int .i64 p]) ∧ -1000 ≤ n ∧ n ≤ 1000 ∧ -1000 ≤ p ∧ p ≤ 1000 ∧ Below W.heap.size W w'

theorem drawNew_any (A : Option Addr) (m c : Nat) (W : World) (hb : BytesIn W A m) (hmc : m ≤ c) (hc : c ≤ 9223372036854775807) :
    Calls Try.prog 30 #[.slice A m c] W (DNPost W) := by
  go_enter Try.func30, Try.ntmps30
  go_wp2_with fail
  refine (open_any A m c W hb hmc hc).mono ?_
  rintro e w1 ⟨rfl, hr, hb1, hs1⟩
  go_wp2_with fail
  refine (pick_in W.heap.size 0 _ _ hr (by omega) (by omega)).mono ?_
  rintro e w2 ⟨x1, rfl, a1, a2, hr2, hg2, _⟩
  have hb2 := bgrown hb1 hg2 (Nat.le_refl _)
  clear hb1 hg2 hr
  go_wp2_with fail
  refine (pick_in W.heap.size 1 _ _ hr2 (by omega) (by omega)).mono ?_
  rintro e w3 ⟨x2, rfl, c1, c2, hr3, hg3, _⟩
  have hb3 := bgrown hb2 hg3 (Nat.le_refl _)
  clear hb2 hg3 hr2
  go_wp2_with fail
  refine (pick_in W.heap.size 2 _ _ hr3 (by omega) (by omega)).mono ?_
  rintro e w4 ⟨x3, rfl, d1, d2, hr4, hg4, _⟩
  have hb4 := bgrown hb3 hg4 (Nat.le_refl _)
  clear hb3 hg4 hr3
  go_wp2_with fail
  refine (pick_in W.heap.size 3 _ _ hr4 (by omega) (by omega)).mono ?_
  rintro e w5 ⟨x4, rfl, e1, e2, hr5, hg5, _⟩
  have hb5 := bgrown hb4 hg5 (Nat.le_refl _)
  clear hb4 hg5 hr4
  have y1 : 0 ≤ x2 / 8 ∧ x2 / 8 ≤ 1 := by omega
  have y2 : 0 ≤ x4 / 8 ∧ x4 / 8 ≤ 1 := by omega
  go_wp2
  go_ret2
  exact ⟨_, _, rfl, by omega, by omega, by omega, by omega, hb5⟩

theorem zeros_in (w : World) (n : Nat) (hn : n ≤ 64) : IntsIn (w.alloc (.cells (madeCells #[Value.int .i64 0] n) 3)) (some ⟨w.heap.size, 0, none⟩) (List.replicate n 0) :=
  IntsIn.of (own_read (zeros_row (base := w.heap.size) w n (by simp only [maxLen]; omega) (Nat.le_refl _)))
theorem zeros_drew (w : World) (n : Nat) (hn : n ≤ 64) : IntsIn (w.alloc (.cells (madeCells #[Value.int .i64 0] n) 3)).drew (some ⟨w.heap.size, 0, none⟩) (List.replicate n 0) := zeros_in w n hn
def ZerosPost (n : Nat) (W : World) (e : Ending) (w' : World) : Prop := ∃ A c, e = .returned (.slice A n c) ∧ IntsIn w' A (List.replicate n 0) ∧ Below W.heap.size W w'
theorem newView_any (v : Value) (N M : Nat) (w : World) (h : ThinR w v (List.replicate N (-1)) (List.replicate M 0)) (hN : N ≤ 64) (hM : M ≤ 64) :
    Calls Try.prog 24 #[v] w (ZerosPost N w) := by
  have h1 := implView_any v _ _ w h (by simp; omega) (by simp; omega)
  rw [new_view N M hN hM] at h1
  refine h1.mono ?_
  rintro e w' ⟨A, c, rfl, o, b⟩
  exact ⟨A, c, by rw [List.length_replicate], IntsIn.of (own_read o), b⟩
theorem newFree_any (v : Value) (N M : Nat) (w : World) (h : ThinR w v (List.replicate N (-1)) (List.replicate M 0)) (hN : N ≤ 64) (hM : M ≤ 64) :
    Calls Try.prog 22 #[v] w fun e w' => e = .returned (.int .i64 M) ∧ Below w.heap.size w w' := by
  have h1 := implFree_any v _ _ w h (by simp; omega) (by simp; omega)
  refine h1.mono ?_
  rintro e w' ⟨rfl, b⟩
  exact ⟨by rw [new_free N M hN hM], b⟩
end Go.Proofs.Ytjkbooflbfnbiaa
