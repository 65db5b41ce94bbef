/- The contract of slices.Clone at []int: a copy in new memory. -/
import Derived.Test.YthghngphamimgaaMem
import Derived.WalkSpells
namespace Go.Proofs.Ythghngphamimgaa
open Go.RowKit
set_option linter.unusedVariables false

theorem rowinfo_ints : (Try.prog.info? 3).map (fun i => (i.zero, i.size, i.bytes)) = some (some (.int .i64 0), 1, 8) := by kernel_rfl

def Clone_ints (n : Nat) (xs : List Value) (W : World) (e : Ending) (w' : World) : Prop :=
  ∃ v, e = .returned v ∧ w'.ownsRow W.heap.size 3 1 v n xs ∧ Below W.heap.size W w'

theorem clone_ints (A : Option Addr) (n c : Nat) (xs : List Value) (w : World) (h : ReadC w A xs) (hl : xs.length = n * 1) (h1 : ∀ u ∈ xs, u.oneCell' = true) (hn : n ≤ 1000000000000) :
    Calls Try.prog 50 #[.slice A n c] w (Clone_ints n xs w) := by
  have hq := fun (A : Option Addr) (n c : Nat) (w : World) => Lib.run_eql_slice_nil (P := Try.prog) w 36 3 A n c 0 0 Try.underlying36
  cases A with
  | none =>
    have hx : xs = [] := by
      cases xs with
      | nil => rfl
      | cons x r => obtain ⟨b, off, e, _⟩ := h (by simp); cases e
    subst hx
    have hn0 : n = 0 := by simp at hl; omega
    subst hn0
    have hfin := Lib.hid (show Clone_ints 0 [] w (.returned (.slice none 0 0)) w from ⟨_, rfl, World.ownsRow_nil _ _ _ _, Below.refl _ _⟩)
    go_enter Try.func50, Try.ntmps50
    go_wp2
    go_ret
    exact hfin.out
  | some ad =>
    obtain ⟨i0, hi0, hz0, hz1, hz2⟩ := info_parts rowinfo_ints
    have hlit := Lib.hid (World.ownsRow_lit (e := 3) (size := 1) (base := w.heap.size) w #[] 0 (Nat.le_refl _) (by simp [maxLen]) (by simp))
    have hcells : ∀ j u, xs[j]? = some u → (w.alloc (.cells #[] 3)).cell? (ad.add j) = some u := by
      intro j u hu
      obtain ⟨b, off, e, hc⟩ := h (by rcases Nat.eq_zero_or_pos xs.length with h0 | h0; · rw [List.eq_nil_of_length_eq_zero h0] at hu; simp at hu
                                      · exact h0)
      obtain rfl : ad = ⟨b, off, none⟩ := by injection e
      obtain ⟨hj, hju⟩ := List.getElem?_eq_some_iff.1 hu
      have hcj := hc j hj
      rw [hju] at hcj
      have : (⟨b, off, none⟩ : Addr).add j = ⟨b, off + j, none⟩ := by unfold Addr.add; split <;> simp_all
      rw [this, World.cell?_alloc_lt _ _ _ (block_lt_of_cell hcj)]
      exact hcj
    have HC := Lib.hid hcells
    have HL := Lib.hid hl
    clear hcells h hl
    go_enter Try.func50, Try.ntmps50
    go_wp2_with (at_builtin; refine wpList_append_own _ rfl (.tmp 5) (.tmp 6) 36 rfl w.heap.size 3 i0 (.int .i64 0) 1 8 Try.underlying36 hi0 hz0 hz1 hz2 rfl (by decide) _ 0 [] rfl hlit.out ad n c xs rfl HL.out HC.out h1 (by simp only [maxLen]; omega) (by omega) (by simp) ?_; intro v1 w1 hown1 hg1 hnil1)
    have hb1 : Below w.heap.size w w1 := (b_alloc (Below.refl w.heap.size w) (.cells #[] 3)).grown hg1 (by simp) (fun k hk => by have hk' : some w.heap.size = some k := hk; injection hk' with hk'; omega)
    go_ret
    exact ⟨_, rfl, by simpa using hown1, hb1⟩
end Go.Proofs.Ythghngphamimgaa
