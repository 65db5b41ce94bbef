/- slices.Delete over snapshots, from the shelf: one snapshot less. -/
import Derived.Test.YtkjjieofoolnhaaVolG
import Derived.Shelf.SlicesE.Delete
import Derived.Ground.SlgnProg
namespace Go.Proofs.Ytkjjieofoolnhaa
open Go.Shelf Go.RowKit
set_option linter.unusedVariables false

def dlSS_ren : Go.Shelf.Ren := ⟨fun | 45 => 55 | n => n, fun | 22 => 27 | 23 => 45 | 3 => 3 | 4 => 4 | 0 => 0 | n => n, fun | n => n⟩
theorem dlSS : Go.Proofs.SlLaysE.n45 Try.prog dlSS_ren := {
  mixed := by kernel_rfl
  f45 := ⟨Try.f55.name, by decide, Try.func55.trans (congrArg some (by kernel_rfl))⟩
  t0 := Try.underlying0
  a0 := Try.isAgg0
  z0 := Try.sizeOf0
  v0 := Try.zeroValue0
  t3 := Try.underlying3
  a3 := Try.isAgg3
  z3 := Try.sizeOf3
  v3 := Try.zeroValue3
  t4 := Try.underlying4
  a4 := Try.isAgg4
  z4 := Try.sizeOf4
  v4 := Try.zeroValue4
  t22 := Try.underlying27
  a22 := Try.isAgg27
  z22 := Try.sizeOf27
  v22 := Try.zeroValue27
  a23 := Try.isAgg45
  z23 := Try.sizeOf45 }
/-- A header in three words. -/
abbrev Hd := Option Addr × Nat × Nat
def hdV (t : Hd) : Value := .slice t.1 t.2.1 t.2.2

section
variable {α : Type} {C : List α → List Value} {TT T : TypeId} {sz lo hi g0 c n : Nat} {w w' : World} {L : List (List α)}
theorem HdrsO.mem {hs : List Value} {a : Value} {g : Nat} (hH : HdrsO C T sz lo hi w hs L) (ha : a ∈ hs) (hg : a.ownBlock = some g) : lo ≤ g ∧ g < w.heap.size ∧ g < hi := by
  obtain ⟨b1, b2, _⟩ := hH
  obtain ⟨i, hi'⟩ := List.mem_iff_getElem?.1 ha
  have hil : i < L.length := by rw [← b1]; exact (List.getElem?_eq_some_iff.1 hi').1
  obtain ⟨Ai, ci, x, y, z⟩ := b2 i hil
  have e : a = .slice Ai L[i].length ci := Option.some.inj (hi'.symm.trans x)
  subst e
  exact ⟨(y.lt g hg).1, (y.lt g hg).2, z g hg⟩
/-- Row n taken out; the outer row lies where it lay or elsewhere. -/
theorem HdrsO.erase {hs : List Value} {A' : Option Addr} {c' hi' : Nat} (hH : HdrsO C T sz lo hi w hs L) (hn : n < L.length) (ho : w'.ownsRow lo TT 1 (.slice A' (L.length - 1) c') (L.length - 1) (hs.eraseIdx n))
    (h2 : ∀ g, (Value.slice A' (L.length - 1) c').ownBlock = some g → g < hi') (h4 : ∀ a ∈ hs, Apart (.slice A' (L.length - 1) c') a) (hh : hi ≤ hi') (hk : ∀ a ∈ hs, ∀ g, a.ownBlock = some g → w'.heap[g]? = w.heap[g]?) :
    RowsO C TT T sz lo hi' w' (.slice A' (L.eraseIdx n).length c') (L.eraseIdx n) := by
  obtain ⟨b1, b2, b3⟩ := hH
  have hl : (L.eraseIdx n).length = L.length - 1 := List.length_eraseIdx_of_lt hn
  have hix : ∀ i, ∃ j, (hs.eraseIdx n)[i]? = hs[j]? ∧ (L.eraseIdx n)[i]? = L[j]? ∧ j = if i < n then i else i + 1 := by
    intro i
    refine ⟨if i < n then i else i + 1, ?_, ?_, rfl⟩ <;> rw [List.getElem?_eraseIdx] <;> split <;> rfl
  refine ⟨A', c', hs.eraseIdx n, by rw [hl], by rw [hl]; exact ho, fun g hg => h2 g (by rw [hl] at hg; exact hg), ⟨by rw [List.length_eraseIdx_of_lt (by omega), hl, b1], fun i hi' => ?_, fun i j a b hne ha hb => ?_⟩, fun a ha => ?_⟩
  · obtain ⟨j, e1, e2, _⟩ := hix i
    rw [List.getElem?_eq_getElem hi'] at e2
    have hj : j < L.length := (List.getElem?_eq_some_iff.1 e2.symm).1
    rw [List.getElem?_eq_getElem hj] at e2
    injection e2 with e2
    obtain ⟨Aj, cj, x, y, z⟩ := b2 j hj
    rw [e2, e1]
    exact ⟨Aj, cj, x, own_block y (fun g hg => hk _ (List.mem_of_getElem? x) g hg), fun g hg => Nat.lt_of_lt_of_le (z g hg) hh⟩
  · obtain ⟨i', ei, _, hi'⟩ := hix i
    obtain ⟨j', ej, _, hj'⟩ := hix j
    refine b3 i' j' a b (fun e => hne ?_) (ei ▸ ha) (ej ▸ hb)
    rw [hi', hj'] at e
    split at e <;> split at e <;> omega
  · rw [hl]
    exact h4 a (List.mem_of_mem_eraseIdx ha)
end

def DelSS (lo hi g0 d n : Nat) (S : List (List Sv)) (W : World) (e : Ending) (w' : World) : Prop :=
  e = .returned (.slice (some ⟨g0, 0, none⟩) (S.length - 1) d) ∧ RowsS lo hi w' (.slice (some ⟨g0, 0, none⟩) (S.eraseIdx n).length d) (S.eraseIdx n) ∧ Turn g0 (g0 + 1) W w'
theorem delSS_any (lo hi g0 d n : Nat) (S : List (List Sv)) (w : World) (h : RowsS lo hi w (.slice (some ⟨g0, 0, none⟩) S.length d) S) (hn : n < S.length) :
    Calls Try.prog 55 #[.slice (some ⟨g0, 0, none⟩) S.length d, .int .i64 n, .int .i64 ((n : Int) + 1)] w (DelSS lo hi g0 d n S w) := by
  obtain ⟨i1, hi1, hy0, hy1, hy2⟩ := info_parts info_rowS
  obtain ⟨A', c', hs, e, h1, h2, hH, h4⟩ := h
  injection e with e1 _ e3
  subst e1 e3
  obtain ⟨hq1, hq2⟩ := own_cap h1
  obtain ⟨ts, hts, htq⟩ := list_for (Q := fun i (t : Hd) => hs[i]? = some (hdV t)) S.length (fun i hi' => by
    obtain ⟨Ai, ci, x, _⟩ := hH.2.1 i hi'
    exact ⟨(Ai, S[i].length, ci), x⟩)
  have hmap : hs = ts.map hdV := by
    apply List.ext_getElem?
    intro i
    by_cases hi' : i < ts.length
    · rw [htq i hi', List.getElem?_map, List.getElem?_eq_getElem hi']; rfl
    · rw [List.getElem?_eq_none (by rw [hH.1]; omega), List.getElem?_eq_none (by rw [List.length_map]; omega)]
  obtain ⟨_, hB⟩ := h1
  rcases hB with ⟨hv, h0⟩ | ⟨gg, cap, cur, hv, hlo, hh, k1, k2, k3, k4⟩
  · omega
  · injection hv with hv _ hv3
    injection hv with hv
    injection hv with hv _
    subst hv hv3
    have hsl : hs.length = S.length := hH.1
    rw [Nat.mul_one] at k3 k4
    have hold : Sort.Holds hdV w g0 0 ts.toArray := by
      intro j hj
      have hj' : j < ts.length := by simpa using hj
      refine ⟨?_, frozen_of_row _ _ _ _ _ hh⟩
      rw [Nat.zero_add, cell_of_row _ _ _ _ _ _ hh]
      have h5 : (cur.toList.take S.length)[j]? = hs[j]? := by rw [k4]
      rw [List.getElem?_take, if_pos (by omega), htq j hj'] at h5
      rw [getElem!_pos _ j hj]
      simpa using h5
    have hcall := AnyE.slices_Delete dlSS hdV (fun _ => rfl) (Option.none, 0, 0) Try.zeroValue45 i1 hi1 hy1 g0 0 d n (n + 1) ts.toArray w hold (by simp; omega) (by simpa [maxLen] using k2) (by omega) (by simp; omega)
    have e5 : ts.toArray.size = S.length := by simpa using hts
    rw [e5] at hcall
    have e6 : (((n + 1 : Nat) : Int)) = (n : Int) + 1 := by omega
    rw [e6] at hcall
    have hren : dlSS_ren.f 45 = 55 := rfl
    rw [hren] at hcall
    refine Calls.mono hcall ?_
    rintro e w' ⟨rfl, q, rfl⟩
    have e7 : n + 1 - n = 1 := by omega
    rw [e7]
    obtain ⟨ds, hds⟩ : ∃ ds, ds = ts.toArray.toList.take n ++ ts.toArray.toList.drop (n + 1) ++ List.replicate 1 ((Option.none, 0, 0) : Hd) := ⟨_, rfl⟩
    rw [← hds]
    have hds1 : ds = ts.eraseIdx n ++ [(Option.none, 0, 0)] := by rw [hds, List.eraseIdx_eq_take_drop_succ]; simp
    have hdl : ds.length = S.length := by rw [hds1, List.length_append, List.length_eraseIdx_of_lt (by omega)]; simp; omega
    have hblk : (Sort.putRow hdV (Sort.ahead w q) g0 0 ds.toArray).heap[g0]? = some (.cells (Sort.putCells hdV 0 ds.toArray cur) 45 (0, 0)) := by
      simp only [Sort.putRow, Sort.mapBlock, Array.getElem?_modify, if_true]
      rw [show (Sort.ahead w q).heap = w.heap from rfl, hh]
      rfl
    have hoth : ∀ k, k < w.heap.size → k ≠ g0 → (Sort.putRow hdV (Sort.ahead w q) g0 0 ds.toArray).heap[k]? = w.heap[k]? := by
      intro k _ hne
      simp only [Sort.putRow, Sort.mapBlock, Array.getElem?_modify, if_neg (fun e => hne (e.symm) : ¬ g0 = k)]
      rfl
    have hme : hs.eraseIdx n = (ts.eraseIdx n).map hdV := by rw [hmap]; simp only [List.eraseIdx_eq_take_drop_succ, List.map_append, List.map_take, List.map_drop]
    have hown : (Sort.putRow hdV (Sort.ahead w q) g0 0 ds.toArray).ownsRow lo 45 1 (.slice (some ⟨g0, 0, none⟩) (S.length - 1) d) (S.length - 1) (hs.eraseIdx n) := by
      have hel : (hs.eraseIdx n).length = S.length - 1 := by rw [List.length_eraseIdx_of_lt (by omega), hsl]
      refine ⟨by rw [hel]; omega, .inr ⟨g0, d, _, rfl, hlo, hblk, by omega, k2, by simp [Sort.putCells, k3], ?_⟩⟩
      rw [Nat.mul_one]
      apply List.ext_getElem?
      intro k
      rw [List.getElem?_take]
      by_cases hk : k < S.length - 1
      · rw [if_pos hk]
        have hkc : k < cur.size := by omega
        have hlt : k < (ts.eraseIdx n).length := by rw [List.length_eraseIdx_of_lt (by omega)]; omega
        have h7 : ds.toArray[k]! = (ts.eraseIdx n)[k] := by
          rw [getElem!_pos _ k (by simp; omega), List.getElem_toArray]
          simp only [hds1]
          exact List.getElem_append_left hlt
        have h6 : (hs.eraseIdx n)[k]? = some (hdV (ds.toArray[k]!)) := by
          rw [hme, List.getElem?_map, List.getElem?_eq_getElem hlt, h7]
          rfl
        rw [h6]
        simp only [Sort.putCells, Array.getElem?_toList, Array.getElem?_mapIdx, Array.getElem?_eq_getElem hkc, Option.map_some]
        rw [if_pos ⟨by omega, by simp; omega⟩]
        rfl
      · rw [if_neg hk, List.getElem?_eq_none (by omega)]
    refine ⟨rfl, hH.erase (C := savC) (w' := Sort.putRow hdV (Sort.ahead w q) g0 0 ds.toArray) (n := n) hn hown (fun g hg => h2 g (by simpa [Value.ownBlock] using hg)) (fun a ha g hg => h4 a ha g (by simpa [Value.ownBlock] using hg)) (Nat.le_refl _) (fun a ha g hg => hoth g (hH.mem ha hg).2.1 (fun e => h4 _ ha g0 rfl (e ▸ hg))), ⟨rfl, rfl, rfl, by simp [Sort.ahead], fun k hk hne => hoth k hk (fun e => hne (by omega))⟩⟩
end Go.Proofs.Ytkjjieofoolnhaa
