/- Slices of structs, opened at every index and every field (after the kit's page on structs); lists out of facts for every index. -/
import Derived.Test.YtpfbkmpjneclpaaOpen
import Derived.Test.YtpfbkmpjneclpaaMem
import Derived.Deep.Slices
import Derived.Deep.Fields
import Derived.ChangeSame
import Derived.Lib.SmallJoins
namespace Go.Proofs.Ytpfbkmpjneclpaa
open Go.ChangeShapes Go.WideShapes Go.ChangeAt Go.RowKit Go.Deep
set_option linter.unusedVariables false

theorem list_for {α : Type} {Q : Nat → α → Prop} (n : Nat) (h : ∀ i, i < n → ∃ p, Q i p) : ∃ l : List α, l.length = n ∧ ∀ i (hi : i < l.length), Q i l[i] := by
  induction n with
  | zero => exact ⟨[], rfl, fun i hi => absurd hi (by simp)⟩
  | succ n ih =>
    obtain ⟨l, hl, hq⟩ := ih (fun i hi => h i (by omega))
    obtain ⟨p, hp⟩ := h n (by omega)
    refine ⟨l ++ [p], by simp [hl], fun i hi => ?_⟩
    by_cases hlt : i < l.length
    · rw [List.getElem_append_left hlt]; exact hq i hlt
    · have : i = n := by simp at hi; omega
      subst this
      rw [List.getElem_append_right (by omega)]
      simpa [hl] using hp

theorem quiet_l {P : Program} {f : FuncId} {args : Array Value} {w : World} {v : Value} (h : Calls P f args w fun e w' => e = .returned v ∧ w = w') : Calls P f args w fun e w' => e = .returned v ∧ w' = w :=
  h.mono fun _ _ ⟨a, b⟩ => ⟨a, b.symm⟩

theorem add_flat (b off k : Nat) : (⟨b, off, none⟩ : Addr).add k = ⟨b, off + k, none⟩ := by
  unfold Addr.add; split <;> simp_all

section
variable {H : Type} {enc : TypeId × Value → H} {P : Program} {w : World} {base : Nat} {spare : Nat → Bool} {held : Bool}
/-- Each element's fields, at the slice's own address written out. -/
theorem open_fields {t e : TypeId} {fs : Array Field} {fuel : Nat} {A : Option Addr} {len cap : Nat} {x : DataW H × List MemPlace} (ht : P.underlying t = some (.slice e)) (he : P.underlying e = some (.struct fs))
    (hone : oneCellFields P fs = true) (hC : P.cellsOf e = fs.size) (h0 : 0 < fs.size) (h : DataW.trod enc P w base spare held fuel t [.slice A len cap] = some x) :
    len ≤ maxLen ∧ len ≤ cap ∧ cap ≤ maxLen ∧ (0 < len → ∃ b off, A = some ⟨b, off, none⟩ ∧ ∀ i, i < len → ∃ n : Nat, ∀ (j : Nat) (f : Field), fs[j]? = some f → ∃ (v : Value) (y : DataW H × List MemPlace), w.cell? ⟨b, off + i * fs.size + j, none⟩ = some v ∧ DataW.trod enc P w base spare held n f.type [v] = some y) := by
  rcases open_slice ht h with ⟨hcs, _⟩ | ⟨a, len', cap', m, n, D, Pl, hcs, hb, hl, hm, hmm, hx, hi⟩
  · simp at hcs
    obtain ⟨rfl, rfl, rfl⟩ := hcs
    exact ⟨by omega, by omega, by omega, fun h => absurd h (by omega)⟩
  · simp at hcs
    obtain ⟨rfl, rfl, rfl⟩ := hcs
    have hlm : len ≤ m := by rw [hmm]; split <;> omega
    refine ⟨by omega, by omega, by omega, fun hpos => ?_⟩
    have each : ∀ i, i < len → ∃ n : Nat, ∀ (j : Nat) (f : Field), fs[j]? = some f → ∃ (v : Value) (y : DataW H × List MemPlace), w.cell? (a.add (i * fs.size + j)) = some v ∧ DataW.trod enc P w base spare held n f.type [v] = some y := by
      intro i hil
      obtain ⟨cs', hc, ht'⟩ := hi i (by omega)
      rw [hC] at hc
      obtain ⟨ys, n', hn', hy, hlen, hyl, hf⟩ := DataW.trod_struct he ht'
      obtain ⟨_, hcl, hat⟩ := World.cells?_some hc
      refine ⟨n', fun j f hj => ?_⟩
      obtain ⟨ho, hk⟩ := hone_of hone j f hj
      have hjl : j < fs.size := (Array.getElem?_eq_some_iff.1 hj).1
      have hcell := hat j hjl
      have hv : cs'[j]? = some (cs'[j]'(by omega)) := List.getElem?_eq_getElem (by omega)
      have h1 := hf j f hj
      rw [ho, hk] at h1
      have hone' : (cs'.drop j).take 1 = [cs'[j]'(by omega)] := by
        rw [List.drop_eq_getElem_cons (by omega)]
        rfl
      rw [hone'] at h1
      have hys : ys[j]? = some (ys[j]'(by omega)) := List.getElem?_eq_getElem (by omega)
      refine ⟨_, _, ?_, h1.trans hys⟩
      rw [← Go.Deep.add_add, hcell, hv]
    obtain ⟨b, off, spot⟩ := a
    have hspot : spot = none := by
      obtain ⟨n, hn⟩ := each 0 hpos
      obtain ⟨v, y, hc, _⟩ := hn 0 fs[0] (Array.getElem?_eq_getElem h0)
      simpa [Addr.add] using World.cell?_spot hc
    subst hspot
    refine ⟨b, off, rfl, fun i hil => ?_⟩
    obtain ⟨n, hn⟩ := each i hil
    refine ⟨n, fun j f hj => ?_⟩
    obtain ⟨v, y, hc, ht'⟩ := hn j f hj
    exact ⟨v, y, by rw [← hc, add_flat, Nat.add_assoc], ht'⟩
/-- Each element's cell, where an element has one cell. -/
theorem open_ones {t e : TypeId} {fuel : Nat} {A : Option Addr} {len cap : Nat} {x : DataW H × List MemPlace} (ht : P.underlying t = some (.slice e)) (hC : P.cellsOf e = 1) (h : DataW.trod enc P w base spare held fuel t [.slice A len cap] = some x) :
    len ≤ maxLen ∧ len ≤ cap ∧ cap ≤ maxLen ∧ (0 < len → ∃ b off, A = some ⟨b, off, none⟩ ∧ ∀ i, i < len → ∃ (n : Nat) (v : Value) (y : DataW H × List MemPlace), w.cell? ⟨b, off + i, none⟩ = some v ∧ DataW.trod enc P w base spare held n e [v] = some y) := by
  rcases open_slice ht h with ⟨hcs, _⟩ | ⟨a, len', cap', m, n, D, Pl, hcs, hb, hl, hm, hmm, hx, hi⟩
  · simp at hcs
    obtain ⟨rfl, rfl, rfl⟩ := hcs
    exact ⟨by omega, by omega, by omega, fun h => absurd h (by omega)⟩
  · simp at hcs
    obtain ⟨rfl, rfl, rfl⟩ := hcs
    have hlm : len ≤ m := by rw [hmm]; split <;> omega
    refine ⟨by omega, by omega, by omega, fun hpos => ?_⟩
    have each : ∀ i, i < len → ∃ (v : Value) (y : DataW H × List MemPlace), w.cell? (a.add i) = some v ∧ DataW.trod enc P w base spare held n e [v] = some y := by
      intro i hil
      obtain ⟨cs', hc, ht'⟩ := hi i (by omega)
      rw [hC] at hc
      obtain ⟨_, hcl, hat⟩ := World.cells?_some hc
      have hcell := hat 0 (by omega)
      match cs', hcl with
      | [v], _ => exact ⟨v, _, by simpa [Addr.add] using hcell, ht'⟩
    obtain ⟨b, off, spot⟩ := a
    have hspot : spot = none := by
      obtain ⟨v, y, hc, _⟩ := each 0 hpos
      simpa [Addr.add] using World.cell?_spot hc
    subst hspot
    refine ⟨b, off, rfl, fun i hil => ?_⟩
    obtain ⟨v, y, hc, ht'⟩ := each i hil
    exact ⟨n, v, y, by rw [← hc, add_flat], ht'⟩
end

section
variable {H : Type} {enc : TypeId × Value → H} {w : World} {base : Nat} {spare : Nat → Bool} {held : Bool}
/-- A list of integers at a slot. -/
theorem cell_ints {fuel : Nat} {A : Option Addr} {n c : Nat} {x : DataW H × List MemPlace} (h : DataW.trod enc Try.prog w base spare held fuel 71 [.slice A n c] = some x) :
    ∃ l : List Int, n = l.length ∧ ReadC w A (l.map (Value.int .i64)) ∧ n ≤ c ∧ c ≤ 9223372036854775807 := by
  obtain ⟨_, hm, hm2, hf⟩ := open_ones Try.underlying71 (by kernel_rfl) h
  rcases Nat.eq_zero_or_pos n with rfl | hpos
  · exact ⟨[], rfl, ReadC.nil _ _, by omega, by simpa [maxLen] using hm2⟩
  · obtain ⟨b, off, rfl, hc⟩ := hf hpos
    obtain ⟨l, hll, hq⟩ := list_for (Q := fun i (q : Int) => w.cell? ⟨b, off + i, none⟩ = some (.int .i64 q)) n (fun i hi => by
      obtain ⟨m, v, y, h1, h2⟩ := hc i hi
      obtain ⟨z, e0, _, _⟩ := DataW.trod_int Try.underlying3 h2
      simp at e0
      exact ⟨z, e0 ▸ h1⟩)
    refine ⟨l, hll.symm, fun _ => ⟨b, off, rfl, fun i hi => ?_⟩, by omega, by simpa [maxLen] using hm2⟩
    rw [List.getElem_map]
    exact hq i (by simpa using hi)
theorem open_ints' {r : Reach} {b0 : Nat} {v : Value} {d : DataW H} {p : List MemPlace}
    (hv : Value.okWide Try.prog w r b0 71 v) (h : DataW.Trod enc Try.prog w base spare held 71 v d p) :
    ∃ a n c, ∃ l : List Int, v = .slice a n c ∧ (n = l.length ∧ ReadC w a (l.map (Value.int .i64)) ∧ n ≤ c ∧ c ≤ 9223372036854775807) := by
  obtain ⟨a0, len0, cap0, rfl⟩ := okWide_slice Try.underlying71 hv
  obtain ⟨fuel, hf⟩ := h
  obtain ⟨l, h1, h2, h3, h4⟩ := cell_ints (by simpa [Value.cells] using hf)
  exact ⟨_, _, _, l, rfl, h1, h2, h3, h4⟩
end
end Go.Proofs.Ytpfbkmpjneclpaa
