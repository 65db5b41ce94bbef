/- Append inside a guarded operation of a region that draws its order, the source any slice that reads as a list of cells. -/
import Derived.Test.YtgdbchodlapdpaaAppR
import Derived.Test.YtgdbchodlapdpaaOwn
namespace Go.Proofs.Ytgdbchodlapdpaa
open Go.RowKit
set_option linter.unusedVariables false
section
variable {P : Program} (w : World)
theorem step_append_rg {ops : Array Oper} {o : Oper} {a : Act} {K : Act → World → Prop} {Q : Exit → Act → World → Prop} {E : Prop} (hw : Region.wanted o (yielded ops a.tmps) = true) (s x : Operand) (t : TypeId)
    (ho : o.op = .call { callee := .builtin .append, args := #[s, x], argTypes := #[t, t] })
    (base : Nat) (e : TypeId) (i : TypeInfo) (z : Value) (size bytes : Nat) (ht : P.underlying t = some (.slice e)) (hi : P.info? e = some i) (hz : i.zero = some z)
    (hsize : i.size = size) (hby : i.bytes = bytes) (hzs : z.cells.size = size) (hsz : 0 < size)
    (v : Value) (n : Nat) (xs : List Value) (hown : w.ownsRow base e size v n xs) (hs : a.eval s = v)
    (A : Option Addr) (m c : Nat) (news : List Value) (hr : ReadC w A news) (hx : a.eval x = .slice A m c) (hl : news.length = m * size) (h1 : ∀ u ∈ news, u.oneCell' = true)
    (h63 : n + m ≤ maxLen) (hbytes : (n + m) * bytes ≤ 140737488355328) (hbase : base ≤ w.heap.size)
    (h : ∀ v' w', w'.ownsRow base e size v' (n + m) (xs ++ news) → w.grownBy w' v.ownBlock → (v'.ownBlock = v.ownBlock ∨ v'.ownBlock = some w.heap.size) → K (a.put o.dst v') w') :
    if Region.wanted o (yielded ops a.tmps) = true then Oper.wp P o a w K Q else E := by
  rw [if_pos hw]
  exact wp_append_r w s x t ho base e i z size bytes ht hi hz hsize hby hzs hsz v n xs hown hs A m c news hr hx hl h1 h63 hbytes hbase h
end
/-- A slice that has been made reads behind an append as ahead of it. -/
theorem readc_grown {w w' : World} {g : Nat} {row : Option Nat} {xs : List Value} (h : ReadC w (some ⟨g, 0, none⟩) xs) (hg : w.grownBy w' row) (hne : row ≠ some g) : ReadC w' (some ⟨g, 0, none⟩) xs := by
  intro h0
  obtain ⟨b, off, e, hc⟩ := h h0
  injection e with e
  injection e with e1 e2
  subst e1 e2
  refine ⟨g, 0, rfl, fun i hi => ?_⟩
  have hci := hc i hi
  exact hg.cell hci (fun e => hne e.symm)
end Go.Proofs.Ytgdbchodlapdpaa
