/- The state of the draw of requests. -/
import Derived.Test.YtpfbkmpjneclpaaReqX
import Derived.Test.YtpfbkmpjneclpaaAppR
import Derived.Test.YtpfbkmpjneclpaaRd
import Derived.Test.YtpfbkmpjneclpaaOwn
namespace Go.Proofs.Ytpfbkmpjneclpaa
open Go.RowKit
set_option linter.unusedVariables false

/-- The reader rb, the requests R drawn so far. -/
structure RqS (W : World) (rb Q : Nat) (D : Option Addr) (cp : Nat) (R : List Rq) (w : World) : Prop where
  rd : RdAt w rb Q
  own : w.ownsRow W.heap.size 62 3 (.slice D R.length cp) R.length (reqC R)
  gr : W.grownBy w (some rb)
  lt : rb < W.heap.size
section
variable {W w w' : World} {rb Q Q' cp : Nat} {D : Option Addr} {R : List Rq}
theorem RqS.pick (h : RqS W rb Q D cp R w) (hr : RdAt w' rb Q') (hg : w.grownBy w' (some rb)) : RqS W rb Q' D cp R w' :=
  ⟨hr, own_block h.own (fun g hq => hg.block g (h.own.lt g hq).2 (fun e => by injection e with e; have := (h.own.lt g hq).1; have := h.lt; omega)), gtrans h.gr hg, h.lt⟩
theorem RqS.alloc (h : RqS W rb Q D cp R w) (o : Obj) : RqS W rb Q D cp R (w.alloc o) := ⟨h.rd.alloc o, h.own.alloc o, galloc h.gr o, h.lt⟩
theorem RqS.app {A' : Option Addr} {c' m : Nat} {R' : List Rq} (h : RqS W rb Q D cp R w) (ho : w'.ownsRow W.heap.size 62 3 (.slice A' m c') m (reqC (R ++ R'))) (hm : m = (R ++ R').length)
    (hg : w.grownBy w' (Value.slice D R.length cp).ownBlock) : RqS W rb Q A' c' (R ++ R') w' := by
  subst hm
  refine ⟨h.rd.grown hg (fun k hk => by have := (h.own.lt k hk).1; have := h.lt; omega), ho, ?_, h.lt⟩
  exact ⟨hg.os.trans h.gr.os, hg.tape.trans h.gr.tape, hg.output.trans h.gr.output, Nat.le_trans h.gr.size hg.size, fun k hk hn' => (hg.block k (Nat.lt_of_lt_of_le hk h.gr.size) (fun e' => by have := (h.own.lt k e'.symm).1; omega)).trans (h.gr.block k hk hn')⟩
theorem RqS.apart {px : Nat} (h : RqS W rb Q D cp R w) (hp : w.heap.size ≤ px) : ∀ g, (Value.slice D R.length cp).ownBlock = some g → g ≠ px := fun g hg => by have := (h.own.lt g hg).2; omega
theorem RqS.far {px : Nat} (h : RqS W rb Q D cp R w) (hp : W.heap.size ≤ px) (ha : ∀ g, (Value.slice D R.length cp).ownBlock = some g → g ≠ px) (i : Nat) (u : Value) : RqS W rb Q D cp R (w.setCell ⟨px, i, none⟩ u) := by
  have hl := h.lt
  refine ⟨h.rd.setCell (a := ⟨px, i, none⟩) (by show rb < px; omega) _, own_far (p := ⟨px, i, none⟩) h.own (fun g hq => ha g hq) _, ?_, h.lt⟩
  have e := h.gr
  exact ⟨e.os, e.tape, e.output, by simpa using e.size, fun k hk hn => (Below.heap_setCell w ⟨px, i, none⟩ _ k (by show k ≠ px; omega)).trans (e.block k hk hn)⟩
end
end Go.Proofs.Ytpfbkmpjneclpaa
