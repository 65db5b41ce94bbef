/- The draw of late volumes: the state behind its loop. -/
import Derived.Test.YtjkbooflbfnbiaaDrT
namespace Go.Proofs.Ytjkbooflbfnbiaa
open Go.RowKit
set_option linter.unusedVariables false
theorem read_new (w : World) (cs : Array Value) (t : TypeId) (xs : List Value) (h : cs.toList = xs) : ReadC (w.alloc (.cells cs t)) (some ⟨w.heap.size, 0, none⟩) xs := by
  subst h
  intro _
  refine ⟨_, 0, rfl, fun i hi => ?_⟩
  rw [Nat.zero_add, World.cell?_alloc_mark]
  simp at hi ⊢
section
variable {W w w' : World} {rb Q Q' gx c d : Nat} {A B : Option Addr} {Wl Pl : List Int}
theorem TSt.res (h : TSt W rb Q gx A c B d Wl Pl w) : Blk w W.heap.size 27 #[.slice none 0 0, .slice none 0 0] := h.2.2.1
/-- Behind the loop: the box holds two slices of the call's own, neither in the box's own block. -/
def TFin (W : World) (rb gx : Nat) (A : Option Addr) (n c : Nat) (B : Option Addr) (m d : Nat) (Wl Pl : List Int) (w : World) : Prop :=
  w.ownsRow (W.heap.size + 1) 3 1 (.slice A n c) n (Wl.map (Value.int .i64)) ∧ w.ownsRow (W.heap.size + 1) 3 1 (.slice B m d) m (Pl.map (Value.int .i64)) ∧ Apart (.slice A n c) (.slice B m d) ∧
    (∀ g, (Value.slice A n c).ownBlock = some g → g ≠ gx) ∧ (∀ g, (Value.slice B m d).ownBlock = some g → g ≠ gx) ∧ Blk w gx 27 #[.slice A n c, .slice B m d] ∧
    Blk w W.heap.size 27 #[.slice none 0 0, .slice none 0 0] ∧ W.grownBy w (some rb) ∧ rb < W.heap.size ∧ W.heap.size < gx
theorem TSt.tfin (h : TSt W rb Q gx A c B d Wl Pl w) : TFin W rb gx A Wl.length c B Pl.length d Wl Pl w := by
  obtain ⟨⟨lo, hi, ⟨A', c', B', d', e, h1, h2, h3, h4, h5⟩, q1, q2⟩, a, b, _, g, l1, l2⟩ := h
  injection e with e
  injection e with e
  injection e with e1 e
  injection e with e2 e
  cases e1
  cases e2
  exact ⟨own_mono h1 q1, own_mono h2 q1, h3, fun g hg => by have := h4 g hg; have := (h1.lt g hg).1; omega, fun g hg => by have := h5 g hg; have := (h2.lt g hg).1; omega, a, b, g, l1, l2⟩
theorem TFin.alloc {n m : Nat} (h : TFin W rb gx A n c B m d Wl Pl w) (o : Obj) : TFin W rb gx A n c B m d Wl Pl (w.alloc o) := by
  obtain ⟨h1, h2, h3, h4, h5, a, b, g, l1, l2⟩ := h
  exact ⟨h1.alloc o, h2.alloc o, h3, h4, h5, a.alloc o, b.alloc o, galloc g o, l1, l2⟩
theorem TFin.pick {n m : Nat} (h : TFin W rb gx A n c B m d Wl Pl w) (hg : w.grownBy w' (some rb)) : TFin W rb gx A n c B m d Wl Pl w' := by
  obtain ⟨h1, h2, h3, h4, h5, a, b, g, l1, l2⟩ := h
  exact ⟨own_block h1 (fun g hq => hg.block g (h1.lt g hq).2 (fun e => by injection e with e; have := (h1.lt g hq).1; omega)), own_block h2 (fun g hq => hg.block g (h2.lt g hq).2 (fun e => by injection e with e; have := (h2.lt g hq).1; omega)), h3, h4, h5,
    blk_grown hg a (by intro e; injection e with e; omega), blk_grown hg b (by intro e; injection e with e; omega), gtrans g hg, l1, l2⟩
theorem grown_row {row : Option Nat} (g : W.grownBy w (some rb)) (hg : w.grownBy w' row) (hr : ∀ k, row = some k → W.heap.size ≤ k) : W.grownBy w' (some rb) :=
  ⟨hg.os.trans g.os, hg.tape.trans g.tape, hg.output.trans g.output, Nat.le_trans g.size hg.size, fun k hk hn => (hg.block k (by have := g.size; omega) (fun e => by have := hr k e.symm; omega)).trans (g.block k hk hn)⟩
theorem grown_set (g : W.grownBy w (some rb)) {p : Addr} (hp : W.heap.size ≤ p.block) (u : Value) : W.grownBy (w.setCell p u) (some rb) :=
  grown_below (lo := W.heap.size) g ((Below.refl _ _).setCell hp u) (Nat.le_refl _)
theorem TFin.pushW {n m n' c' : Nat} {A' : Option Addr} {xs : List Int} (h : TFin W rb gx A n c B m d Wl Pl w) (hown : w'.ownsRow (W.heap.size + 1) 3 1 (.slice A' n' c') n' (Wl.map (Value.int .i64) ++ xs.map (Value.int .i64)))
    (hg : w.grownBy w' (Value.slice A n c).ownBlock) (hv : (Value.slice A' n' c').ownBlock = (Value.slice A n c).ownBlock ∨ (Value.slice A' n' c').ownBlock = some w.heap.size) :
    TFin W rb gx A' n' c' B m d (Wl ++ xs) Pl (w'.setCell ⟨gx, 0, none⟩ (.slice A' n' c')) := by
  obtain ⟨h1, h2, h3, h4, h5, a, b, g, l1, l2⟩ := h
  have al := a.lt
  have hA' : ∀ g, (Value.slice A' n' c').ownBlock = some g → g ≠ gx := fun g hq => by
    rcases hv with e | e
    · exact h4 g (by rw [← e]; exact hq)
    · rw [e] at hq; injection hq with hq; omega
  have r2 := h2.kept hg (by
    rcases ho : (Value.slice B m d).ownBlock with _ | q
    · exact .inl rfl
    · exact .inr (fun e => h3 q e.symm ho))
  have a1 := blk_grown hg a (fun e => h4 gx e.symm rfl)
  have b1 := blk_grown hg b (fun e => by have := (h1.lt _ e.symm).1; omega)
  refine ⟨?_, own_far r2 h5 _, ?_, hA', h5, a1.set 0 _, b1.far (p := ⟨gx, 0, none⟩) (by show _ ≠ gx; omega) _, grown_set (grown_row g hg (fun k hk => by have := (h1.lt k hk).1; omega)) (p := ⟨gx, 0, none⟩) (by show _ ≤ gx; omega) _, l1, l2⟩
  · rw [List.map_append]
    exact own_far hown hA' _
  · intro q hq hB
    rcases hv with e | e
    · exact h3 q (by rw [← e]; exact hq) hB
    · rw [e] at hq; injection hq with hq; have := (h2.lt q hB).2; omega
theorem TFin.pushP {n m n' c' : Nat} {B' : Option Addr} {xs : List Int} (h : TFin W rb gx A n c B m d Wl Pl w) (hown : w'.ownsRow (W.heap.size + 1) 3 1 (.slice B' n' c') n' (Pl.map (Value.int .i64) ++ xs.map (Value.int .i64)))
    (hg : w.grownBy w' (Value.slice B m d).ownBlock) (hv : (Value.slice B' n' c').ownBlock = (Value.slice B m d).ownBlock ∨ (Value.slice B' n' c').ownBlock = some w.heap.size) :
    TFin W rb gx A n c B' n' c' Wl (Pl ++ xs) (w'.setCell ⟨gx, 1, none⟩ (.slice B' n' c')) := by
  obtain ⟨h1, h2, h3, h4, h5, a, b, g, l1, l2⟩ := h
  have al := a.lt
  have hB' : ∀ g, (Value.slice B' n' c').ownBlock = some g → g ≠ gx := fun g hq => by
    rcases hv with e | e
    · exact h5 g (by rw [← e]; exact hq)
    · rw [e] at hq; injection hq with hq; omega
  have r1 := h1.kept hg (by
    rcases ho : (Value.slice A n c).ownBlock with _ | q
    · exact .inl rfl
    · exact .inr (fun e => h3 q ho e.symm))
  have a1 := blk_grown hg a (fun e => h5 gx e.symm rfl)
  have b1 := blk_grown hg b (fun e => by have := (h2.lt _ e.symm).1; omega)
  refine ⟨own_far r1 h4 _, ?_, ?_, h4, hB', a1.set 1 _, b1.far (p := ⟨gx, 1, none⟩) (by show _ ≠ gx; omega) _, grown_set (grown_row g hg (fun k hk => by have := (h2.lt k hk).1; omega)) (p := ⟨gx, 1, none⟩) (by show _ ≤ gx; omega) _, l1, l2⟩
  · rw [List.map_append]
    exact own_far hown hB' _
  · intro q hA hq
    rcases hv with e | e
    · exact h3 q hA (by rw [← e]; exact hq)
    · rw [e] at hq; injection hq with hq; have := (h1.lt q hA).2; omega
theorem TFin.box {n m : Nat} (h : TFin W rb gx A n c B m d Wl Pl w) : Blk w gx 27 #[.slice A n c, .slice B m d] := h.2.2.2.2.2.1
theorem TFin.res {n m : Nat} (h : TFin W rb gx A n c B m d Wl Pl w) : Blk w W.heap.size 27 #[.slice none 0 0, .slice none 0 0] := h.2.2.2.2.2.2.1
def DrawnThin (rb : Nat) (W : World) (e : Ending) (w' : World) : Prop :=
  ∃ v Wl Pl, e = .returned v ∧ (∀ w'' : World, (∀ k, W.heap.size ≤ k → w''.heap[k]? = w'.heap[k]?) → ThinR w'' v Wl Pl) ∧ Wl.length ≤ 10 ∧ Pl.length ≤ 8 ∧ W.grownBy w' (some rb)
theorem TFin.fin {n m : Nat} (h : TFin W rb gx A n c B m d Wl Pl w) (hw : Wl.length ≤ 10) (hp : Pl.length ≤ 8) :
    DrawnThin rb W (.returned (.agg #[.slice A n c, .slice B m d])) ((w.setCell ⟨W.heap.size, 0, none⟩ (.slice A n c)).setCell ⟨W.heap.size, 1, none⟩ (.slice B m d)) := by
  obtain ⟨h1, h2, h3, h4, h5, a, b, g, l1, l2⟩ := h
  have hn : n = Wl.length := by have := h1.1; simpa using this.symm
  have hm : m = Pl.length := by have := h2.1; simpa using this.symm
  subst hn hm
  have k1 := own_cap h1
  have k2 := own_cap h2
  have f1 : ∀ q, (Value.slice A Wl.length c).ownBlock = some q → q ≠ W.heap.size := fun q hq => by have := (h1.lt q hq).1; omega
  have f2 : ∀ q, (Value.slice B Pl.length d).ownBlock = some q → q ≠ W.heap.size := fun q hq => by have := (h2.lt q hq).1; omega
  have ra := own_far (p := ⟨W.heap.size, 1, none⟩) (own_far (p := ⟨W.heap.size, 0, none⟩) h1 f1 (.slice A Wl.length c)) f1 (.slice B Pl.length d)
  have rp := own_far (p := ⟨W.heap.size, 1, none⟩) (own_far (p := ⟨W.heap.size, 0, none⟩) h2 f2 (.slice A Wl.length c)) f2 (.slice B Pl.length d)
  exact ⟨_, Wl, Pl, rfl, fun w'' hk => ⟨A, c, B, d, rfl, IntsIn.of (own_read (own_block ra fun q hq => hk q (by have := (ra.lt q hq).1; omega))), IntsIn.of (own_read (own_block rp fun q hq => hk q (by have := (rp.lt q hq).1; omega))), k1.1, k1.2, k2.1, k2.2⟩, hw, hp,
    grown_set (grown_set g (p := ⟨W.heap.size, 0, none⟩) (Nat.le_refl _) _) (p := ⟨W.heap.size, 1, none⟩) (Nat.le_refl _) _⟩
end
end Go.Proofs.Ytjkbooflbfnbiaa
