/- The draw of volumes with snapshots. -/
import Derived.Test.YtkjjieofoolnhaaDrD
import Derived.Test.YtkjjieofoolnhaaVolY
namespace Go.Proofs.Ytkjjieofoolnhaa
open Go.RowKit
set_option linter.unusedVariables false

theorem vgrown_below {W w w' : World} {row : Option Nat} {lo : Nat} (h : W.grownBy w row) (b : Below lo w w') (hl : W.heap.size ≤ lo) : W.grownBy w' row :=
  ⟨b.os.trans h.os, b.tape.trans h.tape, b.output.trans h.output, Nat.le_trans h.size b.size, fun k hk hn => (b.block k (by omega)).trans (h.block k hk hn)⟩
theorem vgrown_row {W w w' : World} {rb : Nat} {row : Option Nat} (g : W.grownBy w (some rb)) (hg : w.grownBy w' row) (hr : ∀ k, row = some k → W.heap.size ≤ k) : W.grownBy w' (some rb) :=
  ⟨hg.os.trans g.os, hg.tape.trans g.tape, hg.output.trans g.output, Nat.le_trans g.size hg.size, fun k hk hn => (hg.block k (by have := g.size; omega) (fun e => by have := hr k e.symm; omega)).trans (g.block k hk hn)⟩
theorem vgrown_set {W w : World} {rb : Nat} (g : W.grownBy w (some rb)) {p : Addr} (hp : W.heap.size ≤ p.block) (u : Value) : W.grownBy (w.setCell p u) (some rb) :=
  vgrown_below (lo := W.heap.size) g ((Below.refl _ _).setCell hp u) (Nat.le_refl _)
/-- The box gx holds the volume, in blocks of the call's own; the reader rb has made at most Q steps. -/
def VSt (W : World) (rb Q gx : Nat) (A : Option Addr) (c : Nat) (B : Option Addr) (d : Nat) (N : List Int) (S : List (List Sv)) (w : World) : Prop :=
  (∃ lo hi, VolO lo hi w (.agg #[.slice A N.length c, .slice B S.length d]) N S ∧ W.heap.size + 1 ≤ lo ∧ (hi ≤ gx ∨ gx + 1 ≤ lo) ∧ hi ≤ w.heap.size) ∧ Blk w gx 29 #[.slice A N.length c, .slice B S.length d] ∧
    Blk w W.heap.size 29 #[.slice none 0 0, .slice none 0 0] ∧ RdAt w rb Q ∧ W.grownBy w (some rb) ∧ rb < W.heap.size ∧ W.heap.size < gx
section
variable {W w w' : World} {rb Q Q' gx c d : Nat} {A B : Option Addr} {N : List Int} {S : List (List Sv)}
theorem VSt.read (h : VSt W rb Q gx A c B d N S w) : VolR w (.agg #[.slice A N.length c, .slice B S.length d]) N S := by
  obtain ⟨⟨_, _, h, _⟩, _⟩ := h
  exact h.read
theorem VSt.box (h : VSt W rb Q gx A c B d N S w) : Blk w gx 29 #[.slice A N.length c, .slice B S.length d] := h.2.1
theorem VSt.rd (h : VSt W rb Q gx A c B d N S w) : RdAt w rb Q := h.2.2.2.1
theorem VSt.drew (h : VSt W rb Q gx A c B d N S w) : VSt W rb Q gx A c B d N S w.drew := by
  obtain ⟨⟨lo, hi, h, h1, h2, h3⟩, a, b, r, g, l⟩ := h
  exact ⟨⟨lo, hi, h.drew, h1, h2, h3⟩, a.drew, b.drew, r.drew, gdrew g, l⟩
theorem VSt.pick (h : VSt W rb Q gx A c B d N S w) (hr : RdAt w' rb Q') (hg : w.grownBy w' (some rb)) : VSt W rb Q' gx A c B d N S w' := by
  obtain ⟨⟨lo, hi, h, h1, h2, h3⟩, a, b, r, g, l1, l2⟩ := h
  exact ⟨⟨lo, hi, h.keep (fun k k1 _ hk => hg.block k hk (fun e => by injection e with e; omega)), h1, h2, Nat.le_trans h3 hg.size⟩, blk_grown hg a (by intro e; injection e with e; omega), blk_grown hg b (by intro e; injection e with e; omega), hr, gtrans g hg, l1, l2⟩
theorem VSt.put {A' B' : Option Addr} {c' d' : Nat} {N' : List Int} {S' : List (List Sv)} (h : VSt W rb Q gx A c B d N S w) (b : Below w.heap.size w w') (o : VolO w.heap.size w'.heap.size w' (.agg #[.slice A' N'.length c', .slice B' S'.length d']) N' S') :
    VSt W rb Q gx A' c' B' d' N' S' ((w'.setCell ⟨gx, 0, none⟩ (.slice A' N'.length c')).setCell ⟨gx, 1, none⟩ (.slice B' S'.length d')) := by
  obtain ⟨_, a, k, r, g, l1, l2⟩ := h
  have hlt := a.lt
  have hs := b.size
  have a1 := blk_below b a hlt
  have k1 := blk_below b k (by omega)
  have hgs := g.size
  refine ⟨⟨w.heap.size, w'.heap.size, o.turn (((Turn.refl gx (gx + 1) _).setCell (by simp) (by simp) _).setCell (by simp) (by simp) _) (.inl (by omega)), by omega, .inr (by omega), by simp⟩,
    (a1.set 0 _).set 1 _, (k1.far (p := ⟨gx, 0, none⟩) (by show _ ≠ gx; omega) _).far (p := ⟨gx, 1, none⟩) (by show _ ≠ gx; omega) _, ((r.below b (by omega)).setCell (a := ⟨gx, 0, none⟩) (by show _ < gx; omega) _).setCell (a := ⟨gx, 1, none⟩) (by show _ < gx; omega) _, ?_, l1, l2⟩
  exact vgrown_below (lo := W.heap.size) g (((b.mono hgs).setCell (p := ⟨gx, 0, none⟩) (by show _ ≤ gx; omega) _).setCell (p := ⟨gx, 1, none⟩) (by show _ ≤ gx; omega) _) (Nat.le_refl _)
theorem VSt.start {w0 w2 : World} (hw0 : w0 = W.alloc (.cells #[.slice none 0 0, .slice none 0 0] 29)) (hr : RdAt w2 rb Q) (hg : w0.grownBy w2 (some rb)) (hlt : rb < W.heap.size)
    (o : w2.ownsRow w0.heap.size 3 1 (.slice A N.length c) N.length (N.map (Value.int .i64))) :
    VSt W rb Q w2.heap.size A c none 0 N [] (w2.alloc (.cells #[.slice A N.length c, .slice none 0 0] 29)) := by
  have h0 : Blk w0 W.heap.size 29 #[.slice none 0 0, .slice none 0 0] := by rw [hw0]; exact Blk.new rfl
  have z0 : w0.heap.size = W.heap.size + 1 := by rw [hw0]; simp
  have g0 : W.grownBy w0 (some rb) := by rw [hw0]; exact World.grownBy_alloc W _ _
  have s0 := hg.size
  have h2 := blk_grown hg h0 (by intro e; injection e with e; omega)
  refine ⟨⟨w0.heap.size, w2.heap.size, ⟨A, c, none, 0, w2.heap.size, rfl, o.alloc _, fun b hb => (o.lt b hb).2, RowsO.nil _ _ _, s0, Nat.le_refl _⟩, by omega, .inl (Nat.le_refl _), by simp⟩, Blk.new rfl, h2.alloc _, hr.alloc _, galloc (gtrans g0 hg) _, hlt, by omega⟩
/-- Behind the loop: the box holds a volume that reads so wherever its blocks are as they are. -/
def VE (W : World) (rb gx : Nat) (u1 u2 : Value) (N : List Int) (S : List (List Sv)) (w : World) : Prop :=
  (∀ w'' : World, (∀ k, W.heap.size + 1 ≤ k → k < w.heap.size → k ≠ gx → w''.heap[k]? = w.heap[k]?) → VolR w'' (.agg #[u1, u2]) N S) ∧ Blk w gx 29 #[u1, u2] ∧ Blk w W.heap.size 29 #[.slice none 0 0, .slice none 0 0] ∧ W.grownBy w (some rb) ∧ rb < W.heap.size ∧ W.heap.size < gx ∧ RdAt w rb 100002000
theorem VSt.ve (h : VSt W rb Q gx A c B d N S w) (hQ : Q ≤ 100002000) : VE W rb gx (.slice A N.length c) (.slice B S.length d) N S w := by
  obtain ⟨⟨lo, hi, h, h1, h2, _⟩, a, b, r, g, l⟩ := h
  exact ⟨fun w'' hk => (h.keep (fun k k1 k2 k3 => hk k (by omega) k3 (by omega))).read, a, b, g, l.1, l.2, r.mono hQ⟩
def DrawnV (rb : Nat) (W : World) (e : Ending) (w' : World) : Prop :=
  ∃ v N S, e = .returned v ∧ (∀ w'' : World, (∀ k, W.heap.size + 1 ≤ k → k < w'.heap.size → w''.heap[k]? = w'.heap[k]?) → VolR w'' v N S) ∧ N.length ≤ 70 ∧ S.length + sumN S ≤ 40 ∧ W.grownBy w' (some rb) ∧ RdAt w' rb 100002000
theorem VE.fin {u1 u2 : Value} (h : VE W rb gx u1 u2 N S w) (hN : N.length ≤ 70) (hS : S.length + sumN S ≤ 40) :
    DrawnV rb W (.returned (.agg #[u1, u2])) ((w.setCell ⟨W.heap.size, 0, none⟩ u1).setCell ⟨W.heap.size, 1, none⟩ u2) := by
  obtain ⟨hv, a, b, g, l1, l2, rd⟩ := h
  refine ⟨_, N, S, rfl, fun w'' hk => hv w'' (fun k k1 k2 k3 => ?_), hN, hS, vgrown_set (vgrown_set g (p := ⟨W.heap.size, 0, none⟩) (Nat.le_refl _) _) (p := ⟨W.heap.size, 1, none⟩) (Nat.le_refl _) _, (rd.setCell (a := ⟨W.heap.size, 0, none⟩) l1 _).setCell (a := ⟨W.heap.size, 1, none⟩) l1 _⟩
  rw [hk k k1 (by simpa using k2), Below.heap_setCell _ _ _ _ (by show k ≠ W.heap.size; omega), Below.heap_setCell _ _ _ _ (by show k ≠ W.heap.size; omega)]
/-- A value appended to the values now. -/
theorem VSt.push0 {lo hi mid : Nat} {w6 : World} {A6 : Option Addr} {c6 n6 : Nat} {x : Int} (hb : Blk w gx 29 #[.slice A N.length c, .slice B S.length d]) (hr : Blk w W.heap.size 29 #[.slice none 0 0, .slice none 0 0]) (hg : W.grownBy w (some rb)) (l1 : rb < W.heap.size) (l2 : W.heap.size < gx) (hrd : RdAt w rb 100002000)
    (h1 : w.ownsRow lo 3 1 (.slice A N.length c) N.length (N.map (Value.int .i64))) (h2 : ∀ b, (Value.slice A N.length c).ownBlock = some b → b < mid) (h3 : RowsS mid hi w (.slice B S.length d) S) (h4 : lo ≤ mid) (hlo : W.heap.size + 1 ≤ lo) (hx : hi ≤ gx ∨ gx + 1 ≤ lo) (h5 : mid ≤ hi)
    (o6 : w6.ownsRow lo 3 1 (.slice A6 (N ++ [x]).length c6) (N ++ [x]).length ((N ++ [x]).map (Value.int .i64))) (g6 : w.grownBy w6 (Value.slice A N.length c).ownBlock)
    (hn : (Value.slice A6 (N ++ [x]).length c6).ownBlock = (Value.slice A N.length c).ownBlock ∨ (Value.slice A6 (N ++ [x]).length c6).ownBlock = some w.heap.size) :
    VE W rb gx (.slice A6 (N ++ [x]).length c6) (.slice B S.length d) (N ++ [x]) S (w6.setCell ⟨gx, 0, none⟩ (.slice A6 (N ++ [x]).length c6)) := by
  have al := hb.lt
  have hs := g6.size
  have hA : ∀ b, (Value.slice A N.length c).ownBlock = some b → b ≠ gx := fun b hq e => by have := h2 b hq; have := (h1.lt b hq).1; omega
  have hA6 : ∀ b, (Value.slice A6 (N ++ [x]).length c6).ownBlock = some b → b ≠ gx := fun b hq => by
    rcases hn with e | e
    · exact hA b (by rw [← e]; exact hq)
    · rw [e] at hq; injection hq with hq; omega
  have hrows : RowsS mid hi w6 (.slice B S.length d) S := h3.keep (fun k k1 k2 k3 => g6.block k k3 (fun e => by have := h2 k e.symm; omega))
  have a6 := blk_grown g6 hb (fun e => hA gx e.symm rfl)
  have r6 := blk_grown g6 hr (fun e => by have := (h1.lt _ e.symm).1; omega)
  have q := own_cap o6
  obtain ⟨_, _, e2, q1, q2⟩ := h3.slice
  injection e2 with e1 _ e2
  subst e1 e2
  refine ⟨fun w'' hk => ⟨A6, c6, B, d, rfl, IntsIn.of (own_read (own_block o6 fun b hb => ?_)), (hrows.keep fun k k1 k2 k3 => ?_).read, q.1, q.2, q1, q2⟩, a6.set 0 _, r6.far (p := ⟨gx, 0, none⟩) (by show _ ≠ gx; omega) _,
    vgrown_set (vgrown_row hg g6 (fun k hk => by have := (h1.lt k hk).1; omega)) (p := ⟨gx, 0, none⟩) (by show _ ≤ gx; omega) _, l1, l2, (hrd.grown g6 (fun k hk => by have := (h1.lt k hk).1; omega)).setCell (a := ⟨gx, 0, none⟩) (by show rb < gx; omega) _⟩
  · rw [hk b (by have := (o6.lt b hb).1; omega) (by simpa using (o6.lt b hb).2) (hA6 b hb), Below.heap_setCell _ _ _ _ (hA6 b hb)]
  · rw [hk k (by omega) (by simpa using k3) (by omega), Below.heap_setCell _ _ _ _ (by show k ≠ gx; omega)]
/-- Other snapshots put into the box. -/
theorem VSt.push1 {lo hi' gx : Nat} {u0 u2 : Value} {w6 : World} {S' : List (List Sv)} (hb : Blk w6 gx 29 #[.slice A N.length c, u0]) (hr : Blk w6 W.heap.size 29 #[.slice none 0 0, .slice none 0 0]) (hg : W.grownBy w6 (some rb)) (l1 : rb < W.heap.size) (l2 : W.heap.size < gx) (hrd : RdAt w6 rb 100002000)
    (hV : VolO lo hi' w6 (.agg #[.slice A N.length c, u2]) N S') (hlo : W.heap.size + 1 ≤ lo) :
    VE W rb gx (.slice A N.length c) u2 N S' (w6.setCell ⟨gx, 1, none⟩ u2) := by
  have hV2 := hV.farT hb 1 u2
  refine ⟨fun w'' hk => ?_, hb.set 1 _, hr.far (p := ⟨gx, 1, none⟩) (by show _ ≠ gx; omega) _, vgrown_set hg (p := ⟨gx, 1, none⟩) (by show _ ≤ gx; omega) _, l1, l2, hrd.setCell (a := ⟨gx, 1, none⟩) (by show rb < gx; omega) _⟩
  have hb2 := hb.set 1 u2
  obtain ⟨A0, c0, B0, d0, mid, e0, a1, a2, a3, a4, a5⟩ := hV2
  obtain ⟨Ax, cx, hs, ev, b1, b2, ⟨q1, q2, q3⟩, b4⟩ := a3
  have k1 := own_cap a1
  have k2 := own_cap b1
  injection ev with e1 _ e3
  subst e1 e3
  have n1 := own_apartT a1 hb2 (by decide)
  have n2 := own_apartT b1 hb2 (by decide)
  refine ⟨A0, c0, B0, d0, e0, IntsIn.of (own_read (own_block a1 fun b hq => hk b (by have := (a1.lt b hq).1; omega) (a1.lt b hq).2 (n1 b hq))), ?_, k1.1, k1.2, k2.1, k2.2⟩
  refine RowsO.read (TT := 45) (T := 44) (sz := 2) (lo := mid) (hi := hi') ⟨B0, d0, hs, rfl, own_block b1 (fun b hq => hk b (by have := (b1.lt b hq).1; omega) (b1.lt b hq).2 (n2 b hq)), b2, ⟨q1, fun i hi => ?_, q3⟩, b4⟩
  obtain ⟨Ai, ci, x, y, z⟩ := q2 i hi
  exact ⟨Ai, ci, x, own_block y (fun b hq => hk b (by have := (y.lt b hq).1; omega) (y.lt b hq).2 (own_apartT y hb2 (by decide) b hq)), z⟩
theorem VE.box {u1 u2 : Value} (h : VE W rb gx u1 u2 N S w) : Blk w gx 29 #[u1, u2] := h.2.1
theorem VE.res {u1 u2 : Value} (h : VE W rb gx u1 u2 N S w) : Blk w W.heap.size 29 #[.slice none 0 0, .slice none 0 0] := h.2.2.1
end
end Go.Proofs.Ytkjjieofoolnhaa
