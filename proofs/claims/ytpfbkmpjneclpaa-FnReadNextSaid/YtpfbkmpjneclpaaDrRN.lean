/- The draw of FnReadNext: whatever the order, DrawReadNext returns a reader's state and two integers, and turns nothing that was there. -/
import Derived.Test.YtpfbkmpjneclpaaDrRA
import Derived.Test.YtpfbkmpjneclpaaRegI
namespace Go.Proofs.Ytpfbkmpjneclpaa
open Go.RowKit
set_option linter.unusedVariables false

/-- Blocks behind bx are kept. -/
def Kp (bx : Nat) (w w' : World) : Prop := w.heap.size ≤ w'.heap.size ∧ ∀ k, bx < k → k < w.heap.size → w'.heap[k]? = w.heap[k]?
def FInt (R : Int → Prop) (v : Value) : Prop := ∃ z : Int, v = .int .i64 z ∧ R z
def FLit (bx n : Nat) (R : Int → Prop) (v : Value) (w : World) : Prop := ∃ p, v = .slice (some ⟨p, 0, none⟩) n n ∧ bx < p ∧ p < w.heap.size ∧ ∀ k, k < n → ∃ z : Int, R z ∧ w.cell? ⟨p, k, none⟩ = some (.int .i64 z)
def FRef (bx : Nat) (R : Int → Prop) (v : Value) (w : World) : Prop := ∃ p k, v = .pointer (some ⟨p, k, none⟩) ∧ bx < p ∧ p < w.heap.size ∧ ∃ z : Int, R z ∧ w.cell? ⟨p, k, none⟩ = some (.int .i64 z)
theorem FLit.kp {bx n : Nat} {R : Int → Prop} {v : Value} {w w' : World} (h : FLit bx n R v w) (k : Kp bx w w') : FLit bx n R v w' := by
  obtain ⟨p, e, h1, h2, hc⟩ := h
  refine ⟨p, e, h1, by have := k.1; omega, fun j hj => ?_⟩
  obtain ⟨z, hz, c⟩ := hc j hj
  exact ⟨z, hz, (World.cell?_of_block (a := ⟨p, j, none⟩) (k.2 p h1 h2)).trans c⟩
theorem FRef.kp {bx : Nat} {R : Int → Prop} {v : Value} {w w' : World} (h : FRef bx R v w) (k : Kp bx w w') : FRef bx R v w' := by
  obtain ⟨p, j, e, h1, h2, z, hz, c⟩ := h
  exact ⟨p, j, e, h1, by have := k.1; omega, z, hz, (World.cell?_of_block (a := ⟨p, j, none⟩) (k.2 p h1 h2)).trans c⟩
theorem FLit.new {bx n : Nat} {R : Int → Prop} {w : World} {cs : Array Value} {T : TypeId} (hb : bx < w.heap.size) (h : ∀ k, k < n → ∃ z : Int, R z ∧ cs[k]? = some (.int .i64 z)) : FLit bx n R (.slice (some ⟨w.heap.size, 0, none⟩) n n) (w.alloc (.cells cs T)) := by
  refine ⟨_, rfl, hb, by simp, fun k hk => ?_⟩
  obtain ⟨z, hz, c⟩ := h k hk
  exact ⟨z, hz, by rw [cell_of_row _ _ _ _ _ _ (heap_alloc_new w _)]; exact c⟩
theorem kp_alloc (bx : Nat) (w : World) (o : Obj) : Kp bx w (w.alloc o) := ⟨by simp, fun k _ hk => Below.heap_alloc w o k hk⟩

/-- The reader rb after Q picks, the result's box c2, the state's box bx; what was there has not turned. -/
structure RnS (W : World) (rb c2 bx : Nat) (n v : Int) (Q : Nat) (w : World) : Prop where
  rd : RdAt w rb Q
  bw : Below W.heap.size W w
  b2 : ∃ a b : Int, Blk w c2 36 #[.int .i64 a, .int .i64 b]
  hx : Blk w bx 36 #[.int .i64 n, .int .i64 v]
  l0 : W.heap.size ≤ c2
  l1 : c2 < rb
  l2 : rb < bx
theorem RdAt.box {w : World} {rb g P : Nat} {T : TypeId} {a b : Int} (h : RdAt w rb P) (hB : Blk w g T #[.int .i64 a, .int .i64 b]) (hg : g ≠ rb) (i : Nat) (u : Value) : RdAt (w.setCell ⟨g, i, none⟩ u) rb P := by
  obtain ⟨A, n, c, p, h1, h2, h3, h4⟩ := h
  refine ⟨A, n, c, p, (Below.heap_setCell w ⟨g, i, none⟩ u rb (by show rb ≠ g; omega)).trans h1, h2, h3, fun h0 => ?_⟩
  obtain ⟨b', off, e, hlt, hc⟩ := h4 h0
  have hne : b' ≠ g := by
    rintro rfl
    obtain ⟨z, -, -, hz⟩ := hc 0 h0
    rw [hB.cell (off + 0)] at hz
    rcases off with _ | _ | off <;> simp at hz
  refine ⟨b', off, e, hlt, fun j hj => ?_⟩
  obtain ⟨z, z1, z2, hz⟩ := hc j hj
  exact ⟨z, z1, z2, (World.cell?_of_block (a := ⟨b', off + j, none⟩) (Below.heap_setCell w ⟨g, i, none⟩ u b' hne)).trans hz⟩
section
variable {W w w' : World} {rb c2 bx Q Q' : Nat} {n v : Int}
theorem RnS.ne (h : RnS W rb c2 bx n v Q w) : some c2 ≠ some rb := fun e => by injection e; have := h.l1; omega
theorem RnS.kpg (h : RnS W rb c2 bx n v Q w) (hg : w.grownBy w' (some rb)) : Kp bx w w' := ⟨hg.size, fun k h1 h2 => hg.block k h2 (fun e => by injection e; have := h.l2; omega)⟩
theorem RnS.kps (h : RnS W rb c2 bx n v Q w) (x y : Value) : Kp bx w ((w.setCell ⟨c2, 0, none⟩ x).setCell ⟨c2, 1, none⟩ y) :=
  ⟨by simp, fun k h1 h2 => by
    have := h.l1
    have := h.l2
    exact (Below.heap_setCell _ ⟨c2, 1, none⟩ _ k (by show k ≠ c2; omega)).trans (Below.heap_setCell _ ⟨c2, 0, none⟩ _ k (by show k ≠ c2; omega))⟩
theorem RnS.pick (h : RnS W rb c2 bx n v Q w) (hr : RdAt w' rb Q') (hg : w.grownBy w' (some rb)) : RnS W rb c2 bx n v Q' w' := by
  obtain ⟨a, b, hb2⟩ := h.b2
  have := h.l2
  have := h.l1
  have := h.l0
  exact ⟨hr, bgrown h.bw hg (by omega), ⟨a, b, blk_grown hg hb2 h.ne⟩, blk_grown hg h.hx (fun e => by injection e; omega), h.l0, h.l1, h.l2⟩
theorem RnS.alloc (h : RnS W rb c2 bx n v Q w) (o : Obj) : RnS W rb c2 bx n v Q (w.alloc o) := by
  obtain ⟨a, b, hb2⟩ := h.b2
  exact ⟨h.rd.alloc o, b_alloc h.bw o, ⟨a, b, hb2.alloc o⟩, h.hx.alloc o, h.l0, h.l1, h.l2⟩
theorem RnS.store (h : RnS W rb c2 bx n v Q w) (x y : Int) : RnS W rb c2 bx n v Q ((w.setCell ⟨c2, 0, none⟩ (.int .i64 x)).setCell ⟨c2, 1, none⟩ (.int .i64 y)) := by
  obtain ⟨a, b, hb2⟩ := h.b2
  have h0 := h.l0
  have h1 := h.l1
  have h2 := h.l2
  refine ⟨(h.rd.box hb2 (by omega) 0 _).box (hb2.set 0 (.int .i64 x)) (by omega) 1 _, (h.bw.setCell (p := ⟨c2, 0, none⟩) h0 _).setCell (p := ⟨c2, 1, none⟩) h0 _, ⟨x, y, (hb2.set 0 (.int .i64 x)).set 1 (.int .i64 y)⟩, (h.hx.far (p := ⟨c2, 0, none⟩) (by show bx ≠ c2; omega) _).far (p := ⟨c2, 1, none⟩) (by show bx ≠ c2; omega) _, h0, h1, h2⟩
end
/-- What stands behind each operation of the region that has been carried out. -/
def FactsRN (rb c2 bx : Nat) (n v : Int) (l : Array Bool) (w : World) (t0 t1 t2 t3 t4 t5 t6 t7 t8 t9 t10 t11 t12 t13 t14 t15 t16 t17 t18 t19 t20 t21 t22 t23 s3 s4 : Value) : Prop :=
  (l.getD 0 false = true → t0 = Value.agg #[.int .i64 n, .int .i64 v])
    ∧ (l.getD 1 false = true → t1 = Value.pointer (some ⟨bx, 0, none⟩))
    ∧ (l.getD 2 false = true → FInt (fun _ => True) t2)
    ∧ (l.getD 3 false = true → t3 = Value.pointer (some ⟨rb, 0, none⟩))
    ∧ (l.getD 4 false = true → FInt (fun _ => True) t4)
    ∧ (l.getD 5 false = true → FLit bx 4 (fun _ => True) t5 w)
    ∧ (l.getD 6 false = true → FLit bx 7 (fun z => 0 ≤ z ∧ z < 4) t6 w)
    ∧ (l.getD 7 false = true → t7 = Value.pointer (some ⟨rb, 0, none⟩))
    ∧ (l.getD 8 false = true → FInt (fun z => 0 ≤ z ∧ z < 7) t8)
    ∧ (l.getD 9 false = true → FRef bx (fun z => 0 ≤ z ∧ z < 4) t9 w)
    ∧ (l.getD 10 false = true → FInt (fun z => 0 ≤ z ∧ z < 4) t10)
    ∧ (l.getD 11 false = true → FRef bx (fun _ => True) t11 w)
    ∧ (l.getD 12 false = true → FInt (fun _ => True) t12)
    ∧ (l.getD 13 false = true → t13 = Value.pointer (some ⟨rb, 0, none⟩))
    ∧ (l.getD 14 false = true → FInt (fun z => 0 ≤ z ∧ z < 12) t14)
    ∧ (l.getD 15 false = true → FInt (fun _ => True) t15)
    ∧ (l.getD 16 false = true → FLit bx 3 (fun _ => True) t16 w)
    ∧ (l.getD 17 false = true → FLit bx 7 (fun z => 0 ≤ z ∧ z < 3) t17 w)
    ∧ (l.getD 18 false = true → t18 = Value.pointer (some ⟨rb, 0, none⟩))
    ∧ (l.getD 19 false = true → FInt (fun z => 0 ≤ z ∧ z < 7) t19)
    ∧ (l.getD 20 false = true → FRef bx (fun z => 0 ≤ z ∧ z < 3) t20 w)
    ∧ (l.getD 21 false = true → FInt (fun z => 0 ≤ z ∧ z < 3) t21)
    ∧ (l.getD 22 false = true → FRef bx (fun _ => True) t22 w)
    ∧ (l.getD 23 false = true → FInt (fun _ => True) t23)
    ∧ (l.getD 24 false = true → Blk w c2 36 #[.int .i64 n, .int .i64 v])
    ∧ (l.getD 25 false = true → FInt (fun _ => True) s3)
    ∧ (l.getD 26 false = true → FInt (fun _ => True) s4)
/-- The region's invariant. -/
def JRN (W : World) (rb c2 bx : Nat) (n v : Int) (sA : Value) (fuel : Nat) (l : Array Bool) (a : Act) (w : World) : Prop :=
  ∃ t0 t1 t2 t3 t4 t5 t6 t7 t8 t9 t10 t11 t12 t13 t14 t15 t16 t17 t18 t19 t20 t21 t22 t23 s3 s4 : Value, ∃ Q, a = ⟨#[sA, undef, .pointer (some ⟨c2, 0, none⟩), s3, s4, .pointer (some ⟨rb, 0, none⟩), .pointer (some ⟨bx, 0, none⟩), sA, .pointer (some ⟨rb, 0, none⟩), .pointer (some ⟨rb, 0, none⟩), .agg #[.int .i64 n, .int .i64 v], t0, t1, t2, t3, t4, t5, t6, t7, t8, t9, t10, t11, t12, t13, t14, t15, t16, t17, t18, t19, t20, t21, t22, t23], []⟩ ∧ Q + fuel ≤ 100 ∧ RnS W rb c2 bx n v Q w ∧ FactsRN rb c2 bx n v l w t0 t1 t2 t3 t4 t5 t6 t7 t8 t9 t10 t11 t12 t13 t14 t15 t16 t17 t18 t19 t20 t21 t22 t23 s3 s4

def DrawnRN (W : World) (e : Ending) (w' : World) : Prop := ∃ n v a k : Int, e = .returned (.tuple #[.agg #[.int .i64 n, .int .i64 v], .int .i64 a, .int .i64 k]) ∧ Below W.heap.size W w'
theorem BytesIn.alloc {w : World} {A : Option Addr} {n : Nat} (h : BytesIn w A n) (o : Obj) : BytesIn (w.alloc o) A n := fun h0 => by
  obtain ⟨b, off, e, hc⟩ := h h0
  refine ⟨b, off, e, fun i hi => ?_⟩
  obtain ⟨u, u1, u2, hu⟩ := hc i hi
  exact ⟨u, u1, u2, by rw [World.cell?_alloc_lt _ _ _ (block_lt_of_cell hu)]; exact hu⟩

set_option linter.unusedSimpArgs false in
set_option maxHeartbeats 40000000 in
theorem drawRN_any (A : Option Addr) (m c : Nat) (W : World) (hb : BytesIn W A m) (hmc : m ≤ c) (hc : c ≤ 9223372036854775807) :
    Calls Try.prog 24 #[.slice A m c] W (DrawnRN W) := by
  have hb0 := hb.alloc (.cells #[.int .i64 0, .int .i64 0] 36)
  have B4 := Lib.hid (Blk.new (w := W) (t := 36) (cs := #[.int .i64 0, .int .i64 0]) rfl)
  go_enter Try.func24, Try.ntmps24
  go_wp2_with fail
  refine (open_any A m c _ hb0 hmc hc).mono ?_
  rintro e w1 ⟨rfl, hr, hb1, hs1⟩
  rw [World.size_alloc] at hr hs1
  clear hb hb0
  replace B4 := Lib.hid (blk_below hb1 B4.out (by simp))
  have HR := Lib.hid hr
  have HS := Lib.hid hs1
  have HB := Lib.hid (Below.trans ((Below.refl W.heap.size W).alloc (Nat.le_refl _) (.cells #[.int .i64 0, .int .i64 0] 36)) (hb1.mono (by simp)))
  clear hr hs1 hb1
  go_wp2_with fail
  refine (l20Ahead_any (W.heap.size + 1) 0 9 _ HR.out (by omega) (by omega)).mono ?_
  rintro e w2 ⟨n, v, rfl, hS⟩
  have ST := Lib.hid (show RnS W (W.heap.size + 1) W.heap.size w2.heap.size n v 6 (w2.alloc (.cells #[.int .i64 n, .int .i64 v] 36)).drew from
    ⟨(hS.rd.alloc _).drew, b_drew (b_alloc (bgrown HB.out hS.gr (by omega)) _), ⟨_, _, ((blk_grown hS.gr B4.out (fun e => by injection e; omega)).alloc _).drew⟩, (Blk.new rfl).drew, Nat.le_refl _, by omega, by have := hS.rd.lt; omega⟩)
  clear hS B4 HR HS HB
  go_wp2_with fail
  refine wp_region_J (JRN W (W.heap.size + 1) W.heap.size w2.heap.size n v (.slice A m c)) (by kernel_rfl) (by kernel_rfl) ?h0 ?hs ?he
  case h0 =>
    refine ⟨_, _, _, _, _, _, _, _, _, _, _, _, _, _, _, _, _, _, _, _, _, _, _, _, _, _, 6, rfl, by show 6 + 27 ≤ 100; omega, ST.out, ?_⟩
    exact ⟨(fun h => by cases h), (fun h => by cases h), (fun h => by cases h), (fun h => by cases h), (fun h => by cases h), (fun h => by cases h), (fun h => by cases h), (fun h => by cases h), (fun h => by cases h), (fun h => by cases h), (fun h => by cases h), (fun h => by cases h), (fun h => by cases h), (fun h => by cases h), (fun h => by cases h), (fun h => by cases h), (fun h => by cases h), (fun h => by cases h), (fun h => by cases h), (fun h => by cases h), (fun h => by cases h), (fun h => by cases h), (fun h => by cases h), (fun h => by cases h), (fun h => by cases h), (fun h => by cases h), (fun h => by cases h)⟩
  case hs =>
    clear ST
    refine ⟨?_, ?_, ?_, ?_, ?_, ?_, ?_, ?_, ?_, ?_, ?_, ?_, ?_, ?_, ?_, ?_, ?_, ?_, ?_, ?_, ?_, ?_, ?_, ?_, ?_, ?_, ?_, trivial⟩
    · intro fuel listed a w hJ hdep K hK
      obtain ⟨t0, t1, t2, t3, t4, t5, t6, t7, t8, t9, t10, t11, t12, t13, t14, t15, t16, t17, t18, t19, t20, t21, t22, t23, s3, s4, Q, rfl, hQ, hS, hF⟩ := hJ
      clear hdep
      obtain ⟨x0, x1, -, -⟩ := hS.hx.two
      go_simp
      (try simp only [Act.put, List.setIfInBounds_toArray, List.set_cons_zero, List.set_cons_succ])
      refine hK.out _ _ ⟨_, _, _, _, _, _, _, _, _, _, _, _, _, _, _, _, _, _, _, _, _, _, _, _, _, _, Q, rfl, by omega, hS, ?_⟩
      obtain ⟨h0, h1, h2, h3, h4, h5, h6, h7, h8, h9, h10, h11, h12, h13, h14, h15, h16, h17, h18, h19, h20, h21, h22, h23, h24, h25, h26⟩ := hF
      exact ⟨fun _ => rfl, gk (by decide) h1 id, gk (by decide) h2 id, gk (by decide) h3 id, gk (by decide) h4 id, gk (by decide) h5 id, gk (by decide) h6 id, gk (by decide) h7 id, gk (by decide) h8 id, gk (by decide) h9 id, gk (by decide) h10 id, gk (by decide) h11 id, gk (by decide) h12 id, gk (by decide) h13 id, gk (by decide) h14 id, gk (by decide) h15 id, gk (by decide) h16 id, gk (by decide) h17 id, gk (by decide) h18 id, gk (by decide) h19 id, gk (by decide) h20 id, gk (by decide) h21 id, gk (by decide) h22 id, gk (by decide) h23 id, gk (by decide) h24 id, gk (by decide) h25 id, gk (by decide) h26 id⟩
    · intro fuel listed a w hJ hdep K hK
      obtain ⟨t0, t1, t2, t3, t4, t5, t6, t7, t8, t9, t10, t11, t12, t13, t14, t15, t16, t17, t18, t19, t20, t21, t22, t23, s3, s4, Q, rfl, hQ, hS, hF⟩ := hJ
      clear hdep
      go_simp
      (try simp only [Act.put, List.setIfInBounds_toArray, List.set_cons_zero, List.set_cons_succ])
      refine hK.out _ _ ⟨_, _, _, _, _, _, _, _, _, _, _, _, _, _, _, _, _, _, _, _, _, _, _, _, _, _, Q, rfl, by omega, hS, ?_⟩
      obtain ⟨h0, h1, h2, h3, h4, h5, h6, h7, h8, h9, h10, h11, h12, h13, h14, h15, h16, h17, h18, h19, h20, h21, h22, h23, h24, h25, h26⟩ := hF
      exact ⟨gk (by decide) h0 id, fun _ => rfl, gk (by decide) h2 id, gk (by decide) h3 id, gk (by decide) h4 id, gk (by decide) h5 id, gk (by decide) h6 id, gk (by decide) h7 id, gk (by decide) h8 id, gk (by decide) h9 id, gk (by decide) h10 id, gk (by decide) h11 id, gk (by decide) h12 id, gk (by decide) h13 id, gk (by decide) h14 id, gk (by decide) h15 id, gk (by decide) h16 id, gk (by decide) h17 id, gk (by decide) h18 id, gk (by decide) h19 id, gk (by decide) h20 id, gk (by decide) h21 id, gk (by decide) h22 id, gk (by decide) h23 id, gk (by decide) h24 id, gk (by decide) h25 id, gk (by decide) h26 id⟩
    · intro fuel listed a w hJ hdep K hK
      obtain ⟨t0, t1, t2, t3, t4, t5, t6, t7, t8, t9, t10, t11, t12, t13, t14, t15, t16, t17, t18, t19, t20, t21, t22, t23, s3, s4, Q, rfl, hQ, hS, hF⟩ := hJ
      have d1 := hF.2.1 (hdep ⟨1, .data⟩ (by simp) rfl)
      subst d1
      clear hdep
      obtain ⟨x0, x1, -, -⟩ := hS.hx.two
      go_simp
      (try simp only [Act.put, List.setIfInBounds_toArray, List.set_cons_zero, List.set_cons_succ])
      refine hK.out _ _ ⟨_, _, _, _, _, _, _, _, _, _, _, _, _, _, _, _, _, _, _, _, _, _, _, _, _, _, Q, rfl, by omega, hS, ?_⟩
      obtain ⟨h0, h1, h2, h3, h4, h5, h6, h7, h8, h9, h10, h11, h12, h13, h14, h15, h16, h17, h18, h19, h20, h21, h22, h23, h24, h25, h26⟩ := hF
      exact ⟨gk (by decide) h0 id, gk (by decide) h1 id, fun _ => ⟨_, rfl, trivial⟩, gk (by decide) h3 id, gk (by decide) h4 id, gk (by decide) h5 id, gk (by decide) h6 id, gk (by decide) h7 id, gk (by decide) h8 id, gk (by decide) h9 id, gk (by decide) h10 id, gk (by decide) h11 id, gk (by decide) h12 id, gk (by decide) h13 id, gk (by decide) h14 id, gk (by decide) h15 id, gk (by decide) h16 id, gk (by decide) h17 id, gk (by decide) h18 id, gk (by decide) h19 id, gk (by decide) h20 id, gk (by decide) h21 id, gk (by decide) h22 id, gk (by decide) h23 id, gk (by decide) h24 id, gk (by decide) h25 id, gk (by decide) h26 id⟩
    · intro fuel listed a w hJ hdep K hK
      obtain ⟨t0, t1, t2, t3, t4, t5, t6, t7, t8, t9, t10, t11, t12, t13, t14, t15, t16, t17, t18, t19, t20, t21, t22, t23, s3, s4, Q, rfl, hQ, hS, hF⟩ := hJ
      clear hdep
      go_simp
      (try simp only [Act.put, List.setIfInBounds_toArray, List.set_cons_zero, List.set_cons_succ])
      refine hK.out _ _ ⟨_, _, _, _, _, _, _, _, _, _, _, _, _, _, _, _, _, _, _, _, _, _, _, _, _, _, Q, rfl, by omega, hS, ?_⟩
      obtain ⟨h0, h1, h2, h3, h4, h5, h6, h7, h8, h9, h10, h11, h12, h13, h14, h15, h16, h17, h18, h19, h20, h21, h22, h23, h24, h25, h26⟩ := hF
      exact ⟨gk (by decide) h0 id, gk (by decide) h1 id, gk (by decide) h2 id, fun _ => rfl, gk (by decide) h4 id, gk (by decide) h5 id, gk (by decide) h6 id, gk (by decide) h7 id, gk (by decide) h8 id, gk (by decide) h9 id, gk (by decide) h10 id, gk (by decide) h11 id, gk (by decide) h12 id, gk (by decide) h13 id, gk (by decide) h14 id, gk (by decide) h15 id, gk (by decide) h16 id, gk (by decide) h17 id, gk (by decide) h18 id, gk (by decide) h19 id, gk (by decide) h20 id, gk (by decide) h21 id, gk (by decide) h22 id, gk (by decide) h23 id, gk (by decide) h24 id, gk (by decide) h25 id, gk (by decide) h26 id⟩
    · intro fuel listed a w hJ hdep K hK
      obtain ⟨t0, t1, t2, t3, t4, t5, t6, t7, t8, t9, t10, t11, t12, t13, t14, t15, t16, t17, t18, t19, t20, t21, t22, t23, s3, s4, Q, rfl, hQ, hS, hF⟩ := hJ
      have d3 := hF.2.2.2.1 (hdep ⟨3, .data⟩ (by simp) rfl)
      subst d3
      clear hdep
      go_simp
      go_at_call 49; refine (pick_in _ _ _ _ hS.rd (by omega) (by omega)).mono ?_; rintro e w' ⟨x, rfl, xa, xb, hr, hg, -⟩; (try dsimp only)
      (try simp only [Act.put, List.setIfInBounds_toArray, List.set_cons_zero, List.set_cons_succ])
      refine hK.out _ _ ⟨_, _, _, _, _, _, _, _, _, _, _, _, _, _, _, _, _, _, _, _, _, _, _, _, _, _, Q + 1, rfl, by omega, hS.pick hr hg, ?_⟩
      have kp := hS.kpg hg
      obtain ⟨h0, h1, h2, h3, h4, h5, h6, h7, h8, h9, h10, h11, h12, h13, h14, h15, h16, h17, h18, h19, h20, h21, h22, h23, h24, h25, h26⟩ := hF
      exact ⟨gk (by decide) h0 id, gk (by decide) h1 id, gk (by decide) h2 id, gk (by decide) h3 id, fun _ => ⟨x, rfl, trivial⟩, gk (by decide) h5 (fun x => x.kp kp), gk (by decide) h6 (fun x => x.kp kp), gk (by decide) h7 id, gk (by decide) h8 id, gk (by decide) h9 (fun x => x.kp kp), gk (by decide) h10 id, gk (by decide) h11 (fun x => x.kp kp), gk (by decide) h12 id, gk (by decide) h13 id, gk (by decide) h14 id, gk (by decide) h15 id, gk (by decide) h16 (fun x => x.kp kp), gk (by decide) h17 (fun x => x.kp kp), gk (by decide) h18 id, gk (by decide) h19 id, gk (by decide) h20 (fun x => x.kp kp), gk (by decide) h21 id, gk (by decide) h22 (fun x => x.kp kp), gk (by decide) h23 id, gk (by decide) h24 (fun x => blk_grown hg x hS.ne), gk (by decide) h25 id, gk (by decide) h26 id⟩
    · intro fuel listed a w hJ hdep K hK
      obtain ⟨t0, t1, t2, t3, t4, t5, t6, t7, t8, t9, t10, t11, t12, t13, t14, t15, t16, t17, t18, t19, t20, t21, t22, t23, s3, s4, Q, rfl, hQ, hS, hF⟩ := hJ
      have d2 := hF.2.2.1 (hdep ⟨2, .data⟩ (by simp) rfl)
      have d4 := hF.2.2.2.2.1 (hdep ⟨4, .data⟩ (by simp) rfl)
      obtain ⟨z2, rfl, -⟩ := d2
      obtain ⟨z4, rfl, -⟩ := d4
      clear hdep
      go_simp
      (try simp only [Act.put, List.setIfInBounds_toArray, List.set_cons_zero, List.set_cons_succ])
      refine hK.out _ _ ⟨_, _, _, _, _, _, _, _, _, _, _, _, _, _, _, _, _, _, _, _, _, _, _, _, _, _, Q, rfl, by omega, hS.alloc _, ?_⟩
      have kp := kp_alloc w2.heap.size w
      have hlt := hS.hx.lt
      obtain ⟨h0, h1, h2, h3, h4, h5, h6, h7, h8, h9, h10, h11, h12, h13, h14, h15, h16, h17, h18, h19, h20, h21, h22, h23, h24, h25, h26⟩ := hF
      have hnew := FLit.new (n := 4) (R := (fun _ => True)) (cs := #[.int .i64 z2, .int .i64 z4, .int .i64 100000, .int .i64 (-1)]) (T := 3) hlt (fun k hk => by rcases (show k = 0 ∨ k = 1 ∨ k = 2 ∨ k = 3 by omega) with rfl | rfl | rfl | rfl <;> exact ⟨_, trivial, rfl⟩)
      exact ⟨gk (by decide) h0 id, gk (by decide) h1 id, gk (by decide) h2 id, gk (by decide) h3 id, gk (by decide) h4 id, fun _ => hnew, gk (by decide) h6 (fun x => x.kp (kp _)), gk (by decide) h7 id, gk (by decide) h8 id, gk (by decide) h9 (fun x => x.kp (kp _)), gk (by decide) h10 id, gk (by decide) h11 (fun x => x.kp (kp _)), gk (by decide) h12 id, gk (by decide) h13 id, gk (by decide) h14 id, gk (by decide) h15 id, gk (by decide) h16 (fun x => x.kp (kp _)), gk (by decide) h17 (fun x => x.kp (kp _)), gk (by decide) h18 id, gk (by decide) h19 id, gk (by decide) h20 (fun x => x.kp (kp _)), gk (by decide) h21 id, gk (by decide) h22 (fun x => x.kp (kp _)), gk (by decide) h23 id, gk (by decide) h24 (fun x => x.alloc _), gk (by decide) h25 id, gk (by decide) h26 id⟩
    · intro fuel listed a w hJ hdep K hK
      obtain ⟨t0, t1, t2, t3, t4, t5, t6, t7, t8, t9, t10, t11, t12, t13, t14, t15, t16, t17, t18, t19, t20, t21, t22, t23, s3, s4, Q, rfl, hQ, hS, hF⟩ := hJ
      clear hdep
      go_simp
      (try simp only [Act.put, List.setIfInBounds_toArray, List.set_cons_zero, List.set_cons_succ])
      refine hK.out _ _ ⟨_, _, _, _, _, _, _, _, _, _, _, _, _, _, _, _, _, _, _, _, _, _, _, _, _, _, Q, rfl, by omega, hS.alloc _, ?_⟩
      have kp := kp_alloc w2.heap.size w
      have hlt := hS.hx.lt
      obtain ⟨h0, h1, h2, h3, h4, h5, h6, h7, h8, h9, h10, h11, h12, h13, h14, h15, h16, h17, h18, h19, h20, h21, h22, h23, h24, h25, h26⟩ := hF
      have hnew := FLit.new (n := 7) (R := (fun z => 0 ≤ z ∧ z < 4)) (cs := #[.int .i64 0, .int .i64 0, .int .i64 0, .int .i64 1, .int .i64 1, .int .i64 2, .int .i64 3]) (T := 3) hlt (fun k hk => by rcases (show k = 0 ∨ k = 1 ∨ k = 2 ∨ k = 3 ∨ k = 4 ∨ k = 5 ∨ k = 6 by omega) with rfl | rfl | rfl | rfl | rfl | rfl | rfl <;> exact ⟨_, ⟨by omega, by omega⟩, rfl⟩)
      exact ⟨gk (by decide) h0 id, gk (by decide) h1 id, gk (by decide) h2 id, gk (by decide) h3 id, gk (by decide) h4 id, gk (by decide) h5 (fun x => x.kp (kp _)), fun _ => hnew, gk (by decide) h7 id, gk (by decide) h8 id, gk (by decide) h9 (fun x => x.kp (kp _)), gk (by decide) h10 id, gk (by decide) h11 (fun x => x.kp (kp _)), gk (by decide) h12 id, gk (by decide) h13 id, gk (by decide) h14 id, gk (by decide) h15 id, gk (by decide) h16 (fun x => x.kp (kp _)), gk (by decide) h17 (fun x => x.kp (kp _)), gk (by decide) h18 id, gk (by decide) h19 id, gk (by decide) h20 (fun x => x.kp (kp _)), gk (by decide) h21 id, gk (by decide) h22 (fun x => x.kp (kp _)), gk (by decide) h23 id, gk (by decide) h24 (fun x => x.alloc _), gk (by decide) h25 id, gk (by decide) h26 id⟩
    · intro fuel listed a w hJ hdep K hK
      obtain ⟨t0, t1, t2, t3, t4, t5, t6, t7, t8, t9, t10, t11, t12, t13, t14, t15, t16, t17, t18, t19, t20, t21, t22, t23, s3, s4, Q, rfl, hQ, hS, hF⟩ := hJ
      clear hdep
      go_simp
      (try simp only [Act.put, List.setIfInBounds_toArray, List.set_cons_zero, List.set_cons_succ])
      refine hK.out _ _ ⟨_, _, _, _, _, _, _, _, _, _, _, _, _, _, _, _, _, _, _, _, _, _, _, _, _, _, Q, rfl, by omega, hS, ?_⟩
      obtain ⟨h0, h1, h2, h3, h4, h5, h6, h7, h8, h9, h10, h11, h12, h13, h14, h15, h16, h17, h18, h19, h20, h21, h22, h23, h24, h25, h26⟩ := hF
      exact ⟨gk (by decide) h0 id, gk (by decide) h1 id, gk (by decide) h2 id, gk (by decide) h3 id, gk (by decide) h4 id, gk (by decide) h5 id, gk (by decide) h6 id, fun _ => rfl, gk (by decide) h8 id, gk (by decide) h9 id, gk (by decide) h10 id, gk (by decide) h11 id, gk (by decide) h12 id, gk (by decide) h13 id, gk (by decide) h14 id, gk (by decide) h15 id, gk (by decide) h16 id, gk (by decide) h17 id, gk (by decide) h18 id, gk (by decide) h19 id, gk (by decide) h20 id, gk (by decide) h21 id, gk (by decide) h22 id, gk (by decide) h23 id, gk (by decide) h24 id, gk (by decide) h25 id, gk (by decide) h26 id⟩
    · intro fuel listed a w hJ hdep K hK
      obtain ⟨t0, t1, t2, t3, t4, t5, t6, t7, t8, t9, t10, t11, t12, t13, t14, t15, t16, t17, t18, t19, t20, t21, t22, t23, s3, s4, Q, rfl, hQ, hS, hF⟩ := hJ
      have d7 := hF.2.2.2.2.2.2.2.1 (hdep ⟨7, .data⟩ (by simp) rfl)
      subst d7
      clear hdep
      go_simp
      go_at_call 49; refine (pick_in _ _ _ _ hS.rd (by omega) (by omega)).mono ?_; rintro e w' ⟨x, rfl, xa, xb, hr, hg, -⟩; (try dsimp only)
      (try simp only [Act.put, List.setIfInBounds_toArray, List.set_cons_zero, List.set_cons_succ])
      refine hK.out _ _ ⟨_, _, _, _, _, _, _, _, _, _, _, _, _, _, _, _, _, _, _, _, _, _, _, _, _, _, Q + 1, rfl, by omega, hS.pick hr hg, ?_⟩
      have kp := hS.kpg hg
      obtain ⟨h0, h1, h2, h3, h4, h5, h6, h7, h8, h9, h10, h11, h12, h13, h14, h15, h16, h17, h18, h19, h20, h21, h22, h23, h24, h25, h26⟩ := hF
      exact ⟨gk (by decide) h0 id, gk (by decide) h1 id, gk (by decide) h2 id, gk (by decide) h3 id, gk (by decide) h4 id, gk (by decide) h5 (fun x => x.kp kp), gk (by decide) h6 (fun x => x.kp kp), gk (by decide) h7 id, fun _ => ⟨x, rfl, xa, xb⟩, gk (by decide) h9 (fun x => x.kp kp), gk (by decide) h10 id, gk (by decide) h11 (fun x => x.kp kp), gk (by decide) h12 id, gk (by decide) h13 id, gk (by decide) h14 id, gk (by decide) h15 id, gk (by decide) h16 (fun x => x.kp kp), gk (by decide) h17 (fun x => x.kp kp), gk (by decide) h18 id, gk (by decide) h19 id, gk (by decide) h20 (fun x => x.kp kp), gk (by decide) h21 id, gk (by decide) h22 (fun x => x.kp kp), gk (by decide) h23 id, gk (by decide) h24 (fun x => blk_grown hg x hS.ne), gk (by decide) h25 id, gk (by decide) h26 id⟩
    · intro fuel listed a w hJ hdep K hK
      obtain ⟨t0, t1, t2, t3, t4, t5, t6, t7, t8, t9, t10, t11, t12, t13, t14, t15, t16, t17, t18, t19, t20, t21, t22, t23, s3, s4, Q, rfl, hQ, hS, hF⟩ := hJ
      have d6 := hF.2.2.2.2.2.2.1 (hdep ⟨6, .data⟩ (by simp) rfl)
      have d8 := hF.2.2.2.2.2.2.2.2.1 (hdep ⟨8, .data⟩ (by simp) rfl)
      obtain ⟨p6, rfl, p6a, p6b, hc6⟩ := d6
      obtain ⟨z8, rfl, z8a, z8b⟩ := d8
      obtain ⟨q8, rfl⟩ := Int.eq_ofNat_of_zero_le z8a
      clear hdep
      obtain ⟨zz, zR, cz⟩ := hc6 q8 (by omega)
      clear hc6
      go_simp
      (try simp only [Act.put, List.setIfInBounds_toArray, List.set_cons_zero, List.set_cons_succ])
      refine hK.out _ _ ⟨_, _, _, _, _, _, _, _, _, _, _, _, _, _, _, _, _, _, _, _, _, _, _, _, _, _, Q, rfl, by omega, hS, ?_⟩
      obtain ⟨h0, h1, h2, h3, h4, h5, h6, h7, h8, h9, h10, h11, h12, h13, h14, h15, h16, h17, h18, h19, h20, h21, h22, h23, h24, h25, h26⟩ := hF
      exact ⟨gk (by decide) h0 id, gk (by decide) h1 id, gk (by decide) h2 id, gk (by decide) h3 id, gk (by decide) h4 id, gk (by decide) h5 id, gk (by decide) h6 id, gk (by decide) h7 id, gk (by decide) h8 id, fun _ => ⟨_, _, rfl, p6a, p6b, zz, zR, cz⟩, gk (by decide) h10 id, gk (by decide) h11 id, gk (by decide) h12 id, gk (by decide) h13 id, gk (by decide) h14 id, gk (by decide) h15 id, gk (by decide) h16 id, gk (by decide) h17 id, gk (by decide) h18 id, gk (by decide) h19 id, gk (by decide) h20 id, gk (by decide) h21 id, gk (by decide) h22 id, gk (by decide) h23 id, gk (by decide) h24 id, gk (by decide) h25 id, gk (by decide) h26 id⟩
    · intro fuel listed a w hJ hdep K hK
      obtain ⟨t0, t1, t2, t3, t4, t5, t6, t7, t8, t9, t10, t11, t12, t13, t14, t15, t16, t17, t18, t19, t20, t21, t22, t23, s3, s4, Q, rfl, hQ, hS, hF⟩ := hJ
      have d9 := hF.2.2.2.2.2.2.2.2.2.1 (hdep ⟨9, .data⟩ (by simp) rfl)
      obtain ⟨p9, q9, rfl, p9a, p9b, z9, z9R, cz9⟩ := d9
      clear hdep
      obtain ⟨zza, zzb⟩ := z9R
      go_simp
      (try simp only [Act.put, List.setIfInBounds_toArray, List.set_cons_zero, List.set_cons_succ])
      refine hK.out _ _ ⟨_, _, _, _, _, _, _, _, _, _, _, _, _, _, _, _, _, _, _, _, _, _, _, _, _, _, Q, rfl, by omega, hS, ?_⟩
      obtain ⟨h0, h1, h2, h3, h4, h5, h6, h7, h8, h9, h10, h11, h12, h13, h14, h15, h16, h17, h18, h19, h20, h21, h22, h23, h24, h25, h26⟩ := hF
      exact ⟨gk (by decide) h0 id, gk (by decide) h1 id, gk (by decide) h2 id, gk (by decide) h3 id, gk (by decide) h4 id, gk (by decide) h5 id, gk (by decide) h6 id, gk (by decide) h7 id, gk (by decide) h8 id, gk (by decide) h9 id, fun _ => ⟨_, rfl, zza, zzb⟩, gk (by decide) h11 id, gk (by decide) h12 id, gk (by decide) h13 id, gk (by decide) h14 id, gk (by decide) h15 id, gk (by decide) h16 id, gk (by decide) h17 id, gk (by decide) h18 id, gk (by decide) h19 id, gk (by decide) h20 id, gk (by decide) h21 id, gk (by decide) h22 id, gk (by decide) h23 id, gk (by decide) h24 id, gk (by decide) h25 id, gk (by decide) h26 id⟩
    · intro fuel listed a w hJ hdep K hK
      obtain ⟨t0, t1, t2, t3, t4, t5, t6, t7, t8, t9, t10, t11, t12, t13, t14, t15, t16, t17, t18, t19, t20, t21, t22, t23, s3, s4, Q, rfl, hQ, hS, hF⟩ := hJ
      have d5 := hF.2.2.2.2.2.1 (hdep ⟨5, .data⟩ (by simp) rfl)
      have d10 := hF.2.2.2.2.2.2.2.2.2.2.1 (hdep ⟨10, .data⟩ (by simp) rfl)
      obtain ⟨p5, rfl, p5a, p5b, hc5⟩ := d5
      obtain ⟨z10, rfl, z10a, z10b⟩ := d10
      obtain ⟨q10, rfl⟩ := Int.eq_ofNat_of_zero_le z10a
      clear hdep
      obtain ⟨zz, zR, cz⟩ := hc5 q10 (by omega)
      clear hc5
      go_simp
      (try simp only [Act.put, List.setIfInBounds_toArray, List.set_cons_zero, List.set_cons_succ])
      refine hK.out _ _ ⟨_, _, _, _, _, _, _, _, _, _, _, _, _, _, _, _, _, _, _, _, _, _, _, _, _, _, Q, rfl, by omega, hS, ?_⟩
      obtain ⟨h0, h1, h2, h3, h4, h5, h6, h7, h8, h9, h10, h11, h12, h13, h14, h15, h16, h17, h18, h19, h20, h21, h22, h23, h24, h25, h26⟩ := hF
      exact ⟨gk (by decide) h0 id, gk (by decide) h1 id, gk (by decide) h2 id, gk (by decide) h3 id, gk (by decide) h4 id, gk (by decide) h5 id, gk (by decide) h6 id, gk (by decide) h7 id, gk (by decide) h8 id, gk (by decide) h9 id, gk (by decide) h10 id, fun _ => ⟨_, _, rfl, p5a, p5b, zz, zR, cz⟩, gk (by decide) h12 id, gk (by decide) h13 id, gk (by decide) h14 id, gk (by decide) h15 id, gk (by decide) h16 id, gk (by decide) h17 id, gk (by decide) h18 id, gk (by decide) h19 id, gk (by decide) h20 id, gk (by decide) h21 id, gk (by decide) h22 id, gk (by decide) h23 id, gk (by decide) h24 id, gk (by decide) h25 id, gk (by decide) h26 id⟩
    · intro fuel listed a w hJ hdep K hK
      obtain ⟨t0, t1, t2, t3, t4, t5, t6, t7, t8, t9, t10, t11, t12, t13, t14, t15, t16, t17, t18, t19, t20, t21, t22, t23, s3, s4, Q, rfl, hQ, hS, hF⟩ := hJ
      have d11 := hF.2.2.2.2.2.2.2.2.2.2.2.1 (hdep ⟨11, .data⟩ (by simp) rfl)
      obtain ⟨p11, q11, rfl, p11a, p11b, z11, z11R, cz11⟩ := d11
      clear hdep
      go_simp
      (try simp only [Act.put, List.setIfInBounds_toArray, List.set_cons_zero, List.set_cons_succ])
      refine hK.out _ _ ⟨_, _, _, _, _, _, _, _, _, _, _, _, _, _, _, _, _, _, _, _, _, _, _, _, _, _, Q, rfl, by omega, hS, ?_⟩
      obtain ⟨h0, h1, h2, h3, h4, h5, h6, h7, h8, h9, h10, h11, h12, h13, h14, h15, h16, h17, h18, h19, h20, h21, h22, h23, h24, h25, h26⟩ := hF
      exact ⟨gk (by decide) h0 id, gk (by decide) h1 id, gk (by decide) h2 id, gk (by decide) h3 id, gk (by decide) h4 id, gk (by decide) h5 id, gk (by decide) h6 id, gk (by decide) h7 id, gk (by decide) h8 id, gk (by decide) h9 id, gk (by decide) h10 id, gk (by decide) h11 id, fun _ => ⟨_, rfl, trivial⟩, gk (by decide) h13 id, gk (by decide) h14 id, gk (by decide) h15 id, gk (by decide) h16 id, gk (by decide) h17 id, gk (by decide) h18 id, gk (by decide) h19 id, gk (by decide) h20 id, gk (by decide) h21 id, gk (by decide) h22 id, gk (by decide) h23 id, gk (by decide) h24 id, gk (by decide) h25 id, gk (by decide) h26 id⟩
    · intro fuel listed a w hJ hdep K hK
      obtain ⟨t0, t1, t2, t3, t4, t5, t6, t7, t8, t9, t10, t11, t12, t13, t14, t15, t16, t17, t18, t19, t20, t21, t22, t23, s3, s4, Q, rfl, hQ, hS, hF⟩ := hJ
      clear hdep
      go_simp
      (try simp only [Act.put, List.setIfInBounds_toArray, List.set_cons_zero, List.set_cons_succ])
      refine hK.out _ _ ⟨_, _, _, _, _, _, _, _, _, _, _, _, _, _, _, _, _, _, _, _, _, _, _, _, _, _, Q, rfl, by omega, hS, ?_⟩
      obtain ⟨h0, h1, h2, h3, h4, h5, h6, h7, h8, h9, h10, h11, h12, h13, h14, h15, h16, h17, h18, h19, h20, h21, h22, h23, h24, h25, h26⟩ := hF
      exact ⟨gk (by decide) h0 id, gk (by decide) h1 id, gk (by decide) h2 id, gk (by decide) h3 id, gk (by decide) h4 id, gk (by decide) h5 id, gk (by decide) h6 id, gk (by decide) h7 id, gk (by decide) h8 id, gk (by decide) h9 id, gk (by decide) h10 id, gk (by decide) h11 id, gk (by decide) h12 id, fun _ => rfl, gk (by decide) h14 id, gk (by decide) h15 id, gk (by decide) h16 id, gk (by decide) h17 id, gk (by decide) h18 id, gk (by decide) h19 id, gk (by decide) h20 id, gk (by decide) h21 id, gk (by decide) h22 id, gk (by decide) h23 id, gk (by decide) h24 id, gk (by decide) h25 id, gk (by decide) h26 id⟩
    · intro fuel listed a w hJ hdep K hK
      obtain ⟨t0, t1, t2, t3, t4, t5, t6, t7, t8, t9, t10, t11, t12, t13, t14, t15, t16, t17, t18, t19, t20, t21, t22, t23, s3, s4, Q, rfl, hQ, hS, hF⟩ := hJ
      have d13 := hF.2.2.2.2.2.2.2.2.2.2.2.2.2.1 (hdep ⟨13, .data⟩ (by simp) rfl)
      subst d13
      clear hdep
      go_simp
      go_at_call 49; refine (pick_in _ _ _ _ hS.rd (by omega) (by omega)).mono ?_; rintro e w' ⟨x, rfl, xa, xb, hr, hg, -⟩; (try dsimp only)
      (try simp only [Act.put, List.setIfInBounds_toArray, List.set_cons_zero, List.set_cons_succ])
      refine hK.out _ _ ⟨_, _, _, _, _, _, _, _, _, _, _, _, _, _, _, _, _, _, _, _, _, _, _, _, _, _, Q + 1, rfl, by omega, hS.pick hr hg, ?_⟩
      have kp := hS.kpg hg
      obtain ⟨h0, h1, h2, h3, h4, h5, h6, h7, h8, h9, h10, h11, h12, h13, h14, h15, h16, h17, h18, h19, h20, h21, h22, h23, h24, h25, h26⟩ := hF
      exact ⟨gk (by decide) h0 id, gk (by decide) h1 id, gk (by decide) h2 id, gk (by decide) h3 id, gk (by decide) h4 id, gk (by decide) h5 (fun x => x.kp kp), gk (by decide) h6 (fun x => x.kp kp), gk (by decide) h7 id, gk (by decide) h8 id, gk (by decide) h9 (fun x => x.kp kp), gk (by decide) h10 id, gk (by decide) h11 (fun x => x.kp kp), gk (by decide) h12 id, gk (by decide) h13 id, fun _ => ⟨x, rfl, xa, xb⟩, gk (by decide) h15 id, gk (by decide) h16 (fun x => x.kp kp), gk (by decide) h17 (fun x => x.kp kp), gk (by decide) h18 id, gk (by decide) h19 id, gk (by decide) h20 (fun x => x.kp kp), gk (by decide) h21 id, gk (by decide) h22 (fun x => x.kp kp), gk (by decide) h23 id, gk (by decide) h24 (fun x => blk_grown hg x hS.ne), gk (by decide) h25 id, gk (by decide) h26 id⟩
    · intro fuel listed a w hJ hdep K hK
      obtain ⟨t0, t1, t2, t3, t4, t5, t6, t7, t8, t9, t10, t11, t12, t13, t14, t15, t16, t17, t18, t19, t20, t21, t22, t23, s3, s4, Q, rfl, hQ, hS, hF⟩ := hJ
      have d14 := hF.2.2.2.2.2.2.2.2.2.2.2.2.2.2.1 (hdep ⟨14, .data⟩ (by simp) rfl)
      obtain ⟨z14, rfl, z14a, z14b⟩ := d14
      obtain ⟨q14, rfl⟩ := Int.eq_ofNat_of_zero_le z14a
      clear hdep
      go_simp
      (try simp only [Act.put, List.setIfInBounds_toArray, List.set_cons_zero, List.set_cons_succ])
      refine hK.out _ _ ⟨_, _, _, _, _, _, _, _, _, _, _, _, _, _, _, _, _, _, _, _, _, _, _, _, _, _, Q, rfl, by omega, hS, ?_⟩
      obtain ⟨h0, h1, h2, h3, h4, h5, h6, h7, h8, h9, h10, h11, h12, h13, h14, h15, h16, h17, h18, h19, h20, h21, h22, h23, h24, h25, h26⟩ := hF
      exact ⟨gk (by decide) h0 id, gk (by decide) h1 id, gk (by decide) h2 id, gk (by decide) h3 id, gk (by decide) h4 id, gk (by decide) h5 id, gk (by decide) h6 id, gk (by decide) h7 id, gk (by decide) h8 id, gk (by decide) h9 id, gk (by decide) h10 id, gk (by decide) h11 id, gk (by decide) h12 id, gk (by decide) h13 id, gk (by decide) h14 id, fun _ => ⟨_, rfl, trivial⟩, gk (by decide) h16 id, gk (by decide) h17 id, gk (by decide) h18 id, gk (by decide) h19 id, gk (by decide) h20 id, gk (by decide) h21 id, gk (by decide) h22 id, gk (by decide) h23 id, gk (by decide) h24 id, gk (by decide) h25 id, gk (by decide) h26 id⟩
    · intro fuel listed a w hJ hdep K hK
      obtain ⟨t0, t1, t2, t3, t4, t5, t6, t7, t8, t9, t10, t11, t12, t13, t14, t15, t16, t17, t18, t19, t20, t21, t22, t23, s3, s4, Q, rfl, hQ, hS, hF⟩ := hJ
      have d15 := hF.2.2.2.2.2.2.2.2.2.2.2.2.2.2.2.1 (hdep ⟨15, .data⟩ (by simp) rfl)
      obtain ⟨z15, rfl, -⟩ := d15
      clear hdep
      go_simp
      (try simp only [Act.put, List.setIfInBounds_toArray, List.set_cons_zero, List.set_cons_succ])
      refine hK.out _ _ ⟨_, _, _, _, _, _, _, _, _, _, _, _, _, _, _, _, _, _, _, _, _, _, _, _, _, _, Q, rfl, by omega, hS.alloc _, ?_⟩
      have kp := kp_alloc w2.heap.size w
      have hlt := hS.hx.lt
      obtain ⟨h0, h1, h2, h3, h4, h5, h6, h7, h8, h9, h10, h11, h12, h13, h14, h15, h16, h17, h18, h19, h20, h21, h22, h23, h24, h25, h26⟩ := hF
      have hnew := FLit.new (n := 3) (R := (fun _ => True)) (cs := #[.int .i64 z15, .int .i64 0, .int .i64 201]) (T := 3) hlt (fun k hk => by rcases (show k = 0 ∨ k = 1 ∨ k = 2 by omega) with rfl | rfl | rfl <;> exact ⟨_, trivial, rfl⟩)
      exact ⟨gk (by decide) h0 id, gk (by decide) h1 id, gk (by decide) h2 id, gk (by decide) h3 id, gk (by decide) h4 id, gk (by decide) h5 (fun x => x.kp (kp _)), gk (by decide) h6 (fun x => x.kp (kp _)), gk (by decide) h7 id, gk (by decide) h8 id, gk (by decide) h9 (fun x => x.kp (kp _)), gk (by decide) h10 id, gk (by decide) h11 (fun x => x.kp (kp _)), gk (by decide) h12 id, gk (by decide) h13 id, gk (by decide) h14 id, gk (by decide) h15 id, fun _ => hnew, gk (by decide) h17 (fun x => x.kp (kp _)), gk (by decide) h18 id, gk (by decide) h19 id, gk (by decide) h20 (fun x => x.kp (kp _)), gk (by decide) h21 id, gk (by decide) h22 (fun x => x.kp (kp _)), gk (by decide) h23 id, gk (by decide) h24 (fun x => x.alloc _), gk (by decide) h25 id, gk (by decide) h26 id⟩
    · intro fuel listed a w hJ hdep K hK
      obtain ⟨t0, t1, t2, t3, t4, t5, t6, t7, t8, t9, t10, t11, t12, t13, t14, t15, t16, t17, t18, t19, t20, t21, t22, t23, s3, s4, Q, rfl, hQ, hS, hF⟩ := hJ
      clear hdep
      go_simp
      (try simp only [Act.put, List.setIfInBounds_toArray, List.set_cons_zero, List.set_cons_succ])
      refine hK.out _ _ ⟨_, _, _, _, _, _, _, _, _, _, _, _, _, _, _, _, _, _, _, _, _, _, _, _, _, _, Q, rfl, by omega, hS.alloc _, ?_⟩
      have kp := kp_alloc w2.heap.size w
      have hlt := hS.hx.lt
      obtain ⟨h0, h1, h2, h3, h4, h5, h6, h7, h8, h9, h10, h11, h12, h13, h14, h15, h16, h17, h18, h19, h20, h21, h22, h23, h24, h25, h26⟩ := hF
      have hnew := FLit.new (n := 7) (R := (fun z => 0 ≤ z ∧ z < 3)) (cs := #[.int .i64 0, .int .i64 0, .int .i64 0, .int .i64 0, .int .i64 0, .int .i64 1, .int .i64 2]) (T := 3) hlt (fun k hk => by rcases (show k = 0 ∨ k = 1 ∨ k = 2 ∨ k = 3 ∨ k = 4 ∨ k = 5 ∨ k = 6 by omega) with rfl | rfl | rfl | rfl | rfl | rfl | rfl <;> exact ⟨_, ⟨by omega, by omega⟩, rfl⟩)
      exact ⟨gk (by decide) h0 id, gk (by decide) h1 id, gk (by decide) h2 id, gk (by decide) h3 id, gk (by decide) h4 id, gk (by decide) h5 (fun x => x.kp (kp _)), gk (by decide) h6 (fun x => x.kp (kp _)), gk (by decide) h7 id, gk (by decide) h8 id, gk (by decide) h9 (fun x => x.kp (kp _)), gk (by decide) h10 id, gk (by decide) h11 (fun x => x.kp (kp _)), gk (by decide) h12 id, gk (by decide) h13 id, gk (by decide) h14 id, gk (by decide) h15 id, gk (by decide) h16 (fun x => x.kp (kp _)), fun _ => hnew, gk (by decide) h18 id, gk (by decide) h19 id, gk (by decide) h20 (fun x => x.kp (kp _)), gk (by decide) h21 id, gk (by decide) h22 (fun x => x.kp (kp _)), gk (by decide) h23 id, gk (by decide) h24 (fun x => x.alloc _), gk (by decide) h25 id, gk (by decide) h26 id⟩
    · intro fuel listed a w hJ hdep K hK
      obtain ⟨t0, t1, t2, t3, t4, t5, t6, t7, t8, t9, t10, t11, t12, t13, t14, t15, t16, t17, t18, t19, t20, t21, t22, t23, s3, s4, Q, rfl, hQ, hS, hF⟩ := hJ
      clear hdep
      go_simp
      (try simp only [Act.put, List.setIfInBounds_toArray, List.set_cons_zero, List.set_cons_succ])
      refine hK.out _ _ ⟨_, _, _, _, _, _, _, _, _, _, _, _, _, _, _, _, _, _, _, _, _, _, _, _, _, _, Q, rfl, by omega, hS, ?_⟩
      obtain ⟨h0, h1, h2, h3, h4, h5, h6, h7, h8, h9, h10, h11, h12, h13, h14, h15, h16, h17, h18, h19, h20, h21, h22, h23, h24, h25, h26⟩ := hF
      exact ⟨gk (by decide) h0 id, gk (by decide) h1 id, gk (by decide) h2 id, gk (by decide) h3 id, gk (by decide) h4 id, gk (by decide) h5 id, gk (by decide) h6 id, gk (by decide) h7 id, gk (by decide) h8 id, gk (by decide) h9 id, gk (by decide) h10 id, gk (by decide) h11 id, gk (by decide) h12 id, gk (by decide) h13 id, gk (by decide) h14 id, gk (by decide) h15 id, gk (by decide) h16 id, gk (by decide) h17 id, fun _ => rfl, gk (by decide) h19 id, gk (by decide) h20 id, gk (by decide) h21 id, gk (by decide) h22 id, gk (by decide) h23 id, gk (by decide) h24 id, gk (by decide) h25 id, gk (by decide) h26 id⟩
    · intro fuel listed a w hJ hdep K hK
      obtain ⟨t0, t1, t2, t3, t4, t5, t6, t7, t8, t9, t10, t11, t12, t13, t14, t15, t16, t17, t18, t19, t20, t21, t22, t23, s3, s4, Q, rfl, hQ, hS, hF⟩ := hJ
      have d18 := hF.2.2.2.2.2.2.2.2.2.2.2.2.2.2.2.2.2.2.1 (hdep ⟨18, .data⟩ (by simp) rfl)
      subst d18
      clear hdep
      go_simp
      go_at_call 49; refine (pick_in _ _ _ _ hS.rd (by omega) (by omega)).mono ?_; rintro e w' ⟨x, rfl, xa, xb, hr, hg, -⟩; (try dsimp only)
      (try simp only [Act.put, List.setIfInBounds_toArray, List.set_cons_zero, List.set_cons_succ])
      refine hK.out _ _ ⟨_, _, _, _, _, _, _, _, _, _, _, _, _, _, _, _, _, _, _, _, _, _, _, _, _, _, Q + 1, rfl, by omega, hS.pick hr hg, ?_⟩
      have kp := hS.kpg hg
      obtain ⟨h0, h1, h2, h3, h4, h5, h6, h7, h8, h9, h10, h11, h12, h13, h14, h15, h16, h17, h18, h19, h20, h21, h22, h23, h24, h25, h26⟩ := hF
      exact ⟨gk (by decide) h0 id, gk (by decide) h1 id, gk (by decide) h2 id, gk (by decide) h3 id, gk (by decide) h4 id, gk (by decide) h5 (fun x => x.kp kp), gk (by decide) h6 (fun x => x.kp kp), gk (by decide) h7 id, gk (by decide) h8 id, gk (by decide) h9 (fun x => x.kp kp), gk (by decide) h10 id, gk (by decide) h11 (fun x => x.kp kp), gk (by decide) h12 id, gk (by decide) h13 id, gk (by decide) h14 id, gk (by decide) h15 id, gk (by decide) h16 (fun x => x.kp kp), gk (by decide) h17 (fun x => x.kp kp), gk (by decide) h18 id, fun _ => ⟨x, rfl, xa, xb⟩, gk (by decide) h20 (fun x => x.kp kp), gk (by decide) h21 id, gk (by decide) h22 (fun x => x.kp kp), gk (by decide) h23 id, gk (by decide) h24 (fun x => blk_grown hg x hS.ne), gk (by decide) h25 id, gk (by decide) h26 id⟩
    · intro fuel listed a w hJ hdep K hK
      obtain ⟨t0, t1, t2, t3, t4, t5, t6, t7, t8, t9, t10, t11, t12, t13, t14, t15, t16, t17, t18, t19, t20, t21, t22, t23, s3, s4, Q, rfl, hQ, hS, hF⟩ := hJ
      have d17 := hF.2.2.2.2.2.2.2.2.2.2.2.2.2.2.2.2.2.1 (hdep ⟨17, .data⟩ (by simp) rfl)
      have d19 := hF.2.2.2.2.2.2.2.2.2.2.2.2.2.2.2.2.2.2.2.1 (hdep ⟨19, .data⟩ (by simp) rfl)
      obtain ⟨p17, rfl, p17a, p17b, hc17⟩ := d17
      obtain ⟨z19, rfl, z19a, z19b⟩ := d19
      obtain ⟨q19, rfl⟩ := Int.eq_ofNat_of_zero_le z19a
      clear hdep
      obtain ⟨zz, zR, cz⟩ := hc17 q19 (by omega)
      clear hc17
      go_simp
      (try simp only [Act.put, List.setIfInBounds_toArray, List.set_cons_zero, List.set_cons_succ])
      refine hK.out _ _ ⟨_, _, _, _, _, _, _, _, _, _, _, _, _, _, _, _, _, _, _, _, _, _, _, _, _, _, Q, rfl, by omega, hS, ?_⟩
      obtain ⟨h0, h1, h2, h3, h4, h5, h6, h7, h8, h9, h10, h11, h12, h13, h14, h15, h16, h17, h18, h19, h20, h21, h22, h23, h24, h25, h26⟩ := hF
      exact ⟨gk (by decide) h0 id, gk (by decide) h1 id, gk (by decide) h2 id, gk (by decide) h3 id, gk (by decide) h4 id, gk (by decide) h5 id, gk (by decide) h6 id, gk (by decide) h7 id, gk (by decide) h8 id, gk (by decide) h9 id, gk (by decide) h10 id, gk (by decide) h11 id, gk (by decide) h12 id, gk (by decide) h13 id, gk (by decide) h14 id, gk (by decide) h15 id, gk (by decide) h16 id, gk (by decide) h17 id, gk (by decide) h18 id, gk (by decide) h19 id, fun _ => ⟨_, _, rfl, p17a, p17b, zz, zR, cz⟩, gk (by decide) h21 id, gk (by decide) h22 id, gk (by decide) h23 id, gk (by decide) h24 id, gk (by decide) h25 id, gk (by decide) h26 id⟩
    · intro fuel listed a w hJ hdep K hK
      obtain ⟨t0, t1, t2, t3, t4, t5, t6, t7, t8, t9, t10, t11, t12, t13, t14, t15, t16, t17, t18, t19, t20, t21, t22, t23, s3, s4, Q, rfl, hQ, hS, hF⟩ := hJ
      have d20 := hF.2.2.2.2.2.2.2.2.2.2.2.2.2.2.2.2.2.2.2.2.1 (hdep ⟨20, .data⟩ (by simp) rfl)
      obtain ⟨p20, q20, rfl, p20a, p20b, z20, z20R, cz20⟩ := d20
      clear hdep
      obtain ⟨zza, zzb⟩ := z20R
      go_simp
      (try simp only [Act.put, List.setIfInBounds_toArray, List.set_cons_zero, List.set_cons_succ])
      refine hK.out _ _ ⟨_, _, _, _, _, _, _, _, _, _, _, _, _, _, _, _, _, _, _, _, _, _, _, _, _, _, Q, rfl, by omega, hS, ?_⟩
      obtain ⟨h0, h1, h2, h3, h4, h5, h6, h7, h8, h9, h10, h11, h12, h13, h14, h15, h16, h17, h18, h19, h20, h21, h22, h23, h24, h25, h26⟩ := hF
      exact ⟨gk (by decide) h0 id, gk (by decide) h1 id, gk (by decide) h2 id, gk (by decide) h3 id, gk (by decide) h4 id, gk (by decide) h5 id, gk (by decide) h6 id, gk (by decide) h7 id, gk (by decide) h8 id, gk (by decide) h9 id, gk (by decide) h10 id, gk (by decide) h11 id, gk (by decide) h12 id, gk (by decide) h13 id, gk (by decide) h14 id, gk (by decide) h15 id, gk (by decide) h16 id, gk (by decide) h17 id, gk (by decide) h18 id, gk (by decide) h19 id, gk (by decide) h20 id, fun _ => ⟨_, rfl, zza, zzb⟩, gk (by decide) h22 id, gk (by decide) h23 id, gk (by decide) h24 id, gk (by decide) h25 id, gk (by decide) h26 id⟩
    · intro fuel listed a w hJ hdep K hK
      obtain ⟨t0, t1, t2, t3, t4, t5, t6, t7, t8, t9, t10, t11, t12, t13, t14, t15, t16, t17, t18, t19, t20, t21, t22, t23, s3, s4, Q, rfl, hQ, hS, hF⟩ := hJ
      have d16 := hF.2.2.2.2.2.2.2.2.2.2.2.2.2.2.2.2.1 (hdep ⟨16, .data⟩ (by simp) rfl)
      have d21 := hF.2.2.2.2.2.2.2.2.2.2.2.2.2.2.2.2.2.2.2.2.2.1 (hdep ⟨21, .data⟩ (by simp) rfl)
      obtain ⟨p16, rfl, p16a, p16b, hc16⟩ := d16
      obtain ⟨z21, rfl, z21a, z21b⟩ := d21
      obtain ⟨q21, rfl⟩ := Int.eq_ofNat_of_zero_le z21a
      clear hdep
      obtain ⟨zz, zR, cz⟩ := hc16 q21 (by omega)
      clear hc16
      go_simp
      (try simp only [Act.put, List.setIfInBounds_toArray, List.set_cons_zero, List.set_cons_succ])
      refine hK.out _ _ ⟨_, _, _, _, _, _, _, _, _, _, _, _, _, _, _, _, _, _, _, _, _, _, _, _, _, _, Q, rfl, by omega, hS, ?_⟩
      obtain ⟨h0, h1, h2, h3, h4, h5, h6, h7, h8, h9, h10, h11, h12, h13, h14, h15, h16, h17, h18, h19, h20, h21, h22, h23, h24, h25, h26⟩ := hF
      exact ⟨gk (by decide) h0 id, gk (by decide) h1 id, gk (by decide) h2 id, gk (by decide) h3 id, gk (by decide) h4 id, gk (by decide) h5 id, gk (by decide) h6 id, gk (by decide) h7 id, gk (by decide) h8 id, gk (by decide) h9 id, gk (by decide) h10 id, gk (by decide) h11 id, gk (by decide) h12 id, gk (by decide) h13 id, gk (by decide) h14 id, gk (by decide) h15 id, gk (by decide) h16 id, gk (by decide) h17 id, gk (by decide) h18 id, gk (by decide) h19 id, gk (by decide) h20 id, gk (by decide) h21 id, fun _ => ⟨_, _, rfl, p16a, p16b, zz, zR, cz⟩, gk (by decide) h23 id, gk (by decide) h24 id, gk (by decide) h25 id, gk (by decide) h26 id⟩
    · intro fuel listed a w hJ hdep K hK
      obtain ⟨t0, t1, t2, t3, t4, t5, t6, t7, t8, t9, t10, t11, t12, t13, t14, t15, t16, t17, t18, t19, t20, t21, t22, t23, s3, s4, Q, rfl, hQ, hS, hF⟩ := hJ
      have d22 := hF.2.2.2.2.2.2.2.2.2.2.2.2.2.2.2.2.2.2.2.2.2.2.1 (hdep ⟨22, .data⟩ (by simp) rfl)
      obtain ⟨p22, q22, rfl, p22a, p22b, z22, z22R, cz22⟩ := d22
      clear hdep
      go_simp
      (try simp only [Act.put, List.setIfInBounds_toArray, List.set_cons_zero, List.set_cons_succ])
      refine hK.out _ _ ⟨_, _, _, _, _, _, _, _, _, _, _, _, _, _, _, _, _, _, _, _, _, _, _, _, _, _, Q, rfl, by omega, hS, ?_⟩
      obtain ⟨h0, h1, h2, h3, h4, h5, h6, h7, h8, h9, h10, h11, h12, h13, h14, h15, h16, h17, h18, h19, h20, h21, h22, h23, h24, h25, h26⟩ := hF
      exact ⟨gk (by decide) h0 id, gk (by decide) h1 id, gk (by decide) h2 id, gk (by decide) h3 id, gk (by decide) h4 id, gk (by decide) h5 id, gk (by decide) h6 id, gk (by decide) h7 id, gk (by decide) h8 id, gk (by decide) h9 id, gk (by decide) h10 id, gk (by decide) h11 id, gk (by decide) h12 id, gk (by decide) h13 id, gk (by decide) h14 id, gk (by decide) h15 id, gk (by decide) h16 id, gk (by decide) h17 id, gk (by decide) h18 id, gk (by decide) h19 id, gk (by decide) h20 id, gk (by decide) h21 id, gk (by decide) h22 id, fun _ => ⟨_, rfl, trivial⟩, gk (by decide) h24 id, gk (by decide) h25 id, gk (by decide) h26 id⟩
    · intro fuel listed a w hJ hdep K hK
      obtain ⟨t0, t1, t2, t3, t4, t5, t6, t7, t8, t9, t10, t11, t12, t13, t14, t15, t16, t17, t18, t19, t20, t21, t22, t23, s3, s4, Q, rfl, hQ, hS, hF⟩ := hJ
      have d0 := hF.1 (hdep ⟨0, .data⟩ (by simp) rfl)
      subst d0
      clear hdep
      obtain ⟨ra, rb2, B2⟩ := hS.b2
      obtain ⟨r0, r1, f0, f1⟩ := B2.two
      replace B2 := Lib.hid B2
      go_simp
      (try simp only [Act.put, List.setIfInBounds_toArray, List.set_cons_zero, List.set_cons_succ])
      refine hK.out _ _ ⟨_, _, _, _, _, _, _, _, _, _, _, _, _, _, _, _, _, _, _, _, _, _, _, _, _, _, Q, rfl, by omega, hS.store _ _, ?_⟩
      have kp := hS.kps (.int .i64 n) (.int .i64 v)
      obtain ⟨h0, h1, h2, h3, h4, h5, h6, h7, h8, h9, h10, h11, h12, h13, h14, h15, h16, h17, h18, h19, h20, h21, h22, h23, h24, h25, h26⟩ := hF
      exact ⟨gk (by decide) h0 id, gk (by decide) h1 id, gk (by decide) h2 id, gk (by decide) h3 id, gk (by decide) h4 id, gk (by decide) h5 (fun x => x.kp kp), gk (by decide) h6 (fun x => x.kp kp), gk (by decide) h7 id, gk (by decide) h8 id, gk (by decide) h9 (fun x => x.kp kp), gk (by decide) h10 id, gk (by decide) h11 (fun x => x.kp kp), gk (by decide) h12 id, gk (by decide) h13 id, gk (by decide) h14 id, gk (by decide) h15 id, gk (by decide) h16 (fun x => x.kp kp), gk (by decide) h17 (fun x => x.kp kp), gk (by decide) h18 id, gk (by decide) h19 id, gk (by decide) h20 (fun x => x.kp kp), gk (by decide) h21 id, gk (by decide) h22 (fun x => x.kp kp), gk (by decide) h23 id, fun _ => (B2.out.set 0 (.int .i64 n)).set 1 (.int .i64 v), gk (by decide) h25 id, gk (by decide) h26 id⟩
    · intro fuel listed a w hJ hdep K hK
      obtain ⟨t0, t1, t2, t3, t4, t5, t6, t7, t8, t9, t10, t11, t12, t13, t14, t15, t16, t17, t18, t19, t20, t21, t22, t23, s3, s4, Q, rfl, hQ, hS, hF⟩ := hJ
      have d12 := hF.2.2.2.2.2.2.2.2.2.2.2.2.1 (hdep ⟨12, .data⟩ (by simp) rfl)
      obtain ⟨z12, rfl, -⟩ := d12
      clear hdep
      go_simp
      (try simp only [Act.put, List.setIfInBounds_toArray, List.set_cons_zero, List.set_cons_succ])
      refine hK.out _ _ ⟨_, _, _, _, _, _, _, _, _, _, _, _, _, _, _, _, _, _, _, _, _, _, _, _, _, _, Q, rfl, by omega, hS, ?_⟩
      obtain ⟨h0, h1, h2, h3, h4, h5, h6, h7, h8, h9, h10, h11, h12, h13, h14, h15, h16, h17, h18, h19, h20, h21, h22, h23, h24, h25, h26⟩ := hF
      exact ⟨gk (by decide) h0 id, gk (by decide) h1 id, gk (by decide) h2 id, gk (by decide) h3 id, gk (by decide) h4 id, gk (by decide) h5 id, gk (by decide) h6 id, gk (by decide) h7 id, gk (by decide) h8 id, gk (by decide) h9 id, gk (by decide) h10 id, gk (by decide) h11 id, gk (by decide) h12 id, gk (by decide) h13 id, gk (by decide) h14 id, gk (by decide) h15 id, gk (by decide) h16 id, gk (by decide) h17 id, gk (by decide) h18 id, gk (by decide) h19 id, gk (by decide) h20 id, gk (by decide) h21 id, gk (by decide) h22 id, gk (by decide) h23 id, gk (by decide) h24 id, fun _ => ⟨_, rfl, trivial⟩, gk (by decide) h26 id⟩
    · intro fuel listed a w hJ hdep K hK
      obtain ⟨t0, t1, t2, t3, t4, t5, t6, t7, t8, t9, t10, t11, t12, t13, t14, t15, t16, t17, t18, t19, t20, t21, t22, t23, s3, s4, Q, rfl, hQ, hS, hF⟩ := hJ
      have d23 := hF.2.2.2.2.2.2.2.2.2.2.2.2.2.2.2.2.2.2.2.2.2.2.2.1 (hdep ⟨23, .data⟩ (by simp) rfl)
      obtain ⟨z23, rfl, -⟩ := d23
      clear hdep
      go_simp
      (try simp only [Act.put, List.setIfInBounds_toArray, List.set_cons_zero, List.set_cons_succ])
      refine hK.out _ _ ⟨_, _, _, _, _, _, _, _, _, _, _, _, _, _, _, _, _, _, _, _, _, _, _, _, _, _, Q, rfl, by omega, hS, ?_⟩
      obtain ⟨h0, h1, h2, h3, h4, h5, h6, h7, h8, h9, h10, h11, h12, h13, h14, h15, h16, h17, h18, h19, h20, h21, h22, h23, h24, h25, h26⟩ := hF
      exact ⟨gk (by decide) h0 id, gk (by decide) h1 id, gk (by decide) h2 id, gk (by decide) h3 id, gk (by decide) h4 id, gk (by decide) h5 id, gk (by decide) h6 id, gk (by decide) h7 id, gk (by decide) h8 id, gk (by decide) h9 id, gk (by decide) h10 id, gk (by decide) h11 id, gk (by decide) h12 id, gk (by decide) h13 id, gk (by decide) h14 id, gk (by decide) h15 id, gk (by decide) h16 id, gk (by decide) h17 id, gk (by decide) h18 id, gk (by decide) h19 id, gk (by decide) h20 id, gk (by decide) h21 id, gk (by decide) h22 id, gk (by decide) h23 id, gk (by decide) h24 id, gk (by decide) h25 id, fun _ => ⟨_, rfl, trivial⟩⟩
  case he =>
    clear ST
    intro fuel listed a w hJ hall
    obtain ⟨t0, t1, t2, t3, t4, t5, t6, t7, t8, t9, t10, t11, t12, t13, t14, t15, t16, t17, t18, t19, t20, t21, t22, t23, s3, s4, Q, rfl, hQ, hS, hF⟩ := hJ
    have d24 := hF.2.2.2.2.2.2.2.2.2.2.2.2.2.2.2.2.2.2.2.2.2.2.2.2.1 (hall 24 (by decide))
    have d25 := hF.2.2.2.2.2.2.2.2.2.2.2.2.2.2.2.2.2.2.2.2.2.2.2.2.2.1 (hall 25 (by decide))
    have d26 := hF.2.2.2.2.2.2.2.2.2.2.2.2.2.2.2.2.2.2.2.2.2.2.2.2.2.2 (hall 26 (by decide))
    clear hF hall
    obtain ⟨z25, rfl, -⟩ := d25
    obtain ⟨z26, rfl, -⟩ := d26
    obtain ⟨r0, r1, f0, f1⟩ := d24.two
    have Z := Lib.hid (show DrawnRN W (.returned (.tuple #[.agg #[.int .i64 n, .int .i64 v], .int .i64 z25, .int .i64 z26])) w from ⟨n, v, z25, z26, rfl, hS.bw⟩)
    clear hS d24 hQ
    go_wp2
    exact bodyPost_ret (v := .tuple #[.agg #[.int .i64 n, .int .i64 v], .int .i64 z25, .int .i64 z26]) (by simp [results, Try.results24, go_sem, *]) rfl Z.out
end Go.Proofs.Ytpfbkmpjneclpaa
