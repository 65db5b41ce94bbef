/- The draw of FnAppendTransaction. -/
import Derived.Test.YthghngphamimgaaDrJ
import Derived.Test.YthghngphamimgaaDrD2
import Derived.Test.YthghngphamimgaaRegZ
namespace Go.Proofs.Ythghngphamimgaa
open Go.RowKit
set_option linter.unusedVariables false

theorem wpAnyZ_more {P : Program} {ops : Array Oper} {Q : Exit → Act → World → Prop} {md : Region.Mode} {S S' : World → Prop} {z : Nat} (h : ∀ w, S' w → S w) : ∀ (fuel : Nat) (listed : Array Bool) (a : Act) (w : World), wpAnyZ P md ops Q S' z fuel listed a w → wpAnyZ P md ops Q S z fuel listed a w
  | 0, _, _, _, hw => hw
  | fuel + 1, _, _, _, hw => ⟨hw.1, fun i hi => wpOp_mono (fun a' w' h' => ⟨h'.1.imp id (h w'), wpAnyZ_more h fuel _ a' w' h'.2⟩) (hw.2 i hi)⟩
theorem takeB {P : Program} {ops : Array Oper} {K : Act → World → Prop} {f : Func} {R : Ending → World → Prop} {md : Region.Mode} {S : World → Prop} {z i : Nat} {oi : Oper} {v : Value} {fuel : Nat} {listed : Array Bool} {a : Act} {w : World} (hi : ops[i]? = some oi)
    (hs : Region.noSelect ops = true) (hwt : waitsFor md ops z i = true) (hf : Region.free md ops listed i = true) (hr : (Region.ready md ops listed).contains i = true) (hy : YieldsIf P ops S oi v a) (hS : S w)
    (h : wpAnyZ P md ops (Exit.then K (bodyPost P f R)) S z fuel (listed.setIfInBounds i true) (a.put oi.dst v) w) : wpAnyZ P md ops (Exit.then K (bodyPost P f R)) S z (fuel + 1) listed a w :=
  wpAnyZ_take (v := v) hi hs hwt hf hr (fun c a' w' h' => by cases hd : oi.dst <;> rw [hd] at h' <;> exact h') hy hS h
theorem ckD {w w' : World} {p : Addr} {v : Value} (h : w.cell? p = some v) (hb : Below w.heap.size w w') : w'.cell? p = some v :=
  (World.cell?_of_block (hb.block _ (block_lt_of_cell h))).trans h
theorem cgD {w w' : World} {p : Addr} {v : Value} {row : Option Nat} (h : w.cell? p = some v) (hg : w.grownBy w' row) (hne : some p.block ≠ row) : w'.cell? p = some v :=
  (World.cell?_of_block (hg.block _ (block_lt_of_cell h) hne)).trans h
abbrev o7 : Obj := .cells #[.int .i64 0, .int .i64 0, .int .i64 0, .int .i64 0, .int .i64 1, .int .i64 2] 3
abbrev o6 (x0 x1 : Int) : Obj := .cells #[.int .i64 (8 + x0), .int .i64 x1, .int .i64 41] 3
def Is7 (p : Nat) (u : World) : Prop := ∀ i, i < 6 → ∃ z : Nat, z < 3 ∧ u.cell? ⟨p, i, none⟩ = some (.int .i64 (z : Int))
def Is6 (p : Nat) (u : World) : Prop := ∀ i, i < 3 → ∃ z : Int, 0 ≤ z ∧ z ≤ 41 ∧ u.cell? ⟨p, i, none⟩ = some (.int .i64 z)
theorem lit7 (u : World) : Is7 u.heap.size (u.alloc o7) := by
  intro i hi
  have hc := cell_of_row (u.alloc o7) u.heap.size i #[.int .i64 0, .int .i64 0, .int .i64 0, .int .i64 0, .int .i64 1, .int .i64 2] 3 (0, 0) (heap_alloc_new u _)
  have hi' : i = 0 ∨ i = 1 ∨ i = 2 ∨ i = 3 ∨ i = 4 ∨ i = 5 := by omega
  rcases hi' with rfl | rfl | rfl | rfl | rfl | rfl
  · exact ⟨0, by omega, hc⟩
  · exact ⟨0, by omega, hc⟩
  · exact ⟨0, by omega, hc⟩
  · exact ⟨0, by omega, hc⟩
  · exact ⟨1, by omega, hc⟩
  · exact ⟨2, by omega, hc⟩
theorem lit6 (u : World) (x0 x1 : Int) (h0 : 0 ≤ x0) (h1 : x0 < 20) (h2 : 0 ≤ x1) (h3 : x1 < 6) : Is6 u.heap.size (u.alloc (o6 x0 x1)) := by
  intro i hi
  have hc := cell_of_row (u.alloc (o6 x0 x1)) u.heap.size i #[.int .i64 (8 + x0), .int .i64 x1, .int .i64 41] 3 (0, 0) (heap_alloc_new u _)
  have hi' : i = 0 ∨ i = 1 ∨ i = 2 := by omega
  rcases hi' with rfl | rfl | rfl
  · exact ⟨8 + x0, by omega, by omega, hc⟩
  · exact ⟨x1, by omega, by omega, hc⟩
  · exact ⟨41, by omega, by omega, hc⟩
theorem Is7.pick {p r : Nat} {u v : World} (h : Is7 p u) (hg : u.grownBy v (some r)) (hne : ¬ (p = r)) : Is7 p v := fun i hi => by
  obtain ⟨z, h1, h2⟩ := h i hi
  exact ⟨z, h1, cgD h2 hg (fun e => hne (by injection e))⟩
theorem Is6.pick {p r : Nat} {u v : World} (h : Is6 p u) (hg : u.grownBy v (some r)) (hne : ¬ (p = r)) : Is6 p v := fun i hi => by
  obtain ⟨z, h0, h1, h2⟩ := h i hi
  exact ⟨z, h0, h1, cgD h2 hg (fun e => hne (by injection e))⟩
theorem Is7.alloc {p : Nat} {u : World} (h : Is7 p u) (o : Obj) : Is7 p (u.alloc o) := fun i hi => by
  obtain ⟨z, h1, h2⟩ := h i hi
  exact ⟨z, h1, ckD h2 (b_alloc (Below.refl _ _) _)⟩
theorem Is6.alloc {p : Nat} {u : World} (h : Is6 p u) (o : Obj) : Is6 p (u.alloc o) := fun i hi => by
  obtain ⟨z, h0, h1, h2⟩ := h i hi
  exact ⟨z, h0, h1, ckD h2 (b_alloc (Below.refl _ _) _)⟩
/-- The drawn list in memory of the call's own; the reader has made at most Q steps. -/
structure AT (W : World) (b : Nat) (A2 : Option Addr) (c2 : Nat) (l : List Rc) (Q : Nat) (u : World) : Prop where
  lt : W.heap.size < b
  lr : u.ownsRow b 33 4 (.slice A2 l.length c2) l.length (recC l)
  bw : Below W.heap.size W u
  rd : RdAt u W.heap.size Q
  sz : W.heap.size < u.heap.size
section
variable {W u v : World} {b c2 Q Q' : Nat} {A2 : Option Addr} {l : List Rc}
theorem AT.pick (h : AT W b A2 c2 l Q u) (hr : RdAt v W.heap.size Q') (hg : u.grownBy v (some W.heap.size)) : AT W b A2 c2 l Q' v :=
  ⟨h.lt, own_block h.lr (fun g hq => hg.block g (h.lr.lt g hq).2 (fun e => by injection e with e; have := (h.lr.lt g hq).1; have := h.lt; omega)), bgrown h.bw hg (Nat.le_refl _), hr, by have := h.sz; have := hg.size; omega⟩
theorem AT.alloc (h : AT W b A2 c2 l Q u) (o : Obj) : AT W b A2 c2 l Q (u.alloc o) :=
  ⟨h.lt, h.lr.alloc o, b_alloc h.bw o, h.rd.alloc o, by have := h.sz; rw [World.size_alloc]; omega⟩
def DrawnAT (W : World) (e : Ending) (w' : World) : Prop :=
  ∃ (A : Option Addr) (c : Nat) (l : List Rc) (n a : Int) (B : Option Addr) (cb : Nat) (vs : List Int), e = .returned (.tuple #[.slice A l.length c, .int .i64 n, .int .i64 a, .slice B vs.length cb]) ∧ RowR w' W.heap.size A c l ∧ l.length ≤ 41 ∧ w'.ownsRow W.heap.size 3 1 (.slice B vs.length cb) vs.length (vs.map (Value.int .i64)) ∧ vs.length ≤ 65 ∧ 0 ≤ n ∧ n ≤ 41 ∧ -1 ≤ a ∧ a ≤ 11 ∧ Below W.heap.size W w'
theorem at_fin {AD : Option Addr} {cD : Nat} {vs : List Int} {num x3 x4 : Int} (h : AT W b A2 c2 l Q u) (o : u.ownsRow W.heap.size 3 1 (.slice AD vs.length cD) vs.length (vs.map (Value.int .i64))) (hl : l.length ≤ 41) (hv : vs.length ≤ 65) (n0 : 0 ≤ num) (n1 : num ≤ 41)
    (a0 : 0 ≤ x3) (a1 : x3 < 12) (b0 : 0 ≤ x4) (b1 : x4 < 12) : DrawnAT W (.returned (.tuple #[.slice A2 l.length c2, .int .i64 num, .int .i64 (x3 - x4 / 11), .slice AD vs.length cD])) u :=
  ⟨A2, c2, l, num, x3 - x4 / 11, AD, cD, vs, rfl, own_mono h.lr (by have := h.lt; omega), hl, o, hv, by omega, by omega, by omega, by omega, h.bw⟩
theorem at_num {x3 x4 : Int} (a0 : 0 ≤ x3) (a1 : x3 < 12) (b0 : 0 ≤ x4) (b1 : x4 < 12) : IntKind.i64.wrap (x4.tdiv 11) = x4 / 11 ∧ IntKind.i64.wrap (x3 - x4 / 11) = x3 - x4 / 11 :=
  ⟨by rw [Int.tdiv_eq_ediv_of_nonneg b0]; exact IntWalk.i64_in _ (by omega), IntWalk.i64_in _ (by omega)⟩
end
set_option linter.unusedSimpArgs false in
set_option maxRecDepth 100000 in
set_option maxHeartbeats 40000000 in
theorem drawAT_any (A : Option Addr) (m c : Nat) (W : World) (hb : BytesIn W A m) (hmc : m ≤ c) (hc : c ≤ 9223372036854775807) :
    Calls Try.prog 34 #[.slice A m c] W (DrawnAT W) := by
 go_enter Try.func34, Try.ntmps34
 go_wp2_with fail
 refine (open_any A m c W hb hmc hc).mono ?_
 rintro e w1 ⟨rfl, hr, hb1, hs1⟩
 have hz1 := hb1.size
 have hrl := hr.lt
 go_wp2_with fail
 refine (l20Journal_any W.heap.size 0 12 14 _ hr (by omega) (by omega) (by omega)).mono ?_
 rintro e w2 ⟨A2, c2, l, rfl, hrow, hl, hnum, hg2, Q, hr2, hQ⟩
 have hz2 := hg2.size
 have ST := Lib.hid (show AT W w1.heap.size A2 c2 l Q w2.drew from ⟨hrl, hrow, b_drew (bgrown hb1 hg2 (Nat.le_refl _)), hr2.drew, by show W.heap.size < w2.heap.size; omega⟩)
 clear hr hb1 hg2 hr2 hrow hnum hs1 hz1 hz2 hrl
 go_wp2
 refine wp_region_Z (fun _ : World => True) 99 (by kernel_rfl) ?_
 generalize hv0 : w2.drew = u at *
 clear hv0
 refine takeB (i := 0) (oi := ?_) (v := ?_) ?_ (by kernel_rfl) (by kernel_rfl) (by kernel_rfl) (by kernel_rfl) ?_ trivial ?_
 rotate_left 2
 · simp only [List.getElem?_toArray, List.getElem?_cons_succ, List.getElem?_cons_zero]; rfl
 · (refine Or.inl ⟨by rfl, ?_⟩; intro w h; (try dsimp only at h); go_simp; (try with_reducible rfl))
 simp only [Act.put, List.setIfInBounds_toArray, List.set_cons_zero, List.set_cons_succ]
 refine takeB (i := 1) (oi := ?_) (v := ?_) ?_ (by kernel_rfl) (by kernel_rfl) (by kernel_rfl) (by kernel_rfl) ?_ trivial ?_
 rotate_left 2
 · simp only [List.getElem?_toArray, List.getElem?_cons_succ, List.getElem?_cons_zero]; rfl
 · (refine Or.inl ⟨by rfl, ?_⟩; intro w h; (try dsimp only at h); go_simp; (try with_reducible rfl))
 simp only [Act.put, List.setIfInBounds_toArray, List.set_cons_zero, List.set_cons_succ]
 refine takeB (i := 4) (oi := ?_) (v := ?_) ?_ (by kernel_rfl) (by kernel_rfl) (by kernel_rfl) (by kernel_rfl) ?_ trivial ?_
 rotate_left 2
 · simp only [List.getElem?_toArray, List.getElem?_cons_succ, List.getElem?_cons_zero]; rfl
 · (refine Or.inl ⟨by rfl, ?_⟩; intro w h; (try dsimp only at h); go_simp; (try with_reducible rfl))
 simp only [Act.put, List.setIfInBounds_toArray, List.set_cons_zero, List.set_cons_succ]
 refine takeB (i := 8) (oi := ?_) (v := ?_) ?_ (by kernel_rfl) (by kernel_rfl) (by kernel_rfl) (by kernel_rfl) ?_ trivial ?_
 rotate_left 2
 · simp only [List.getElem?_toArray, List.getElem?_cons_succ, List.getElem?_cons_zero]; rfl
 · (refine Or.inl ⟨by rfl, ?_⟩; intro w h; (try dsimp only at h); go_simp; (try with_reducible rfl))
 simp only [Act.put, List.setIfInBounds_toArray, List.set_cons_zero, List.set_cons_succ]
 refine takeB (i := 14) (oi := ?_) (v := ?_) ?_ (by kernel_rfl) (by kernel_rfl) (by kernel_rfl) (by kernel_rfl) ?_ trivial ?_
 rotate_left 2
 · simp only [List.getElem?_toArray, List.getElem?_cons_succ, List.getElem?_cons_zero]; rfl
 · (refine Or.inl ⟨by rfl, ?_⟩; intro w h; (try dsimp only at h); go_simp; (try with_reducible rfl))
 simp only [Act.put, List.setIfInBounds_toArray, List.set_cons_zero, List.set_cons_succ]
 refine takeB (i := 16) (oi := ?_) (v := ?_) ?_ (by kernel_rfl) (by kernel_rfl) (by kernel_rfl) (by kernel_rfl) ?_ trivial ?_
 rotate_left 2
 · simp only [List.getElem?_toArray, List.getElem?_cons_succ, List.getElem?_cons_zero]; rfl
 · (refine Or.inl ⟨by rfl, ?_⟩; intro w h; (try dsimp only at h); go_simp; (try with_reducible rfl))
 simp only [Act.put, List.setIfInBounds_toArray, List.set_cons_zero, List.set_cons_succ]
 refine takeB (i := 20) (oi := ?_) (v := ?_) ?_ (by kernel_rfl) (by kernel_rfl) (by kernel_rfl) (by kernel_rfl) ?_ trivial ?_
 rotate_left 2
 · simp only [List.getElem?_toArray, List.getElem?_cons_succ, List.getElem?_cons_zero]; rfl
 · (refine Or.inl ⟨by rfl, ?_⟩; intro w h; (try dsimp only at h); go_simp; (try with_reducible rfl))
 simp only [Act.put, List.setIfInBounds_toArray, List.set_cons_zero, List.set_cons_succ]
 refine wpAnyZ_ready (rs := [2, 7]) (by kernel_rfl) (by simp) ?_
 refine AllZ.cons (i := 2) (o := ?_) ?_ (fun K hK => ?_) ?_
 rotate_left 1
 · simp only [List.getElem?_toArray, List.getElem?_cons_succ, List.getElem?_cons_zero]; rfl
 go_simp
 go_at_call 44; refine (pick_in _ _ _ _ ST.out.rd (by omega) (by omega)).mono ?_; rintro e u ⟨x0, rfl, x0a, x0b, hr, hg, -⟩; (try dsimp only)
 refine hK.out _ _ (.inr trivial) ?_
 clear hK K
 (try simp only [Act.put, List.setIfInBounds_toArray, List.set_cons_zero, List.set_cons_succ])
 replace ST := Lib.hid (ST.out.pick hr hg)
 clear hr hg
 have e8 : IntKind.i64.wrap (8 + x0) = 8 + x0 := IntWalk.i64_in _ (by omega)
 refine takeB (i := 3) (oi := ?_) (v := ?_) ?_ (by kernel_rfl) (by kernel_rfl) (by kernel_rfl) (by kernel_rfl) ?_ trivial ?_
 rotate_left 2
 · simp only [List.getElem?_toArray, List.getElem?_cons_succ, List.getElem?_cons_zero]; rfl
 · (refine Or.inl ⟨by rfl, ?_⟩; intro w h; (try dsimp only at h); go_simp; (try with_reducible rfl))
 simp only [Act.put, List.setIfInBounds_toArray, List.set_cons_zero, List.set_cons_succ]
 (try rw [e8])
 clear e8
 refine wpAnyZ_ready (rs := [5, 7]) (by kernel_rfl) (by simp) ?_
 refine AllZ.cons (i := 5) (o := ?_) ?_ (fun K hK => ?_) ?_
 rotate_left 1
 · simp only [List.getElem?_toArray, List.getElem?_cons_succ, List.getElem?_cons_zero]; rfl
 go_simp
 go_at_call 44; refine (pick_in _ _ _ _ ST.out.rd (by omega) (by omega)).mono ?_; rintro e u ⟨x1, rfl, x1a, x1b, hr, hg, -⟩; (try dsimp only)
 refine hK.out _ _ (.inr trivial) ?_
 clear hK K
 (try simp only [Act.put, List.setIfInBounds_toArray, List.set_cons_zero, List.set_cons_succ])
 replace ST := Lib.hid (ST.out.pick hr hg)
 clear hr hg
 refine wpAnyZ_ready (rs := [6, 7, 9]) (by kernel_rfl) (by simp) ?_
 refine AllZ.cons (i := 6) (o := ?_) ?_ (fun K hK => ?_) ?_
 rotate_left 1
 · simp only [List.getElem?_toArray, List.getElem?_cons_succ, List.getElem?_cons_zero]; rfl
 go_simp
 refine hK.out _ _ (.inr trivial) ?_
 clear hK K
 (try simp only [Act.put, List.setIfInBounds_toArray, List.set_cons_zero, List.set_cons_succ])
 have r6 : ¬ (u.heap.size = W.heap.size) := by have := ST.out.sz; omega
 have C6 := Lib.hid (lit6 u x0 x1 (by omega) (by omega) (by omega) (by omega))
 replace ST := Lib.hid (ST.out.alloc (o6 x0 x1))
 obtain ⟨p6, h6⟩ : ∃ p, p = u.heap.size := ⟨_, rfl⟩
 generalize hv : u.alloc (o6 x0 x1) = u at *
 rw [← h6] at C6 r6 ⊢
 clear hv h6
 refine wpAnyZ_ready (rs := [7, 9]) (by kernel_rfl) (by simp) ?_
 refine AllZ.cons (i := 7) (o := ?_) ?_ (fun K hK => ?_) ?_
 rotate_left 1
 · simp only [List.getElem?_toArray, List.getElem?_cons_succ, List.getElem?_cons_zero]; rfl
 go_simp
 refine hK.out _ _ (.inr trivial) ?_
 clear hK K
 (try simp only [Act.put, List.setIfInBounds_toArray, List.set_cons_zero, List.set_cons_succ])
 have r7 : ¬ (u.heap.size = W.heap.size) := by have := ST.out.sz; omega
 replace C6 := Lib.hid (C6.out.alloc o7)
 have C7 := Lib.hid (lit7 u)
 replace ST := Lib.hid (ST.out.alloc o7)
 obtain ⟨p7, h7⟩ : ∃ p, p = u.heap.size := ⟨_, rfl⟩
 generalize hv : u.alloc o7 = u at *
 rw [← h7] at C7 r7 ⊢
 clear hv h7
 all_goals skip
 rotate_left 1
 refine AllZ.cons (i := 9) (o := ?_) ?_ (fun K hK => ?_) ?_
 rotate_left 1
 · simp only [List.getElem?_toArray, List.getElem?_cons_succ, List.getElem?_cons_zero]; rfl
 go_simp
 go_at_call 44; refine (pick_in _ _ _ _ ST.out.rd (by omega) (by omega)).mono ?_; rintro e u ⟨x2, rfl, x2a, x2b, hr, hg, -⟩; (try dsimp only)
 refine hK.out _ _ (.inr trivial) ?_
 clear hK K
 (try simp only [Act.put, List.setIfInBounds_toArray, List.set_cons_zero, List.set_cons_succ])
 replace ST := Lib.hid (ST.out.pick hr hg)
 replace C6 := Lib.hid (C6.out.pick hg r6)
 clear hr hg
 obtain ⟨q2, e2⟩ : ∃ q2 : Nat, x2 = (q2 : Int) := ⟨x2.toNat, by omega⟩
 subst e2
 have hq2 : q2 < 6 := by omega
 have hq0 : (0 : Int) ≤ (q2 : Int) := by omega
 have hq1 : (q2 : Int) < 6 := by omega
 refine wpAnyZ_ready (rs := [7, 15]) (by kernel_rfl) (by simp) ?_
 refine AllZ.cons (i := 7) (o := ?_) ?_ (fun K hK => ?_) ?_
 rotate_left 1
 · simp only [List.getElem?_toArray, List.getElem?_cons_succ, List.getElem?_cons_zero]; rfl
 go_simp
 refine hK.out _ _ (.inr trivial) ?_
 clear hK K
 (try simp only [Act.put, List.setIfInBounds_toArray, List.set_cons_zero, List.set_cons_succ])
 have r7 : ¬ (u.heap.size = W.heap.size) := by have := ST.out.sz; omega
 replace C6 := Lib.hid (C6.out.alloc o7)
 have C7 := Lib.hid (lit7 u)
 replace ST := Lib.hid (ST.out.alloc o7)
 obtain ⟨p7, h7⟩ : ∃ p, p = u.heap.size := ⟨_, rfl⟩
 generalize hv : u.alloc o7 = u at *
 rw [← h7] at C7 r7 ⊢
 clear hv h7
 obtain ⟨z, hz3, cq⟩ := C7.out q2 hq2
 have hz0 : (0 : Int) ≤ (z : Int) := by omega
 have hz1 : (z : Int) < 3 := by omega
 refine wpAnyZ_more (S' := fun w' : World => w'.cell? ⟨p7, q2, none⟩ = some (.int .i64 (z : Int))) (fun _ _ => trivial) _ _ _ _ ?_
 refine takeB (i := 10) (oi := ?_) (v := ?_) ?_ (by kernel_rfl) (by kernel_rfl) (by kernel_rfl) (by kernel_rfl) ?_ cq ?_
 rotate_left 2
 · simp only [List.getElem?_toArray, List.getElem?_cons_succ, List.getElem?_cons_zero]; rfl
 · (refine Or.inl ⟨by rfl, ?_⟩; intro w h; (try dsimp only at h); go_simp; (try with_reducible rfl))
 simp only [Act.put, List.setIfInBounds_toArray, List.set_cons_zero, List.set_cons_succ]
 refine takeB (i := 11) (oi := ?_) (v := ?_) ?_ (by kernel_rfl) (by kernel_rfl) (by kernel_rfl) (by kernel_rfl) ?_ cq ?_
 rotate_left 2
 · simp only [List.getElem?_toArray, List.getElem?_cons_succ, List.getElem?_cons_zero]; rfl
 · (refine Or.inl ⟨by rfl, ?_⟩; intro w h; (try dsimp only at h); go_simp; (try with_reducible rfl))
 simp only [Act.put, List.setIfInBounds_toArray, List.set_cons_zero, List.set_cons_succ]
 obtain ⟨num, n0, n1, cz⟩ := C6.out z hz3
 refine wpAnyZ_more (S' := fun w' : World => w'.cell? ⟨p7, q2, none⟩ = some (.int .i64 (z : Int)) ∧ w'.cell? ⟨p6, z, none⟩ = some (.int .i64 num)) (fun _ h => h.1) _ _ _ _ ?_
 refine takeB (i := 12) (oi := ?_) (v := ?_) ?_ (by kernel_rfl) (by kernel_rfl) (by kernel_rfl) (by kernel_rfl) ?_ ⟨cq, cz⟩ ?_
 rotate_left 2
 · simp only [List.getElem?_toArray, List.getElem?_cons_succ, List.getElem?_cons_zero]; rfl
 · (refine Or.inl ⟨by rfl, ?_⟩; intro w h; (try dsimp only at h); go_simp; (try with_reducible rfl))
 simp only [Act.put, List.setIfInBounds_toArray, List.set_cons_zero, List.set_cons_succ]
 refine takeB (i := 13) (oi := ?_) (v := ?_) ?_ (by kernel_rfl) (by kernel_rfl) (by kernel_rfl) (by kernel_rfl) ?_ ⟨cq, cz⟩ ?_
 rotate_left 2
 · simp only [List.getElem?_toArray, List.getElem?_cons_succ, List.getElem?_cons_zero]; rfl
 · (refine Or.inl ⟨by rfl, ?_⟩; intro w h; (try dsimp only at h); go_simp; (try with_reducible rfl))
 simp only [Act.put, List.setIfInBounds_toArray, List.set_cons_zero, List.set_cons_succ]
 all_goals skip
 rotate_left 1
 refine AllZ.cons (i := 15) (o := ?_) ?_ (fun K hK => ?_) ?_
 rotate_left 1
 · simp only [List.getElem?_toArray, List.getElem?_cons_succ, List.getElem?_cons_zero]; rfl
 go_simp
 go_at_call 44; refine (pick_in _ _ _ _ ST.out.rd (by omega) (by omega)).mono ?_; rintro e u ⟨x3, rfl, x3a, x3b, hr, hg, -⟩; (try dsimp only)
 refine hK.out _ _ (.inr trivial) ?_
 clear hK K
 (try simp only [Act.put, List.setIfInBounds_toArray, List.set_cons_zero, List.set_cons_succ])
 replace ST := Lib.hid (ST.out.pick hr hg)
 replace C6 := Lib.hid (C6.out.pick hg r6)
 clear hr hg
 refine wpAnyZ_ready (rs := [7, 17]) (by kernel_rfl) (by simp) ?_
 refine AllZ.cons (i := 7) (o := ?_) ?_ (fun K hK => ?_) ?_
 rotate_left 1
 · simp only [List.getElem?_toArray, List.getElem?_cons_succ, List.getElem?_cons_zero]; rfl
 go_simp
 refine hK.out _ _ (.inr trivial) ?_
 clear hK K
 (try simp only [Act.put, List.setIfInBounds_toArray, List.set_cons_zero, List.set_cons_succ])
 have r7 : ¬ (u.heap.size = W.heap.size) := by have := ST.out.sz; omega
 replace C6 := Lib.hid (C6.out.alloc o7)
 have C7 := Lib.hid (lit7 u)
 replace ST := Lib.hid (ST.out.alloc o7)
 obtain ⟨p7, h7⟩ : ∃ p, p = u.heap.size := ⟨_, rfl⟩
 generalize hv : u.alloc o7 = u at *
 rw [← h7] at C7 r7 ⊢
 clear hv h7
 obtain ⟨z, hz3, cq⟩ := C7.out q2 hq2
 have hz0 : (0 : Int) ≤ (z : Int) := by omega
 have hz1 : (z : Int) < 3 := by omega
 refine wpAnyZ_more (S' := fun w' : World => w'.cell? ⟨p7, q2, none⟩ = some (.int .i64 (z : Int))) (fun _ _ => trivial) _ _ _ _ ?_
 refine takeB (i := 10) (oi := ?_) (v := ?_) ?_ (by kernel_rfl) (by kernel_rfl) (by kernel_rfl) (by kernel_rfl) ?_ cq ?_
 rotate_left 2
 · simp only [List.getElem?_toArray, List.getElem?_cons_succ, List.getElem?_cons_zero]; rfl
 · (refine Or.inl ⟨by rfl, ?_⟩; intro w h; (try dsimp only at h); go_simp; (try with_reducible rfl))
 simp only [Act.put, List.setIfInBounds_toArray, List.set_cons_zero, List.set_cons_succ]
 refine takeB (i := 11) (oi := ?_) (v := ?_) ?_ (by kernel_rfl) (by kernel_rfl) (by kernel_rfl) (by kernel_rfl) ?_ cq ?_
 rotate_left 2
 · simp only [List.getElem?_toArray, List.getElem?_cons_succ, List.getElem?_cons_zero]; rfl
 · (refine Or.inl ⟨by rfl, ?_⟩; intro w h; (try dsimp only at h); go_simp; (try with_reducible rfl))
 simp only [Act.put, List.setIfInBounds_toArray, List.set_cons_zero, List.set_cons_succ]
 obtain ⟨num, n0, n1, cz⟩ := C6.out z hz3
 refine wpAnyZ_more (S' := fun w' : World => w'.cell? ⟨p7, q2, none⟩ = some (.int .i64 (z : Int)) ∧ w'.cell? ⟨p6, z, none⟩ = some (.int .i64 num)) (fun _ h => h.1) _ _ _ _ ?_
 refine takeB (i := 12) (oi := ?_) (v := ?_) ?_ (by kernel_rfl) (by kernel_rfl) (by kernel_rfl) (by kernel_rfl) ?_ ⟨cq, cz⟩ ?_
 rotate_left 2
 · simp only [List.getElem?_toArray, List.getElem?_cons_succ, List.getElem?_cons_zero]; rfl
 · (refine Or.inl ⟨by rfl, ?_⟩; intro w h; (try dsimp only at h); go_simp; (try with_reducible rfl))
 simp only [Act.put, List.setIfInBounds_toArray, List.set_cons_zero, List.set_cons_succ]
 refine takeB (i := 13) (oi := ?_) (v := ?_) ?_ (by kernel_rfl) (by kernel_rfl) (by kernel_rfl) (by kernel_rfl) ?_ ⟨cq, cz⟩ ?_
 rotate_left 2
 · simp only [List.getElem?_toArray, List.getElem?_cons_succ, List.getElem?_cons_zero]; rfl
 · (refine Or.inl ⟨by rfl, ?_⟩; intro w h; (try dsimp only at h); go_simp; (try with_reducible rfl))
 simp only [Act.put, List.setIfInBounds_toArray, List.set_cons_zero, List.set_cons_succ]
 all_goals skip
 rotate_left 1
 refine AllZ.cons (i := 17) (o := ?_) ?_ (fun K hK => ?_) ?_
 rotate_left 1
 · simp only [List.getElem?_toArray, List.getElem?_cons_succ, List.getElem?_cons_zero]; rfl
 go_simp
 go_at_call 44; refine (pick_in _ _ _ _ ST.out.rd (by omega) (by omega)).mono ?_; rintro e u ⟨x4, rfl, x4a, x4b, hr, hg, -⟩; (try dsimp only)
 refine hK.out _ _ (.inr trivial) ?_
 clear hK K
 (try simp only [Act.put, List.setIfInBounds_toArray, List.set_cons_zero, List.set_cons_succ])
 replace ST := Lib.hid (ST.out.pick hr hg)
 replace C6 := Lib.hid (C6.out.pick hg r6)
 clear hr hg
 refine takeB (i := 18) (oi := ?_) (v := ?_) ?_ (by kernel_rfl) (by kernel_rfl) (by kernel_rfl) (by kernel_rfl) ?_ trivial ?_
 rotate_left 2
 · simp only [List.getElem?_toArray, List.getElem?_cons_succ, List.getElem?_cons_zero]; rfl
 · (refine Or.inl ⟨by rfl, ?_⟩; intro w h; (try dsimp only at h); go_simp; (try with_reducible rfl))
 simp only [Act.put, List.setIfInBounds_toArray, List.set_cons_zero, List.set_cons_succ]
 refine takeB (i := 19) (oi := ?_) (v := ?_) ?_ (by kernel_rfl) (by kernel_rfl) (by kernel_rfl) (by kernel_rfl) ?_ trivial ?_
 rotate_left 2
 · simp only [List.getElem?_toArray, List.getElem?_cons_succ, List.getElem?_cons_zero]; rfl
 · (refine Or.inl ⟨by rfl, ?_⟩; intro w h; (try dsimp only at h); go_simp; (try with_reducible rfl))
 simp only [Act.put, List.setIfInBounds_toArray, List.set_cons_zero, List.set_cons_succ]
 refine wpAnyZ_ready (rs := [7, 21]) (by kernel_rfl) (by simp) ?_
 refine AllZ.cons (i := 7) (o := ?_) ?_ (fun K hK => ?_) ?_
 rotate_left 1
 · simp only [List.getElem?_toArray, List.getElem?_cons_succ, List.getElem?_cons_zero]; rfl
 go_simp
 refine hK.out _ _ (.inr trivial) ?_
 clear hK K
 (try simp only [Act.put, List.setIfInBounds_toArray, List.set_cons_zero, List.set_cons_succ])
 have r7 : ¬ (u.heap.size = W.heap.size) := by have := ST.out.sz; omega
 replace C6 := Lib.hid (C6.out.alloc o7)
 have C7 := Lib.hid (lit7 u)
 replace ST := Lib.hid (ST.out.alloc o7)
 obtain ⟨p7, h7⟩ : ∃ p, p = u.heap.size := ⟨_, rfl⟩
 generalize hv : u.alloc o7 = u at *
 rw [← h7] at C7 r7 ⊢
 clear hv h7
 obtain ⟨z, hz3, cq⟩ := C7.out q2 hq2
 have hz0 : (0 : Int) ≤ (z : Int) := by omega
 have hz1 : (z : Int) < 3 := by omega
 refine wpAnyZ_more (S' := fun w' : World => w'.cell? ⟨p7, q2, none⟩ = some (.int .i64 (z : Int))) (fun _ _ => trivial) _ _ _ _ ?_
 refine takeB (i := 10) (oi := ?_) (v := ?_) ?_ (by kernel_rfl) (by kernel_rfl) (by kernel_rfl) (by kernel_rfl) ?_ cq ?_
 rotate_left 2
 · simp only [List.getElem?_toArray, List.getElem?_cons_succ, List.getElem?_cons_zero]; rfl
 · (refine Or.inl ⟨by rfl, ?_⟩; intro w h; (try dsimp only at h); go_simp; (try with_reducible rfl))
 simp only [Act.put, List.setIfInBounds_toArray, List.set_cons_zero, List.set_cons_succ]
 refine takeB (i := 11) (oi := ?_) (v := ?_) ?_ (by kernel_rfl) (by kernel_rfl) (by kernel_rfl) (by kernel_rfl) ?_ cq ?_
 rotate_left 2
 · simp only [List.getElem?_toArray, List.getElem?_cons_succ, List.getElem?_cons_zero]; rfl
 · (refine Or.inl ⟨by rfl, ?_⟩; intro w h; (try dsimp only at h); go_simp; (try with_reducible rfl))
 simp only [Act.put, List.setIfInBounds_toArray, List.set_cons_zero, List.set_cons_succ]
 obtain ⟨num, n0, n1, cz⟩ := C6.out z hz3
 refine wpAnyZ_more (S' := fun w' : World => w'.cell? ⟨p7, q2, none⟩ = some (.int .i64 (z : Int)) ∧ w'.cell? ⟨p6, z, none⟩ = some (.int .i64 num)) (fun _ h => h.1) _ _ _ _ ?_
 refine takeB (i := 12) (oi := ?_) (v := ?_) ?_ (by kernel_rfl) (by kernel_rfl) (by kernel_rfl) (by kernel_rfl) ?_ ⟨cq, cz⟩ ?_
 rotate_left 2
 · simp only [List.getElem?_toArray, List.getElem?_cons_succ, List.getElem?_cons_zero]; rfl
 · (refine Or.inl ⟨by rfl, ?_⟩; intro w h; (try dsimp only at h); go_simp; (try with_reducible rfl))
 simp only [Act.put, List.setIfInBounds_toArray, List.set_cons_zero, List.set_cons_succ]
 refine takeB (i := 13) (oi := ?_) (v := ?_) ?_ (by kernel_rfl) (by kernel_rfl) (by kernel_rfl) (by kernel_rfl) ?_ ⟨cq, cz⟩ ?_
 rotate_left 2
 · simp only [List.getElem?_toArray, List.getElem?_cons_succ, List.getElem?_cons_zero]; rfl
 · (refine Or.inl ⟨by rfl, ?_⟩; intro w h; (try dsimp only at h); go_simp; (try with_reducible rfl))
 simp only [Act.put, List.setIfInBounds_toArray, List.set_cons_zero, List.set_cons_succ]
 all_goals skip
 rotate_left 1
 refine AllZ.cons (i := 21) (o := ?_) ?_ (fun K hK => ?_) ?_
 rotate_left 1
 · simp only [List.getElem?_toArray, List.getElem?_cons_succ, List.getElem?_cons_zero]; rfl
 go_simp
 go_at_call 51; refine (l20Disk_any _ _ _ _ _ ST.out.rd (by omega) (by omega) (by omega)).mono ?_; rintro e u ⟨AD, cD, vs, rfl, oD, lD, hg, QD, hr, -⟩; (try dsimp only)
 refine hK.out _ _ (.inr trivial) ?_
 clear hK K
 (try simp only [Act.put, List.setIfInBounds_toArray, List.set_cons_zero, List.set_cons_succ])
 have OD := Lib.hid (own_mono oD ST.out.bw.size)
 replace ST := Lib.hid (ST.out.pick hr hg)
 replace C6 := Lib.hid (C6.out.pick hg r6)
 clear hr hg oD
 refine takeB (i := 22) (oi := ?_) (v := ?_) ?_ (by kernel_rfl) (by kernel_rfl) (by kernel_rfl) (by kernel_rfl) ?_ trivial ?_
 rotate_left 2
 · simp only [List.getElem?_toArray, List.getElem?_cons_succ, List.getElem?_cons_zero]; rfl
 · (refine Or.inl ⟨by rfl, ?_⟩; intro w h; (try dsimp only at h); go_simp; (try with_reducible rfl))
 simp only [Act.put, List.setIfInBounds_toArray, List.set_cons_zero, List.set_cons_succ]
 refine wpAnyZ_one (i := 7) (o := ?_) (by kernel_rfl) ?_ (fun K hK => ?_)
 rotate_left 1
 · simp only [List.getElem?_toArray, List.getElem?_cons_succ, List.getElem?_cons_zero]; rfl
 go_simp
 refine hK.out _ _ (.inr trivial) ?_
 clear hK K
 (try simp only [Act.put, List.setIfInBounds_toArray, List.set_cons_zero, List.set_cons_succ])
 have r7 : ¬ (u.heap.size = W.heap.size) := by have := ST.out.sz; omega
 replace C6 := Lib.hid (C6.out.alloc o7)
 have C7 := Lib.hid (lit7 u)
 replace ST := Lib.hid (ST.out.alloc o7)
 replace OD := Lib.hid (OD.out.alloc o7)
 obtain ⟨p7, h7⟩ : ∃ p, p = u.heap.size := ⟨_, rfl⟩
 generalize hv : u.alloc o7 = u at *
 rw [← h7] at C7 r7 ⊢
 clear hv h7
 obtain ⟨z, hz3, cq⟩ := C7.out q2 hq2
 have hz0 : (0 : Int) ≤ (z : Int) := by omega
 have hz1 : (z : Int) < 3 := by omega
 refine wpAnyZ_more (S' := fun w' : World => w'.cell? ⟨p7, q2, none⟩ = some (.int .i64 (z : Int))) (fun _ _ => trivial) _ _ _ _ ?_
 refine takeB (i := 10) (oi := ?_) (v := ?_) ?_ (by kernel_rfl) (by kernel_rfl) (by kernel_rfl) (by kernel_rfl) ?_ cq ?_
 rotate_left 2
 · simp only [List.getElem?_toArray, List.getElem?_cons_succ, List.getElem?_cons_zero]; rfl
 · (refine Or.inl ⟨by rfl, ?_⟩; intro w h; (try dsimp only at h); go_simp; (try with_reducible rfl))
 simp only [Act.put, List.setIfInBounds_toArray, List.set_cons_zero, List.set_cons_succ]
 refine takeB (i := 11) (oi := ?_) (v := ?_) ?_ (by kernel_rfl) (by kernel_rfl) (by kernel_rfl) (by kernel_rfl) ?_ cq ?_
 rotate_left 2
 · simp only [List.getElem?_toArray, List.getElem?_cons_succ, List.getElem?_cons_zero]; rfl
 · (refine Or.inl ⟨by rfl, ?_⟩; intro w h; (try dsimp only at h); go_simp; (try with_reducible rfl))
 simp only [Act.put, List.setIfInBounds_toArray, List.set_cons_zero, List.set_cons_succ]
 obtain ⟨num, n0, n1, cz⟩ := C6.out z hz3
 refine wpAnyZ_more (S' := fun w' : World => w'.cell? ⟨p7, q2, none⟩ = some (.int .i64 (z : Int)) ∧ w'.cell? ⟨p6, z, none⟩ = some (.int .i64 num)) (fun _ h => h.1) _ _ _ _ ?_
 refine takeB (i := 12) (oi := ?_) (v := ?_) ?_ (by kernel_rfl) (by kernel_rfl) (by kernel_rfl) (by kernel_rfl) ?_ ⟨cq, cz⟩ ?_
 rotate_left 2
 · simp only [List.getElem?_toArray, List.getElem?_cons_succ, List.getElem?_cons_zero]; rfl
 · (refine Or.inl ⟨by rfl, ?_⟩; intro w h; (try dsimp only at h); go_simp; (try with_reducible rfl))
 simp only [Act.put, List.setIfInBounds_toArray, List.set_cons_zero, List.set_cons_succ]
 refine takeB (i := 13) (oi := ?_) (v := ?_) ?_ (by kernel_rfl) (by kernel_rfl) (by kernel_rfl) (by kernel_rfl) ?_ ⟨cq, cz⟩ ?_
 rotate_left 2
 · simp only [List.getElem?_toArray, List.getElem?_cons_succ, List.getElem?_cons_zero]; rfl
 · (refine Or.inl ⟨by rfl, ?_⟩; intro w h; (try dsimp only at h); go_simp; (try with_reducible rfl))
 simp only [Act.put, List.setIfInBounds_toArray, List.set_cons_zero, List.set_cons_succ]
 refine takeB (i := 23) (oi := ?_) (v := ?_) ?_ (by kernel_rfl) (by kernel_rfl) (by kernel_rfl) (by kernel_rfl) ?_ ⟨cq, cz⟩ ?_
 rotate_left 2
 · simp only [List.getElem?_toArray, List.getElem?_cons_succ, List.getElem?_cons_zero]; rfl
 · (refine Or.inl ⟨by rfl, ?_⟩; intro w h; (try dsimp only at h); go_simp; (try with_reducible rfl))
 simp only [Act.put, List.setIfInBounds_toArray, List.set_cons_zero, List.set_cons_succ]
 refine takeB (i := 24) (oi := ?_) (v := ?_) ?_ (by kernel_rfl) (by kernel_rfl) (by kernel_rfl) (by kernel_rfl) ?_ ⟨cq, cz⟩ ?_
 rotate_left 2
 · simp only [List.getElem?_toArray, List.getElem?_cons_succ, List.getElem?_cons_zero]; rfl
 · (refine Or.inl ⟨by rfl, ?_⟩; intro w h; (try dsimp only at h); go_simp; (try with_reducible rfl))
 simp only [Act.put, List.setIfInBounds_toArray, List.set_cons_zero, List.set_cons_succ]
 refine takeB (i := 25) (oi := ?_) (v := ?_) ?_ (by kernel_rfl) (by kernel_rfl) (by kernel_rfl) (by kernel_rfl) ?_ ⟨cq, cz⟩ ?_
 rotate_left 2
 · simp only [List.getElem?_toArray, List.getElem?_cons_succ, List.getElem?_cons_zero]; rfl
 · (refine Or.inl ⟨by rfl, ?_⟩; intro w h; (try dsimp only at h); go_simp; (try with_reducible rfl))
 simp only [Act.put, List.setIfInBounds_toArray, List.set_cons_zero, List.set_cons_succ]
 all_goals skip
 rotate_left 1
 exact AllZ.nil
 exact AllZ.nil
 exact AllZ.nil
 exact AllZ.nil
 refine AllZ.cons (i := 7) (o := ?_) ?_ (fun K hK => ?_) ?_
 rotate_left 1
 · simp only [List.getElem?_toArray, List.getElem?_cons_succ, List.getElem?_cons_zero]; rfl
 go_simp
 refine hK.out _ _ (.inr trivial) ?_
 clear hK K
 (try simp only [Act.put, List.setIfInBounds_toArray, List.set_cons_zero, List.set_cons_succ])
 have r7 : ¬ (u.heap.size = W.heap.size) := by have := ST.out.sz; omega
 have C7 := Lib.hid (lit7 u)
 replace ST := Lib.hid (ST.out.alloc o7)
 obtain ⟨p7, h7⟩ : ∃ p, p = u.heap.size := ⟨_, rfl⟩
 generalize hv : u.alloc o7 = u at *
 rw [← h7] at C7 r7 ⊢
 clear hv h7
 refine wpAnyZ_ready (rs := [6, 9]) (by kernel_rfl) (by simp) ?_
 refine AllZ.cons (i := 6) (o := ?_) ?_ (fun K hK => ?_) ?_
 rotate_left 1
 · simp only [List.getElem?_toArray, List.getElem?_cons_succ, List.getElem?_cons_zero]; rfl
 go_simp
 refine hK.out _ _ (.inr trivial) ?_
 clear hK K
 (try simp only [Act.put, List.setIfInBounds_toArray, List.set_cons_zero, List.set_cons_succ])
 have r6 : ¬ (u.heap.size = W.heap.size) := by have := ST.out.sz; omega
 replace C7 := Lib.hid (C7.out.alloc (o6 x0 x1))
 have C6 := Lib.hid (lit6 u x0 x1 (by omega) (by omega) (by omega) (by omega))
 replace ST := Lib.hid (ST.out.alloc (o6 x0 x1))
 obtain ⟨p6, h6⟩ : ∃ p, p = u.heap.size := ⟨_, rfl⟩
 generalize hv : u.alloc (o6 x0 x1) = u at *
 rw [← h6] at C6 r6 ⊢
 clear hv h6
 all_goals skip
 rotate_left 1
 refine AllZ.cons (i := 9) (o := ?_) ?_ (fun K hK => ?_) ?_
 rotate_left 1
 · simp only [List.getElem?_toArray, List.getElem?_cons_succ, List.getElem?_cons_zero]; rfl
 go_simp
 go_at_call 44; refine (pick_in _ _ _ _ ST.out.rd (by omega) (by omega)).mono ?_; rintro e u ⟨x2, rfl, x2a, x2b, hr, hg, -⟩; (try dsimp only)
 refine hK.out _ _ (.inr trivial) ?_
 clear hK K
 (try simp only [Act.put, List.setIfInBounds_toArray, List.set_cons_zero, List.set_cons_succ])
 replace ST := Lib.hid (ST.out.pick hr hg)
 replace C7 := Lib.hid (C7.out.pick hg r7)
 clear hr hg
 obtain ⟨q2, e2⟩ : ∃ q2 : Nat, x2 = (q2 : Int) := ⟨x2.toNat, by omega⟩
 subst e2
 have hq2 : q2 < 6 := by omega
 have hq0 : (0 : Int) ≤ (q2 : Int) := by omega
 have hq1 : (q2 : Int) < 6 := by omega
 obtain ⟨z, hz3, cq⟩ := C7.out q2 hq2
 have hz0 : (0 : Int) ≤ (z : Int) := by omega
 have hz1 : (z : Int) < 3 := by omega
 refine wpAnyZ_more (S' := fun w' : World => w'.cell? ⟨p7, q2, none⟩ = some (.int .i64 (z : Int))) (fun _ _ => trivial) _ _ _ _ ?_
 refine takeB (i := 10) (oi := ?_) (v := ?_) ?_ (by kernel_rfl) (by kernel_rfl) (by kernel_rfl) (by kernel_rfl) ?_ cq ?_
 rotate_left 2
 · simp only [List.getElem?_toArray, List.getElem?_cons_succ, List.getElem?_cons_zero]; rfl
 · (refine Or.inl ⟨by rfl, ?_⟩; intro w h; (try dsimp only at h); go_simp; (try with_reducible rfl))
 simp only [Act.put, List.setIfInBounds_toArray, List.set_cons_zero, List.set_cons_succ]
 refine takeB (i := 11) (oi := ?_) (v := ?_) ?_ (by kernel_rfl) (by kernel_rfl) (by kernel_rfl) (by kernel_rfl) ?_ cq ?_
 rotate_left 2
 · simp only [List.getElem?_toArray, List.getElem?_cons_succ, List.getElem?_cons_zero]; rfl
 · (refine Or.inl ⟨by rfl, ?_⟩; intro w h; (try dsimp only at h); go_simp; (try with_reducible rfl))
 simp only [Act.put, List.setIfInBounds_toArray, List.set_cons_zero, List.set_cons_succ]
 refine wpAnyZ_ready (rs := [6, 15]) (by kernel_rfl) (by simp) ?_
 refine AllZ.cons (i := 6) (o := ?_) ?_ (fun K hK => ?_) ?_
 rotate_left 1
 · simp only [List.getElem?_toArray, List.getElem?_cons_succ, List.getElem?_cons_zero]; rfl
 go_simp
 replace cq := ckD cq (b_alloc (Below.refl u.heap.size u) (o6 x0 x1))
 refine hK.out _ _ (.inr cq) ?_
 clear hK K
 (try simp only [Act.put, List.setIfInBounds_toArray, List.set_cons_zero, List.set_cons_succ])
 have r6 : ¬ (u.heap.size = W.heap.size) := by have := ST.out.sz; omega
 replace C7 := Lib.hid (C7.out.alloc (o6 x0 x1))
 have C6 := Lib.hid (lit6 u x0 x1 (by omega) (by omega) (by omega) (by omega))
 replace ST := Lib.hid (ST.out.alloc (o6 x0 x1))
 obtain ⟨p6, h6⟩ : ∃ p, p = u.heap.size := ⟨_, rfl⟩
 generalize hv : u.alloc (o6 x0 x1) = u at *
 rw [← h6] at C6 r6 ⊢
 clear hv h6
 obtain ⟨num, n0, n1, cz⟩ := C6.out z hz3
 refine wpAnyZ_more (S' := fun w' : World => w'.cell? ⟨p7, q2, none⟩ = some (.int .i64 (z : Int)) ∧ w'.cell? ⟨p6, z, none⟩ = some (.int .i64 num)) (fun _ h => h.1) _ _ _ _ ?_
 refine takeB (i := 12) (oi := ?_) (v := ?_) ?_ (by kernel_rfl) (by kernel_rfl) (by kernel_rfl) (by kernel_rfl) ?_ ⟨cq, cz⟩ ?_
 rotate_left 2
 · simp only [List.getElem?_toArray, List.getElem?_cons_succ, List.getElem?_cons_zero]; rfl
 · (refine Or.inl ⟨by rfl, ?_⟩; intro w h; (try dsimp only at h); go_simp; (try with_reducible rfl))
 simp only [Act.put, List.setIfInBounds_toArray, List.set_cons_zero, List.set_cons_succ]
 refine takeB (i := 13) (oi := ?_) (v := ?_) ?_ (by kernel_rfl) (by kernel_rfl) (by kernel_rfl) (by kernel_rfl) ?_ ⟨cq, cz⟩ ?_
 rotate_left 2
 · simp only [List.getElem?_toArray, List.getElem?_cons_succ, List.getElem?_cons_zero]; rfl
 · (refine Or.inl ⟨by rfl, ?_⟩; intro w h; (try dsimp only at h); go_simp; (try with_reducible rfl))
 simp only [Act.put, List.setIfInBounds_toArray, List.set_cons_zero, List.set_cons_succ]
 all_goals skip
 rotate_left 1
 refine AllZ.cons (i := 15) (o := ?_) ?_ (fun K hK => ?_) ?_
 rotate_left 1
 · simp only [List.getElem?_toArray, List.getElem?_cons_succ, List.getElem?_cons_zero]; rfl
 go_simp
 go_at_call 44; refine (pick_in _ _ _ _ ST.out.rd (by omega) (by omega)).mono ?_; rintro e u ⟨x3, rfl, x3a, x3b, hr, hg, -⟩; (try dsimp only)
 replace cq := cgD cq hg (fun e => r7 (by injection e))
 refine hK.out _ _ (.inr cq) ?_
 clear hK K
 (try simp only [Act.put, List.setIfInBounds_toArray, List.set_cons_zero, List.set_cons_succ])
 replace ST := Lib.hid (ST.out.pick hr hg)
 replace C7 := Lib.hid (C7.out.pick hg r7)
 clear hr hg
 refine wpAnyZ_ready (rs := [6, 17]) (by kernel_rfl) (by simp) ?_
 refine AllZ.cons (i := 6) (o := ?_) ?_ (fun K hK => ?_) ?_
 rotate_left 1
 · simp only [List.getElem?_toArray, List.getElem?_cons_succ, List.getElem?_cons_zero]; rfl
 go_simp
 replace cq := ckD cq (b_alloc (Below.refl u.heap.size u) (o6 x0 x1))
 refine hK.out _ _ (.inr cq) ?_
 clear hK K
 (try simp only [Act.put, List.setIfInBounds_toArray, List.set_cons_zero, List.set_cons_succ])
 have r6 : ¬ (u.heap.size = W.heap.size) := by have := ST.out.sz; omega
 replace C7 := Lib.hid (C7.out.alloc (o6 x0 x1))
 have C6 := Lib.hid (lit6 u x0 x1 (by omega) (by omega) (by omega) (by omega))
 replace ST := Lib.hid (ST.out.alloc (o6 x0 x1))
 obtain ⟨p6, h6⟩ : ∃ p, p = u.heap.size := ⟨_, rfl⟩
 generalize hv : u.alloc (o6 x0 x1) = u at *
 rw [← h6] at C6 r6 ⊢
 clear hv h6
 obtain ⟨num, n0, n1, cz⟩ := C6.out z hz3
 refine wpAnyZ_more (S' := fun w' : World => w'.cell? ⟨p7, q2, none⟩ = some (.int .i64 (z : Int)) ∧ w'.cell? ⟨p6, z, none⟩ = some (.int .i64 num)) (fun _ h => h.1) _ _ _ _ ?_
 refine takeB (i := 12) (oi := ?_) (v := ?_) ?_ (by kernel_rfl) (by kernel_rfl) (by kernel_rfl) (by kernel_rfl) ?_ ⟨cq, cz⟩ ?_
 rotate_left 2
 · simp only [List.getElem?_toArray, List.getElem?_cons_succ, List.getElem?_cons_zero]; rfl
 · (refine Or.inl ⟨by rfl, ?_⟩; intro w h; (try dsimp only at h); go_simp; (try with_reducible rfl))
 simp only [Act.put, List.setIfInBounds_toArray, List.set_cons_zero, List.set_cons_succ]
 refine takeB (i := 13) (oi := ?_) (v := ?_) ?_ (by kernel_rfl) (by kernel_rfl) (by kernel_rfl) (by kernel_rfl) ?_ ⟨cq, cz⟩ ?_
 rotate_left 2
 · simp only [List.getElem?_toArray, List.getElem?_cons_succ, List.getElem?_cons_zero]; rfl
 · (refine Or.inl ⟨by rfl, ?_⟩; intro w h; (try dsimp only at h); go_simp; (try with_reducible rfl))
 simp only [Act.put, List.setIfInBounds_toArray, List.set_cons_zero, List.set_cons_succ]
 all_goals skip
 rotate_left 1
 refine AllZ.cons (i := 17) (o := ?_) ?_ (fun K hK => ?_) ?_
 rotate_left 1
 · simp only [List.getElem?_toArray, List.getElem?_cons_succ, List.getElem?_cons_zero]; rfl
 go_simp
 go_at_call 44; refine (pick_in _ _ _ _ ST.out.rd (by omega) (by omega)).mono ?_; rintro e u ⟨x4, rfl, x4a, x4b, hr, hg, -⟩; (try dsimp only)
 replace cq := cgD cq hg (fun e => r7 (by injection e))
 refine hK.out _ _ (.inr cq) ?_
 clear hK K
 (try simp only [Act.put, List.setIfInBounds_toArray, List.set_cons_zero, List.set_cons_succ])
 replace ST := Lib.hid (ST.out.pick hr hg)
 replace C7 := Lib.hid (C7.out.pick hg r7)
 clear hr hg
 refine takeB (i := 18) (oi := ?_) (v := ?_) ?_ (by kernel_rfl) (by kernel_rfl) (by kernel_rfl) (by kernel_rfl) ?_ cq ?_
 rotate_left 2
 · simp only [List.getElem?_toArray, List.getElem?_cons_succ, List.getElem?_cons_zero]; rfl
 · (refine Or.inl ⟨by rfl, ?_⟩; intro w h; (try dsimp only at h); go_simp; (try with_reducible rfl))
 simp only [Act.put, List.setIfInBounds_toArray, List.set_cons_zero, List.set_cons_succ]
 refine takeB (i := 19) (oi := ?_) (v := ?_) ?_ (by kernel_rfl) (by kernel_rfl) (by kernel_rfl) (by kernel_rfl) ?_ cq ?_
 rotate_left 2
 · simp only [List.getElem?_toArray, List.getElem?_cons_succ, List.getElem?_cons_zero]; rfl
 · (refine Or.inl ⟨by rfl, ?_⟩; intro w h; (try dsimp only at h); go_simp; (try with_reducible rfl))
 simp only [Act.put, List.setIfInBounds_toArray, List.set_cons_zero, List.set_cons_succ]
 refine wpAnyZ_ready (rs := [6, 21]) (by kernel_rfl) (by simp) ?_
 refine AllZ.cons (i := 6) (o := ?_) ?_ (fun K hK => ?_) ?_
 rotate_left 1
 · simp only [List.getElem?_toArray, List.getElem?_cons_succ, List.getElem?_cons_zero]; rfl
 go_simp
 replace cq := ckD cq (b_alloc (Below.refl u.heap.size u) (o6 x0 x1))
 refine hK.out _ _ (.inr cq) ?_
 clear hK K
 (try simp only [Act.put, List.setIfInBounds_toArray, List.set_cons_zero, List.set_cons_succ])
 have r6 : ¬ (u.heap.size = W.heap.size) := by have := ST.out.sz; omega
 replace C7 := Lib.hid (C7.out.alloc (o6 x0 x1))
 have C6 := Lib.hid (lit6 u x0 x1 (by omega) (by omega) (by omega) (by omega))
 replace ST := Lib.hid (ST.out.alloc (o6 x0 x1))
 obtain ⟨p6, h6⟩ : ∃ p, p = u.heap.size := ⟨_, rfl⟩
 generalize hv : u.alloc (o6 x0 x1) = u at *
 rw [← h6] at C6 r6 ⊢
 clear hv h6
 obtain ⟨num, n0, n1, cz⟩ := C6.out z hz3
 refine wpAnyZ_more (S' := fun w' : World => w'.cell? ⟨p7, q2, none⟩ = some (.int .i64 (z : Int)) ∧ w'.cell? ⟨p6, z, none⟩ = some (.int .i64 num)) (fun _ h => h.1) _ _ _ _ ?_
 refine takeB (i := 12) (oi := ?_) (v := ?_) ?_ (by kernel_rfl) (by kernel_rfl) (by kernel_rfl) (by kernel_rfl) ?_ ⟨cq, cz⟩ ?_
 rotate_left 2
 · simp only [List.getElem?_toArray, List.getElem?_cons_succ, List.getElem?_cons_zero]; rfl
 · (refine Or.inl ⟨by rfl, ?_⟩; intro w h; (try dsimp only at h); go_simp; (try with_reducible rfl))
 simp only [Act.put, List.setIfInBounds_toArray, List.set_cons_zero, List.set_cons_succ]
 refine takeB (i := 13) (oi := ?_) (v := ?_) ?_ (by kernel_rfl) (by kernel_rfl) (by kernel_rfl) (by kernel_rfl) ?_ ⟨cq, cz⟩ ?_
 rotate_left 2
 · simp only [List.getElem?_toArray, List.getElem?_cons_succ, List.getElem?_cons_zero]; rfl
 · (refine Or.inl ⟨by rfl, ?_⟩; intro w h; (try dsimp only at h); go_simp; (try with_reducible rfl))
 simp only [Act.put, List.setIfInBounds_toArray, List.set_cons_zero, List.set_cons_succ]
 all_goals skip
 rotate_left 1
 refine AllZ.cons (i := 21) (o := ?_) ?_ (fun K hK => ?_) ?_
 rotate_left 1
 · simp only [List.getElem?_toArray, List.getElem?_cons_succ, List.getElem?_cons_zero]; rfl
 go_simp
 go_at_call 51; refine (l20Disk_any _ _ _ _ _ ST.out.rd (by omega) (by omega) (by omega)).mono ?_; rintro e u ⟨AD, cD, vs, rfl, oD, lD, hg, QD, hr, -⟩; (try dsimp only)
 replace cq := cgD cq hg (fun e => r7 (by injection e))
 refine hK.out _ _ (.inr cq) ?_
 clear hK K
 (try simp only [Act.put, List.setIfInBounds_toArray, List.set_cons_zero, List.set_cons_succ])
 have OD := Lib.hid (own_mono oD ST.out.bw.size)
 replace ST := Lib.hid (ST.out.pick hr hg)
 replace C7 := Lib.hid (C7.out.pick hg r7)
 clear hr hg oD
 refine takeB (i := 22) (oi := ?_) (v := ?_) ?_ (by kernel_rfl) (by kernel_rfl) (by kernel_rfl) (by kernel_rfl) ?_ cq ?_
 rotate_left 2
 · simp only [List.getElem?_toArray, List.getElem?_cons_succ, List.getElem?_cons_zero]; rfl
 · (refine Or.inl ⟨by rfl, ?_⟩; intro w h; (try dsimp only at h); go_simp; (try with_reducible rfl))
 simp only [Act.put, List.setIfInBounds_toArray, List.set_cons_zero, List.set_cons_succ]
 refine wpAnyZ_one (i := 6) (o := ?_) (by kernel_rfl) ?_ (fun K hK => ?_)
 rotate_left 1
 · simp only [List.getElem?_toArray, List.getElem?_cons_succ, List.getElem?_cons_zero]; rfl
 go_simp
 replace cq := ckD cq (b_alloc (Below.refl u.heap.size u) (o6 x0 x1))
 refine hK.out _ _ (.inr cq) ?_
 clear hK K
 (try simp only [Act.put, List.setIfInBounds_toArray, List.set_cons_zero, List.set_cons_succ])
 have r6 : ¬ (u.heap.size = W.heap.size) := by have := ST.out.sz; omega
 replace C7 := Lib.hid (C7.out.alloc (o6 x0 x1))
 have C6 := Lib.hid (lit6 u x0 x1 (by omega) (by omega) (by omega) (by omega))
 replace ST := Lib.hid (ST.out.alloc (o6 x0 x1))
 replace OD := Lib.hid (OD.out.alloc (o6 x0 x1))
 obtain ⟨p6, h6⟩ : ∃ p, p = u.heap.size := ⟨_, rfl⟩
 generalize hv : u.alloc (o6 x0 x1) = u at *
 rw [← h6] at C6 r6 ⊢
 clear hv h6
 obtain ⟨num, n0, n1, cz⟩ := C6.out z hz3
 refine wpAnyZ_more (S' := fun w' : World => w'.cell? ⟨p7, q2, none⟩ = some (.int .i64 (z : Int)) ∧ w'.cell? ⟨p6, z, none⟩ = some (.int .i64 num)) (fun _ h => h.1) _ _ _ _ ?_
 refine takeB (i := 12) (oi := ?_) (v := ?_) ?_ (by kernel_rfl) (by kernel_rfl) (by kernel_rfl) (by kernel_rfl) ?_ ⟨cq, cz⟩ ?_
 rotate_left 2
 · simp only [List.getElem?_toArray, List.getElem?_cons_succ, List.getElem?_cons_zero]; rfl
 · (refine Or.inl ⟨by rfl, ?_⟩; intro w h; (try dsimp only at h); go_simp; (try with_reducible rfl))
 simp only [Act.put, List.setIfInBounds_toArray, List.set_cons_zero, List.set_cons_succ]
 refine takeB (i := 13) (oi := ?_) (v := ?_) ?_ (by kernel_rfl) (by kernel_rfl) (by kernel_rfl) (by kernel_rfl) ?_ ⟨cq, cz⟩ ?_
 rotate_left 2
 · simp only [List.getElem?_toArray, List.getElem?_cons_succ, List.getElem?_cons_zero]; rfl
 · (refine Or.inl ⟨by rfl, ?_⟩; intro w h; (try dsimp only at h); go_simp; (try with_reducible rfl))
 simp only [Act.put, List.setIfInBounds_toArray, List.set_cons_zero, List.set_cons_succ]
 refine takeB (i := 23) (oi := ?_) (v := ?_) ?_ (by kernel_rfl) (by kernel_rfl) (by kernel_rfl) (by kernel_rfl) ?_ ⟨cq, cz⟩ ?_
 rotate_left 2
 · simp only [List.getElem?_toArray, List.getElem?_cons_succ, List.getElem?_cons_zero]; rfl
 · (refine Or.inl ⟨by rfl, ?_⟩; intro w h; (try dsimp only at h); go_simp; (try with_reducible rfl))
 simp only [Act.put, List.setIfInBounds_toArray, List.set_cons_zero, List.set_cons_succ]
 refine takeB (i := 24) (oi := ?_) (v := ?_) ?_ (by kernel_rfl) (by kernel_rfl) (by kernel_rfl) (by kernel_rfl) ?_ ⟨cq, cz⟩ ?_
 rotate_left 2
 · simp only [List.getElem?_toArray, List.getElem?_cons_succ, List.getElem?_cons_zero]; rfl
 · (refine Or.inl ⟨by rfl, ?_⟩; intro w h; (try dsimp only at h); go_simp; (try with_reducible rfl))
 simp only [Act.put, List.setIfInBounds_toArray, List.set_cons_zero, List.set_cons_succ]
 refine takeB (i := 25) (oi := ?_) (v := ?_) ?_ (by kernel_rfl) (by kernel_rfl) (by kernel_rfl) (by kernel_rfl) ?_ ⟨cq, cz⟩ ?_
 rotate_left 2
 · simp only [List.getElem?_toArray, List.getElem?_cons_succ, List.getElem?_cons_zero]; rfl
 · (refine Or.inl ⟨by rfl, ?_⟩; intro w h; (try dsimp only at h); go_simp; (try with_reducible rfl))
 simp only [Act.put, List.setIfInBounds_toArray, List.set_cons_zero, List.set_cons_succ]
 all_goals skip
 rotate_left 1
 exact AllZ.nil
 exact AllZ.nil
 exact AllZ.nil
 exact AllZ.nil
 refine AllZ.cons (i := 9) (o := ?_) ?_ (fun K hK => ?_) ?_
 rotate_left 1
 · simp only [List.getElem?_toArray, List.getElem?_cons_succ, List.getElem?_cons_zero]; rfl
 go_simp
 go_at_call 44; refine (pick_in _ _ _ _ ST.out.rd (by omega) (by omega)).mono ?_; rintro e u ⟨x2, rfl, x2a, x2b, hr, hg, -⟩; (try dsimp only)
 refine hK.out _ _ (.inr trivial) ?_
 clear hK K
 (try simp only [Act.put, List.setIfInBounds_toArray, List.set_cons_zero, List.set_cons_succ])
 replace ST := Lib.hid (ST.out.pick hr hg)
 clear hr hg
 obtain ⟨q2, e2⟩ : ∃ q2 : Nat, x2 = (q2 : Int) := ⟨x2.toNat, by omega⟩
 subst e2
 have hq2 : q2 < 6 := by omega
 have hq0 : (0 : Int) ≤ (q2 : Int) := by omega
 have hq1 : (q2 : Int) < 6 := by omega
 refine wpAnyZ_ready (rs := [6, 7, 15]) (by kernel_rfl) (by simp) ?_
 refine AllZ.cons (i := 6) (o := ?_) ?_ (fun K hK => ?_) ?_
 rotate_left 1
 · simp only [List.getElem?_toArray, List.getElem?_cons_succ, List.getElem?_cons_zero]; rfl
 go_simp
 refine hK.out _ _ (.inr trivial) ?_
 clear hK K
 (try simp only [Act.put, List.setIfInBounds_toArray, List.set_cons_zero, List.set_cons_succ])
 have r6 : ¬ (u.heap.size = W.heap.size) := by have := ST.out.sz; omega
 have C6 := Lib.hid (lit6 u x0 x1 (by omega) (by omega) (by omega) (by omega))
 replace ST := Lib.hid (ST.out.alloc (o6 x0 x1))
 obtain ⟨p6, h6⟩ : ∃ p, p = u.heap.size := ⟨_, rfl⟩
 generalize hv : u.alloc (o6 x0 x1) = u at *
 rw [← h6] at C6 r6 ⊢
 clear hv h6
 refine wpAnyZ_ready (rs := [7, 15]) (by kernel_rfl) (by simp) ?_
 refine AllZ.cons (i := 7) (o := ?_) ?_ (fun K hK => ?_) ?_
 rotate_left 1
 · simp only [List.getElem?_toArray, List.getElem?_cons_succ, List.getElem?_cons_zero]; rfl
 go_simp
 refine hK.out _ _ (.inr trivial) ?_
 clear hK K
 (try simp only [Act.put, List.setIfInBounds_toArray, List.set_cons_zero, List.set_cons_succ])
 have r7 : ¬ (u.heap.size = W.heap.size) := by have := ST.out.sz; omega
 replace C6 := Lib.hid (C6.out.alloc o7)
 have C7 := Lib.hid (lit7 u)
 replace ST := Lib.hid (ST.out.alloc o7)
 obtain ⟨p7, h7⟩ : ∃ p, p = u.heap.size := ⟨_, rfl⟩
 generalize hv : u.alloc o7 = u at *
 rw [← h7] at C7 r7 ⊢
 clear hv h7
 obtain ⟨z, hz3, cq⟩ := C7.out q2 hq2
 have hz0 : (0 : Int) ≤ (z : Int) := by omega
 have hz1 : (z : Int) < 3 := by omega
 refine wpAnyZ_more (S' := fun w' : World => w'.cell? ⟨p7, q2, none⟩ = some (.int .i64 (z : Int))) (fun _ _ => trivial) _ _ _ _ ?_
 refine takeB (i := 10) (oi := ?_) (v := ?_) ?_ (by kernel_rfl) (by kernel_rfl) (by kernel_rfl) (by kernel_rfl) ?_ cq ?_
 rotate_left 2
 · simp only [List.getElem?_toArray, List.getElem?_cons_succ, List.getElem?_cons_zero]; rfl
 · (refine Or.inl ⟨by rfl, ?_⟩; intro w h; (try dsimp only at h); go_simp; (try with_reducible rfl))
 simp only [Act.put, List.setIfInBounds_toArray, List.set_cons_zero, List.set_cons_succ]
 refine takeB (i := 11) (oi := ?_) (v := ?_) ?_ (by kernel_rfl) (by kernel_rfl) (by kernel_rfl) (by kernel_rfl) ?_ cq ?_
 rotate_left 2
 · simp only [List.getElem?_toArray, List.getElem?_cons_succ, List.getElem?_cons_zero]; rfl
 · (refine Or.inl ⟨by rfl, ?_⟩; intro w h; (try dsimp only at h); go_simp; (try with_reducible rfl))
 simp only [Act.put, List.setIfInBounds_toArray, List.set_cons_zero, List.set_cons_succ]
 obtain ⟨num, n0, n1, cz⟩ := C6.out z hz3
 refine wpAnyZ_more (S' := fun w' : World => w'.cell? ⟨p7, q2, none⟩ = some (.int .i64 (z : Int)) ∧ w'.cell? ⟨p6, z, none⟩ = some (.int .i64 num)) (fun _ h => h.1) _ _ _ _ ?_
 refine takeB (i := 12) (oi := ?_) (v := ?_) ?_ (by kernel_rfl) (by kernel_rfl) (by kernel_rfl) (by kernel_rfl) ?_ ⟨cq, cz⟩ ?_
 rotate_left 2
 · simp only [List.getElem?_toArray, List.getElem?_cons_succ, List.getElem?_cons_zero]; rfl
 · (refine Or.inl ⟨by rfl, ?_⟩; intro w h; (try dsimp only at h); go_simp; (try with_reducible rfl))
 simp only [Act.put, List.setIfInBounds_toArray, List.set_cons_zero, List.set_cons_succ]
 refine takeB (i := 13) (oi := ?_) (v := ?_) ?_ (by kernel_rfl) (by kernel_rfl) (by kernel_rfl) (by kernel_rfl) ?_ ⟨cq, cz⟩ ?_
 rotate_left 2
 · simp only [List.getElem?_toArray, List.getElem?_cons_succ, List.getElem?_cons_zero]; rfl
 · (refine Or.inl ⟨by rfl, ?_⟩; intro w h; (try dsimp only at h); go_simp; (try with_reducible rfl))
 simp only [Act.put, List.setIfInBounds_toArray, List.set_cons_zero, List.set_cons_succ]
 all_goals skip
 rotate_left 1
 refine AllZ.cons (i := 15) (o := ?_) ?_ (fun K hK => ?_) ?_
 rotate_left 1
 · simp only [List.getElem?_toArray, List.getElem?_cons_succ, List.getElem?_cons_zero]; rfl
 go_simp
 go_at_call 44; refine (pick_in _ _ _ _ ST.out.rd (by omega) (by omega)).mono ?_; rintro e u ⟨x3, rfl, x3a, x3b, hr, hg, -⟩; (try dsimp only)
 refine hK.out _ _ (.inr trivial) ?_
 clear hK K
 (try simp only [Act.put, List.setIfInBounds_toArray, List.set_cons_zero, List.set_cons_succ])
 replace ST := Lib.hid (ST.out.pick hr hg)
 replace C6 := Lib.hid (C6.out.pick hg r6)
 clear hr hg
 refine wpAnyZ_ready (rs := [7, 17]) (by kernel_rfl) (by simp) ?_
 refine AllZ.cons (i := 7) (o := ?_) ?_ (fun K hK => ?_) ?_
 rotate_left 1
 · simp only [List.getElem?_toArray, List.getElem?_cons_succ, List.getElem?_cons_zero]; rfl
 go_simp
 refine hK.out _ _ (.inr trivial) ?_
 clear hK K
 (try simp only [Act.put, List.setIfInBounds_toArray, List.set_cons_zero, List.set_cons_succ])
 have r7 : ¬ (u.heap.size = W.heap.size) := by have := ST.out.sz; omega
 replace C6 := Lib.hid (C6.out.alloc o7)
 have C7 := Lib.hid (lit7 u)
 replace ST := Lib.hid (ST.out.alloc o7)
 obtain ⟨p7, h7⟩ : ∃ p, p = u.heap.size := ⟨_, rfl⟩
 generalize hv : u.alloc o7 = u at *
 rw [← h7] at C7 r7 ⊢
 clear hv h7
 obtain ⟨z, hz3, cq⟩ := C7.out q2 hq2
 have hz0 : (0 : Int) ≤ (z : Int) := by omega
 have hz1 : (z : Int) < 3 := by omega
 refine wpAnyZ_more (S' := fun w' : World => w'.cell? ⟨p7, q2, none⟩ = some (.int .i64 (z : Int))) (fun _ _ => trivial) _ _ _ _ ?_
 refine takeB (i := 10) (oi := ?_) (v := ?_) ?_ (by kernel_rfl) (by kernel_rfl) (by kernel_rfl) (by kernel_rfl) ?_ cq ?_
 rotate_left 2
 · simp only [List.getElem?_toArray, List.getElem?_cons_succ, List.getElem?_cons_zero]; rfl
 · (refine Or.inl ⟨by rfl, ?_⟩; intro w h; (try dsimp only at h); go_simp; (try with_reducible rfl))
 simp only [Act.put, List.setIfInBounds_toArray, List.set_cons_zero, List.set_cons_succ]
 refine takeB (i := 11) (oi := ?_) (v := ?_) ?_ (by kernel_rfl) (by kernel_rfl) (by kernel_rfl) (by kernel_rfl) ?_ cq ?_
 rotate_left 2
 · simp only [List.getElem?_toArray, List.getElem?_cons_succ, List.getElem?_cons_zero]; rfl
 · (refine Or.inl ⟨by rfl, ?_⟩; intro w h; (try dsimp only at h); go_simp; (try with_reducible rfl))
 simp only [Act.put, List.setIfInBounds_toArray, List.set_cons_zero, List.set_cons_succ]
 obtain ⟨num, n0, n1, cz⟩ := C6.out z hz3
 refine wpAnyZ_more (S' := fun w' : World => w'.cell? ⟨p7, q2, none⟩ = some (.int .i64 (z : Int)) ∧ w'.cell? ⟨p6, z, none⟩ = some (.int .i64 num)) (fun _ h => h.1) _ _ _ _ ?_
 refine takeB (i := 12) (oi := ?_) (v := ?_) ?_ (by kernel_rfl) (by kernel_rfl) (by kernel_rfl) (by kernel_rfl) ?_ ⟨cq, cz⟩ ?_
 rotate_left 2
 · simp only [List.getElem?_toArray, List.getElem?_cons_succ, List.getElem?_cons_zero]; rfl
 · (refine Or.inl ⟨by rfl, ?_⟩; intro w h; (try dsimp only at h); go_simp; (try with_reducible rfl))
 simp only [Act.put, List.setIfInBounds_toArray, List.set_cons_zero, List.set_cons_succ]
 refine takeB (i := 13) (oi := ?_) (v := ?_) ?_ (by kernel_rfl) (by kernel_rfl) (by kernel_rfl) (by kernel_rfl) ?_ ⟨cq, cz⟩ ?_
 rotate_left 2
 · simp only [List.getElem?_toArray, List.getElem?_cons_succ, List.getElem?_cons_zero]; rfl
 · (refine Or.inl ⟨by rfl, ?_⟩; intro w h; (try dsimp only at h); go_simp; (try with_reducible rfl))
 simp only [Act.put, List.setIfInBounds_toArray, List.set_cons_zero, List.set_cons_succ]
 all_goals skip
 rotate_left 1
 refine AllZ.cons (i := 17) (o := ?_) ?_ (fun K hK => ?_) ?_
 rotate_left 1
 · simp only [List.getElem?_toArray, List.getElem?_cons_succ, List.getElem?_cons_zero]; rfl
 go_simp
 go_at_call 44; refine (pick_in _ _ _ _ ST.out.rd (by omega) (by omega)).mono ?_; rintro e u ⟨x4, rfl, x4a, x4b, hr, hg, -⟩; (try dsimp only)
 refine hK.out _ _ (.inr trivial) ?_
 clear hK K
 (try simp only [Act.put, List.setIfInBounds_toArray, List.set_cons_zero, List.set_cons_succ])
 replace ST := Lib.hid (ST.out.pick hr hg)
 replace C6 := Lib.hid (C6.out.pick hg r6)
 clear hr hg
 refine takeB (i := 18) (oi := ?_) (v := ?_) ?_ (by kernel_rfl) (by kernel_rfl) (by kernel_rfl) (by kernel_rfl) ?_ trivial ?_
 rotate_left 2
 · simp only [List.getElem?_toArray, List.getElem?_cons_succ, List.getElem?_cons_zero]; rfl
 · (refine Or.inl ⟨by rfl, ?_⟩; intro w h; (try dsimp only at h); go_simp; (try with_reducible rfl))
 simp only [Act.put, List.setIfInBounds_toArray, List.set_cons_zero, List.set_cons_succ]
 refine takeB (i := 19) (oi := ?_) (v := ?_) ?_ (by kernel_rfl) (by kernel_rfl) (by kernel_rfl) (by kernel_rfl) ?_ trivial ?_
 rotate_left 2
 · simp only [List.getElem?_toArray, List.getElem?_cons_succ, List.getElem?_cons_zero]; rfl
 · (refine Or.inl ⟨by rfl, ?_⟩; intro w h; (try dsimp only at h); go_simp; (try with_reducible rfl))
 simp only [Act.put, List.setIfInBounds_toArray, List.set_cons_zero, List.set_cons_succ]
 refine wpAnyZ_ready (rs := [7, 21]) (by kernel_rfl) (by simp) ?_
 refine AllZ.cons (i := 7) (o := ?_) ?_ (fun K hK => ?_) ?_
 rotate_left 1
 · simp only [List.getElem?_toArray, List.getElem?_cons_succ, List.getElem?_cons_zero]; rfl
 go_simp
 refine hK.out _ _ (.inr trivial) ?_
 clear hK K
 (try simp only [Act.put, List.setIfInBounds_toArray, List.set_cons_zero, List.set_cons_succ])
 have r7 : ¬ (u.heap.size = W.heap.size) := by have := ST.out.sz; omega
 replace C6 := Lib.hid (C6.out.alloc o7)
 have C7 := Lib.hid (lit7 u)
 replace ST := Lib.hid (ST.out.alloc o7)
 obtain ⟨p7, h7⟩ : ∃ p, p = u.heap.size := ⟨_, rfl⟩
 generalize hv : u.alloc o7 = u at *
 rw [← h7] at C7 r7 ⊢
 clear hv h7
 obtain ⟨z, hz3, cq⟩ := C7.out q2 hq2
 have hz0 : (0 : Int) ≤ (z : Int) := by omega
 have hz1 : (z : Int) < 3 := by omega
 refine wpAnyZ_more (S' := fun w' : World => w'.cell? ⟨p7, q2, none⟩ = some (.int .i64 (z : Int))) (fun _ _ => trivial) _ _ _ _ ?_
 refine takeB (i := 10) (oi := ?_) (v := ?_) ?_ (by kernel_rfl) (by kernel_rfl) (by kernel_rfl) (by kernel_rfl) ?_ cq ?_
 rotate_left 2
 · simp only [List.getElem?_toArray, List.getElem?_cons_succ, List.getElem?_cons_zero]; rfl
 · (refine Or.inl ⟨by rfl, ?_⟩; intro w h; (try dsimp only at h); go_simp; (try with_reducible rfl))
 simp only [Act.put, List.setIfInBounds_toArray, List.set_cons_zero, List.set_cons_succ]
 refine takeB (i := 11) (oi := ?_) (v := ?_) ?_ (by kernel_rfl) (by kernel_rfl) (by kernel_rfl) (by kernel_rfl) ?_ cq ?_
 rotate_left 2
 · simp only [List.getElem?_toArray, List.getElem?_cons_succ, List.getElem?_cons_zero]; rfl
 · (refine Or.inl ⟨by rfl, ?_⟩; intro w h; (try dsimp only at h); go_simp; (try with_reducible rfl))
 simp only [Act.put, List.setIfInBounds_toArray, List.set_cons_zero, List.set_cons_succ]
 obtain ⟨num, n0, n1, cz⟩ := C6.out z hz3
 refine wpAnyZ_more (S' := fun w' : World => w'.cell? ⟨p7, q2, none⟩ = some (.int .i64 (z : Int)) ∧ w'.cell? ⟨p6, z, none⟩ = some (.int .i64 num)) (fun _ h => h.1) _ _ _ _ ?_
 refine takeB (i := 12) (oi := ?_) (v := ?_) ?_ (by kernel_rfl) (by kernel_rfl) (by kernel_rfl) (by kernel_rfl) ?_ ⟨cq, cz⟩ ?_
 rotate_left 2
 · simp only [List.getElem?_toArray, List.getElem?_cons_succ, List.getElem?_cons_zero]; rfl
 · (refine Or.inl ⟨by rfl, ?_⟩; intro w h; (try dsimp only at h); go_simp; (try with_reducible rfl))
 simp only [Act.put, List.setIfInBounds_toArray, List.set_cons_zero, List.set_cons_succ]
 refine takeB (i := 13) (oi := ?_) (v := ?_) ?_ (by kernel_rfl) (by kernel_rfl) (by kernel_rfl) (by kernel_rfl) ?_ ⟨cq, cz⟩ ?_
 rotate_left 2
 · simp only [List.getElem?_toArray, List.getElem?_cons_succ, List.getElem?_cons_zero]; rfl
 · (refine Or.inl ⟨by rfl, ?_⟩; intro w h; (try dsimp only at h); go_simp; (try with_reducible rfl))
 simp only [Act.put, List.setIfInBounds_toArray, List.set_cons_zero, List.set_cons_succ]
 all_goals skip
 rotate_left 1
 refine AllZ.cons (i := 21) (o := ?_) ?_ (fun K hK => ?_) ?_
 rotate_left 1
 · simp only [List.getElem?_toArray, List.getElem?_cons_succ, List.getElem?_cons_zero]; rfl
 go_simp
 go_at_call 51; refine (l20Disk_any _ _ _ _ _ ST.out.rd (by omega) (by omega) (by omega)).mono ?_; rintro e u ⟨AD, cD, vs, rfl, oD, lD, hg, QD, hr, -⟩; (try dsimp only)
 refine hK.out _ _ (.inr trivial) ?_
 clear hK K
 (try simp only [Act.put, List.setIfInBounds_toArray, List.set_cons_zero, List.set_cons_succ])
 have OD := Lib.hid (own_mono oD ST.out.bw.size)
 replace ST := Lib.hid (ST.out.pick hr hg)
 replace C6 := Lib.hid (C6.out.pick hg r6)
 clear hr hg oD
 refine takeB (i := 22) (oi := ?_) (v := ?_) ?_ (by kernel_rfl) (by kernel_rfl) (by kernel_rfl) (by kernel_rfl) ?_ trivial ?_
 rotate_left 2
 · simp only [List.getElem?_toArray, List.getElem?_cons_succ, List.getElem?_cons_zero]; rfl
 · (refine Or.inl ⟨by rfl, ?_⟩; intro w h; (try dsimp only at h); go_simp; (try with_reducible rfl))
 simp only [Act.put, List.setIfInBounds_toArray, List.set_cons_zero, List.set_cons_succ]
 refine wpAnyZ_one (i := 7) (o := ?_) (by kernel_rfl) ?_ (fun K hK => ?_)
 rotate_left 1
 · simp only [List.getElem?_toArray, List.getElem?_cons_succ, List.getElem?_cons_zero]; rfl
 go_simp
 refine hK.out _ _ (.inr trivial) ?_
 clear hK K
 (try simp only [Act.put, List.setIfInBounds_toArray, List.set_cons_zero, List.set_cons_succ])
 have r7 : ¬ (u.heap.size = W.heap.size) := by have := ST.out.sz; omega
 replace C6 := Lib.hid (C6.out.alloc o7)
 have C7 := Lib.hid (lit7 u)
 replace ST := Lib.hid (ST.out.alloc o7)
 replace OD := Lib.hid (OD.out.alloc o7)
 obtain ⟨p7, h7⟩ : ∃ p, p = u.heap.size := ⟨_, rfl⟩
 generalize hv : u.alloc o7 = u at *
 rw [← h7] at C7 r7 ⊢
 clear hv h7
 obtain ⟨z, hz3, cq⟩ := C7.out q2 hq2
 have hz0 : (0 : Int) ≤ (z : Int) := by omega
 have hz1 : (z : Int) < 3 := by omega
 refine wpAnyZ_more (S' := fun w' : World => w'.cell? ⟨p7, q2, none⟩ = some (.int .i64 (z : Int))) (fun _ _ => trivial) _ _ _ _ ?_
 refine takeB (i := 10) (oi := ?_) (v := ?_) ?_ (by kernel_rfl) (by kernel_rfl) (by kernel_rfl) (by kernel_rfl) ?_ cq ?_
 rotate_left 2
 · simp only [List.getElem?_toArray, List.getElem?_cons_succ, List.getElem?_cons_zero]; rfl
 · (refine Or.inl ⟨by rfl, ?_⟩; intro w h; (try dsimp only at h); go_simp; (try with_reducible rfl))
 simp only [Act.put, List.setIfInBounds_toArray, List.set_cons_zero, List.set_cons_succ]
 refine takeB (i := 11) (oi := ?_) (v := ?_) ?_ (by kernel_rfl) (by kernel_rfl) (by kernel_rfl) (by kernel_rfl) ?_ cq ?_
 rotate_left 2
 · simp only [List.getElem?_toArray, List.getElem?_cons_succ, List.getElem?_cons_zero]; rfl
 · (refine Or.inl ⟨by rfl, ?_⟩; intro w h; (try dsimp only at h); go_simp; (try with_reducible rfl))
 simp only [Act.put, List.setIfInBounds_toArray, List.set_cons_zero, List.set_cons_succ]
 obtain ⟨num, n0, n1, cz⟩ := C6.out z hz3
 refine wpAnyZ_more (S' := fun w' : World => w'.cell? ⟨p7, q2, none⟩ = some (.int .i64 (z : Int)) ∧ w'.cell? ⟨p6, z, none⟩ = some (.int .i64 num)) (fun _ h => h.1) _ _ _ _ ?_
 refine takeB (i := 12) (oi := ?_) (v := ?_) ?_ (by kernel_rfl) (by kernel_rfl) (by kernel_rfl) (by kernel_rfl) ?_ ⟨cq, cz⟩ ?_
 rotate_left 2
 · simp only [List.getElem?_toArray, List.getElem?_cons_succ, List.getElem?_cons_zero]; rfl
 · (refine Or.inl ⟨by rfl, ?_⟩; intro w h; (try dsimp only at h); go_simp; (try with_reducible rfl))
 simp only [Act.put, List.setIfInBounds_toArray, List.set_cons_zero, List.set_cons_succ]
 refine takeB (i := 13) (oi := ?_) (v := ?_) ?_ (by kernel_rfl) (by kernel_rfl) (by kernel_rfl) (by kernel_rfl) ?_ ⟨cq, cz⟩ ?_
 rotate_left 2
 · simp only [List.getElem?_toArray, List.getElem?_cons_succ, List.getElem?_cons_zero]; rfl
 · (refine Or.inl ⟨by rfl, ?_⟩; intro w h; (try dsimp only at h); go_simp; (try with_reducible rfl))
 simp only [Act.put, List.setIfInBounds_toArray, List.set_cons_zero, List.set_cons_succ]
 refine takeB (i := 23) (oi := ?_) (v := ?_) ?_ (by kernel_rfl) (by kernel_rfl) (by kernel_rfl) (by kernel_rfl) ?_ ⟨cq, cz⟩ ?_
 rotate_left 2
 · simp only [List.getElem?_toArray, List.getElem?_cons_succ, List.getElem?_cons_zero]; rfl
 · (refine Or.inl ⟨by rfl, ?_⟩; intro w h; (try dsimp only at h); go_simp; (try with_reducible rfl))
 simp only [Act.put, List.setIfInBounds_toArray, List.set_cons_zero, List.set_cons_succ]
 refine takeB (i := 24) (oi := ?_) (v := ?_) ?_ (by kernel_rfl) (by kernel_rfl) (by kernel_rfl) (by kernel_rfl) ?_ ⟨cq, cz⟩ ?_
 rotate_left 2
 · simp only [List.getElem?_toArray, List.getElem?_cons_succ, List.getElem?_cons_zero]; rfl
 · (refine Or.inl ⟨by rfl, ?_⟩; intro w h; (try dsimp only at h); go_simp; (try with_reducible rfl))
 simp only [Act.put, List.setIfInBounds_toArray, List.set_cons_zero, List.set_cons_succ]
 refine takeB (i := 25) (oi := ?_) (v := ?_) ?_ (by kernel_rfl) (by kernel_rfl) (by kernel_rfl) (by kernel_rfl) ?_ ⟨cq, cz⟩ ?_
 rotate_left 2
 · simp only [List.getElem?_toArray, List.getElem?_cons_succ, List.getElem?_cons_zero]; rfl
 · (refine Or.inl ⟨by rfl, ?_⟩; intro w h; (try dsimp only at h); go_simp; (try with_reducible rfl))
 simp only [Act.put, List.setIfInBounds_toArray, List.set_cons_zero, List.set_cons_succ]
 all_goals skip
 rotate_left 1
 exact AllZ.nil
 exact AllZ.nil
 exact AllZ.nil
 refine AllZ.cons (i := 7) (o := ?_) ?_ (fun K hK => ?_) ?_
 rotate_left 1
 · simp only [List.getElem?_toArray, List.getElem?_cons_succ, List.getElem?_cons_zero]; rfl
 go_simp
 refine hK.out _ _ (.inr trivial) ?_
 clear hK K
 (try simp only [Act.put, List.setIfInBounds_toArray, List.set_cons_zero, List.set_cons_succ])
 have r7 : ¬ (u.heap.size = W.heap.size) := by have := ST.out.sz; omega
 have C7 := Lib.hid (lit7 u)
 replace ST := Lib.hid (ST.out.alloc o7)
 obtain ⟨p7, h7⟩ : ∃ p, p = u.heap.size := ⟨_, rfl⟩
 generalize hv : u.alloc o7 = u at *
 rw [← h7] at C7 r7 ⊢
 clear hv h7
 obtain ⟨z, hz3, cq⟩ := C7.out q2 hq2
 have hz0 : (0 : Int) ≤ (z : Int) := by omega
 have hz1 : (z : Int) < 3 := by omega
 refine wpAnyZ_more (S' := fun w' : World => w'.cell? ⟨p7, q2, none⟩ = some (.int .i64 (z : Int))) (fun _ _ => trivial) _ _ _ _ ?_
 refine takeB (i := 10) (oi := ?_) (v := ?_) ?_ (by kernel_rfl) (by kernel_rfl) (by kernel_rfl) (by kernel_rfl) ?_ cq ?_
 rotate_left 2
 · simp only [List.getElem?_toArray, List.getElem?_cons_succ, List.getElem?_cons_zero]; rfl
 · (refine Or.inl ⟨by rfl, ?_⟩; intro w h; (try dsimp only at h); go_simp; (try with_reducible rfl))
 simp only [Act.put, List.setIfInBounds_toArray, List.set_cons_zero, List.set_cons_succ]
 refine takeB (i := 11) (oi := ?_) (v := ?_) ?_ (by kernel_rfl) (by kernel_rfl) (by kernel_rfl) (by kernel_rfl) ?_ cq ?_
 rotate_left 2
 · simp only [List.getElem?_toArray, List.getElem?_cons_succ, List.getElem?_cons_zero]; rfl
 · (refine Or.inl ⟨by rfl, ?_⟩; intro w h; (try dsimp only at h); go_simp; (try with_reducible rfl))
 simp only [Act.put, List.setIfInBounds_toArray, List.set_cons_zero, List.set_cons_succ]
 refine wpAnyZ_ready (rs := [6, 15]) (by kernel_rfl) (by simp) ?_
 refine AllZ.cons (i := 6) (o := ?_) ?_ (fun K hK => ?_) ?_
 rotate_left 1
 · simp only [List.getElem?_toArray, List.getElem?_cons_succ, List.getElem?_cons_zero]; rfl
 go_simp
 replace cq := ckD cq (b_alloc (Below.refl u.heap.size u) (o6 x0 x1))
 refine hK.out _ _ (.inr cq) ?_
 clear hK K
 (try simp only [Act.put, List.setIfInBounds_toArray, List.set_cons_zero, List.set_cons_succ])
 have r6 : ¬ (u.heap.size = W.heap.size) := by have := ST.out.sz; omega
 replace C7 := Lib.hid (C7.out.alloc (o6 x0 x1))
 have C6 := Lib.hid (lit6 u x0 x1 (by omega) (by omega) (by omega) (by omega))
 replace ST := Lib.hid (ST.out.alloc (o6 x0 x1))
 obtain ⟨p6, h6⟩ : ∃ p, p = u.heap.size := ⟨_, rfl⟩
 generalize hv : u.alloc (o6 x0 x1) = u at *
 rw [← h6] at C6 r6 ⊢
 clear hv h6
 obtain ⟨num, n0, n1, cz⟩ := C6.out z hz3
 refine wpAnyZ_more (S' := fun w' : World => w'.cell? ⟨p7, q2, none⟩ = some (.int .i64 (z : Int)) ∧ w'.cell? ⟨p6, z, none⟩ = some (.int .i64 num)) (fun _ h => h.1) _ _ _ _ ?_
 refine takeB (i := 12) (oi := ?_) (v := ?_) ?_ (by kernel_rfl) (by kernel_rfl) (by kernel_rfl) (by kernel_rfl) ?_ ⟨cq, cz⟩ ?_
 rotate_left 2
 · simp only [List.getElem?_toArray, List.getElem?_cons_succ, List.getElem?_cons_zero]; rfl
 · (refine Or.inl ⟨by rfl, ?_⟩; intro w h; (try dsimp only at h); go_simp; (try with_reducible rfl))
 simp only [Act.put, List.setIfInBounds_toArray, List.set_cons_zero, List.set_cons_succ]
 refine takeB (i := 13) (oi := ?_) (v := ?_) ?_ (by kernel_rfl) (by kernel_rfl) (by kernel_rfl) (by kernel_rfl) ?_ ⟨cq, cz⟩ ?_
 rotate_left 2
 · simp only [List.getElem?_toArray, List.getElem?_cons_succ, List.getElem?_cons_zero]; rfl
 · (refine Or.inl ⟨by rfl, ?_⟩; intro w h; (try dsimp only at h); go_simp; (try with_reducible rfl))
 simp only [Act.put, List.setIfInBounds_toArray, List.set_cons_zero, List.set_cons_succ]
 all_goals skip
 rotate_left 1
 refine AllZ.cons (i := 15) (o := ?_) ?_ (fun K hK => ?_) ?_
 rotate_left 1
 · simp only [List.getElem?_toArray, List.getElem?_cons_succ, List.getElem?_cons_zero]; rfl
 go_simp
 go_at_call 44; refine (pick_in _ _ _ _ ST.out.rd (by omega) (by omega)).mono ?_; rintro e u ⟨x3, rfl, x3a, x3b, hr, hg, -⟩; (try dsimp only)
 replace cq := cgD cq hg (fun e => r7 (by injection e))
 refine hK.out _ _ (.inr cq) ?_
 clear hK K
 (try simp only [Act.put, List.setIfInBounds_toArray, List.set_cons_zero, List.set_cons_succ])
 replace ST := Lib.hid (ST.out.pick hr hg)
 replace C7 := Lib.hid (C7.out.pick hg r7)
 clear hr hg
 refine wpAnyZ_ready (rs := [6, 17]) (by kernel_rfl) (by simp) ?_
 refine AllZ.cons (i := 6) (o := ?_) ?_ (fun K hK => ?_) ?_
 rotate_left 1
 · simp only [List.getElem?_toArray, List.getElem?_cons_succ, List.getElem?_cons_zero]; rfl
 go_simp
 replace cq := ckD cq (b_alloc (Below.refl u.heap.size u) (o6 x0 x1))
 refine hK.out _ _ (.inr cq) ?_
 clear hK K
 (try simp only [Act.put, List.setIfInBounds_toArray, List.set_cons_zero, List.set_cons_succ])
 have r6 : ¬ (u.heap.size = W.heap.size) := by have := ST.out.sz; omega
 replace C7 := Lib.hid (C7.out.alloc (o6 x0 x1))
 have C6 := Lib.hid (lit6 u x0 x1 (by omega) (by omega) (by omega) (by omega))
 replace ST := Lib.hid (ST.out.alloc (o6 x0 x1))
 obtain ⟨p6, h6⟩ : ∃ p, p = u.heap.size := ⟨_, rfl⟩
 generalize hv : u.alloc (o6 x0 x1) = u at *
 rw [← h6] at C6 r6 ⊢
 clear hv h6
 obtain ⟨num, n0, n1, cz⟩ := C6.out z hz3
 refine wpAnyZ_more (S' := fun w' : World => w'.cell? ⟨p7, q2, none⟩ = some (.int .i64 (z : Int)) ∧ w'.cell? ⟨p6, z, none⟩ = some (.int .i64 num)) (fun _ h => h.1) _ _ _ _ ?_
 refine takeB (i := 12) (oi := ?_) (v := ?_) ?_ (by kernel_rfl) (by kernel_rfl) (by kernel_rfl) (by kernel_rfl) ?_ ⟨cq, cz⟩ ?_
 rotate_left 2
 · simp only [List.getElem?_toArray, List.getElem?_cons_succ, List.getElem?_cons_zero]; rfl
 · (refine Or.inl ⟨by rfl, ?_⟩; intro w h; (try dsimp only at h); go_simp; (try with_reducible rfl))
 simp only [Act.put, List.setIfInBounds_toArray, List.set_cons_zero, List.set_cons_succ]
 refine takeB (i := 13) (oi := ?_) (v := ?_) ?_ (by kernel_rfl) (by kernel_rfl) (by kernel_rfl) (by kernel_rfl) ?_ ⟨cq, cz⟩ ?_
 rotate_left 2
 · simp only [List.getElem?_toArray, List.getElem?_cons_succ, List.getElem?_cons_zero]; rfl
 · (refine Or.inl ⟨by rfl, ?_⟩; intro w h; (try dsimp only at h); go_simp; (try with_reducible rfl))
 simp only [Act.put, List.setIfInBounds_toArray, List.set_cons_zero, List.set_cons_succ]
 all_goals skip
 rotate_left 1
 refine AllZ.cons (i := 17) (o := ?_) ?_ (fun K hK => ?_) ?_
 rotate_left 1
 · simp only [List.getElem?_toArray, List.getElem?_cons_succ, List.getElem?_cons_zero]; rfl
 go_simp
 go_at_call 44; refine (pick_in _ _ _ _ ST.out.rd (by omega) (by omega)).mono ?_; rintro e u ⟨x4, rfl, x4a, x4b, hr, hg, -⟩; (try dsimp only)
 replace cq := cgD cq hg (fun e => r7 (by injection e))
 refine hK.out _ _ (.inr cq) ?_
 clear hK K
 (try simp only [Act.put, List.setIfInBounds_toArray, List.set_cons_zero, List.set_cons_succ])
 replace ST := Lib.hid (ST.out.pick hr hg)
 replace C7 := Lib.hid (C7.out.pick hg r7)
 clear hr hg
 refine takeB (i := 18) (oi := ?_) (v := ?_) ?_ (by kernel_rfl) (by kernel_rfl) (by kernel_rfl) (by kernel_rfl) ?_ cq ?_
 rotate_left 2
 · simp only [List.getElem?_toArray, List.getElem?_cons_succ, List.getElem?_cons_zero]; rfl
 · (refine Or.inl ⟨by rfl, ?_⟩; intro w h; (try dsimp only at h); go_simp; (try with_reducible rfl))
 simp only [Act.put, List.setIfInBounds_toArray, List.set_cons_zero, List.set_cons_succ]
 refine takeB (i := 19) (oi := ?_) (v := ?_) ?_ (by kernel_rfl) (by kernel_rfl) (by kernel_rfl) (by kernel_rfl) ?_ cq ?_
 rotate_left 2
 · simp only [List.getElem?_toArray, List.getElem?_cons_succ, List.getElem?_cons_zero]; rfl
 · (refine Or.inl ⟨by rfl, ?_⟩; intro w h; (try dsimp only at h); go_simp; (try with_reducible rfl))
 simp only [Act.put, List.setIfInBounds_toArray, List.set_cons_zero, List.set_cons_succ]
 refine wpAnyZ_ready (rs := [6, 21]) (by kernel_rfl) (by simp) ?_
 refine AllZ.cons (i := 6) (o := ?_) ?_ (fun K hK => ?_) ?_
 rotate_left 1
 · simp only [List.getElem?_toArray, List.getElem?_cons_succ, List.getElem?_cons_zero]; rfl
 go_simp
 replace cq := ckD cq (b_alloc (Below.refl u.heap.size u) (o6 x0 x1))
 refine hK.out _ _ (.inr cq) ?_
 clear hK K
 (try simp only [Act.put, List.setIfInBounds_toArray, List.set_cons_zero, List.set_cons_succ])
 have r6 : ¬ (u.heap.size = W.heap.size) := by have := ST.out.sz; omega
 replace C7 := Lib.hid (C7.out.alloc (o6 x0 x1))
 have C6 := Lib.hid (lit6 u x0 x1 (by omega) (by omega) (by omega) (by omega))
 replace ST := Lib.hid (ST.out.alloc (o6 x0 x1))
 obtain ⟨p6, h6⟩ : ∃ p, p = u.heap.size := ⟨_, rfl⟩
 generalize hv : u.alloc (o6 x0 x1) = u at *
 rw [← h6] at C6 r6 ⊢
 clear hv h6
 obtain ⟨num, n0, n1, cz⟩ := C6.out z hz3
 refine wpAnyZ_more (S' := fun w' : World => w'.cell? ⟨p7, q2, none⟩ = some (.int .i64 (z : Int)) ∧ w'.cell? ⟨p6, z, none⟩ = some (.int .i64 num)) (fun _ h => h.1) _ _ _ _ ?_
 refine takeB (i := 12) (oi := ?_) (v := ?_) ?_ (by kernel_rfl) (by kernel_rfl) (by kernel_rfl) (by kernel_rfl) ?_ ⟨cq, cz⟩ ?_
 rotate_left 2
 · simp only [List.getElem?_toArray, List.getElem?_cons_succ, List.getElem?_cons_zero]; rfl
 · (refine Or.inl ⟨by rfl, ?_⟩; intro w h; (try dsimp only at h); go_simp; (try with_reducible rfl))
 simp only [Act.put, List.setIfInBounds_toArray, List.set_cons_zero, List.set_cons_succ]
 refine takeB (i := 13) (oi := ?_) (v := ?_) ?_ (by kernel_rfl) (by kernel_rfl) (by kernel_rfl) (by kernel_rfl) ?_ ⟨cq, cz⟩ ?_
 rotate_left 2
 · simp only [List.getElem?_toArray, List.getElem?_cons_succ, List.getElem?_cons_zero]; rfl
 · (refine Or.inl ⟨by rfl, ?_⟩; intro w h; (try dsimp only at h); go_simp; (try with_reducible rfl))
 simp only [Act.put, List.setIfInBounds_toArray, List.set_cons_zero, List.set_cons_succ]
 all_goals skip
 rotate_left 1
 refine AllZ.cons (i := 21) (o := ?_) ?_ (fun K hK => ?_) ?_
 rotate_left 1
 · simp only [List.getElem?_toArray, List.getElem?_cons_succ, List.getElem?_cons_zero]; rfl
 go_simp
 go_at_call 51; refine (l20Disk_any _ _ _ _ _ ST.out.rd (by omega) (by omega) (by omega)).mono ?_; rintro e u ⟨AD, cD, vs, rfl, oD, lD, hg, QD, hr, -⟩; (try dsimp only)
 replace cq := cgD cq hg (fun e => r7 (by injection e))
 refine hK.out _ _ (.inr cq) ?_
 clear hK K
 (try simp only [Act.put, List.setIfInBounds_toArray, List.set_cons_zero, List.set_cons_succ])
 have OD := Lib.hid (own_mono oD ST.out.bw.size)
 replace ST := Lib.hid (ST.out.pick hr hg)
 replace C7 := Lib.hid (C7.out.pick hg r7)
 clear hr hg oD
 refine takeB (i := 22) (oi := ?_) (v := ?_) ?_ (by kernel_rfl) (by kernel_rfl) (by kernel_rfl) (by kernel_rfl) ?_ cq ?_
 rotate_left 2
 · simp only [List.getElem?_toArray, List.getElem?_cons_succ, List.getElem?_cons_zero]; rfl
 · (refine Or.inl ⟨by rfl, ?_⟩; intro w h; (try dsimp only at h); go_simp; (try with_reducible rfl))
 simp only [Act.put, List.setIfInBounds_toArray, List.set_cons_zero, List.set_cons_succ]
 refine wpAnyZ_one (i := 6) (o := ?_) (by kernel_rfl) ?_ (fun K hK => ?_)
 rotate_left 1
 · simp only [List.getElem?_toArray, List.getElem?_cons_succ, List.getElem?_cons_zero]; rfl
 go_simp
 replace cq := ckD cq (b_alloc (Below.refl u.heap.size u) (o6 x0 x1))
 refine hK.out _ _ (.inr cq) ?_
 clear hK K
 (try simp only [Act.put, List.setIfInBounds_toArray, List.set_cons_zero, List.set_cons_succ])
 have r6 : ¬ (u.heap.size = W.heap.size) := by have := ST.out.sz; omega
 replace C7 := Lib.hid (C7.out.alloc (o6 x0 x1))
 have C6 := Lib.hid (lit6 u x0 x1 (by omega) (by omega) (by omega) (by omega))
 replace ST := Lib.hid (ST.out.alloc (o6 x0 x1))
 replace OD := Lib.hid (OD.out.alloc (o6 x0 x1))
 obtain ⟨p6, h6⟩ : ∃ p, p = u.heap.size := ⟨_, rfl⟩
 generalize hv : u.alloc (o6 x0 x1) = u at *
 rw [← h6] at C6 r6 ⊢
 clear hv h6
 obtain ⟨num, n0, n1, cz⟩ := C6.out z hz3
 refine wpAnyZ_more (S' := fun w' : World => w'.cell? ⟨p7, q2, none⟩ = some (.int .i64 (z : Int)) ∧ w'.cell? ⟨p6, z, none⟩ = some (.int .i64 num)) (fun _ h => h.1) _ _ _ _ ?_
 refine takeB (i := 12) (oi := ?_) (v := ?_) ?_ (by kernel_rfl) (by kernel_rfl) (by kernel_rfl) (by kernel_rfl) ?_ ⟨cq, cz⟩ ?_
 rotate_left 2
 · simp only [List.getElem?_toArray, List.getElem?_cons_succ, List.getElem?_cons_zero]; rfl
 · (refine Or.inl ⟨by rfl, ?_⟩; intro w h; (try dsimp only at h); go_simp; (try with_reducible rfl))
 simp only [Act.put, List.setIfInBounds_toArray, List.set_cons_zero, List.set_cons_succ]
 refine takeB (i := 13) (oi := ?_) (v := ?_) ?_ (by kernel_rfl) (by kernel_rfl) (by kernel_rfl) (by kernel_rfl) ?_ ⟨cq, cz⟩ ?_
 rotate_left 2
 · simp only [List.getElem?_toArray, List.getElem?_cons_succ, List.getElem?_cons_zero]; rfl
 · (refine Or.inl ⟨by rfl, ?_⟩; intro w h; (try dsimp only at h); go_simp; (try with_reducible rfl))
 simp only [Act.put, List.setIfInBounds_toArray, List.set_cons_zero, List.set_cons_succ]
 refine takeB (i := 23) (oi := ?_) (v := ?_) ?_ (by kernel_rfl) (by kernel_rfl) (by kernel_rfl) (by kernel_rfl) ?_ ⟨cq, cz⟩ ?_
 rotate_left 2
 · simp only [List.getElem?_toArray, List.getElem?_cons_succ, List.getElem?_cons_zero]; rfl
 · (refine Or.inl ⟨by rfl, ?_⟩; intro w h; (try dsimp only at h); go_simp; (try with_reducible rfl))
 simp only [Act.put, List.setIfInBounds_toArray, List.set_cons_zero, List.set_cons_succ]
 refine takeB (i := 24) (oi := ?_) (v := ?_) ?_ (by kernel_rfl) (by kernel_rfl) (by kernel_rfl) (by kernel_rfl) ?_ ⟨cq, cz⟩ ?_
 rotate_left 2
 · simp only [List.getElem?_toArray, List.getElem?_cons_succ, List.getElem?_cons_zero]; rfl
 · (refine Or.inl ⟨by rfl, ?_⟩; intro w h; (try dsimp only at h); go_simp; (try with_reducible rfl))
 simp only [Act.put, List.setIfInBounds_toArray, List.set_cons_zero, List.set_cons_succ]
 refine takeB (i := 25) (oi := ?_) (v := ?_) ?_ (by kernel_rfl) (by kernel_rfl) (by kernel_rfl) (by kernel_rfl) ?_ ⟨cq, cz⟩ ?_
 rotate_left 2
 · simp only [List.getElem?_toArray, List.getElem?_cons_succ, List.getElem?_cons_zero]; rfl
 · (refine Or.inl ⟨by rfl, ?_⟩; intro w h; (try dsimp only at h); go_simp; (try with_reducible rfl))
 simp only [Act.put, List.setIfInBounds_toArray, List.set_cons_zero, List.set_cons_succ]
 all_goals skip
 rotate_left 1
 exact AllZ.nil
 exact AllZ.nil
 exact AllZ.nil
 refine AllZ.cons (i := 15) (o := ?_) ?_ (fun K hK => ?_) ?_
 rotate_left 1
 · simp only [List.getElem?_toArray, List.getElem?_cons_succ, List.getElem?_cons_zero]; rfl
 go_simp
 go_at_call 44; refine (pick_in _ _ _ _ ST.out.rd (by omega) (by omega)).mono ?_; rintro e u ⟨x3, rfl, x3a, x3b, hr, hg, -⟩; (try dsimp only)
 refine hK.out _ _ (.inr trivial) ?_
 clear hK K
 (try simp only [Act.put, List.setIfInBounds_toArray, List.set_cons_zero, List.set_cons_succ])
 replace ST := Lib.hid (ST.out.pick hr hg)
 clear hr hg
 refine wpAnyZ_ready (rs := [6, 7, 17]) (by kernel_rfl) (by simp) ?_
 refine AllZ.cons (i := 6) (o := ?_) ?_ (fun K hK => ?_) ?_
 rotate_left 1
 · simp only [List.getElem?_toArray, List.getElem?_cons_succ, List.getElem?_cons_zero]; rfl
 go_simp
 refine hK.out _ _ (.inr trivial) ?_
 clear hK K
 (try simp only [Act.put, List.setIfInBounds_toArray, List.set_cons_zero, List.set_cons_succ])
 have r6 : ¬ (u.heap.size = W.heap.size) := by have := ST.out.sz; omega
 have C6 := Lib.hid (lit6 u x0 x1 (by omega) (by omega) (by omega) (by omega))
 replace ST := Lib.hid (ST.out.alloc (o6 x0 x1))
 obtain ⟨p6, h6⟩ : ∃ p, p = u.heap.size := ⟨_, rfl⟩
 generalize hv : u.alloc (o6 x0 x1) = u at *
 rw [← h6] at C6 r6 ⊢
 clear hv h6
 refine wpAnyZ_ready (rs := [7, 17]) (by kernel_rfl) (by simp) ?_
 refine AllZ.cons (i := 7) (o := ?_) ?_ (fun K hK => ?_) ?_
 rotate_left 1
 · simp only [List.getElem?_toArray, List.getElem?_cons_succ, List.getElem?_cons_zero]; rfl
 go_simp
 refine hK.out _ _ (.inr trivial) ?_
 clear hK K
 (try simp only [Act.put, List.setIfInBounds_toArray, List.set_cons_zero, List.set_cons_succ])
 have r7 : ¬ (u.heap.size = W.heap.size) := by have := ST.out.sz; omega
 replace C6 := Lib.hid (C6.out.alloc o7)
 have C7 := Lib.hid (lit7 u)
 replace ST := Lib.hid (ST.out.alloc o7)
 obtain ⟨p7, h7⟩ : ∃ p, p = u.heap.size := ⟨_, rfl⟩
 generalize hv : u.alloc o7 = u at *
 rw [← h7] at C7 r7 ⊢
 clear hv h7
 obtain ⟨z, hz3, cq⟩ := C7.out q2 hq2
 have hz0 : (0 : Int) ≤ (z : Int) := by omega
 have hz1 : (z : Int) < 3 := by omega
 refine wpAnyZ_more (S' := fun w' : World => w'.cell? ⟨p7, q2, none⟩ = some (.int .i64 (z : Int))) (fun _ _ => trivial) _ _ _ _ ?_
 refine takeB (i := 10) (oi := ?_) (v := ?_) ?_ (by kernel_rfl) (by kernel_rfl) (by kernel_rfl) (by kernel_rfl) ?_ cq ?_
 rotate_left 2
 · simp only [List.getElem?_toArray, List.getElem?_cons_succ, List.getElem?_cons_zero]; rfl
 · (refine Or.inl ⟨by rfl, ?_⟩; intro w h; (try dsimp only at h); go_simp; (try with_reducible rfl))
 simp only [Act.put, List.setIfInBounds_toArray, List.set_cons_zero, List.set_cons_succ]
 refine takeB (i := 11) (oi := ?_) (v := ?_) ?_ (by kernel_rfl) (by kernel_rfl) (by kernel_rfl) (by kernel_rfl) ?_ cq ?_
 rotate_left 2
 · simp only [List.getElem?_toArray, List.getElem?_cons_succ, List.getElem?_cons_zero]; rfl
 · (refine Or.inl ⟨by rfl, ?_⟩; intro w h; (try dsimp only at h); go_simp; (try with_reducible rfl))
 simp only [Act.put, List.setIfInBounds_toArray, List.set_cons_zero, List.set_cons_succ]
 obtain ⟨num, n0, n1, cz⟩ := C6.out z hz3
 refine wpAnyZ_more (S' := fun w' : World => w'.cell? ⟨p7, q2, none⟩ = some (.int .i64 (z : Int)) ∧ w'.cell? ⟨p6, z, none⟩ = some (.int .i64 num)) (fun _ h => h.1) _ _ _ _ ?_
 refine takeB (i := 12) (oi := ?_) (v := ?_) ?_ (by kernel_rfl) (by kernel_rfl) (by kernel_rfl) (by kernel_rfl) ?_ ⟨cq, cz⟩ ?_
 rotate_left 2
 · simp only [List.getElem?_toArray, List.getElem?_cons_succ, List.getElem?_cons_zero]; rfl
 · (refine Or.inl ⟨by rfl, ?_⟩; intro w h; (try dsimp only at h); go_simp; (try with_reducible rfl))
 simp only [Act.put, List.setIfInBounds_toArray, List.set_cons_zero, List.set_cons_succ]
 refine takeB (i := 13) (oi := ?_) (v := ?_) ?_ (by kernel_rfl) (by kernel_rfl) (by kernel_rfl) (by kernel_rfl) ?_ ⟨cq, cz⟩ ?_
 rotate_left 2
 · simp only [List.getElem?_toArray, List.getElem?_cons_succ, List.getElem?_cons_zero]; rfl
 · (refine Or.inl ⟨by rfl, ?_⟩; intro w h; (try dsimp only at h); go_simp; (try with_reducible rfl))
 simp only [Act.put, List.setIfInBounds_toArray, List.set_cons_zero, List.set_cons_succ]
 all_goals skip
 rotate_left 1
 refine AllZ.cons (i := 17) (o := ?_) ?_ (fun K hK => ?_) ?_
 rotate_left 1
 · simp only [List.getElem?_toArray, List.getElem?_cons_succ, List.getElem?_cons_zero]; rfl
 go_simp
 go_at_call 44; refine (pick_in _ _ _ _ ST.out.rd (by omega) (by omega)).mono ?_; rintro e u ⟨x4, rfl, x4a, x4b, hr, hg, -⟩; (try dsimp only)
 refine hK.out _ _ (.inr trivial) ?_
 clear hK K
 (try simp only [Act.put, List.setIfInBounds_toArray, List.set_cons_zero, List.set_cons_succ])
 replace ST := Lib.hid (ST.out.pick hr hg)
 replace C6 := Lib.hid (C6.out.pick hg r6)
 clear hr hg
 refine takeB (i := 18) (oi := ?_) (v := ?_) ?_ (by kernel_rfl) (by kernel_rfl) (by kernel_rfl) (by kernel_rfl) ?_ trivial ?_
 rotate_left 2
 · simp only [List.getElem?_toArray, List.getElem?_cons_succ, List.getElem?_cons_zero]; rfl
 · (refine Or.inl ⟨by rfl, ?_⟩; intro w h; (try dsimp only at h); go_simp; (try with_reducible rfl))
 simp only [Act.put, List.setIfInBounds_toArray, List.set_cons_zero, List.set_cons_succ]
 refine takeB (i := 19) (oi := ?_) (v := ?_) ?_ (by kernel_rfl) (by kernel_rfl) (by kernel_rfl) (by kernel_rfl) ?_ trivial ?_
 rotate_left 2
 · simp only [List.getElem?_toArray, List.getElem?_cons_succ, List.getElem?_cons_zero]; rfl
 · (refine Or.inl ⟨by rfl, ?_⟩; intro w h; (try dsimp only at h); go_simp; (try with_reducible rfl))
 simp only [Act.put, List.setIfInBounds_toArray, List.set_cons_zero, List.set_cons_succ]
 refine wpAnyZ_ready (rs := [7, 21]) (by kernel_rfl) (by simp) ?_
 refine AllZ.cons (i := 7) (o := ?_) ?_ (fun K hK => ?_) ?_
 rotate_left 1
 · simp only [List.getElem?_toArray, List.getElem?_cons_succ, List.getElem?_cons_zero]; rfl
 go_simp
 refine hK.out _ _ (.inr trivial) ?_
 clear hK K
 (try simp only [Act.put, List.setIfInBounds_toArray, List.set_cons_zero, List.set_cons_succ])
 have r7 : ¬ (u.heap.size = W.heap.size) := by have := ST.out.sz; omega
 replace C6 := Lib.hid (C6.out.alloc o7)
 have C7 := Lib.hid (lit7 u)
 replace ST := Lib.hid (ST.out.alloc o7)
 obtain ⟨p7, h7⟩ : ∃ p, p = u.heap.size := ⟨_, rfl⟩
 generalize hv : u.alloc o7 = u at *
 rw [← h7] at C7 r7 ⊢
 clear hv h7
 obtain ⟨z, hz3, cq⟩ := C7.out q2 hq2
 have hz0 : (0 : Int) ≤ (z : Int) := by omega
 have hz1 : (z : Int) < 3 := by omega
 refine wpAnyZ_more (S' := fun w' : World => w'.cell? ⟨p7, q2, none⟩ = some (.int .i64 (z : Int))) (fun _ _ => trivial) _ _ _ _ ?_
 refine takeB (i := 10) (oi := ?_) (v := ?_) ?_ (by kernel_rfl) (by kernel_rfl) (by kernel_rfl) (by kernel_rfl) ?_ cq ?_
 rotate_left 2
 · simp only [List.getElem?_toArray, List.getElem?_cons_succ, List.getElem?_cons_zero]; rfl
 · (refine Or.inl ⟨by rfl, ?_⟩; intro w h; (try dsimp only at h); go_simp; (try with_reducible rfl))
 simp only [Act.put, List.setIfInBounds_toArray, List.set_cons_zero, List.set_cons_succ]
 refine takeB (i := 11) (oi := ?_) (v := ?_) ?_ (by kernel_rfl) (by kernel_rfl) (by kernel_rfl) (by kernel_rfl) ?_ cq ?_
 rotate_left 2
 · simp only [List.getElem?_toArray, List.getElem?_cons_succ, List.getElem?_cons_zero]; rfl
 · (refine Or.inl ⟨by rfl, ?_⟩; intro w h; (try dsimp only at h); go_simp; (try with_reducible rfl))
 simp only [Act.put, List.setIfInBounds_toArray, List.set_cons_zero, List.set_cons_succ]
 obtain ⟨num, n0, n1, cz⟩ := C6.out z hz3
 refine wpAnyZ_more (S' := fun w' : World => w'.cell? ⟨p7, q2, none⟩ = some (.int .i64 (z : Int)) ∧ w'.cell? ⟨p6, z, none⟩ = some (.int .i64 num)) (fun _ h => h.1) _ _ _ _ ?_
 refine takeB (i := 12) (oi := ?_) (v := ?_) ?_ (by kernel_rfl) (by kernel_rfl) (by kernel_rfl) (by kernel_rfl) ?_ ⟨cq, cz⟩ ?_
 rotate_left 2
 · simp only [List.getElem?_toArray, List.getElem?_cons_succ, List.getElem?_cons_zero]; rfl
 · (refine Or.inl ⟨by rfl, ?_⟩; intro w h; (try dsimp only at h); go_simp; (try with_reducible rfl))
 simp only [Act.put, List.setIfInBounds_toArray, List.set_cons_zero, List.set_cons_succ]
 refine takeB (i := 13) (oi := ?_) (v := ?_) ?_ (by kernel_rfl) (by kernel_rfl) (by kernel_rfl) (by kernel_rfl) ?_ ⟨cq, cz⟩ ?_
 rotate_left 2
 · simp only [List.getElem?_toArray, List.getElem?_cons_succ, List.getElem?_cons_zero]; rfl
 · (refine Or.inl ⟨by rfl, ?_⟩; intro w h; (try dsimp only at h); go_simp; (try with_reducible rfl))
 simp only [Act.put, List.setIfInBounds_toArray, List.set_cons_zero, List.set_cons_succ]
 all_goals skip
 rotate_left 1
 refine AllZ.cons (i := 21) (o := ?_) ?_ (fun K hK => ?_) ?_
 rotate_left 1
 · simp only [List.getElem?_toArray, List.getElem?_cons_succ, List.getElem?_cons_zero]; rfl
 go_simp
 go_at_call 51; refine (l20Disk_any _ _ _ _ _ ST.out.rd (by omega) (by omega) (by omega)).mono ?_; rintro e u ⟨AD, cD, vs, rfl, oD, lD, hg, QD, hr, -⟩; (try dsimp only)
 refine hK.out _ _ (.inr trivial) ?_
 clear hK K
 (try simp only [Act.put, List.setIfInBounds_toArray, List.set_cons_zero, List.set_cons_succ])
 have OD := Lib.hid (own_mono oD ST.out.bw.size)
 replace ST := Lib.hid (ST.out.pick hr hg)
 replace C6 := Lib.hid (C6.out.pick hg r6)
 clear hr hg oD
 refine takeB (i := 22) (oi := ?_) (v := ?_) ?_ (by kernel_rfl) (by kernel_rfl) (by kernel_rfl) (by kernel_rfl) ?_ trivial ?_
 rotate_left 2
 · simp only [List.getElem?_toArray, List.getElem?_cons_succ, List.getElem?_cons_zero]; rfl
 · (refine Or.inl ⟨by rfl, ?_⟩; intro w h; (try dsimp only at h); go_simp; (try with_reducible rfl))
 simp only [Act.put, List.setIfInBounds_toArray, List.set_cons_zero, List.set_cons_succ]
 refine wpAnyZ_one (i := 7) (o := ?_) (by kernel_rfl) ?_ (fun K hK => ?_)
 rotate_left 1
 · simp only [List.getElem?_toArray, List.getElem?_cons_succ, List.getElem?_cons_zero]; rfl
 go_simp
 refine hK.out _ _ (.inr trivial) ?_
 clear hK K
 (try simp only [Act.put, List.setIfInBounds_toArray, List.set_cons_zero, List.set_cons_succ])
 have r7 : ¬ (u.heap.size = W.heap.size) := by have := ST.out.sz; omega
 replace C6 := Lib.hid (C6.out.alloc o7)
 have C7 := Lib.hid (lit7 u)
 replace ST := Lib.hid (ST.out.alloc o7)
 replace OD := Lib.hid (OD.out.alloc o7)
 obtain ⟨p7, h7⟩ : ∃ p, p = u.heap.size := ⟨_, rfl⟩
 generalize hv : u.alloc o7 = u at *
 rw [← h7] at C7 r7 ⊢
 clear hv h7
 obtain ⟨z, hz3, cq⟩ := C7.out q2 hq2
 have hz0 : (0 : Int) ≤ (z : Int) := by omega
 have hz1 : (z : Int) < 3 := by omega
 refine wpAnyZ_more (S' := fun w' : World => w'.cell? ⟨p7, q2, none⟩ = some (.int .i64 (z : Int))) (fun _ _ => trivial) _ _ _ _ ?_
 refine takeB (i := 10) (oi := ?_) (v := ?_) ?_ (by kernel_rfl) (by kernel_rfl) (by kernel_rfl) (by kernel_rfl) ?_ cq ?_
 rotate_left 2
 · simp only [List.getElem?_toArray, List.getElem?_cons_succ, List.getElem?_cons_zero]; rfl
 · (refine Or.inl ⟨by rfl, ?_⟩; intro w h; (try dsimp only at h); go_simp; (try with_reducible rfl))
 simp only [Act.put, List.setIfInBounds_toArray, List.set_cons_zero, List.set_cons_succ]
 refine takeB (i := 11) (oi := ?_) (v := ?_) ?_ (by kernel_rfl) (by kernel_rfl) (by kernel_rfl) (by kernel_rfl) ?_ cq ?_
 rotate_left 2
 · simp only [List.getElem?_toArray, List.getElem?_cons_succ, List.getElem?_cons_zero]; rfl
 · (refine Or.inl ⟨by rfl, ?_⟩; intro w h; (try dsimp only at h); go_simp; (try with_reducible rfl))
 simp only [Act.put, List.setIfInBounds_toArray, List.set_cons_zero, List.set_cons_succ]
 obtain ⟨num, n0, n1, cz⟩ := C6.out z hz3
 refine wpAnyZ_more (S' := fun w' : World => w'.cell? ⟨p7, q2, none⟩ = some (.int .i64 (z : Int)) ∧ w'.cell? ⟨p6, z, none⟩ = some (.int .i64 num)) (fun _ h => h.1) _ _ _ _ ?_
 refine takeB (i := 12) (oi := ?_) (v := ?_) ?_ (by kernel_rfl) (by kernel_rfl) (by kernel_rfl) (by kernel_rfl) ?_ ⟨cq, cz⟩ ?_
 rotate_left 2
 · simp only [List.getElem?_toArray, List.getElem?_cons_succ, List.getElem?_cons_zero]; rfl
 · (refine Or.inl ⟨by rfl, ?_⟩; intro w h; (try dsimp only at h); go_simp; (try with_reducible rfl))
 simp only [Act.put, List.setIfInBounds_toArray, List.set_cons_zero, List.set_cons_succ]
 refine takeB (i := 13) (oi := ?_) (v := ?_) ?_ (by kernel_rfl) (by kernel_rfl) (by kernel_rfl) (by kernel_rfl) ?_ ⟨cq, cz⟩ ?_
 rotate_left 2
 · simp only [List.getElem?_toArray, List.getElem?_cons_succ, List.getElem?_cons_zero]; rfl
 · (refine Or.inl ⟨by rfl, ?_⟩; intro w h; (try dsimp only at h); go_simp; (try with_reducible rfl))
 simp only [Act.put, List.setIfInBounds_toArray, List.set_cons_zero, List.set_cons_succ]
 refine takeB (i := 23) (oi := ?_) (v := ?_) ?_ (by kernel_rfl) (by kernel_rfl) (by kernel_rfl) (by kernel_rfl) ?_ ⟨cq, cz⟩ ?_
 rotate_left 2
 · simp only [List.getElem?_toArray, List.getElem?_cons_succ, List.getElem?_cons_zero]; rfl
 · (refine Or.inl ⟨by rfl, ?_⟩; intro w h; (try dsimp only at h); go_simp; (try with_reducible rfl))
 simp only [Act.put, List.setIfInBounds_toArray, List.set_cons_zero, List.set_cons_succ]
 refine takeB (i := 24) (oi := ?_) (v := ?_) ?_ (by kernel_rfl) (by kernel_rfl) (by kernel_rfl) (by kernel_rfl) ?_ ⟨cq, cz⟩ ?_
 rotate_left 2
 · simp only [List.getElem?_toArray, List.getElem?_cons_succ, List.getElem?_cons_zero]; rfl
 · (refine Or.inl ⟨by rfl, ?_⟩; intro w h; (try dsimp only at h); go_simp; (try with_reducible rfl))
 simp only [Act.put, List.setIfInBounds_toArray, List.set_cons_zero, List.set_cons_succ]
 refine takeB (i := 25) (oi := ?_) (v := ?_) ?_ (by kernel_rfl) (by kernel_rfl) (by kernel_rfl) (by kernel_rfl) ?_ ⟨cq, cz⟩ ?_
 rotate_left 2
 · simp only [List.getElem?_toArray, List.getElem?_cons_succ, List.getElem?_cons_zero]; rfl
 · (refine Or.inl ⟨by rfl, ?_⟩; intro w h; (try dsimp only at h); go_simp; (try with_reducible rfl))
 simp only [Act.put, List.setIfInBounds_toArray, List.set_cons_zero, List.set_cons_succ]
 all_goals skip
 rotate_left 1
 exact AllZ.nil
 exact AllZ.nil
 refine AllZ.cons (i := 7) (o := ?_) ?_ (fun K hK => ?_) ?_
 rotate_left 1
 · simp only [List.getElem?_toArray, List.getElem?_cons_succ, List.getElem?_cons_zero]; rfl
 go_simp
 refine hK.out _ _ (.inr trivial) ?_
 clear hK K
 (try simp only [Act.put, List.setIfInBounds_toArray, List.set_cons_zero, List.set_cons_succ])
 have r7 : ¬ (u.heap.size = W.heap.size) := by have := ST.out.sz; omega
 have C7 := Lib.hid (lit7 u)
 replace ST := Lib.hid (ST.out.alloc o7)
 obtain ⟨p7, h7⟩ : ∃ p, p = u.heap.size := ⟨_, rfl⟩
 generalize hv : u.alloc o7 = u at *
 rw [← h7] at C7 r7 ⊢
 clear hv h7
 obtain ⟨z, hz3, cq⟩ := C7.out q2 hq2
 have hz0 : (0 : Int) ≤ (z : Int) := by omega
 have hz1 : (z : Int) < 3 := by omega
 refine wpAnyZ_more (S' := fun w' : World => w'.cell? ⟨p7, q2, none⟩ = some (.int .i64 (z : Int))) (fun _ _ => trivial) _ _ _ _ ?_
 refine takeB (i := 10) (oi := ?_) (v := ?_) ?_ (by kernel_rfl) (by kernel_rfl) (by kernel_rfl) (by kernel_rfl) ?_ cq ?_
 rotate_left 2
 · simp only [List.getElem?_toArray, List.getElem?_cons_succ, List.getElem?_cons_zero]; rfl
 · (refine Or.inl ⟨by rfl, ?_⟩; intro w h; (try dsimp only at h); go_simp; (try with_reducible rfl))
 simp only [Act.put, List.setIfInBounds_toArray, List.set_cons_zero, List.set_cons_succ]
 refine takeB (i := 11) (oi := ?_) (v := ?_) ?_ (by kernel_rfl) (by kernel_rfl) (by kernel_rfl) (by kernel_rfl) ?_ cq ?_
 rotate_left 2
 · simp only [List.getElem?_toArray, List.getElem?_cons_succ, List.getElem?_cons_zero]; rfl
 · (refine Or.inl ⟨by rfl, ?_⟩; intro w h; (try dsimp only at h); go_simp; (try with_reducible rfl))
 simp only [Act.put, List.setIfInBounds_toArray, List.set_cons_zero, List.set_cons_succ]
 refine wpAnyZ_ready (rs := [6, 17]) (by kernel_rfl) (by simp) ?_
 refine AllZ.cons (i := 6) (o := ?_) ?_ (fun K hK => ?_) ?_
 rotate_left 1
 · simp only [List.getElem?_toArray, List.getElem?_cons_succ, List.getElem?_cons_zero]; rfl
 go_simp
 replace cq := ckD cq (b_alloc (Below.refl u.heap.size u) (o6 x0 x1))
 refine hK.out _ _ (.inr cq) ?_
 clear hK K
 (try simp only [Act.put, List.setIfInBounds_toArray, List.set_cons_zero, List.set_cons_succ])
 have r6 : ¬ (u.heap.size = W.heap.size) := by have := ST.out.sz; omega
 replace C7 := Lib.hid (C7.out.alloc (o6 x0 x1))
 have C6 := Lib.hid (lit6 u x0 x1 (by omega) (by omega) (by omega) (by omega))
 replace ST := Lib.hid (ST.out.alloc (o6 x0 x1))
 obtain ⟨p6, h6⟩ : ∃ p, p = u.heap.size := ⟨_, rfl⟩
 generalize hv : u.alloc (o6 x0 x1) = u at *
 rw [← h6] at C6 r6 ⊢
 clear hv h6
 obtain ⟨num, n0, n1, cz⟩ := C6.out z hz3
 refine wpAnyZ_more (S' := fun w' : World => w'.cell? ⟨p7, q2, none⟩ = some (.int .i64 (z : Int)) ∧ w'.cell? ⟨p6, z, none⟩ = some (.int .i64 num)) (fun _ h => h.1) _ _ _ _ ?_
 refine takeB (i := 12) (oi := ?_) (v := ?_) ?_ (by kernel_rfl) (by kernel_rfl) (by kernel_rfl) (by kernel_rfl) ?_ ⟨cq, cz⟩ ?_
 rotate_left 2
 · simp only [List.getElem?_toArray, List.getElem?_cons_succ, List.getElem?_cons_zero]; rfl
 · (refine Or.inl ⟨by rfl, ?_⟩; intro w h; (try dsimp only at h); go_simp; (try with_reducible rfl))
 simp only [Act.put, List.setIfInBounds_toArray, List.set_cons_zero, List.set_cons_succ]
 refine takeB (i := 13) (oi := ?_) (v := ?_) ?_ (by kernel_rfl) (by kernel_rfl) (by kernel_rfl) (by kernel_rfl) ?_ ⟨cq, cz⟩ ?_
 rotate_left 2
 · simp only [List.getElem?_toArray, List.getElem?_cons_succ, List.getElem?_cons_zero]; rfl
 · (refine Or.inl ⟨by rfl, ?_⟩; intro w h; (try dsimp only at h); go_simp; (try with_reducible rfl))
 simp only [Act.put, List.setIfInBounds_toArray, List.set_cons_zero, List.set_cons_succ]
 all_goals skip
 rotate_left 1
 refine AllZ.cons (i := 17) (o := ?_) ?_ (fun K hK => ?_) ?_
 rotate_left 1
 · simp only [List.getElem?_toArray, List.getElem?_cons_succ, List.getElem?_cons_zero]; rfl
 go_simp
 go_at_call 44; refine (pick_in _ _ _ _ ST.out.rd (by omega) (by omega)).mono ?_; rintro e u ⟨x4, rfl, x4a, x4b, hr, hg, -⟩; (try dsimp only)
 replace cq := cgD cq hg (fun e => r7 (by injection e))
 refine hK.out _ _ (.inr cq) ?_
 clear hK K
 (try simp only [Act.put, List.setIfInBounds_toArray, List.set_cons_zero, List.set_cons_succ])
 replace ST := Lib.hid (ST.out.pick hr hg)
 replace C7 := Lib.hid (C7.out.pick hg r7)
 clear hr hg
 refine takeB (i := 18) (oi := ?_) (v := ?_) ?_ (by kernel_rfl) (by kernel_rfl) (by kernel_rfl) (by kernel_rfl) ?_ cq ?_
 rotate_left 2
 · simp only [List.getElem?_toArray, List.getElem?_cons_succ, List.getElem?_cons_zero]; rfl
 · (refine Or.inl ⟨by rfl, ?_⟩; intro w h; (try dsimp only at h); go_simp; (try with_reducible rfl))
 simp only [Act.put, List.setIfInBounds_toArray, List.set_cons_zero, List.set_cons_succ]
 refine takeB (i := 19) (oi := ?_) (v := ?_) ?_ (by kernel_rfl) (by kernel_rfl) (by kernel_rfl) (by kernel_rfl) ?_ cq ?_
 rotate_left 2
 · simp only [List.getElem?_toArray, List.getElem?_cons_succ, List.getElem?_cons_zero]; rfl
 · (refine Or.inl ⟨by rfl, ?_⟩; intro w h; (try dsimp only at h); go_simp; (try with_reducible rfl))
 simp only [Act.put, List.setIfInBounds_toArray, List.set_cons_zero, List.set_cons_succ]
 refine wpAnyZ_ready (rs := [6, 21]) (by kernel_rfl) (by simp) ?_
 refine AllZ.cons (i := 6) (o := ?_) ?_ (fun K hK => ?_) ?_
 rotate_left 1
 · simp only [List.getElem?_toArray, List.getElem?_cons_succ, List.getElem?_cons_zero]; rfl
 go_simp
 replace cq := ckD cq (b_alloc (Below.refl u.heap.size u) (o6 x0 x1))
 refine hK.out _ _ (.inr cq) ?_
 clear hK K
 (try simp only [Act.put, List.setIfInBounds_toArray, List.set_cons_zero, List.set_cons_succ])
 have r6 : ¬ (u.heap.size = W.heap.size) := by have := ST.out.sz; omega
 replace C7 := Lib.hid (C7.out.alloc (o6 x0 x1))
 have C6 := Lib.hid (lit6 u x0 x1 (by omega) (by omega) (by omega) (by omega))
 replace ST := Lib.hid (ST.out.alloc (o6 x0 x1))
 obtain ⟨p6, h6⟩ : ∃ p, p = u.heap.size := ⟨_, rfl⟩
 generalize hv : u.alloc (o6 x0 x1) = u at *
 rw [← h6] at C6 r6 ⊢
 clear hv h6
 obtain ⟨num, n0, n1, cz⟩ := C6.out z hz3
 refine wpAnyZ_more (S' := fun w' : World => w'.cell? ⟨p7, q2, none⟩ = some (.int .i64 (z : Int)) ∧ w'.cell? ⟨p6, z, none⟩ = some (.int .i64 num)) (fun _ h => h.1) _ _ _ _ ?_
 refine takeB (i := 12) (oi := ?_) (v := ?_) ?_ (by kernel_rfl) (by kernel_rfl) (by kernel_rfl) (by kernel_rfl) ?_ ⟨cq, cz⟩ ?_
 rotate_left 2
 · simp only [List.getElem?_toArray, List.getElem?_cons_succ, List.getElem?_cons_zero]; rfl
 · (refine Or.inl ⟨by rfl, ?_⟩; intro w h; (try dsimp only at h); go_simp; (try with_reducible rfl))
 simp only [Act.put, List.setIfInBounds_toArray, List.set_cons_zero, List.set_cons_succ]
 refine takeB (i := 13) (oi := ?_) (v := ?_) ?_ (by kernel_rfl) (by kernel_rfl) (by kernel_rfl) (by kernel_rfl) ?_ ⟨cq, cz⟩ ?_
 rotate_left 2
 · simp only [List.getElem?_toArray, List.getElem?_cons_succ, List.getElem?_cons_zero]; rfl
 · (refine Or.inl ⟨by rfl, ?_⟩; intro w h; (try dsimp only at h); go_simp; (try with_reducible rfl))
 simp only [Act.put, List.setIfInBounds_toArray, List.set_cons_zero, List.set_cons_succ]
 all_goals skip
 rotate_left 1
 refine AllZ.cons (i := 21) (o := ?_) ?_ (fun K hK => ?_) ?_
 rotate_left 1
 · simp only [List.getElem?_toArray, List.getElem?_cons_succ, List.getElem?_cons_zero]; rfl
 go_simp
 go_at_call 51; refine (l20Disk_any _ _ _ _ _ ST.out.rd (by omega) (by omega) (by omega)).mono ?_; rintro e u ⟨AD, cD, vs, rfl, oD, lD, hg, QD, hr, -⟩; (try dsimp only)
 replace cq := cgD cq hg (fun e => r7 (by injection e))
 refine hK.out _ _ (.inr cq) ?_
 clear hK K
 (try simp only [Act.put, List.setIfInBounds_toArray, List.set_cons_zero, List.set_cons_succ])
 have OD := Lib.hid (own_mono oD ST.out.bw.size)
 replace ST := Lib.hid (ST.out.pick hr hg)
 replace C7 := Lib.hid (C7.out.pick hg r7)
 clear hr hg oD
 refine takeB (i := 22) (oi := ?_) (v := ?_) ?_ (by kernel_rfl) (by kernel_rfl) (by kernel_rfl) (by kernel_rfl) ?_ cq ?_
 rotate_left 2
 · simp only [List.getElem?_toArray, List.getElem?_cons_succ, List.getElem?_cons_zero]; rfl
 · (refine Or.inl ⟨by rfl, ?_⟩; intro w h; (try dsimp only at h); go_simp; (try with_reducible rfl))
 simp only [Act.put, List.setIfInBounds_toArray, List.set_cons_zero, List.set_cons_succ]
 refine wpAnyZ_one (i := 6) (o := ?_) (by kernel_rfl) ?_ (fun K hK => ?_)
 rotate_left 1
 · simp only [List.getElem?_toArray, List.getElem?_cons_succ, List.getElem?_cons_zero]; rfl
 go_simp
 replace cq := ckD cq (b_alloc (Below.refl u.heap.size u) (o6 x0 x1))
 refine hK.out _ _ (.inr cq) ?_
 clear hK K
 (try simp only [Act.put, List.setIfInBounds_toArray, List.set_cons_zero, List.set_cons_succ])
 have r6 : ¬ (u.heap.size = W.heap.size) := by have := ST.out.sz; omega
 replace C7 := Lib.hid (C7.out.alloc (o6 x0 x1))
 have C6 := Lib.hid (lit6 u x0 x1 (by omega) (by omega) (by omega) (by omega))
 replace ST := Lib.hid (ST.out.alloc (o6 x0 x1))
 replace OD := Lib.hid (OD.out.alloc (o6 x0 x1))
 obtain ⟨p6, h6⟩ : ∃ p, p = u.heap.size := ⟨_, rfl⟩
 generalize hv : u.alloc (o6 x0 x1) = u at *
 rw [← h6] at C6 r6 ⊢
 clear hv h6
 obtain ⟨num, n0, n1, cz⟩ := C6.out z hz3
 refine wpAnyZ_more (S' := fun w' : World => w'.cell? ⟨p7, q2, none⟩ = some (.int .i64 (z : Int)) ∧ w'.cell? ⟨p6, z, none⟩ = some (.int .i64 num)) (fun _ h => h.1) _ _ _ _ ?_
 refine takeB (i := 12) (oi := ?_) (v := ?_) ?_ (by kernel_rfl) (by kernel_rfl) (by kernel_rfl) (by kernel_rfl) ?_ ⟨cq, cz⟩ ?_
 rotate_left 2
 · simp only [List.getElem?_toArray, List.getElem?_cons_succ, List.getElem?_cons_zero]; rfl
 · (refine Or.inl ⟨by rfl, ?_⟩; intro w h; (try dsimp only at h); go_simp; (try with_reducible rfl))
 simp only [Act.put, List.setIfInBounds_toArray, List.set_cons_zero, List.set_cons_succ]
 refine takeB (i := 13) (oi := ?_) (v := ?_) ?_ (by kernel_rfl) (by kernel_rfl) (by kernel_rfl) (by kernel_rfl) ?_ ⟨cq, cz⟩ ?_
 rotate_left 2
 · simp only [List.getElem?_toArray, List.getElem?_cons_succ, List.getElem?_cons_zero]; rfl
 · (refine Or.inl ⟨by rfl, ?_⟩; intro w h; (try dsimp only at h); go_simp; (try with_reducible rfl))
 simp only [Act.put, List.setIfInBounds_toArray, List.set_cons_zero, List.set_cons_succ]
 refine takeB (i := 23) (oi := ?_) (v := ?_) ?_ (by kernel_rfl) (by kernel_rfl) (by kernel_rfl) (by kernel_rfl) ?_ ⟨cq, cz⟩ ?_
 rotate_left 2
 · simp only [List.getElem?_toArray, List.getElem?_cons_succ, List.getElem?_cons_zero]; rfl
 · (refine Or.inl ⟨by rfl, ?_⟩; intro w h; (try dsimp only at h); go_simp; (try with_reducible rfl))
 simp only [Act.put, List.setIfInBounds_toArray, List.set_cons_zero, List.set_cons_succ]
 refine takeB (i := 24) (oi := ?_) (v := ?_) ?_ (by kernel_rfl) (by kernel_rfl) (by kernel_rfl) (by kernel_rfl) ?_ ⟨cq, cz⟩ ?_
 rotate_left 2
 · simp only [List.getElem?_toArray, List.getElem?_cons_succ, List.getElem?_cons_zero]; rfl
 · (refine Or.inl ⟨by rfl, ?_⟩; intro w h; (try dsimp only at h); go_simp; (try with_reducible rfl))
 simp only [Act.put, List.setIfInBounds_toArray, List.set_cons_zero, List.set_cons_succ]
 refine takeB (i := 25) (oi := ?_) (v := ?_) ?_ (by kernel_rfl) (by kernel_rfl) (by kernel_rfl) (by kernel_rfl) ?_ ⟨cq, cz⟩ ?_
 rotate_left 2
 · simp only [List.getElem?_toArray, List.getElem?_cons_succ, List.getElem?_cons_zero]; rfl
 · (refine Or.inl ⟨by rfl, ?_⟩; intro w h; (try dsimp only at h); go_simp; (try with_reducible rfl))
 simp only [Act.put, List.setIfInBounds_toArray, List.set_cons_zero, List.set_cons_succ]
 all_goals skip
 rotate_left 1
 exact AllZ.nil
 exact AllZ.nil
 refine AllZ.cons (i := 17) (o := ?_) ?_ (fun K hK => ?_) ?_
 rotate_left 1
 · simp only [List.getElem?_toArray, List.getElem?_cons_succ, List.getElem?_cons_zero]; rfl
 go_simp
 go_at_call 44; refine (pick_in _ _ _ _ ST.out.rd (by omega) (by omega)).mono ?_; rintro e u ⟨x4, rfl, x4a, x4b, hr, hg, -⟩; (try dsimp only)
 refine hK.out _ _ (.inr trivial) ?_
 clear hK K
 (try simp only [Act.put, List.setIfInBounds_toArray, List.set_cons_zero, List.set_cons_succ])
 replace ST := Lib.hid (ST.out.pick hr hg)
 clear hr hg
 refine takeB (i := 18) (oi := ?_) (v := ?_) ?_ (by kernel_rfl) (by kernel_rfl) (by kernel_rfl) (by kernel_rfl) ?_ trivial ?_
 rotate_left 2
 · simp only [List.getElem?_toArray, List.getElem?_cons_succ, List.getElem?_cons_zero]; rfl
 · (refine Or.inl ⟨by rfl, ?_⟩; intro w h; (try dsimp only at h); go_simp; (try with_reducible rfl))
 simp only [Act.put, List.setIfInBounds_toArray, List.set_cons_zero, List.set_cons_succ]
 refine takeB (i := 19) (oi := ?_) (v := ?_) ?_ (by kernel_rfl) (by kernel_rfl) (by kernel_rfl) (by kernel_rfl) ?_ trivial ?_
 rotate_left 2
 · simp only [List.getElem?_toArray, List.getElem?_cons_succ, List.getElem?_cons_zero]; rfl
 · (refine Or.inl ⟨by rfl, ?_⟩; intro w h; (try dsimp only at h); go_simp; (try with_reducible rfl))
 simp only [Act.put, List.setIfInBounds_toArray, List.set_cons_zero, List.set_cons_succ]
 refine wpAnyZ_ready (rs := [6, 7, 21]) (by kernel_rfl) (by simp) ?_
 refine AllZ.cons (i := 6) (o := ?_) ?_ (fun K hK => ?_) ?_
 rotate_left 1
 · simp only [List.getElem?_toArray, List.getElem?_cons_succ, List.getElem?_cons_zero]; rfl
 go_simp
 refine hK.out _ _ (.inr trivial) ?_
 clear hK K
 (try simp only [Act.put, List.setIfInBounds_toArray, List.set_cons_zero, List.set_cons_succ])
 have r6 : ¬ (u.heap.size = W.heap.size) := by have := ST.out.sz; omega
 have C6 := Lib.hid (lit6 u x0 x1 (by omega) (by omega) (by omega) (by omega))
 replace ST := Lib.hid (ST.out.alloc (o6 x0 x1))
 obtain ⟨p6, h6⟩ : ∃ p, p = u.heap.size := ⟨_, rfl⟩
 generalize hv : u.alloc (o6 x0 x1) = u at *
 rw [← h6] at C6 r6 ⊢
 clear hv h6
 refine wpAnyZ_ready (rs := [7, 21]) (by kernel_rfl) (by simp) ?_
 refine AllZ.cons (i := 7) (o := ?_) ?_ (fun K hK => ?_) ?_
 rotate_left 1
 · simp only [List.getElem?_toArray, List.getElem?_cons_succ, List.getElem?_cons_zero]; rfl
 go_simp
 refine hK.out _ _ (.inr trivial) ?_
 clear hK K
 (try simp only [Act.put, List.setIfInBounds_toArray, List.set_cons_zero, List.set_cons_succ])
 have r7 : ¬ (u.heap.size = W.heap.size) := by have := ST.out.sz; omega
 replace C6 := Lib.hid (C6.out.alloc o7)
 have C7 := Lib.hid (lit7 u)
 replace ST := Lib.hid (ST.out.alloc o7)
 obtain ⟨p7, h7⟩ : ∃ p, p = u.heap.size := ⟨_, rfl⟩
 generalize hv : u.alloc o7 = u at *
 rw [← h7] at C7 r7 ⊢
 clear hv h7
 obtain ⟨z, hz3, cq⟩ := C7.out q2 hq2
 have hz0 : (0 : Int) ≤ (z : Int) := by omega
 have hz1 : (z : Int) < 3 := by omega
 refine wpAnyZ_more (S' := fun w' : World => w'.cell? ⟨p7, q2, none⟩ = some (.int .i64 (z : Int))) (fun _ _ => trivial) _ _ _ _ ?_
 refine takeB (i := 10) (oi := ?_) (v := ?_) ?_ (by kernel_rfl) (by kernel_rfl) (by kernel_rfl) (by kernel_rfl) ?_ cq ?_
 rotate_left 2
 · simp only [List.getElem?_toArray, List.getElem?_cons_succ, List.getElem?_cons_zero]; rfl
 · (refine Or.inl ⟨by rfl, ?_⟩; intro w h; (try dsimp only at h); go_simp; (try with_reducible rfl))
 simp only [Act.put, List.setIfInBounds_toArray, List.set_cons_zero, List.set_cons_succ]
 refine takeB (i := 11) (oi := ?_) (v := ?_) ?_ (by kernel_rfl) (by kernel_rfl) (by kernel_rfl) (by kernel_rfl) ?_ cq ?_
 rotate_left 2
 · simp only [List.getElem?_toArray, List.getElem?_cons_succ, List.getElem?_cons_zero]; rfl
 · (refine Or.inl ⟨by rfl, ?_⟩; intro w h; (try dsimp only at h); go_simp; (try with_reducible rfl))
 simp only [Act.put, List.setIfInBounds_toArray, List.set_cons_zero, List.set_cons_succ]
 obtain ⟨num, n0, n1, cz⟩ := C6.out z hz3
 refine wpAnyZ_more (S' := fun w' : World => w'.cell? ⟨p7, q2, none⟩ = some (.int .i64 (z : Int)) ∧ w'.cell? ⟨p6, z, none⟩ = some (.int .i64 num)) (fun _ h => h.1) _ _ _ _ ?_
 refine takeB (i := 12) (oi := ?_) (v := ?_) ?_ (by kernel_rfl) (by kernel_rfl) (by kernel_rfl) (by kernel_rfl) ?_ ⟨cq, cz⟩ ?_
 rotate_left 2
 · simp only [List.getElem?_toArray, List.getElem?_cons_succ, List.getElem?_cons_zero]; rfl
 · (refine Or.inl ⟨by rfl, ?_⟩; intro w h; (try dsimp only at h); go_simp; (try with_reducible rfl))
 simp only [Act.put, List.setIfInBounds_toArray, List.set_cons_zero, List.set_cons_succ]
 refine takeB (i := 13) (oi := ?_) (v := ?_) ?_ (by kernel_rfl) (by kernel_rfl) (by kernel_rfl) (by kernel_rfl) ?_ ⟨cq, cz⟩ ?_
 rotate_left 2
 · simp only [List.getElem?_toArray, List.getElem?_cons_succ, List.getElem?_cons_zero]; rfl
 · (refine Or.inl ⟨by rfl, ?_⟩; intro w h; (try dsimp only at h); go_simp; (try with_reducible rfl))
 simp only [Act.put, List.setIfInBounds_toArray, List.set_cons_zero, List.set_cons_succ]
 all_goals skip
 rotate_left 1
 refine AllZ.cons (i := 21) (o := ?_) ?_ (fun K hK => ?_) ?_
 rotate_left 1
 · simp only [List.getElem?_toArray, List.getElem?_cons_succ, List.getElem?_cons_zero]; rfl
 go_simp
 go_at_call 51; refine (l20Disk_any _ _ _ _ _ ST.out.rd (by omega) (by omega) (by omega)).mono ?_; rintro e u ⟨AD, cD, vs, rfl, oD, lD, hg, QD, hr, -⟩; (try dsimp only)
 refine hK.out _ _ (.inr trivial) ?_
 clear hK K
 (try simp only [Act.put, List.setIfInBounds_toArray, List.set_cons_zero, List.set_cons_succ])
 have OD := Lib.hid (own_mono oD ST.out.bw.size)
 replace ST := Lib.hid (ST.out.pick hr hg)
 replace C6 := Lib.hid (C6.out.pick hg r6)
 clear hr hg oD
 refine takeB (i := 22) (oi := ?_) (v := ?_) ?_ (by kernel_rfl) (by kernel_rfl) (by kernel_rfl) (by kernel_rfl) ?_ trivial ?_
 rotate_left 2
 · simp only [List.getElem?_toArray, List.getElem?_cons_succ, List.getElem?_cons_zero]; rfl
 · (refine Or.inl ⟨by rfl, ?_⟩; intro w h; (try dsimp only at h); go_simp; (try with_reducible rfl))
 simp only [Act.put, List.setIfInBounds_toArray, List.set_cons_zero, List.set_cons_succ]
 refine wpAnyZ_one (i := 7) (o := ?_) (by kernel_rfl) ?_ (fun K hK => ?_)
 rotate_left 1
 · simp only [List.getElem?_toArray, List.getElem?_cons_succ, List.getElem?_cons_zero]; rfl
 go_simp
 refine hK.out _ _ (.inr trivial) ?_
 clear hK K
 (try simp only [Act.put, List.setIfInBounds_toArray, List.set_cons_zero, List.set_cons_succ])
 have r7 : ¬ (u.heap.size = W.heap.size) := by have := ST.out.sz; omega
 replace C6 := Lib.hid (C6.out.alloc o7)
 have C7 := Lib.hid (lit7 u)
 replace ST := Lib.hid (ST.out.alloc o7)
 replace OD := Lib.hid (OD.out.alloc o7)
 obtain ⟨p7, h7⟩ : ∃ p, p = u.heap.size := ⟨_, rfl⟩
 generalize hv : u.alloc o7 = u at *
 rw [← h7] at C7 r7 ⊢
 clear hv h7
 obtain ⟨z, hz3, cq⟩ := C7.out q2 hq2
 have hz0 : (0 : Int) ≤ (z : Int) := by omega
 have hz1 : (z : Int) < 3 := by omega
 refine wpAnyZ_more (S' := fun w' : World => w'.cell? ⟨p7, q2, none⟩ = some (.int .i64 (z : Int))) (fun _ _ => trivial) _ _ _ _ ?_
 refine takeB (i := 10) (oi := ?_) (v := ?_) ?_ (by kernel_rfl) (by kernel_rfl) (by kernel_rfl) (by kernel_rfl) ?_ cq ?_
 rotate_left 2
 · simp only [List.getElem?_toArray, List.getElem?_cons_succ, List.getElem?_cons_zero]; rfl
 · (refine Or.inl ⟨by rfl, ?_⟩; intro w h; (try dsimp only at h); go_simp; (try with_reducible rfl))
 simp only [Act.put, List.setIfInBounds_toArray, List.set_cons_zero, List.set_cons_succ]
 refine takeB (i := 11) (oi := ?_) (v := ?_) ?_ (by kernel_rfl) (by kernel_rfl) (by kernel_rfl) (by kernel_rfl) ?_ cq ?_
 rotate_left 2
 · simp only [List.getElem?_toArray, List.getElem?_cons_succ, List.getElem?_cons_zero]; rfl
 · (refine Or.inl ⟨by rfl, ?_⟩; intro w h; (try dsimp only at h); go_simp; (try with_reducible rfl))
 simp only [Act.put, List.setIfInBounds_toArray, List.set_cons_zero, List.set_cons_succ]
 obtain ⟨num, n0, n1, cz⟩ := C6.out z hz3
 refine wpAnyZ_more (S' := fun w' : World => w'.cell? ⟨p7, q2, none⟩ = some (.int .i64 (z : Int)) ∧ w'.cell? ⟨p6, z, none⟩ = some (.int .i64 num)) (fun _ h => h.1) _ _ _ _ ?_
 refine takeB (i := 12) (oi := ?_) (v := ?_) ?_ (by kernel_rfl) (by kernel_rfl) (by kernel_rfl) (by kernel_rfl) ?_ ⟨cq, cz⟩ ?_
 rotate_left 2
 · simp only [List.getElem?_toArray, List.getElem?_cons_succ, List.getElem?_cons_zero]; rfl
 · (refine Or.inl ⟨by rfl, ?_⟩; intro w h; (try dsimp only at h); go_simp; (try with_reducible rfl))
 simp only [Act.put, List.setIfInBounds_toArray, List.set_cons_zero, List.set_cons_succ]
 refine takeB (i := 13) (oi := ?_) (v := ?_) ?_ (by kernel_rfl) (by kernel_rfl) (by kernel_rfl) (by kernel_rfl) ?_ ⟨cq, cz⟩ ?_
 rotate_left 2
 · simp only [List.getElem?_toArray, List.getElem?_cons_succ, List.getElem?_cons_zero]; rfl
 · (refine Or.inl ⟨by rfl, ?_⟩; intro w h; (try dsimp only at h); go_simp; (try with_reducible rfl))
 simp only [Act.put, List.setIfInBounds_toArray, List.set_cons_zero, List.set_cons_succ]
 refine takeB (i := 23) (oi := ?_) (v := ?_) ?_ (by kernel_rfl) (by kernel_rfl) (by kernel_rfl) (by kernel_rfl) ?_ ⟨cq, cz⟩ ?_
 rotate_left 2
 · simp only [List.getElem?_toArray, List.getElem?_cons_succ, List.getElem?_cons_zero]; rfl
 · (refine Or.inl ⟨by rfl, ?_⟩; intro w h; (try dsimp only at h); go_simp; (try with_reducible rfl))
 simp only [Act.put, List.setIfInBounds_toArray, List.set_cons_zero, List.set_cons_succ]
 refine takeB (i := 24) (oi := ?_) (v := ?_) ?_ (by kernel_rfl) (by kernel_rfl) (by kernel_rfl) (by kernel_rfl) ?_ ⟨cq, cz⟩ ?_
 rotate_left 2
 · simp only [List.getElem?_toArray, List.getElem?_cons_succ, List.getElem?_cons_zero]; rfl
 · (refine Or.inl ⟨by rfl, ?_⟩; intro w h; (try dsimp only at h); go_simp; (try with_reducible rfl))
 simp only [Act.put, List.setIfInBounds_toArray, List.set_cons_zero, List.set_cons_succ]
 refine takeB (i := 25) (oi := ?_) (v := ?_) ?_ (by kernel_rfl) (by kernel_rfl) (by kernel_rfl) (by kernel_rfl) ?_ ⟨cq, cz⟩ ?_
 rotate_left 2
 · simp only [List.getElem?_toArray, List.getElem?_cons_succ, List.getElem?_cons_zero]; rfl
 · (refine Or.inl ⟨by rfl, ?_⟩; intro w h; (try dsimp only at h); go_simp; (try with_reducible rfl))
 simp only [Act.put, List.setIfInBounds_toArray, List.set_cons_zero, List.set_cons_succ]
 all_goals skip
 rotate_left 1
 exact AllZ.nil
 refine AllZ.cons (i := 7) (o := ?_) ?_ (fun K hK => ?_) ?_
 rotate_left 1
 · simp only [List.getElem?_toArray, List.getElem?_cons_succ, List.getElem?_cons_zero]; rfl
 go_simp
 refine hK.out _ _ (.inr trivial) ?_
 clear hK K
 (try simp only [Act.put, List.setIfInBounds_toArray, List.set_cons_zero, List.set_cons_succ])
 have r7 : ¬ (u.heap.size = W.heap.size) := by have := ST.out.sz; omega
 have C7 := Lib.hid (lit7 u)
 replace ST := Lib.hid (ST.out.alloc o7)
 obtain ⟨p7, h7⟩ : ∃ p, p = u.heap.size := ⟨_, rfl⟩
 generalize hv : u.alloc o7 = u at *
 rw [← h7] at C7 r7 ⊢
 clear hv h7
 obtain ⟨z, hz3, cq⟩ := C7.out q2 hq2
 have hz0 : (0 : Int) ≤ (z : Int) := by omega
 have hz1 : (z : Int) < 3 := by omega
 refine wpAnyZ_more (S' := fun w' : World => w'.cell? ⟨p7, q2, none⟩ = some (.int .i64 (z : Int))) (fun _ _ => trivial) _ _ _ _ ?_
 refine takeB (i := 10) (oi := ?_) (v := ?_) ?_ (by kernel_rfl) (by kernel_rfl) (by kernel_rfl) (by kernel_rfl) ?_ cq ?_
 rotate_left 2
 · simp only [List.getElem?_toArray, List.getElem?_cons_succ, List.getElem?_cons_zero]; rfl
 · (refine Or.inl ⟨by rfl, ?_⟩; intro w h; (try dsimp only at h); go_simp; (try with_reducible rfl))
 simp only [Act.put, List.setIfInBounds_toArray, List.set_cons_zero, List.set_cons_succ]
 refine takeB (i := 11) (oi := ?_) (v := ?_) ?_ (by kernel_rfl) (by kernel_rfl) (by kernel_rfl) (by kernel_rfl) ?_ cq ?_
 rotate_left 2
 · simp only [List.getElem?_toArray, List.getElem?_cons_succ, List.getElem?_cons_zero]; rfl
 · (refine Or.inl ⟨by rfl, ?_⟩; intro w h; (try dsimp only at h); go_simp; (try with_reducible rfl))
 simp only [Act.put, List.setIfInBounds_toArray, List.set_cons_zero, List.set_cons_succ]
 refine wpAnyZ_ready (rs := [6, 21]) (by kernel_rfl) (by simp) ?_
 refine AllZ.cons (i := 6) (o := ?_) ?_ (fun K hK => ?_) ?_
 rotate_left 1
 · simp only [List.getElem?_toArray, List.getElem?_cons_succ, List.getElem?_cons_zero]; rfl
 go_simp
 replace cq := ckD cq (b_alloc (Below.refl u.heap.size u) (o6 x0 x1))
 refine hK.out _ _ (.inr cq) ?_
 clear hK K
 (try simp only [Act.put, List.setIfInBounds_toArray, List.set_cons_zero, List.set_cons_succ])
 have r6 : ¬ (u.heap.size = W.heap.size) := by have := ST.out.sz; omega
 replace C7 := Lib.hid (C7.out.alloc (o6 x0 x1))
 have C6 := Lib.hid (lit6 u x0 x1 (by omega) (by omega) (by omega) (by omega))
 replace ST := Lib.hid (ST.out.alloc (o6 x0 x1))
 obtain ⟨p6, h6⟩ : ∃ p, p = u.heap.size := ⟨_, rfl⟩
 generalize hv : u.alloc (o6 x0 x1) = u at *
 rw [← h6] at C6 r6 ⊢
 clear hv h6
 obtain ⟨num, n0, n1, cz⟩ := C6.out z hz3
 refine wpAnyZ_more (S' := fun w' : World => w'.cell? ⟨p7, q2, none⟩ = some (.int .i64 (z : Int)) ∧ w'.cell? ⟨p6, z, none⟩ = some (.int .i64 num)) (fun _ h => h.1) _ _ _ _ ?_
 refine takeB (i := 12) (oi := ?_) (v := ?_) ?_ (by kernel_rfl) (by kernel_rfl) (by kernel_rfl) (by kernel_rfl) ?_ ⟨cq, cz⟩ ?_
 rotate_left 2
 · simp only [List.getElem?_toArray, List.getElem?_cons_succ, List.getElem?_cons_zero]; rfl
 · (refine Or.inl ⟨by rfl, ?_⟩; intro w h; (try dsimp only at h); go_simp; (try with_reducible rfl))
 simp only [Act.put, List.setIfInBounds_toArray, List.set_cons_zero, List.set_cons_succ]
 refine takeB (i := 13) (oi := ?_) (v := ?_) ?_ (by kernel_rfl) (by kernel_rfl) (by kernel_rfl) (by kernel_rfl) ?_ ⟨cq, cz⟩ ?_
 rotate_left 2
 · simp only [List.getElem?_toArray, List.getElem?_cons_succ, List.getElem?_cons_zero]; rfl
 · (refine Or.inl ⟨by rfl, ?_⟩; intro w h; (try dsimp only at h); go_simp; (try with_reducible rfl))
 simp only [Act.put, List.setIfInBounds_toArray, List.set_cons_zero, List.set_cons_succ]
 all_goals skip
 rotate_left 1
 refine AllZ.cons (i := 21) (o := ?_) ?_ (fun K hK => ?_) ?_
 rotate_left 1
 · simp only [List.getElem?_toArray, List.getElem?_cons_succ, List.getElem?_cons_zero]; rfl
 go_simp
 go_at_call 51; refine (l20Disk_any _ _ _ _ _ ST.out.rd (by omega) (by omega) (by omega)).mono ?_; rintro e u ⟨AD, cD, vs, rfl, oD, lD, hg, QD, hr, -⟩; (try dsimp only)
 replace cq := cgD cq hg (fun e => r7 (by injection e))
 refine hK.out _ _ (.inr cq) ?_
 clear hK K
 (try simp only [Act.put, List.setIfInBounds_toArray, List.set_cons_zero, List.set_cons_succ])
 have OD := Lib.hid (own_mono oD ST.out.bw.size)
 replace ST := Lib.hid (ST.out.pick hr hg)
 replace C7 := Lib.hid (C7.out.pick hg r7)
 clear hr hg oD
 refine takeB (i := 22) (oi := ?_) (v := ?_) ?_ (by kernel_rfl) (by kernel_rfl) (by kernel_rfl) (by kernel_rfl) ?_ cq ?_
 rotate_left 2
 · simp only [List.getElem?_toArray, List.getElem?_cons_succ, List.getElem?_cons_zero]; rfl
 · (refine Or.inl ⟨by rfl, ?_⟩; intro w h; (try dsimp only at h); go_simp; (try with_reducible rfl))
 simp only [Act.put, List.setIfInBounds_toArray, List.set_cons_zero, List.set_cons_succ]
 refine wpAnyZ_one (i := 6) (o := ?_) (by kernel_rfl) ?_ (fun K hK => ?_)
 rotate_left 1
 · simp only [List.getElem?_toArray, List.getElem?_cons_succ, List.getElem?_cons_zero]; rfl
 go_simp
 replace cq := ckD cq (b_alloc (Below.refl u.heap.size u) (o6 x0 x1))
 refine hK.out _ _ (.inr cq) ?_
 clear hK K
 (try simp only [Act.put, List.setIfInBounds_toArray, List.set_cons_zero, List.set_cons_succ])
 have r6 : ¬ (u.heap.size = W.heap.size) := by have := ST.out.sz; omega
 replace C7 := Lib.hid (C7.out.alloc (o6 x0 x1))
 have C6 := Lib.hid (lit6 u x0 x1 (by omega) (by omega) (by omega) (by omega))
 replace ST := Lib.hid (ST.out.alloc (o6 x0 x1))
 replace OD := Lib.hid (OD.out.alloc (o6 x0 x1))
 obtain ⟨p6, h6⟩ : ∃ p, p = u.heap.size := ⟨_, rfl⟩
 generalize hv : u.alloc (o6 x0 x1) = u at *
 rw [← h6] at C6 r6 ⊢
 clear hv h6
 obtain ⟨num, n0, n1, cz⟩ := C6.out z hz3
 refine wpAnyZ_more (S' := fun w' : World => w'.cell? ⟨p7, q2, none⟩ = some (.int .i64 (z : Int)) ∧ w'.cell? ⟨p6, z, none⟩ = some (.int .i64 num)) (fun _ h => h.1) _ _ _ _ ?_
 refine takeB (i := 12) (oi := ?_) (v := ?_) ?_ (by kernel_rfl) (by kernel_rfl) (by kernel_rfl) (by kernel_rfl) ?_ ⟨cq, cz⟩ ?_
 rotate_left 2
 · simp only [List.getElem?_toArray, List.getElem?_cons_succ, List.getElem?_cons_zero]; rfl
 · (refine Or.inl ⟨by rfl, ?_⟩; intro w h; (try dsimp only at h); go_simp; (try with_reducible rfl))
 simp only [Act.put, List.setIfInBounds_toArray, List.set_cons_zero, List.set_cons_succ]
 refine takeB (i := 13) (oi := ?_) (v := ?_) ?_ (by kernel_rfl) (by kernel_rfl) (by kernel_rfl) (by kernel_rfl) ?_ ⟨cq, cz⟩ ?_
 rotate_left 2
 · simp only [List.getElem?_toArray, List.getElem?_cons_succ, List.getElem?_cons_zero]; rfl
 · (refine Or.inl ⟨by rfl, ?_⟩; intro w h; (try dsimp only at h); go_simp; (try with_reducible rfl))
 simp only [Act.put, List.setIfInBounds_toArray, List.set_cons_zero, List.set_cons_succ]
 refine takeB (i := 23) (oi := ?_) (v := ?_) ?_ (by kernel_rfl) (by kernel_rfl) (by kernel_rfl) (by kernel_rfl) ?_ ⟨cq, cz⟩ ?_
 rotate_left 2
 · simp only [List.getElem?_toArray, List.getElem?_cons_succ, List.getElem?_cons_zero]; rfl
 · (refine Or.inl ⟨by rfl, ?_⟩; intro w h; (try dsimp only at h); go_simp; (try with_reducible rfl))
 simp only [Act.put, List.setIfInBounds_toArray, List.set_cons_zero, List.set_cons_succ]
 refine takeB (i := 24) (oi := ?_) (v := ?_) ?_ (by kernel_rfl) (by kernel_rfl) (by kernel_rfl) (by kernel_rfl) ?_ ⟨cq, cz⟩ ?_
 rotate_left 2
 · simp only [List.getElem?_toArray, List.getElem?_cons_succ, List.getElem?_cons_zero]; rfl
 · (refine Or.inl ⟨by rfl, ?_⟩; intro w h; (try dsimp only at h); go_simp; (try with_reducible rfl))
 simp only [Act.put, List.setIfInBounds_toArray, List.set_cons_zero, List.set_cons_succ]
 refine takeB (i := 25) (oi := ?_) (v := ?_) ?_ (by kernel_rfl) (by kernel_rfl) (by kernel_rfl) (by kernel_rfl) ?_ ⟨cq, cz⟩ ?_
 rotate_left 2
 · simp only [List.getElem?_toArray, List.getElem?_cons_succ, List.getElem?_cons_zero]; rfl
 · (refine Or.inl ⟨by rfl, ?_⟩; intro w h; (try dsimp only at h); go_simp; (try with_reducible rfl))
 simp only [Act.put, List.setIfInBounds_toArray, List.set_cons_zero, List.set_cons_succ]
 all_goals skip
 rotate_left 1
 exact AllZ.nil
 refine AllZ.cons (i := 21) (o := ?_) ?_ (fun K hK => ?_) ?_
 rotate_left 1
 · simp only [List.getElem?_toArray, List.getElem?_cons_succ, List.getElem?_cons_zero]; rfl
 go_simp
 go_at_call 51; refine (l20Disk_any _ _ _ _ _ ST.out.rd (by omega) (by omega) (by omega)).mono ?_; rintro e u ⟨AD, cD, vs, rfl, oD, lD, hg, QD, hr, -⟩; (try dsimp only)
 refine hK.out _ _ (.inr trivial) ?_
 clear hK K
 (try simp only [Act.put, List.setIfInBounds_toArray, List.set_cons_zero, List.set_cons_succ])
 have OD := Lib.hid (own_mono oD ST.out.bw.size)
 replace ST := Lib.hid (ST.out.pick hr hg)
 clear hr hg oD
 refine takeB (i := 22) (oi := ?_) (v := ?_) ?_ (by kernel_rfl) (by kernel_rfl) (by kernel_rfl) (by kernel_rfl) ?_ trivial ?_
 rotate_left 2
 · simp only [List.getElem?_toArray, List.getElem?_cons_succ, List.getElem?_cons_zero]; rfl
 · (refine Or.inl ⟨by rfl, ?_⟩; intro w h; (try dsimp only at h); go_simp; (try with_reducible rfl))
 simp only [Act.put, List.setIfInBounds_toArray, List.set_cons_zero, List.set_cons_succ]
 refine wpAnyZ_ready (rs := [6, 7]) (by kernel_rfl) (by simp) ?_
 refine AllZ.cons (i := 6) (o := ?_) ?_ (fun K hK => ?_) ?_
 rotate_left 1
 · simp only [List.getElem?_toArray, List.getElem?_cons_succ, List.getElem?_cons_zero]; rfl
 go_simp
 refine hK.out _ _ (.inr trivial) ?_
 clear hK K
 (try simp only [Act.put, List.setIfInBounds_toArray, List.set_cons_zero, List.set_cons_succ])
 have r6 : ¬ (u.heap.size = W.heap.size) := by have := ST.out.sz; omega
 have C6 := Lib.hid (lit6 u x0 x1 (by omega) (by omega) (by omega) (by omega))
 replace ST := Lib.hid (ST.out.alloc (o6 x0 x1))
 replace OD := Lib.hid (OD.out.alloc (o6 x0 x1))
 obtain ⟨p6, h6⟩ : ∃ p, p = u.heap.size := ⟨_, rfl⟩
 generalize hv : u.alloc (o6 x0 x1) = u at *
 rw [← h6] at C6 r6 ⊢
 clear hv h6
 refine wpAnyZ_one (i := 7) (o := ?_) (by kernel_rfl) ?_ (fun K hK => ?_)
 rotate_left 1
 · simp only [List.getElem?_toArray, List.getElem?_cons_succ, List.getElem?_cons_zero]; rfl
 go_simp
 refine hK.out _ _ (.inr trivial) ?_
 clear hK K
 (try simp only [Act.put, List.setIfInBounds_toArray, List.set_cons_zero, List.set_cons_succ])
 have r7 : ¬ (u.heap.size = W.heap.size) := by have := ST.out.sz; omega
 replace C6 := Lib.hid (C6.out.alloc o7)
 have C7 := Lib.hid (lit7 u)
 replace ST := Lib.hid (ST.out.alloc o7)
 replace OD := Lib.hid (OD.out.alloc o7)
 obtain ⟨p7, h7⟩ : ∃ p, p = u.heap.size := ⟨_, rfl⟩
 generalize hv : u.alloc o7 = u at *
 rw [← h7] at C7 r7 ⊢
 clear hv h7
 obtain ⟨z, hz3, cq⟩ := C7.out q2 hq2
 have hz0 : (0 : Int) ≤ (z : Int) := by omega
 have hz1 : (z : Int) < 3 := by omega
 refine wpAnyZ_more (S' := fun w' : World => w'.cell? ⟨p7, q2, none⟩ = some (.int .i64 (z : Int))) (fun _ _ => trivial) _ _ _ _ ?_
 refine takeB (i := 10) (oi := ?_) (v := ?_) ?_ (by kernel_rfl) (by kernel_rfl) (by kernel_rfl) (by kernel_rfl) ?_ cq ?_
 rotate_left 2
 · simp only [List.getElem?_toArray, List.getElem?_cons_succ, List.getElem?_cons_zero]; rfl
 · (refine Or.inl ⟨by rfl, ?_⟩; intro w h; (try dsimp only at h); go_simp; (try with_reducible rfl))
 simp only [Act.put, List.setIfInBounds_toArray, List.set_cons_zero, List.set_cons_succ]
 refine takeB (i := 11) (oi := ?_) (v := ?_) ?_ (by kernel_rfl) (by kernel_rfl) (by kernel_rfl) (by kernel_rfl) ?_ cq ?_
 rotate_left 2
 · simp only [List.getElem?_toArray, List.getElem?_cons_succ, List.getElem?_cons_zero]; rfl
 · (refine Or.inl ⟨by rfl, ?_⟩; intro w h; (try dsimp only at h); go_simp; (try with_reducible rfl))
 simp only [Act.put, List.setIfInBounds_toArray, List.set_cons_zero, List.set_cons_succ]
 obtain ⟨num, n0, n1, cz⟩ := C6.out z hz3
 refine wpAnyZ_more (S' := fun w' : World => w'.cell? ⟨p7, q2, none⟩ = some (.int .i64 (z : Int)) ∧ w'.cell? ⟨p6, z, none⟩ = some (.int .i64 num)) (fun _ h => h.1) _ _ _ _ ?_
 refine takeB (i := 12) (oi := ?_) (v := ?_) ?_ (by kernel_rfl) (by kernel_rfl) (by kernel_rfl) (by kernel_rfl) ?_ ⟨cq, cz⟩ ?_
 rotate_left 2
 · simp only [List.getElem?_toArray, List.getElem?_cons_succ, List.getElem?_cons_zero]; rfl
 · (refine Or.inl ⟨by rfl, ?_⟩; intro w h; (try dsimp only at h); go_simp; (try with_reducible rfl))
 simp only [Act.put, List.setIfInBounds_toArray, List.set_cons_zero, List.set_cons_succ]
 refine takeB (i := 13) (oi := ?_) (v := ?_) ?_ (by kernel_rfl) (by kernel_rfl) (by kernel_rfl) (by kernel_rfl) ?_ ⟨cq, cz⟩ ?_
 rotate_left 2
 · simp only [List.getElem?_toArray, List.getElem?_cons_succ, List.getElem?_cons_zero]; rfl
 · (refine Or.inl ⟨by rfl, ?_⟩; intro w h; (try dsimp only at h); go_simp; (try with_reducible rfl))
 simp only [Act.put, List.setIfInBounds_toArray, List.set_cons_zero, List.set_cons_succ]
 refine takeB (i := 23) (oi := ?_) (v := ?_) ?_ (by kernel_rfl) (by kernel_rfl) (by kernel_rfl) (by kernel_rfl) ?_ ⟨cq, cz⟩ ?_
 rotate_left 2
 · simp only [List.getElem?_toArray, List.getElem?_cons_succ, List.getElem?_cons_zero]; rfl
 · (refine Or.inl ⟨by rfl, ?_⟩; intro w h; (try dsimp only at h); go_simp; (try with_reducible rfl))
 simp only [Act.put, List.setIfInBounds_toArray, List.set_cons_zero, List.set_cons_succ]
 refine takeB (i := 24) (oi := ?_) (v := ?_) ?_ (by kernel_rfl) (by kernel_rfl) (by kernel_rfl) (by kernel_rfl) ?_ ⟨cq, cz⟩ ?_
 rotate_left 2
 · simp only [List.getElem?_toArray, List.getElem?_cons_succ, List.getElem?_cons_zero]; rfl
 · (refine Or.inl ⟨by rfl, ?_⟩; intro w h; (try dsimp only at h); go_simp; (try with_reducible rfl))
 simp only [Act.put, List.setIfInBounds_toArray, List.set_cons_zero, List.set_cons_succ]
 refine takeB (i := 25) (oi := ?_) (v := ?_) ?_ (by kernel_rfl) (by kernel_rfl) (by kernel_rfl) (by kernel_rfl) ?_ ⟨cq, cz⟩ ?_
 rotate_left 2
 · simp only [List.getElem?_toArray, List.getElem?_cons_succ, List.getElem?_cons_zero]; rfl
 · (refine Or.inl ⟨by rfl, ?_⟩; intro w h; (try dsimp only at h); go_simp; (try with_reducible rfl))
 simp only [Act.put, List.setIfInBounds_toArray, List.set_cons_zero, List.set_cons_succ]
 all_goals skip
 rotate_left 1
 refine AllZ.cons (i := 7) (o := ?_) ?_ (fun K hK => ?_) ?_
 rotate_left 1
 · simp only [List.getElem?_toArray, List.getElem?_cons_succ, List.getElem?_cons_zero]; rfl
 go_simp
 refine hK.out _ _ (.inr trivial) ?_
 clear hK K
 (try simp only [Act.put, List.setIfInBounds_toArray, List.set_cons_zero, List.set_cons_succ])
 have r7 : ¬ (u.heap.size = W.heap.size) := by have := ST.out.sz; omega
 have C7 := Lib.hid (lit7 u)
 replace ST := Lib.hid (ST.out.alloc o7)
 replace OD := Lib.hid (OD.out.alloc o7)
 obtain ⟨p7, h7⟩ : ∃ p, p = u.heap.size := ⟨_, rfl⟩
 generalize hv : u.alloc o7 = u at *
 rw [← h7] at C7 r7 ⊢
 clear hv h7
 obtain ⟨z, hz3, cq⟩ := C7.out q2 hq2
 have hz0 : (0 : Int) ≤ (z : Int) := by omega
 have hz1 : (z : Int) < 3 := by omega
 refine wpAnyZ_more (S' := fun w' : World => w'.cell? ⟨p7, q2, none⟩ = some (.int .i64 (z : Int))) (fun _ _ => trivial) _ _ _ _ ?_
 refine takeB (i := 10) (oi := ?_) (v := ?_) ?_ (by kernel_rfl) (by kernel_rfl) (by kernel_rfl) (by kernel_rfl) ?_ cq ?_
 rotate_left 2
 · simp only [List.getElem?_toArray, List.getElem?_cons_succ, List.getElem?_cons_zero]; rfl
 · (refine Or.inl ⟨by rfl, ?_⟩; intro w h; (try dsimp only at h); go_simp; (try with_reducible rfl))
 simp only [Act.put, List.setIfInBounds_toArray, List.set_cons_zero, List.set_cons_succ]
 refine takeB (i := 11) (oi := ?_) (v := ?_) ?_ (by kernel_rfl) (by kernel_rfl) (by kernel_rfl) (by kernel_rfl) ?_ cq ?_
 rotate_left 2
 · simp only [List.getElem?_toArray, List.getElem?_cons_succ, List.getElem?_cons_zero]; rfl
 · (refine Or.inl ⟨by rfl, ?_⟩; intro w h; (try dsimp only at h); go_simp; (try with_reducible rfl))
 simp only [Act.put, List.setIfInBounds_toArray, List.set_cons_zero, List.set_cons_succ]
 refine wpAnyZ_one (i := 6) (o := ?_) (by kernel_rfl) ?_ (fun K hK => ?_)
 rotate_left 1
 · simp only [List.getElem?_toArray, List.getElem?_cons_succ, List.getElem?_cons_zero]; rfl
 go_simp
 replace cq := ckD cq (b_alloc (Below.refl u.heap.size u) (o6 x0 x1))
 refine hK.out _ _ (.inr cq) ?_
 clear hK K
 (try simp only [Act.put, List.setIfInBounds_toArray, List.set_cons_zero, List.set_cons_succ])
 have r6 : ¬ (u.heap.size = W.heap.size) := by have := ST.out.sz; omega
 replace C7 := Lib.hid (C7.out.alloc (o6 x0 x1))
 have C6 := Lib.hid (lit6 u x0 x1 (by omega) (by omega) (by omega) (by omega))
 replace ST := Lib.hid (ST.out.alloc (o6 x0 x1))
 replace OD := Lib.hid (OD.out.alloc (o6 x0 x1))
 obtain ⟨p6, h6⟩ : ∃ p, p = u.heap.size := ⟨_, rfl⟩
 generalize hv : u.alloc (o6 x0 x1) = u at *
 rw [← h6] at C6 r6 ⊢
 clear hv h6
 obtain ⟨num, n0, n1, cz⟩ := C6.out z hz3
 refine wpAnyZ_more (S' := fun w' : World => w'.cell? ⟨p7, q2, none⟩ = some (.int .i64 (z : Int)) ∧ w'.cell? ⟨p6, z, none⟩ = some (.int .i64 num)) (fun _ h => h.1) _ _ _ _ ?_
 refine takeB (i := 12) (oi := ?_) (v := ?_) ?_ (by kernel_rfl) (by kernel_rfl) (by kernel_rfl) (by kernel_rfl) ?_ ⟨cq, cz⟩ ?_
 rotate_left 2
 · simp only [List.getElem?_toArray, List.getElem?_cons_succ, List.getElem?_cons_zero]; rfl
 · (refine Or.inl ⟨by rfl, ?_⟩; intro w h; (try dsimp only at h); go_simp; (try with_reducible rfl))
 simp only [Act.put, List.setIfInBounds_toArray, List.set_cons_zero, List.set_cons_succ]
 refine takeB (i := 13) (oi := ?_) (v := ?_) ?_ (by kernel_rfl) (by kernel_rfl) (by kernel_rfl) (by kernel_rfl) ?_ ⟨cq, cz⟩ ?_
 rotate_left 2
 · simp only [List.getElem?_toArray, List.getElem?_cons_succ, List.getElem?_cons_zero]; rfl
 · (refine Or.inl ⟨by rfl, ?_⟩; intro w h; (try dsimp only at h); go_simp; (try with_reducible rfl))
 simp only [Act.put, List.setIfInBounds_toArray, List.set_cons_zero, List.set_cons_succ]
 refine takeB (i := 23) (oi := ?_) (v := ?_) ?_ (by kernel_rfl) (by kernel_rfl) (by kernel_rfl) (by kernel_rfl) ?_ ⟨cq, cz⟩ ?_
 rotate_left 2
 · simp only [List.getElem?_toArray, List.getElem?_cons_succ, List.getElem?_cons_zero]; rfl
 · (refine Or.inl ⟨by rfl, ?_⟩; intro w h; (try dsimp only at h); go_simp; (try with_reducible rfl))
 simp only [Act.put, List.setIfInBounds_toArray, List.set_cons_zero, List.set_cons_succ]
 refine takeB (i := 24) (oi := ?_) (v := ?_) ?_ (by kernel_rfl) (by kernel_rfl) (by kernel_rfl) (by kernel_rfl) ?_ ⟨cq, cz⟩ ?_
 rotate_left 2
 · simp only [List.getElem?_toArray, List.getElem?_cons_succ, List.getElem?_cons_zero]; rfl
 · (refine Or.inl ⟨by rfl, ?_⟩; intro w h; (try dsimp only at h); go_simp; (try with_reducible rfl))
 simp only [Act.put, List.setIfInBounds_toArray, List.set_cons_zero, List.set_cons_succ]
 refine takeB (i := 25) (oi := ?_) (v := ?_) ?_ (by kernel_rfl) (by kernel_rfl) (by kernel_rfl) (by kernel_rfl) ?_ ⟨cq, cz⟩ ?_
 rotate_left 2
 · simp only [List.getElem?_toArray, List.getElem?_cons_succ, List.getElem?_cons_zero]; rfl
 · (refine Or.inl ⟨by rfl, ?_⟩; intro w h; (try dsimp only at h); go_simp; (try with_reducible rfl))
 simp only [Act.put, List.setIfInBounds_toArray, List.set_cons_zero, List.set_cons_succ]
 all_goals skip
 rotate_left 1
 exact AllZ.nil
 exact AllZ.nil
 exact AllZ.nil
 exact AllZ.nil
 exact AllZ.nil
 refine AllZ.cons (i := 7) (o := ?_) ?_ (fun K hK => ?_) ?_
 rotate_left 1
 · simp only [List.getElem?_toArray, List.getElem?_cons_succ, List.getElem?_cons_zero]; rfl
 go_simp
 refine hK.out _ _ (.inr trivial) ?_
 clear hK K
 (try simp only [Act.put, List.setIfInBounds_toArray, List.set_cons_zero, List.set_cons_succ])
 have r7 : ¬ (u.heap.size = W.heap.size) := by have := ST.out.sz; omega
 have C7 := Lib.hid (lit7 u)
 replace ST := Lib.hid (ST.out.alloc o7)
 obtain ⟨p7, h7⟩ : ∃ p, p = u.heap.size := ⟨_, rfl⟩
 generalize hv : u.alloc o7 = u at *
 rw [← h7] at C7 r7 ⊢
 clear hv h7
 refine wpAnyZ_one (i := 5) (o := ?_) (by kernel_rfl) ?_ (fun K hK => ?_)
 rotate_left 1
 · simp only [List.getElem?_toArray, List.getElem?_cons_succ, List.getElem?_cons_zero]; rfl
 go_simp
 go_at_call 44; refine (pick_in _ _ _ _ ST.out.rd (by omega) (by omega)).mono ?_; rintro e u ⟨x1, rfl, x1a, x1b, hr, hg, -⟩; (try dsimp only)
 refine hK.out _ _ (.inr trivial) ?_
 clear hK K
 (try simp only [Act.put, List.setIfInBounds_toArray, List.set_cons_zero, List.set_cons_succ])
 replace ST := Lib.hid (ST.out.pick hr hg)
 replace C7 := Lib.hid (C7.out.pick hg r7)
 clear hr hg
 refine wpAnyZ_ready (rs := [6, 9]) (by kernel_rfl) (by simp) ?_
 refine AllZ.cons (i := 6) (o := ?_) ?_ (fun K hK => ?_) ?_
 rotate_left 1
 · simp only [List.getElem?_toArray, List.getElem?_cons_succ, List.getElem?_cons_zero]; rfl
 go_simp
 refine hK.out _ _ (.inr trivial) ?_
 clear hK K
 (try simp only [Act.put, List.setIfInBounds_toArray, List.set_cons_zero, List.set_cons_succ])
 have r6 : ¬ (u.heap.size = W.heap.size) := by have := ST.out.sz; omega
 replace C7 := Lib.hid (C7.out.alloc (o6 x0 x1))
 have C6 := Lib.hid (lit6 u x0 x1 (by omega) (by omega) (by omega) (by omega))
 replace ST := Lib.hid (ST.out.alloc (o6 x0 x1))
 obtain ⟨p6, h6⟩ : ∃ p, p = u.heap.size := ⟨_, rfl⟩
 generalize hv : u.alloc (o6 x0 x1) = u at *
 rw [← h6] at C6 r6 ⊢
 clear hv h6
 all_goals skip
 rotate_left 1
 refine AllZ.cons (i := 9) (o := ?_) ?_ (fun K hK => ?_) ?_
 rotate_left 1
 · simp only [List.getElem?_toArray, List.getElem?_cons_succ, List.getElem?_cons_zero]; rfl
 go_simp
 go_at_call 44; refine (pick_in _ _ _ _ ST.out.rd (by omega) (by omega)).mono ?_; rintro e u ⟨x2, rfl, x2a, x2b, hr, hg, -⟩; (try dsimp only)
 refine hK.out _ _ (.inr trivial) ?_
 clear hK K
 (try simp only [Act.put, List.setIfInBounds_toArray, List.set_cons_zero, List.set_cons_succ])
 replace ST := Lib.hid (ST.out.pick hr hg)
 replace C7 := Lib.hid (C7.out.pick hg r7)
 clear hr hg
 obtain ⟨q2, e2⟩ : ∃ q2 : Nat, x2 = (q2 : Int) := ⟨x2.toNat, by omega⟩
 subst e2
 have hq2 : q2 < 6 := by omega
 have hq0 : (0 : Int) ≤ (q2 : Int) := by omega
 have hq1 : (q2 : Int) < 6 := by omega
 obtain ⟨z, hz3, cq⟩ := C7.out q2 hq2
 have hz0 : (0 : Int) ≤ (z : Int) := by omega
 have hz1 : (z : Int) < 3 := by omega
 refine wpAnyZ_more (S' := fun w' : World => w'.cell? ⟨p7, q2, none⟩ = some (.int .i64 (z : Int))) (fun _ _ => trivial) _ _ _ _ ?_
 refine takeB (i := 10) (oi := ?_) (v := ?_) ?_ (by kernel_rfl) (by kernel_rfl) (by kernel_rfl) (by kernel_rfl) ?_ cq ?_
 rotate_left 2
 · simp only [List.getElem?_toArray, List.getElem?_cons_succ, List.getElem?_cons_zero]; rfl
 · (refine Or.inl ⟨by rfl, ?_⟩; intro w h; (try dsimp only at h); go_simp; (try with_reducible rfl))
 simp only [Act.put, List.setIfInBounds_toArray, List.set_cons_zero, List.set_cons_succ]
 refine takeB (i := 11) (oi := ?_) (v := ?_) ?_ (by kernel_rfl) (by kernel_rfl) (by kernel_rfl) (by kernel_rfl) ?_ cq ?_
 rotate_left 2
 · simp only [List.getElem?_toArray, List.getElem?_cons_succ, List.getElem?_cons_zero]; rfl
 · (refine Or.inl ⟨by rfl, ?_⟩; intro w h; (try dsimp only at h); go_simp; (try with_reducible rfl))
 simp only [Act.put, List.setIfInBounds_toArray, List.set_cons_zero, List.set_cons_succ]
 refine wpAnyZ_ready (rs := [6, 15]) (by kernel_rfl) (by simp) ?_
 refine AllZ.cons (i := 6) (o := ?_) ?_ (fun K hK => ?_) ?_
 rotate_left 1
 · simp only [List.getElem?_toArray, List.getElem?_cons_succ, List.getElem?_cons_zero]; rfl
 go_simp
 replace cq := ckD cq (b_alloc (Below.refl u.heap.size u) (o6 x0 x1))
 refine hK.out _ _ (.inr cq) ?_
 clear hK K
 (try simp only [Act.put, List.setIfInBounds_toArray, List.set_cons_zero, List.set_cons_succ])
 have r6 : ¬ (u.heap.size = W.heap.size) := by have := ST.out.sz; omega
 replace C7 := Lib.hid (C7.out.alloc (o6 x0 x1))
 have C6 := Lib.hid (lit6 u x0 x1 (by omega) (by omega) (by omega) (by omega))
 replace ST := Lib.hid (ST.out.alloc (o6 x0 x1))
 obtain ⟨p6, h6⟩ : ∃ p, p = u.heap.size := ⟨_, rfl⟩
 generalize hv : u.alloc (o6 x0 x1) = u at *
 rw [← h6] at C6 r6 ⊢
 clear hv h6
 obtain ⟨num, n0, n1, cz⟩ := C6.out z hz3
 refine wpAnyZ_more (S' := fun w' : World => w'.cell? ⟨p7, q2, none⟩ = some (.int .i64 (z : Int)) ∧ w'.cell? ⟨p6, z, none⟩ = some (.int .i64 num)) (fun _ h => h.1) _ _ _ _ ?_
 refine takeB (i := 12) (oi := ?_) (v := ?_) ?_ (by kernel_rfl) (by kernel_rfl) (by kernel_rfl) (by kernel_rfl) ?_ ⟨cq, cz⟩ ?_
 rotate_left 2
 · simp only [List.getElem?_toArray, List.getElem?_cons_succ, List.getElem?_cons_zero]; rfl
 · (refine Or.inl ⟨by rfl, ?_⟩; intro w h; (try dsimp only at h); go_simp; (try with_reducible rfl))
 simp only [Act.put, List.setIfInBounds_toArray, List.set_cons_zero, List.set_cons_succ]
 refine takeB (i := 13) (oi := ?_) (v := ?_) ?_ (by kernel_rfl) (by kernel_rfl) (by kernel_rfl) (by kernel_rfl) ?_ ⟨cq, cz⟩ ?_
 rotate_left 2
 · simp only [List.getElem?_toArray, List.getElem?_cons_succ, List.getElem?_cons_zero]; rfl
 · (refine Or.inl ⟨by rfl, ?_⟩; intro w h; (try dsimp only at h); go_simp; (try with_reducible rfl))
 simp only [Act.put, List.setIfInBounds_toArray, List.set_cons_zero, List.set_cons_succ]
 all_goals skip
 rotate_left 1
 refine AllZ.cons (i := 15) (o := ?_) ?_ (fun K hK => ?_) ?_
 rotate_left 1
 · simp only [List.getElem?_toArray, List.getElem?_cons_succ, List.getElem?_cons_zero]; rfl
 go_simp
 go_at_call 44; refine (pick_in _ _ _ _ ST.out.rd (by omega) (by omega)).mono ?_; rintro e u ⟨x3, rfl, x3a, x3b, hr, hg, -⟩; (try dsimp only)
 replace cq := cgD cq hg (fun e => r7 (by injection e))
 refine hK.out _ _ (.inr cq) ?_
 clear hK K
 (try simp only [Act.put, List.setIfInBounds_toArray, List.set_cons_zero, List.set_cons_succ])
 replace ST := Lib.hid (ST.out.pick hr hg)
 replace C7 := Lib.hid (C7.out.pick hg r7)
 clear hr hg
 refine wpAnyZ_ready (rs := [6, 17]) (by kernel_rfl) (by simp) ?_
 refine AllZ.cons (i := 6) (o := ?_) ?_ (fun K hK => ?_) ?_
 rotate_left 1
 · simp only [List.getElem?_toArray, List.getElem?_cons_succ, List.getElem?_cons_zero]; rfl
 go_simp
 replace cq := ckD cq (b_alloc (Below.refl u.heap.size u) (o6 x0 x1))
 refine hK.out _ _ (.inr cq) ?_
 clear hK K
 (try simp only [Act.put, List.setIfInBounds_toArray, List.set_cons_zero, List.set_cons_succ])
 have r6 : ¬ (u.heap.size = W.heap.size) := by have := ST.out.sz; omega
 replace C7 := Lib.hid (C7.out.alloc (o6 x0 x1))
 have C6 := Lib.hid (lit6 u x0 x1 (by omega) (by omega) (by omega) (by omega))
 replace ST := Lib.hid (ST.out.alloc (o6 x0 x1))
 obtain ⟨p6, h6⟩ : ∃ p, p = u.heap.size := ⟨_, rfl⟩
 generalize hv : u.alloc (o6 x0 x1) = u at *
 rw [← h6] at C6 r6 ⊢
 clear hv h6
 obtain ⟨num, n0, n1, cz⟩ := C6.out z hz3
 refine wpAnyZ_more (S' := fun w' : World => w'.cell? ⟨p7, q2, none⟩ = some (.int .i64 (z : Int)) ∧ w'.cell? ⟨p6, z, none⟩ = some (.int .i64 num)) (fun _ h => h.1) _ _ _ _ ?_
 refine takeB (i := 12) (oi := ?_) (v := ?_) ?_ (by kernel_rfl) (by kernel_rfl) (by kernel_rfl) (by kernel_rfl) ?_ ⟨cq, cz⟩ ?_
 rotate_left 2
 · simp only [List.getElem?_toArray, List.getElem?_cons_succ, List.getElem?_cons_zero]; rfl
 · (refine Or.inl ⟨by rfl, ?_⟩; intro w h; (try dsimp only at h); go_simp; (try with_reducible rfl))
 simp only [Act.put, List.setIfInBounds_toArray, List.set_cons_zero, List.set_cons_succ]
 refine takeB (i := 13) (oi := ?_) (v := ?_) ?_ (by kernel_rfl) (by kernel_rfl) (by kernel_rfl) (by kernel_rfl) ?_ ⟨cq, cz⟩ ?_
 rotate_left 2
 · simp only [List.getElem?_toArray, List.getElem?_cons_succ, List.getElem?_cons_zero]; rfl
 · (refine Or.inl ⟨by rfl, ?_⟩; intro w h; (try dsimp only at h); go_simp; (try with_reducible rfl))
 simp only [Act.put, List.setIfInBounds_toArray, List.set_cons_zero, List.set_cons_succ]
 all_goals skip
 rotate_left 1
 refine AllZ.cons (i := 17) (o := ?_) ?_ (fun K hK => ?_) ?_
 rotate_left 1
 · simp only [List.getElem?_toArray, List.getElem?_cons_succ, List.getElem?_cons_zero]; rfl
 go_simp
 go_at_call 44; refine (pick_in _ _ _ _ ST.out.rd (by omega) (by omega)).mono ?_; rintro e u ⟨x4, rfl, x4a, x4b, hr, hg, -⟩; (try dsimp only)
 replace cq := cgD cq hg (fun e => r7 (by injection e))
 refine hK.out _ _ (.inr cq) ?_
 clear hK K
 (try simp only [Act.put, List.setIfInBounds_toArray, List.set_cons_zero, List.set_cons_succ])
 replace ST := Lib.hid (ST.out.pick hr hg)
 replace C7 := Lib.hid (C7.out.pick hg r7)
 clear hr hg
 refine takeB (i := 18) (oi := ?_) (v := ?_) ?_ (by kernel_rfl) (by kernel_rfl) (by kernel_rfl) (by kernel_rfl) ?_ cq ?_
 rotate_left 2
 · simp only [List.getElem?_toArray, List.getElem?_cons_succ, List.getElem?_cons_zero]; rfl
 · (refine Or.inl ⟨by rfl, ?_⟩; intro w h; (try dsimp only at h); go_simp; (try with_reducible rfl))
 simp only [Act.put, List.setIfInBounds_toArray, List.set_cons_zero, List.set_cons_succ]
 refine takeB (i := 19) (oi := ?_) (v := ?_) ?_ (by kernel_rfl) (by kernel_rfl) (by kernel_rfl) (by kernel_rfl) ?_ cq ?_
 rotate_left 2
 · simp only [List.getElem?_toArray, List.getElem?_cons_succ, List.getElem?_cons_zero]; rfl
 · (refine Or.inl ⟨by rfl, ?_⟩; intro w h; (try dsimp only at h); go_simp; (try with_reducible rfl))
 simp only [Act.put, List.setIfInBounds_toArray, List.set_cons_zero, List.set_cons_succ]
 refine wpAnyZ_ready (rs := [6, 21]) (by kernel_rfl) (by simp) ?_
 refine AllZ.cons (i := 6) (o := ?_) ?_ (fun K hK => ?_) ?_
 rotate_left 1
 · simp only [List.getElem?_toArray, List.getElem?_cons_succ, List.getElem?_cons_zero]; rfl
 go_simp
 replace cq := ckD cq (b_alloc (Below.refl u.heap.size u) (o6 x0 x1))
 refine hK.out _ _ (.inr cq) ?_
 clear hK K
 (try simp only [Act.put, List.setIfInBounds_toArray, List.set_cons_zero, List.set_cons_succ])
 have r6 : ¬ (u.heap.size = W.heap.size) := by have := ST.out.sz; omega
 replace C7 := Lib.hid (C7.out.alloc (o6 x0 x1))
 have C6 := Lib.hid (lit6 u x0 x1 (by omega) (by omega) (by omega) (by omega))
 replace ST := Lib.hid (ST.out.alloc (o6 x0 x1))
 obtain ⟨p6, h6⟩ : ∃ p, p = u.heap.size := ⟨_, rfl⟩
 generalize hv : u.alloc (o6 x0 x1) = u at *
 rw [← h6] at C6 r6 ⊢
 clear hv h6
 obtain ⟨num, n0, n1, cz⟩ := C6.out z hz3
 refine wpAnyZ_more (S' := fun w' : World => w'.cell? ⟨p7, q2, none⟩ = some (.int .i64 (z : Int)) ∧ w'.cell? ⟨p6, z, none⟩ = some (.int .i64 num)) (fun _ h => h.1) _ _ _ _ ?_
 refine takeB (i := 12) (oi := ?_) (v := ?_) ?_ (by kernel_rfl) (by kernel_rfl) (by kernel_rfl) (by kernel_rfl) ?_ ⟨cq, cz⟩ ?_
 rotate_left 2
 · simp only [List.getElem?_toArray, List.getElem?_cons_succ, List.getElem?_cons_zero]; rfl
 · (refine Or.inl ⟨by rfl, ?_⟩; intro w h; (try dsimp only at h); go_simp; (try with_reducible rfl))
 simp only [Act.put, List.setIfInBounds_toArray, List.set_cons_zero, List.set_cons_succ]
 refine takeB (i := 13) (oi := ?_) (v := ?_) ?_ (by kernel_rfl) (by kernel_rfl) (by kernel_rfl) (by kernel_rfl) ?_ ⟨cq, cz⟩ ?_
 rotate_left 2
 · simp only [List.getElem?_toArray, List.getElem?_cons_succ, List.getElem?_cons_zero]; rfl
 · (refine Or.inl ⟨by rfl, ?_⟩; intro w h; (try dsimp only at h); go_simp; (try with_reducible rfl))
 simp only [Act.put, List.setIfInBounds_toArray, List.set_cons_zero, List.set_cons_succ]
 all_goals skip
 rotate_left 1
 refine AllZ.cons (i := 21) (o := ?_) ?_ (fun K hK => ?_) ?_
 rotate_left 1
 · simp only [List.getElem?_toArray, List.getElem?_cons_succ, List.getElem?_cons_zero]; rfl
 go_simp
 go_at_call 51; refine (l20Disk_any _ _ _ _ _ ST.out.rd (by omega) (by omega) (by omega)).mono ?_; rintro e u ⟨AD, cD, vs, rfl, oD, lD, hg, QD, hr, -⟩; (try dsimp only)
 replace cq := cgD cq hg (fun e => r7 (by injection e))
 refine hK.out _ _ (.inr cq) ?_
 clear hK K
 (try simp only [Act.put, List.setIfInBounds_toArray, List.set_cons_zero, List.set_cons_succ])
 have OD := Lib.hid (own_mono oD ST.out.bw.size)
 replace ST := Lib.hid (ST.out.pick hr hg)
 replace C7 := Lib.hid (C7.out.pick hg r7)
 clear hr hg oD
 refine takeB (i := 22) (oi := ?_) (v := ?_) ?_ (by kernel_rfl) (by kernel_rfl) (by kernel_rfl) (by kernel_rfl) ?_ cq ?_
 rotate_left 2
 · simp only [List.getElem?_toArray, List.getElem?_cons_succ, List.getElem?_cons_zero]; rfl
 · (refine Or.inl ⟨by rfl, ?_⟩; intro w h; (try dsimp only at h); go_simp; (try with_reducible rfl))
 simp only [Act.put, List.setIfInBounds_toArray, List.set_cons_zero, List.set_cons_succ]
 refine wpAnyZ_one (i := 6) (o := ?_) (by kernel_rfl) ?_ (fun K hK => ?_)
 rotate_left 1
 · simp only [List.getElem?_toArray, List.getElem?_cons_succ, List.getElem?_cons_zero]; rfl
 go_simp
 replace cq := ckD cq (b_alloc (Below.refl u.heap.size u) (o6 x0 x1))
 refine hK.out _ _ (.inr cq) ?_
 clear hK K
 (try simp only [Act.put, List.setIfInBounds_toArray, List.set_cons_zero, List.set_cons_succ])
 have r6 : ¬ (u.heap.size = W.heap.size) := by have := ST.out.sz; omega
 replace C7 := Lib.hid (C7.out.alloc (o6 x0 x1))
 have C6 := Lib.hid (lit6 u x0 x1 (by omega) (by omega) (by omega) (by omega))
 replace ST := Lib.hid (ST.out.alloc (o6 x0 x1))
 replace OD := Lib.hid (OD.out.alloc (o6 x0 x1))
 obtain ⟨p6, h6⟩ : ∃ p, p = u.heap.size := ⟨_, rfl⟩
 generalize hv : u.alloc (o6 x0 x1) = u at *
 rw [← h6] at C6 r6 ⊢
 clear hv h6
 obtain ⟨num, n0, n1, cz⟩ := C6.out z hz3
 refine wpAnyZ_more (S' := fun w' : World => w'.cell? ⟨p7, q2, none⟩ = some (.int .i64 (z : Int)) ∧ w'.cell? ⟨p6, z, none⟩ = some (.int .i64 num)) (fun _ h => h.1) _ _ _ _ ?_
 refine takeB (i := 12) (oi := ?_) (v := ?_) ?_ (by kernel_rfl) (by kernel_rfl) (by kernel_rfl) (by kernel_rfl) ?_ ⟨cq, cz⟩ ?_
 rotate_left 2
 · simp only [List.getElem?_toArray, List.getElem?_cons_succ, List.getElem?_cons_zero]; rfl
 · (refine Or.inl ⟨by rfl, ?_⟩; intro w h; (try dsimp only at h); go_simp; (try with_reducible rfl))
 simp only [Act.put, List.setIfInBounds_toArray, List.set_cons_zero, List.set_cons_succ]
 refine takeB (i := 13) (oi := ?_) (v := ?_) ?_ (by kernel_rfl) (by kernel_rfl) (by kernel_rfl) (by kernel_rfl) ?_ ⟨cq, cz⟩ ?_
 rotate_left 2
 · simp only [List.getElem?_toArray, List.getElem?_cons_succ, List.getElem?_cons_zero]; rfl
 · (refine Or.inl ⟨by rfl, ?_⟩; intro w h; (try dsimp only at h); go_simp; (try with_reducible rfl))
 simp only [Act.put, List.setIfInBounds_toArray, List.set_cons_zero, List.set_cons_succ]
 refine takeB (i := 23) (oi := ?_) (v := ?_) ?_ (by kernel_rfl) (by kernel_rfl) (by kernel_rfl) (by kernel_rfl) ?_ ⟨cq, cz⟩ ?_
 rotate_left 2
 · simp only [List.getElem?_toArray, List.getElem?_cons_succ, List.getElem?_cons_zero]; rfl
 · (refine Or.inl ⟨by rfl, ?_⟩; intro w h; (try dsimp only at h); go_simp; (try with_reducible rfl))
 simp only [Act.put, List.setIfInBounds_toArray, List.set_cons_zero, List.set_cons_succ]
 refine takeB (i := 24) (oi := ?_) (v := ?_) ?_ (by kernel_rfl) (by kernel_rfl) (by kernel_rfl) (by kernel_rfl) ?_ ⟨cq, cz⟩ ?_
 rotate_left 2
 · simp only [List.getElem?_toArray, List.getElem?_cons_succ, List.getElem?_cons_zero]; rfl
 · (refine Or.inl ⟨by rfl, ?_⟩; intro w h; (try dsimp only at h); go_simp; (try with_reducible rfl))
 simp only [Act.put, List.setIfInBounds_toArray, List.set_cons_zero, List.set_cons_succ]
 refine takeB (i := 25) (oi := ?_) (v := ?_) ?_ (by kernel_rfl) (by kernel_rfl) (by kernel_rfl) (by kernel_rfl) ?_ ⟨cq, cz⟩ ?_
 rotate_left 2
 · simp only [List.getElem?_toArray, List.getElem?_cons_succ, List.getElem?_cons_zero]; rfl
 · (refine Or.inl ⟨by rfl, ?_⟩; intro w h; (try dsimp only at h); go_simp; (try with_reducible rfl))
 simp only [Act.put, List.setIfInBounds_toArray, List.set_cons_zero, List.set_cons_succ]
 all_goals skip
 rotate_left 1
 exact AllZ.nil
 exact AllZ.nil
 exact AllZ.nil
 exact AllZ.nil
 exact AllZ.nil
 refine AllZ.cons (i := 7) (o := ?_) ?_ (fun K hK => ?_) ?_
 rotate_left 1
 · simp only [List.getElem?_toArray, List.getElem?_cons_succ, List.getElem?_cons_zero]; rfl
 go_simp
 refine hK.out _ _ (.inr trivial) ?_
 clear hK K
 (try simp only [Act.put, List.setIfInBounds_toArray, List.set_cons_zero, List.set_cons_succ])
 have r7 : ¬ (u.heap.size = W.heap.size) := by have := ST.out.sz; omega
 have C7 := Lib.hid (lit7 u)
 replace ST := Lib.hid (ST.out.alloc o7)
 obtain ⟨p7, h7⟩ : ∃ p, p = u.heap.size := ⟨_, rfl⟩
 generalize hv : u.alloc o7 = u at *
 rw [← h7] at C7 r7 ⊢
 clear hv h7
 refine wpAnyZ_one (i := 2) (o := ?_) (by kernel_rfl) ?_ (fun K hK => ?_)
 rotate_left 1
 · simp only [List.getElem?_toArray, List.getElem?_cons_succ, List.getElem?_cons_zero]; rfl
 go_simp
 go_at_call 44; refine (pick_in _ _ _ _ ST.out.rd (by omega) (by omega)).mono ?_; rintro e u ⟨x0, rfl, x0a, x0b, hr, hg, -⟩; (try dsimp only)
 refine hK.out _ _ (.inr trivial) ?_
 clear hK K
 (try simp only [Act.put, List.setIfInBounds_toArray, List.set_cons_zero, List.set_cons_succ])
 replace ST := Lib.hid (ST.out.pick hr hg)
 replace C7 := Lib.hid (C7.out.pick hg r7)
 clear hr hg
 have e8 : IntKind.i64.wrap (8 + x0) = 8 + x0 := IntWalk.i64_in _ (by omega)
 refine takeB (i := 3) (oi := ?_) (v := ?_) ?_ (by kernel_rfl) (by kernel_rfl) (by kernel_rfl) (by kernel_rfl) ?_ trivial ?_
 rotate_left 2
 · simp only [List.getElem?_toArray, List.getElem?_cons_succ, List.getElem?_cons_zero]; rfl
 · (refine Or.inl ⟨by rfl, ?_⟩; intro w h; (try dsimp only at h); go_simp; (try with_reducible rfl))
 simp only [Act.put, List.setIfInBounds_toArray, List.set_cons_zero, List.set_cons_succ]
 (try rw [e8])
 clear e8
 refine wpAnyZ_one (i := 5) (o := ?_) (by kernel_rfl) ?_ (fun K hK => ?_)
 rotate_left 1
 · simp only [List.getElem?_toArray, List.getElem?_cons_succ, List.getElem?_cons_zero]; rfl
 go_simp
 go_at_call 44; refine (pick_in _ _ _ _ ST.out.rd (by omega) (by omega)).mono ?_; rintro e u ⟨x1, rfl, x1a, x1b, hr, hg, -⟩; (try dsimp only)
 refine hK.out _ _ (.inr trivial) ?_
 clear hK K
 (try simp only [Act.put, List.setIfInBounds_toArray, List.set_cons_zero, List.set_cons_succ])
 replace ST := Lib.hid (ST.out.pick hr hg)
 replace C7 := Lib.hid (C7.out.pick hg r7)
 clear hr hg
 refine wpAnyZ_ready (rs := [6, 9]) (by kernel_rfl) (by simp) ?_
 refine AllZ.cons (i := 6) (o := ?_) ?_ (fun K hK => ?_) ?_
 rotate_left 1
 · simp only [List.getElem?_toArray, List.getElem?_cons_succ, List.getElem?_cons_zero]; rfl
 go_simp
 refine hK.out _ _ (.inr trivial) ?_
 clear hK K
 (try simp only [Act.put, List.setIfInBounds_toArray, List.set_cons_zero, List.set_cons_succ])
 have r6 : ¬ (u.heap.size = W.heap.size) := by have := ST.out.sz; omega
 replace C7 := Lib.hid (C7.out.alloc (o6 x0 x1))
 have C6 := Lib.hid (lit6 u x0 x1 (by omega) (by omega) (by omega) (by omega))
 replace ST := Lib.hid (ST.out.alloc (o6 x0 x1))
 obtain ⟨p6, h6⟩ : ∃ p, p = u.heap.size := ⟨_, rfl⟩
 generalize hv : u.alloc (o6 x0 x1) = u at *
 rw [← h6] at C6 r6 ⊢
 clear hv h6
 all_goals skip
 rotate_left 1
 refine AllZ.cons (i := 9) (o := ?_) ?_ (fun K hK => ?_) ?_
 rotate_left 1
 · simp only [List.getElem?_toArray, List.getElem?_cons_succ, List.getElem?_cons_zero]; rfl
 go_simp
 go_at_call 44; refine (pick_in _ _ _ _ ST.out.rd (by omega) (by omega)).mono ?_; rintro e u ⟨x2, rfl, x2a, x2b, hr, hg, -⟩; (try dsimp only)
 refine hK.out _ _ (.inr trivial) ?_
 clear hK K
 (try simp only [Act.put, List.setIfInBounds_toArray, List.set_cons_zero, List.set_cons_succ])
 replace ST := Lib.hid (ST.out.pick hr hg)
 replace C7 := Lib.hid (C7.out.pick hg r7)
 clear hr hg
 obtain ⟨q2, e2⟩ : ∃ q2 : Nat, x2 = (q2 : Int) := ⟨x2.toNat, by omega⟩
 subst e2
 have hq2 : q2 < 6 := by omega
 have hq0 : (0 : Int) ≤ (q2 : Int) := by omega
 have hq1 : (q2 : Int) < 6 := by omega
 obtain ⟨z, hz3, cq⟩ := C7.out q2 hq2
 have hz0 : (0 : Int) ≤ (z : Int) := by omega
 have hz1 : (z : Int) < 3 := by omega
 refine wpAnyZ_more (S' := fun w' : World => w'.cell? ⟨p7, q2, none⟩ = some (.int .i64 (z : Int))) (fun _ _ => trivial) _ _ _ _ ?_
 refine takeB (i := 10) (oi := ?_) (v := ?_) ?_ (by kernel_rfl) (by kernel_rfl) (by kernel_rfl) (by kernel_rfl) ?_ cq ?_
 rotate_left 2
 · simp only [List.getElem?_toArray, List.getElem?_cons_succ, List.getElem?_cons_zero]; rfl
 · (refine Or.inl ⟨by rfl, ?_⟩; intro w h; (try dsimp only at h); go_simp; (try with_reducible rfl))
 simp only [Act.put, List.setIfInBounds_toArray, List.set_cons_zero, List.set_cons_succ]
 refine takeB (i := 11) (oi := ?_) (v := ?_) ?_ (by kernel_rfl) (by kernel_rfl) (by kernel_rfl) (by kernel_rfl) ?_ cq ?_
 rotate_left 2
 · simp only [List.getElem?_toArray, List.getElem?_cons_succ, List.getElem?_cons_zero]; rfl
 · (refine Or.inl ⟨by rfl, ?_⟩; intro w h; (try dsimp only at h); go_simp; (try with_reducible rfl))
 simp only [Act.put, List.setIfInBounds_toArray, List.set_cons_zero, List.set_cons_succ]
 refine wpAnyZ_ready (rs := [6, 15]) (by kernel_rfl) (by simp) ?_
 refine AllZ.cons (i := 6) (o := ?_) ?_ (fun K hK => ?_) ?_
 rotate_left 1
 · simp only [List.getElem?_toArray, List.getElem?_cons_succ, List.getElem?_cons_zero]; rfl
 go_simp
 replace cq := ckD cq (b_alloc (Below.refl u.heap.size u) (o6 x0 x1))
 refine hK.out _ _ (.inr cq) ?_
 clear hK K
 (try simp only [Act.put, List.setIfInBounds_toArray, List.set_cons_zero, List.set_cons_succ])
 have r6 : ¬ (u.heap.size = W.heap.size) := by have := ST.out.sz; omega
 replace C7 := Lib.hid (C7.out.alloc (o6 x0 x1))
 have C6 := Lib.hid (lit6 u x0 x1 (by omega) (by omega) (by omega) (by omega))
 replace ST := Lib.hid (ST.out.alloc (o6 x0 x1))
 obtain ⟨p6, h6⟩ : ∃ p, p = u.heap.size := ⟨_, rfl⟩
 generalize hv : u.alloc (o6 x0 x1) = u at *
 rw [← h6] at C6 r6 ⊢
 clear hv h6
 obtain ⟨num, n0, n1, cz⟩ := C6.out z hz3
 refine wpAnyZ_more (S' := fun w' : World => w'.cell? ⟨p7, q2, none⟩ = some (.int .i64 (z : Int)) ∧ w'.cell? ⟨p6, z, none⟩ = some (.int .i64 num)) (fun _ h => h.1) _ _ _ _ ?_
 refine takeB (i := 12) (oi := ?_) (v := ?_) ?_ (by kernel_rfl) (by kernel_rfl) (by kernel_rfl) (by kernel_rfl) ?_ ⟨cq, cz⟩ ?_
 rotate_left 2
 · simp only [List.getElem?_toArray, List.getElem?_cons_succ, List.getElem?_cons_zero]; rfl
 · (refine Or.inl ⟨by rfl, ?_⟩; intro w h; (try dsimp only at h); go_simp; (try with_reducible rfl))
 simp only [Act.put, List.setIfInBounds_toArray, List.set_cons_zero, List.set_cons_succ]
 refine takeB (i := 13) (oi := ?_) (v := ?_) ?_ (by kernel_rfl) (by kernel_rfl) (by kernel_rfl) (by kernel_rfl) ?_ ⟨cq, cz⟩ ?_
 rotate_left 2
 · simp only [List.getElem?_toArray, List.getElem?_cons_succ, List.getElem?_cons_zero]; rfl
 · (refine Or.inl ⟨by rfl, ?_⟩; intro w h; (try dsimp only at h); go_simp; (try with_reducible rfl))
 simp only [Act.put, List.setIfInBounds_toArray, List.set_cons_zero, List.set_cons_succ]
 all_goals skip
 rotate_left 1
 refine AllZ.cons (i := 15) (o := ?_) ?_ (fun K hK => ?_) ?_
 rotate_left 1
 · simp only [List.getElem?_toArray, List.getElem?_cons_succ, List.getElem?_cons_zero]; rfl
 go_simp
 go_at_call 44; refine (pick_in _ _ _ _ ST.out.rd (by omega) (by omega)).mono ?_; rintro e u ⟨x3, rfl, x3a, x3b, hr, hg, -⟩; (try dsimp only)
 replace cq := cgD cq hg (fun e => r7 (by injection e))
 refine hK.out _ _ (.inr cq) ?_
 clear hK K
 (try simp only [Act.put, List.setIfInBounds_toArray, List.set_cons_zero, List.set_cons_succ])
 replace ST := Lib.hid (ST.out.pick hr hg)
 replace C7 := Lib.hid (C7.out.pick hg r7)
 clear hr hg
 refine wpAnyZ_ready (rs := [6, 17]) (by kernel_rfl) (by simp) ?_
 refine AllZ.cons (i := 6) (o := ?_) ?_ (fun K hK => ?_) ?_
 rotate_left 1
 · simp only [List.getElem?_toArray, List.getElem?_cons_succ, List.getElem?_cons_zero]; rfl
 go_simp
 replace cq := ckD cq (b_alloc (Below.refl u.heap.size u) (o6 x0 x1))
 refine hK.out _ _ (.inr cq) ?_
 clear hK K
 (try simp only [Act.put, List.setIfInBounds_toArray, List.set_cons_zero, List.set_cons_succ])
 have r6 : ¬ (u.heap.size = W.heap.size) := by have := ST.out.sz; omega
 replace C7 := Lib.hid (C7.out.alloc (o6 x0 x1))
 have C6 := Lib.hid (lit6 u x0 x1 (by omega) (by omega) (by omega) (by omega))
 replace ST := Lib.hid (ST.out.alloc (o6 x0 x1))
 obtain ⟨p6, h6⟩ : ∃ p, p = u.heap.size := ⟨_, rfl⟩
 generalize hv : u.alloc (o6 x0 x1) = u at *
 rw [← h6] at C6 r6 ⊢
 clear hv h6
 obtain ⟨num, n0, n1, cz⟩ := C6.out z hz3
 refine wpAnyZ_more (S' := fun w' : World => w'.cell? ⟨p7, q2, none⟩ = some (.int .i64 (z : Int)) ∧ w'.cell? ⟨p6, z, none⟩ = some (.int .i64 num)) (fun _ h => h.1) _ _ _ _ ?_
 refine takeB (i := 12) (oi := ?_) (v := ?_) ?_ (by kernel_rfl) (by kernel_rfl) (by kernel_rfl) (by kernel_rfl) ?_ ⟨cq, cz⟩ ?_
 rotate_left 2
 · simp only [List.getElem?_toArray, List.getElem?_cons_succ, List.getElem?_cons_zero]; rfl
 · (refine Or.inl ⟨by rfl, ?_⟩; intro w h; (try dsimp only at h); go_simp; (try with_reducible rfl))
 simp only [Act.put, List.setIfInBounds_toArray, List.set_cons_zero, List.set_cons_succ]
 refine takeB (i := 13) (oi := ?_) (v := ?_) ?_ (by kernel_rfl) (by kernel_rfl) (by kernel_rfl) (by kernel_rfl) ?_ ⟨cq, cz⟩ ?_
 rotate_left 2
 · simp only [List.getElem?_toArray, List.getElem?_cons_succ, List.getElem?_cons_zero]; rfl
 · (refine Or.inl ⟨by rfl, ?_⟩; intro w h; (try dsimp only at h); go_simp; (try with_reducible rfl))
 simp only [Act.put, List.setIfInBounds_toArray, List.set_cons_zero, List.set_cons_succ]
 all_goals skip
 rotate_left 1
 refine AllZ.cons (i := 17) (o := ?_) ?_ (fun K hK => ?_) ?_
 rotate_left 1
 · simp only [List.getElem?_toArray, List.getElem?_cons_succ, List.getElem?_cons_zero]; rfl
 go_simp
 go_at_call 44; refine (pick_in _ _ _ _ ST.out.rd (by omega) (by omega)).mono ?_; rintro e u ⟨x4, rfl, x4a, x4b, hr, hg, -⟩; (try dsimp only)
 replace cq := cgD cq hg (fun e => r7 (by injection e))
 refine hK.out _ _ (.inr cq) ?_
 clear hK K
 (try simp only [Act.put, List.setIfInBounds_toArray, List.set_cons_zero, List.set_cons_succ])
 replace ST := Lib.hid (ST.out.pick hr hg)
 replace C7 := Lib.hid (C7.out.pick hg r7)
 clear hr hg
 refine takeB (i := 18) (oi := ?_) (v := ?_) ?_ (by kernel_rfl) (by kernel_rfl) (by kernel_rfl) (by kernel_rfl) ?_ cq ?_
 rotate_left 2
 · simp only [List.getElem?_toArray, List.getElem?_cons_succ, List.getElem?_cons_zero]; rfl
 · (refine Or.inl ⟨by rfl, ?_⟩; intro w h; (try dsimp only at h); go_simp; (try with_reducible rfl))
 simp only [Act.put, List.setIfInBounds_toArray, List.set_cons_zero, List.set_cons_succ]
 refine takeB (i := 19) (oi := ?_) (v := ?_) ?_ (by kernel_rfl) (by kernel_rfl) (by kernel_rfl) (by kernel_rfl) ?_ cq ?_
 rotate_left 2
 · simp only [List.getElem?_toArray, List.getElem?_cons_succ, List.getElem?_cons_zero]; rfl
 · (refine Or.inl ⟨by rfl, ?_⟩; intro w h; (try dsimp only at h); go_simp; (try with_reducible rfl))
 simp only [Act.put, List.setIfInBounds_toArray, List.set_cons_zero, List.set_cons_succ]
 refine wpAnyZ_ready (rs := [6, 21]) (by kernel_rfl) (by simp) ?_
 refine AllZ.cons (i := 6) (o := ?_) ?_ (fun K hK => ?_) ?_
 rotate_left 1
 · simp only [List.getElem?_toArray, List.getElem?_cons_succ, List.getElem?_cons_zero]; rfl
 go_simp
 replace cq := ckD cq (b_alloc (Below.refl u.heap.size u) (o6 x0 x1))
 refine hK.out _ _ (.inr cq) ?_
 clear hK K
 (try simp only [Act.put, List.setIfInBounds_toArray, List.set_cons_zero, List.set_cons_succ])
 have r6 : ¬ (u.heap.size = W.heap.size) := by have := ST.out.sz; omega
 replace C7 := Lib.hid (C7.out.alloc (o6 x0 x1))
 have C6 := Lib.hid (lit6 u x0 x1 (by omega) (by omega) (by omega) (by omega))
 replace ST := Lib.hid (ST.out.alloc (o6 x0 x1))
 obtain ⟨p6, h6⟩ : ∃ p, p = u.heap.size := ⟨_, rfl⟩
 generalize hv : u.alloc (o6 x0 x1) = u at *
 rw [← h6] at C6 r6 ⊢
 clear hv h6
 obtain ⟨num, n0, n1, cz⟩ := C6.out z hz3
 refine wpAnyZ_more (S' := fun w' : World => w'.cell? ⟨p7, q2, none⟩ = some (.int .i64 (z : Int)) ∧ w'.cell? ⟨p6, z, none⟩ = some (.int .i64 num)) (fun _ h => h.1) _ _ _ _ ?_
 refine takeB (i := 12) (oi := ?_) (v := ?_) ?_ (by kernel_rfl) (by kernel_rfl) (by kernel_rfl) (by kernel_rfl) ?_ ⟨cq, cz⟩ ?_
 rotate_left 2
 · simp only [List.getElem?_toArray, List.getElem?_cons_succ, List.getElem?_cons_zero]; rfl
 · (refine Or.inl ⟨by rfl, ?_⟩; intro w h; (try dsimp only at h); go_simp; (try with_reducible rfl))
 simp only [Act.put, List.setIfInBounds_toArray, List.set_cons_zero, List.set_cons_succ]
 refine takeB (i := 13) (oi := ?_) (v := ?_) ?_ (by kernel_rfl) (by kernel_rfl) (by kernel_rfl) (by kernel_rfl) ?_ ⟨cq, cz⟩ ?_
 rotate_left 2
 · simp only [List.getElem?_toArray, List.getElem?_cons_succ, List.getElem?_cons_zero]; rfl
 · (refine Or.inl ⟨by rfl, ?_⟩; intro w h; (try dsimp only at h); go_simp; (try with_reducible rfl))
 simp only [Act.put, List.setIfInBounds_toArray, List.set_cons_zero, List.set_cons_succ]
 all_goals skip
 rotate_left 1
 refine AllZ.cons (i := 21) (o := ?_) ?_ (fun K hK => ?_) ?_
 rotate_left 1
 · simp only [List.getElem?_toArray, List.getElem?_cons_succ, List.getElem?_cons_zero]; rfl
 go_simp
 go_at_call 51; refine (l20Disk_any _ _ _ _ _ ST.out.rd (by omega) (by omega) (by omega)).mono ?_; rintro e u ⟨AD, cD, vs, rfl, oD, lD, hg, QD, hr, -⟩; (try dsimp only)
 replace cq := cgD cq hg (fun e => r7 (by injection e))
 refine hK.out _ _ (.inr cq) ?_
 clear hK K
 (try simp only [Act.put, List.setIfInBounds_toArray, List.set_cons_zero, List.set_cons_succ])
 have OD := Lib.hid (own_mono oD ST.out.bw.size)
 replace ST := Lib.hid (ST.out.pick hr hg)
 replace C7 := Lib.hid (C7.out.pick hg r7)
 clear hr hg oD
 refine takeB (i := 22) (oi := ?_) (v := ?_) ?_ (by kernel_rfl) (by kernel_rfl) (by kernel_rfl) (by kernel_rfl) ?_ cq ?_
 rotate_left 2
 · simp only [List.getElem?_toArray, List.getElem?_cons_succ, List.getElem?_cons_zero]; rfl
 · (refine Or.inl ⟨by rfl, ?_⟩; intro w h; (try dsimp only at h); go_simp; (try with_reducible rfl))
 simp only [Act.put, List.setIfInBounds_toArray, List.set_cons_zero, List.set_cons_succ]
 refine wpAnyZ_one (i := 6) (o := ?_) (by kernel_rfl) ?_ (fun K hK => ?_)
 rotate_left 1
 · simp only [List.getElem?_toArray, List.getElem?_cons_succ, List.getElem?_cons_zero]; rfl
 go_simp
 replace cq := ckD cq (b_alloc (Below.refl u.heap.size u) (o6 x0 x1))
 refine hK.out _ _ (.inr cq) ?_
 clear hK K
 (try simp only [Act.put, List.setIfInBounds_toArray, List.set_cons_zero, List.set_cons_succ])
 have r6 : ¬ (u.heap.size = W.heap.size) := by have := ST.out.sz; omega
 replace C7 := Lib.hid (C7.out.alloc (o6 x0 x1))
 have C6 := Lib.hid (lit6 u x0 x1 (by omega) (by omega) (by omega) (by omega))
 replace ST := Lib.hid (ST.out.alloc (o6 x0 x1))
 replace OD := Lib.hid (OD.out.alloc (o6 x0 x1))
 obtain ⟨p6, h6⟩ : ∃ p, p = u.heap.size := ⟨_, rfl⟩
 generalize hv : u.alloc (o6 x0 x1) = u at *
 rw [← h6] at C6 r6 ⊢
 clear hv h6
 obtain ⟨num, n0, n1, cz⟩ := C6.out z hz3
 refine wpAnyZ_more (S' := fun w' : World => w'.cell? ⟨p7, q2, none⟩ = some (.int .i64 (z : Int)) ∧ w'.cell? ⟨p6, z, none⟩ = some (.int .i64 num)) (fun _ h => h.1) _ _ _ _ ?_
 refine takeB (i := 12) (oi := ?_) (v := ?_) ?_ (by kernel_rfl) (by kernel_rfl) (by kernel_rfl) (by kernel_rfl) ?_ ⟨cq, cz⟩ ?_
 rotate_left 2
 · simp only [List.getElem?_toArray, List.getElem?_cons_succ, List.getElem?_cons_zero]; rfl
 · (refine Or.inl ⟨by rfl, ?_⟩; intro w h; (try dsimp only at h); go_simp; (try with_reducible rfl))
 simp only [Act.put, List.setIfInBounds_toArray, List.set_cons_zero, List.set_cons_succ]
 refine takeB (i := 13) (oi := ?_) (v := ?_) ?_ (by kernel_rfl) (by kernel_rfl) (by kernel_rfl) (by kernel_rfl) ?_ ⟨cq, cz⟩ ?_
 rotate_left 2
 · simp only [List.getElem?_toArray, List.getElem?_cons_succ, List.getElem?_cons_zero]; rfl
 · (refine Or.inl ⟨by rfl, ?_⟩; intro w h; (try dsimp only at h); go_simp; (try with_reducible rfl))
 simp only [Act.put, List.setIfInBounds_toArray, List.set_cons_zero, List.set_cons_succ]
 refine takeB (i := 23) (oi := ?_) (v := ?_) ?_ (by kernel_rfl) (by kernel_rfl) (by kernel_rfl) (by kernel_rfl) ?_ ⟨cq, cz⟩ ?_
 rotate_left 2
 · simp only [List.getElem?_toArray, List.getElem?_cons_succ, List.getElem?_cons_zero]; rfl
 · (refine Or.inl ⟨by rfl, ?_⟩; intro w h; (try dsimp only at h); go_simp; (try with_reducible rfl))
 simp only [Act.put, List.setIfInBounds_toArray, List.set_cons_zero, List.set_cons_succ]
 refine takeB (i := 24) (oi := ?_) (v := ?_) ?_ (by kernel_rfl) (by kernel_rfl) (by kernel_rfl) (by kernel_rfl) ?_ ⟨cq, cz⟩ ?_
 rotate_left 2
 · simp only [List.getElem?_toArray, List.getElem?_cons_succ, List.getElem?_cons_zero]; rfl
 · (refine Or.inl ⟨by rfl, ?_⟩; intro w h; (try dsimp only at h); go_simp; (try with_reducible rfl))
 simp only [Act.put, List.setIfInBounds_toArray, List.set_cons_zero, List.set_cons_succ]
 refine takeB (i := 25) (oi := ?_) (v := ?_) ?_ (by kernel_rfl) (by kernel_rfl) (by kernel_rfl) (by kernel_rfl) ?_ ⟨cq, cz⟩ ?_
 rotate_left 2
 · simp only [List.getElem?_toArray, List.getElem?_cons_succ, List.getElem?_cons_zero]; rfl
 · (refine Or.inl ⟨by rfl, ?_⟩; intro w h; (try dsimp only at h); go_simp; (try with_reducible rfl))
 simp only [Act.put, List.setIfInBounds_toArray, List.set_cons_zero, List.set_cons_succ]
 all_goals skip
 rotate_left 1
 exact AllZ.nil
 exact AllZ.nil
 exact AllZ.nil
 exact AllZ.nil
 exact AllZ.nil
 all_goals try (
   refine wpAnyZ_one (i := 9) (o := ?_) (by decide +kernel) ?_ (fun K hK => ?_)
   rotate_left 1
   · simp only [List.getElem?_toArray, List.getElem?_cons_succ, List.getElem?_cons_zero]; rfl
   go_simp
   go_at_call 44; refine (pick_in _ _ _ _ ST.out.rd (by omega) (by omega)).mono ?_; rintro e u ⟨x2, rfl, x2a, x2b, hr, hg, -⟩; (try dsimp only)
   refine hK.out _ _ (.inr trivial) ?_
   clear hK K
   (try simp only [Act.put, List.setIfInBounds_toArray, List.set_cons_zero, List.set_cons_succ])
   replace ST := Lib.hid (ST.out.pick hr hg)
   replace C7 := Lib.hid (C7.out.pick hg r7)
   replace C6 := Lib.hid (C6.out.pick hg r6)
   clear hr hg
   obtain ⟨q2, e2⟩ : ∃ q2 : Nat, x2 = (q2 : Int) := ⟨x2.toNat, by omega⟩
   subst e2
   have hq2 : q2 < 6 := by omega
   have hq0 : (0 : Int) ≤ (q2 : Int) := by omega
   have hq1 : (q2 : Int) < 6 := by omega
   obtain ⟨z, hz3, cq⟩ := C7.out q2 hq2
   have hz0 : (0 : Int) ≤ (z : Int) := by omega
   have hz1 : (z : Int) < 3 := by omega
   refine wpAnyZ_more (S' := fun w' : World => w'.cell? ⟨p7, q2, none⟩ = some (.int .i64 (z : Int))) (fun _ _ => trivial) _ _ _ _ ?_
   refine takeB (i := 10) (oi := ?_) (v := ?_) ?_ (by kernel_rfl) (by kernel_rfl) (by kernel_rfl) (by kernel_rfl) ?_ cq ?_
   rotate_left 2
   · simp only [List.getElem?_toArray, List.getElem?_cons_succ, List.getElem?_cons_zero]; rfl
   · (refine Or.inl ⟨by rfl, ?_⟩; intro w h; (try dsimp only at h); go_simp; (try with_reducible rfl))
   simp only [Act.put, List.setIfInBounds_toArray, List.set_cons_zero, List.set_cons_succ]
   refine takeB (i := 11) (oi := ?_) (v := ?_) ?_ (by kernel_rfl) (by kernel_rfl) (by kernel_rfl) (by kernel_rfl) ?_ cq ?_
   rotate_left 2
   · simp only [List.getElem?_toArray, List.getElem?_cons_succ, List.getElem?_cons_zero]; rfl
   · (refine Or.inl ⟨by rfl, ?_⟩; intro w h; (try dsimp only at h); go_simp; (try with_reducible rfl))
   simp only [Act.put, List.setIfInBounds_toArray, List.set_cons_zero, List.set_cons_succ]
   obtain ⟨num, n0, n1, cz⟩ := C6.out z hz3
   refine wpAnyZ_more (S' := fun w' : World => w'.cell? ⟨p7, q2, none⟩ = some (.int .i64 (z : Int)) ∧ w'.cell? ⟨p6, z, none⟩ = some (.int .i64 num)) (fun _ h => h.1) _ _ _ _ ?_
   refine takeB (i := 12) (oi := ?_) (v := ?_) ?_ (by kernel_rfl) (by kernel_rfl) (by kernel_rfl) (by kernel_rfl) ?_ ⟨cq, cz⟩ ?_
   rotate_left 2
   · simp only [List.getElem?_toArray, List.getElem?_cons_succ, List.getElem?_cons_zero]; rfl
   · (refine Or.inl ⟨by rfl, ?_⟩; intro w h; (try dsimp only at h); go_simp; (try with_reducible rfl))
   simp only [Act.put, List.setIfInBounds_toArray, List.set_cons_zero, List.set_cons_succ]
   refine takeB (i := 13) (oi := ?_) (v := ?_) ?_ (by kernel_rfl) (by kernel_rfl) (by kernel_rfl) (by kernel_rfl) ?_ ⟨cq, cz⟩ ?_
   rotate_left 2
   · simp only [List.getElem?_toArray, List.getElem?_cons_succ, List.getElem?_cons_zero]; rfl
   · (refine Or.inl ⟨by rfl, ?_⟩; intro w h; (try dsimp only at h); go_simp; (try with_reducible rfl))
   simp only [Act.put, List.setIfInBounds_toArray, List.set_cons_zero, List.set_cons_succ])
 all_goals try (
   refine wpAnyZ_one (i := 15) (o := ?_) (by decide +kernel) ?_ (fun K hK => ?_)
   rotate_left 1
   · simp only [List.getElem?_toArray, List.getElem?_cons_succ, List.getElem?_cons_zero]; rfl
   go_simp
   go_at_call 44; refine (pick_in _ _ _ _ ST.out.rd (by omega) (by omega)).mono ?_; rintro e u ⟨x3, rfl, x3a, x3b, hr, hg, -⟩; (try dsimp only)
   replace cq := cgD cq hg (fun e => r7 (by injection e))
   replace cz := cgD cz hg (fun e => r6 (by injection e))
   refine hK.out _ _ (.inr ⟨cq, cz⟩) ?_
   clear hK K
   (try simp only [Act.put, List.setIfInBounds_toArray, List.set_cons_zero, List.set_cons_succ])
   replace ST := Lib.hid (ST.out.pick hr hg)
   replace C7 := Lib.hid (C7.out.pick hg r7)
   replace C6 := Lib.hid (C6.out.pick hg r6)
   clear hr hg)
 all_goals try (
   refine wpAnyZ_one (i := 17) (o := ?_) (by decide +kernel) ?_ (fun K hK => ?_)
   rotate_left 1
   · simp only [List.getElem?_toArray, List.getElem?_cons_succ, List.getElem?_cons_zero]; rfl
   go_simp
   go_at_call 44; refine (pick_in _ _ _ _ ST.out.rd (by omega) (by omega)).mono ?_; rintro e u ⟨x4, rfl, x4a, x4b, hr, hg, -⟩; (try dsimp only)
   replace cq := cgD cq hg (fun e => r7 (by injection e))
   replace cz := cgD cz hg (fun e => r6 (by injection e))
   refine hK.out _ _ (.inr ⟨cq, cz⟩) ?_
   clear hK K
   (try simp only [Act.put, List.setIfInBounds_toArray, List.set_cons_zero, List.set_cons_succ])
   replace ST := Lib.hid (ST.out.pick hr hg)
   replace C7 := Lib.hid (C7.out.pick hg r7)
   replace C6 := Lib.hid (C6.out.pick hg r6)
   clear hr hg
   refine takeB (i := 18) (oi := ?_) (v := ?_) ?_ (by kernel_rfl) (by kernel_rfl) (by kernel_rfl) (by kernel_rfl) ?_ ⟨cq, cz⟩ ?_
   rotate_left 2
   · simp only [List.getElem?_toArray, List.getElem?_cons_succ, List.getElem?_cons_zero]; rfl
   · (refine Or.inl ⟨by rfl, ?_⟩; intro w h; (try dsimp only at h); go_simp; (try with_reducible rfl))
   simp only [Act.put, List.setIfInBounds_toArray, List.set_cons_zero, List.set_cons_succ]
   refine takeB (i := 19) (oi := ?_) (v := ?_) ?_ (by kernel_rfl) (by kernel_rfl) (by kernel_rfl) (by kernel_rfl) ?_ ⟨cq, cz⟩ ?_
   rotate_left 2
   · simp only [List.getElem?_toArray, List.getElem?_cons_succ, List.getElem?_cons_zero]; rfl
   · (refine Or.inl ⟨by rfl, ?_⟩; intro w h; (try dsimp only at h); go_simp; (try with_reducible rfl))
   simp only [Act.put, List.setIfInBounds_toArray, List.set_cons_zero, List.set_cons_succ])
 all_goals try (
   refine wpAnyZ_one (i := 21) (o := ?_) (by decide +kernel) ?_ (fun K hK => ?_)
   rotate_left 1
   · simp only [List.getElem?_toArray, List.getElem?_cons_succ, List.getElem?_cons_zero]; rfl
   go_simp
   go_at_call 51; refine (l20Disk_any _ _ _ _ _ ST.out.rd (by omega) (by omega) (by omega)).mono ?_; rintro e u ⟨AD, cD, vs, rfl, oD, lD, hg, QD, hr, -⟩; (try dsimp only)
   replace cq := cgD cq hg (fun e => r7 (by injection e))
   replace cz := cgD cz hg (fun e => r6 (by injection e))
   refine hK.out _ _ (.inr ⟨cq, cz⟩) ?_
   clear hK K
   (try simp only [Act.put, List.setIfInBounds_toArray, List.set_cons_zero, List.set_cons_succ])
   have OD := Lib.hid (own_mono oD ST.out.bw.size)
   replace ST := Lib.hid (ST.out.pick hr hg)
   replace C7 := Lib.hid (C7.out.pick hg r7)
   replace C6 := Lib.hid (C6.out.pick hg r6)
   clear hr hg oD
   refine takeB (i := 22) (oi := ?_) (v := ?_) ?_ (by kernel_rfl) (by kernel_rfl) (by kernel_rfl) (by kernel_rfl) ?_ ⟨cq, cz⟩ ?_
   rotate_left 2
   · simp only [List.getElem?_toArray, List.getElem?_cons_succ, List.getElem?_cons_zero]; rfl
   · (refine Or.inl ⟨by rfl, ?_⟩; intro w h; (try dsimp only at h); go_simp; (try with_reducible rfl))
   simp only [Act.put, List.setIfInBounds_toArray, List.set_cons_zero, List.set_cons_succ]
   refine takeB (i := 23) (oi := ?_) (v := ?_) ?_ (by kernel_rfl) (by kernel_rfl) (by kernel_rfl) (by kernel_rfl) ?_ ⟨cq, cz⟩ ?_
   rotate_left 2
   · simp only [List.getElem?_toArray, List.getElem?_cons_succ, List.getElem?_cons_zero]; rfl
   · (refine Or.inl ⟨by rfl, ?_⟩; intro w h; (try dsimp only at h); go_simp; (try with_reducible rfl))
   simp only [Act.put, List.setIfInBounds_toArray, List.set_cons_zero, List.set_cons_succ]
   refine takeB (i := 24) (oi := ?_) (v := ?_) ?_ (by kernel_rfl) (by kernel_rfl) (by kernel_rfl) (by kernel_rfl) ?_ ⟨cq, cz⟩ ?_
   rotate_left 2
   · simp only [List.getElem?_toArray, List.getElem?_cons_succ, List.getElem?_cons_zero]; rfl
   · (refine Or.inl ⟨by rfl, ?_⟩; intro w h; (try dsimp only at h); go_simp; (try with_reducible rfl))
   simp only [Act.put, List.setIfInBounds_toArray, List.set_cons_zero, List.set_cons_succ]
   refine takeB (i := 25) (oi := ?_) (v := ?_) ?_ (by kernel_rfl) (by kernel_rfl) (by kernel_rfl) (by kernel_rfl) ?_ ⟨cq, cz⟩ ?_
   rotate_left 2
   · simp only [List.getElem?_toArray, List.getElem?_cons_succ, List.getElem?_cons_zero]; rfl
   · (refine Or.inl ⟨by rfl, ?_⟩; intro w h; (try dsimp only at h); go_simp; (try with_reducible rfl))
   simp only [Act.put, List.setIfInBounds_toArray, List.set_cons_zero, List.set_cons_succ])
 all_goals
   refine wpAnyZ_done (by kernel_rfl) ?_ _
   have Z := Lib.hid (at_fin ST.out OD.out hl lD n0 n1 x3a x3b x4a x4b)
   obtain ⟨f1, f2⟩ := at_num x3a x3b x4a x4b
   clear ST OD
   go_wp2
   exact bodyPost_ret (v := .tuple #[.slice A2 l.length c2, .int .i64 num, .int .i64 (x3 - x4 / 11), .slice AD vs.length cD]) (by simp [results, Try.results34, go_sem, f1, f2]) rfl Z.out
end Go.Proofs.Ythghngphamimgaa
