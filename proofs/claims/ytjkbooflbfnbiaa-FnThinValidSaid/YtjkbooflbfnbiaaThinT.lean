/- Contracts of cloneThin, isThinSector and ThinTrim, the program's. -/
import Derived.Test.YtjkbooflbfnbiaaThinV
import Derived.Test.YtjkbooflbfnbiaaCloneI
import Derived.Deep.RegionHeld3
namespace Go.Proofs.Ytjkbooflbfnbiaa
open Go.RowKit
set_option linter.unusedVariables false

theorem ints_one (l : List Int) : ∀ u ∈ l.map (Value.int .i64), u.oneCell' = true := by
  intro u hu
  obtain ⟨x, _, rfl⟩ := List.mem_map.1 hu
  rfl
def CloneIP (l : List Int) (W : World) (e : Ending) (w' : World) : Prop :=
  ∃ A c, e = .returned (.slice A l.length c) ∧ w'.ownsRow W.heap.size 3 1 (.slice A l.length c) l.length (l.map (Value.int .i64)) ∧ Below W.heap.size W w'
theorem readc_of {w : World} {A : Option Addr} {l : List Int} (h : IntsIn w A l) : ReadC w A (l.map (Value.int .i64)) := by
  intro h0
  obtain ⟨b, off, e, hc⟩ := h (by simpa using h0)
  exact ⟨b, off, e, fun i hi => by rw [List.getElem_map]; exact hc i (by simpa using hi)⟩
theorem cloneI_any (A : Option Addr) (c : Nat) (l : List Int) (w : World) (h : IntsIn w A l) (hl : l.length ≤ 1048576) :
    Calls Try.prog 57 #[.slice A l.length c] w (CloneIP l w) := by
  refine (clone_ints A l.length c (l.map (Value.int .i64)) w (readc_of h) (by simp) (ints_one l) (by omega)).mono ?_
  rintro e w' ⟨v, rfl, o, b⟩
  obtain ⟨A', c', rfl⟩ := own_slice o
  exact ⟨A', c', rfl, o, b⟩

theorem ints_drew {w : World} {A : Option Addr} {l : List Int} (h : IntsIn w A l) : IntsIn w.drew A l := h
def OwnThinC (W P : List Int) (w : World) (e : Ending) (w' : World) : Prop :=
  ∃ v, e = .returned v ∧ ThinO w.heap.size w'.heap.size w' v W P ∧ Below w.heap.size w w'

set_option maxHeartbeats 2000000 in
theorem cloneThin_any (v : Value) (W P : List Int) (w : World) (h : ThinR w v W P) (hW : W.length ≤ 1048576) (hP : P.length ≤ 1048576) :
    Calls Try.prog 52 #[v] w (OwnThinC W P w) := by
  obtain ⟨A, c, B, d, rfl, hA, hB, hc1, hc2, hd1, hd2⟩ := h
  have hA0 := Lib.hid ((hA.alloc (.cells #[.slice A W.length c, .slice B P.length d] 27)).alloc (.cells #[.slice none 0 0, .slice none 0 0] 27))
  have hB0 := Lib.hid ((hB.alloc (.cells #[.slice A W.length c, .slice B P.length d] 27)).alloc (.cells #[.slice none 0 0, .slice none 0 0] 27))
  obtain ⟨w0, hw0⟩ : ∃ w0, w0 = (w.alloc (.cells #[.slice A W.length c, .slice B P.length d] 27)).alloc (.cells #[.slice none 0 0, .slice none 0 0] 27) := ⟨_, rfl⟩
  have K0 := Lib.hid (show Blk w0 w.heap.size 27 #[.slice A W.length c, .slice B P.length d] by rw [hw0]; exact (Blk.new rfl).alloc _)
  have K1 := Lib.hid (show Blk w0 (w.heap.size + 1) 27 #[.slice none 0 0, .slice none 0 0] by rw [hw0]; exact Blk.new (by simp))
  have C0 := Lib.hid (show Below w.heap.size w w0 by rw [hw0]; exact b_alloc (b_alloc (Below.refl _ _) _) _)
  rw [← hw0] at hA0 hB0
  have Z0 : w0.heap.size = w.heap.size + 2 := by rw [hw0]; simp
  have HW0 := Lib.hid hw0
  clear hw0 hA hB
  go_enter Try.func52, Try.ntmps52
  go_wp2
  rw [← HW0.out]
  obtain ⟨x0, x1, f0, f1⟩ := K0.out.two
  go_region_held3 (fun w' => w'.cell? ⟨w.heap.size, 0, none⟩ = some (.slice A W.length c) ∧ w'.cell? ⟨w.heap.size, 1, none⟩ = some (.slice B P.length d)) (go_keep)
    (first
      | (go_at_call 57; (with_reducible refine (cloneI_any A c W _ (ints_drew hA0.out) hW).mono ?_); rintro e w1 ⟨A1, c1, rfl, o1, b1⟩; obtain ⟨y0, y1, g0, g1⟩ := (blk_below b1 K0.out.drew K0.out.lt).two; obtain ⟨r0, r1, q0, q1⟩ := (blk_below b1 K1.out.drew K1.out.lt).two)
      | (go_at_call 57; (with_reducible refine (cloneI_any B d P _ ((ints_drew hB0.out).below b1) hP).mono ?_); rintro e w2 ⟨A2, c2, rfl, o2, b2⟩; obtain ⟨y0, y1, g0, g1⟩ := (blk_below b2 (blk_below b1 K0.out.drew K0.out.lt) (blk_below b1 K0.out.drew K0.out.lt).lt).two; obtain ⟨r0, r1, q0, q1⟩ := (blk_below b2 (blk_below b1 K1.out.drew K1.out.lt) (blk_below b1 K1.out.drew K1.out.lt).lt).two))
  have Z1 : w0.heap.size ≤ w1.heap.size := b1.size
  have hv : ThinO (w.heap.size + 2) w2.heap.size w2 (.agg #[.slice A1 W.length c1, .slice A2 P.length c2]) W P :=
    ThinO.mk (own_mono (own_below o1 b2 (Nat.le_refl _)) (by show _ ≤ w0.heap.size; omega)) (own_mono o2 (by omega)) (apart_new o1 o2 (Nat.le_refl _)) (Nat.le_refl _)
  have hfin := Lib.hid (show OwnThinC W P w (.returned (.agg #[.slice A1 W.length c1, .slice A2 P.length c2])) ((w2.setCell ⟨w.heap.size + 1, 0, none⟩ (.slice A1 W.length c1)).setCell ⟨w.heap.size + 1, 1, none⟩ (.slice A2 P.length c2)) from
    ⟨_, rfl, (hv.turn (((Turn.refl (w.heap.size + 1) (w.heap.size + 2) _).setCell (by simp) (by simp) _).setCell (by simp) (by simp) _) (.inl (Nat.le_refl _))).mono (by omega) (by simp),
      ((((b_drew C0.out).trans (b1.mono C0.out.size)).trans (b2.mono (by have := C0.out.size; omega))).setCell (by simp) _).setCell (by simp) _⟩)
  clear hv o1 o2 b1 b2
  go_wp2
  exact bodyPost_ret (v := .agg #[.slice A1 W.length c1, .slice A2 P.length c2]) (by simp [results, Try.results52, go_sem, r0, r1]) rfl hfin.out

def secB (W P : List Int) (a : Int) : Bool := thinB W P && inB a 0 ((W.length : Int) - 1)
theorem isSector_any (v : Value) (W P : List Int) (a : Int) (w : World) (h : ThinR w v W P) (hW : W.length ≤ 1048576) (hP : P.length ≤ 1048576) :
    Calls Try.prog 51 #[v, .int .i64 a] w fun e w' => e = .returned (.bool (secB W P a)) ∧ Below w.heap.size w w' := by
  have HR := Lib.hid h
  obtain ⟨A, c, B, d, rfl, hA, hB, hc1, hc2, hd1, hd2⟩ := h
  clear hA hB
  go_enter Try.func51, Try.ntmps51
  go_wp2_with fail
  refine (implThin_any _ W P _ (HR.out.alloc _) (by omega) (by omega)).mono ?_
  rintro e w1 ⟨rfl, b1⟩
  have K1 := Lib.hid (show Blk w1 w.heap.size 27 #[.slice A W.length c, .slice B P.length d] from blk_below b1 (Blk.new rfl) (by simp))
  have C1 := Lib.hid ((b_alloc (Below.refl w.heap.size w) _).trans (b1.mono (by simp)))
  clear b1
  obtain ⟨x0, x1, f0, f1⟩ := K1.out.two
  cases hv : thinB W P
  · have hs := Lib.hid (show secB W P a = false by simp [secB, hv])
    clear hv
    go_wp2
    go_ret
    exact ⟨ret_bool hs.out.symm, C1.out⟩
  · have hs := Lib.hid (show secB W P a = inB a 0 ((W.length : Int) - 1) by simp [secB, hv])
    clear hv
    go_wp2_with (go_at_call 44; refine (within_any _ _ _ _).mono ?_; rintro e w' ⟨rfl, rfl⟩)
    go_ret
    exact ⟨ret_bool hs.out.symm, C1.out⟩

def trimW (W P : List Int) (a : Int) : List Int := if secB W P a = true then W.set a.toNat (-1) else []
def trimP (W P : List Int) (a : Int) : List Int := if secB W P a = true then (if 0 ≤ W.getD a.toNat 0 then P.set (W.getD a.toNat 0).toNat 0 else P) else []
theorem thin_nil' (lo hi : Nat) (w : World) : ThinO lo hi w (.agg #[.slice none 0 0, .slice none 0 0]) [] [] :=
  ⟨none, 0, none, 0, rfl, World.ownsRow_nil _ _ _ _, World.ownsRow_nil _ _ _ _, fun g hg => by simp [Value.ownBlock] at hg, fun g hg => by simp [Value.ownBlock] at hg, fun g hg => by simp [Value.ownBlock] at hg⟩
theorem thin_at' {W P : List Int} (h : thinB W P = true) {k : Nat} (hk : k < W.length) : -1 ≤ W[k] ∧ W[k] < P.length := by
  simp only [thinB, Bool.and_eq_true, allB, List.all_eq_true] at h
  have := inB_iff.1 (h.1.2 _ (List.getElem_mem hk))
  omega

/-- A store into the first list of such a volume. -/
theorem ThinO.setW {lo hi : Nat} {w : World} {A B : Option Addr} {c d : Nat} {W P : List Int} {n m : Nat} (h : ThinO lo hi w (.agg #[.slice A n c, .slice B m d]) W P) (hn : n = W.length) (hm : m = P.length) (k : Nat) (x : Int) (hk : k < n) :
    ∃ g, A = some ⟨g, 0, none⟩ ∧ lo ≤ g ∧ g < hi ∧ g < w.heap.size ∧ w.cell? ⟨g, k, none⟩ = some (.int .i64 (W.getD k 0)) ∧ w.frozen? ⟨g, k, none⟩ = false ∧ ThinO lo hi (w.setCell ⟨g, k, none⟩ (.int .i64 x)) (.agg #[.slice A n c, .slice B m d]) (W.set k x) P := by
  subst hn hm
  obtain ⟨A', c', B', d', e, h1, h2, h3, h4, h5⟩ := h
  have e1 : A = A' ∧ c = c' ∧ B = B' ∧ d = d' := by
    injection e with e
    injection e with e
    injection e with ea eb
    injection eb with eb _
    injection ea with ea1 _ ea3
    injection eb with eb1 _ eb3
    exact ⟨ea1, ea3, eb1, eb3⟩
  obtain ⟨rfl, rfl, rfl, rfl⟩ := e1
  rcases own_cases h1 with ⟨_, h0⟩ | ⟨g, cap, hv, hg1, hg2⟩
  · omega
  · obtain ⟨rfl, rfl⟩ : A = some ⟨g, 0, none⟩ ∧ c = cap := by injection hv with a _ b; exact ⟨a, b⟩
    have hst := h1.stored k (.int .i64 x)
    have hc := h1.cellAt k (by omega)
    rw [List.getElem?_eq_getElem (by simpa using hk), List.getElem_map] at hc
    have hg : W.getD k 0 = W[k] := by rw [List.getD_eq_getElem?_getD, List.getElem?_eq_getElem hk]; rfl
    refine ⟨g, rfl, hg1, h4 g rfl, hg2, by rw [hg]; exact hc, h1.frozenAt k, some ⟨g, 0, none⟩, c, B, d, by rw [List.length_set], ?_, own_far h2 (fun x hx e => h3 g rfl (by rw [hx, e])) _, by rw [List.length_set]; exact h3, by rw [List.length_set]; exact h4, h5⟩
    have := hst.1
    rw [← List.map_set] at this
    rw [List.length_set]
    exact this
/-- A store into the second list. -/
theorem ThinO.setP {lo hi : Nat} {w : World} {A B : Option Addr} {c d : Nat} {W P : List Int} {n m : Nat} (h : ThinO lo hi w (.agg #[.slice A n c, .slice B m d]) W P) (hn : n = W.length) (hm : m = P.length) (k : Nat) (x : Int) (hk : k < m) :
    ∃ g, B = some ⟨g, 0, none⟩ ∧ lo ≤ g ∧ g < hi ∧ g < w.heap.size ∧ w.cell? ⟨g, k, none⟩ = some (.int .i64 (P.getD k 0)) ∧ w.frozen? ⟨g, k, none⟩ = false ∧ ThinO lo hi (w.setCell ⟨g, k, none⟩ (.int .i64 x)) (.agg #[.slice A n c, .slice B m d]) W (P.set k x) := by
  subst hn hm
  obtain ⟨A', c', B', d', e, h1, h2, h3, h4, h5⟩ := h
  have e1 : A = A' ∧ c = c' ∧ B = B' ∧ d = d' := by
    injection e with e
    injection e with e
    injection e with ea eb
    injection eb with eb _
    injection ea with ea1 _ ea3
    injection eb with eb1 _ eb3
    exact ⟨ea1, ea3, eb1, eb3⟩
  obtain ⟨rfl, rfl, rfl, rfl⟩ := e1
  rcases own_cases h2 with ⟨_, h0⟩ | ⟨g, cap, hv, hg1, hg2⟩
  · omega
  · obtain ⟨rfl, rfl⟩ : B = some ⟨g, 0, none⟩ ∧ d = cap := by injection hv with a _ b; exact ⟨a, b⟩
    have hst := h2.stored k (.int .i64 x)
    have hc := h2.cellAt k (by omega)
    rw [List.getElem?_eq_getElem (by simpa using hk), List.getElem_map] at hc
    have hg : P.getD k 0 = P[k] := by rw [List.getD_eq_getElem?_getD, List.getElem?_eq_getElem hk]; rfl
    refine ⟨g, rfl, hg1, h5 g rfl, hg2, by rw [hg]; exact hc, h2.frozenAt k, A, c, some ⟨g, 0, none⟩, d, by rw [List.length_set], own_far h1 (fun x hx e => h3 x hx (by rw [e]; rfl)) _, ?_, by rw [List.length_set]; exact h3, h4, by rw [List.length_set]; exact h5⟩
    have := hst.1
    rw [← List.map_set] at this
    rw [List.length_set]
    exact this

set_option maxHeartbeats 2000000 in
theorem implTrim_any (v : Value) (W P : List Int) (a : Int) (w : World) (h : ThinR w v W P) (hW : W.length ≤ 1048576) (hP : P.length ≤ 1048576) :
    Calls Try.prog 34 #[v, .int .i64 a] w (OwnThinC (trimW W P a) (trimP W P a) w) := by
  have HR := Lib.hid h
  obtain ⟨A, c, B, d, rfl, hA, hB, hc1, hc2, hd1, hd2⟩ := h
  have HA := Lib.hid hA
  clear hA hB
  go_enter Try.func34, Try.ntmps34
  go_wp2_with fail
  refine (isSector_any _ W P a _ ((HR.out.alloc _).alloc _) hW hP).mono ?_
  rintro e w1 ⟨rfl, b1⟩
  have K1 := Lib.hid (show Blk w1 w.heap.size 27 #[.slice A W.length c, .slice B P.length d] from blk_below b1 ((Blk.new rfl).alloc _) (by simp; omega))
  have L1 := Lib.hid (show Blk w1 (w.heap.size + 1) 27 #[.slice none 0 0, .slice none 0 0] from blk_below b1 (Blk.new (by simp)) (by simp))
  have C1 := Lib.hid ((b_alloc (b_alloc (Below.refl w.heap.size w) _) _).trans (b1.mono (by simp; omega)))
  have Z1 : w.heap.size + 2 ≤ w1.heap.size := by have := b1.size; simp at this; omega
  clear b1
  obtain ⟨x0, x1, f0, f1⟩ := K1.out.two
  obtain ⟨y0, y1, g0, g1⟩ := L1.out.two
  cases hv : secB W P a
  · have hno := Lib.hid (fun w' (hb : Below w.heap.size w w') => show OwnThinC (trimW W P a) (trimP W P a) w (.returned (.agg #[.slice none 0 0, .slice none 0 0])) w' from ⟨_, rfl, by simp only [trimW, trimP, hv]; exact thin_nil' _ _ _, hb⟩)
    clear hv
    go_wp2
    exact bodyPost_ret (v := .agg #[.slice none 0 0, .slice none 0 0]) (by simp [results, Try.results34, go_sem, y0, y1]) rfl (hno.out _ ((C1.out.setCell (by simp) _).setCell (by simp) _))
  · have hs := hv
    simp only [secB, Bool.and_eq_true, inB_iff] at hs
    obtain ⟨hthin, a0, a1⟩ := hs
    obtain ⟨k, rfl⟩ := Int.eq_ofNat_of_zero_le a0
    have hk : k < W.length := by omega
    have hat := thin_at' hthin hk
    have HT := Lib.hid hthin
    have hyes := (fun A B c d w' (ho : ThinO w.heap.size w'.heap.size w' (.agg #[.slice A W.length c, .slice B P.length d]) (W.set k (-1)) (if 0 ≤ W.getD k 0 then P.set (W.getD k 0).toNat 0 else P)) (hb : Below w.heap.size w w') => show OwnThinC (trimW W P k) (trimP W P k) w (.returned (.agg #[.slice A W.length c, .slice B P.length d])) w' from ⟨_, rfl, by simp only [trimW, trimP, hv, if_true, Int.toNat_natCast]; exact ho, hb⟩)
    have hgd : W.getD k 0 = W[k] := by rw [List.getD_eq_getElem?_getD, List.getElem?_eq_getElem hk]; rfl
    rw [← hgd] at hat
    have HG := Lib.hid hgd
    have HY := Lib.hid hyes
    clear hv hthin hgd hyes
    go_wp2_with fail
    refine (cloneThin_any _ W P _ (HR.out.below C1.out) hW hP).mono ?_
    rintro e w2 ⟨v2, rfl, o2, b2⟩
    have O2 := Lib.hid o2
    obtain ⟨A2, c2, B2, d2, rfl, _, _, hap, _⟩ := o2
    have HAP := Lib.hid hap
    clear hap
    have K2 := Lib.hid (show Blk w2 w.heap.size 27 #[.slice A W.length c, .slice B P.length d] from blk_below b2 K1.out K1.out.lt)
    have L2 := Lib.hid (show Blk w2 (w.heap.size + 1) 27 #[.slice none 0 0, .slice none 0 0] from blk_below b2 L1.out L1.out.lt)
    have C2 := Lib.hid (C1.out.trans (b2.mono C1.out.size))
    have Z2 : w1.heap.size ≤ w2.heap.size := b2.size
    clear b2 K1 L1 x0 x1 f0 f1 y0 y1 g0 g1
    obtain ⟨x0, x1, f0, f1⟩ := K2.out.two
    obtain ⟨y0, y1, g0, g1⟩ := L2.out.two
    have zl1 : w.heap.size < w2.heap.size := by omega
    have zl2 : w.heap.size + 1 < w2.heap.size := by omega
    obtain ⟨b, off, rfl, hc⟩ := HA.out.below C2.out (by omega)
    have c1' := hc k hk
    have hbl := block_lt_of_cell c1'
    rw [← HG.out] at c1'
    have hyes := HY.out
    clear HY
    obtain ⟨x, hx⟩ : ∃ x, x = W.getD k 0 := ⟨_, rfl⟩
    rw [← hx] at c1' hat hyes
    have HX := Lib.hid hx
    clear hc hx
    by_cases h0 : 0 ≤ x
    · obtain ⟨q, rfl⟩ := Int.eq_ofNat_of_zero_le h0
      obtain ⟨gP, rfl, p1, p2, p3, p4, p5, OP⟩ := O2.out.setP rfl rfl q 0 (by omega)
      obtain ⟨gW, rfl, r1, r2, r3, r4, r5, OW⟩ := OP.setW rfl (by simp) k (-1) hk
      rw [if_pos (by omega)] at hyes
      simp only [Int.toNat_natCast] at hyes
      have hy := hyes
      have HOW := Lib.hid OW
      have hne : gP ≠ gW := fun e => HAP.out gW rfl (by rw [← e]; rfl)
      have n1 : gP ≠ w.heap.size + 1 := by omega
      have n2 : gW ≠ w.heap.size + 1 := by omega
      have n3 : gP ≠ w2.heap.size := by omega
      have n4 : gW ≠ w2.heap.size := by omega
      have r4' : w2.cell? ⟨gW, k, none⟩ = some (.int .i64 q) := by
        rw [World.cell?_setCell_other _ _ _ _ (by intro e; injection e with e; exact hne e)] at r4
        rw [r4, HX.out]
      have r5' : w2.frozen? ⟨gW, k, none⟩ = false := by simpa using r5
      clear hyes O2 OW OP r4 r5
      have F1 := Lib.hid (hy _ _ _ _ (((((((w2.setCell ⟨gP, q, none⟩ (.int .i64 0)).setCell ⟨gW, k, none⟩ (.int .i64 (-1))).setCell ⟨w.heap.size + 1, 0, none⟩ (.slice (some ⟨gW, 0, none⟩) W.length c2)).setCell ⟨w.heap.size + 1, 1, none⟩ (.slice (some ⟨gP, 0, none⟩) P.length d2)).alloc (.cells #[.slice (some ⟨gW, 0, none⟩) W.length c2, .slice (some ⟨gP, 0, none⟩) P.length d2] 27)))) (((HOW.out.turn (((Turn.refl (w.heap.size + 1) (w.heap.size + 2) _).setCell (by simp) (by simp) _).setCell (by simp) (by simp) _) (.inl (by omega))).below (b_alloc (Below.refl _ _) _)).mono (by omega) (by simp)) (b_alloc ((((C2.out.setCell (p := ⟨gP, q, none⟩) (by show _ ≤ gP; omega) _).setCell (p := ⟨gW, k, none⟩) (by show _ ≤ gW; omega) _).setCell (by simp) _).setCell (by simp) _) _))
      clear hy HOW HAP
      go_wp2
      exact bodyPost_ret (v := .agg #[.slice (some ⟨gW, 0, none⟩) W.length c2, .slice (some ⟨gP, 0, none⟩) P.length d2]) (by simp [results, Try.results34, go_sem, y0, y1, zl2]) rfl F1.out
    · have hset : W.set k (-1) = W := by
        have hx1 : W[k] = -1 := by rw [← HG.out, ← HX.out]; omega
        rw [← hx1]; exact List.set_getElem_self hk
      rw [if_neg h0, hset] at hyes
      have F1 := Lib.hid (hyes _ _ _ _ ((((w2.setCell ⟨w.heap.size + 1, 0, none⟩ (.slice A2 W.length c2)).setCell ⟨w.heap.size + 1, 1, none⟩ (.slice B2 P.length d2)).alloc (.cells #[.slice A2 W.length c2, .slice B2 P.length d2] 27))) (((O2.out.turn (((Turn.refl (w.heap.size + 1) (w.heap.size + 2) _).setCell (by simp) (by simp) _).setCell (by simp) (by simp) _) (.inl (by omega))).below (b_alloc (Below.refl _ _) _)).mono (by omega) (by simp)) (b_alloc ((C2.out.setCell (by simp) _).setCell (by simp) _) _))
      clear hyes O2 HAP hset
      go_wp2
      exact bodyPost_ret (v := .agg #[.slice A2 W.length c2, .slice B2 P.length d2]) (by simp [results, Try.results34, go_sem, y0, y1, zl2]) rfl F1.out
end Go.Proofs.Ytjkbooflbfnbiaa
