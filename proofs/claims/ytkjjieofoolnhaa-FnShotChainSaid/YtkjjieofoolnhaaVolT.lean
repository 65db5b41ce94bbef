/- TakeShot, the reference's and the program's. -/
import Derived.Test.YtkjjieofoolnhaaVolK
import Derived.Test.YtkjjieofoolnhaaVolW
import Derived.Test.YtkjjieofoolnhaaVolU
namespace Go.Proofs.Ytkjjieofoolnhaa
open Go.RowKit
set_option linter.unusedVariables false

/-- What owns cells of one type does not lie in a block of another. -/
theorem own_apartT {w : World} {base size n g : Nat} {e t : TypeId} {v : Value} {xs : List Value} {cs : Array Value} (h : w.ownsRow base e size v n xs) (hb : Blk w g t cs) (hne : t ≠ e) : ∀ b, v.ownBlock = some b → b ≠ g := by
  intro b hbb e'
  subst e'
  rcases h.2 with ⟨rfl, _⟩ | ⟨g', cap, cur, rfl, _, hg, _⟩
  · simp [Value.ownBlock] at hbb
  · simp only [Value.ownBlock, Option.some.injEq] at hbb
    subst hbb
    have h2 := hb.symm.trans hg
    simp only [Option.some.injEq, Obj.cells.injEq] at h2
    exact hne h2.2.1
theorem RowsO.farT {α : Type} {C : List α → List Value} {TT T t : TypeId} {sz lo hi g : Nat} {w : World} {v : Value} {L : List (List α)} {cs : Array Value} (h : RowsO C TT T sz lo hi w v L) (hb : Blk w g t cs) (h1 : t ≠ TT) (h2 : t ≠ T) (i : Nat) (u : Value) :
    RowsO C TT T sz lo hi (w.setCell ⟨g, i, none⟩ u) v L := by
  obtain ⟨A, c, hs, e, a1, a2, ⟨b1, b2, b3⟩, a4⟩ := h
  refine ⟨A, c, hs, e, own_far (p := ⟨g, i, none⟩) a1 (own_apartT a1 hb h1) u, a2, ⟨b1, fun j hj => ?_, b3⟩, a4⟩
  obtain ⟨Aj, cj, x, y, z⟩ := b2 j hj
  exact ⟨Aj, cj, x, own_far (p := ⟨g, i, none⟩) y (own_apartT y hb h2) u, z⟩
theorem VolO.farT {lo hi g : Nat} {w : World} {v : Value} {N : List Int} {S : List (List Sv)} {cs : Array Value} (h : VolO lo hi w v N S) (hb : Blk w g 29 cs) (i : Nat) (u : Value) : VolO lo hi (w.setCell ⟨g, i, none⟩ u) v N S := by
  obtain ⟨A, c, B, d, mid, e, a1, a2, a3, a4, a5⟩ := h
  exact ⟨A, c, B, d, mid, e, own_far (p := ⟨g, i, none⟩) a1 (own_apartT a1 hb (by decide)) u, a2, a3.farT hb (by decide) (by decide) i u, a4, a5⟩
/-- A snapshot more behind the others. -/
theorem VolO.grow {lo hi : Nat} {w : World} {A B : Option Addr} {c d : Nat} {N : List Int} {S : List (List Sv)} (h : VolO lo hi w (.agg #[.slice A N.length c, .slice B S.length d]) N S) :
    ∃ mid hs, lo ≤ mid ∧ mid ≤ hi ∧ w.ownsRow mid 45 1 (.slice B S.length d) S.length hs ∧ ∀ (w5 w6 : World) (r : List Sv) (Ar B' : Option Addr) (cr d' : Nat),
      (∀ k, lo ≤ k → k < hi → k < w.heap.size → w5.heap[k]? = w.heap[k]?) → w.heap.size ≤ w5.heap.size → w5.ownsRow hi 44 2 (.slice Ar r.length cr) r.length (savC r) →
      w6.ownsRow mid 45 1 (.slice B' (S.length + 1) d') (S.length + 1) (hs ++ [.slice Ar r.length cr]) → w5.grownBy w6 (Value.slice B S.length d).ownBlock →
      ((Value.slice B' (S.length + 1) d').ownBlock = (Value.slice B S.length d).ownBlock ∨ (Value.slice B' (S.length + 1) d').ownBlock = some w5.heap.size) →
      VolO lo w6.heap.size w6 (.agg #[.slice A N.length c, .slice B' (S ++ [r]).length d']) N (S ++ [r]) := by
  obtain ⟨A0, c0, B0, d0, mid, e, h1, h2, h3, h4, h5⟩ := h
  injection e with e
  simp only [Array.mk.injEq, List.cons.injEq, and_true, Value.slice.injEq] at e
  obtain ⟨⟨rfl, _, rfl⟩, ⟨rfl, _, rfl⟩⟩ := e
  obtain ⟨Dx, cx, hs, ev, ho, hv, hH, hap⟩ := h3
  injection ev with ev1 _ ev3
  subst ev1 ev3
  refine ⟨mid, hs, h4, h5, ho, fun w5 w6 r Ar B' cr d' hk hz hr ho6 hg hn => ?_⟩
  have hkeep : ∀ b, (Value.slice B S.length d).ownBlock = some b → mid ≤ b := fun b hb => (ho.lt b hb).1
  have h6 := RowsO.app (C := savC) (r := r) (own_block ho fun b hb => hk b (by have := (ho.lt b hb).1; omega) (hv b hb) (ho.lt b hb).2) hv (hH.keep fun k a b c => hk k (by omega) b c) hap hr (Nat.le_refl _) h5 ho6 hg hn
  refine ⟨A, c, B', d', mid, rfl, own_block h1 (fun b hb => ?_), h2, h6, h4, ?_⟩
  · have hb1 := h1.lt b hb
    have hb2 := h2 b hb
    exact (hg.block b (by omega) (fun e => by have := hkeep b e.symm; omega)).trans (hk b hb1.1 (by omega) hb1.2)
  · have := hg.size
    rcases own_cases ho6 with ⟨_, h0⟩ | ⟨b, _, _, hb, hb2⟩ <;> omega

def takeB (N : List Int) (S : List (List Sv)) : Bool := volB N S && decide (S.length ≠ 5)
def takeN (N : List Int) (S : List (List Sv)) : List Int := if volB N S then N else []
def takeS (N : List Int) (S : List (List Sv)) : List (List Sv) := if volB N S then (if S.length = 5 then S else S ++ [[]]) else []
def TakePost (N : List Int) (S : List (List Sv)) (w : World) (e : Ending) (w' : World) : Prop :=
  ∃ v, e = .returned (.tuple #[v, .bool (takeB N S)]) ∧ VolO w.heap.size w'.heap.size w' v (takeN N S) (takeS N S) ∧ Below w.heap.size w w'
theorem VolO.none (w : World) (lo hi : Nat) (h : lo ≤ hi) : VolO lo hi w (.agg #[.slice Option.none 0 0, .slice Option.none 0 0]) [] [] :=
  ⟨Option.none, 0, Option.none, 0, lo, rfl, World.ownsRow_nil _ _ _ _, fun g hg => by simp [Value.ownBlock] at hg, RowsO.nil _ _ _, Nat.le_refl _, h⟩
theorem take_len (N : List Int) (S : List (List Sv)) : (takeN N S).length ≤ N.length ∧ (takeS N S).length + sumN (takeS N S) ≤ S.length + sumN S + 1 := by
  unfold takeN takeS
  split
  · split
    · omega
    · simp [sumN_append, sumN]; omega
  · simp [sumN]
theorem take_no {N : List Int} {S : List (List Sv)} {w w' : World} (hv : volB N S = false) (hb : Below w.heap.size w w') : TakePost N S w (.returned (.tuple #[.agg #[.slice none 0 0, .slice none 0 0], .bool false])) w' :=
  ⟨.agg #[.slice none 0 0, .slice none 0 0], by simp [takeB, hv], by simp only [takeN, takeS, hv]; exact VolO.none w' _ _ hb.size, hb⟩
theorem take_full {N : List Int} {S : List (List Sv)} {w w' : World} {v : Value} (hv : volB N S = true) (h5 : S.length = 5) (ho : VolO w.heap.size w'.heap.size w' v N S) (hb : Below w.heap.size w w') : TakePost N S w (.returned (.tuple #[v, .bool false])) w' :=
  ⟨v, by simp [takeB, hv, h5], by simp only [takeN, takeS, hv, h5]; exact ho, hb⟩
theorem take_yes {N : List Int} {S : List (List Sv)} {w w' : World} {v : Value} (hv : volB N S = true) (h5 : S.length ≠ 5) (ho : VolO w.heap.size w'.heap.size w' v N (S ++ [[]])) (hb : Below w.heap.size w w') : TakePost N S w (.returned (.tuple #[v, .bool true])) w' :=
  ⟨v, by simp [takeB, hv, h5], by simp only [takeN, takeS, hv, h5]; exact ho, hb⟩

set_option linter.unusedSimpArgs false in
set_option maxHeartbeats 4000000 in
theorem specTake_any (v : Value) (N : List Int) (S : List (List Sv)) (w : World) (h : VolR w v N S) (hN : N.length ≤ 1048576) (hS : S.length + sumN S ≤ 1048576) :
    Calls Try.prog 15 #[v] w (TakePost N S w) := by
  have HR := Lib.hid h
  obtain ⟨A, c, B, d, rfl, hA, hB, hc1, hc2, hd1, hd2⟩ := h
  obtain ⟨i1, hi1, hy0, hy1, hy2⟩ := info_parts info_rowS
  have HR0 := Lib.hid ((HR.out.alloc (.cells #[.slice A N.length c, .slice B S.length d] 29)).alloc (.cells #[.slice none 0 0, .slice none 0 0] 29))
  have K0 := Lib.hid (show Blk ((w.alloc (.cells #[.slice A N.length c, .slice B S.length d] 29)).alloc (.cells #[.slice none 0 0, .slice none 0 0] 29)) w.heap.size 29 #[.slice A N.length c, .slice B S.length d] from (Blk.new rfl).alloc _)
  have K1 := Lib.hid (show Blk ((w.alloc (.cells #[.slice A N.length c, .slice B S.length d] 29)).alloc (.cells #[.slice none 0 0, .slice none 0 0] 29)) (w.heap.size + 1) 29 #[.slice none 0 0, .slice none 0 0] from Blk.new (by simp))
  have C0 := Lib.hid (show Below w.heap.size w ((w.alloc (.cells #[.slice A N.length c, .slice B S.length d] 29)).alloc (.cells #[.slice none 0 0, .slice none 0 0] 29)) from b_alloc (b_alloc (Below.refl _ _) _) _)
  have Z0 : ((w.alloc (.cells #[.slice A N.length c, .slice B S.length d] 29)).alloc (.cells #[.slice none 0 0, .slice none 0 0] 29)).heap.size = w.heap.size + 2 := by simp
  clear hA hB
  have hdd : S.length ≤ 1048576 := by omega
  cases hv : volB N S
  · have hno := Lib.hid (fun (w' : World) hb => take_no (w := w) (w' := w') hv hb)
    go_enter Try.func15, Try.ntmps15
    go_wp2_with fail
    refine (specVol_any _ N S _ HR0.out (by omega) (by omega)).mono ?_
    rintro e w1 ⟨rfl, b1⟩
    rw [hv]
    obtain ⟨z0, z1, z2, z3⟩ := (blk_below b1 K1.out K1.out.lt).two
    have C1 := Lib.hid (C0.out.trans (b1.mono (by omega)))
    clear hv b1
    go_wp2
    have hfin := hno.out _ ((C1.out.setCell (p := ⟨w.heap.size + 1, 0, none⟩) (by show w.heap.size ≤ w.heap.size + 1; omega) (.slice none 0 0)).setCell (p := ⟨w.heap.size + 1, 1, none⟩) (by show w.heap.size ≤ w.heap.size + 1; omega) (.slice none 0 0))
    exact bodyPost_ret (v := .tuple #[.agg #[.slice none 0 0, .slice none 0 0], .bool false]) (by simp [results, Try.results15, go_sem, z0, z1]) rfl hfin
  · have hsp := Lib.hid (fun v w' h => specVCopy_any v N S w' h hN hS)
    have hful := Lib.hid (fun (h5 : S.length = 5) (v : Value) (w' : World) ho hb => take_full (w := w) (w' := w') (v := v) hv h5 ho hb)
    have hyes := Lib.hid (fun (h5 : S.length ≠ 5) (v : Value) (w' : World) ho hb => take_yes (w := w) (w' := w') (v := v) hv h5 ho hb)
    go_enter Try.func15, Try.ntmps15
    go_wp2_with fail
    refine (specVol_any _ N S _ HR0.out (by omega) (by omega)).mono ?_
    rintro e w1 ⟨rfl, b1⟩
    rw [hv]
    have k0 := Lib.hid (blk_below b1 K0.out K0.out.lt)
    have k1 := Lib.hid (blk_below b1 K1.out K1.out.lt)
    have C1 := Lib.hid (C0.out.trans (b1.mono (by omega)))
    have R1 := Lib.hid (HR0.out.below b1)
    have Z1 : w.heap.size + 2 ≤ w1.heap.size := by have := b1.size; omega
    obtain ⟨x0, x1, _, _⟩ := k0.out.two
    clear hv b1 HR0 K0 K1 C0
    go_wp2_with fail
    refine (hsp.out _ _ R1.out).mono ?_
    rintro e w2 ⟨v2, rfl, o2, b2⟩
    have O2 := Lib.hid o2
    obtain ⟨A2, c2, B2, d2, mid2, rfl, _⟩ := o2
    have k0' := Lib.hid ((blk_below b2 k0.out k0.out.lt).alloc (.cells #[.slice A2 N.length c2, .slice B2 S.length d2] 29))
    have k1' := Lib.hid ((blk_below b2 k1.out k1.out.lt).alloc (.cells #[.slice A2 N.length c2, .slice B2 S.length d2] 29))
    have k4 := Lib.hid (show Blk (w2.alloc (.cells #[.slice A2 N.length c2, .slice B2 S.length d2] 29)) w2.heap.size 29 #[.slice A2 N.length c2, .slice B2 S.length d2] from Blk.new rfl)
    have O3 := Lib.hid (O2.out.alloc (.cells #[.slice A2 N.length c2, .slice B2 S.length d2] 29))
    have C2 := Lib.hid (b_alloc (C1.out.trans (b2.mono (by omega))) (.cells #[.slice A2 N.length c2, .slice B2 S.length d2] 29))
    have Z2 : w1.heap.size ≤ w2.heap.size := b2.size
    obtain ⟨x0, x1, _, _⟩ := k0'.out.two
    obtain ⟨y0, y1, y2, y3⟩ := k4.out.two
    obtain ⟨z0, z1, z2, z3⟩ := k1'.out.two
    clear b2 k0 k1 C1 R1 O2 hsp k0'
    by_cases h5 : S.length = 5
    · have e5 : ((S.length : Int) == 5) = true := by simp [h5]
      have hno := Lib.hid (fun (w' : World) ho hb => hful.out h5 (.agg #[.slice A2 N.length c2, .slice B2 S.length d2]) w' ho hb)
      clear hful hyes h5
      go_wp2
      have q1 := k1'.out
      have q2 := q1.set 0 (.slice A2 N.length c2)
      have hfin := hno.out _ (((O3.out.farT q1 0 (.slice A2 N.length c2)).farT q2 1 (.slice B2 S.length d2)).mono (by omega) (by simp)) ((C2.out.setCell (p := ⟨w.heap.size + 1, 0, none⟩) (by show w.heap.size ≤ w.heap.size + 1; omega) (.slice A2 N.length c2)).setCell (p := ⟨w.heap.size + 1, 1, none⟩) (by show w.heap.size ≤ w.heap.size + 1; omega) (.slice B2 S.length d2))
      exact bodyPost_ret (v := .tuple #[.agg #[.slice A2 N.length c2, .slice B2 S.length d2], .bool false]) (by simp [results, Try.results15, go_sem, z0, z1]) rfl hfin
    · have e5 : ((S.length : Int) == 5) = false := by simp; omega
      obtain ⟨mid, hs, hm1, hm2, ho, hgr⟩ := O3.out.grow
      have hno := Lib.hid (fun (v : Value) (w' : World) ho hb => hyes.out h5 v w' ho hb)
      have HO := Lib.hid ((ho.alloc (.cells #[] 44)).alloc (.cells #[.slice (some ⟨w2.heap.size + 1, 0, none⟩) 0 0] 45))
      have HG := Lib.hid hgr
      clear hful hyes h5 ho hgr
      have L5 := Lib.hid (show ((w2.alloc (.cells #[.slice A2 N.length c2, .slice B2 S.length d2] 29)).alloc (.cells #[] 44)).ownsRow w2.heap.size 44 2 (.slice (some ⟨w2.heap.size + 1, 0, none⟩) 0 0) 0 [] from by
        have := World.ownsRow_lit (e := 44) (size := 2) (base := w2.heap.size) (w2.alloc (.cells #[.slice A2 N.length c2, .slice B2 S.length d2] 29)) #[] 0 (by simp) (by simp [maxLen]) (by simp)
        simpa using this)
      have R6 := Lib.hid (show ReadC (((w2.alloc (.cells #[.slice A2 N.length c2, .slice B2 S.length d2] 29)).alloc (.cells #[] 44)).alloc (.cells #[.slice (some ⟨w2.heap.size + 1, 0, none⟩) 0 0] 45)) (some ⟨w2.heap.size + 1 + 1, 0, none⟩) [.slice (some ⟨w2.heap.size + 1, 0, none⟩) 0 0] from by
        have := read_new1 (w := (w2.alloc (.cells #[.slice A2 N.length c2, .slice B2 S.length d2] 29)).alloc (.cells #[] 44)) (T := 45) (cs := #[.slice (some ⟨w2.heap.size + 1, 0, none⟩) 0 0]) (xs := [.slice (some ⟨w2.heap.size + 1, 0, none⟩) 0 0]) rfl
        simpa using this)
      go_wp2_with (at_builtin; refine wpList_append_r _ rfl (.tmp 17) (.tmp 19) 27 rfl mid 45 i1 (.slice none 0 0) 1 24 Try.underlying27 hi1 hy0 hy1 hy2 rfl (by decide) _ S.length hs HO.out rfl _ 1 1 [.slice (some ⟨w2.heap.size + 1, 0, none⟩) 0 0] R6.out rfl rfl (by intro u hu; simp at hu; subst hu; rfl) (by simp only [maxLen]; omega) (by omega) (by simp; omega) ?_; intro v6 w6 o6 g6 n6; obtain ⟨A6, c6, rfl⟩ := own_slice o6; have q4 := (blk_grown g6 ((k4.out.alloc (.cells #[] 44)).alloc (.cells #[.slice (some ⟨w2.heap.size + 1, 0, none⟩) 0 0] 45)) (fun e => own_apartT HO.out ((k4.out.alloc (.cells #[] 44)).alloc (.cells #[.slice (some ⟨w2.heap.size + 1, 0, none⟩) 0 0] 45)) (by decide) _ e.symm rfl)); have q1 := (blk_grown g6 ((k1'.out.alloc (.cells #[] 44)).alloc (.cells #[.slice (some ⟨w2.heap.size + 1, 0, none⟩) 0 0] 45)) (fun e => own_apartT HO.out ((k1'.out.alloc (.cells #[] 44)).alloc (.cells #[.slice (some ⟨w2.heap.size + 1, 0, none⟩) 0 0] 45)) (by decide) _ e.symm rfl)); obtain ⟨y0', y1', y2', y3'⟩ := q4.two; obtain ⟨z0', z1', z2', z3'⟩ := q1.two)
      have hv6 := HG.out (((w2.alloc (.cells #[.slice A2 N.length c2, .slice B2 S.length d2] 29)).alloc (.cells #[] 44)).alloc (.cells #[.slice (some ⟨w2.heap.size + 1, 0, none⟩) 0 0] 45)) w6 [] (some ⟨w2.heap.size + 1, 0, none⟩) A6 0 c6
        (fun k _ _ hk => (b_alloc (b_alloc (Below.refl _ _) (.cells #[] 44)) (.cells #[.slice (some ⟨w2.heap.size + 1, 0, none⟩) 0 0] 45)).block k hk) (by simp <;> omega) (L5.out.alloc _) o6 g6 n6
      have q4' := q4.set 1 (.slice A6 (S.length + 1) c6)
      have q1' := q1.far (p := ⟨w2.heap.size, 1, none⟩) (by show w.heap.size + 1 ≠ w2.heap.size; omega) (.slice A6 (S.length + 1) c6)
      have hv7 := hv6.farT q4 1 (.slice A6 (S.length + 1) c6)
      have hv8 := (hv7.farT q1' 0 (.slice A2 N.length c2)).farT (q1'.set 0 (.slice A2 N.length c2)) 1 (.slice A6 (S.length + 1) c6)
      have b6 : Below w.heap.size w w6 := (b_alloc (b_alloc C2.out (.cells #[] 44)) (.cells #[.slice (some ⟨w2.heap.size + 1, 0, none⟩) 0 0] 45)).grown g6 (by simp; omega) (fun k hk => by have := (HO.out.lt k hk).1; omega)
      have b8 := ((b6.setCell (p := ⟨w2.heap.size, 1, none⟩) (by show w.heap.size ≤ w2.heap.size; omega) (.slice A6 (S.length + 1) c6)).setCell (p := ⟨w.heap.size + 1, 0, none⟩) (by show w.heap.size ≤ w.heap.size + 1; omega) (.slice A2 N.length c2)).setCell (p := ⟨w.heap.size + 1, 1, none⟩) (by show w.heap.size ≤ w.heap.size + 1; omega) (.slice A6 (S.length + 1) c6)
      have hfin := Lib.hid (hno.out (.agg #[.slice A2 N.length c2, .slice A6 (S.length + 1) c6]) _ ((by simpa using hv8 : VolO w1.heap.size w6.heap.size _ (.agg #[.slice A2 N.length c2, .slice A6 (S.length + 1) c6]) N (S ++ [[]])).mono (by omega) (by simp)) b8)
      obtain ⟨t0, t1, t2, t3⟩ := q4'.two
      obtain ⟨r0, r1, r2, r3⟩ := q1'.two
      clear hv6 hv7 hv8 b6 b8 q1 q1' q4 q4' o6 g6 n6 HG HO L5 R6 O3 C2 hno
      go_wp2
      exact bodyPost_ret (v := .tuple #[.agg #[.slice A2 N.length c2, .slice A6 (S.length + 1) c6], .bool true]) (by simp [results, Try.results15, go_sem, r0, r1]) rfl hfin.out
set_option linter.unusedSimpArgs false in
set_option maxHeartbeats 4000000 in
theorem implTake_any (v : Value) (N : List Int) (S : List (List Sv)) (w : World) (h : VolR w v N S) (hN : N.length ≤ 1048576) (hS : S.length + sumN S ≤ 1048576) :
    Calls Try.prog 17 #[v] w (TakePost N S w) := by
  have HR := Lib.hid h
  obtain ⟨A, c, B, d, rfl, hA, hB, hc1, hc2, hd1, hd2⟩ := h
  obtain ⟨i1, hi1, hy0, hy1, hy2⟩ := info_parts info_rowS
  have HR0 := Lib.hid ((HR.out.alloc (.cells #[.slice A N.length c, .slice B S.length d] 29)).alloc (.cells #[.slice none 0 0, .slice none 0 0] 29))
  have K0 := Lib.hid (show Blk ((w.alloc (.cells #[.slice A N.length c, .slice B S.length d] 29)).alloc (.cells #[.slice none 0 0, .slice none 0 0] 29)) w.heap.size 29 #[.slice A N.length c, .slice B S.length d] from (Blk.new rfl).alloc _)
  have K1 := Lib.hid (show Blk ((w.alloc (.cells #[.slice A N.length c, .slice B S.length d] 29)).alloc (.cells #[.slice none 0 0, .slice none 0 0] 29)) (w.heap.size + 1) 29 #[.slice none 0 0, .slice none 0 0] from Blk.new (by simp))
  have C0 := Lib.hid (show Below w.heap.size w ((w.alloc (.cells #[.slice A N.length c, .slice B S.length d] 29)).alloc (.cells #[.slice none 0 0, .slice none 0 0] 29)) from b_alloc (b_alloc (Below.refl _ _) _) _)
  have Z0 : ((w.alloc (.cells #[.slice A N.length c, .slice B S.length d] 29)).alloc (.cells #[.slice none 0 0, .slice none 0 0] 29)).heap.size = w.heap.size + 2 := by simp
  clear hA hB
  have hdd : S.length ≤ 1048576 := by omega
  cases hv : volB N S
  · have hno := Lib.hid (fun (w' : World) hb => take_no (w := w) (w' := w') hv hb)
    go_enter Try.func17, Try.ntmps17
    go_wp2_with fail
    refine (implVol_any _ N S _ HR0.out (by omega) (by omega)).mono ?_
    rintro e w1 ⟨rfl, b1⟩
    rw [hv]
    obtain ⟨z0, z1, z2, z3⟩ := (blk_below b1 K1.out K1.out.lt).two
    have C1 := Lib.hid (C0.out.trans (b1.mono (by omega)))
    clear hv b1
    go_wp2
    have hfin := hno.out _ ((C1.out.setCell (p := ⟨w.heap.size + 1, 0, none⟩) (by show w.heap.size ≤ w.heap.size + 1; omega) (.slice none 0 0)).setCell (p := ⟨w.heap.size + 1, 1, none⟩) (by show w.heap.size ≤ w.heap.size + 1; omega) (.slice none 0 0))
    exact bodyPost_ret (v := .tuple #[.agg #[.slice none 0 0, .slice none 0 0], .bool false]) (by simp [results, Try.results17, go_sem, z0, z1]) rfl hfin
  · have hsp := Lib.hid (fun v w' h => cloneVol_any v N S w' h hN hS)
    have hful := Lib.hid (fun (h5 : S.length = 5) (v : Value) (w' : World) ho hb => take_full (w := w) (w' := w') (v := v) hv h5 ho hb)
    have hyes := Lib.hid (fun (h5 : S.length ≠ 5) (v : Value) (w' : World) ho hb => take_yes (w := w) (w' := w') (v := v) hv h5 ho hb)
    go_enter Try.func17, Try.ntmps17
    go_wp2_with fail
    refine (implVol_any _ N S _ HR0.out (by omega) (by omega)).mono ?_
    rintro e w1 ⟨rfl, b1⟩
    rw [hv]
    have k0 := Lib.hid (blk_below b1 K0.out K0.out.lt)
    have k1 := Lib.hid (blk_below b1 K1.out K1.out.lt)
    have C1 := Lib.hid (C0.out.trans (b1.mono (by omega)))
    have R1 := Lib.hid (HR0.out.below b1)
    have Z1 : w.heap.size + 2 ≤ w1.heap.size := by have := b1.size; omega
    obtain ⟨x0, x1, _, _⟩ := k0.out.two
    clear hv b1 HR0 K0 K1 C0
    go_wp2_with fail
    refine (hsp.out _ _ R1.out).mono ?_
    rintro e w2 ⟨v2, rfl, o2, b2⟩
    have O2 := Lib.hid o2
    obtain ⟨A2, c2, B2, d2, mid2, rfl, _⟩ := o2
    have k0' := Lib.hid ((blk_below b2 k0.out k0.out.lt).alloc (.cells #[.slice A2 N.length c2, .slice B2 S.length d2] 29))
    have k1' := Lib.hid ((blk_below b2 k1.out k1.out.lt).alloc (.cells #[.slice A2 N.length c2, .slice B2 S.length d2] 29))
    have k4 := Lib.hid (show Blk (w2.alloc (.cells #[.slice A2 N.length c2, .slice B2 S.length d2] 29)) w2.heap.size 29 #[.slice A2 N.length c2, .slice B2 S.length d2] from Blk.new rfl)
    have O3 := Lib.hid (O2.out.alloc (.cells #[.slice A2 N.length c2, .slice B2 S.length d2] 29))
    have C2 := Lib.hid (b_alloc (C1.out.trans (b2.mono (by omega))) (.cells #[.slice A2 N.length c2, .slice B2 S.length d2] 29))
    have Z2 : w1.heap.size ≤ w2.heap.size := b2.size
    obtain ⟨x0, x1, _, _⟩ := k0'.out.two
    obtain ⟨y0, y1, y2, y3⟩ := k4.out.two
    obtain ⟨z0, z1, z2, z3⟩ := k1'.out.two
    clear b2 k0 k1 C1 R1 O2 hsp k0'
    by_cases h5 : S.length = 5
    · have e5 : ((S.length : Int) == 5) = true := by simp [h5]
      have hno := Lib.hid (fun (w' : World) ho hb => hful.out h5 (.agg #[.slice A2 N.length c2, .slice B2 S.length d2]) w' ho hb)
      clear hful hyes h5
      go_wp2
      have q1 := k1'.out
      have q2 := q1.set 0 (.slice A2 N.length c2)
      have hfin := hno.out _ (((O3.out.farT q1 0 (.slice A2 N.length c2)).farT q2 1 (.slice B2 S.length d2)).mono (by omega) (by simp)) ((C2.out.setCell (p := ⟨w.heap.size + 1, 0, none⟩) (by show w.heap.size ≤ w.heap.size + 1; omega) (.slice A2 N.length c2)).setCell (p := ⟨w.heap.size + 1, 1, none⟩) (by show w.heap.size ≤ w.heap.size + 1; omega) (.slice B2 S.length d2))
      exact bodyPost_ret (v := .tuple #[.agg #[.slice A2 N.length c2, .slice B2 S.length d2], .bool false]) (by simp [results, Try.results17, go_sem, z0, z1]) rfl hfin
    · have e5 : ((S.length : Int) == 5) = false := by simp; omega
      obtain ⟨mid, hs, hm1, hm2, ho, hgr⟩ := O3.out.grow
      have hno := Lib.hid (fun (v : Value) (w' : World) ho hb => hyes.out h5 v w' ho hb)
      have HO := Lib.hid (ho.alloc (.cells #[.slice none 0 0] 45))
      have HG := Lib.hid hgr
      clear hful hyes h5 ho hgr
      have R6 := Lib.hid (show ReadC ((w2.alloc (.cells #[.slice A2 N.length c2, .slice B2 S.length d2] 29)).alloc (.cells #[.slice none 0 0] 45)) (some ⟨w2.heap.size + 1, 0, none⟩) [.slice none 0 0] from by
        have := read_new1 (w := (w2.alloc (.cells #[.slice A2 N.length c2, .slice B2 S.length d2] 29))) (T := 45) (cs := #[.slice none 0 0]) (xs := [.slice none 0 0]) rfl
        simpa using this)
      go_wp2_with (at_builtin; refine wpList_append_r _ rfl (.tmp 17) (.tmp 18) 27 rfl mid 45 i1 (.slice none 0 0) 1 24 Try.underlying27 hi1 hy0 hy1 hy2 rfl (by decide) _ S.length hs HO.out rfl _ 1 1 [.slice none 0 0] R6.out rfl rfl (by intro u hu; simp at hu; subst hu; rfl) (by simp only [maxLen]; omega) (by omega) (by simp; omega) ?_; intro v6 w6 o6 g6 n6; obtain ⟨A6, c6, rfl⟩ := own_slice o6; have q4 := (blk_grown g6 (k4.out.alloc (.cells #[.slice none 0 0] 45)) (fun e => own_apartT HO.out (k4.out.alloc (.cells #[.slice none 0 0] 45)) (by decide) _ e.symm rfl)); have q1 := (blk_grown g6 (k1'.out.alloc (.cells #[.slice none 0 0] 45)) (fun e => own_apartT HO.out (k1'.out.alloc (.cells #[.slice none 0 0] 45)) (by decide) _ e.symm rfl)); obtain ⟨y0', y1', y2', y3'⟩ := q4.two; obtain ⟨z0', z1', z2', z3'⟩ := q1.two)
      have hv6 := HG.out ((w2.alloc (.cells #[.slice A2 N.length c2, .slice B2 S.length d2] 29)).alloc (.cells #[.slice none 0 0] 45)) w6 [] none A6 0 c6
        (fun k _ _ hk => (b_alloc (Below.refl _ _) (.cells #[.slice none 0 0] 45)).block k hk) (by simp <;> omega) (World.ownsRow_nil _ _ _ _) o6 g6 n6
      have q4' := q4.set 1 (.slice A6 (S.length + 1) c6)
      have q1' := q1.far (p := ⟨w2.heap.size, 1, none⟩) (by show w.heap.size + 1 ≠ w2.heap.size; omega) (.slice A6 (S.length + 1) c6)
      have hv7 := hv6.farT q4 1 (.slice A6 (S.length + 1) c6)
      have hv8 := (hv7.farT q1' 0 (.slice A2 N.length c2)).farT (q1'.set 0 (.slice A2 N.length c2)) 1 (.slice A6 (S.length + 1) c6)
      have b6 : Below w.heap.size w w6 := (b_alloc C2.out (.cells #[.slice none 0 0] 45)).grown g6 (by simp; omega) (fun k hk => by have := (HO.out.lt k hk).1; omega)
      have b8 := ((b6.setCell (p := ⟨w2.heap.size, 1, none⟩) (by show w.heap.size ≤ w2.heap.size; omega) (.slice A6 (S.length + 1) c6)).setCell (p := ⟨w.heap.size + 1, 0, none⟩) (by show w.heap.size ≤ w.heap.size + 1; omega) (.slice A2 N.length c2)).setCell (p := ⟨w.heap.size + 1, 1, none⟩) (by show w.heap.size ≤ w.heap.size + 1; omega) (.slice A6 (S.length + 1) c6)
      have hfin := Lib.hid (hno.out (.agg #[.slice A2 N.length c2, .slice A6 (S.length + 1) c6]) _ ((by simpa using hv8 : VolO w1.heap.size w6.heap.size _ (.agg #[.slice A2 N.length c2, .slice A6 (S.length + 1) c6]) N (S ++ [[]])).mono (by omega) (by simp)) b8)
      obtain ⟨t0, t1, t2, t3⟩ := q4'.two
      obtain ⟨r0, r1, r2, r3⟩ := q1'.two
      clear hv6 hv7 hv8 b6 b8 q1 q1' q4 q4' o6 g6 n6 HG HO R6 O3 C2 hno
      go_wp2
      exact bodyPost_ret (v := .tuple #[.agg #[.slice A2 N.length c2, .slice A6 (S.length + 1) c6], .bool true]) (by simp [results, Try.results17, go_sem, r0, r1]) rfl hfin.out
end Go.Proofs.Ytkjjieofoolnhaa
