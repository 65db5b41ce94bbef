/- Volumes with snapshots in memory of the call's own; contracts of the exact laws' own functions over them: szVolume, toVolume, eqVolume, markVolume, heldVolume. -/
import Derived.Test.YtkjjieofoolnhaaVolV
import Derived.Test.YtkjjieofoolnhaaSavM
import Derived.Test.YtkjjieofoolnhaaIntsX
import Derived.Test.YtkjjieofoolnhaaEqI
namespace Go.Proofs.Ytkjjieofoolnhaa
open Go.RowKit
set_option linter.unusedVariables false

/-- A volume in blocks of its own from lo to hi: the values first, the snapshots behind them. -/
def VolO (lo hi : Nat) (w : World) (v : Value) (N : List Int) (S : List (List Sv)) : Prop :=
  ∃ A c B d mid, v = .agg #[.slice A N.length c, .slice B S.length d] ∧ w.ownsRow lo 3 1 (.slice A N.length c) N.length (N.map (Value.int .i64)) ∧
    (∀ g, (Value.slice A N.length c).ownBlock = some g → g < mid) ∧ RowsS mid hi w (.slice B S.length d) S ∧ lo ≤ mid ∧ mid ≤ hi
section
variable {lo hi : Nat} {w w' : World} {v : Value} {N : List Int} {S : List (List Sv)}
theorem VolO.keep (h : VolO lo hi w v N S) (hk : ∀ k, lo ≤ k → k < hi → k < w.heap.size → w'.heap[k]? = w.heap[k]?) : VolO lo hi w' v N S := by
  obtain ⟨A, c, B, d, mid, e, h1, h2, h3, h4, h5⟩ := h
  exact ⟨A, c, B, d, mid, e, own_block h1 (fun g hg => hk g (h1.lt g hg).1 (by have := h2 g hg; omega) (h1.lt g hg).2), h2, h3.keep (fun k a b c => hk k (by omega) b c), h4, h5⟩
theorem VolO.below (h : VolO lo hi w v N S) (hb : Below w.heap.size w w') : VolO lo hi w' v N S := h.keep fun k _ _ hk => hb.block k hk
theorem VolO.alloc (h : VolO lo hi w v N S) (o : Obj) : VolO lo hi (w.alloc o) v N S := h.keep fun k _ _ hk => Below.heap_alloc w o k hk
theorem VolO.drew (h : VolO lo hi w v N S) : VolO lo hi w.drew v N S := h
theorem VolO.drewN (h : VolO lo hi w v N S) (n : Nat) : VolO lo hi (w.drewN n) v N S := h
theorem VolO.turn {a b : Nat} (h : VolO lo hi w v N S) (ht : Turn a b w w') (hd : b ≤ lo ∨ hi ≤ a) : VolO lo hi w' v N S := h.keep fun k h1 h2 hk => ht.block k hk (by omega)
theorem VolO.far {p : Addr} (h : VolO lo hi w v N S) (hp : p.block < lo ∨ hi ≤ p.block) (u : Value) : VolO lo hi (w.setCell p u) v N S := h.keep fun k h1 h2 _ => Below.heap_setCell w p u k (by omega)
theorem VolO.mono {lo' hi' : Nat} (h : VolO lo hi w v N S) (h1 : lo' ≤ lo) (h2 : hi ≤ hi') : VolO lo' hi' w v N S := by
  obtain ⟨A, c, B, d, mid, e, a1, a2, a3, a4, a5⟩ := h
  exact ⟨A, c, B, d, mid, e, own_mono a1 h1, a2, a3.mono (Nat.le_refl _) h2, by omega, by omega⟩
theorem VolO.read (h : VolO lo hi w v N S) : VolR w v N S := by
  obtain ⟨A, c, B, d, mid, e, a1, a2, a3, a4, a5⟩ := h
  obtain ⟨_, _, e2, b1, b2⟩ := a3.slice
  injection e2 with _ _ e2
  subst e2
  have q := own_cap a1
  exact ⟨A, c, B, d, e, IntsIn.of (own_read a1), a3.read, q.1, q.2, b1, b2⟩
end
theorem VolR.drew {w : World} {v : Value} {N : List Int} {S : List (List Sv)} (h : VolR w v N S) : VolR w.drew v N S := h
theorem VolR.drewN {w : World} {v : Value} {N : List Int} {S : List (List Sv)} (h : VolR w v N S) (n : Nat) : VolR (w.drewN n) v N S := h

def SzVPost (N : List Int) (S : List (List Sv)) (left : Int) (W : World) (e : Ending) (w' : World) : Prop :=
  ∃ r : Int, e = .returned (.int .i64 r) ∧ Below W.heap.size W w' ∧ (r = -1 ∨ (0 ≤ r ∧ (N.length : Int) + S.length + sumN S + r = left))
set_option maxHeartbeats 1000000 in
theorem szVol_any (v : Value) (N : List Int) (S : List (List Sv)) (left : Int) (w : World) (h : VolR w v N S) (hl : 0 ≤ left ∧ left ≤ 1000000000000) :
    Calls Try.prog 14 #[v, .int .i64 left] w (SzVPost N S left w) := by
  obtain ⟨A, c, B, d, rfl, hA, hB, hc1, hc2, hd1, hd2⟩ := h
  have HB := Lib.hid (b_alloc (Below.refl w.heap.size w) (.cells #[.slice A N.length c, .slice B S.length d] 25))
  have HR := Lib.hid (hB.alloc (.cells #[.slice A N.length c, .slice B S.length d] 25))
  clear hA hB
  by_cases h1 : left - N.length < 0
  · have hs : (if left - (N.length : Int) < 0 then (-1 : Int) else left - N.length) = -1 := if_pos h1
    have hno := Lib.hid (show SzVPost N S left w (.returned (.int .i64 (-1))) (w.alloc (.cells #[.slice A N.length c, .slice B S.length d] 25)) from ⟨-1, rfl, HB.out, .inl rfl⟩)
    go_enter Try.func14, Try.ntmps14
    go_wp2_with fail
    refine (szInts_any _ _ _ _ _ (by omega) (by omega)).mono ?_
    rintro e w' ⟨rfl, rfl⟩
    rw [hs]
    clear hs
    go_wp2
    go_ret
    exact hno.out
  · have hs : (if left - (N.length : Int) < 0 then (-1 : Int) else left - N.length) = left - N.length := if_neg h1
    have hyes := Lib.hid (fun (r : Int) (h : r = -1 ∨ (0 ≤ r ∧ (S.length : Int) + sumN S + r = left - N.length)) => show SzVPost N S left w (.returned (.int .i64 r)) (w.alloc (.cells #[.slice A N.length c, .slice B S.length d] 25)) from ⟨r, rfl, HB.out, by omega⟩)
    have Hs := Lib.hid hs
    clear hs
    go_enter Try.func14, Try.ntmps14
    go_wp2_with fail
    refine (szInts_any _ _ _ _ _ (by omega) (by omega)).mono ?_
    rintro e w' ⟨rfl, rfl⟩
    rw [Hs.out]
    go_wp2_with fail
    refine (szSavSS_any _ _ S _ _ HR.out (by omega) (by omega)).mono ?_
    rintro e w' ⟨r, rfl, rfl, hr⟩
    rcases hr with rfl | ⟨hr0, hr1⟩
    · have hno := Lib.hid (hyes.out (-1) (.inl rfl))
      clear hyes
      go_wp2
      go_ret
      exact hno.out
    · have hno := Lib.hid (hyes.out r (.inr ⟨hr0, hr1⟩))
      clear hyes hr1
      go_wp2
      go_ret
      exact hno.out

def ToVolPost (N : List Int) (S : List (List Sv)) (w : World) (e : Ending) (w' : World) : Prop :=
  ∃ v, e = .returned v ∧ VolO w.heap.size w'.heap.size w' v N S ∧ Below w.heap.size w w'

set_option maxHeartbeats 1000000 in
theorem toVol_any (v : Value) (N : List Int) (S : List (List Sv)) (w : World) (h : VolR w v N S) (hN : N.length ≤ 1048576) (hS : S.length + sumN S ≤ 1048576) :
    Calls Try.prog 16 #[v] w (ToVolPost N S w) := by
  obtain ⟨A, c, B, d, rfl, hA, hB, hc1, hc2, hd1, hd2⟩ := h
  go_enter Try.func16, Try.ntmps16
  go_wp2_with fail
  refine (toInts_any _ _ N _ (((hA.alloc _).alloc _).alloc _) (by omega)).mono ?_
  rintro e w1 ⟨A1, c1, rfl, o1, b1⟩
  have k0 : Blk w1 w.heap.size _ _ := blk_below b1 (((Blk.new rfl).alloc _).alloc _) (by simp; omega)
  have k1 : Blk w1 (w.heap.size + 1) _ _ := blk_below b1 ((Blk.new (by simp)).alloc _) (by simp)
  have k2 : Blk w1 (w.heap.size + 2) _ _ := blk_below b1 (Blk.new (by simp)) (by simp)
  have b1' : Below w.heap.size w w1 := (b_alloc (b_alloc (b_alloc (Below.refl _ _) _) _) _).trans (b1.mono (by simp; omega))
  have o1' := own_mono o1 (show w.heap.size + 3 ≤ _ by simp)
  have hz : w.heap.size + 3 ≤ w1.heap.size := by have := b1.size; simp at this; omega
  clear o1 b1 hA
  obtain ⟨x0, x1, _, _⟩ := k0.two
  obtain ⟨y0, y1, f0, f1⟩ := k2.two
  have K1 := Lib.hid k1
  have K2 := Lib.hid k2
  have Ho1 := Lib.hid o1'
  have Hb1 := Lib.hid b1'
  have HR := Lib.hid hB
  clear o1' b1' k0 k1 k2 hB
  go_wp2_with fail
  refine (toSavSS_any _ _ S _ (HR.out.below (Hb1.out.setCell (by simp; omega) _)) (by omega)).mono ?_
  rintro e w2 ⟨A2, c2, rfl, o2, b2⟩
  have k1 : Blk w2 (w.heap.size + 1) _ _ := blk_below b2 (K1.out.far (by simp) _) (by simp; omega)
  have k2 : Blk w2 (w.heap.size + 2) 29 #[.slice A1 N.length c1, .slice none 0 0] := blk_below b2 (K2.out.set 0 _) (by simp; omega)
  have o1 := own_below (own_far Ho1.out (p := ⟨w.heap.size + 1 + 1, 0, none⟩) (fun g hg => by have := (Ho1.out.lt g hg).1; simp; omega) (.slice A1 N.length c1)) b2 (Nat.le_refl _)
  have hv : VolO (w.heap.size + 3) w2.heap.size w2 (.agg #[.slice A1 N.length c1, .slice A2 S.length c2]) N S := by
    have s2 := b2.size
    simp only [World.size_setCell] at s2 o2
    exact ⟨A1, c1, A2, c2, w1.heap.size, rfl, o1, fun g hg => (Ho1.out.lt g hg).2, o2, by omega, by omega⟩
  have b2' := (Hb1.out.setCell (p := ⟨w.heap.size + 1 + 1, 0, none⟩) (by simp; omega) (.slice A1 N.length c1)).trans (b2.mono (by simp; omega))
  have Hv := Lib.hid hv
  have Hb2 := Lib.hid b2'
  obtain ⟨y0', y1', f0', f1'⟩ := k2.two
  obtain ⟨z0', z1', g0', g1'⟩ := k1.two
  clear hv b2' o1 o2 b2 k1 k2 x0 x1 y0 y1 f0 f1
  go_wp2
  refine bodyPost_ret (v := .agg #[.slice A1 N.length c1, .slice A2 S.length c2]) (by simp [results, Try.results16, go_sem, *]) rfl ⟨_, rfl, ?_, ?_⟩
  · exact (Hv.out.turn ((((Turn.refl (w.heap.size) (w.heap.size + 3) _).setCell (by simp; omega) (by simp) _).setCell (by simp) (by simp) _).setCell (by simp) (by simp) _) (.inl (Nat.le_refl _))).mono (by omega) (by simp)
  · exact ((Hb2.out.setCell (by simp; omega) _).setCell (by simp) _).setCell (by simp) _

theorem eqVol_same (v v' : Value) (N : List Int) (S : List (List Sv)) (w : World) (h : VolR w v N S) (h' : VolR w v' N S) (hN : N.length ≤ 1000000000000) (hS : S.length + sumN S ≤ 1000000000) :
    Calls Try.prog 18 #[v, v'] w fun e w' => e = .returned (.bool true) ∧ Below w.heap.size w w' := by
  obtain ⟨A, c, B, d, rfl, hA, hB, hc1, hc2, hd1, hd2⟩ := h
  obtain ⟨A', c', B', d', rfl, hA', hB', hc1', hc2', hd1', hd2'⟩ := h'
  go_enter Try.func18, Try.ntmps18
  go_wp2_with fail
  refine (eqIntS_any _ _ _ _ N N _ ((hA.alloc _).alloc _) ((hA'.alloc _).alloc _) (by omega) (by omega)).mono ?_
  rintro e w3 ⟨rfl, q, rfl⟩
  go_wp2_with fail
  refine (eqSavSS_same _ _ _ _ S _ (((hB.alloc _).alloc _).drewN q) (((hB'.alloc _).alloc _).drewN q) (by omega)).mono ?_
  rintro e w3 ⟨rfl, b3⟩
  have b4 := Lib.hid ((belowN (b_alloc (b_alloc (Below.refl w.heap.size w) (.cells #[.slice A N.length c, .slice B S.length d] 29)) (.cells #[.slice A' N.length c', .slice B' S.length d'] 29)) q).trans (b3.mono (by simp; omega)))
  clear b3
  go_wp2
  go_ret
  exact ⟨rfl, b4.out⟩

theorem heldVol_any (v : Value) (n : Nat) (S : List (List Sv)) (k : Int) (w : World) (h : VolR w v (marks k n) (mkSS (k + n) S)) (hk : 0 ≤ k ∧ k ≤ 100000000) (hn : n ≤ 100000000) (hS : S.length + sumN S ≤ 1000000000) :
    Calls Try.prog 20 #[v, .int .i64 k] w fun e w' => e = .returned (.int .i64 (k + n + 2 * sumN S)) ∧ Below w.heap.size w w' := by
  obtain ⟨A, c, B, d, rfl, hA, hB, hc1, hc2, hd1, hd2⟩ := h
  rw [marks_length, mkSS_length] at *
  go_enter Try.func20, Try.ntmps20
  go_wp2_with fail
  refine (held_any _ n _ _ _ (hA.alloc _) (by omega) (by omega)).mono ?_
  rintro e w3 ⟨rfl, rfl⟩
  go_wp2_with fail
  refine (heldSS_any _ _ S _ _ (hB.alloc _) (by omega) (by omega)).mono ?_
  rintro e w3 ⟨rfl, rfl⟩
  go_wp2
  go_ret
  exact ⟨rfl, b_alloc (Below.refl _ _) _⟩

def MarkVolPost (lo hi : Nat) (v : Value) (n : Nat) (S : List (List Sv)) (k : Int) (w : World) (e : Ending) (w' : World) : Prop :=
  e = .returned (.int .i64 (k + n + 2 * sumN S)) ∧ VolR w' v (marks k n) (mkSS (k + n) S) ∧ Turn lo hi w w'

set_option maxHeartbeats 400000 in
theorem markVol_any (lo hi : Nat) (v : Value) (N : List Int) (S : List (List Sv)) (k : Int) (w : World) (h : VolO lo hi w v N S) (hk : 0 ≤ k ∧ k ≤ 100000000) (hN : N.length ≤ 100000000) (hS : S.length + sumN S ≤ 1000000000) (hh : hi ≤ w.heap.size) :
    Calls Try.prog 19 #[v, .int .i64 k] w (MarkVolPost lo hi v N.length S k w) := by
  obtain ⟨A, c, B, d, mid, rfl, h1, h2, h3, h4, h5⟩ := h
  have q1 := own_cap h1
  obtain ⟨_, _, e2, q2, q3⟩ := h3.slice
  injection e2 with e1 _ e2
  subst e1
  subst e2
  have oA := own_at (h1.alloc (.cells #[.slice A N.length c, .slice B S.length d] 29)) (fun g hg => ⟨(h1.lt g hg).1, h2 g hg⟩)
  have oB := h3.alloc (.cells #[.slice A N.length c, .slice B S.length d] 29)
  have k0 : Blk (w.alloc (.cells #[.slice A N.length c, .slice B S.length d] 29)) w.heap.size 29 #[.slice A N.length c, .slice B S.length d] := Blk.new rfl
  have K0 := Lib.hid k0
  have OB := Lib.hid oB
  clear k0 h1 h2 h3 oB
  go_enter Try.func19, Try.ntmps19
  go_wp2_with fail
  refine (mark_any lo mid A c N k _ oA (by omega) (by omega)).mono ?_
  rintro e w1 ⟨rfl, oA1, t1⟩
  have oB1 := Lib.hid (OB.out.turn t1 (.inr (Nat.le_refl _)))
  obtain ⟨x0, x1, f0, f1⟩ := (blk_turn' (g := w.heap.size) t1 K0.out (fun h => by have := h.2; omega)).two
  have T1 := Lib.hid t1
  have OA1 := Lib.hid oA1
  clear oA t1 oA1
  go_wp2_with fail
  refine (markSS_any mid hi _ _ S _ _ oB1.out (by omega) (by omega)).mono ?_
  rintro e w2 ⟨rfl, oB2, t2⟩
  have oA2 : OwnC lo mid w2 3 A ((marks k N.length).map (Value.int .i64)) := OA1.out.turn t2 (.inl (Nat.le_refl _))
  have hfin := Lib.hid (show MarkVolPost lo hi (.agg #[.slice A N.length c, .slice B S.length d]) N.length S k w (.returned (.int .i64 (k + N.length + 2 * sumN S))) w2 from
    ⟨rfl, ⟨A, c, B, d, by rw [marks_length, mkSS_length], IntsIn.of oA2.read, by
        have := oB2
        rw [← mkSS_length (k + N.length) S] at this
        exact this.read, by rw [marks_length]; omega, by omega, by rw [mkSS_length]; omega, by omega⟩,
      ((Turn.refl lo hi w).alloc _).trans ((T1.out.mono (Nat.le_refl _) h5).trans (t2.mono h4 (Nat.le_refl _)))⟩)
  clear oA2 oB2 t2 oB1 x0 x1 f0 f1
  go_wp2
  go_ret
  exact hfin.out
end Go.Proofs.Ytkjjieofoolnhaa
