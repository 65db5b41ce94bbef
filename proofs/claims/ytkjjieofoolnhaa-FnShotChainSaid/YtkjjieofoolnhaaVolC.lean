/- The contract of l18Copy, of the reference: a volume in new memory. -/
import Derived.Test.YtkjjieofoolnhaaVolX
import Derived.Test.YtkjjieofoolnhaaAppR
import Derived.Test.YtkjjieofoolnhaaRowsA
import Derived.Test.YtkjjieofoolnhaaCloneI
import Derived.Deep.RegionHeld3
import Derived.Deep.RegionLaw
namespace Go.Proofs.Ytkjjieofoolnhaa
open Go.RowKit
set_option linter.unusedVariables false

theorem vints_one (l : List Int) : ∀ u ∈ l.map (Value.int .i64), u.oneCell' = true := by
  intro u hu
  obtain ⟨x, _, rfl⟩ := List.mem_map.1 hu
  rfl
theorem vread_of {w : World} {A : Option Addr} {l : List Int} (h : IntsIn w A l) : ReadC w A (l.map (Value.int .i64)) := by
  intro h0
  obtain ⟨b, off, e, hc⟩ := h (by simpa using h0)
  exact ⟨b, off, e, fun i hi => by rw [List.getElem_map]; exact hc i (by simpa using hi)⟩
theorem read_new1 {w : World} {T : TypeId} {cs : Array Value} {xs : List Value} (h : xs = cs.toList) : ReadC (w.alloc (.cells cs T)) (some ⟨w.heap.size, 0, none⟩) xs := by
  subst h
  intro h0
  refine ⟨w.heap.size, 0, rfl, fun i hi => ?_⟩
  rw [cell_of_row _ _ _ _ _ _ (heap_alloc_new w _), Nat.zero_add]
  simp at hi
  simp [hi]

/-- How a copy stands behind k snapshots. -/
structure VCInv (w : World) (A : Option Addr) (c : Nat) (B : Option Addr) (d : Nat) (N : List Int) (S : List (List Sv)) (g : Nat) (A1 : Option Addr) (c1 k : Nat) (B2 : Option Addr) (d2 : Nat) (wr : World) : Prop where
  own : Blk wr g 29 #[.slice A1 N.length c1, .slice B2 k d2]
  arg : Blk wr w.heap.size 29 #[.slice A N.length c, .slice B S.length d]
  res : Blk wr (w.heap.size + 1) 29 #[.slice none 0 0, .slice none 0 0]
  now : wr.ownsRow (w.heap.size + 2) 3 1 (.slice A1 N.length c1) N.length (N.map (Value.int .i64))
  lt : ∀ b, (Value.slice A1 N.length c1).ownBlock = some b → b < g
  le : w.heap.size + 2 ≤ g
  rows : RowsS (g + 1) wr.heap.size wr (.slice B2 (S.take k).length d2) (S.take k)
  below : Below w.heap.size w wr
section
variable {w wr w5 w6 w1 : World} {A B A1 B2 A5 A6 : Option Addr} {c d g c1 k d2 c5 c6 : Nat} {N : List Int} {S : List (List Sv)} {hs : List Value}
theorem VCInv.start (h0 : Blk w1 w.heap.size 29 #[.slice A N.length c, .slice B S.length d]) (h1 : Blk w1 (w.heap.size + 1) 29 #[.slice none 0 0, .slice none 0 0])
    (ho : w1.ownsRow (w.heap.size + 2) 3 1 (.slice A1 N.length c1) N.length (N.map (Value.int .i64))) (hb : Below w.heap.size w w1) (hz : w.heap.size + 2 ≤ w1.heap.size) :
    VCInv w A c B d N S w1.heap.size A1 c1 0 none 0 (w1.alloc (.cells #[.slice A1 N.length c1, .slice none 0 0] 29)) :=
  ⟨Blk.new rfl, h0.alloc _, h1.alloc _, ho.alloc _, fun b hb => (ho.lt b hb).2, hz, RowsO.nil _ _ _, b_alloc hb _⟩
theorem VCInv.step (h : VCInv w A c B d N S g A1 c1 k B2 d2 wr) (hk : k < S.length)
    (ho : wr.ownsRow (g + 1) 45 1 (.slice B2 (S.take k).length d2) (S.take k).length hs) (hv : ∀ b, (Value.slice B2 (S.take k).length d2).ownBlock = some b → b < wr.heap.size)
    (hH : HdrsO savC 44 2 (g + 1) wr.heap.size wr hs (S.take k)) (hap : ∀ a ∈ hs, Apart (.slice B2 (S.take k).length d2) a)
    (b5 : Below wr.heap.size wr w5) (o5 : w5.ownsRow wr.heap.size 44 2 (.slice A5 S[k].length c5) S[k].length (savC S[k]))
    (o6 : w6.ownsRow (g + 1) 45 1 (.slice A6 ((S.take k).length + 1) c6) ((S.take k).length + 1) (hs ++ [.slice A5 S[k].length c5]))
    (g6 : (w5.alloc (.cells #[.slice A5 S[k].length c5] 45)).grownBy w6 (Value.slice B2 (S.take k).length d2).ownBlock)
    (n6 : (Value.slice A6 ((S.take k).length + 1) c6).ownBlock = (Value.slice B2 (S.take k).length d2).ownBlock ∨ (Value.slice A6 ((S.take k).length + 1) c6).ownBlock = some (w5.alloc (.cells #[.slice A5 S[k].length c5] 45)).heap.size) :
    VCInv w A c B d N S g A1 c1 (k + 1) A6 c6 (w6.setCell ⟨g, 1, none⟩ (.slice A6 (k + 1) c6)) := by
  have hl : (S.take k).length = k := by rw [List.length_take]; omega
  have hg := h.own.lt
  have hle := h.le
  have b5' : Below wr.heap.size wr (w5.alloc (.cells #[.slice A5 S[k].length c5] 45)) := b_alloc b5 _
  have z5 := b5'.size
  have hne : ∀ b, b ≤ g → some b ≠ (Value.slice B2 (S.take k).length d2).ownBlock := fun b hb e => by have := (ho.lt b e.symm).1; omega
  have k0 := blk_grown g6 (blk_below b5' h.own hg) (hne g (Nat.le_refl _))
  have k1 := blk_grown g6 (blk_below b5' h.arg (by omega)) (hne w.heap.size (by omega))
  have k2 := blk_grown g6 (blk_below b5' h.res (by omega)) (hne (w.heap.size + 1) (by omega))
  have hnow : w6.ownsRow (w.heap.size + 2) 3 1 (.slice A1 N.length c1) N.length (N.map (Value.int .i64)) :=
    own_block (own_below h.now b5' (Nat.le_refl _)) (fun b hb => g6.block b (by have := h.lt b hb; omega) (hne b (by have := h.lt b hb; omega)))
  have hr := RowsO.app (C := savC) (r := S[k]) (own_below ho b5' (Nat.le_refl _)) hv (hH.keep fun b _ _ hb => b5'.block b hb) hap (o5.alloc _) (Nat.le_refl _) (by omega) o6 g6 n6
  have hst : S.take k ++ [S[k]] = S.take (k + 1) := by rw [List.take_succ_eq_append_getElem hk]
  have hl1 : (S.take (k + 1)).length = k + 1 := by rw [List.length_take]; omega
  rw [hst, hl1] at hr
  refine ⟨?_, k1.far (by simp; omega) _, k2.far (by simp; omega) _, own_far (p := ⟨g, 1, none⟩) hnow (fun b hb => by have := h.lt b hb; show b ≠ g; omega) _, h.lt, h.le, ?_, ?_⟩
  · exact k0.set 1 _
  · rw [hl1, World.size_setCell]
    exact hr.far (p := ⟨g, 1, none⟩) (.inl (by show g < g + 1; omega)) _
  · refine ((h.below.trans (b5'.mono h.below.size)).grown g6 (by omega) (fun b hb => by have := (ho.lt b hb).1; omega)).setCell (p := ⟨g, 1, none⟩) (by show w.heap.size ≤ g; omega) _
theorem VCInv.fin (h : VCInv w A c B d N S g A1 c1 S.length B2 d2 wr) :
    ToVolPost N S w (.returned (.agg #[.slice A1 N.length c1, .slice B2 S.length d2])) ((wr.setCell ⟨w.heap.size + 1, 0, none⟩ (.slice A1 N.length c1)).setCell ⟨w.heap.size + 1, 1, none⟩ (.slice B2 S.length d2)) := by
  have hle := h.le
  have hg := h.own.lt
  have hr := h.rows
  rw [List.take_of_length_le (Nat.le_refl _)] at hr
  have hv : VolO (w.heap.size + 2) wr.heap.size wr (.agg #[.slice A1 N.length c1, .slice B2 S.length d2]) N S :=
    ⟨A1, c1, B2, d2, g + 1, rfl, h.now, fun b hb => by have := h.lt b hb; omega, hr, by omega, by omega⟩
  refine ⟨_, rfl, ?_, ?_⟩
  · exact (hv.turn (((Turn.refl (w.heap.size + 1) (w.heap.size + 2) _).setCell (by simp) (by simp) _).setCell (by simp) (by simp) _) (.inl (Nat.le_refl _))).mono (by omega) (by simp)
  · exact (h.below.setCell (by simp) _).setCell (by simp) _
end

theorem cell_keep {w w' : World} {p : Addr} {v : Value} (h : w.cell? p = some v) (hb : Below w.heap.size w w') : w'.cell? p = some v :=
  (World.cell?_of_block (hb.block _ (block_lt_of_cell h))).trans h
theorem cell_grow {w w' : World} {p : Addr} {v : Value} {row : Option Nat} (h : w.cell? p = some v) (hg : w.grownBy w' row) (hne : some p.block ≠ row) : w'.cell? p = some v :=
  (World.cell?_of_block (hg.block _ (block_lt_of_cell h) hne)).trans h
theorem cell_far {w : World} {p q : Addr} {v u : Value} (h : w.cell? p = some v) (hne : p.block ≠ q.block) : (w.setCell q u).cell? p = some v :=
  (World.cell?_of_block (Below.heap_setCell w q u _ hne)).trans h

set_option linter.unusedSimpArgs false in
set_option maxHeartbeats 4000000 in
theorem specVCopy_any (v : Value) (N : List Int) (S : List (List Sv)) (w : World) (h : VolR w v N S) (hN : N.length ≤ 1048576) (hS : S.length + sumN S ≤ 1048576) :
    Calls Try.prog 44 #[v] w (ToVolPost N S w) := by
  obtain ⟨A, c, B, d, rfl, hA, hB, hc1, hc2, hd1, hd2⟩ := h
  obtain ⟨i0, hi0, hz0, hz1, hz2⟩ := info_parts rowinfo_ints
  obtain ⟨i1, hi1, hy0, hy1, hy2⟩ := info_parts info_rowS
  obtain ⟨i2, hi2, hx0, hx1, hx2⟩ := info_parts info_sav
  have hA1 := Lib.hid ((vread_of ((hA.alloc (.cells #[.slice A N.length c, .slice B S.length d] 29)).alloc (.cells #[.slice none 0 0, .slice none 0 0] 29))).alloc (.cells #[] 3))
  have HR := Lib.hid hB
  have K0 := Lib.hid (show Blk ((w.alloc (.cells #[.slice A N.length c, .slice B S.length d] 29)).alloc (.cells #[.slice none 0 0, .slice none 0 0] 29)) w.heap.size 29 #[.slice A N.length c, .slice B S.length d] from (Blk.new rfl).alloc _)
  have K1 := Lib.hid (show Blk ((w.alloc (.cells #[.slice A N.length c, .slice B S.length d] 29)).alloc (.cells #[.slice none 0 0, .slice none 0 0] 29)) (w.heap.size + 1) 29 #[.slice none 0 0, .slice none 0 0] from Blk.new (by simp))
  have C0 := Lib.hid (show Below w.heap.size w ((w.alloc (.cells #[.slice A N.length c, .slice B S.length d] 29)).alloc (.cells #[.slice none 0 0, .slice none 0 0] 29)) from b_alloc (b_alloc (Below.refl _ _) _) _)
  have Z0 : ((w.alloc (.cells #[.slice A N.length c, .slice B S.length d] 29)).alloc (.cells #[.slice none 0 0, .slice none 0 0] 29)).heap.size = w.heap.size + 2 := by simp
  have L0 := Lib.hid (show (((w.alloc (.cells #[.slice A N.length c, .slice B S.length d] 29)).alloc (.cells #[.slice none 0 0, .slice none 0 0] 29)).alloc (.cells #[] 3)).ownsRow (w.heap.size + 2) 3 1 (.slice (some ⟨w.heap.size + 2, 0, none⟩) 0 0) 0 [] from by
    have := World.ownsRow_lit (e := 3) (size := 1) (base := w.heap.size + 2) ((w.alloc (.cells #[.slice A N.length c, .slice B S.length d] 29)).alloc (.cells #[.slice none 0 0, .slice none 0 0] 29)) #[] 0 (by omega) (by simp [maxLen]) (by simp)
    rw [Z0] at this
    exact this)
  clear hA hB
  go_enter Try.func44, Try.ntmps44
  go_wp2_with (at_builtin; refine wpList_append_r _ rfl (.tmp 5) (.tmp 7) 22 rfl (w.heap.size + 2) 3 i0 (.int .i64 0) 1 8 Try.underlying22 hi0 hz0 hz1 hz2 rfl (by decide) _ 0 [] L0.out rfl A N.length c (N.map (Value.int .i64)) hA1.out rfl (by simp) (vints_one N) (by simp only [maxLen]; omega) (by omega) (by simp; try omega) ?_; intro v1 w1 o1 g1 n1; rw [Nat.zero_add] at o1; obtain ⟨A1, c1, rfl⟩ := own_slice o1)
  have hz1' : w.heap.size + 2 ≤ w1.heap.size := by have := g1.size; simp at this; omega
  have hnb : ∀ b, b < w.heap.size + 2 → some b ≠ (Value.slice (some ⟨w.heap.size + 2, 0, none⟩) 0 0).ownBlock := fun b hb e => by simp [Value.ownBlock] at e; omega
  have I0 := Lib.hid (VCInv.start (A1 := A1) (c1 := c1) (blk_grown g1 (K0.out.alloc _) (hnb _ (by omega))) (blk_grown g1 (K1.out.alloc _) (hnb _ (by omega))) (by simpa using o1)
    ((b_alloc C0.out (.cells #[] 3)).grown g1 (by simp; omega) (fun b hb => by simp [Value.ownBlock] at hb; omega)) hz1')
  obtain ⟨g, hg⟩ : ∃ g, g = w1.heap.size := ⟨_, rfl⟩
  generalize hw2 : w1.alloc (.cells #[.slice A1 N.length c1, .slice none 0 0] 29) = w2 at *
  rw [← hg] at I0 ⊢
  clear o1 g1 n1 L0 K0 K1 C0 Z0 hA1 hw2 hg hnb hz1'
  go_loopw [4] (fun y wr => ∃ (k : Nat) (B2 : Option Addr) (d2 : Nat), k ≤ S.length ∧ y = .int .i64 k ∧ Hid (VCInv w A c B d N S g A1 c1 k B2 d2 wr)) (fun y _ => S.length - (intOf y).toNat)
  case atStart => exact ⟨0, none, 0, Nat.zero_le _, rfl, I0⟩
  case round =>
    clear I0
    obtain ⟨k, B2, d2, hk, rfl, I⟩ := hrel
    obtain ⟨_, x1, _, _⟩ := I.out.arg.two
    by_cases hlt : k < S.length
    · have hlk : (S.take k).length = k := by rw [List.length_take]; omega
      obtain ⟨b, off, rfl, hc⟩ := HR.out.below I.out.below (by omega)
      obtain ⟨Ak, ck, u0, u1, _, _⟩ := hc k hlt
      have hbw : b < w.heap.size := by
        obtain ⟨b', off', e, hc'⟩ := HR.out (by omega)
        injection e with e
        injection e with e _
        subst e
        obtain ⟨_, _, z, _⟩ := hc' k hlt
        exact block_lt_of_cell z
      have hsm := sumN_get hlt
      obtain ⟨_, y1, _, _⟩ := I.out.own.two
      obtain ⟨Dx, cx, hs, ev, ho, hv, hH, hap⟩ := I.out.rows
      injection ev with ev1 _ ev3
      subst ev1 ev3
      rw [hlk] at ho
      have HO := Lib.hid ho
      have HV := Lib.hid hv
      have HH := Lib.hid hH
      have HAP := Lib.hid hap
      have U1 := Lib.hid u1
      have hgl := I.out.own.lt
      have hgle := I.out.le
      have HST := Lib.hid (fun (w5 w6 : World) (A5 A6 : Option Addr) (c5 c6 : Nat) (b5 : Below wr.heap.size wr w5) o5 o6 g6 n6 => I.out.step (w5 := w5) (w6 := w6) (A5 := A5) (A6 := A6) (c5 := c5) (c6 := c6) hlt (by rw [hlk]; exact HO.out) HV.out HH.out HAP.out b5 o5 o6 g6 n6)
      rw [hlk] at HST
      obtain ⟨r, hr⟩ : ∃ r, r = S[k] := ⟨_, rfl⟩
      rw [← hr] at u0 U1 hsm HST
      clear hc ho hv hH hap u1 hr
      have L5 := Lib.hid (World.ownsRow_lit (e := 44) (size := 2) (base := wr.heap.size) wr #[] 0 (Nat.le_refl _) (by simp [maxLen]) (by simp))
      have hsl := savC_length r
      have fz := I.out.own.free 1
      have HG := Lib.hid I.out.own
      have HW := Lib.hid I.out.arg
      have hB2 := Lib.hid (fun b hb => (HO.out.lt b hb).1)
      have x1a := cell_keep x1 (b_alloc (Below.refl wr.heap.size wr) (.cells #[] 44))
      have u0a := cell_keep u0 (b_alloc (Below.refl wr.heap.size wr) (.cells #[] 44))
      have y1a := cell_keep y1 (b_alloc (Below.refl wr.heap.size wr) (.cells #[] 44))
      go_wp2
      go_region_law
        (first
          | (refine step_append_r _ (by rfl) (.tmp 19) (.tmp 24) 45 (by rfl) wr.heap.size 44 i2 (.agg #[.int .i64 0, .int .i64 0]) 2 16 Try.underlying45 hi2 hx0 hx1 hx2 rfl (by decide) _ 0 [] (L5.out.drew) ?_ Ak r.length ck (savC r) ((U1.out.alloc _).drew) (by simp [Act.eval, Act.put] <;> fail) (by omega) (savC_one r) (by simp only [maxLen]; omega) (by omega) (by simp) ?_; simp [Act.eval, Act.put]; intro v5 w5 o5 g5 n5; rw [Nat.zero_add] at o5; obtain ⟨A5, c5, rfl⟩ := own_slice o5; have B5 : Below wr.heap.size wr w5 := (b_drew (b_alloc (Below.refl wr.heap.size wr) _)).grown g5 (by simp) (fun b hb => by simp [Value.ownBlock] at hb; omega); have q1 := cell_keep x1 B5; have q2 := cell_keep u0 B5; have q3 := cell_keep y1 B5; have q3a := cell_keep q3 (b_alloc (Below.refl w5.heap.size w5) (.cells #[.slice A5 r.length c5] 45)))
          | (refine step_append_r _ (by rfl) (.tmp 18) (.tmp 26) 27 (by rfl) (g + 1) 45 i1 (.slice none 0 0) 1 24 Try.underlying27 hi1 hy0 hy1 hy2 rfl (by decide) _ k hs ((own_below HO.out B5 (Nat.le_refl _)).alloc _) ?_ (some ⟨w5.heap.size, 0, none⟩) 1 1 [.slice A5 r.length c5] (read_new1 rfl) (by simp [Act.eval, Act.put] <;> fail) rfl (by intro u hu; simp at hu; subst hu; rfl) (by simp only [maxLen]; omega) (by omega) (by have := B5.size; simp; omega) ?_; simp [Act.eval, Act.put]; intro v6 w6 o6 g6 n6; obtain ⟨A6, c6, rfl⟩ := own_slice o6; have q4 := cell_grow (cell_keep q1 (b_alloc (Below.refl w5.heap.size w5) _)) g6 (fun e => by have h := (HO.out.lt _ e.symm).1; dsimp only at h; omega); have q5 := cell_grow (cell_keep q2 (b_alloc (Below.refl w5.heap.size w5) _)) g6 (fun e => by have h := (HO.out.lt _ e.symm).1; dsimp only at h; omega); have q6 := cell_grow (cell_keep q3 (b_alloc (Below.refl w5.heap.size w5) _)) g6 (fun e => by have h := (HO.out.lt _ e.symm).1; dsimp only at h; omega); have q7 := (blk_grown g6 ((blk_below B5 HG.out HG.out.lt).alloc _) (fun e => by have h := (HO.out.lt _ e.symm).1; omega)).free 1))
      all_goals
        have I6 := Lib.hid (HST.out w5 w6 A5 A6 c5 c6 B5 o5 o6 g6 n6)
        clear g6 n6 o5 o6 g5 n5 B5 HST HO HV HH HAP U1 L5 HG HW hB2
        go_wp2
        go_roundw
        case rel => exact ⟨k + 1, A6, c6, by omega, by go_num, I6⟩
        case measure => simp [intOf]; omega
    · obtain rfl : k = S.length := by omega
      have hfin := Lib.hid I.out.fin
      obtain ⟨y0, y1, _, _⟩ := I.out.own.two
      obtain ⟨z0, z1, z2, z3⟩ := I.out.res.two
      clear I
      go_wp2
      exact bodyPost_ret (v := .agg #[.slice A1 N.length c1, .slice B2 S.length d2]) (by simp [results, Try.results44, go_sem, z0, z1]) rfl hfin.out
end Go.Proofs.Ytkjjieofoolnhaa
