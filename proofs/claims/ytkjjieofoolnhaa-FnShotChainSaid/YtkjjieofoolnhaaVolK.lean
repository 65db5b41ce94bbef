/- The contract of cloneVolume, of the program: a volume in new memory. -/
import Derived.Test.YtkjjieofoolnhaaVolC
import Derived.Test.YtkjjieofoolnhaaCloneV
namespace Go.Proofs.Ytkjjieofoolnhaa
open Go.RowKit
set_option linter.unusedVariables false

def CloneIV (l : List Int) (W : World) (e : Ending) (w' : World) : Prop :=
  ∃ A c, e = .returned (.slice A l.length c) ∧ w'.ownsRow W.heap.size 3 1 (.slice A l.length c) l.length (l.map (Value.int .i64)) ∧ Below W.heap.size W w'
theorem cloneIV_any (A : Option Addr) (c : Nat) (l : List Int) (w : World) (h : IntsIn w A l) (hl : l.length ≤ 1048576) :
    Calls Try.prog 61 #[.slice A l.length c] w (CloneIV l w) := by
  refine (clone_ints A l.length c (l.map (Value.int .i64)) w (vread_of h) (by simp) (vints_one l) (by omega)).mono ?_
  rintro e w' ⟨v, rfl, o, b⟩
  obtain ⟨A', c', rfl⟩ := own_slice o
  exact ⟨A', c', rfl, o, b⟩
def CloneSV (l : List Sv) (W : World) (e : Ending) (w' : World) : Prop :=
  ∃ A c, e = .returned (.slice A l.length c) ∧ w'.ownsRow W.heap.size 44 2 (.slice A l.length c) l.length (savC l) ∧ Below W.heap.size W w'
theorem cloneSV_any (A : Option Addr) (c : Nat) (l : List Sv) (w : World) (h : ReadC w A (savC l)) (hl : l.length ≤ 1048576) :
    Calls Try.prog 67 #[.slice A l.length c] w (CloneSV l w) := by
  refine (clone_saveds A l.length c (savC l) w h (by rw [savC_length]; omega) (savC_one l) (by omega)).mono ?_
  rintro e w' ⟨v, rfl, o, b⟩
  obtain ⟨A', c', rfl⟩ := own_slice o
  exact ⟨A', c', rfl, o, b⟩

set_option linter.unusedSimpArgs false in
set_option maxHeartbeats 4000000 in
theorem cloneVol_any (v : Value) (N : List Int) (S : List (List Sv)) (w : World) (h : VolR w v N S) (hN : N.length ≤ 1048576) (hS : S.length + sumN S ≤ 1048576) :
    Calls Try.prog 47 #[v] w (ToVolPost N S w) := by
  obtain ⟨A, c, B, d, rfl, hA, hB, hc1, hc2, hd1, hd2⟩ := h
  obtain ⟨i1, hi1, hy0, hy1, hy2⟩ := info_parts info_rowS
  have hA0 := Lib.hid ((hA.alloc (.cells #[.slice A N.length c, .slice B S.length d] 29)).alloc (.cells #[.slice none 0 0, .slice none 0 0] 29))
  have HR := Lib.hid hB
  have K0 := Lib.hid (show Blk ((w.alloc (.cells #[.slice A N.length c, .slice B S.length d] 29)).alloc (.cells #[.slice none 0 0, .slice none 0 0] 29)) w.heap.size 29 #[.slice A N.length c, .slice B S.length d] from (Blk.new rfl).alloc _)
  have K1 := Lib.hid (show Blk ((w.alloc (.cells #[.slice A N.length c, .slice B S.length d] 29)).alloc (.cells #[.slice none 0 0, .slice none 0 0] 29)) (w.heap.size + 1) 29 #[.slice none 0 0, .slice none 0 0] from Blk.new (by simp))
  have C0 := Lib.hid (show Below w.heap.size w ((w.alloc (.cells #[.slice A N.length c, .slice B S.length d] 29)).alloc (.cells #[.slice none 0 0, .slice none 0 0] 29)) from b_alloc (b_alloc (Below.refl _ _) _) _)
  have Z0 : ((w.alloc (.cells #[.slice A N.length c, .slice B S.length d] 29)).alloc (.cells #[.slice none 0 0, .slice none 0 0] 29)).heap.size = w.heap.size + 2 := by simp
  clear hA hB
  go_enter Try.func47, Try.ntmps47
  go_wp2_with fail
  refine (cloneIV_any _ _ N _ hA0.out (by omega)).mono ?_
  rintro e w1 ⟨A1, c1, rfl, o1, b1⟩
  have hz1' : w.heap.size + 2 ≤ w1.heap.size := by have := b1.size; omega
  have k0 := blk_below b1 K0.out K0.out.lt
  have I0 := Lib.hid (VCInv.start (S := S) (A1 := A1) (c1 := c1) k0 (blk_below b1 K1.out K1.out.lt) (by rw [Z0] at o1; exact o1) (C0.out.trans (b1.mono (by omega))) hz1')
  have x1 := cell_keep (k0.cell 1) (b_alloc (Below.refl w1.heap.size w1) (.cells #[.slice A1 N.length c1, .slice none 0 0] 29))
  clear o1 b1 K0 K1 C0 Z0 hA0 k0
  go_wp2
  obtain ⟨g, hg⟩ : ∃ g, g = w1.heap.size := ⟨_, rfl⟩
  generalize hw2 : w1.alloc (.cells #[.slice A1 N.length c1, .slice none 0 0] 29) = w2 at *
  rw [← hg] at I0 ⊢
  clear hw2 hg hz1'
  go_loopw [13] (fun y wr => ∃ (k : Nat) (B2 : Option Addr) (d2 : Nat), k ≤ S.length ∧ y = .int .i64 k ∧ Hid (VCInv w A c B d N S g A1 c1 k B2 d2 wr)) (fun y _ => S.length - (intOf y).toNat)
  case atStart => exact ⟨0, none, 0, Nat.zero_le _, rfl, I0⟩
  case round =>
    clear I0
    obtain ⟨k, B2, d2, hk, rfl, I⟩ := hrel
    obtain ⟨_, x1, _, _⟩ := I.out.arg.two
    by_cases hlt : k < S.length
    · have hlk : (S.take k).length = k := by rw [List.length_take]; omega
      obtain ⟨b, off, rfl, hc⟩ := HR.out.below I.out.below (by omega)
      obtain ⟨Ak, ck, u0, u1, _, _⟩ := hc k hlt
      have hbw : b < w.heap.size := by
        obtain ⟨b', off', e, hc'⟩ := HR.out (by omega)
        injection e with e
        injection e with e _
        subst e
        obtain ⟨_, _, z, _⟩ := hc' k hlt
        exact block_lt_of_cell z
      have hsm := sumN_get hlt
      obtain ⟨_, y1, _, _⟩ := I.out.own.two
      obtain ⟨Dx, cx, hs, ev, ho, hv, hH, hap⟩ := I.out.rows
      injection ev with ev1 _ ev3
      subst ev1 ev3
      rw [hlk] at ho
      have HO := Lib.hid ho
      have HV := Lib.hid hv
      have HH := Lib.hid hH
      have HAP := Lib.hid hap
      have U1 := Lib.hid u1
      have hgl := I.out.own.lt
      have hgle := I.out.le
      have HST := Lib.hid (fun (w5 w6 : World) (A5 A6 : Option Addr) (c5 c6 : Nat) (b5 : Below wr.heap.size wr w5) o5 o6 g6 n6 => I.out.step (w5 := w5) (w6 := w6) (A5 := A5) (A6 := A6) (c5 := c5) (c6 := c6) hlt (by rw [hlk]; exact HO.out) HV.out HH.out HAP.out b5 o5 o6 g6 n6)
      rw [hlk] at HST
      obtain ⟨r, hr⟩ : ∃ r, r = S[k] := ⟨_, rfl⟩
      rw [← hr] at u0 U1 hsm HST
      clear hc ho hv hH hap u1 hr
      have hsl := savC_length r
      have fz := I.out.own.free 1
      have HG := Lib.hid I.out.own
      have HW := Lib.hid I.out.arg
      have hB2 := Lib.hid (fun b hb => (HO.out.lt b hb).1)
      have y1a := cell_keep y1 (b_drew (Below.refl wr.heap.size wr))
      go_wp2
      go_region_law
        (first
          | (refine step_append_r _ (by rfl) (.tmp 18) (.tmp 21) 27 (by rfl) (g + 1) 45 i1 (.slice none 0 0) 1 24 Try.underlying27 hi1 hy0 hy1 hy2 rfl (by decide) _ k hs ((own_below HO.out B5 (Nat.le_refl _)).alloc _) ?_ (some ⟨w5.heap.size, 0, none⟩) 1 1 [.slice A5 r.length c5] (read_new1 rfl) (by simp [Act.eval, Act.put] <;> fail) rfl (by intro u hu; simp at hu; subst hu; rfl) (by simp only [maxLen]; omega) (by omega) (by have := B5.size; simp; omega) ?_; simp [Act.eval, Act.put]; intro v6 w6 o6 g6 n6; obtain ⟨A6, c6, rfl⟩ := own_slice o6; have q6 := cell_grow (cell_keep q3 (b_alloc (Below.refl w5.heap.size w5) _)) g6 (fun e => by have h := (HO.out.lt _ e.symm).1; dsimp only at h; omega); have q7 := (blk_grown g6 ((blk_below B5 HG.out HG.out.lt).alloc _) (fun e => by have h := (HO.out.lt _ e.symm).1; omega)).free 1)
          | (go_simp; go_at_call 67; refine (cloneSV_any Ak ck r _ U1.out.drew (by omega)).mono ?_; rintro e w5 ⟨A5, c5, rfl, o5, b5⟩; have B5 : Below wr.heap.size wr w5 := (b_drew (Below.refl wr.heap.size wr)).trans b5; have q3 := cell_keep y1 B5; have q3a := cell_keep q3 (b_alloc (Below.refl w5.heap.size w5) (.cells #[.slice A5 r.length c5] 45)); (try dsimp only)))
      all_goals
        have I6 := Lib.hid (HST.out w5 w6 A5 A6 c5 c6 B5 o5 o6 g6 n6)
        clear g6 n6 o5 o6 B5 b5 HST HO HV HH HAP U1 HG HW hB2
        go_wp2
        go_roundw
        case rel => exact ⟨k + 1, A6, c6, by omega, by go_num, I6⟩
        case measure => simp [intOf]; omega
    · obtain rfl : k = S.length := by omega
      have hfin := Lib.hid I.out.fin
      obtain ⟨y0, y1, _, _⟩ := I.out.own.two
      obtain ⟨z0, z1, z2, z3⟩ := I.out.res.two
      clear I
      go_wp2
      exact bodyPost_ret (v := .agg #[.slice A1 N.length c1, .slice B2 S.length d2]) (by simp [results, Try.results47, go_sem, z0, z1]) rfl hfin.out
end Go.Proofs.Ytkjjieofoolnhaa
