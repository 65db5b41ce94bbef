/- Contracts of StripeShares, the program's and the reference's: both return sharesL. -/
import Derived.Test.YtfjnagaphfemfaaStr
import Derived.Test.YtfjnagaphfemfaaMem
namespace Go.Proofs.Ytfjnagaphfemfaa
open Go.RowKit

/-- How many of the first k sectors from a on are on each of D disks. -/
def shl (a : Int) (D : Nat) (c : Int) : Nat → List Int
  | 0 => List.replicate D 0
  | k + 1 => (shl a D c k).set (((a + k) / c % D).toNat) ((shl a D c k).getD (((a + k) / c % D).toNat) 0 + 1)
theorem shl_length (a : Int) (D : Nat) (c : Int) (k : Nat) : (shl a D c k).length = D := by
  induction k with
  | zero => simp [shl]
  | succ k ih => simp [shl, ih]
theorem shl_bd (a : Int) (D : Nat) (c : Int) (k : Nat) (j : Nat) : 0 ≤ (shl a D c k).getD j 0 ∧ (shl a D c k).getD j 0 ≤ k := by
  induction k generalizing j with
  | zero => simp only [shl, List.getD_eq_getElem?_getD, List.getElem?_replicate]; split <;> simp
  | succ k ih =>
    simp only [shl, List.getD_eq_getElem?_getD, List.getElem?_set] at ih ⊢
    split
    · split
      · simp only [Option.getD_some]
        have := ih (((a + k) / c % D).toNat)
        omega
      · simp; omega
    · have := ih j; omega

def sharesL (a n d c : Int) : List Int := if (inB a 0 100000 && shB d c && inB n 0 200) = true then shl a d.toNat c n.toNat else []

def SharesPost (a n d c : Int) (W : World) (e : Ending) (w' : World) : Prop :=
  ∃ A cap, e = .returned (.slice A (sharesL a n d c).length cap) ∧ OwnC W.heap.size w'.heap.size w' 3 A ((sharesL a n d c).map (Value.int .i64)) ∧ Below W.heap.size W w'

theorem shares_no {a n d c : Int} {W w' : World} (A : Option Addr) (cap : Nat) (h : (inB a 0 100000 && shB d c && inB n 0 200) = false) (hb : Below W.heap.size W w') : SharesPost a n d c W (.returned (.slice A 0 cap)) w' := by
  have e : sharesL a n d c = [] := by simp only [sharesL, h]; simp
  unfold SharesPost
  rw [e]
  exact ⟨A, cap, rfl, OwnC.nil _ _ _ _ _, hb⟩
theorem shares_yes {a n c : Int} {D : Nat} {W w' : World} {g cap : Nat} (h : (inB a 0 100000 && shB D c && inB n 0 200) = true) (hb : Below W.heap.size W w') (hg : W.heap.size ≤ g)
    (ho : OwnC g (g + 1) w' 3 (some ⟨g, 0, none⟩) ((shl a D c n.toNat).map (Value.int .i64))) (hlt : g < w'.heap.size) : SharesPost a n D c W (.returned (.slice (some ⟨g, 0, none⟩) D cap)) w' := by
  have e : sharesL a n D c = shl a D c n.toNat := by simp only [sharesL, h]; simp
  unfold SharesPost
  rw [e]
  exact ⟨_, cap, by rw [shl_length], ho.mono hg (by omega), hb⟩

theorem info_int : (Try.prog.info? 3).map (fun i => (i.zero, i.size, i.bytes)) = some (some (.int .i64 0), 1, 8) := by kernel_rfl

theorem made_own (w : World) (D : Nat) (T : TypeId) : OwnC w.heap.size (w.heap.size + 1) (w.alloc (.cells (madeCells #[.int .i64 0] D) T)) T (some ⟨w.heap.size, 0, none⟩) ((List.replicate D (0 : Int)).map (Value.int .i64)) := by
  intro _
  refine ⟨w.heap.size, _, rfl, Nat.le_refl _, by omega, heap_alloc_new w _, ?_⟩
  rw [toList_madeCells_one]
  simp

set_option maxHeartbeats 1000000 in
theorem implShares_any (a n d c : Int) (w : World) :
    Calls Try.prog 20 #[.int .i64 a, .int .i64 n, .int .i64 d, .int .i64 c] w (SharesPost a n d c w) := by
  cases h1 : inB a 0 100000
  · have hno := Lib.hid (shares_no (a := a) (n := n) (d := d) (c := c) (W := w) none 0 (by rw [h1]; rfl) (Below.refl _ _))
    go_enter Try.func20, Try.ntmps20
    go_wp2_with (go_at_call 31; refine (within_any _ _ _ _).mono ?_; rintro e w' ⟨rfl, rfl⟩)
    go_ret
    exact hno.out
  · cases h2 : shB d c
    · have hno := Lib.hid (shares_no (a := a) (n := n) (d := d) (c := c) (W := w) none 0 (by rw [h1, h2]; rfl) (Below.refl _ _))
      go_enter Try.func20, Try.ntmps20
      go_wp2_with (first
        | (go_at_call 31; refine (within_any _ _ _ _).mono ?_; rintro e w' ⟨rfl, rfl⟩)
        | (go_at_call 34; refine (areStripes_any _ _ _).mono ?_; rintro e w' ⟨rfl, rfl⟩))
      go_ret
      exact hno.out
    · cases h3 : inB n 0 200
      · have hno := Lib.hid (shares_no (a := a) (n := n) (d := d) (c := c) (W := w) none 0 (by rw [h1, h2, h3]; rfl) (Below.refl _ _))
        go_enter Try.func20, Try.ntmps20
        go_wp2_with (first
          | (go_at_call 31; refine (within_any _ _ _ _).mono ?_; rintro e w' ⟨rfl, rfl⟩)
          | (go_at_call 34; refine (areStripes_any _ _ _).mono ?_; rintro e w' ⟨rfl, rfl⟩))
        go_ret
        exact hno.out
      · obtain ⟨a0, a1⟩ := inB_iff.1 h1
        obtain ⟨⟨d0, d1⟩, c0, c1⟩ := shB_iff.1 h2
        obtain ⟨n0, n1⟩ := inB_iff.1 h3
        obtain ⟨D, rfl⟩ := Int.eq_ofNat_of_zero_le (show 0 ≤ d by omega)
        have hall := Lib.hid (show (inB a 0 100000 && shB D c && inB n 0 200) = true by rw [h1, h2, h3]; rfl)
        have hmk := run_make_row' (P := Try.prog) 29 3 (.int .i64 0) 8 Try.underlying29 info_int rfl .i64 .i64 D (by omega) (by omega)
        go_enter Try.func20, Try.ntmps20
        go_wp2_with (first
          | (go_at_call 31; refine (within_any _ _ _ _).mono ?_; rintro e w' ⟨rfl, rfl⟩)
          | (go_at_call 34; refine (areStripes_any _ _ _).mono ?_; rintro e w' ⟨rfl, rfl⟩))
        go_loopw [30] (fun x wr => ∃ k : Nat, (k : Int) ≤ n ∧ x = .int .i64 k ∧ OwnC w.heap.size (w.heap.size + 1) wr 3 (some ⟨w.heap.size, 0, none⟩) ((shl a D c k).map (Value.int .i64)) ∧ Below w.heap.size w wr ∧ w.heap.size < wr.heap.size) (fun x _ => (n - intOf x).toNat)
        case atStart => exact ⟨0, by omega, rfl, made_own _ _ _, (Below.refl _ _).alloc (Nat.le_refl _) _, by simp⟩
        case round =>
          obtain ⟨k, hk, rfl, ho, hb, hs⟩ := hrel
          by_cases hlt : (k : Int) < n
          · obtain ⟨f1, f2, f3, f4, f5, f6, f7, f8, f9, f10⟩ := sp_facts (a + k) D c (by omega) (by omega) (by omega)
            have hlen : ((shl a D c k).map (Value.int .i64)).length = D := by rw [List.length_map, shl_length]
            have hj : ((a + k) / c % (D : Int)).toNat < D := by omega
            obtain ⟨g, cur, hg, _, _, hh, hcur⟩ := id ho (by omega)
            obtain rfl : w.heap.size = g := by injection hg with hg; injection hg
            have hx : wr.cell? ⟨w.heap.size, ((a + k) / c % (D : Int)).toNat, none⟩ = some (.int .i64 ((shl a D c k).getD ((a + k) / c % (D : Int)).toNat 0)) := by
              rw [cell_of_row _ _ _ _ _ _ hh, take_getElem hcur _ (by omega), List.getElem_map, List.getD_eq_getElem?_getD, List.getElem?_eq_getElem]
              rfl
            have hf : wr.frozen? ⟨w.heap.size, ((a + k) / c % (D : Int)).toNat, none⟩ = false := frozen_of_row _ _ _ _ _ hh
            have hv := shl_bd a D c k ((a + k) / c % (D : Int)).toNat
            obtain ⟨v, hvd⟩ : ∃ v, v = (shl a D c k).getD ((a + k) / c % (D : Int)).toNat 0 := ⟨_, rfl⟩
            rw [← hvd] at hx hv
            have ho2 : ∀ q, OwnC w.heap.size (w.heap.size + 1) ((wr.setCell ⟨w.heap.size, ((a + k) / c % (D : Int)).toNat, none⟩ (.int .i64 (v + 1))).drewN q) 3 (some ⟨w.heap.size, 0, none⟩) ((shl a D c (k + 1)).map (Value.int .i64)) := by
              intro q
              have h3 := OwnC.set ho ((a + k) / c % (D : Int)).toNat (.int .i64 (v + 1))
              rw [← List.map_set] at h3
              rw [hvd] at h3 ⊢
              exact h3.drewN q
            have hb2 := fun q => belowN (hb.setCell (p := ⟨w.heap.size, ((a + k) / c % (D : Int)).toNat, none⟩) (Nat.le_refl _) (.int .i64 (v + 1))) q
            have hs2 : w.heap.size < (wr.setCell ⟨w.heap.size, ((a + k) / c % (D : Int)).toNat, none⟩ (.int .i64 (v + 1))).heap.size := by simpa [World.setCell] using hs
            have H := Lib.hid (And.intro ho2 (And.intro hb2 hs2))
            clear ho hb hh hcur hvd hlen hg ho2 hb2 hs2
            go_wp2_with (go_at_call 35; refine (stripePlace_in _ _ _ _ (by omega) (by omega) (by omega)).mono ?_; rintro e w' ⟨rfl, q, rfl⟩)
            go_roundw
            case rel => exact ⟨k + 1, by omega, by go_num, H.out.1 _, H.out.2.1 _, H.out.2.2⟩
            case measure => simp [intOf]; omega
          · obtain rfl : n = (k : Int) := by omega
            have hfin := Lib.hid (shares_yes (n := (k : Int)) (cap := D) hall.out hb (Nat.le_refl _) (by simpa using ho) hs)
            clear ho hb hall
            go_wp2
            go_ret
            exact hfin.out
set_option maxHeartbeats 1000000 in
theorem specShares_any (a n d c : Int) (w : World) :
    Calls Try.prog 19 #[.int .i64 a, .int .i64 n, .int .i64 d, .int .i64 c] w (SharesPost a n d c w) := by
  cases h1 : inB a 0 100000
  · have hno := Lib.hid (shares_no (a := a) (n := n) (d := d) (c := c) (W := w) (some ⟨w.heap.size, 0, none⟩) 0 (by rw [h1]; rfl) ((Below.refl _ _).alloc (Nat.le_refl _) (.cells #[] 3)))
    go_enter Try.func19, Try.ntmps19
    go_wp2_with (go_at_call 30; refine (l1In_any _ _ _ _).mono ?_; rintro e w' ⟨rfl, rfl⟩)
    go_ret
    exact hno.out
  · cases h2 : shB d c
    · have hno := Lib.hid (shares_no (a := a) (n := n) (d := d) (c := c) (W := w) (some ⟨w.heap.size, 0, none⟩) 0 (by rw [h1, h2]; rfl) ((Below.refl _ _).alloc (Nat.le_refl _) (.cells #[] 3)))
      go_enter Try.func19, Try.ntmps19
      go_wp2_with (first
        | (go_at_call 30; refine (l1In_any _ _ _ _).mono ?_; rintro e w' ⟨rfl, rfl⟩)
        | (go_at_call 33; refine (l15Ok_any _ _ _).mono ?_; rintro e w' ⟨rfl, rfl⟩))
      go_ret
      exact hno.out
    · cases h3 : inB n 0 200
      · have hno := Lib.hid (shares_no (a := a) (n := n) (d := d) (c := c) (W := w) (some ⟨w.heap.size, 0, none⟩) 0 (by rw [h1, h2, h3]; rfl) ((Below.refl _ _).alloc (Nat.le_refl _) (.cells #[] 3)))
        go_enter Try.func19, Try.ntmps19
        go_wp2_with (first
          | (go_at_call 30; refine (l1In_any _ _ _ _).mono ?_; rintro e w' ⟨rfl, rfl⟩)
          | (go_at_call 33; refine (l15Ok_any _ _ _).mono ?_; rintro e w' ⟨rfl, rfl⟩))
        go_ret
        exact hno.out
      · obtain ⟨a0, a1⟩ := inB_iff.1 h1
        obtain ⟨⟨d0, d1⟩, c0, c1⟩ := shB_iff.1 h2
        obtain ⟨n0, n1⟩ := inB_iff.1 h3
        obtain ⟨D, rfl⟩ := Int.eq_ofNat_of_zero_le (show 0 ≤ d by omega)
        have hall := Lib.hid (show (inB a 0 100000 && shB D c && inB n 0 200) = true by rw [h1, h2, h3]; rfl)
        have hmk := run_make_row' (P := Try.prog) 29 3 (.int .i64 0) 8 Try.underlying29 info_int rfl .i64 .i64 D (by omega) (by omega)
        go_enter Try.func19, Try.ntmps19
        go_wp2_with (first
          | (go_at_call 30; refine (l1In_any _ _ _ _).mono ?_; rintro e w' ⟨rfl, rfl⟩)
          | (go_at_call 33; refine (l15Ok_any _ _ _).mono ?_; rintro e w' ⟨rfl, rfl⟩))
        go_loopw [10] (fun x wr => ∃ k : Nat, (k : Int) ≤ n ∧ x = .int .i64 k ∧ OwnC w.heap.size (w.heap.size + 1) wr 3 (some ⟨w.heap.size, 0, none⟩) ((shl a D c k).map (Value.int .i64)) ∧ Below w.heap.size w wr ∧ w.heap.size < wr.heap.size) (fun x _ => (n - intOf x).toNat)
        case atStart => exact ⟨0, by omega, rfl, made_own _ _ _, (Below.refl _ _).alloc (Nat.le_refl _) _, by simp⟩
        case round =>
          obtain ⟨k, hk, rfl, ho, hb, hs⟩ := hrel
          by_cases hlt : (k : Int) < n
          · obtain ⟨f1, f2, f3, f4, f5, f6, f7, f8, f9, f10⟩ := sp_facts (a + k) D c (by omega) (by omega) (by omega)
            have hlen : ((shl a D c k).map (Value.int .i64)).length = D := by rw [List.length_map, shl_length]
            have hj : ((a + k) / c % (D : Int)).toNat < D := by omega
            obtain ⟨g, cur, hg, _, _, hh, hcur⟩ := id ho (by omega)
            obtain rfl : w.heap.size = g := by injection hg with hg; injection hg
            have hx : wr.cell? ⟨w.heap.size, ((a + k) / c % (D : Int)).toNat, none⟩ = some (.int .i64 ((shl a D c k).getD ((a + k) / c % (D : Int)).toNat 0)) := by
              rw [cell_of_row _ _ _ _ _ _ hh, take_getElem hcur _ (by omega), List.getElem_map, List.getD_eq_getElem?_getD, List.getElem?_eq_getElem]
              rfl
            have hf : wr.frozen? ⟨w.heap.size, ((a + k) / c % (D : Int)).toNat, none⟩ = false := frozen_of_row _ _ _ _ _ hh
            have hv := shl_bd a D c k ((a + k) / c % (D : Int)).toNat
            obtain ⟨v, hvd⟩ : ∃ v, v = (shl a D c k).getD ((a + k) / c % (D : Int)).toNat 0 := ⟨_, rfl⟩
            rw [← hvd] at hx hv
            have ho2 : ∀ q, OwnC w.heap.size (w.heap.size + 1) ((wr.setCell ⟨w.heap.size, ((a + k) / c % (D : Int)).toNat, none⟩ (.int .i64 (v + 1))).drewN q) 3 (some ⟨w.heap.size, 0, none⟩) ((shl a D c (k + 1)).map (Value.int .i64)) := by
              intro q
              have h3 := OwnC.set ho ((a + k) / c % (D : Int)).toNat (.int .i64 (v + 1))
              rw [← List.map_set] at h3
              rw [hvd] at h3 ⊢
              exact h3.drewN q
            have hb2 := fun q => belowN (hb.setCell (p := ⟨w.heap.size, ((a + k) / c % (D : Int)).toNat, none⟩) (Nat.le_refl _) (.int .i64 (v + 1))) q
            have hs2 : w.heap.size < (wr.setCell ⟨w.heap.size, ((a + k) / c % (D : Int)).toNat, none⟩ (.int .i64 (v + 1))).heap.size := by simpa [World.setCell] using hs
            have H := Lib.hid (And.intro ho2 (And.intro hb2 hs2))
            clear ho hb hh hcur hvd hlen hg ho2 hb2 hs2
            go_wp2
            go_roundw
            case rel => exact ⟨k + 1, by omega, by go_num, H.out.1 0, H.out.2.1 0, H.out.2.2⟩
            case measure => simp [intOf]; omega
          · obtain rfl : n = (k : Int) := by omega
            have hfin := Lib.hid (shares_yes (n := (k : Int)) (cap := D) hall.out hb (Nat.le_refl _) (by simpa using ho) hs)
            clear ho hb hall
            go_wp2
            go_ret
            exact hfin.out
end Go.Proofs.Ytfjnagaphfemfaa
