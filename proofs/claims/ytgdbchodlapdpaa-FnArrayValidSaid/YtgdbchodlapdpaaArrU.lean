/- Contracts of ArrayWrite, the program's and the reference's. -/
import Derived.Test.YtgdbchodlapdpaaArrB
namespace Go.Proofs.Ytgdbchodlapdpaa
open Go.RowKit
set_option linter.unusedVariables false

def wrt1 (L : List (List Int)) (k r : Nat) (x : Int) : List (List Int) := L.set k ((L.getD k []).set r x)
theorem wrt1_length (L : List (List Int)) (k r : Nat) (x : Int) : (wrt1 L k r x).length = L.length := by simp [wrt1]
theorem wrt1_row {L : List (List Int)} {k r : Nat} {x : Int} {i : Nat} (hi : i < L.length) : ((wrt1 L k r x)[i]'(by rw [wrt1_length]; exact hi)).length = L[i].length := by
  simp only [wrt1, List.getElem_set]
  split
  · subst i
    rw [List.length_set, getD_row hi]
  · rfl
def parP (D r : Nat) : Nat := D - 1 - r % D
def wrtL (L : List (List Int)) (n v : Int) : List (List Int) :=
  wrt1 (wrt1 L (plK L.length n).toNat (plR L.length n).toNat v) (parP L.length (plR L.length n).toNat) (plR L.length n).toNat (xorV (wrt1 L (plK L.length n).toNat (plR L.length n).toNat v) (plR L.length n).toNat (parP L.length (plR L.length n).toNat))
def wrtV (L : List (List Int)) (n v : Int) : List (List Int) := if (placeB L n && inB v 0 255) = true then wrtL L n v else []
theorem parP_lt {D r : Nat} (h : 2 ≤ D) : parP D r < D := by unfold parP; omega
theorem parP_int {D r : Nat} (h : 2 ≤ D) : (D : Int) - 1 - (r : Int) % (D : Int) = parP D r := by
  have h1 : r % D < D := Nat.mod_lt _ (by omega)
  have h2 : ((r % D : Nat) : Int) = (r : Int) % (D : Int) := Int.natCast_emod r D
  unfold parP
  rw [← h2]
  omega
theorem sumN_le' {m : Nat} : ∀ {L : List (List Int)}, (∀ r ∈ L, r.length ≤ m) → sumN L ≤ m * L.length
  | [], _ => by simp [sumN]
  | r :: t, h => by
    have h1 := h r (by simp)
    have h2 := sumN_le' (L := t) (fun x hx => h x (by simp [hx]))
    simp only [sumN, List.length_cons, Nat.mul_succ]
    omega
theorem wrt1_sum {L : List (List Int)} {k r : Nat} {x : Int} (h : ∀ i (hi : i < L.length), L[i].length ≤ 16) (hl : L.length ≤ 6) : (wrt1 L k r x).length + sumN (wrt1 L k r x) ≤ 1000 := by
  have h1 : sumN (wrt1 L k r x) ≤ 16 * (wrt1 L k r x).length := sumN_le' (fun y hy => by
    obtain ⟨i, hi, rfl⟩ := List.mem_iff_getElem.1 hy
    rw [wrt1_length] at hi
    rw [wrt1_row hi]
    exact h i hi)
  rw [wrt1_length] at h1 ⊢
  omega
theorem wrtV_small (L : List (List Int)) (n v : Int) : (wrtV L n v).length + sumN (wrtV L n v) ≤ 3145728 := by
  unfold wrtV
  split
  · rename_i h
    simp only [Bool.and_eq_true] at h
    have h' := h.1
    simp only [placeB, Bool.and_eq_true] at h'
    obtain ⟨a, b, c, d⟩ := arr_parts h'.1
    have := wrt1_sum (L := wrt1 L (plK L.length n).toNat (plR L.length n).toNat v) (k := parP L.length (plR L.length n).toNat) (r := (plR L.length n).toNat) (x := xorV (wrt1 L (plK L.length n).toNat (plR L.length n).toNat v) (plR L.length n).toNat (parP L.length (plR L.length n).toNat)) (fun i hi => by
      rw [wrt1_length] at hi
      rw [wrt1_row hi, (d i hi).1]; exact c) (by rw [wrt1_length]; exact b)
    unfold wrtL
    omega
  · simp [sumN]
/-- What a store to a row's cell wants, and what it leaves. -/
theorem rows_store {lo hi g0 c : Nat} {w : World} {L : List (List Int)} (h : RowsI lo hi w (.slice (some ⟨g0, 0, none⟩) L.length c) L) (k : Nat) (hk : k < L.length) (r : Nat) (hr : r < L[k].length) :
    ∃ g4 c4 u, w.cell? ⟨g0, k, none⟩ = some (.slice (some ⟨g4, 0, none⟩) L[k].length c4) ∧ g4 ≠ g0 ∧ lo ≤ g4 ∧ w.cell? ⟨g4, r, none⟩ = some u ∧ w.frozen? ⟨g4, r, none⟩ = false ∧
      ∀ x, RowsI lo hi (w.setCell ⟨g4, r, none⟩ (.int .i64 x)) (.slice (some ⟨g0, 0, none⟩) L.length c) (wrt1 L k r x) := by
  obtain ⟨g0', A4, c4, e0, l0, l1, l2, x4, f4, r4, hblk⟩ := h.row k hk
  obtain rfl : g0 = g0' := by injection e0 with e0; injection e0
  rcases own_cases r4 with ⟨_, h0⟩ | ⟨g4, cap, hv4, hb4, hg4⟩
  · omega
  · injection hv4 with hA4 _ hcap
    subst hA4 hcap
    have hcell := r4.cellAt r (by omega)
    rw [List.getElem?_eq_getElem (by rw [List.length_map]; omega)] at hcell
    refine ⟨g4, c4, _, x4, (hblk g4 rfl).2, hb4, hcell, r4.frozenAt r, fun x => ?_⟩
    have := RowsO.setCell (C := CI) h k hk g4 c4 r (.int .i64 x) (L[k].set r x) x4 (by simp) (by show (L[k].set r x).map _ = _; rw [List.map_set])
    unfold wrt1
    rw [getD_row hk]
    exact this

theorem rows_nilW {L : List (List Int)} {n v : Int} {w w' : World} (h : (placeB L n && inB v 0 255) = false) (hb : Below w.heap.size w w') : OwnRows (wrtV L n v) w (.returned (.slice none 0 0)) w' := by
  have e : wrtV L n v = [] := by simp [wrtV, h]
  rw [e]
  exact ⟨none, 0, rfl, RowsO.nil _ _ _, hb⟩

set_option maxHeartbeats 4000000 in
theorem implWrt_any (A : Option Addr) (c : Nat) (L : List (List Int)) (n v : Int) (w : World) (h : RowsR CI w A L) (hl : L.length + sumN L ≤ 1048576) (hn : -9223372036854775808 ≤ n ∧ n ≤ 9223372036854775807) :
    Calls Try.prog 32 #[.slice A L.length c, .int .i64 n, .int .i64 v] w (OwnRows (wrtV L n v) w) := by
  have HR := Lib.hid h
  go_enter Try.func32, Try.ntmps32
  go_wp2_with fail
  refine (place_any A c L n w h (by omega) hn).mono ?_
  rintro e w1 ⟨rfl, b1⟩
  cases hv : placeB L n
  · have hno := Lib.hid (rows_nilW (v := v) (by rw [hv]; rfl) b1)
    clear hv b1
    go_wp2
    go_ret
    exact hno.out
  obtain ⟨k, r, hk, hr, hkl, hrl, n2, n6, hm, hrow, _, _⟩ := place_in hv
  cases hin : inB v 0 255
  · have hno := Lib.hid (rows_nilW (L := L) (n := n) (v := v) (by rw [hin, Bool.and_false]) b1)
    clear hv b1 hk hr
    go_wp2_with (go_at_call 40; refine (within_is hin _).mono ?_; rintro e w' ⟨rfl, rfl⟩)
    go_ret
    exact hno.out
  have hp := parP_lt (D := L.length) (r := r) n2
  have hpi := Lib.hid (parP_int (D := L.length) (r := r) n2)
  obtain ⟨L1, hL1⟩ : ∃ L1, L1 = wrt1 L k r v := ⟨_, rfl⟩
  have hl1 : L1.length = L.length := by rw [hL1, wrt1_length]
  have hr1 := Lib.hid (fun i (hi : i < L.length) => show (L1[i]'(by omega)).length = headN L by subst hL1; rw [wrt1_row hi, hrow i hi])
  have hs1 : L1.length + sumN L1 ≤ 1000 := by rw [hL1]; exact wrt1_sum (fun i hi => by rw [hrow i hi]; exact hm) n6
  have hyes := Lib.hid (fun A c w' lo hi (ho : RowsI lo hi w' (.slice A L.length c) (wrt1 L1 (parP L.length r) r (xorV L1 r (parP L.length r)))) (h1 : w.heap.size ≤ lo) (h2 : hi ≤ w'.heap.size) (hb : Below w.heap.size w w') => show OwnRows (wrtV L n v) w (.returned (.slice A L.length c)) w' from by
    have e : wrtV L n v = wrt1 L1 (parP L.length r) r (xorV L1 r (parP L.length r)) := by
      unfold wrtV
      rw [hv, hin]
      simp only [Bool.and_self, if_true, wrtL, hk, hr, Int.toNat_natCast]
      rw [hL1]
    rw [e]
    have hlen : (wrt1 L1 (parP L.length r) r (xorV L1 r (parP L.length r))).length = L.length := by rw [wrt1_length, hl1]
    exact ⟨A, c, by rw [hlen], by rw [hlen]; exact ho.mono h1 h2, hb⟩)
  rw [hk, hr]
  have B1 := Lib.hid b1
  have HIN := Lib.hid hin
  have HL1 := Lib.hid hL1
  have hrk := Lib.hid (hrow k hkl)
  clear hv hrow b1 h hin hk hr hL1
  go_wp2_with (go_at_call 40; refine (within_is HIN.out _).mono ?_; rintro e w' ⟨rfl, rfl⟩)
  refine (cloneRows_any A c L w1 (HR.out.below B1.out) hl).mono ?_
  rintro e w2 ⟨A2, c2, rfl, o2, b2⟩
  obtain ⟨g0, _, _, rfl, -⟩ := o2.row k hkl
  obtain ⟨g4, c4, u4, x4, ne4, lo4, y4, f4, hst4⟩ := rows_store o2 k hkl r (by rw [hrk.out]; exact hrl)
  have O3 := Lib.hid (hst4 v)
  rw [← HL1.out] at O3
  have B3 := Lib.hid ((B1.out.trans (b2.mono B1.out.size)).setCell (p := ⟨g4, r, none⟩) (by have := B1.out.size; show w.heap.size ≤ g4; omega) (.int .i64 v))
  have Z1 := Lib.hid B1.out.size
  rw [hrk.out] at x4
  clear o2 b2 B1 hst4
  obtain ⟨p, hpe⟩ : ∃ p, p = parP L.length r := ⟨_, rfl⟩
  rw [← hpe] at hp hpi hyes
  clear hpe
  go_wp2_with fail
  refine (implParity_in r L.length _ (by omega) (by omega)).mono ?_
  rintro e w' ⟨rfl, rfl⟩
  rw [hpi.out]
  obtain ⟨w3, hw3⟩ : ∃ w3, w3 = w2.setCell ⟨g4, r, none⟩ (.int .i64 v) := ⟨_, rfl⟩
  have hz3 := Lib.hid (show w2.heap.size ≤ w3.heap.size by rw [hw3]; simp)
  rw [← hw3] at O3 B3 ⊢
  clear hw3 x4 y4 f4 ne4 lo4
  have O3l := O3.out
  rw [← hl1] at O3l
  obtain ⟨g5, c5, u5, x5, ne5, lo5, y5, f5, hst5⟩ := rows_store O3l p (by omega) r (by rw [hr1.out p hp]; exact hrl)
  have hx := Lib.hid (implXor_any (some ⟨g0, 0, none⟩) c2 r p L1 w3.drew (O3l.drew.read) (by omega) (fun i hi => by rw [hr1.out i (by omega)]; exact hrl))
  rw [hl1] at hx
  obtain ⟨x, hxe⟩ : ∃ x, x = xorV L1 r p := ⟨_, rfl⟩
  rw [← hxe] at hx hyes
  have O5 := Lib.hid (hst5 x).drew
  rw [hl1] at O5
  have B5 := Lib.hid (b_drew (B3.out.setCell (p := ⟨g5, r, none⟩) (by have := Z1.out; show w.heap.size ≤ g5; omega) (.int .i64 x)))
  have hfin := Lib.hid (hyes.out _ _ _ _ _ O5.out Z1.out (by have := hz3.out; simpa using this) B5.out)
  rw [hr1.out p hp] at x5
  clear O3l hst5 O3 B3 hxe O5 B5 hyes
  obtain ⟨m, hme⟩ : ∃ m, m = headN L := ⟨_, rfl⟩
  rw [← hme] at x5 hrl hm
  clear hme
  go_wp2
  go_region_held3 (fun w' => w'.cell? ⟨g0, p, none⟩ = some (.slice (some ⟨g5, 0, none⟩) m c5)) (go_keep)
    (first | (go_at_call 46; refine hx.out.mono ?_; rintro e w' ⟨rfl, rfl⟩))
  all_goals
    go_wp2
    go_ret
    exact hfin.out

set_option maxHeartbeats 4000000 in
theorem specWrt_any (A : Option Addr) (c : Nat) (L : List (List Int)) (n v : Int) (w : World) (h : RowsR CI w A L) (hl : L.length + sumN L ≤ 1048576) (hn : -9223372036854775808 ≤ n ∧ n ≤ 9223372036854775807) :
    Calls Try.prog 31 #[.slice A L.length c, .int .i64 n, .int .i64 v] w (OwnRows (wrtV L n v) w) := by
  obtain ⟨i0, hi0, hz0, hz1, hz2⟩ := info_parts info_i1
  obtain ⟨i1, hi1, hy0, hy1, hy2⟩ := info_parts info_row
  have hlit := Lib.hid (fun w' (hf : (placeB L n && inB v 0 255) = false) (hb : Below w.heap.size w w') => show OwnRows (wrtV L n v) w (.returned (.slice (some ⟨w'.heap.size, 0, none⟩) 0 0)) (w'.alloc (.cells #[] 30)) from by
    have e : wrtV L n v = [] := by simp [wrtV, hf]
    rw [e]
    exact ⟨_, 0, rfl, rowsO_lit (World.ownsRow_lit (e := 30) (size := 1) (base := w.heap.size) w' #[] 0 hb.size (by simp [maxLen]) (by simp)) (by simp), b_alloc hb _⟩)
  have HR := Lib.hid h
  go_enter Try.func31, Try.ntmps31
  go_wp2_with fail
  refine (specArr_any A c L _ h (by omega)).mono ?_
  rintro e w1 ⟨rfl, b1⟩
  cases hv : arrB L
  · have hn2 := Lib.hid (hlit.out w1 (by simp [placeB, hv]) b1)
    clear hv b1
    go_wp2
    go_ret
    exact hn2.out
  cases hin : inB v 0 255
  · have hn2 := Lib.hid (hlit.out w1 (by rw [hin, Bool.and_false]) b1)
    clear hv b1
    go_wp2_with (go_at_call 37; refine (l1In_is hin _).mono ?_; rintro e w' ⟨rfl, rfl⟩)
    go_ret
    exact hn2.out
  obtain ⟨n2, n6, hm, hrow⟩ := arr_parts hv
  obtain ⟨p0, p1⟩ := prod_b (m := (headN L : Int)) (D := (L.length : Int)) (by omega) (by omega) (by omega) (by omega)
  have hx0 : ∃ b off A0 k0, A = some ⟨b, off, none⟩ ∧ w1.cell? ⟨b, off, none⟩ = some (.slice A0 (headN L) k0) := by
    obtain ⟨b, off, e, hc⟩ := h.below b1 (by omega)
    obtain ⟨A0, k0, x0, _, _, _⟩ := hc 0 (by omega)
    rw [← headN_get (L := L) (by omega)] at x0
    simp only [Nat.add_zero] at x0
    exact ⟨b, off, A0, k0, e, x0⟩
  obtain ⟨b, off, A0, k0, rfl, x0⟩ := hx0
  have hpl : placeB L n = inB n 0 ((headN L : Int) * ((L.length : Int) - 1) - 1) := by rw [placeB, hv, Bool.true_and]
  cases hpn : inB n 0 ((headN L : Int) * ((L.length : Int) - 1) - 1)
  · have hn2 := Lib.hid (hlit.out w1 (by rw [hpl, hpn]; rfl) b1)
    clear hv b1 hrow hpl
    go_wp2_with (go_at_call 37; refine (l1In_any _ _ _ _).mono ?_; rintro e w' ⟨rfl, rfl⟩)
    go_ret
    exact hn2.out
  rw [hpn] at hpl
  obtain ⟨m0, m1⟩ := inB_iff.1 hpn
  have hD := Lib.hid (fun w => data_any n (headN L) L.length w (by omega) (by omega) (by omega) m0 m1 (by omega))
  obtain ⟨k, r, hk, hr, hkl, hrl, -⟩ := place_in hpl
  have hr' := Lib.hid (show n / ((L.length : Int) - 1) = r from hr)
  rw [hk] at hD
  have a1 := (pl_facts (m := (headN L : Int)) (D := (L.length : Int)) (by omega) (by omega) (by omega) m0 m1).1
  have a2 := (pl_facts (m := (headN L : Int)) (D := (L.length : Int)) (by omega) (by omega) (by omega) m0 m1).2.1
  have hp := parP_lt (D := L.length) (r := r) n2
  have hpi := Lib.hid (parP_int (D := L.length) (r := r) n2)
  obtain ⟨L1, hL1⟩ : ∃ L1, L1 = wrt1 L k r v := ⟨_, rfl⟩
  have hl1 : L1.length = L.length := by rw [hL1, wrt1_length]
  have hr1 := Lib.hid (fun i (hi : i < L.length) => show (L1[i]'(by omega)).length = headN L by subst hL1; rw [wrt1_row hi, (hrow i hi).1])
  have hs1 : L1.length + sumN L1 ≤ 1000 := by rw [hL1]; exact wrt1_sum (fun i hi => by rw [(hrow i hi).1]; exact hm) n6
  have hyes := Lib.hid (fun A c w' lo hi (ho : RowsI lo hi w' (.slice A L.length c) (wrt1 L1 (parP L.length r) r (xorV L1 r (parP L.length r)))) (h1 : w.heap.size ≤ lo) (h2 : hi ≤ w'.heap.size) (hb : Below w.heap.size w w') => show OwnRows (wrtV L n v) w (.returned (.slice A L.length c)) w' from by
    have e : wrtV L n v = wrt1 L1 (parP L.length r) r (xorV L1 r (parP L.length r)) := by
      unfold wrtV
      rw [hpl, hin]
      simp only [Bool.and_self, if_true, wrtL, hk, hr, Int.toNat_natCast]
      rw [hL1]
    rw [e]
    have hlen : (wrt1 L1 (parP L.length r) r (xorV L1 r (parP L.length r))).length = L.length := by rw [wrt1_length, hl1]
    exact ⟨A, c, by rw [hlen], by rw [hlen]; exact ho.mono h1 h2, hb⟩)
  have B1 := Lib.hid b1
  have O1 := Lib.hid (show RowsI w.heap.size (w1.heap.size + 1) (w1.alloc (.cells #[] 30)) (.slice (some ⟨w1.heap.size, 0, none⟩) 0 0) [] from rowsO_lit (World.ownsRow_lit (e := 30) (size := 1) (base := w.heap.size) w1 #[] 0 B1.out.size (by simp [maxLen]) (by simp)) (by omega))
  have C1 := Lib.hid (b_alloc B1.out (.cells #[] 30))
  have HL1 := Lib.hid hL1
  have hrk := Lib.hid (hrow k hkl).1
  have hsm := Lib.hid (fun k (hk : k < L.length) => sumN_get hk)
  clear hv hrow b1 h hk hr hL1 hlit hpl m1
  go_wp2_with (go_at_call 37; refine (l1In_any _ _ _ _).mono ?_; rintro e w' ⟨rfl, rfl⟩)
  clear hin hpn x0
  go_loopw [7, 8] (fun x y wr => ∃ (k : Nat) (D : Option Addr) (cp : Nat) (R : List (List Int)), k ≤ L.length ∧ Hid (R.length = k) ∧ x = .slice D R.length cp ∧ y = .int .i64 k ∧ Hid (R = L.take k) ∧ Hid (RowsI w.heap.size wr.heap.size wr (.slice D R.length cp) R) ∧ Hid (Below w.heap.size w wr)) (fun _ y _ => L.length - (intOf y).toNat)
  case atStart => exact ⟨0, _, _, [], Nat.zero_le _, rfl, rfl, rfl, by show [] = _; simp, by simpa using O1, C1⟩
  case round =>
    obtain ⟨j, D, cp, R, hj, hRl, rfl, rfl, hRe, ho, hb⟩ := hrel
    by_cases hlt : j < L.length
    · have hstep := Lib.hid (show L.take (j + 1) = R ++ [L[j]] by rw [List.take_succ_eq_append_getElem hlt, hRe.out])
      obtain ⟨b', off', hA, hc⟩ := HR.out.below hb.out (by omega)
      obtain ⟨rfl, rfl⟩ : b = b' ∧ off = off' := by injection hA with hA; injection hA with h1 h2; exact ⟨h1, h2⟩
      obtain ⟨Ak, ck, x1, y1, _, _⟩ := hc j hlt
      have hs0 := hsm.out j hlt
      obtain ⟨r0, hr0⟩ : ∃ r0, r0 = L[j] := ⟨_, rfl⟩
      rw [← hr0] at x1 y1 hs0 hstep
      have hz0' : w.heap.size ≤ wr.heap.size := hb.out.size
      have x1' : (wr.alloc (.cells #[] 3)).cell? ⟨b, off + j, none⟩ = some (.slice Ak r0.length ck) := by rw [World.cell?_alloc_some _ _ _ (by rw [x1]; rfl), x1]
      have L7 := Lib.hid (World.ownsRow_lit (e := 3) (size := 1) (base := wr.heap.size) wr #[] 0 (Nat.le_refl _) (by simp [maxLen]) (by simp))
      have Y7 := Lib.hid (y1.alloc (.cells #[] 3))
      clear hc y1 hr0 hA
      have hRk : R.length ≤ 6 := by have := hRl.out; omega
      go_wp2_with (first
        | (at_builtin; refine wpList_append_r _ rfl (.tmp 42) (.tmp 46) 30 rfl wr.heap.size 3 i0 (.int .i64 0) 1 8 Try.underlying30 hi0 hz0 hz1 hz2 rfl (by decide) _ 0 [] L7.out rfl Ak r0.length ck (r0.map (Value.int .i64)) Y7.out rfl (by simp) (aints_one r0) (by simp only [maxLen]; omega) (by omega) (by simp) ?_; intro v5 w5 o5 g5 n5; rw [Nat.zero_add] at o5; obtain ⟨A5, c5, rfl⟩ := own_slice o5; have B57 : Below wr.heap.size wr w5 := (b_alloc (Below.refl wr.heap.size wr) (.cells #[] 3)).grown g5 (by simp) (fun g hg => by simp [Value.ownBlock] at hg; omega); have OW := Lib.hid (show w5.ownsRow wr.heap.size 3 1 (.slice A5 r0.length c5) r0.length (r0.map (Value.int .i64)) by simpa using o5); have OR := Lib.hid (ho.out.below B57); have OB := Lib.hid (hb.out.trans (B57.mono hz0')); clear o5 g5 n5 B57 L7 Y7 ho hb x1 x1'; obtain ⟨Dx, cx, hs, ev, o1, v1, hH, hap⟩ := OR.out; injection ev with ev1 _ ev3; subst ev1 ev3; have H1 := Lib.hid (o1.alloc (.cells #[.slice A5 r0.length c5] 30)); have HRD := Lib.hid (show ReadC (w5.alloc (.cells #[.slice A5 r0.length c5] 30)) (some ⟨w5.heap.size, 0, none⟩) [.slice A5 r0.length c5] from readc_nw rfl); have HV1 := Lib.hid v1; have HH := Lib.hid (hH.keep (w' := w5.alloc (.cells #[.slice A5 r0.length c5] 30)) (fun k _ _ hk => Below.heap_alloc w5 _ k hk)); have HAP := Lib.hid hap; have HOW := Lib.hid (OW.out.alloc (.cells #[.slice A5 r0.length c5] 30)); have HOB := Lib.hid (b_alloc OB.out (.cells #[.slice A5 r0.length c5] 30)); have hbase := OB.out.size; clear o1 v1 hH hap OR OW OB)
        | (at_builtin; refine wpList_append_r _ rfl (.tmp 41) (.tmp 48) 22 rfl w.heap.size 30 i1 (.slice none 0 0) 1 24 Try.underlying22 hi1 hy0 hy1 hy2 rfl (by decide) _ R.length hs H1.out rfl (some ⟨w5.heap.size, 0, none⟩) 1 1 [.slice A5 r0.length c5] HRD.out rfl rfl (by intro u hu; simp at hu; subst hu; rfl) (by simp only [maxLen]; omega) (by omega) (by simp; omega) ?_; intro v4 w4 o4 g4 n4; obtain ⟨A4, c4, rfl⟩ := own_slice o4))
      have C4 := Lib.hid (HOB.out.grown g4 (by simp; omega) (fun g hg => (H1.out.lt g hg).1))
      have N4 := Lib.hid (RowsO.app (C := CI) (r := r0) H1.out HV1.out HH.out HAP.out HOW.out (Nat.le_refl _) hz0' o4 g4 n4)
      clear o4 g4 n4 H1 HRD HV1 HH HAP HOW HOB
      go_roundw
      case rel => exact ⟨j + 1, A4, c4, R ++ [r0], by omega, by have := hRl.out; show (R ++ [r0]).length = j + 1; simp; omega, by simp, by go_num, by show R ++ [r0] = _; rw [hstep.out], N4, C4⟩
      case measure => simp [intOf]; omega
    · have hRf : R = L := by rw [hRe.out, List.take_of_length_le (by omega)]
      subst hRf
      have o2 := ho.out
      obtain ⟨g0, _, _, rfl, -⟩ := o2.row k hkl
      obtain ⟨g4, c4, u4, x4, ne4, lo4, y4, f4, hst4⟩ := rows_store o2 k hkl r (by rw [hrk.out]; exact hrl)
      have O3 := Lib.hid (hst4 v)
      rw [← HL1.out] at O3
      have B3 := Lib.hid (hb.out.setCell (p := ⟨g4, r, none⟩) (by show w.heap.size ≤ g4; omega) (.int .i64 v))
      rw [hrk.out] at x4
      clear o2 hst4 ho hb hRe hRl
      obtain ⟨p, hpe⟩ : ∃ p, p = parP R.length r := ⟨_, rfl⟩
      rw [← hpe] at hp hpi hyes
      clear hpe
      have HX4 := Lib.hid x4
      clear x4
      go_wp2_with fail
      rw [hr'.out]
      refine (specParity_in r R.length _ (by omega) (by omega)).mono ?_
      rintro e w' ⟨rfl, rfl⟩
      rw [hpi.out]
      have x4 := HX4.out
      obtain ⟨m, hme⟩ : ∃ m, m = headN R := ⟨_, rfl⟩
      rw [← hme] at x4 hrl hm hr1
      clear hme HX4
      go_wp2_with fail
      refine (hD.out _).mono ?_
      rintro e w' ⟨rfl, rfl⟩
      obtain ⟨w3, hw3⟩ : ∃ w3, w3 = wr.setCell ⟨g4, r, none⟩ (.int .i64 v) := ⟨_, rfl⟩
      have HW3 := Lib.hid hw3
      rw [← hw3] at O3 B3
      clear hw3
      have O3l := O3.out
      rw [← hl1] at O3l
      obtain ⟨g5, c5, u5, x5, ne5, lo5, y5, f5, hst5⟩ := rows_store O3l p (by omega) r (by rw [hr1.out p hp]; exact hrl)
      have hx := Lib.hid (specXor_any (some ⟨g0, 0, none⟩) cp r p L1 w3.drew (O3l.drew.read) (by omega) (fun i hi => by rw [hr1.out i (by omega)]; exact hrl))
      rw [hl1] at hx
      obtain ⟨x, hxe⟩ : ∃ x, x = xorV L1 r p := ⟨_, rfl⟩
      rw [← hxe] at hx hyes
      have O5 := Lib.hid (hst5 x).drew
      rw [hl1] at O5
      have B5 := Lib.hid (b_drew (B3.out.setCell (p := ⟨g5, r, none⟩) (by show w.heap.size ≤ g5; omega) (.int .i64 x)))
      have hfin := Lib.hid (hyes.out _ _ _ _ _ O5.out (Nat.le_refl _) (by rw [HW3.out]; simp) B5.out)
      rw [hr1.out p hp] at x5
      have HX5 := Lib.hid (And.intro x5 (And.intro y5 f5))
      clear O3l hst5 O3 B3 hxe O5 B5 hyes x5 y5 f5
      go_wp2
      rw [← HW3.out]
      obtain ⟨x5, y5, f5⟩ := HX5.out
      clear HW3 HX5 x4 y4 f4
      go_region_held3 (fun w' => w'.cell? ⟨g0, p, none⟩ = some (.slice (some ⟨g5, 0, none⟩) m c5)) (go_keep)
        (first | (go_at_call 45; refine hx.out.mono ?_; rintro e w' ⟨rfl, rfl⟩))
      all_goals
        go_wp2
        go_ret
        exact hfin.out
end Go.Proofs.Ytgdbchodlapdpaa
