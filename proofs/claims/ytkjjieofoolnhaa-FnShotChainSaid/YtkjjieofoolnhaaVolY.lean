/- VolumeWrite, the reference's and the program's. -/
import Derived.Test.YtkjjieofoolnhaaVolG
import Derived.Test.YtkjjieofoolnhaaRegZ
namespace Go.Proofs.Ytkjjieofoolnhaa
open Go.RowKit
set_option linter.unusedVariables false

def vwrB (N : List Int) (S : List (List Sv)) (a x : Int) : Bool := volB N S && inB a 0 ((N.length : Int) - 1) && inB x 0 255
def vwrN (N : List Int) (S : List (List Sv)) (a x : Int) : List Int := if vwrB N S a x then N.set a.toNat x else []
/-- The last snapshot with the value that was there ahead, if it has none of this sector. -/
def savS (N : List Int) (S : List (List Sv)) (a : Int) : List (List Sv) :=
  if 0 < S.length ∧ findS (S.getD (S.length - 1) []) a < 0 then S.set (S.length - 1) (S.getD (S.length - 1) [] ++ [(a, N.getD a.toNat 0)]) else S
def vwrS (N : List Int) (S : List (List Sv)) (a x : Int) : List (List Sv) := if vwrB N S a x then savS N S a else []
theorem savS_len (N : List Int) (S : List (List Sv)) (a : Int) : (savS N S a).length = S.length ∧ sumN (savS N S a) ≤ sumN S + 1 := by
  unfold savS
  split
  · rename_i h
    have h0 : S.length - 1 < S.length := by omega
    have e : S.getD (S.length - 1) [] = S[S.length - 1] := by rw [List.getD_eq_getElem?_getD, List.getElem?_eq_getElem h0]; rfl
    rw [e]
    have := sumN_set (r := S[S.length - 1] ++ [(a, N.getD a.toNat 0)]) h0
    refine ⟨by simp, ?_⟩
    simp only [List.length_append, List.length_singleton] at this
    omega
  · omega
theorem vwr_len (N : List Int) (S : List (List Sv)) (a x : Int) : (vwrN N S a x).length ≤ N.length ∧ (vwrS N S a x).length + sumN (vwrS N S a x) ≤ S.length + sumN S + 1 := by
  unfold vwrN vwrS
  split
  · have := savS_len N S a
    simp only [List.length_set]
    omega
  · simp [sumN]
theorem vwr_no {N : List Int} {S : List (List Sv)} {a x : Int} {w w' : World} (hv : vwrB N S a x = false) (hb : Below w.heap.size w w') : ToVolPost (vwrN N S a x) (vwrS N S a x) w (.returned (.agg #[.slice none 0 0, .slice none 0 0])) w' :=
  ⟨.agg #[.slice none 0 0, .slice none 0 0], rfl, by simp only [vwrN, vwrS, hv]; exact VolO.none w' _ _ hb.size, hb⟩
theorem vwr_yes {N : List Int} {S Q : List (List Sv)} {k : Nat} {x : Int} {w w' : World} {v : Value} (hv : vwrB N S k x = true) (hs : savS N S k = Q) (ho : VolO w.heap.size w'.heap.size w' v (N.set k x) Q) (hb : Below w.heap.size w w') : ToVolPost (vwrN N S k x) (vwrS N S k x) w (.returned v) w' :=
  ⟨v, rfl, by simp only [vwrN, vwrS, hv, hs]; exact ho, hb⟩
/-- The value stored, and the volume stored as the result. -/
theorem vw_tail {w W : World} {lo hi g7 m k c d : Nat} {A B : Option Addr} {N : List Int} {S : List (List Sv)} {x : Int} (O : VolO lo hi W (.agg #[.slice A N.length c, .slice B m d]) N S) (hm : m = S.length)
    (q7 : Blk W g7 29 #[.slice A N.length c, .slice B m d]) (q6 : Blk W (w.heap.size + 1) 29 #[.slice none 0 0, .slice none 0 0]) (hb : Below w.heap.size w W) (hlo : w.heap.size ≤ lo) (hhi : hi ≤ W.heap.size) (hk : k < N.length) :
    ∃ g, A = some ⟨g, 0, none⟩ ∧ W.cell? ⟨g, k, none⟩ = some (.int .i64 N[k]) ∧ W.frozen? ⟨g, k, none⟩ = false ∧ Blk (W.setCell ⟨g, k, none⟩ (.int .i64 x)) g7 29 #[.slice A N.length c, .slice B m d] ∧
      Blk (W.setCell ⟨g, k, none⟩ (.int .i64 x)) (w.heap.size + 1) 29 #[.slice none 0 0, .slice none 0 0] ∧
      VolO w.heap.size (((W.setCell ⟨g, k, none⟩ (.int .i64 x)).setCell ⟨w.heap.size + 1, 0, none⟩ (.slice A N.length c)).setCell ⟨w.heap.size + 1, 1, none⟩ (.slice B m d)).heap.size
        (((W.setCell ⟨g, k, none⟩ (.int .i64 x)).setCell ⟨w.heap.size + 1, 0, none⟩ (.slice A N.length c)).setCell ⟨w.heap.size + 1, 1, none⟩ (.slice B m d)) (.agg #[.slice A N.length c, .slice B m d]) (N.set k x) S ∧
      Below w.heap.size w (((W.setCell ⟨g, k, none⟩ (.int .i64 x)).setCell ⟨w.heap.size + 1, 0, none⟩ (.slice A N.length c)).setCell ⟨w.heap.size + 1, 1, none⟩ (.slice B m d)) := by
  subst hm
  obtain ⟨g, rfl, l1, l2, hc, hf, O2⟩ := vol_setN O k hk x
  have hap : ∀ {gg : Nat} {cs : Array Value}, Blk W gg 29 cs → gg ≠ g := by
    intro gg cs hbk e
    obtain ⟨A0, c0, B0, d0, mid, e0, h1, _⟩ := O
    injection e0 with e0
    simp only [Array.mk.injEq, List.cons.injEq, and_true, Value.slice.injEq] at e0
    obtain ⟨⟨rfl, _, rfl⟩, _⟩ := e0
    exact own_apartT h1 hbk (by decide) g rfl e.symm
  have r7 := q7.far (p := ⟨g, k, none⟩) (hap q7) (.int .i64 x)
  have r6 := q6.far (p := ⟨g, k, none⟩) (hap q6) (.int .i64 x)
  refine ⟨g, rfl, hc, hf, r7, r6, ?_, ?_⟩
  · exact ((O2.farT r6 0 _).farT (r6.set 0 _) 1 _).mono hlo (by simpa using hhi)
  · exact ((hb.setCell (p := ⟨g, k, none⟩) (by show w.heap.size ≤ g; omega) _).setCell (by simp) _).setCell (by simp) _

set_option linter.unusedSimpArgs false in
set_option maxHeartbeats 8000000 in
theorem specVWrite_any (v : Value) (N : List Int) (S : List (List Sv)) (a x : Int) (w : World) (h : VolR w v N S) (hN : N.length ≤ 1048576) (hS : S.length + sumN S ≤ 1048576) (ha : -9223372036854775808 ≤ a ∧ a ≤ 9223372036854775807) (hx : -9223372036854775808 ≤ x ∧ x ≤ 9223372036854775807) :
    Calls Try.prog 21 #[v, .int .i64 a, .int .i64 x] w (ToVolPost (vwrN N S a x) (vwrS N S a x) w) := by
  have HR := Lib.hid h
  obtain ⟨A, c, B, d, rfl, hA, hB, hc1, hc2, hd1, hd2⟩ := h
  obtain ⟨i2, hi2, hx0, hx1, hx2⟩ := info_parts info_sav
  have HR0 := Lib.hid ((HR.out.alloc (.cells #[.slice A N.length c, .slice B S.length d] 29)).alloc (.cells #[.slice none 0 0, .slice none 0 0] 29))
  have K0 := Lib.hid (show Blk ((w.alloc (.cells #[.slice A N.length c, .slice B S.length d] 29)).alloc (.cells #[.slice none 0 0, .slice none 0 0] 29)) w.heap.size 29 #[.slice A N.length c, .slice B S.length d] from (Blk.new rfl).alloc _)
  have K1 := Lib.hid (show Blk ((w.alloc (.cells #[.slice A N.length c, .slice B S.length d] 29)).alloc (.cells #[.slice none 0 0, .slice none 0 0] 29)) (w.heap.size + 1) 29 #[.slice none 0 0, .slice none 0 0] from Blk.new (by simp))
  have C0 := Lib.hid (show Below w.heap.size w ((w.alloc (.cells #[.slice A N.length c, .slice B S.length d] 29)).alloc (.cells #[.slice none 0 0, .slice none 0 0] 29)) from b_alloc (b_alloc (Below.refl _ _) _) _)
  have Z0 : ((w.alloc (.cells #[.slice A N.length c, .slice B S.length d] 29)).alloc (.cells #[.slice none 0 0, .slice none 0 0] 29)).heap.size = w.heap.size + 2 := by simp
  have d2 : IntKind.i64.wrap ((N.length : Int) - 1) = (N.length : Int) - 1 := IntWalk.i64_in _ (by omega)
  clear hA hB
  have hdd : S.length ≤ 1048576 := by omega
  cases hv : volB N S
  · have hno := Lib.hid (fun (w' : World) hb => vwr_no (a := a) (x := x) (w := w) (w' := w') (show vwrB N S a x = false by simp [vwrB, hv]) hb)
    go_enter Try.func21, Try.ntmps21
    go_wp2_with fail
    refine (specVol_any _ N S _ HR0.out (by omega) (by omega)).mono ?_
    rintro e w1 ⟨rfl, b1⟩
    rw [hv]
    obtain ⟨z0, z1, z2, z3⟩ := (blk_below b1 K1.out K1.out.lt).two
    obtain ⟨x0, x1, _, _⟩ := (blk_below b1 K0.out K0.out.lt).two
    have C1 := Lib.hid (C0.out.trans (b1.mono (by omega)))
    clear hv b1
    go_wp2
    have hfin := hno.out _ ((C1.out.setCell (p := ⟨w.heap.size + 1, 0, none⟩) (by show w.heap.size ≤ w.heap.size + 1; omega) (.slice none 0 0)).setCell (p := ⟨w.heap.size + 1, 1, none⟩) (by show w.heap.size ≤ w.heap.size + 1; omega) (.slice none 0 0))
    exact bodyPost_ret (v := .agg #[.slice none 0 0, .slice none 0 0]) (by simp [results, Try.results21, go_sem, z0, z1]) rfl hfin
  cases ga : inB a 0 ((N.length : Int) - 1)
  · have hno := Lib.hid (fun (w' : World) hb => vwr_no (a := a) (x := x) (w := w) (w' := w') (show vwrB N S a x = false by simp [vwrB, hv, ga]) hb)
    go_enter Try.func21, Try.ntmps21
    go_wp2_with fail
    refine (specVol_any _ N S _ HR0.out (by omega) (by omega)).mono ?_
    rintro e w1 ⟨rfl, b1⟩
    rw [hv]
    obtain ⟨z0, z1, z2, z3⟩ := (blk_below b1 K1.out K1.out.lt).two
    obtain ⟨x0, x1, _, _⟩ := (blk_below b1 K0.out K0.out.lt).two
    have C1 := Lib.hid (C0.out.trans (b1.mono (by omega)))
    clear hv b1
    go_wp2_with fail
    (try rw [d2])
    refine (l1In_is ga _).mono ?_
    rintro e w' ⟨rfl, rfl⟩
    go_wp2
    have hfin := hno.out _ ((C1.out.setCell (p := ⟨w.heap.size + 1, 0, none⟩) (by show w.heap.size ≤ w.heap.size + 1; omega) (.slice none 0 0)).setCell (p := ⟨w.heap.size + 1, 1, none⟩) (by show w.heap.size ≤ w.heap.size + 1; omega) (.slice none 0 0))
    exact bodyPost_ret (v := .agg #[.slice none 0 0, .slice none 0 0]) (by simp [results, Try.results21, go_sem, z0, z1]) rfl hfin
  cases gx : inB x 0 255
  · have hno := Lib.hid (fun (w' : World) hb => vwr_no (a := a) (x := x) (w := w) (w' := w') (show vwrB N S a x = false by simp [vwrB, hv, ga, gx]) hb)
    go_enter Try.func21, Try.ntmps21
    go_wp2_with fail
    refine (specVol_any _ N S _ HR0.out (by omega) (by omega)).mono ?_
    rintro e w1 ⟨rfl, b1⟩
    rw [hv]
    obtain ⟨z0, z1, z2, z3⟩ := (blk_below b1 K1.out K1.out.lt).two
    obtain ⟨x0, x1, _, _⟩ := (blk_below b1 K0.out K0.out.lt).two
    have C1 := Lib.hid (C0.out.trans (b1.mono (by omega)))
    clear hv b1
    go_wp2_with fail
    (try rw [d2])
    refine (l1In_is ga _).mono ?_
    rintro e w' ⟨rfl, rfl⟩
    go_wp2_with fail
    (try rw [d2])
    refine (l1In_is gx _).mono ?_
    rintro e w' ⟨rfl, rfl⟩
    go_wp2
    have hfin := hno.out _ ((C1.out.setCell (p := ⟨w.heap.size + 1, 0, none⟩) (by show w.heap.size ≤ w.heap.size + 1; omega) (.slice none 0 0)).setCell (p := ⟨w.heap.size + 1, 1, none⟩) (by show w.heap.size ≤ w.heap.size + 1; omega) (.slice none 0 0))
    exact bodyPost_ret (v := .agg #[.slice none 0 0, .slice none 0 0]) (by simp [results, Try.results21, go_sem, z0, z1]) rfl hfin
  have hB1 : vwrB N S a x = true := by simp [vwrB, hv, ga, gx]
  obtain ⟨k, rfl⟩ : ∃ k : Nat, a = k := ⟨a.toNat, by simp [inB] at ga; omega⟩
  have hk : k < N.length := by simp [inB] at ga; omega
  have hyes := Lib.hid (fun (Q : List (List Sv)) (hq : savS N S k = Q) (v : Value) (w' : World) ho hb => vwr_yes (w := w) (w' := w') (v := v) hB1 hq ho hb)
  have hsp := Lib.hid (fun v w' h => specVCopy_any v N S w' h hN hS)
  clear hB1
  go_enter Try.func21, Try.ntmps21
  go_wp2_with fail
  refine (specVol_any _ N S _ HR0.out (by omega) (by omega)).mono ?_
  rintro e w1 ⟨rfl, b1⟩
  rw [hv]
  obtain ⟨z0, z1, z2, z3⟩ := (blk_below b1 K1.out K1.out.lt).two
  obtain ⟨x0, x1, _, _⟩ := (blk_below b1 K0.out K0.out.lt).two
  have C1 := Lib.hid (C0.out.trans (b1.mono (by omega)))
  have k0 := Lib.hid (blk_below b1 K0.out K0.out.lt)
  have k1 := Lib.hid (blk_below b1 K1.out K1.out.lt)
  have R1 := Lib.hid (HR0.out.below b1)
  have Z1 : w.heap.size + 2 ≤ w1.heap.size := by have := b1.size; omega
  clear hv b1 HR0 K0 K1 C0 z0 z1 z2 z3
  go_wp2_with fail
  (try rw [d2])
  refine (l1In_is ga _).mono ?_
  rintro e w' ⟨rfl, rfl⟩
  go_wp2_with fail
  refine (l1In_is gx _).mono ?_
  rintro e w' ⟨rfl, rfl⟩
  go_wp2_with fail
  refine (hsp.out _ _ R1.out).mono ?_
  rintro e w2 ⟨v2, rfl, o2, b2⟩
  have O2 := Lib.hid o2
  obtain ⟨A2, c2, B2, d2', mid2, rfl, _⟩ := o2
  have k1' := Lib.hid ((blk_below b2 k1.out k1.out.lt).alloc (.cells #[.slice A2 N.length c2, .slice B2 S.length d2'] 29))
  have k4 := Lib.hid (show Blk (w2.alloc (.cells #[.slice A2 N.length c2, .slice B2 S.length d2'] 29)) w2.heap.size 29 #[.slice A2 N.length c2, .slice B2 S.length d2'] from Blk.new rfl)
  have O3 := Lib.hid (O2.out.alloc (.cells #[.slice A2 N.length c2, .slice B2 S.length d2'] 29))
  have C2 := Lib.hid (b_alloc (C1.out.trans (b2.mono (by omega))) (.cells #[.slice A2 N.length c2, .slice B2 S.length d2'] 29))
  have Z2 : w1.heap.size ≤ w2.heap.size := b2.size
  have Z3 : w2.heap.size + 1 ≤ (w2.alloc (.cells #[.slice A2 N.length c2, .slice B2 S.length d2'] 29)).heap.size := by simp
  clear b2 k0 k1 C1 R1 O2 hsp
  obtain ⟨y0, y1, y2, y3⟩ := k4.out.two
  obtain ⟨gN, rfl, _, _, cN, _, _⟩ := vol_setN O3.out k hk x
  have ix1 : (0 : Int) ≤ (k : Int) := by omega
  have ix2 : (k : Int) < (N.length : Int) := by omega
  rcases Nat.eq_zero_or_pos S.length with hS0 | hS0
  · have e5 : IntKind.i64.wrap ((S.length : Int) - 1) = -1 := by rw [IntWalk.i64_in _ (by omega)]; omega
    have hsv := Lib.hid (hyes.out S (by unfold savS; rw [if_neg (by omega)]))
    obtain ⟨g', e', _, fN, r7, r6, hv9, hb9⟩ := vw_tail (x := x) O3.out rfl k4.out k1'.out C2.out (by omega) (by omega) hk
    injection e' with e'
    injection e' with e' _
    subst e'
    obtain ⟨s0, s1, _, _⟩ := r7.two
    obtain ⟨t0, t1, t2, t3⟩ := r6.two
    have hfin := Lib.hid (hsv.out _ _ hv9 hb9)
    clear hv9 hb9 hsv hyes r7 r6 O3 C2 k1' k4 hS0
    go_wp2
    exact bodyPost_ret (v := .agg #[.slice (some ⟨gN, 0, none⟩) N.length c2, .slice B2 S.length d2']) (by simp [results, Try.results21, go_sem, t0, t1]) rfl hfin.out
  · obtain ⟨i, hiS⟩ : ∃ i : Nat, S.length = i + 1 := ⟨S.length - 1, by omega⟩
    have hi' : i < S.length := by omega
    have e5 : (S.length : Int) - 1 = i := by omega
    have hgd : S.getD (S.length - 1) [] = S[i] := by rw [show S.length - 1 = i by omega, List.getD_eq_getElem?_getD, List.getElem?_eq_getElem hi']; rfl
    obtain ⟨gB, mid, Ai, ci, rfl, lB1, lBh, lB2, lB3, lB4, hAm, cH, oH, hne, _, fH, hgr⟩ := vol_growRow O3.out i hi'
    have hsv := Lib.hid (fun (Q : List (List Sv)) (hq : savS N S k = Q) => hyes.out Q hq)
    obtain ⟨r, hr⟩ : ∃ r, r = S[i] := ⟨_, rfl⟩
    have hsm := sumN_get hi'
    have hset1 := Lib.hid (show ¬ findS r k < 0 → savS N S k = S from fun hn => by unfold savS; rw [if_neg (by rw [hgd, ← hr]; omega)])
    have hset2 := Lib.hid (show findS r k < 0 → savS N S k = S.set i (r ++ [((k : Int), N[k])]) from fun hn => by
      unfold savS
      rw [if_pos ⟨hS0, by rw [hgd, ← hr]; exact hn⟩, hgd, ← hr, show S.length - 1 = i by omega]
      simp only [Int.toNat_natCast]
      rw [List.getD_eq_getElem?_getD, List.getElem?_eq_getElem hk]
      rfl)
    rw [← hr] at cH oH hgr hne hsm
    have hOH := Lib.hid oH
    have hgm := hAm gN rfl
    have hGR := Lib.hid hgr
    have hfr := Lib.hid (fH i)
    have hgN7 : gN ≠ w2.heap.size := by
      intro e
      obtain ⟨A0, c0, B0, d0, midx, e0, h1, _⟩ := O3.out
      injection e0 with e0
      simp only [Array.mk.injEq, List.cons.injEq, and_true, Value.slice.injEq] at e0
      obtain ⟨⟨rfl, _, rfl⟩, _⟩ := e0
      exact own_apartT h1 k4.out (by decide) gN rfl e
    have e5w : IntKind.i64.wrap ((S.length : Int) - 1) = i := by rw [IntWalk.i64_in _ (by omega)]; exact e5
    have ix3 : (0 : Int) ≤ (i : Int) := by omega
    have ix4 : (i : Int) < (S.length : Int) := by omega
    have hrl : r.length ≤ 1048576 := by omega
    have HI := Lib.hid (And.intro hS0 hiS)
    have hi2' : i < 1048576 := by omega
    clear hr hgd hgr oH fH e5 hS0 hiS hyes hAm
    have HSI := Lib.hid (SavedIn.of (own_read hOH.out))
    have Z4 := C2.out.size
    go_wp2_with fail
    generalize hw3 : w2.alloc (.cells #[.slice (some ⟨gN, 0, none⟩) N.length c2, .slice (some ⟨gB, 0, none⟩) S.length d2'] 29) = w3 at *
    clear hw3
    refine (specFind_any Ai ci r k _ HSI.out (by omega)).mono ?_
    rintro e w' ⟨rfl, rfl⟩
    obtain ⟨q, hq⟩ : ∃ q, q = findS r k := ⟨_, rfl⟩
    rw [← hq]
    by_cases hf : findS r k < 0
    · have hq0 : q < 0 := by omega
      have hsv2 := Lib.hid (hsv.out _ (hset2.out (by omega)))
      obtain ⟨nk, hnk⟩ : ∃ nk, nk = N[k] := ⟨_, rfl⟩
      rw [← hnk] at cN hsv2
      have HG2 := Lib.hid (fun (w5 w6 : World) (A6 : Option Addr) (c6 : Nat) (hk : ∀ k, w1.heap.size ≤ k → k < w2.heap.size → k < w3.heap.size → w5.heap[k]? = w3.heap[k]?) (hz : w3.heap.size ≤ w5.heap.size) (o6 : w6.ownsRow mid 44 2 (.slice A6 (r.length + 1) c6) (r.length + 1) (savC r ++ [.int .i64 k, .int .i64 nk])) g6 n6 =>
        show VolO w1.heap.size w6.heap.size (w6.setCell ⟨gB, i, none⟩ (.slice A6 (r.length + 1) c6)) (.agg #[.slice (some ⟨gN, 0, none⟩) N.length c2, .slice (some ⟨gB, 0, none⟩) S.length d2']) N (S.set i (r ++ [((k : Int), nk)])) from by
          have e1 : (r ++ [((k : Int), nk)]).length = r.length + 1 := by simp
          have := hGR.out w5 w6 (r ++ [((k : Int), nk)]) A6 c6
          rw [e1, savC_append] at this
          exact this hk hz o6 g6 n6)
      clear hset1 hset2 hsv hf hq hGR hnk
      have y0a := cell_keep y0 (b_alloc (Below.refl w3.heap.size w3) (.cells #[.int .i64 k, .int .i64 nk] 44))
      have y1a := cell_keep y1 (b_alloc (Below.refl w3.heap.size w3) (.cells #[.int .i64 k, .int .i64 nk] 44))
      have cNa := cell_keep cN (b_alloc (Below.refl w3.heap.size w3) (.cells #[.int .i64 k, .int .i64 nk] 44))
      have cHa := cell_keep cH (b_alloc (Below.refl w3.heap.size w3) (.cells #[.int .i64 k, .int .i64 nk] 44))
      have hOa := Lib.hid (hOH.out.alloc (.cells #[.int .i64 k, .int .i64 nk] 44))
      have k4a := Lib.hid (k4.out.alloc (.cells #[.int .i64 k, .int .i64 nk] 44))
      have k1a := Lib.hid (k1'.out.alloc (.cells #[.int .i64 k, .int .i64 nk] 44))
      have nk4 := Lib.hid (fun e => own_apartT hOa.out k4a.out (by decide) _ e rfl)
      have nk1 := Lib.hid (fun e => own_apartT hOa.out k1a.out (by decide) _ e rfl)
      have hne' := Lib.hid (hne gB)
      have C5 := Lib.hid (b_alloc C2.out (.cells #[.int .i64 k, .int .i64 nk] 44))
      have Z5 := C5.out.size
      have hfra := Lib.hid (frozen_keep cH hfr.out (b_alloc (Below.refl w3.heap.size w3) (.cells #[.int .i64 k, .int .i64 nk] 44)))
      go_wp2
      refine wp_region_Z (fun w' : World => w'.cell? ⟨w2.heap.size, 0, none⟩ = some (.slice (some ⟨gN, 0, none⟩) N.length c2) ∧ w'.cell? ⟨w2.heap.size, 1, none⟩ = some (.slice (some ⟨gB, 0, none⟩) S.length d2') ∧ w'.cell? ⟨gB, i, none⟩ = some (.slice Ai r.length ci) ∧ w'.cell? ⟨gN, k, none⟩ = some (.int .i64 nk)) 18 (by kernel_rfl) ?_
      have hHeld : (fun w' : World => w'.cell? ⟨w2.heap.size, 0, none⟩ = some (.slice (some ⟨gN, 0, none⟩) N.length c2) ∧ w'.cell? ⟨w2.heap.size, 1, none⟩ = some (.slice (some ⟨gB, 0, none⟩) S.length d2') ∧ w'.cell? ⟨gB, i, none⟩ = some (.slice Ai r.length ci) ∧ w'.cell? ⟨gN, k, none⟩ = some (.int .i64 nk)) _ := ⟨y0, y1, cH, cN⟩
      refine wpAnyZ_take (i := 0) (oi := ?o1) (v := ?v1) ?hi1 (by kernel_rfl) (by kernel_rfl) (by kernel_rfl) (by kernel_rfl) ?hq1 ?hy1 hHeld ?rest1
      case hi1 => simp only [List.getElem?_toArray, List.getElem?_cons_succ, List.getElem?_cons_zero]; rfl
      case hq1 => exact fun _ _ _ h => h
      case hy1 => (refine Or.inl ⟨by rfl, ?_⟩; intro w hSw; (try dsimp only at hSw); go_simp; (try with_reducible rfl))
      simp only [Act.put, List.setIfInBounds_toArray, List.set_cons_zero, List.set_cons_succ]
      refine wpAnyZ_take (i := 1) (oi := ?o2) (v := ?v2) ?hi2 (by kernel_rfl) (by kernel_rfl) (by kernel_rfl) (by kernel_rfl) ?hq2 ?hy2 hHeld ?rest2
      case hi2 => simp only [List.getElem?_toArray, List.getElem?_cons_succ, List.getElem?_cons_zero]; rfl
      case hq2 => exact fun _ _ _ h => h
      case hy2 => (refine Or.inl ⟨by rfl, ?_⟩; intro w hSw; (try dsimp only at hSw); go_simp; (try with_reducible rfl))
      simp only [Act.put, List.setIfInBounds_toArray, List.set_cons_zero, List.set_cons_succ]
      refine wpAnyZ_take (i := 2) (oi := ?o3) (v := ?v3) ?hi3 (by kernel_rfl) (by kernel_rfl) (by kernel_rfl) (by kernel_rfl) ?hq3 ?hy3 hHeld ?rest3
      case hi3 => simp only [List.getElem?_toArray, List.getElem?_cons_succ, List.getElem?_cons_zero]; rfl
      case hq3 => exact fun _ _ _ h => h
      case hy3 => (refine Or.inl ⟨by rfl, ?_⟩; intro w hSw; (try dsimp only at hSw); go_simp; (try with_reducible rfl))
      simp only [Act.put, List.setIfInBounds_toArray, List.set_cons_zero, List.set_cons_succ]
      refine wpAnyZ_take (i := 3) (oi := ?o4) (v := ?v4) ?hi4 (by kernel_rfl) (by kernel_rfl) (by kernel_rfl) (by kernel_rfl) ?hq4 ?hy4 hHeld ?rest4
      case hi4 => simp only [List.getElem?_toArray, List.getElem?_cons_succ, List.getElem?_cons_zero]; rfl
      case hq4 => exact fun _ _ _ h => h
      case hy4 => (refine Or.inl ⟨by rfl, ?_⟩; intro w hSw; (try dsimp only at hSw); go_simp; (try with_reducible rfl))
      simp only [Act.put, List.setIfInBounds_toArray, List.set_cons_zero, List.set_cons_succ]
      refine wpAnyZ_take (i := 4) (oi := ?o5) (v := ?v5) ?hi5 (by kernel_rfl) (by kernel_rfl) (by kernel_rfl) (by kernel_rfl) ?hq5 ?hy5 hHeld ?rest5
      case hi5 => simp only [List.getElem?_toArray, List.getElem?_cons_succ, List.getElem?_cons_zero]; rfl
      case hq5 => exact fun _ _ _ h => h
      case hy5 => (refine Or.inl ⟨by rfl, ?_⟩; intro w hSw; (try dsimp only at hSw); go_simp; (try with_reducible rfl))
      simp only [Act.put, List.setIfInBounds_toArray, List.set_cons_zero, List.set_cons_succ]
      refine wpAnyZ_take (i := 5) (oi := ?o6) (v := ?v6) ?hi6 (by kernel_rfl) (by kernel_rfl) (by kernel_rfl) (by kernel_rfl) ?hq6 ?hy6 hHeld ?rest6
      case hi6 => simp only [List.getElem?_toArray, List.getElem?_cons_succ, List.getElem?_cons_zero]; rfl
      case hq6 => exact fun _ _ _ h => h
      case hy6 => (refine Or.inl ⟨by rfl, ?_⟩; intro w hSw; (try dsimp only at hSw); go_simp; (try with_reducible rfl))
      simp only [Act.put, List.setIfInBounds_toArray, List.set_cons_zero, List.set_cons_succ]
      refine wpAnyZ_take (i := 6) (oi := ?o7) (v := ?v7) ?hi7 (by kernel_rfl) (by kernel_rfl) (by kernel_rfl) (by kernel_rfl) ?hq7 ?hy7 hHeld ?rest7
      case hi7 => simp only [List.getElem?_toArray, List.getElem?_cons_succ, List.getElem?_cons_zero]; rfl
      case hq7 => exact fun _ _ _ h => h
      case hy7 => (refine Or.inl ⟨by rfl, ?_⟩; intro w hSw; (try dsimp only at hSw); go_simp; (try with_reducible rfl))
      simp only [Act.put, List.setIfInBounds_toArray, List.set_cons_zero, List.set_cons_succ]
      refine wpAnyZ_take (i := 7) (oi := ?o8) (v := ?v8) ?hi8 (by kernel_rfl) (by kernel_rfl) (by kernel_rfl) (by kernel_rfl) ?hq8 ?hy8 hHeld ?rest8
      case hi8 => simp only [List.getElem?_toArray, List.getElem?_cons_succ, List.getElem?_cons_zero]; rfl
      case hq8 => exact fun _ _ _ h => h
      case hy8 => (refine Or.inl ⟨by rfl, ?_⟩; intro w hSw; (try dsimp only at hSw); go_simp; (try with_reducible rfl))
      simp only [Act.put, List.setIfInBounds_toArray, List.set_cons_zero, List.set_cons_succ]
      refine wpAnyZ_take (i := 8) (oi := ?o9) (v := ?v9) ?hi9 (by kernel_rfl) (by kernel_rfl) (by kernel_rfl) (by kernel_rfl) ?hq9 ?hy9 hHeld ?rest9
      case hi9 => simp only [List.getElem?_toArray, List.getElem?_cons_succ, List.getElem?_cons_zero]; rfl
      case hq9 => exact fun _ _ _ h => h
      case hy9 => (refine Or.inl ⟨by rfl, ?_⟩; intro w hSw; (try dsimp only at hSw); go_simp; (try with_reducible rfl))
      simp only [Act.put, List.setIfInBounds_toArray, List.set_cons_zero, List.set_cons_succ]
      refine wpAnyZ_take (i := 9) (oi := ?o10) (v := ?v10) ?hi10 (by kernel_rfl) (by kernel_rfl) (by kernel_rfl) (by kernel_rfl) ?hq10 ?hy10 hHeld ?rest10
      case hi10 => simp only [List.getElem?_toArray, List.getElem?_cons_succ, List.getElem?_cons_zero]; rfl
      case hq10 => exact fun _ _ _ h => h
      case hy10 => (refine Or.inl ⟨by rfl, ?_⟩; intro w hSw; (try dsimp only at hSw); go_simp; (try with_reducible rfl))
      simp only [Act.put, List.setIfInBounds_toArray, List.set_cons_zero, List.set_cons_succ]
      refine wpAnyZ_take (i := 10) (oi := ?o11) (v := ?v11) ?hi11 (by kernel_rfl) (by kernel_rfl) (by kernel_rfl) (by kernel_rfl) ?hq11 ?hy11 hHeld ?rest11
      case hi11 => simp only [List.getElem?_toArray, List.getElem?_cons_succ, List.getElem?_cons_zero]; rfl
      case hq11 => exact fun _ _ _ h => h
      case hy11 => (refine Or.inl ⟨by rfl, ?_⟩; intro w hSw; (try dsimp only at hSw); go_simp; (try with_reducible rfl))
      simp only [Act.put, List.setIfInBounds_toArray, List.set_cons_zero, List.set_cons_succ]
      refine wpAnyZ_take (i := 11) (oi := ?o12) (v := ?v12) ?hi12 (by kernel_rfl) (by kernel_rfl) (by kernel_rfl) (by kernel_rfl) ?hq12 ?hy12 hHeld ?rest12
      case hi12 => simp only [List.getElem?_toArray, List.getElem?_cons_succ, List.getElem?_cons_zero]; rfl
      case hq12 => exact fun _ _ _ h => h
      case hy12 => (refine Or.inl ⟨by rfl, ?_⟩; intro w hSw; (try dsimp only at hSw); go_simp; (try with_reducible rfl))
      simp only [Act.put, List.setIfInBounds_toArray, List.set_cons_zero, List.set_cons_succ]
      refine wpAnyZ_take (i := 12) (oi := ?o13) (v := ?v13) ?hi13 (by kernel_rfl) (by kernel_rfl) (by kernel_rfl) (by kernel_rfl) ?hq13 ?hy13 hHeld ?rest13
      case hi13 => simp only [List.getElem?_toArray, List.getElem?_cons_succ, List.getElem?_cons_zero]; rfl
      case hq13 => exact fun _ _ _ h => h
      case hy13 => (refine Or.inl ⟨by rfl, ?_⟩; intro w hSw; (try dsimp only at hSw); go_simp; (try with_reducible rfl))
      simp only [Act.put, List.setIfInBounds_toArray, List.set_cons_zero, List.set_cons_succ]
      refine wpAnyZ_take (i := 13) (oi := ?o14) (v := ?v14) ?hi14 (by kernel_rfl) (by kernel_rfl) (by kernel_rfl) (by kernel_rfl) ?hq14 ?hy14 hHeld ?rest14
      case hi14 => simp only [List.getElem?_toArray, List.getElem?_cons_succ, List.getElem?_cons_zero]; rfl
      case hq14 => exact fun _ _ _ h => h
      case hy14 => (refine Or.inl ⟨by rfl, ?_⟩; intro w hSw; (try dsimp only at hSw); go_simp; (try with_reducible rfl))
      simp only [Act.put, List.setIfInBounds_toArray, List.set_cons_zero, List.set_cons_succ]
      refine wpAnyZ_take (i := 14) (oi := ?o15) (v := ?v15) ?hi15 (by kernel_rfl) (by kernel_rfl) (by kernel_rfl) (by kernel_rfl) ?hq15 ?hy15 hHeld ?rest15
      case hi15 => simp only [List.getElem?_toArray, List.getElem?_cons_succ, List.getElem?_cons_zero]; rfl
      case hq15 => exact fun _ _ _ h => h
      case hy15 => (refine Or.inl ⟨by rfl, ?_⟩; intro w hSw; (try dsimp only at hSw); go_simp; (try with_reducible rfl))
      simp only [Act.put, List.setIfInBounds_toArray, List.set_cons_zero, List.set_cons_succ]
      refine wpAnyZ_one (i := 15) (o := ?o16) (by kernel_rfl) ?hi16 (fun K hK => ?rest16)
      case hi16 => simp only [List.getElem?_toArray, List.getElem?_cons_succ, List.getElem?_cons_zero]; rfl
      go_simp
      refine hK.out _ _ (.inr ?hs16) ?more16
      case hs16 => exact ⟨y0a, y1a, cHa, cNa⟩
      clear hK K
      (try simp only [Act.put, List.setIfInBounds_toArray, List.set_cons_zero, List.set_cons_succ])
      refine wpAnyZ_one (i := 16) (o := ?o17) (by kernel_rfl) ?hi17 (fun K hK => ?rest17)
      case hi17 => simp only [List.getElem?_toArray, List.getElem?_cons_succ, List.getElem?_cons_zero]; rfl
      refine step_append_r _ (by rfl) (.tmp 52) (.tmp 60) 45 (by rfl) mid 44 i2 (.agg #[.int .i64 0, .int .i64 0]) 2 16 Try.underlying45 hi2 hx0 hx1 hx2 rfl (by decide) _ r.length (savC r) (hOa.out.drew) ?_ (some ⟨w3.heap.size, 0, none⟩) 1 1 [.int .i64 k, .int .i64 nk] ((read_new1 rfl).drew) (by simp [Act.eval, Act.put] <;> fail) (by simp) (by intro u hu; simp at hu; rcases hu with rfl | rfl <;> rfl) (by simp only [maxLen]; omega) (by omega) (by simp; omega) ?_
      simp [Act.eval, Act.put]
      intro v6 w6 o6 g6 n6
      obtain ⟨A6, c6, rfl⟩ := own_slice o6
      have q7 := blk_grown g6 k4a.out.drew (fun e => nk4.out e.symm)
      have q6 := blk_grown g6 k1a.out.drew (fun e => nk1.out e.symm)
      obtain ⟨q70, q71, _, _⟩ := q7.two
      have qh := cell_grow (w := (w3.alloc (.cells #[.int .i64 k, .int .i64 nk] 44)).drew) cHa g6 (fun e => hne'.out e.symm rfl)
      have qf := frozen_grow (w := (w3.alloc (.cells #[.int .i64 k, .int .i64 nk] 44)).drew) cHa hfra.out g6 (fun e => hne'.out e.symm rfl)
      have qn := cell_grow (w := (w3.alloc (.cells #[.int .i64 k, .int .i64 nk] 44)).drew) cNa g6 (fun e => by have h := (hOa.out.lt _ e.symm).1; dsimp only at h; omega)
      refine hK.out _ _ (.inr ?hs17) ?more17
      case hs17 => exact ⟨q70, q71, qh, qn⟩
      clear hK K
      (try simp only [Act.put, List.setIfInBounds_toArray, List.set_cons_zero, List.set_cons_succ])
      refine wpAnyZ_take (i := 17) (oi := ?o18) (v := ?v18) ?hi18 (by kernel_rfl) (by kernel_rfl) (by kernel_rfl) (by kernel_rfl) ?hq18 ?hy18 ⟨q70, q71, qh, qn⟩ ?rest18
      case hi18 => simp only [List.getElem?_toArray, List.getElem?_cons_succ, List.getElem?_cons_zero]; rfl
      case hq18 => exact fun _ _ _ h => h
      case hy18 => (refine Or.inl ⟨by rfl, ?_⟩; intro w hSw; (try dsimp only at hSw); go_simp; (try with_reducible rfl))
      simp only [Act.put, List.setIfInBounds_toArray, List.set_cons_zero, List.set_cons_succ]
      refine wpAnyZ_one (i := 18) (o := ?o19) (by kernel_rfl) ?hi19 (fun K hK => ?rest19)
      case hi19 => simp only [List.getElem?_toArray, List.getElem?_cons_succ, List.getElem?_cons_zero]; rfl
      go_simp
      refine hK.out _ _ (.inl rfl) ?_
      clear hK K
      (try simp only [Act.put, List.setIfInBounds_toArray, List.set_cons_zero, List.set_cons_succ])
      refine wpAnyZ_done (by kernel_rfl) ?_ _
      have O6 := HG2.out (w3.alloc (.cells #[.int .i64 k, .int .i64 nk] 44)).drew w6 A6 c6 (fun kk _ _ hkk => (b_drew (b_alloc (Below.refl w3.heap.size w3) (.cells #[.int .i64 k, .int .i64 nk] 44))).block kk hkk) (by simp) o6 g6 n6
      have q7s := q7.far (p := ⟨gB, i, none⟩) (by show w2.heap.size ≠ gB; omega) (.slice A6 (r.length + 1) c6)
      have q6s := q6.far (p := ⟨gB, i, none⟩) (by show w.heap.size + 1 ≠ gB; omega) (.slice A6 (r.length + 1) c6)
      have C6 := (Below.grown (b_drew C5.out) g6 (by simp at Z5 ⊢; omega) (fun b hb => by have := (hOa.out.lt b hb).1; omega)).setCell (p := ⟨gB, i, none⟩) (by show w.heap.size ≤ gB; omega) (.slice A6 (r.length + 1) c6)
      obtain ⟨g', e', _, fN, r7, r6, hv9, hb9⟩ := vw_tail (x := x) O6 (by simp) q7s q6s C6 (by omega) (by first | omega | simp) hk
      injection e' with e'
      injection e' with e' _
      subst e'
      obtain ⟨s0, s1, _, _⟩ := r7.two
      obtain ⟨t0, t1, t2, t3⟩ := r6.two
      have hfin := Lib.hid (hsv2.out _ _ hv9 hb9)
      clear hv9 hb9 r7 r6 hsv2 O3 C2 k1' k4 q7s q6s C6 O6 HG2 o6 g6 n6 hOa k4a k1a C5 nk4 nk1 hfra
      go_wp2
      exact bodyPost_ret (v := .agg #[.slice (some ⟨gN, 0, none⟩) N.length c2, .slice (some ⟨gB, 0, none⟩) S.length d2']) (by simp [results, Try.results21, go_sem, t0, t1]) rfl hfin.out
    · have hq0 : 0 ≤ q := by omega
      have hsv2 := Lib.hid (hsv.out _ (hset1.out (by omega)))
      clear hset1 hset2 hsv hf hq hGR
      obtain ⟨g', e', _, fN, r7, r6, hv9, hb9⟩ := vw_tail (x := x) O3.out (by simp) k4.out k1'.out C2.out (by omega) (by first | omega | simp) hk
      injection e' with e'
      injection e' with e' _
      subst e'
      obtain ⟨s0, s1, _, _⟩ := r7.two
      obtain ⟨t0, t1, t2, t3⟩ := r6.two
      have hfin := Lib.hid (hsv2.out _ _ hv9 hb9)
      clear hv9 hb9 r7 r6 hsv2 O3 C2 k1' k4
      go_wp2
      exact bodyPost_ret (v := .agg #[.slice (some ⟨gN, 0, none⟩) N.length c2, .slice (some ⟨gB, 0, none⟩) S.length d2']) (by simp [results, Try.results21, go_sem, t0, t1]) rfl hfin.out


set_option linter.unusedSimpArgs false in
set_option maxHeartbeats 8000000 in
theorem implVWrite_any (v : Value) (N : List Int) (S : List (List Sv)) (a x : Int) (w : World) (h : VolR w v N S) (hN : N.length ≤ 1048576) (hS : S.length + sumN S ≤ 1048576) (ha : -9223372036854775808 ≤ a ∧ a ≤ 9223372036854775807) (hx : -9223372036854775808 ≤ x ∧ x ≤ 9223372036854775807) :
    Calls Try.prog 22 #[v, .int .i64 a, .int .i64 x] w (ToVolPost (vwrN N S a x) (vwrS N S a x) w) := by
  have HR := Lib.hid h
  obtain ⟨A, c, B, d, rfl, hA, hB, hc1, hc2, hd1, hd2⟩ := h
  obtain ⟨i2, hi2, hx0, hx1, hx2⟩ := info_parts info_sav
  have HR0 := Lib.hid ((HR.out.alloc (.cells #[.slice A N.length c, .slice B S.length d] 29)).alloc (.cells #[.slice none 0 0, .slice none 0 0] 29))
  have K0 := Lib.hid (show Blk ((w.alloc (.cells #[.slice A N.length c, .slice B S.length d] 29)).alloc (.cells #[.slice none 0 0, .slice none 0 0] 29)) w.heap.size 29 #[.slice A N.length c, .slice B S.length d] from (Blk.new rfl).alloc _)
  have K1 := Lib.hid (show Blk ((w.alloc (.cells #[.slice A N.length c, .slice B S.length d] 29)).alloc (.cells #[.slice none 0 0, .slice none 0 0] 29)) (w.heap.size + 1) 29 #[.slice none 0 0, .slice none 0 0] from Blk.new (by simp))
  have C0 := Lib.hid (show Below w.heap.size w ((w.alloc (.cells #[.slice A N.length c, .slice B S.length d] 29)).alloc (.cells #[.slice none 0 0, .slice none 0 0] 29)) from b_alloc (b_alloc (Below.refl _ _) _) _)
  have Z0 : ((w.alloc (.cells #[.slice A N.length c, .slice B S.length d] 29)).alloc (.cells #[.slice none 0 0, .slice none 0 0] 29)).heap.size = w.heap.size + 2 := by simp
  have d2 : IntKind.i64.wrap ((N.length : Int) - 1) = (N.length : Int) - 1 := IntWalk.i64_in _ (by omega)
  clear hA hB
  have hdd : S.length ≤ 1048576 := by omega
  cases hv : volB N S
  · have hno := Lib.hid (fun (w' : World) hb => vwr_no (a := a) (x := x) (w := w) (w' := w') (show vwrB N S a x = false by simp [vwrB, hv]) hb)
    go_enter Try.func22, Try.ntmps22
    go_wp2_with fail
    refine (implVol_any _ N S _ HR0.out (by omega) (by omega)).mono ?_
    rintro e w1 ⟨rfl, b1⟩
    rw [hv]
    obtain ⟨z0, z1, z2, z3⟩ := (blk_below b1 K1.out K1.out.lt).two
    obtain ⟨x0, x1, _, _⟩ := (blk_below b1 K0.out K0.out.lt).two
    have C1 := Lib.hid (C0.out.trans (b1.mono (by omega)))
    clear hv b1
    go_wp2
    have hfin := hno.out _ ((C1.out.setCell (p := ⟨w.heap.size + 1, 0, none⟩) (by show w.heap.size ≤ w.heap.size + 1; omega) (.slice none 0 0)).setCell (p := ⟨w.heap.size + 1, 1, none⟩) (by show w.heap.size ≤ w.heap.size + 1; omega) (.slice none 0 0))
    exact bodyPost_ret (v := .agg #[.slice none 0 0, .slice none 0 0]) (by simp [results, Try.results22, go_sem, z0, z1]) rfl hfin
  cases ga : inB a 0 ((N.length : Int) - 1)
  · have hno := Lib.hid (fun (w' : World) hb => vwr_no (a := a) (x := x) (w := w) (w' := w') (show vwrB N S a x = false by simp [vwrB, hv, ga]) hb)
    go_enter Try.func22, Try.ntmps22
    go_wp2_with fail
    refine (implVol_any _ N S _ HR0.out (by omega) (by omega)).mono ?_
    rintro e w1 ⟨rfl, b1⟩
    rw [hv]
    obtain ⟨z0, z1, z2, z3⟩ := (blk_below b1 K1.out K1.out.lt).two
    obtain ⟨x0, x1, _, _⟩ := (blk_below b1 K0.out K0.out.lt).two
    have C1 := Lib.hid (C0.out.trans (b1.mono (by omega)))
    clear hv b1
    go_wp2_with fail
    (try rw [d2])
    refine (within_is ga _).mono ?_
    rintro e w' ⟨rfl, rfl⟩
    go_wp2
    have hfin := hno.out _ ((C1.out.setCell (p := ⟨w.heap.size + 1, 0, none⟩) (by show w.heap.size ≤ w.heap.size + 1; omega) (.slice none 0 0)).setCell (p := ⟨w.heap.size + 1, 1, none⟩) (by show w.heap.size ≤ w.heap.size + 1; omega) (.slice none 0 0))
    exact bodyPost_ret (v := .agg #[.slice none 0 0, .slice none 0 0]) (by simp [results, Try.results22, go_sem, z0, z1]) rfl hfin
  cases gx : inB x 0 255
  · have hno := Lib.hid (fun (w' : World) hb => vwr_no (a := a) (x := x) (w := w) (w' := w') (show vwrB N S a x = false by simp [vwrB, hv, ga, gx]) hb)
    go_enter Try.func22, Try.ntmps22
    go_wp2_with fail
    refine (implVol_any _ N S _ HR0.out (by omega) (by omega)).mono ?_
    rintro e w1 ⟨rfl, b1⟩
    rw [hv]
    obtain ⟨z0, z1, z2, z3⟩ := (blk_below b1 K1.out K1.out.lt).two
    obtain ⟨x0, x1, _, _⟩ := (blk_below b1 K0.out K0.out.lt).two
    have C1 := Lib.hid (C0.out.trans (b1.mono (by omega)))
    clear hv b1
    go_wp2_with fail
    (try rw [d2])
    refine (within_is ga _).mono ?_
    rintro e w' ⟨rfl, rfl⟩
    go_wp2_with fail
    (try rw [d2])
    refine (within_is gx _).mono ?_
    rintro e w' ⟨rfl, rfl⟩
    go_wp2
    have hfin := hno.out _ ((C1.out.setCell (p := ⟨w.heap.size + 1, 0, none⟩) (by show w.heap.size ≤ w.heap.size + 1; omega) (.slice none 0 0)).setCell (p := ⟨w.heap.size + 1, 1, none⟩) (by show w.heap.size ≤ w.heap.size + 1; omega) (.slice none 0 0))
    exact bodyPost_ret (v := .agg #[.slice none 0 0, .slice none 0 0]) (by simp [results, Try.results22, go_sem, z0, z1]) rfl hfin
  have hB1 : vwrB N S a x = true := by simp [vwrB, hv, ga, gx]
  obtain ⟨k, rfl⟩ : ∃ k : Nat, a = k := ⟨a.toNat, by simp [inB] at ga; omega⟩
  have hk : k < N.length := by simp [inB] at ga; omega
  have hyes := Lib.hid (fun (Q : List (List Sv)) (hq : savS N S k = Q) (v : Value) (w' : World) ho hb => vwr_yes (w := w) (w' := w') (v := v) hB1 hq ho hb)
  have hsp := Lib.hid (fun v w' h => cloneVol_any v N S w' h hN hS)
  clear hB1
  go_enter Try.func22, Try.ntmps22
  go_wp2_with fail
  refine (implVol_any _ N S _ HR0.out (by omega) (by omega)).mono ?_
  rintro e w1 ⟨rfl, b1⟩
  rw [hv]
  obtain ⟨z0, z1, z2, z3⟩ := (blk_below b1 K1.out K1.out.lt).two
  obtain ⟨x0, x1, _, _⟩ := (blk_below b1 K0.out K0.out.lt).two
  have C1 := Lib.hid (C0.out.trans (b1.mono (by omega)))
  have k0 := Lib.hid (blk_below b1 K0.out K0.out.lt)
  have k1 := Lib.hid (blk_below b1 K1.out K1.out.lt)
  have R1 := Lib.hid (HR0.out.below b1)
  have Z1 : w.heap.size + 2 ≤ w1.heap.size := by have := b1.size; omega
  clear hv b1 HR0 K0 K1 C0 z0 z1 z2 z3
  go_wp2_with fail
  (try rw [d2])
  refine (within_is ga _).mono ?_
  rintro e w' ⟨rfl, rfl⟩
  go_wp2_with fail
  refine (within_is gx _).mono ?_
  rintro e w' ⟨rfl, rfl⟩
  go_wp2_with fail
  refine (hsp.out _ _ R1.out).mono ?_
  rintro e w2 ⟨v2, rfl, o2, b2⟩
  have O2 := Lib.hid o2
  obtain ⟨A2, c2, B2, d2', mid2, rfl, _⟩ := o2
  have k1' := Lib.hid ((blk_below b2 k1.out k1.out.lt).alloc (.cells #[.slice A2 N.length c2, .slice B2 S.length d2'] 29))
  have k4 := Lib.hid (show Blk (w2.alloc (.cells #[.slice A2 N.length c2, .slice B2 S.length d2'] 29)) w2.heap.size 29 #[.slice A2 N.length c2, .slice B2 S.length d2'] from Blk.new rfl)
  have O3 := Lib.hid (O2.out.alloc (.cells #[.slice A2 N.length c2, .slice B2 S.length d2'] 29))
  have C2 := Lib.hid (b_alloc (C1.out.trans (b2.mono (by omega))) (.cells #[.slice A2 N.length c2, .slice B2 S.length d2'] 29))
  have Z2 : w1.heap.size ≤ w2.heap.size := b2.size
  have Z3 : w2.heap.size + 1 ≤ (w2.alloc (.cells #[.slice A2 N.length c2, .slice B2 S.length d2'] 29)).heap.size := by simp
  clear b2 k0 k1 C1 R1 O2 hsp
  obtain ⟨y0, y1, y2, y3⟩ := k4.out.two
  obtain ⟨gN, rfl, _, _, cN, _, _⟩ := vol_setN O3.out k hk x
  have ix1 : (0 : Int) ≤ (k : Int) := by omega
  have ix2 : (k : Int) < (N.length : Int) := by omega
  rcases Nat.eq_zero_or_pos S.length with hS0 | hS0
  · have e5 : IntKind.i64.wrap ((S.length : Int) - 1) = -1 := by rw [IntWalk.i64_in _ (by omega)]; omega
    have hsv := Lib.hid (hyes.out S (by unfold savS; rw [if_neg (by omega)]))
    obtain ⟨g', e', _, fN, r7, r6, hv9, hb9⟩ := vw_tail (x := x) O3.out rfl k4.out k1'.out C2.out (by omega) (by omega) hk
    injection e' with e'
    injection e' with e' _
    subst e'
    obtain ⟨s0, s1, _, _⟩ := r7.two
    obtain ⟨t0, t1, t2, t3⟩ := r6.two
    have hfin := Lib.hid (hsv.out _ _ hv9 hb9)
    clear hv9 hb9 hsv hyes r7 r6 O3 C2 k1' k4 hS0
    go_wp2
    exact bodyPost_ret (v := .agg #[.slice (some ⟨gN, 0, none⟩) N.length c2, .slice B2 S.length d2']) (by simp [results, Try.results22, go_sem, t0, t1]) rfl hfin.out
  · obtain ⟨i, hiS⟩ : ∃ i : Nat, S.length = i + 1 := ⟨S.length - 1, by omega⟩
    have hi' : i < S.length := by omega
    have e5 : (S.length : Int) - 1 = i := by omega
    have hgd : S.getD (S.length - 1) [] = S[i] := by rw [show S.length - 1 = i by omega, List.getD_eq_getElem?_getD, List.getElem?_eq_getElem hi']; rfl
    obtain ⟨gB, mid, Ai, ci, rfl, lB1, lBh, lB2, lB3, lB4, hAm, cH, oH, hne, _, fH, hgr⟩ := vol_growRow O3.out i hi'
    have hsv := Lib.hid (fun (Q : List (List Sv)) (hq : savS N S k = Q) => hyes.out Q hq)
    obtain ⟨r, hr⟩ : ∃ r, r = S[i] := ⟨_, rfl⟩
    have hsm := sumN_get hi'
    have hset1 := Lib.hid (show ¬ findS r k < 0 → savS N S k = S from fun hn => by unfold savS; rw [if_neg (by rw [hgd, ← hr]; omega)])
    have hset2 := Lib.hid (show findS r k < 0 → savS N S k = S.set i (r ++ [((k : Int), N[k])]) from fun hn => by
      unfold savS
      rw [if_pos ⟨hS0, by rw [hgd, ← hr]; exact hn⟩, hgd, ← hr, show S.length - 1 = i by omega]
      simp only [Int.toNat_natCast]
      rw [List.getD_eq_getElem?_getD, List.getElem?_eq_getElem hk]
      rfl)
    rw [← hr] at cH oH hgr hne hsm
    have hOH := Lib.hid oH
    have hgm := hAm gN rfl
    have hGR := Lib.hid hgr
    have hfr := Lib.hid (fH i)
    have hgN7 : gN ≠ w2.heap.size := by
      intro e
      obtain ⟨A0, c0, B0, d0, midx, e0, h1, _⟩ := O3.out
      injection e0 with e0
      simp only [Array.mk.injEq, List.cons.injEq, and_true, Value.slice.injEq] at e0
      obtain ⟨⟨rfl, _, rfl⟩, _⟩ := e0
      exact own_apartT h1 k4.out (by decide) gN rfl e
    have e5w : IntKind.i64.wrap ((S.length : Int) - 1) = i := by rw [IntWalk.i64_in _ (by omega)]; exact e5
    have ix3 : (0 : Int) ≤ (i : Int) := by omega
    have ix4 : (i : Int) < (S.length : Int) := by omega
    have hrl : r.length ≤ 1048576 := by omega
    have HI := Lib.hid (And.intro hS0 hiS)
    have hi2' : i < 1048576 := by omega
    clear hr hgd hgr oH fH e5 hS0 hiS hyes hAm
    have HSI := Lib.hid (SavedIn.of (own_read hOH.out))
    have Z4 := C2.out.size
    go_wp2_with fail
    generalize hw3 : w2.alloc (.cells #[.slice (some ⟨gN, 0, none⟩) N.length c2, .slice (some ⟨gB, 0, none⟩) S.length d2'] 29) = w3 at *
    clear hw3
    refine (implSaved_any Ai ci r k _ HSI.out (by omega)).mono ?_
    rintro e w4 ⟨rfl, b4⟩
    have z4 := b4.size
    have y0 := cell_keep y0 b4
    have y1 := cell_keep y1 b4
    have cN := cell_keep cN b4
    have cH0 := cH
    have cH := cell_keep cH b4
    have hOH := Lib.hid (own_below hOH.out b4 (Nat.le_refl _))
    have hfr := Lib.hid (frozen_keep cH0 hfr.out b4)
    have O3 := Lib.hid (O3.out.below b4)
    have C2 := Lib.hid (C2.out.trans (b4.mono C2.out.size))
    have k4 := Lib.hid (blk_below b4 k4.out k4.out.lt)
    have k1' := Lib.hid (blk_below b4 k1'.out k1'.out.lt)
    have B4 := Lib.hid b4
    clear b4
    obtain ⟨q, hq⟩ : ∃ q, q = findS r k := ⟨_, rfl⟩
    rw [← hq]
    by_cases hf : findS r k < 0
    · have hq0 : q < 0 := by omega
      have hsv2 := Lib.hid (hsv.out _ (hset2.out (by omega)))
      obtain ⟨nk, hnk⟩ : ∃ nk, nk = N[k] := ⟨_, rfl⟩
      rw [← hnk] at cN hsv2
      have HG2 := Lib.hid (fun (w5 w6 : World) (A6 : Option Addr) (c6 : Nat) (hk : ∀ k, w1.heap.size ≤ k → k < w2.heap.size → k < w4.heap.size → w5.heap[k]? = w4.heap[k]?) (hz : w4.heap.size ≤ w5.heap.size) (o6 : w6.ownsRow mid 44 2 (.slice A6 (r.length + 1) c6) (r.length + 1) (savC r ++ [.int .i64 k, .int .i64 nk])) g6 n6 =>
        show VolO w1.heap.size w6.heap.size (w6.setCell ⟨gB, i, none⟩ (.slice A6 (r.length + 1) c6)) (.agg #[.slice (some ⟨gN, 0, none⟩) N.length c2, .slice (some ⟨gB, 0, none⟩) S.length d2']) N (S.set i (r ++ [((k : Int), nk)])) from by
          have e1 : (r ++ [((k : Int), nk)]).length = r.length + 1 := by simp
          have := hGR.out w5 w6 (r ++ [((k : Int), nk)]) A6 c6
          rw [e1, savC_append] at this
          exact this (fun k a b c => (hk k a b (Nat.lt_of_lt_of_le c B4.out.size)).trans (B4.out.block k c)) (Nat.le_trans B4.out.size hz) o6 g6 n6)
      clear hset1 hset2 hsv hf hq hGR hnk
      have y0a := cell_keep y0 (b_alloc (Below.refl w4.heap.size w4) (.cells #[.int .i64 k, .int .i64 nk] 44))
      have y1a := cell_keep y1 (b_alloc (Below.refl w4.heap.size w4) (.cells #[.int .i64 k, .int .i64 nk] 44))
      have cNa := cell_keep cN (b_alloc (Below.refl w4.heap.size w4) (.cells #[.int .i64 k, .int .i64 nk] 44))
      have cHa := cell_keep cH (b_alloc (Below.refl w4.heap.size w4) (.cells #[.int .i64 k, .int .i64 nk] 44))
      have hOa := Lib.hid (hOH.out.alloc (.cells #[.int .i64 k, .int .i64 nk] 44))
      have k4a := Lib.hid (k4.out.alloc (.cells #[.int .i64 k, .int .i64 nk] 44))
      have k1a := Lib.hid (k1'.out.alloc (.cells #[.int .i64 k, .int .i64 nk] 44))
      have nk4 := Lib.hid (fun e => own_apartT hOa.out k4a.out (by decide) _ e rfl)
      have nk1 := Lib.hid (fun e => own_apartT hOa.out k1a.out (by decide) _ e rfl)
      have hne' := Lib.hid (hne gB)
      have C5 := Lib.hid (b_alloc C2.out (.cells #[.int .i64 k, .int .i64 nk] 44))
      have Z5 := C5.out.size
      have hfra := Lib.hid (frozen_keep cH hfr.out (b_alloc (Below.refl w4.heap.size w4) (.cells #[.int .i64 k, .int .i64 nk] 44)))
      go_wp2
      refine wp_region_Z (fun w' : World => w'.cell? ⟨w2.heap.size, 0, none⟩ = some (.slice (some ⟨gN, 0, none⟩) N.length c2) ∧ w'.cell? ⟨w2.heap.size, 1, none⟩ = some (.slice (some ⟨gB, 0, none⟩) S.length d2') ∧ w'.cell? ⟨gB, i, none⟩ = some (.slice Ai r.length ci) ∧ w'.cell? ⟨gN, k, none⟩ = some (.int .i64 nk)) 18 (by kernel_rfl) ?_
      have hHeld : (fun w' : World => w'.cell? ⟨w2.heap.size, 0, none⟩ = some (.slice (some ⟨gN, 0, none⟩) N.length c2) ∧ w'.cell? ⟨w2.heap.size, 1, none⟩ = some (.slice (some ⟨gB, 0, none⟩) S.length d2') ∧ w'.cell? ⟨gB, i, none⟩ = some (.slice Ai r.length ci) ∧ w'.cell? ⟨gN, k, none⟩ = some (.int .i64 nk)) _ := ⟨y0, y1, cH, cN⟩
      refine wpAnyZ_take (i := 0) (oi := ?o20) (v := ?v20) ?hi20 (by kernel_rfl) (by kernel_rfl) (by kernel_rfl) (by kernel_rfl) ?hq20 ?hy20 hHeld ?rest20
      case hi20 => simp only [List.getElem?_toArray, List.getElem?_cons_succ, List.getElem?_cons_zero]; rfl
      case hq20 => exact fun _ _ _ h => h
      case hy20 => (refine Or.inl ⟨by rfl, ?_⟩; intro w hSw; (try dsimp only at hSw); go_simp; (try with_reducible rfl))
      simp only [Act.put, List.setIfInBounds_toArray, List.set_cons_zero, List.set_cons_succ]
      refine wpAnyZ_take (i := 1) (oi := ?o21) (v := ?v21) ?hi21 (by kernel_rfl) (by kernel_rfl) (by kernel_rfl) (by kernel_rfl) ?hq21 ?hy21 hHeld ?rest21
      case hi21 => simp only [List.getElem?_toArray, List.getElem?_cons_succ, List.getElem?_cons_zero]; rfl
      case hq21 => exact fun _ _ _ h => h
      case hy21 => (refine Or.inl ⟨by rfl, ?_⟩; intro w hSw; (try dsimp only at hSw); go_simp; (try with_reducible rfl))
      simp only [Act.put, List.setIfInBounds_toArray, List.set_cons_zero, List.set_cons_succ]
      refine wpAnyZ_take (i := 2) (oi := ?o22) (v := ?v22) ?hi22 (by kernel_rfl) (by kernel_rfl) (by kernel_rfl) (by kernel_rfl) ?hq22 ?hy22 hHeld ?rest22
      case hi22 => simp only [List.getElem?_toArray, List.getElem?_cons_succ, List.getElem?_cons_zero]; rfl
      case hq22 => exact fun _ _ _ h => h
      case hy22 => (refine Or.inl ⟨by rfl, ?_⟩; intro w hSw; (try dsimp only at hSw); go_simp; (try with_reducible rfl))
      simp only [Act.put, List.setIfInBounds_toArray, List.set_cons_zero, List.set_cons_succ]
      refine wpAnyZ_take (i := 3) (oi := ?o23) (v := ?v23) ?hi23 (by kernel_rfl) (by kernel_rfl) (by kernel_rfl) (by kernel_rfl) ?hq23 ?hy23 hHeld ?rest23
      case hi23 => simp only [List.getElem?_toArray, List.getElem?_cons_succ, List.getElem?_cons_zero]; rfl
      case hq23 => exact fun _ _ _ h => h
      case hy23 => (refine Or.inl ⟨by rfl, ?_⟩; intro w hSw; (try dsimp only at hSw); go_simp; (try with_reducible rfl))
      simp only [Act.put, List.setIfInBounds_toArray, List.set_cons_zero, List.set_cons_succ]
      refine wpAnyZ_take (i := 4) (oi := ?o24) (v := ?v24) ?hi24 (by kernel_rfl) (by kernel_rfl) (by kernel_rfl) (by kernel_rfl) ?hq24 ?hy24 hHeld ?rest24
      case hi24 => simp only [List.getElem?_toArray, List.getElem?_cons_succ, List.getElem?_cons_zero]; rfl
      case hq24 => exact fun _ _ _ h => h
      case hy24 => (refine Or.inl ⟨by rfl, ?_⟩; intro w hSw; (try dsimp only at hSw); go_simp; (try with_reducible rfl))
      simp only [Act.put, List.setIfInBounds_toArray, List.set_cons_zero, List.set_cons_succ]
      refine wpAnyZ_take (i := 5) (oi := ?o25) (v := ?v25) ?hi25 (by kernel_rfl) (by kernel_rfl) (by kernel_rfl) (by kernel_rfl) ?hq25 ?hy25 hHeld ?rest25
      case hi25 => simp only [List.getElem?_toArray, List.getElem?_cons_succ, List.getElem?_cons_zero]; rfl
      case hq25 => exact fun _ _ _ h => h
      case hy25 => (refine Or.inl ⟨by rfl, ?_⟩; intro w hSw; (try dsimp only at hSw); go_simp; (try with_reducible rfl))
      simp only [Act.put, List.setIfInBounds_toArray, List.set_cons_zero, List.set_cons_succ]
      refine wpAnyZ_take (i := 6) (oi := ?o26) (v := ?v26) ?hi26 (by kernel_rfl) (by kernel_rfl) (by kernel_rfl) (by kernel_rfl) ?hq26 ?hy26 hHeld ?rest26
      case hi26 => simp only [List.getElem?_toArray, List.getElem?_cons_succ, List.getElem?_cons_zero]; rfl
      case hq26 => exact fun _ _ _ h => h
      case hy26 => (refine Or.inl ⟨by rfl, ?_⟩; intro w hSw; (try dsimp only at hSw); go_simp; (try with_reducible rfl))
      simp only [Act.put, List.setIfInBounds_toArray, List.set_cons_zero, List.set_cons_succ]
      refine wpAnyZ_take (i := 7) (oi := ?o27) (v := ?v27) ?hi27 (by kernel_rfl) (by kernel_rfl) (by kernel_rfl) (by kernel_rfl) ?hq27 ?hy27 hHeld ?rest27
      case hi27 => simp only [List.getElem?_toArray, List.getElem?_cons_succ, List.getElem?_cons_zero]; rfl
      case hq27 => exact fun _ _ _ h => h
      case hy27 => (refine Or.inl ⟨by rfl, ?_⟩; intro w hSw; (try dsimp only at hSw); go_simp; (try with_reducible rfl))
      simp only [Act.put, List.setIfInBounds_toArray, List.set_cons_zero, List.set_cons_succ]
      refine wpAnyZ_take (i := 8) (oi := ?o28) (v := ?v28) ?hi28 (by kernel_rfl) (by kernel_rfl) (by kernel_rfl) (by kernel_rfl) ?hq28 ?hy28 hHeld ?rest28
      case hi28 => simp only [List.getElem?_toArray, List.getElem?_cons_succ, List.getElem?_cons_zero]; rfl
      case hq28 => exact fun _ _ _ h => h
      case hy28 => (refine Or.inl ⟨by rfl, ?_⟩; intro w hSw; (try dsimp only at hSw); go_simp; (try with_reducible rfl))
      simp only [Act.put, List.setIfInBounds_toArray, List.set_cons_zero, List.set_cons_succ]
      refine wpAnyZ_take (i := 9) (oi := ?o29) (v := ?v29) ?hi29 (by kernel_rfl) (by kernel_rfl) (by kernel_rfl) (by kernel_rfl) ?hq29 ?hy29 hHeld ?rest29
      case hi29 => simp only [List.getElem?_toArray, List.getElem?_cons_succ, List.getElem?_cons_zero]; rfl
      case hq29 => exact fun _ _ _ h => h
      case hy29 => (refine Or.inl ⟨by rfl, ?_⟩; intro w hSw; (try dsimp only at hSw); go_simp; (try with_reducible rfl))
      simp only [Act.put, List.setIfInBounds_toArray, List.set_cons_zero, List.set_cons_succ]
      refine wpAnyZ_take (i := 10) (oi := ?o30) (v := ?v30) ?hi30 (by kernel_rfl) (by kernel_rfl) (by kernel_rfl) (by kernel_rfl) ?hq30 ?hy30 hHeld ?rest30
      case hi30 => simp only [List.getElem?_toArray, List.getElem?_cons_succ, List.getElem?_cons_zero]; rfl
      case hq30 => exact fun _ _ _ h => h
      case hy30 => (refine Or.inl ⟨by rfl, ?_⟩; intro w hSw; (try dsimp only at hSw); go_simp; (try with_reducible rfl))
      simp only [Act.put, List.setIfInBounds_toArray, List.set_cons_zero, List.set_cons_succ]
      refine wpAnyZ_take (i := 11) (oi := ?o31) (v := ?v31) ?hi31 (by kernel_rfl) (by kernel_rfl) (by kernel_rfl) (by kernel_rfl) ?hq31 ?hy31 hHeld ?rest31
      case hi31 => simp only [List.getElem?_toArray, List.getElem?_cons_succ, List.getElem?_cons_zero]; rfl
      case hq31 => exact fun _ _ _ h => h
      case hy31 => (refine Or.inl ⟨by rfl, ?_⟩; intro w hSw; (try dsimp only at hSw); go_simp; (try with_reducible rfl))
      simp only [Act.put, List.setIfInBounds_toArray, List.set_cons_zero, List.set_cons_succ]
      refine wpAnyZ_take (i := 12) (oi := ?o32) (v := ?v32) ?hi32 (by kernel_rfl) (by kernel_rfl) (by kernel_rfl) (by kernel_rfl) ?hq32 ?hy32 hHeld ?rest32
      case hi32 => simp only [List.getElem?_toArray, List.getElem?_cons_succ, List.getElem?_cons_zero]; rfl
      case hq32 => exact fun _ _ _ h => h
      case hy32 => (refine Or.inl ⟨by rfl, ?_⟩; intro w hSw; (try dsimp only at hSw); go_simp; (try with_reducible rfl))
      simp only [Act.put, List.setIfInBounds_toArray, List.set_cons_zero, List.set_cons_succ]
      refine wpAnyZ_take (i := 13) (oi := ?o33) (v := ?v33) ?hi33 (by kernel_rfl) (by kernel_rfl) (by kernel_rfl) (by kernel_rfl) ?hq33 ?hy33 hHeld ?rest33
      case hi33 => simp only [List.getElem?_toArray, List.getElem?_cons_succ, List.getElem?_cons_zero]; rfl
      case hq33 => exact fun _ _ _ h => h
      case hy33 => (refine Or.inl ⟨by rfl, ?_⟩; intro w hSw; (try dsimp only at hSw); go_simp; (try with_reducible rfl))
      simp only [Act.put, List.setIfInBounds_toArray, List.set_cons_zero, List.set_cons_succ]
      refine wpAnyZ_take (i := 14) (oi := ?o34) (v := ?v34) ?hi34 (by kernel_rfl) (by kernel_rfl) (by kernel_rfl) (by kernel_rfl) ?hq34 ?hy34 hHeld ?rest34
      case hi34 => simp only [List.getElem?_toArray, List.getElem?_cons_succ, List.getElem?_cons_zero]; rfl
      case hq34 => exact fun _ _ _ h => h
      case hy34 => (refine Or.inl ⟨by rfl, ?_⟩; intro w hSw; (try dsimp only at hSw); go_simp; (try with_reducible rfl))
      simp only [Act.put, List.setIfInBounds_toArray, List.set_cons_zero, List.set_cons_succ]
      refine wpAnyZ_one (i := 15) (o := ?o35) (by kernel_rfl) ?hi35 (fun K hK => ?rest35)
      case hi35 => simp only [List.getElem?_toArray, List.getElem?_cons_succ, List.getElem?_cons_zero]; rfl
      go_simp
      refine hK.out _ _ (.inr ?hs35) ?more35
      case hs35 => exact ⟨y0a, y1a, cHa, cNa⟩
      clear hK K
      (try simp only [Act.put, List.setIfInBounds_toArray, List.set_cons_zero, List.set_cons_succ])
      refine wpAnyZ_one (i := 16) (o := ?o36) (by kernel_rfl) ?hi36 (fun K hK => ?rest36)
      case hi36 => simp only [List.getElem?_toArray, List.getElem?_cons_succ, List.getElem?_cons_zero]; rfl
      refine step_append_r _ (by rfl) (.tmp 52) (.tmp 60) 45 (by rfl) mid 44 i2 (.agg #[.int .i64 0, .int .i64 0]) 2 16 Try.underlying45 hi2 hx0 hx1 hx2 rfl (by decide) _ r.length (savC r) (hOa.out.drew) ?_ (some ⟨w4.heap.size, 0, none⟩) 1 1 [.int .i64 k, .int .i64 nk] ((read_new1 rfl).drew) (by simp [Act.eval, Act.put] <;> fail) (by simp) (by intro u hu; simp at hu; rcases hu with rfl | rfl <;> rfl) (by simp only [maxLen]; omega) (by omega) (by simp; omega) ?_
      simp [Act.eval, Act.put]
      intro v6 w6 o6 g6 n6
      obtain ⟨A6, c6, rfl⟩ := own_slice o6
      have q7 := blk_grown g6 k4a.out.drew (fun e => nk4.out e.symm)
      have q6 := blk_grown g6 k1a.out.drew (fun e => nk1.out e.symm)
      obtain ⟨q70, q71, _, _⟩ := q7.two
      have qh := cell_grow (w := (w4.alloc (.cells #[.int .i64 k, .int .i64 nk] 44)).drew) cHa g6 (fun e => hne'.out e.symm rfl)
      have qf := frozen_grow (w := (w4.alloc (.cells #[.int .i64 k, .int .i64 nk] 44)).drew) cHa hfra.out g6 (fun e => hne'.out e.symm rfl)
      have qn := cell_grow (w := (w4.alloc (.cells #[.int .i64 k, .int .i64 nk] 44)).drew) cNa g6 (fun e => by have h := (hOa.out.lt _ e.symm).1; dsimp only at h; omega)
      refine hK.out _ _ (.inr ?hs36) ?more36
      case hs36 => exact ⟨q70, q71, qh, qn⟩
      clear hK K
      (try simp only [Act.put, List.setIfInBounds_toArray, List.set_cons_zero, List.set_cons_succ])
      refine wpAnyZ_take (i := 17) (oi := ?o37) (v := ?v37) ?hi37 (by kernel_rfl) (by kernel_rfl) (by kernel_rfl) (by kernel_rfl) ?hq37 ?hy37 ⟨q70, q71, qh, qn⟩ ?rest37
      case hi37 => simp only [List.getElem?_toArray, List.getElem?_cons_succ, List.getElem?_cons_zero]; rfl
      case hq37 => exact fun _ _ _ h => h
      case hy37 => (refine Or.inl ⟨by rfl, ?_⟩; intro w hSw; (try dsimp only at hSw); go_simp; (try with_reducible rfl))
      simp only [Act.put, List.setIfInBounds_toArray, List.set_cons_zero, List.set_cons_succ]
      refine wpAnyZ_one (i := 18) (o := ?o38) (by kernel_rfl) ?hi38 (fun K hK => ?rest38)
      case hi38 => simp only [List.getElem?_toArray, List.getElem?_cons_succ, List.getElem?_cons_zero]; rfl
      go_simp
      refine hK.out _ _ (.inl rfl) ?_
      clear hK K
      (try simp only [Act.put, List.setIfInBounds_toArray, List.set_cons_zero, List.set_cons_succ])
      refine wpAnyZ_done (by kernel_rfl) ?_ _
      have O6 := HG2.out (w4.alloc (.cells #[.int .i64 k, .int .i64 nk] 44)).drew w6 A6 c6 (fun kk _ _ hkk => (b_drew (b_alloc (Below.refl w4.heap.size w4) (.cells #[.int .i64 k, .int .i64 nk] 44))).block kk hkk) (by simp) o6 g6 n6
      have q7s := q7.far (p := ⟨gB, i, none⟩) (by show w2.heap.size ≠ gB; omega) (.slice A6 (r.length + 1) c6)
      have q6s := q6.far (p := ⟨gB, i, none⟩) (by show w.heap.size + 1 ≠ gB; omega) (.slice A6 (r.length + 1) c6)
      have C6 := (Below.grown (b_drew C5.out) g6 (by simp at Z5 ⊢; omega) (fun b hb => by have := (hOa.out.lt b hb).1; omega)).setCell (p := ⟨gB, i, none⟩) (by show w.heap.size ≤ gB; omega) (.slice A6 (r.length + 1) c6)
      obtain ⟨g', e', _, fN, r7, r6, hv9, hb9⟩ := vw_tail (x := x) O6 (by simp) q7s q6s C6 (by omega) (by first | omega | simp) hk
      injection e' with e'
      injection e' with e' _
      subst e'
      obtain ⟨s0, s1, _, _⟩ := r7.two
      obtain ⟨t0, t1, t2, t3⟩ := r6.two
      have hfin := Lib.hid (hsv2.out _ _ hv9 hb9)
      clear hv9 hb9 r7 r6 hsv2 O3 C2 k1' k4 q7s q6s C6 O6 HG2 o6 g6 n6 hOa k4a k1a C5 nk4 nk1 hfra
      go_wp2
      exact bodyPost_ret (v := .agg #[.slice (some ⟨gN, 0, none⟩) N.length c2, .slice (some ⟨gB, 0, none⟩) S.length d2']) (by simp [results, Try.results22, go_sem, t0, t1]) rfl hfin.out
    · have hq0 : 0 ≤ q := by omega
      have hsv2 := Lib.hid (hsv.out _ (hset1.out (by omega)))
      clear hset1 hset2 hsv hf hq hGR
      obtain ⟨g', e', _, fN, r7, r6, hv9, hb9⟩ := vw_tail (x := x) O3.out (by simp) k4.out k1'.out C2.out (by omega) (by first | omega | simp) hk
      injection e' with e'
      injection e' with e' _
      subst e'
      obtain ⟨s0, s1, _, _⟩ := r7.two
      obtain ⟨t0, t1, t2, t3⟩ := r6.two
      have hfin := Lib.hid (hsv2.out _ _ hv9 hb9)
      clear hv9 hb9 r7 r6 hsv2 O3 C2 k1' k4
      go_wp2
      exact bodyPost_ret (v := .agg #[.slice (some ⟨gN, 0, none⟩) N.length c2, .slice (some ⟨gB, 0, none⟩) S.length d2']) (by simp [results, Try.results22, go_sem, t0, t1]) rfl hfin.out

end Go.Proofs.Ytkjjieofoolnhaa
