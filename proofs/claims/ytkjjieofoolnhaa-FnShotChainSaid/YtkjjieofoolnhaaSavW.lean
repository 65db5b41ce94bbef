/- Contracts of the exact laws' own functions over lists of lists of saved values: szSavedSS, toSavedSS, eqSavedSS. -/
import Derived.Test.YtkjjieofoolnhaaSavX
import Derived.Test.YtkjjieofoolnhaaRowsR
import Derived.StillTailTactics
namespace Go.Proofs.Ytkjjieofoolnhaa
open Go.RowKit
set_option linter.unusedVariables false

abbrev RowsS (lo hi : Nat) (w : World) (v : Value) (L : List (List Sv)) : Prop := RowsO savC 45 44 2 lo hi w v L
def SzSSPost (L : List (List Sv)) (left : Int) (W : World) (e : Ending) (w' : World) : Prop :=
  ∃ r : Int, e = .returned (.int .i64 r) ∧ W = w' ∧ (r = -1 ∨ (0 ≤ r ∧ (L.length : Int) + sumN L + r = left))

set_option maxHeartbeats 1000000 in
theorem szSavSS_any (A : Option Addr) (c : Nat) (L : List (List Sv)) (left : Int) (w : World) (h : RowsR savC w A L) (hL : L.length ≤ 9223372036854775807) (hl : 0 ≤ left ∧ left ≤ 1000000000000) :
    Calls Try.prog 43 #[.slice A L.length c, .int .i64 left] w (SzSSPost L left w) := by
  by_cases hneg : left - L.length < 0
  · have hno := Lib.hid (show SzSSPost L left w (.returned (.int .i64 (-1))) w from ⟨-1, rfl, rfl, .inl rfl⟩)
    go_enter Try.func43, Try.ntmps43
    go_wp2
    go_ret
    exact hno.out
  · go_enter Try.func43, Try.ntmps43
    go_wp2
    go_loop [1, 5] (fun x y => ∃ (k : Nat) (r : Int), k ≤ L.length ∧ x = .int .i64 r ∧ y = .int .i64 k ∧ 0 ≤ r ∧ r ≤ 1000000000000 ∧ Hid ((L.length : Int) + sumN (L.take k) + r = left)) (fun _ y => L.length - (intOf y).toNat)
    case atStart => exact ⟨0, left - L.length, Nat.zero_le _, rfl, rfl, by omega, by omega, by show (L.length : Int) + sumN (L.take 0) + (left - L.length) = left; simp [sumN]; omega⟩
    case round =>
      obtain ⟨k, r, hk, rfl, rfl, r0, r1, he⟩ := hrel
      by_cases hlt : k < L.length
      · obtain ⟨b, off, rfl, hc⟩ := h (by omega)
        obtain ⟨Ai, ci, c1, _, c2, c3⟩ := hc k hlt
        have hs := sumN_step hlt
        clear hc
        obtain ⟨n, hn⟩ : ∃ n, n = L[k].length := ⟨_, rfl⟩
        rw [← hn] at c1 c2 hs
        clear hn
        by_cases hng : r - n < 0
        · have hq : (if r - (n : Int) < 0 then (-1 : Int) else r - n) = -1 := if_pos hng
          have hno := Lib.hid (show SzSSPost L left w (.returned (.int .i64 (-1))) w from ⟨-1, rfl, rfl, .inl rfl⟩)
          clear he hs
          go_wp2_with (go_at_call 65; refine (szSav_any _ _ _ _ _ (by omega) (by omega)).mono ?_; rintro e w' ⟨rfl, rfl⟩; rw [hq])
          go_ret
          exact hno.out
        · have hq : (if r - (n : Int) < 0 then (-1 : Int) else r - n) = r - n := if_neg hng
          have he2 := Lib.hid (show (L.length : Int) + sumN (L.take (k + 1)) + (r - n) = left by have := he.out; rw [hs]; omega)
          clear he hs
          go_wp2_with (go_at_call 65; refine (szSav_any _ _ _ _ _ (by omega) (by omega)).mono ?_; rintro e w' ⟨rfl, rfl⟩; rw [hq])
          go_round
          case rel => exact ⟨k + 1, r - n, by omega, by go_num, by go_num, by omega, by omega, he2⟩
          case measure => simp [intOf]; omega
      · have hfin := Lib.hid (show SzSSPost L left w (.returned (.int .i64 r)) w from ⟨r, rfl, rfl, .inr ⟨r0, by have := he.out; rwa [List.take_of_length_le (by omega)] at this⟩⟩)
        clear he
        go_wp2
        go_ret
        exact hfin.out

theorem info_rowS : (Try.prog.info? 45).map (fun i => (i.zero, i.size, i.bytes)) = some (some (.slice none 0 0), 1, 24) := by kernel_rfl
def OwnSS (L : List (List Sv)) (W : World) (e : Ending) (w' : World) : Prop :=
  ∃ A c, e = .returned (.slice A L.length c) ∧ RowsS W.heap.size w'.heap.size w' (.slice A L.length c) L ∧ Below W.heap.size W w'
theorem rowsS_set {L : List (List Sv)} {k : Nat} (h : k < L.length) : (L.take k ++ List.replicate (L.length - k) []).set k L[k] = L.take (k + 1) ++ List.replicate (L.length - (k + 1)) [] := by
  have hl : (L.take k).length = k := by rw [List.length_take]; omega
  rw [List.set_append_right _ _ (by omega), hl, Nat.sub_self, show L.length - k = (L.length - (k + 1)) + 1 by omega, List.replicate_succ, List.set_cons_zero, List.take_succ_eq_append_getElem h, List.append_assoc]
  rfl

set_option maxHeartbeats 1000000 in
theorem toSavSS_any (A : Option Addr) (c : Nat) (L : List (List Sv)) (w : World) (h : RowsR savC w A L) (hl : L.length + sumN L ≤ 1048576) :
    Calls Try.prog 46 #[.slice A L.length c] w (OwnSS L w) := by
  have hmk := make_rows (P := Try.prog) 27 45 (.slice none 0 0) 1 24 Try.underlying27 info_rowS L.length (by omega) (by omega)
  have HR := Lib.hid h
  clear h
  go_enter Try.func46, Try.ntmps46
  go_wp2
  go_loopw [4] (fun x wr => ∃ k : Nat, k ≤ L.length ∧ x = .int .i64 k ∧ Hid (RowsS w.heap.size wr.heap.size wr (.slice (some ⟨w.heap.size, 0, none⟩) L.length L.length) (L.take k ++ List.replicate (L.length - k) [])) ∧ Hid (Below w.heap.size w wr)) (fun x _ => L.length - (intOf x).toNat)
  case atStart => exact ⟨0, Nat.zero_le _, rfl, by
    show RowsO _ _ _ _ _ _ _ _ _
    have := RowsO.made (C := savC) (TT := 45) (T := 44) (sz := 2) (lo := w.heap.size) (hi := (w.alloc (.cells (madeCells #[Value.slice none 0 0] L.length) 45)).heap.size) w L.length (by simp only [maxLen]; omega) rfl (Nat.le_refl _) (by simp)
    simpa using this, b_alloc (Below.refl _ _) _⟩
  case round =>
    obtain ⟨k, hk, rfl, ho, hb⟩ := hrel
    have hML : (L.take k ++ List.replicate (L.length - k) []).length = L.length := by simp; omega
    by_cases hlt : k < L.length
    · obtain ⟨b, off, rfl, hc⟩ := HR.out.below hb.out (by omega)
      obtain ⟨Ai, ci, c1, c2, _, _⟩ := hc k hlt
      have hset := Lib.hid (rowsS_set hlt)
      have hsm := sumN_get hlt
      clear hc hmk
      obtain ⟨r, hr⟩ : ∃ r, r = L[k] := ⟨_, rfl⟩
      rw [← hr] at c1 c2 hset hsm
      clear hr
      obtain ⟨M, hM⟩ : ∃ M, M = L.take k ++ List.replicate (L.length - k) [] := ⟨_, rfl⟩
      rw [← hM] at ho hset hML
      clear hM
      rw [← hML] at ho
      go_wp2_with fail
      refine (toSavs_any Ai ci r _ (SavedIn.of c2) (by omega)).mono ?_
      rintro e w3 ⟨A3, c3, rfl, o3, b3⟩
      have ho3 := ho.out.below b3
      have Z3 := b3.size
      obtain ⟨g0, Ak, ck, e0, l0, l1, l2, hcell, hfz, _⟩ := ho3.row k (by omega)
      obtain rfl : g0 = w.heap.size := by injection e0 with e0; injection e0 with e0; exact e0.symm
      have HO := Lib.hid (show RowsS w.heap.size (w3.setCell ⟨w.heap.size, k, none⟩ (.slice A3 r.length c3)).heap.size (w3.setCell ⟨w.heap.size, k, none⟩ (.slice A3 r.length c3)) (.slice (some ⟨w.heap.size, 0, none⟩) L.length L.length) (L.take (k + 1) ++ List.replicate (L.length - (k + 1)) []) by
        have := ho3.setNew k (by omega) r A3 c3 o3 (Nat.le_refl _) (hi2 := w3.heap.size) (fun g hg => (o3.lt g hg).2) Z3
        rw [hset.out, hML] at this
        simpa using this)
      have HB := Lib.hid ((hb.out.trans (b3.mono hb.out.size)).setCell (p := ⟨w.heap.size, k, none⟩) (Nat.le_refl _) (.slice A3 r.length c3))
      clear ho ho3 o3 b3 hb c2
      go_wp2
      go_roundw
      case rel => exact ⟨k + 1, by omega, by go_num, HO, HB⟩
      case measure => simp [intOf]; omega
    · have hfin := Lib.hid (show OwnSS L w (.returned (.slice (some ⟨w.heap.size, 0, none⟩) L.length L.length)) wr from ⟨_, _, rfl, by
        have := ho.out
        rw [List.take_of_length_le (by omega), show L.length - k = 0 by omega] at this
        simpa using this, hb.out⟩)
      clear ho hb hmk
      go_wp2
      go_ret
      exact hfin.out

set_option maxHeartbeats 1000000 in
theorem eqSavSS_same (A B : Option Addr) (c d : Nat) (L : List (List Sv)) (w : World) (h1 : RowsR savC w A L) (h2 : RowsR savC w B L) (hl : L.length + sumN L ≤ 1000000000) :
    Calls Try.prog 48 #[.slice A L.length c, .slice B L.length d] w fun e w' => e = .returned (.bool true) ∧ Below w.heap.size w w' := by
  have hb : ((L.length : Int) != L.length) = false := by simp
  go_enter Try.func48, Try.ntmps48
  go_wp2
  go_loopw [5] (fun x wr => ∃ i : Nat, i ≤ L.length ∧ x = .int .i64 i ∧ Below w.heap.size w wr) (fun x _ => L.length - (intOf x).toNat)
  case atStart => exact ⟨0, Nat.zero_le _, rfl, Below.refl _ _⟩
  case round =>
    obtain ⟨i, hi, rfl, hbl⟩ := hrel
    by_cases hlt : i < L.length
    · obtain ⟨b1, o1, rfl, c1⟩ := h1.below hbl (by omega)
      obtain ⟨b2, o2, rfl, c2⟩ := h2.below hbl (by omega)
      obtain ⟨A1, k1, x1, y1, _, _⟩ := c1 i hlt
      obtain ⟨A2, k2, x2, y2, _, _⟩ := c2 i hlt
      have hsm := sumN_get hlt
      clear c1 c2 h1 h2
      obtain ⟨r, hr⟩ : ∃ r, r = L[i] := ⟨_, rfl⟩
      rw [← hr] at x1 x2 y1 y2 hsm
      have Hb := Lib.hid hbl
      have Y1 := Lib.hid y1
      have Y2 := Lib.hid y2
      clear hr hbl y1 y2
      go_wp2
      go_still_tail 8, (by kernel_rfl)
      change wpList _ _ _ _ _ wr.drew
      have Y3 := Lib.hid (show SavedIn wr.drew A1 r from SavedIn.of Y1.out)
      have Y4 := Lib.hid (show SavedIn wr.drew A2 r from SavedIn.of Y2.out)
      generalize hwd : wr.drew = w2 at *
      have hb2 : Below w.heap.size w w2 := by rw [← hwd]; exact Hb.out.drew
      clear hwd x1 x2 Y1 Y2
      go_wp2_with fail
      refine (eqSavs_same _ _ _ _ r _ Y3.out Y4.out (by omega)).mono ?_
      rintro e w3 ⟨rfl, b3⟩
      have hb3 := Lib.hid (hb2.trans (b3.mono hb2.size))
      clear Y3 Y4 hb2
      go_wp2
      go_roundw
      case rel => exact ⟨i + 1, by omega, by go_num, hb3.out⟩
      case measure => simp [intOf]; omega
    · go_wp2
      go_ret
      exact ⟨rfl, hbl⟩
end Go.Proofs.Ytkjjieofoolnhaa
