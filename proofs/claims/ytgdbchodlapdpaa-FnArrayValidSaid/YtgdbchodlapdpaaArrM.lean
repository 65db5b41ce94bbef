/- Contracts of markIntSS and heldIntSS, and of cloneArray. -/
import Derived.Test.YtgdbchodlapdpaaArrX
import Derived.Test.YtgdbchodlapdpaaCloneI
namespace Go.Proofs.Ytgdbchodlapdpaa
open Go.RowKit
set_option linter.unusedVariables false

def MarkO (base : Nat) (A : Option Addr) (c : Nat) (l : List Int) (k : Int) (w : World) (e : Ending) (w' : World) : Prop :=
  e = .returned (.int .i64 (k + l.length)) ∧ w'.ownsRow base 3 1 (.slice A l.length c) l.length ((marks k l.length).map (Value.int .i64)) ∧ ∃ a b, Turn a b w w' ∧ ∀ g, a ≤ g → g < b → (Value.slice A l.length c).ownBlock = some g
set_option maxHeartbeats 1000000 in
theorem markO_any (base : Nat) (A : Option Addr) (c : Nat) (l : List Int) (k : Int) (w : World) (h : w.ownsRow base 3 1 (.slice A l.length c) l.length (l.map (Value.int .i64))) (hk : 0 ≤ k ∧ k ≤ 1000000000000) (hl : l.length ≤ 1000000000000) :
    Calls Try.prog 53 #[.slice A l.length c, .int .i64 k] w (MarkO base A c l k w) := by
  obtain ⟨ra, rb, hin, hrg⟩ : ∃ ra rb, (∀ g, 0 < l.length → A = some ⟨g, 0, none⟩ → ra ≤ g ∧ g < rb) ∧ ∀ g, ra ≤ g → g < rb → (Value.slice A l.length c).ownBlock = some g := by
    rcases own_cases h with ⟨hv, h0⟩ | ⟨g, cap, hv, hb, hg⟩
    · exact ⟨0, 0, fun g hp => by omega, fun g _ hg => by omega⟩
    · injection hv with hA
      subst hA
      refine ⟨g, g + 1, fun g' _ e => by injection e with e; injection e with e; omega, fun g' h1 h2 => ?_⟩
      simp only [Value.ownBlock, Option.some.injEq]
      omega
  have hfin := Lib.hid (fun w' (ho : w'.ownsRow base 3 1 (.slice A l.length c) l.length ((marks k l.length).map (Value.int .i64))) (ht : Turn ra rb w w') => show MarkO base A c l k w (.returned (.int .i64 (k + l.length))) w' from ⟨rfl, ho, ra, rb, ht, hrg⟩)
  have HIN := Lib.hid hin
  clear hin hrg
  go_enter Try.func53, Try.ntmps53
  go_wp2
  go_loopw [1, 5] (fun x y wr => ∃ i : Nat, i ≤ l.length ∧ x = .int .i64 (k + i) ∧ y = .int .i64 i ∧ Hid (wr.ownsRow base 3 1 (.slice A l.length c) l.length ((marks k i ++ l.drop i).map (Value.int .i64))) ∧ Hid (Turn ra rb w wr)) (fun _ y _ => l.length - (intOf y).toNat)
  case atStart => exact ⟨0, Nat.zero_le _, by go_num, rfl, by show World.ownsRow _ _ _ _ _ _ _; simpa [marks] using h, Turn.refl _ _ _⟩
  case round =>
    obtain ⟨i, hi, rfl, rfl, ho, ht⟩ := hrel
    by_cases hlt : i < l.length
    · rcases own_cases ho.out with ⟨_, h0⟩ | ⟨g, cap, hv, hb, hg⟩
      · omega
      · injection hv with hA _ hcap
        subst hA hcap
        obtain ⟨r1, r2⟩ := HIN.out g (by omega) rfl
        have hcell := ho.out.cellAt i (by omega)
        have hfr := ho.out.frozenAt i
        rw [List.getElem?_eq_getElem (by simp [marks_length]; omega)] at hcell
        obtain ⟨u0, hu0⟩ : ∃ u, u = ((marks k i ++ l.drop i).map (Value.int .i64))[i]'(by simp [marks_length]; omega) := ⟨_, rfl⟩
        rw [← hu0] at hcell
        have hst := (ho.out.stored i (.int .i64 (k + (i : Int)))).1
        rw [marked_set k i l hlt] at hst
        have HO := Lib.hid hst
        have HT := Lib.hid (ht.out.setCell (p := ⟨g, i, none⟩) r1 r2 (.int .i64 (k + (i : Int))))
        clear hst ho ht hu0
        go_wp2
        go_roundw
        case rel => exact ⟨i + 1, by omega, by go_num, by go_num, HO, HT⟩
        case measure => simp [intOf]; omega
    · obtain rfl : i = l.length := by omega
      have hf := Lib.hid (hfin.out wr (by have := ho.out; simpa using this) ht.out)
      clear ho ht hfin
      go_wp2
      go_ret
      exact hf.out

/-- The marks of all rows. -/
def mkRows (k : Int) : List (List Int) → List (List Int)
  | [] => []
  | r :: t => marks k r.length :: mkRows (k + r.length) t
theorem mkRows_append (k : Int) (L M : List (List Int)) : mkRows k (L ++ M) = mkRows k L ++ mkRows (k + sumN L) M := by
  induction L generalizing k with
  | nil => simp [mkRows, sumN]
  | cons r t ih =>
    simp only [List.cons_append, mkRows, ih, sumN]
    rw [show k + (r.length : Int) + (sumN t : Int) = k + ((r.length + sumN t : Nat) : Int) by omega]
theorem mkRows_step {k : Int} {L : List (List Int)} {i : Nat} (h : i < L.length) : mkRows k (L.take (i + 1)) = mkRows k (L.take i) ++ [marks (k + sumN (L.take i)) L[i].length] := by
  rw [List.take_succ_eq_append_getElem h, mkRows_append]
  simp [mkRows]
theorem mkRows_length (k : Int) (L : List (List Int)) : (mkRows k L).length = L.length := by
  induction L generalizing k with
  | nil => rfl
  | cons r t ih => simp [mkRows, ih]
theorem mkRows_get {k : Int} {L : List (List Int)} {i : Nat} (h : i < L.length) : (mkRows k L)[i]'(by rw [mkRows_length]; exact h) = marks (k + sumN (L.take i)) L[i].length := by
  have h1 := mkRows_step (k := k) h
  have h2 : (mkRows k (L.take (i + 1)))[i]? = some (marks (k + sumN (L.take i)) L[i].length) := by
    rw [h1, List.getElem?_append_right (by rw [mkRows_length, List.length_take]; omega), mkRows_length, List.length_take, Nat.min_eq_left (by omega), Nat.sub_self]
    rfl
  have h3 := mkRows_append k (L.take (i + 1)) (L.drop (i + 1))
  rw [List.take_append_drop] at h3
  have h4 : (mkRows k L)[i]? = some (marks (k + sumN (L.take i)) L[i].length) := by
    rw [h3, List.getElem?_append_left (by rw [mkRows_length, List.length_take]; omega)]
    exact h2
  rw [List.getElem?_eq_getElem (by rw [mkRows_length]; exact h)] at h4
  injection h4
theorem mkRows_set {k : Int} {L : List (List Int)} {i : Nat} (h : i < L.length) : (mkRows k (L.take i) ++ L.drop i).set i (marks (k + sumN (L.take i)) L[i].length) = mkRows k (L.take (i + 1)) ++ L.drop (i + 1) := by
  have hl : (mkRows k (L.take i)).length = i := by rw [mkRows_length, List.length_take]; omega
  rw [List.set_append_right _ _ (by omega), hl, Nat.sub_self, List.drop_eq_getElem_cons h, List.set_cons_zero, mkRows_step h, List.append_assoc]
  rfl

def MarkRows (lo hi : Nat) (A : Option Addr) (c : Nat) (L : List (List Int)) (k : Int) (w : World) (e : Ending) (w' : World) : Prop :=
  e = .returned (.int .i64 (k + sumN L)) ∧ RowsI lo hi w' (.slice A L.length c) (mkRows k L) ∧ Turn lo hi w w'
set_option maxHeartbeats 1000000 in
theorem markRows_any (lo up : Nat) (A : Option Addr) (c : Nat) (L : List (List Int)) (k : Int) (w : World) (h : RowsI lo up w (.slice A L.length c) L) (hk : 0 ≤ k ∧ k ≤ 1000000000) (hl : L.length + sumN L ≤ 1000000000) :
    Calls Try.prog 28 #[.slice A L.length c, .int .i64 k] w (MarkRows lo up A c L k w) := by
  go_enter Try.func28, Try.ntmps28
  go_wp2
  go_loopw [1, 5] (fun x y wr => ∃ (i : Nat) (q : Int), i ≤ L.length ∧ x = .int .i64 q ∧ y = .int .i64 i ∧ q = k + sumN (L.take i) ∧ Hid (RowsI lo up wr (.slice A L.length c) (mkRows k (L.take i) ++ L.drop i)) ∧ Hid (Turn lo up w wr)) (fun _ y _ => L.length - (intOf y).toNat)
  case atStart => exact ⟨0, k, Nat.zero_le _, rfl, rfl, by simp [sumN], by show RowsO _ _ _ _ _ _ _ _ _; simpa [mkRows] using h, Turn.refl _ _ _⟩
  case round =>
    obtain ⟨i, q, hi, rfl, rfl, hq, ho, ht⟩ := hrel
    by_cases hlt : i < L.length
    · obtain ⟨M, hML, hMq, hset, ho⟩ : ∃ M : List (List Int), M.length = L.length ∧ M[i]? = some L[i] ∧ M.set i (marks (k + sumN (L.take i)) L[i].length) = mkRows k (L.take (i + 1)) ++ L.drop (i + 1) ∧ Hid (RowsI lo up wr (.slice A L.length c) M) := by
        refine ⟨_, ?_, ?_, mkRows_set (k := k) hlt, ho⟩
        · rw [List.length_append, mkRows_length, List.length_take, List.length_drop]; omega
        · rw [List.getElem?_append_right (by rw [mkRows_length, List.length_take]; omega), mkRows_length, List.length_take, Nat.min_eq_left hi, Nat.sub_self, List.getElem?_drop, Nat.add_zero, List.getElem?_eq_getElem hlt]
      have hMi : M[i]'(by omega) = L[i] := by
        rw [List.getElem?_eq_getElem (by omega)] at hMq
        injection hMq
      have hstep := sumN_step hlt
      have hle := sumN_take L (i + 1)
      clear hMq
      have hoo := ho.out
      rw [← hML] at hoo
      obtain ⟨g0, Ai, ci, hA, l0, l1, l2, hcell, hfz, hrow, hblk⟩ := hoo.row i (by omega)
      rw [hMi] at hcell hrow hblk
      obtain ⟨r, hr⟩ : ∃ r, r = L[i] := ⟨_, rfl⟩
      rw [← hr] at hcell hrow hblk hset hstep hMi
      rw [← hq] at hset
      have hrl : r.length ≤ 1000000000 := by omega
      have Hs := Lib.hid hset
      have HR := Lib.hid hrow
      have HO := Lib.hid hoo
      have HMi := Lib.hid hMi
      have HBk := Lib.hid hblk
      clear hset hrow hoo ho hr hMi hblk
      have HQ := Lib.hid hq
      have hq1 : 0 ≤ q ∧ q ≤ 3000000000 := by omega
      clear hq
      have hA' := hA
      subst hA'
      go_wp2_with fail
      refine (markO_any lo Ai ci r q _ HR.out (by omega) (by omega)).mono ?_
      rintro e w3 ⟨rfl, o3, a, b, t3, hab⟩
      have hnew := HO.out.turnRow i (by omega) (marks q r.length) rfl (by rw [HMi.out]; exact hcell) t3 (by rw [HMi.out]; exact hab) (by rw [HMi.out, marks_length]) (by rw [HMi.out]; exact o3)
      rw [Hs.out, hML] at hnew
      have HN := Lib.hid hnew
      have HT := Lib.hid (show Turn lo up w w3 from by
        have t3' : Turn lo up _ w3 := t3.wide (lo := lo) (hi := up) (fun g h1 h2 => ⟨(HR.out.lt g (hab g h1 h2)).1, (HBk.out g (hab g h1 h2)).1⟩)
        exact ht.out.trans t3')
      clear hnew t3 o3 hab HO HR Hs HMi HBk ht
      go_wp2
      go_roundw
      case rel => exact ⟨i + 1, q + r.length, by omega, by go_num, by go_num, by have := HQ.out; omega, HN, HT⟩
      case measure => simp [intOf]; omega
    · have hfin := Lib.hid (show MarkRows lo up A c L k w (.returned (.int .i64 q)) wr from by
        have h1 := ho.out
        rw [List.take_of_length_le (by omega), List.drop_of_length_le (by omega), List.append_nil] at h1
        rw [List.take_of_length_le (by omega)] at hq
        exact ⟨by rw [hq], h1, ht.out⟩)
      clear ho ht hq
      go_wp2
      go_ret
      exact hfin.out

set_option maxHeartbeats 1000000 in
theorem heldRows_any (A : Option Addr) (c : Nat) (L : List (List Int)) (k : Int) (w : World) (h : RowsR CI w A (mkRows k L)) (hk : 0 ≤ k ∧ k ≤ 1000000000) (hl : L.length + sumN L ≤ 1000000000) :
    Calls Try.prog 29 #[.slice A L.length c, .int .i64 k] w fun e w' => e = .returned (.int .i64 (k + sumN L)) ∧ w = w' := by
  have HR := Lib.hid h
  clear h
  go_enter Try.func29, Try.ntmps29
  go_wp2
  go_loop [1, 5] (fun x y => ∃ (i : Nat) (q : Int), i ≤ L.length ∧ x = .int .i64 q ∧ y = .int .i64 i ∧ q = k + sumN (L.take i)) (fun _ y => L.length - (intOf y).toNat)
  case atStart => exact ⟨0, k, Nat.zero_le _, rfl, rfl, by simp [sumN]⟩
  case round =>
    obtain ⟨i, q, hi, rfl, rfl, hq⟩ := hrel
    by_cases hlt : i < L.length
    · obtain ⟨b, off, rfl, hc⟩ := HR.out (by rw [mkRows_length]; omega)
      obtain ⟨Ai, ci, x1, y1, _, _⟩ := hc i (by rw [mkRows_length]; omega)
      rw [mkRows_get hlt, ← hq] at x1 y1
      rw [marks_length] at x1
      have hstep := sumN_step hlt
      have hle := sumN_take L (i + 1)
      obtain ⟨n, hn⟩ : ∃ n, n = L[i].length := ⟨_, rfl⟩
      rw [← hn] at x1 y1 hstep
      have Y := Lib.hid (IntsIn.of y1)
      have HQ := Lib.hid hq
      have hq1 : 0 ≤ q ∧ q ≤ 3000000000 := by omega
      clear hc y1 hn hq
      have hnn : n ≤ 1000000000 := by omega
      go_wp2_with (go_at_call 54; refine (held_any Ai n ci q _ Y.out (by omega) (by omega)).mono ?_; rintro e w' ⟨rfl, rfl⟩)
      go_round
      case rel => exact ⟨i + 1, q + n, by omega, by go_num, by go_num, by have := HQ.out; omega⟩
      case measure => simp [intOf]; omega
    · rw [List.take_of_length_le (by omega)] at hq
      rw [hq]
      clear hq
      go_wp2
      go_ret
      exact ⟨rfl, rfl⟩

set_option maxHeartbeats 1000000 in
theorem cloneRows_any (A : Option Addr) (c : Nat) (L : List (List Int)) (w : World) (h : RowsR CI w A L) (hl : L.length + sumN L ≤ 1048576) :
    Calls Try.prog 52 #[.slice A L.length c] w (OwnRows L w) := by
  have hmk := make_rows (P := Try.prog) 22 30 (.slice none 0 0) 1 24 Try.underlying22 info_row L.length (by omega) (by omega)
  have HR := Lib.hid h
  clear h
  go_enter Try.func52, Try.ntmps52
  go_wp2
  go_loopw [11] (fun x wr => ∃ k : Nat, k ≤ L.length ∧ x = .int .i64 k ∧ Hid (RowsI w.heap.size wr.heap.size wr (.slice (some ⟨w.heap.size, 0, none⟩) L.length L.length) (L.take k ++ List.replicate (L.length - k) [])) ∧ Hid (Below w.heap.size w wr)) (fun x _ => L.length - (intOf x).toNat)
  case atStart => exact ⟨0, Nat.zero_le _, rfl, by
    show RowsO _ _ _ _ _ _ _ _ _
    have := RowsO.made (C := CI) (TT := 30) (T := 3) (sz := 1) (lo := w.heap.size) (hi := (w.alloc (.cells (madeCells #[Value.slice none 0 0] L.length) 30)).heap.size) w L.length (by simp only [maxLen]; omega) rfl (Nat.le_refl _) (by simp)
    simpa using this, b_alloc (Below.refl _ _) _⟩
  case round =>
    obtain ⟨k, hk, rfl, ho, hb⟩ := hrel
    have hML : (L.take k ++ List.replicate (L.length - k) []).length = L.length := by simp; omega
    by_cases hlt : k < L.length
    · obtain ⟨b, off, rfl, hc⟩ := HR.out.below hb.out (by omega)
      obtain ⟨Ai, ci, c1, c2, _, _⟩ := hc k hlt
      have hset := Lib.hid (rows_set hlt)
      have hsm := sumN_get hlt
      clear hc hmk
      obtain ⟨r, hr⟩ : ∃ r, r = L[k] := ⟨_, rfl⟩
      rw [← hr] at c1 c2 hset hsm
      clear hr
      obtain ⟨M, hM⟩ : ∃ M, M = L.take k ++ List.replicate (L.length - k) [] := ⟨_, rfl⟩
      rw [← hM] at ho hset hML
      clear hM
      rw [← hML] at ho
      go_wp2_with fail
      refine (clone_ints Ai r.length ci _ _ c2 (by simp) (by intro u hu; simp only [List.mem_map] at hu; obtain ⟨x, _, rfl⟩ := hu; rfl) (by omega)).mono ?_
      rintro e w3 ⟨v3, rfl, o3, b3⟩
      obtain ⟨A3, c3, rfl⟩ := own_slice o3
      have ho3 := ho.out.below b3
      have Z3 := b3.size
      obtain ⟨g0, Ak, ck, e0, l0, l1, l2, hcell, hfz, _⟩ := ho3.row k (by omega)
      obtain rfl : g0 = w.heap.size := by injection e0 with e0; injection e0 with e0; exact e0.symm
      have HO := Lib.hid (show RowsI w.heap.size (w3.setCell ⟨w.heap.size, k, none⟩ (.slice A3 r.length c3)).heap.size (w3.setCell ⟨w.heap.size, k, none⟩ (.slice A3 r.length c3)) (.slice (some ⟨w.heap.size, 0, none⟩) L.length L.length) (L.take (k + 1) ++ List.replicate (L.length - (k + 1)) []) by
        have := ho3.setNew k (by omega) r A3 c3 o3 (Nat.le_refl _) (hi2 := w3.heap.size) (fun g hg => (o3.lt g hg).2) Z3
        rw [hset.out, hML] at this
        simpa using this)
      have HB := Lib.hid ((hb.out.trans (b3.mono hb.out.size)).setCell (p := ⟨w.heap.size, k, none⟩) (Nat.le_refl _) (.slice A3 r.length c3))
      clear ho ho3 o3 b3 hb c2
      go_wp2
      go_roundw
      case rel => exact ⟨k + 1, by omega, by go_num, HO, HB⟩
      case measure => simp [intOf]; omega
    · have hfin := Lib.hid (show OwnRows L w (.returned (.slice (some ⟨w.heap.size, 0, none⟩) L.length L.length)) wr from ⟨_, _, rfl, by
        have := ho.out
        rw [List.take_of_length_le (by omega), show L.length - k = 0 by omega] at this
        simpa using this, hb.out⟩)
      clear ho hb hmk
      go_wp2
      go_ret
      exact hfin.out
end Go.Proofs.Ytgdbchodlapdpaa
