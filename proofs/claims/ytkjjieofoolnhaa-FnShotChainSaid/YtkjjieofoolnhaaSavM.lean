/- The contracts of markSavedS, heldSavedS, markSavedSS and heldSavedSS. -/
import Derived.Test.YtkjjieofoolnhaaSavW
import Derived.Test.YtkjjieofoolnhaaMark
namespace Go.Proofs.Ytkjjieofoolnhaa
open Go.RowKit
set_option linter.unusedVariables false

/-- The saved value number i of the marks from k on. -/
def markS (k : Int) : Sv := (k, k + 1)
def marksS (k : Int) (n : Nat) : List Sv := (List.range n).map fun (j : Nat) => markS (k + 2 * (j : Int))
theorem marksS_length (k : Int) (n : Nat) : (marksS k n).length = n := by simp [marksS]
theorem marksS_get (k : Int) (n i : Nat) (h : i < (marksS k n).length) : (marksS k n)[i] = markS (k + 2 * i) := by simp [marksS]
theorem marksS_succ (k : Int) (n : Nat) : marksS k (n + 1) = marksS k n ++ [markS (k + 2 * (n : Int))] := by simp [marksS, List.range_succ]
theorem savC_set (l : List Sv) (i : Nat) (h : i < l.length) (q : Sv) :
    ((savC l).set (i * 2) (.int .i64 q.1)).set (i * 2 + 1) (.int .i64 q.2) = savC (l.set i q) := by
  induction l generalizing i with
  | nil => simp at h
  | cons p r ih =>
    cases i with
    | zero => rfl
    | succ i =>
      have e : savC (p :: r) = .int .i64 p.1 :: .int .i64 p.2 :: savC r := rfl
      have e2 : savC ((p :: r).set (i + 1) q) = .int .i64 p.1 :: .int .i64 p.2 :: savC (r.set i q) := rfl
      rw [e2, ← ih i (by simpa using h), e, show (i + 1) * 2 = i * 2 + 1 + 1 by omega]
      rfl
theorem markedS_set (k : Int) (i : Nat) (l : List Sv) (h : i < l.length) : (marksS k i ++ l.drop i).set i (markS (k + 2 * (i : Int))) = marksS k (i + 1) ++ l.drop (i + 1) := by
  rw [List.set_append_right _ _ (by rw [marksS_length]; omega), marksS_length, Nat.sub_self, List.drop_eq_getElem_cons h, List.set_cons_zero, marksS_succ, List.append_assoc]
  rfl

def MarkSO (base : Nat) (A : Option Addr) (c : Nat) (l : List Sv) (k : Int) (w : World) (e : Ending) (w' : World) : Prop :=
  e = .returned (.int .i64 (k + 2 * l.length)) ∧ w'.ownsRow base 44 2 (.slice A l.length c) l.length (savC (marksS k l.length)) ∧ ∃ a b, Turn a b w w' ∧ ∀ g, a ≤ g → g < b → (Value.slice A l.length c).ownBlock = some g
set_option maxHeartbeats 1000000 in
theorem markSavO_any (base : Nat) (A : Option Addr) (c : Nat) (l : List Sv) (k : Int) (w : World) (h : w.ownsRow base 44 2 (.slice A l.length c) l.length (savC l)) (hk : 0 ≤ k ∧ k ≤ 1000000000000) (hl : l.length ≤ 1000000000) :
    Calls Try.prog 69 #[.slice A l.length c, .int .i64 k] w (MarkSO base A c l k w) := by
  obtain ⟨ra, rb, hin, hrg⟩ : ∃ ra rb, (∀ g, 0 < l.length → A = some ⟨g, 0, none⟩ → ra ≤ g ∧ g < rb) ∧ ∀ g, ra ≤ g → g < rb → (Value.slice A l.length c).ownBlock = some g := by
    rcases own_cases h with ⟨hv, h0⟩ | ⟨g, cap, hv, hb, hg⟩
    · exact ⟨0, 0, fun g hp => by omega, fun g _ hg => by omega⟩
    · injection hv with hA
      subst hA
      refine ⟨g, g + 1, fun g' _ e => by injection e with e; injection e with e; omega, fun g' h1 h2 => ?_⟩
      simp only [Value.ownBlock, Option.some.injEq]
      omega
  have hfin := Lib.hid (fun w' (ho : w'.ownsRow base 44 2 (.slice A l.length c) l.length (savC (marksS k l.length))) (ht : Turn ra rb w w') => show MarkSO base A c l k w (.returned (.int .i64 (k + 2 * l.length))) w' from ⟨rfl, ho, ra, rb, ht, hrg⟩)
  have HIN := Lib.hid hin
  clear hin hrg
  go_enter Try.func69, Try.ntmps69
  go_wp2
  go_loopw [1, 5] (fun x y wr => ∃ (i : Nat) (q : Int), i ≤ l.length ∧ x = .int .i64 q ∧ q = k + 2 * i ∧ y = .int .i64 i ∧ Hid (wr.ownsRow base 44 2 (.slice A l.length c) l.length (savC (marksS k i ++ l.drop i))) ∧ Hid (Turn ra rb w wr)) (fun _ y _ => l.length - (intOf y).toNat)
  case atStart => exact ⟨0, k, Nat.zero_le _, rfl, by simp, rfl, by show World.ownsRow _ _ _ _ _ _ _; simpa [marksS] using h, Turn.refl _ _ _⟩
  case round =>
    obtain ⟨i, q, hi, rfl, hq, rfl, ho, ht⟩ := hrel
    by_cases hlt : i < l.length
    · rcases own_cases ho.out with ⟨_, h0⟩ | ⟨g, cap, hv, hb, hg⟩
      · omega
      · injection hv with hA _ hcap
        subst hA hcap
        obtain ⟨r1, r2⟩ := HIN.out g (by omega) rfl
        have hll : (marksS k i ++ l.drop i).length = l.length := by simp [marksS_length]; omega
        have hcl : (savC (marksS k i ++ l.drop i)).length = 2 * l.length := by rw [savC_length, hll]
        obtain ⟨u0, hu0⟩ : ∃ u, wr.cell? ⟨g, i * 2, none⟩ = some u := ⟨_, by rw [ho.out.cellAt (i * 2) (by omega)]; exact List.getElem?_eq_getElem (by omega)⟩
        obtain ⟨u1, hu1⟩ : ∃ u, wr.cell? ⟨g, i * 2 + 1, none⟩ = some u := ⟨_, by rw [ho.out.cellAt (i * 2 + 1) (by omega)]; exact List.getElem?_eq_getElem (by omega)⟩
        have hf0 := ho.out.frozenAt (i * 2)
        have hf1 := ho.out.frozenAt (i * 2 + 1)
        have hset := savC_set (marksS k i ++ l.drop i) i (by omega) (markS q)
        rw [show markS q = markS (k + 2 * (i : Int)) by rw [hq], markedS_set k i l hlt, ← hq] at hset
        have hst := ((ho.out.stored (i * 2) (.int .i64 (markS q).1)).1.stored (i * 2 + 1) (.int .i64 (markS q).2)).1
        rw [hset] at hst
        have htt := (ht.out.setCell (p := ⟨g, i * 2, none⟩) r1 r2 (.int .i64 (markS q).1)).setCell (p := ⟨g, i * 2 + 1, none⟩) r1 r2 (.int .i64 (markS q).2)
        simp only [markS] at hst htt
        have HO := Lib.hid hst
        have HT := Lib.hid htt
        have q0 : 0 ≤ q := by omega
        have q1 : q ≤ 2000000000000 := by omega
        have HQ := Lib.hid hq
        clear hst htt ho ht hset hq hll hcl h
        go_wp2
        go_roundw
        case rel => exact ⟨i + 1, q + 1 + 1, by omega, by go_num, by have := HQ.out; omega, by go_num, HO, HT⟩
        case measure => simp [intOf]; omega
    · obtain rfl : i = l.length := by omega
      have hf := Lib.hid (hfin.out wr (by have := ho.out; simpa using this) ht.out)
      rw [← hq] at hf
      clear ho ht hfin hq
      go_wp2
      go_ret
      exact hf.out

set_option maxHeartbeats 1000000 in
theorem heldSav_any (A : Option Addr) (n c : Nat) (k : Int) (w : World) (h : SavedIn w A (marksS k n)) (hk : 0 ≤ k ∧ k ≤ 1000000000000) (hl : n ≤ 1000000000) :
    Calls Try.prog 70 #[.slice A n c, .int .i64 k] w fun e w' => e = .returned (.int .i64 (k + 2 * n)) ∧ w = w' := by
  go_enter Try.func70, Try.ntmps70
  go_wp2
  go_loop [1, 5] (fun x y => ∃ (i : Nat) (q : Int), i ≤ n ∧ x = .int .i64 q ∧ q = k + 2 * i ∧ y = .int .i64 i) (fun _ y => n - (intOf y).toNat)
  case atStart => exact ⟨0, k, Nat.zero_le _, rfl, by simp, rfl⟩
  case round =>
    obtain ⟨i, q, hi, rfl, hq, rfl⟩ := hrel
    by_cases hlt : i < n
    · obtain ⟨b, off, rfl, hc⟩ := h (by rw [marksS_length]; omega)
      obtain ⟨c1, c2⟩ := hc i (by rw [marksS_length]; omega)
      rw [marksS_get, ← hq] at c1 c2
      simp only [markS] at c1 c2
      have e1 : (q != q) = false := by simp
      have e2 : (q + 1 != q + 1) = false := by simp
      have q0 : 0 ≤ q := by omega
      have q1 : q ≤ 2000000000000 := by omega
      have HQ := Lib.hid hq
      clear hc h hq
      go_wp2
      go_round
      case rel => exact ⟨i + 1, q + 1 + 1, by omega, by go_num, by have := HQ.out; omega, by go_num⟩
      case measure => simp [intOf]; omega
    · obtain rfl : i = n := by omega
      rw [hq]
      go_wp2
      go_ret
      exact ⟨rfl, rfl⟩

/-- The marks of all snapshots. -/
def mkSS (k : Int) : List (List Sv) → List (List Sv)
  | [] => []
  | r :: t => marksS k r.length :: mkSS (k + 2 * r.length) t
theorem mkSS_append (k : Int) (L M : List (List Sv)) : mkSS k (L ++ M) = mkSS k L ++ mkSS (k + 2 * sumN L) M := by
  induction L generalizing k with
  | nil => simp [mkSS, sumN]
  | cons r t ih =>
    simp only [List.cons_append, mkSS, ih, sumN]
    rw [show k + 2 * (r.length : Int) + 2 * (sumN t : Int) = k + 2 * ((r.length + sumN t : Nat) : Int) by omega]
theorem mkSS_step {k : Int} {L : List (List Sv)} {i : Nat} (h : i < L.length) : mkSS k (L.take (i + 1)) = mkSS k (L.take i) ++ [marksS (k + 2 * sumN (L.take i)) L[i].length] := by
  rw [List.take_succ_eq_append_getElem h, mkSS_append]
  simp [mkSS]
theorem mkSS_length (k : Int) (L : List (List Sv)) : (mkSS k L).length = L.length := by
  induction L generalizing k with
  | nil => rfl
  | cons r t ih => simp [mkSS, ih]
theorem mkSS_get {k : Int} {L : List (List Sv)} {i : Nat} (h : i < L.length) : (mkSS k L)[i]'(by rw [mkSS_length]; exact h) = marksS (k + 2 * sumN (L.take i)) L[i].length := by
  have h1 := mkSS_step (k := k) h
  have h2 : (mkSS k (L.take (i + 1)))[i]? = some (marksS (k + 2 * sumN (L.take i)) L[i].length) := by
    rw [h1, List.getElem?_append_right (by rw [mkSS_length, List.length_take]; omega), mkSS_length, List.length_take, Nat.min_eq_left (by omega), Nat.sub_self]
    rfl
  have h3 := mkSS_append k (L.take (i + 1)) (L.drop (i + 1))
  rw [List.take_append_drop] at h3
  have h4 : (mkSS k L)[i]? = some (marksS (k + 2 * sumN (L.take i)) L[i].length) := by
    rw [h3, List.getElem?_append_left (by rw [mkSS_length, List.length_take]; omega)]
    exact h2
  rw [List.getElem?_eq_getElem (by rw [mkSS_length]; exact h)] at h4
  injection h4
theorem mkSS_set {k : Int} {L : List (List Sv)} {i : Nat} (h : i < L.length) : (mkSS k (L.take i) ++ L.drop i).set i (marksS (k + 2 * sumN (L.take i)) L[i].length) = mkSS k (L.take (i + 1)) ++ L.drop (i + 1) := by
  have hl : (mkSS k (L.take i)).length = i := by rw [mkSS_length, List.length_take]; omega
  rw [List.set_append_right _ _ (by omega), hl, Nat.sub_self, List.drop_eq_getElem_cons h, List.set_cons_zero, mkSS_step h, List.append_assoc]
  rfl

def MarkSS (lo hi : Nat) (A : Option Addr) (c : Nat) (L : List (List Sv)) (k : Int) (w : World) (e : Ending) (w' : World) : Prop :=
  e = .returned (.int .i64 (k + 2 * sumN L)) ∧ RowsS lo hi w' (.slice A L.length c) (mkSS k L) ∧ Turn lo hi w w'
set_option maxHeartbeats 1000000 in
theorem markSS_any (lo up : Nat) (A : Option Addr) (c : Nat) (L : List (List Sv)) (k : Int) (w : World) (h : RowsS lo up w (.slice A L.length c) L) (hk : 0 ≤ k ∧ k ≤ 1000000000) (hl : L.length + sumN L ≤ 1000000000) :
    Calls Try.prog 49 #[.slice A L.length c, .int .i64 k] w (MarkSS lo up A c L k w) := by
  go_enter Try.func49, Try.ntmps49
  go_wp2
  go_loopw [1, 5] (fun x y wr => ∃ (i : Nat) (q : Int), i ≤ L.length ∧ x = .int .i64 q ∧ y = .int .i64 i ∧ q = k + 2 * sumN (L.take i) ∧ Hid (RowsS lo up wr (.slice A L.length c) (mkSS k (L.take i) ++ L.drop i)) ∧ Hid (Turn lo up w wr)) (fun _ y _ => L.length - (intOf y).toNat)
  case atStart => exact ⟨0, k, Nat.zero_le _, rfl, rfl, by simp [sumN], by show RowsO _ _ _ _ _ _ _ _ _; simpa [mkSS] using h, Turn.refl _ _ _⟩
  case round =>
    obtain ⟨i, q, hi, rfl, rfl, hq, ho, ht⟩ := hrel
    by_cases hlt : i < L.length
    · obtain ⟨M, hML, hMq, hset, ho⟩ : ∃ M : List (List Sv), M.length = L.length ∧ M[i]? = some L[i] ∧ M.set i (marksS (k + 2 * sumN (L.take i)) L[i].length) = mkSS k (L.take (i + 1)) ++ L.drop (i + 1) ∧ Hid (RowsS lo up wr (.slice A L.length c) M) := by
        refine ⟨_, ?_, ?_, mkSS_set (k := k) hlt, ho⟩
        · rw [List.length_append, mkSS_length, List.length_take, List.length_drop]; omega
        · rw [List.getElem?_append_right (by rw [mkSS_length, List.length_take]; omega), mkSS_length, List.length_take, Nat.min_eq_left hi, Nat.sub_self, List.getElem?_drop, Nat.add_zero, List.getElem?_eq_getElem hlt]
      have hMi : M[i]'(by omega) = L[i] := by
        rw [List.getElem?_eq_getElem (by omega)] at hMq
        injection hMq
      have hstep := sumN_step hlt
      have hle := sumN_take L (i + 1)
      clear hMq
      have hoo := ho.out
      rw [← hML] at hoo
      obtain ⟨g0, Ai, ci, hA, l0, l1, l2, hcell, hfz, hrow, hblk⟩ := hoo.row i (by omega)
      rw [hMi] at hcell hrow hblk
      obtain ⟨r, hr⟩ : ∃ r, r = L[i] := ⟨_, rfl⟩
      rw [← hr] at hcell hrow hblk hset hstep hMi
      rw [← hq] at hset
      have hrl : r.length ≤ 1000000000 := by omega
      have Hs := Lib.hid hset
      have HR := Lib.hid hrow
      have HO := Lib.hid hoo
      have HMi := Lib.hid hMi
      have HBk := Lib.hid hblk
      clear hset hrow hoo ho hr hMi hblk
      have HQ := Lib.hid hq
      have hq1 : 0 ≤ q ∧ q ≤ 3000000000 := by omega
      clear hq
      have hA' := hA
      subst hA'
      go_wp2_with fail
      refine (markSavO_any lo Ai ci r q _ HR.out (by omega) (by omega)).mono ?_
      rintro e w3 ⟨rfl, o3, a, b, t3, hab⟩
      have hnew := HO.out.turnRow i (by omega) (marksS q r.length) rfl (by rw [HMi.out]; exact hcell) t3 (by rw [HMi.out]; exact hab) (by rw [HMi.out, marksS_length]) (by rw [HMi.out]; exact o3)
      rw [Hs.out, hML] at hnew
      have HN := Lib.hid hnew
      have HT := Lib.hid (show Turn lo up w w3 from by
        have t3' : Turn lo up _ w3 := t3.wide (lo := lo) (hi := up) (fun g h1 h2 => ⟨(HR.out.lt g (hab g h1 h2)).1, (HBk.out g (hab g h1 h2)).1⟩)
        exact ht.out.trans t3')
      clear hnew t3 o3 hab HO HR Hs HMi HBk ht
      go_wp2
      go_roundw
      case rel => exact ⟨i + 1, q + 2 * r.length, by omega, by go_num, by go_num, by have := HQ.out; omega, HN, HT⟩
      case measure => simp [intOf]; omega
    · have hfin := Lib.hid (show MarkSS lo up A c L k w (.returned (.int .i64 q)) wr from by
        have h1 := ho.out
        rw [List.take_of_length_le (by omega), List.drop_of_length_le (by omega), List.append_nil] at h1
        rw [List.take_of_length_le (by omega)] at hq
        exact ⟨by rw [hq], h1, ht.out⟩)
      clear ho ht hq
      go_wp2
      go_ret
      exact hfin.out

set_option maxHeartbeats 1000000 in
theorem heldSS_any (A : Option Addr) (c : Nat) (L : List (List Sv)) (k : Int) (w : World) (h : RowsR savC w A (mkSS k L)) (hk : 0 ≤ k ∧ k ≤ 1000000000) (hl : L.length + sumN L ≤ 1000000000) :
    Calls Try.prog 50 #[.slice A L.length c, .int .i64 k] w fun e w' => e = .returned (.int .i64 (k + 2 * sumN L)) ∧ w = w' := by
  have HR := Lib.hid h
  clear h
  go_enter Try.func50, Try.ntmps50
  go_wp2
  go_loop [1, 5] (fun x y => ∃ (i : Nat) (q : Int), i ≤ L.length ∧ x = .int .i64 q ∧ y = .int .i64 i ∧ q = k + 2 * sumN (L.take i)) (fun _ y => L.length - (intOf y).toNat)
  case atStart => exact ⟨0, k, Nat.zero_le _, rfl, rfl, by simp [sumN]⟩
  case round =>
    obtain ⟨i, q, hi, rfl, rfl, hq⟩ := hrel
    by_cases hlt : i < L.length
    · obtain ⟨b, off, rfl, hc⟩ := HR.out (by rw [mkSS_length]; omega)
      obtain ⟨Ai, ci, x1, y1, _, _⟩ := hc i (by rw [mkSS_length]; omega)
      rw [mkSS_get hlt, ← hq] at x1 y1
      rw [marksS_length] at x1
      have hstep := sumN_step hlt
      have hle := sumN_take L (i + 1)
      obtain ⟨n, hn⟩ : ∃ n, n = L[i].length := ⟨_, rfl⟩
      rw [← hn] at x1 y1 hstep
      have Y := Lib.hid (SavedIn.of y1)
      have HQ := Lib.hid hq
      have hq1 : 0 ≤ q ∧ q ≤ 3000000000 := by omega
      clear hc y1 hn hq
      have hnn : n ≤ 1000000000 := by omega
      go_wp2_with (go_at_call 70; refine (heldSav_any Ai n ci q _ Y.out (by omega) (by omega)).mono ?_; rintro e w' ⟨rfl, rfl⟩)
      go_round
      case rel => exact ⟨i + 1, q + 2 * n, by omega, by go_num, by go_num, by have := HQ.out; omega⟩
      case measure => simp [intOf]; omega
    · rw [List.take_of_length_le (by omega)] at hq
      rw [hq]
      clear hq
      go_wp2
      go_ret
      exact ⟨rfl, rfl⟩
end Go.Proofs.Ytkjjieofoolnhaa
