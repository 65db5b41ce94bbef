/- Contracts of the exact laws' own functions over partitions: szPartS, toPartS, eqPartS. -/
import Derived.Test.YtpfbkmpjneclpaaParts
import Derived.StillTailTactics
import Derived.Laws.MakeOwn
namespace Go.Proofs.Ytpfbkmpjneclpaa
open Go.RowKit
set_option linter.unusedVariables false

theorem szParts_any (A : Option Addr) (n c : Nat) (left : Int) (w : World) (hn : n ≤ 9223372036854775807) (hl : 0 ≤ left ∧ left ≤ 4000000000000000000) :
    Calls Try.prog 15 #[.slice A n c, .int .i64 left] w fun e w' => e = .returned (.int .i64 (if left - n < 0 then -1 else left - n)) ∧ w = w' := by
  by_cases h : left - n < 0
  · go_enter Try.func15, Try.ntmps15
    go_wp2
    go_ret
    exact ⟨ret_int rfl, rfl⟩
  · go_enter Try.func15, Try.ntmps15
    go_wp2
    go_ret
    exact ⟨ret_int rfl, rfl⟩

/-- The cells of partitions. -/
def partsC (l : List (Int × Int)) : List Value := l.flatMap fun p => [.int .i64 p.1, .int .i64 p.2]
theorem partsC_length (l : List (Int × Int)) : (partsC l).length = 2 * l.length := by
  induction l with
  | nil => rfl
  | cons p r ih => simp only [partsC, List.flatMap_cons, List.length_append, List.length_cons, List.length_nil] at ih ⊢; omega
theorem partsC_get (l : List (Int × Int)) (i : Nat) (h : i < l.length) : (partsC l)[i * 2]? = some (.int .i64 l[i].1) ∧ (partsC l)[i * 2 + 1]? = some (.int .i64 l[i].2) := by
  induction l generalizing i with
  | nil => simp at h
  | cons p r ih =>
    cases i with
    | zero => exact ⟨rfl, rfl⟩
    | succ i =>
      obtain ⟨a, b⟩ := ih i (by simpa using h)
      have e : partsC (p :: r) = .int .i64 p.1 :: .int .i64 p.2 :: partsC r := rfl
      rw [e, show (i + 1) * 2 = i * 2 + 1 + 1 by omega]
      exact ⟨a, b⟩
theorem PartsIn.of {w : World} {A : Option Addr} {l : List (Int × Int)} (h : ReadC w A (partsC l)) : PartsIn w A l := by
  intro h0
  obtain ⟨b, off, e, hc⟩ := h (by rw [partsC_length]; omega)
  refine ⟨b, off, e, fun i hi => ?_⟩
  have hl := partsC_length l
  obtain ⟨g1, g2⟩ := partsC_get l i hi
  have c1 := hc (i * 2) (by omega)
  have c2 := hc (i * 2 + 1) (by omega)
  rw [List.getElem?_eq_getElem (by omega)] at g1 g2
  injection g1 with g1
  injection g2 with g2
  rw [g1] at c1
  rw [g2] at c2
  exact ⟨c1, by rw [Nat.add_assoc]; exact c2⟩

theorem eqPart_any (a b c d : Int) (w : World) :
    Calls Try.prog 46 #[.agg #[.int .i64 a, .int .i64 b], .agg #[.int .i64 c, .int .i64 d]] w fun e w' => e = .returned (.bool (decide ((a, b) = (c, d)))) ∧ Below w.heap.size w w' := by
  by_cases h1 : a = c
  · by_cases h2 : b = d
    · have hb1 : (a != c) = false := by simp [h1]
      have hb2 : (b != d) = false := by simp [h2]
      have hd := Lib.hid (show decide ((a, b) = (c, d)) = true by simp [h1, h2])
      clear h1 h2
      go_enter Try.func46, Try.ntmps46
      go_wp2
      go_ret
      exact ⟨ret_bool hd.out.symm, ((Below.refl _ _).alloc (Nat.le_refl _) _).alloc (by simp) _⟩
    · have hb1 : (a != c) = false := by simp [h1]
      have hb2 : (b != d) = true := by simp [h2]
      have hd := Lib.hid (show decide ((a, b) = (c, d)) = false by simp [h2])
      clear h1 h2
      go_enter Try.func46, Try.ntmps46
      go_wp2
      go_ret
      exact ⟨ret_bool hd.out.symm, ((Below.refl _ _).alloc (Nat.le_refl _) _).alloc (by simp) _⟩
  · have hb1 : (a != c) = true := by simp [h1]
    have hd := Lib.hid (show decide ((a, b) = (c, d)) = false by simp [h1])
    clear h1
    go_enter Try.func46, Try.ntmps46
    go_wp2
    go_ret
    exact ⟨ret_bool hd.out.symm, ((Below.refl _ _).alloc (Nat.le_refl _) _).alloc (by simp) _⟩

set_option maxHeartbeats 1000000 in
theorem eqParts_any (A B : Option Addr) (c d : Nat) (l k : List (Int × Int)) (w : World) (h1 : PartsIn w A l) (h2 : PartsIn w B k) (hl : l.length ≤ 1000000000000) (hk : k.length ≤ 1000000000000) :
    Calls Try.prog 19 #[.slice A l.length c, .slice B k.length d] w fun e w' => e = .returned (.bool (decide (l = k))) ∧ Below w.heap.size w w' := by
  by_cases hlk : l.length = k.length
  · have hb : ((l.length : Int) != k.length) = false := by simp; omega
    have Hlk := Lib.hid hlk
    clear hlk
    go_enter Try.func19, Try.ntmps19
    go_wp2
    go_loopw [5] (fun x wr => ∃ i : Nat, i ≤ l.length ∧ x = .int .i64 i ∧ Hid (l.take i = k.take i) ∧ Below w.heap.size w wr) (fun x _ => l.length - (intOf x).toNat)
    case atStart => exact ⟨0, Nat.zero_le _, rfl, by show l.take 0 = k.take 0; simp, Below.refl _ _⟩
    case round =>
      obtain ⟨i, hi, rfl, ht, hbl⟩ := hrel
      by_cases hlt : i < l.length
      · obtain ⟨b1, o1, rfl, c1⟩ := h1.below hbl (by omega)
        have hlt2 : i < k.length := by have := Hlk.out; omega
        obtain ⟨b2, o2, rfl, c2⟩ := h2.below hbl (by omega)
        obtain ⟨x1, y1⟩ := c1 i hlt
        obtain ⟨x2, y2⟩ := c2 i hlt2
        clear c1 c2 h1 h2
        obtain ⟨⟨f1, n1⟩, e1⟩ : ∃ p : Int × Int, p = l[i] := ⟨_, rfl⟩
        obtain ⟨⟨f2, n2⟩, e2⟩ : ∃ p : Int × Int, p = k[i] := ⟨_, rfl⟩
        have hstep : l.take (i + 1) = l.take i ++ [(f1, n1)] := by rw [List.take_succ_eq_append_getElem hlt, e1]
        have hstep2 : k.take (i + 1) = k.take i ++ [(f2, n2)] := by rw [List.take_succ_eq_append_getElem hlt2, e2]
        rw [← e1] at x1 y1
        rw [← e2] at x2 y2
        simp only at x1 y1 x2 y2
        have HS := Lib.hid (And.intro hstep hstep2)
        have HE := Lib.hid (And.intro e1 e2)
        clear hstep hstep2 e1 e2
        cases hx : decide ((f1, n1) = (f2, n2))
        · have hn := Lib.hid (show decide (l = k) = false by
            have hne := of_decide_eq_false hx
            exact decide_eq_false (fun e => hne (by rw [HE.out.1, HE.out.2]; subst e; rfl)))
          have Hx := Lib.hid hx
          have Hb := Lib.hid hbl
          clear hx hbl
          go_wp2
          go_still_tail 8, (by kernel_rfl)
          change wpList _ _ _ _ _ wr.drew
          generalize hwd : wr.drew = w2
          have hb2 : Below w.heap.size w w2 := by rw [← hwd]; exact Hb.out.drew
          clear hwd x1 y1 x2 y2
          go_wp2_with (go_at_call 46; refine (eqPart_any _ _ _ _ _).mono ?_; rintro e w3 ⟨rfl, hb3⟩; rw [Hx.out])
          go_ret
          exact ⟨ret_bool hn.out.symm, hb2.trans (hb3.mono hb2.size)⟩
        · have hn := Lib.hid (show l.take (i + 1) = k.take (i + 1) by rw [HS.out.1, HS.out.2, ht.out, of_decide_eq_true hx])
          have Hx := Lib.hid hx
          have Hb := Lib.hid hbl
          clear hx hbl
          go_wp2
          go_still_tail 8, (by kernel_rfl)
          change wpList _ _ _ _ _ wr.drew
          generalize hwd : wr.drew = w2
          have hb2 : Below w.heap.size w w2 := by rw [← hwd]; exact Hb.out.drew
          clear hwd x1 y1 x2 y2
          go_wp2_with (go_at_call 46; refine (eqPart_any _ _ _ _ _).mono ?_; rintro e w3 ⟨rfl, hb3⟩; rw [Hx.out])
          go_roundw
          case rel => exact ⟨i + 1, by omega, by go_num, hn, hb2.trans (hb3.mono hb2.size)⟩
          case measure => simp [intOf]; omega
      · have hn := Lib.hid (show decide (l = k) = true by
          have h3 := ht.out
          rw [List.take_of_length_le (by omega), List.take_of_length_le (by have := Hlk.out; omega)] at h3
          exact decide_eq_true h3)
        go_wp2
        go_ret
        exact ⟨ret_bool hn.out.symm, hbl⟩
  · have hb : ((l.length : Int) != k.length) = true := by simp; omega
    have hn := Lib.hid (show decide (l = k) = false from decide_eq_false (fun e => hlk (by rw [e])))
    go_enter Try.func19, Try.ntmps19
    go_wp2
    go_ret
    exact ⟨ret_bool hn.out.symm, Below.refl _ _⟩
end Go.Proofs.Ytpfbkmpjneclpaa
