/- Contracts of the exclusive or of a row, and of ArrayConsistent, the program's and the reference's. -/
import Derived.Test.YtgdbchodlapdpaaArrV
namespace Go.Proofs.Ytgdbchodlapdpaa
open Go.RowKit
set_option linter.unusedVariables false

set_option maxHeartbeats 1000000 in
theorem specXor_any (A : Option Addr) (c row : Nat) (skip : Int) (L : List (List Int)) (w : World) (h : RowsR CI w A L) (hl : L.length + sumN L ≤ 1000000000) (hr : ∀ k (hk : k < L.length), row < L[k].length) :
    Calls Try.prog 45 #[.slice A L.length c, .int .i64 row, .int .i64 skip] w fun e w' => e = .returned (.int .i64 (xorV L row skip)) ∧ w = w' := by
  have HR := Lib.hid h
  have HL := Lib.hid hr
  clear h hr
  go_enter Try.func45, Try.ntmps45
  go_wp2
  go_loop [7, 8] (fun x y => ∃ k : Nat, k ≤ L.length ∧ x = .int .i64 (xorT L row skip k) ∧ y = .int .i64 k) (fun _ y => L.length - (intOf y).toNat)
  case atStart => exact ⟨0, Nat.zero_le _, rfl, rfl⟩
  case round =>
    obtain ⟨k, hk, rfl, rfl⟩ := hrel
    by_cases hlt : k < L.length
    · obtain ⟨b, off, rfl, hc⟩ := HR.out (by omega)
      obtain ⟨A1, k1, x1, y1, _, _⟩ := hc k hlt
      have hrk := HL.out k hlt
      have hs := xorT_step (skip := skip) hlt hrk
      have hsm := sumN_get hlt
      clear hc
      obtain ⟨b1, o1, rfl, hc1⟩ := (IntsIn.of y1) (by omega)
      have c1 := hc1 row hrk
      clear hc1 y1
      obtain ⟨x, hx⟩ : ∃ x, x = L[k][row] := ⟨_, rfl⟩
      obtain ⟨n, hn⟩ : ∃ n, n = L[k].length := ⟨_, rfl⟩
      obtain ⟨v, hv⟩ : ∃ v, v = xorT L row skip k := ⟨_, rfl⟩
      rw [← hx] at c1 hs
      rw [← hn] at x1 hrk hsm
      rw [← hv] at hs ⊢
      clear hx hn hv
      by_cases he : (k : Int) = skip
      · have e1 : ((k : Int) != skip) = false := by simp [he]
        have Hs := Lib.hid (show xorT L row skip (k + 1) = v by rw [hs, if_pos he])
        clear hs he
        go_wp2
        go_round
        case rel => exact ⟨k + 1, by omega, by rw [Hs.out], by go_num⟩
        case measure => simp [intOf]; omega
      · have e1 : ((k : Int) != skip) = true := by simpa using he
        have Hs := Lib.hid (show xorT L row skip (k + 1) = bits BinOp.xor IntKind.i64 v x by rw [hs, if_neg he])
        clear hs he
        go_wp2
        go_round
        case rel => exact ⟨k + 1, by omega, by rw [Hs.out], by go_num⟩
        case measure => simp [intOf]; omega
    · have hfin : xorT L row skip k = xorV L row skip := by rw [xorV, show k = L.length by omega]
      rw [hfin]
      clear hfin
      go_wp2
      go_ret
      exact ⟨rfl, rfl⟩

set_option maxHeartbeats 1000000 in
theorem implXor_any (A : Option Addr) (c row : Nat) (skip : Int) (L : List (List Int)) (w : World) (h : RowsR CI w A L) (hl : L.length + sumN L ≤ 1000000000) (hr : ∀ k (hk : k < L.length), row < L[k].length) :
    Calls Try.prog 46 #[.slice A L.length c, .int .i64 row, .int .i64 skip] w fun e w' => e = .returned (.int .i64 (xorV L row skip)) ∧ w = w' := by
  have HR := Lib.hid h
  have HL := Lib.hid hr
  clear h hr
  go_enter Try.func46, Try.ntmps46
  go_wp2
  go_loop [7, 12] (fun x y => ∃ k : Nat, k ≤ L.length ∧ x = .int .i64 (xorT L row skip k) ∧ y = .int .i64 k) (fun _ y => L.length - (intOf y).toNat)
  case atStart => exact ⟨0, Nat.zero_le _, rfl, rfl⟩
  case round =>
    obtain ⟨k, hk, rfl, rfl⟩ := hrel
    by_cases hlt : k < L.length
    · obtain ⟨b, off, rfl, hc⟩ := HR.out (by omega)
      obtain ⟨A1, k1, x1, y1, _, _⟩ := hc k hlt
      have hrk := HL.out k hlt
      have hs := xorT_step (skip := skip) hlt hrk
      have hsm := sumN_get hlt
      clear hc
      obtain ⟨b1, o1, rfl, hc1⟩ := (IntsIn.of y1) (by omega)
      have c1 := hc1 row hrk
      clear hc1 y1
      obtain ⟨x, hx⟩ : ∃ x, x = L[k][row] := ⟨_, rfl⟩
      obtain ⟨n, hn⟩ : ∃ n, n = L[k].length := ⟨_, rfl⟩
      obtain ⟨v, hv⟩ : ∃ v, v = xorT L row skip k := ⟨_, rfl⟩
      rw [← hx] at c1 hs
      rw [← hn] at x1 hrk hsm
      rw [← hv] at hs ⊢
      clear hx hn hv
      by_cases he : (k : Int) = skip
      · have e1 : ((k : Int) != skip) = false := by simp [he]
        have Hs := Lib.hid (show xorT L row skip (k + 1) = v by rw [hs, if_pos he])
        clear hs he
        go_wp2
        go_round
        case rel => exact ⟨k + 1, by omega, by rw [Hs.out], by go_num⟩
        case measure => simp [intOf]; omega
      · have e1 : ((k : Int) != skip) = true := by simpa using he
        have Hs := Lib.hid (show xorT L row skip (k + 1) = bits BinOp.xor IntKind.i64 v x by rw [hs, if_neg he])
        clear hs he
        go_wp2
        go_round
        case rel => exact ⟨k + 1, by omega, by rw [Hs.out], by go_num⟩
        case measure => simp [intOf]; omega
    · have hfin : xorT L row skip k = xorV L row skip := by rw [xorV, show k = L.length by omega]
      rw [hfin]
      clear hfin
      go_wp2
      go_ret
      exact ⟨rfl, rfl⟩

def ACPost (L : List (List Int)) (W : World) (e : Ending) (w' : World) : Prop := e = .returned (.bool (conB L)) ∧ Below W.heap.size W w'
def conT (L : List (List Int)) (k : Nat) : Bool := (List.range k).all fun r => decide (xorV L r (-1) = 0)
theorem conT_succ (L : List (List Int)) (k : Nat) : conT L (k + 1) = (conT L k && decide (xorV L k (-1) = 0)) := by
  simp [conT, List.range_succ, List.all_append]
theorem conT_le {L : List (List Int)} {k n : Nat} (h : k < n) (hx : xorV L k (-1) ≠ 0) : conT L n = false := by
  unfold conT
  rw [List.all_eq_false]
  exact ⟨k, List.mem_range.2 h, by simpa using hx⟩

set_option maxHeartbeats 1000000 in
theorem specCon_any (A : Option Addr) (c : Nat) (L : List (List Int)) (w : World) (h : RowsR CI w A L) (hl : L.length + sumN L ≤ 1000000000) :
    Calls Try.prog 19 #[.slice A L.length c] w (ACPost L w) := by
  go_enter Try.func19, Try.ntmps19
  go_wp2_with fail
  refine (specArr_any A c L w h hl).mono ?_
  rintro e w1 ⟨rfl, b1⟩
  cases hv : arrB L
  · have hno := Lib.hid (show ACPost L w (.returned (.bool false)) w1 from ⟨ret_bool (by simp [conB, hv]), b1⟩)
    clear hv b1
    go_wp2
    go_ret
    exact hno.out
  · have hfin := Lib.hid (fun b (hb : conT L (headN L) = b) => show ACPost L w (.returned (.bool b)) w1 from ⟨ret_bool (by rw [conB, hv, Bool.true_and]; exact hb.symm), b1⟩)
    obtain ⟨n2, n6, hm, hrow⟩ := arr_parts hv
    have HX := Lib.hid (fun r (hr : r < headN L) => specXor_any A c r (-1) L w1 (h.below b1) hl (fun k hk => by rw [(hrow k hk).1]; exact hr))
    obtain ⟨b, off, rfl, hc⟩ := h.below b1 (by omega)
    obtain ⟨A0, k0, x0, _, _, _⟩ := hc 0 (by omega)
    rw [← headN_get (L := L) (by omega)] at x0
    simp only [Nat.add_zero] at x0
    clear hv b1 hc h hrow
    obtain ⟨m, hme⟩ : ∃ m, m = headN L := ⟨_, rfl⟩
    rw [← hme] at x0 HX hfin hm
    clear hme
    go_wp2
    go_loop [3] (fun y => ∃ r : Nat, r ≤ m ∧ y = .int .i64 r ∧ Hid (conT L r = true)) (fun y => m - (intOf y).toNat)
    case atStart => exact ⟨0, Nat.zero_le _, rfl, rfl⟩
    case round =>
      obtain ⟨r, hr, rfl, ha⟩ := hrel
      by_cases hlt : r < m
      · have hx := Lib.hid (HX.out r hlt)
        by_cases hz : xorV L r (-1) = 0
        · have hs := Lib.hid (show conT L (r + 1) = true by rw [conT_succ, ha.out, hz]; rfl)
          rw [hz] at hx
          clear hz ha
          go_wp2_with (go_at_call 45; refine hx.out.mono ?_; rintro e w' ⟨rfl, rfl⟩)
          go_round
          case rel => exact ⟨r + 1, by omega, by go_num, hs⟩
          case measure => simp [intOf]; omega
        · have hno := Lib.hid (hfin.out false (conT_le hlt hz))
          obtain ⟨v, hv⟩ : ∃ v, v = xorV L r (-1) := ⟨_, rfl⟩
          rw [← hv] at hx hz
          have e1 : (v != 0) = true := by simpa using hz
          clear hv hz ha
          go_wp2_with (go_at_call 45; refine hx.out.mono ?_; rintro e w' ⟨rfl, rfl⟩)
          go_ret
          exact hno.out
      · have hno := Lib.hid (hfin.out true (by have := ha.out; rwa [show r = m by omega] at this))
        clear ha
        go_wp2
        go_ret
        exact hno.out

set_option maxHeartbeats 1000000 in
theorem implCon_any (A : Option Addr) (c : Nat) (L : List (List Int)) (w : World) (h : RowsR CI w A L) (hl : L.length + sumN L ≤ 1000000000) :
    Calls Try.prog 20 #[.slice A L.length c] w (ACPost L w) := by
  go_enter Try.func20, Try.ntmps20
  go_wp2_with fail
  refine (implArr_any A c L w h hl).mono ?_
  rintro e w1 ⟨rfl, b1⟩
  cases hv : arrB L
  · have hno := Lib.hid (show ACPost L w (.returned (.bool false)) w1 from ⟨ret_bool (by simp [conB, hv]), b1⟩)
    clear hv b1
    go_wp2
    go_ret
    exact hno.out
  · have hfin := Lib.hid (fun b (hb : conT L (headN L) = b) => show ACPost L w (.returned (.bool b)) w1 from ⟨ret_bool (by rw [conB, hv, Bool.true_and]; exact hb.symm), b1⟩)
    obtain ⟨n2, n6, hm, hrow⟩ := arr_parts hv
    have HX := Lib.hid (fun r (hr : r < headN L) => implXor_any A c r (-1) L w1 (h.below b1) hl (fun k hk => by rw [(hrow k hk).1]; exact hr))
    obtain ⟨b, off, rfl, hc⟩ := h.below b1 (by omega)
    obtain ⟨A0, k0, x0, _, _, _⟩ := hc 0 (by omega)
    rw [← headN_get (L := L) (by omega)] at x0
    simp only [Nat.add_zero] at x0
    clear hv b1 hc h hrow
    obtain ⟨m, hme⟩ : ∃ m, m = headN L := ⟨_, rfl⟩
    rw [← hme] at x0 HX hfin hm
    clear hme
    go_wp2
    go_loop [11] (fun y => ∃ r : Nat, r ≤ m ∧ y = .int .i64 r ∧ Hid (conT L r = true)) (fun y => m - (intOf y).toNat)
    case atStart => exact ⟨0, Nat.zero_le _, rfl, rfl⟩
    case round =>
      obtain ⟨r, hr, rfl, ha⟩ := hrel
      by_cases hlt : r < m
      · have hx := Lib.hid (HX.out r hlt)
        by_cases hz : xorV L r (-1) = 0
        · have hs := Lib.hid (show conT L (r + 1) = true by rw [conT_succ, ha.out, hz]; rfl)
          rw [hz] at hx
          clear hz ha
          go_wp2_with (go_at_call 46; refine hx.out.mono ?_; rintro e w' ⟨rfl, rfl⟩)
          go_round
          case rel => exact ⟨r + 1, by omega, by go_num, hs⟩
          case measure => simp [intOf]; omega
        · have hno := Lib.hid (hfin.out false (conT_le hlt hz))
          obtain ⟨v, hv⟩ : ∃ v, v = xorV L r (-1) := ⟨_, rfl⟩
          rw [← hv] at hx hz
          have e1 : (v != 0) = true := by simpa using hz
          clear hv hz ha
          go_wp2_with (go_at_call 46; refine hx.out.mono ?_; rintro e w' ⟨rfl, rfl⟩)
          go_ret
          exact hno.out
      · have hno := Lib.hid (hfin.out true (by have := ha.out; rwa [show r = m by omega] at this))
        clear ha
        go_wp2
        go_ret
        exact hno.out
end Go.Proofs.Ytgdbchodlapdpaa
