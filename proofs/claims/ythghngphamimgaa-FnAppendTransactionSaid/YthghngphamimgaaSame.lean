/- The contract of sameInts: whether two lists of integers are equal. -/
import Derived.Test.YthghngphamimgaaInts
import Derived.Deep.QuietTactic
import Derived.BigQuiet
namespace Go.Proofs.Ythghngphamimgaa
open Go.RowKit

theorem sameInts_any (A B : Option Addr) (c d : Nat) (l k : List Int) (w : World) (h1 : IntsIn w A l) (h2 : IntsIn w B k) (hl : l.length ≤ 1000000000000) (hk : k.length ≤ 1000000000000) :
    Calls Try.prog 26 #[.slice A l.length c, .slice B k.length d] w fun e w' => e = .returned (.bool (decide (l = k))) ∧ ∃ q, w' = w.drewN q := by
  by_cases hlk : l.length = k.length
  · have hb : ((l.length : Int) != k.length) = false := by simp; omega
    have Hlk := Lib.hid hlk
    clear hlk
    go_enter Try.func26, Try.ntmps26
    go_wp2
    go_loopw [5] (fun x wr => ∃ i q : Nat, i ≤ l.length ∧ x = .int .i64 i ∧ Hid (l.take i = k.take i) ∧ wr = w.drewN q) (fun x _ => l.length - (intOf x).toNat)
    case atStart => exact ⟨0, 0, Nat.zero_le _, rfl, by show l.take 0 = k.take 0; simp, rfl⟩
    case round =>
      obtain ⟨i, q, hi, rfl, ht, rfl⟩ := hrel
      by_cases hlt : i < l.length
      · obtain ⟨b1, o1, rfl, c1⟩ := h1 (by omega)
        have hlt2 : i < k.length := by have := Hlk.out; omega
        obtain ⟨b2, o2, rfl, c2⟩ := h2 (by omega)
        have x1 := c1 i hlt
        have x2 := c2 i hlt2
        clear c1 c2 h1 h2
        cases hx : (l[i] != k[i])
        · have hn := Lib.hid (show l.take (i + 1) = k.take (i + 1) by
            rw [List.take_succ_eq_append_getElem hlt, List.take_succ_eq_append_getElem hlt2, ht.out]
            have : l[i] = k[i] := by simpa using hx
            rw [this])
          go_wp2
          go_quiet (fail)
          go_wp2
          go_roundw
          case rel => exact ⟨i + 1, _, by omega, by go_num, hn, rfl⟩
          case measure => simp [intOf]; omega
        · have hn := Lib.hid (show decide (l = k) = false by
            have hne : l[i] ≠ k[i] := by simpa using hx
            exact decide_eq_false (fun e => hne (by subst e; rfl)))
          go_wp2
          go_quiet (fail)
          go_wp2
          go_ret
          exact ⟨ret_bool hn.out.symm, q + nq, by first | rfl | rw [World.drewN_drewN]⟩
      · have hn := Lib.hid (show decide (l = k) = true by
          have h3 := ht.out
          rw [List.take_of_length_le (by omega), List.take_of_length_le (by have := Hlk.out; omega)] at h3
          exact decide_eq_true h3)
        go_wp2
        go_ret
        exact ⟨ret_bool hn.out.symm, q, rfl⟩
  · have hb : ((l.length : Int) != k.length) = true := by simp; omega
    have hn := Lib.hid (show decide (l = k) = false from decide_eq_false (fun e => hlk (by rw [e])))
    go_enter Try.func26, Try.ntmps26
    go_wp2
    go_ret
    exact ⟨ret_bool hn.out.symm, 0, rfl⟩
end Go.Proofs.Ythghngphamimgaa
