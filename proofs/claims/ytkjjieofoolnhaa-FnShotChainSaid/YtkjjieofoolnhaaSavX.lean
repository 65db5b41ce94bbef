/- Contracts of the exact laws' own functions over lists of saved: szSavedS, toSaved, toSavedS, eqSaved, eqSavedS. -/
import Derived.Test.YtkjjieofoolnhaaSavIn
import Derived.Test.YtkjjieofoolnhaaOwn
import Derived.StillTailTactics
namespace Go.Proofs.Ytkjjieofoolnhaa
open Go.RowKit
set_option linter.unusedVariables false

theorem szSav_any (A : Option Addr) (n c : Nat) (left : Int) (w : World) (hn : n ≤ 9223372036854775807) (hl : 0 ≤ left ∧ left ≤ 4000000000000000000) :
    Calls Try.prog 65 #[.slice A n c, .int .i64 left] w fun e w' => e = .returned (.int .i64 (if left - n < 0 then -1 else left - n)) ∧ w = w' := by
  by_cases h : left - n < 0
  · go_enter Try.func65, Try.ntmps65
    go_wp2
    go_ret
    exact ⟨ret_int rfl, rfl⟩
  · go_enter Try.func65, Try.ntmps65
    go_wp2
    go_ret
    exact ⟨ret_int rfl, rfl⟩

theorem toSav_any (f : Int) (q : Int) (w : World) :
    Calls Try.prog 76 #[.agg #[.int .i64 f, .int .i64 q]] w fun e w' => e = .returned (.agg #[.int .i64 f, .int .i64 q]) ∧ Below w.heap.size w w' := by
  go_enter Try.func76, Try.ntmps76
  go_wp2
  refine bodyPost_ret (v := .agg #[.int .i64 f, .int .i64 q]) (by simp [results, Try.results76, go_sem]) rfl ⟨rfl, ?_⟩
  exact b_alloc (b_alloc (b_alloc (Below.refl _ _) _) _) _

theorem info_sav : (Try.prog.info? 44).map (fun i => (i.zero, i.size, i.bytes)) = some (some (.agg #[.int .i64 0, .int .i64 0]), 2, 16) := by kernel_rfl
theorem savC_take {l : List Sv} {k : Nat} (h : k < l.length) : savC (l.take (k + 1)) = savC (l.take k) ++ [.int .i64 l[k].1] ++ [.int .i64 l[k].2] := by
  rw [List.take_succ_eq_append_getElem h]
  simp only [savC, List.flatMap_append, List.flatMap_cons, List.flatMap_nil, List.append_nil, List.append_assoc]
  rfl
theorem fill_row_sav {w : World} {g : Nat} {T : TypeId} {n sz m : Nat} {xs : List Value} (h : Fill w g T m xs) (hm : m = n * sz) (hx : xs.length = m) (hn : n ≤ maxLen) {base : Nat} (hb : base ≤ g) : w.ownsRow base T sz (.slice (some ⟨g, 0, none⟩) n n) n xs := by
  obtain ⟨cur, hh, hs, ht, hl⟩ := h
  subst hm
  exact ⟨hx, .inr ⟨g, n, cur, rfl, hb, hh, Nat.le_refl _, hn, hs, by rw [← hx]; exact ht⟩⟩

def ToSavsPost (l : List Sv) (W : World) (e : Ending) (w' : World) : Prop :=
  ∃ A c, e = .returned (.slice A l.length c) ∧ w'.ownsRow W.heap.size 44 2 (.slice A l.length c) l.length (savC l) ∧ Below W.heap.size W w'

set_option maxHeartbeats 1000000 in
theorem toSavs_any (A : Option Addr) (c : Nat) (l : List Sv) (w : World) (h : SavedIn w A l) (hl : l.length ≤ 1048576) :
    Calls Try.prog 66 #[.slice A l.length c] w (ToSavsPost l w) := by
  have hmk := make_rows (P := Try.prog) 45 44 (.agg #[.int .i64 0, .int .i64 0]) 2 16 Try.underlying45 info_sav l.length (by omega) (by omega)
  go_enter Try.func66, Try.ntmps66
  go_wp2
  go_loopw [4] (fun x wr => ∃ k : Nat, k ≤ l.length ∧ x = .int .i64 k ∧ Fill wr w.heap.size 44 (l.length * 2) (savC (l.take k)) ∧ Below w.heap.size w wr) (fun x _ => l.length - (intOf x).toNat)
  case atStart => exact ⟨0, Nat.zero_le _, rfl, by have := Fill.new w 44 (madeCells (Value.agg #[.int .i64 0, .int .i64 0]).cells (l.length * 2)); rw [size_madeCells] at this; exact this, b_alloc (Below.refl _ _) _⟩
  case round =>
    obtain ⟨k, hk, rfl, hf, hb⟩ := hrel
    by_cases hlt : k < l.length
    · obtain ⟨b, off, rfl, hc⟩ := h.below hb (by omega)
      obtain ⟨c1, c2⟩ := hc k hlt
      have hs := savC_take hlt
      clear hc h hmk
      obtain ⟨⟨f, q⟩, e1⟩ : ∃ p : Sv, p = l[k] := ⟨_, rfl⟩
      rw [← e1] at c1 c2 hs
      simp only at c1 c2 hs
      have HS := Lib.hid hs
      clear hs e1
      go_wp2_with (go_at_call 76; refine (toSav_any _ _ _).mono ?_; rintro e w3 ⟨rfl, hb3⟩; have hf3 := hf.below hb3; have hbb := hb.trans (hb3.mono hb.size); obtain ⟨u1, hu1⟩ := hf3.cell (k * 2) (by omega); obtain ⟨u2, hu2⟩ := hf3.cell (k * 2 + 1) (by omega); have z1 := hf3.free (k * 2); have z2 := hf3.free (k * 2 + 1))
      have hlen : (savC (l.take k)).length = 2 * k := by rw [savC_length, List.length_take]; omega
      have hf4 := ((hf3.push (.int .i64 f) (k * 2) (by omega) (by omega)).push (.int .i64 q) (k * 2 + 1) (by simp only [List.length_append, hlen, List.length_cons, List.length_nil]; omega) (by omega))
      rw [← HS.out] at hf4
      have hb4 := ((hbb.setCell (p := ⟨w.heap.size, k * 2, none⟩) (Nat.le_refl _) (.int .i64 f)).setCell (p := ⟨w.heap.size, k * 2 + 1, none⟩) (Nat.le_refl _) (.int .i64 q))
      go_roundw
      case rel => exact ⟨k + 1, by omega, by go_num, hf4, hb4⟩
      case measure => simp [intOf]; omega
    · rw [List.take_of_length_le (by omega)] at hf
      have ho := Lib.hid (fill_row_sav hf rfl (by rw [savC_length]; omega) (by simp only [maxLen]; omega) (Nat.le_refl w.heap.size))
      clear hf
      go_wp2
      go_ret
      exact ⟨_, _, rfl, ho.out, hb⟩

theorem eqSav_same (f : Int) (q : Int) (w : World) :
    Calls Try.prog 77 #[.agg #[.int .i64 f, .int .i64 q], .agg #[.int .i64 f, .int .i64 q]] w fun e w' => e = .returned (.bool true) ∧ Below w.heap.size w w' := by
  have hf : (f != f) = false := by simp
  have hq : (q != q) = false := by simp
  go_enter Try.func77, Try.ntmps77
  go_wp2
  go_ret
  exact ⟨rfl, b_alloc (b_alloc (Below.refl _ _) _) _⟩

set_option maxHeartbeats 1000000 in
theorem eqSavs_same (A B : Option Addr) (c d : Nat) (l : List Sv) (w : World) (h1 : SavedIn w A l) (h2 : SavedIn w B l) (hl : l.length ≤ 1000000000000) :
    Calls Try.prog 68 #[.slice A l.length c, .slice B l.length d] w fun e w' => e = .returned (.bool true) ∧ Below w.heap.size w w' := by
  have hb : ((l.length : Int) != l.length) = false := by simp
  go_enter Try.func68, Try.ntmps68
  go_wp2
  go_loopw [5] (fun x wr => ∃ i : Nat, i ≤ l.length ∧ x = .int .i64 i ∧ Below w.heap.size w wr) (fun x _ => l.length - (intOf x).toNat)
  case atStart => exact ⟨0, Nat.zero_le _, rfl, Below.refl _ _⟩
  case round =>
    obtain ⟨i, hi, rfl, hbl⟩ := hrel
    by_cases hlt : i < l.length
    · obtain ⟨b1, o1, rfl, c1⟩ := h1.below hbl (by omega)
      obtain ⟨b2, o2, rfl, c2⟩ := h2.below hbl (by omega)
      obtain ⟨x0, x1⟩ := c1 i hlt
      obtain ⟨y0, y1⟩ := c2 i hlt
      clear c1 c2 h1 h2
      obtain ⟨⟨f, q⟩, e1⟩ : ∃ p : Sv, p = l[i] := ⟨_, rfl⟩
      rw [← e1] at x0 x1 y0 y1
      simp only at x0 x1 y0 y1
      have Hb := Lib.hid hbl
      clear e1 hbl
      go_wp2
      go_still_tail 8, (by kernel_rfl)
      change wpList _ _ _ _ _ wr.drew
      generalize hwd : wr.drew = w2
      have hb2 : Below w.heap.size w w2 := by rw [← hwd]; exact Hb.out.drew
      clear hwd x0 x1 y0 y1
      go_wp2_with (go_at_call 77; refine (eqSav_same _ _ _).mono ?_; rintro e w3 ⟨rfl, hb3⟩)
      go_roundw
      case rel => exact ⟨i + 1, by omega, by go_num, hb2.trans (hb3.mono hb2.size)⟩
      case measure => simp [intOf]; omega
    · go_wp2
      go_ret
      exact ⟨rfl, hbl⟩
end Go.Proofs.Ytkjjieofoolnhaa
