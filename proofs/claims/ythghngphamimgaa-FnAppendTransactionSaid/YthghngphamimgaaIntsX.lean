/- Contracts over lists of integers: szIntS, toIntS, Contains, the reference's DiskValid. -/
import Derived.Test.YthghngphamimgaaOwn
import Derived.Test.YthghngphamimgaaInts
import Derived.Deep.QuietTactic
import Derived.BigQuiet
namespace Go.Proofs.Ythghngphamimgaa
open Go.RowKit
set_option linter.unusedVariables false

theorem quiet_ll {P : Program} {f : FuncId} {args : Array Value} {w : World} {v : Value} (h : Calls P f args w fun e w' => e = .returned v ∧ w = w') : Calls P f args w fun e w' => e = .returned v ∧ w' = w :=
  h.mono fun _ _ ⟨a, b⟩ => ⟨a, b.symm⟩

theorem IntsIn.take {w : World} {A : Option Addr} {l : List Int} (h : IntsIn w A l) (k : Nat) : IntsIn w A (l.take k) := by
  intro h0
  obtain ⟨b, off, e, hc⟩ := h (by rw [List.length_take] at h0; omega)
  exact ⟨b, off, e, fun i hi => by rw [hc i (by rw [List.length_take] at hi; omega), List.getElem_take]⟩


theorem info_int : (Try.prog.info? 3).map (fun i => (i.zero, i.size, i.bytes)) = some (some (.int .i64 0), 1, 8) := by kernel_rfl

theorem Fill.row {w : World} {g : Nat} {T : TypeId} {n sz m : Nat} {xs : List Value} (h : Fill w g T m xs) (hm : m = n * sz) (hx : xs.length = m) (hn : n ≤ maxLen) {base : Nat} (hb : base ≤ g) : w.ownsRow base T sz (.slice (some ⟨g, 0, none⟩) n n) n xs := by
  obtain ⟨cur, hh, hs, ht, hl⟩ := h
  subst hm
  exact ⟨hx, .inr ⟨g, n, cur, rfl, hb, hh, Nat.le_refl _, hn, hs, by rw [← hx]; exact ht⟩⟩

def ToIntsPost (l : List Int) (W : World) (e : Ending) (w' : World) : Prop :=
  ∃ A c, e = .returned (.slice A l.length c) ∧ w'.ownsRow W.heap.size 3 1 (.slice A l.length c) l.length (l.map (Value.int .i64)) ∧ Below W.heap.size W w'

set_option maxHeartbeats 1000000 in
theorem toInts_any (A : Option Addr) (c : Nat) (l : List Int) (w : World) (h : IntsIn w A l) (hl : l.length ≤ 1048576) :
    Calls Try.prog 28 #[.slice A l.length c] w (ToIntsPost l w) := by
  have hmk := make_rows (P := Try.prog) 36 3 (.int .i64 0) 1 8 Try.underlying36 info_int l.length (by omega) (by omega)
  go_enter Try.func28, Try.ntmps28
  go_wp2
  go_loopw [4] (fun x wr => ∃ k : Nat, k ≤ l.length ∧ x = .int .i64 k ∧ Fill wr w.heap.size 3 l.length ((l.take k).map (Value.int .i64)) ∧ Below w.heap.size w wr) (fun x _ => l.length - (intOf x).toNat)
  case atStart => exact ⟨0, Nat.zero_le _, rfl, by have := Fill.new w 3 (madeCells #[Value.int .i64 0] l.length); rw [size_madeCells] at this; exact this, b_alloc (Below.refl _ _) _⟩
  case round =>
    obtain ⟨k, hk, rfl, hf, hb⟩ := hrel
    by_cases hlt : k < l.length
    · obtain ⟨b, off, rfl, hc⟩ := h.below hb (by omega)
      have c1 := hc k hlt
      have hs : (l.take (k + 1)).map (Value.int .i64) = (l.take k).map (Value.int .i64) ++ [.int .i64 l[k]] := by rw [List.take_succ_eq_append_getElem hlt, List.map_append]; rfl
      clear hc h hmk
      obtain ⟨f, e1⟩ : ∃ p : Int, p = l[k] := ⟨_, rfl⟩
      rw [← e1] at c1 hs
      have HS := Lib.hid hs
      have hlen : ((l.take k).map (Value.int .i64)).length = k := by rw [List.length_map, List.length_take]; omega
      have hf4 := Lib.hid (hf.push (.int .i64 f) k hlen.symm (by omega))
      have hb4 := Lib.hid (hb.setCell (p := ⟨w.heap.size, k, none⟩) (Nat.le_refl _) (.int .i64 f))
      obtain ⟨u1, hu1⟩ := hf.cell k (by omega)
      have z1 := hf.free k
      clear hs e1 hlen hf hb
      go_wp2
      go_roundw
      case rel => exact ⟨k + 1, by omega, by go_num, by rw [HS.out]; exact hf4.out, hb4.out⟩
      case measure => simp [intOf]; omega
    · rw [List.take_of_length_le (by omega)] at hf
      have ho := Lib.hid (hf.row (n := l.length) (sz := 1) (by omega) (by rw [List.length_map]) (by simp only [maxLen]; omega) (Nat.le_refl _))
      clear hf
      go_wp2
      go_ret
      exact ⟨_, _, rfl, ho.out, hb⟩

theorem mem_take_succ {l : List Int} {k : Nat} {x : Int} (h : k < l.length) (h1 : x ∉ l.take k) (h2 : x ≠ l[k]) : x ∉ l.take (k + 1) := by
  rw [List.take_succ_eq_append_getElem h, List.mem_append, not_or]
  exact ⟨h1, by simpa using h2⟩
def IndexPost (l : List Int) (x : Int) (W : World) (e : Ending) (w' : World) : Prop := ∃ n : Int, e = .returned (.int .i64 n) ∧ decide (0 ≤ n) = decide (x ∈ l) ∧ W = w'
set_option maxHeartbeats 1000000 in
theorem index_any (A : Option Addr) (c : Nat) (l : List Int) (x : Int) (w : World) (h : IntsIn w A l) (hl : l.length ≤ 1000000000000) :
    Calls Try.prog 54 #[.slice A l.length c, .int .i64 x] w (IndexPost l x w) := by
  go_enter Try.func54, Try.ntmps54
  go_wp2
  go_loop [8] (fun y => ∃ k : Nat, k ≤ l.length ∧ y = .int .i64 k ∧ Hid (x ∉ l.take k)) (fun y => l.length - (intOf y).toNat)
  case atStart => exact ⟨0, Nat.zero_le _, rfl, by show x ∉ l.take 0; simp⟩
  case round =>
    obtain ⟨k, hk, rfl, ha⟩ := hrel
    by_cases hlt : k < l.length
    · obtain ⟨b, off, rfl, hc⟩ := h (by omega)
      have c1 := hc k hlt
      clear hc h
      cases hx : (x == l[k])
      · have hn := Lib.hid (mem_take_succ hlt ha.out (by simpa using hx))
        go_wp2
        go_round
        case rel => exact ⟨k + 1, by omega, by go_num, hn⟩
        case measure => simp [intOf]; omega
      · have hn := Lib.hid (show decide (x ∈ l) = true by
          have : x = l[k] := by simpa using hx
          rw [this]; simp)
        go_wp2
        go_ret
        exact ⟨k, rfl, by rw [hn.out]; simp, rfl⟩
    · have hn := Lib.hid (show decide (x ∈ l) = false by
        have := ha.out
        rw [List.take_of_length_le (by omega)] at this
        simpa using this)
      go_wp2
      go_ret
      exact ⟨-1, rfl, by rw [hn.out]; rfl, rfl⟩
theorem contains_any (A : Option Addr) (c : Nat) (l : List Int) (x : Int) (w : World) (h : IntsIn w A l) (hl : l.length ≤ 1000000000000) :
    Calls Try.prog 40 #[.slice A l.length c, .int .i64 x] w fun e w' => e = .returned (.bool (decide (x ∈ l))) ∧ w = w' := by
  go_enter Try.func40, Try.ntmps40
  go_wp2_with fail
  refine (index_any A c l x w h hl).mono ?_
  rintro e w2 ⟨n, rfl, hn, rfl⟩
  have Hn := Lib.hid hn
  clear hn
  go_wp2
  go_ret
  exact ⟨ret_bool Hn.out, rfl⟩

set_option maxHeartbeats 400000 in
theorem specDisk_any (A : Option Addr) (c : Nat) (l : List Int) (w : World) (h : IntsIn w A l) (hl : l.length ≤ 1000000000000) :
    Calls Try.prog 48 #[.slice A l.length c] w fun e w' => e = .returned (.bool (diskB l)) ∧ w = w' := by
  go_enter Try.func48, Try.ntmps48
  go_wp2
  go_loop [3] (fun y => ∃ k : Nat, k ≤ l.length ∧ y = .int .i64 k ∧ Hid (allB (l.take k) 0 255 = true)) (fun y => l.length - (intOf y).toNat)
  case atStart => exact ⟨0, Nat.zero_le _, rfl, by show allB (l.take 0) 0 255 = true; simp [allB]⟩
  case round =>
    obtain ⟨k, hk, rfl, ha⟩ := hrel
    by_cases hlt : k < l.length
    · obtain ⟨b, off, rfl, hc⟩ := h (by omega)
      have c1 := hc k hlt
      clear hc h
      cases hb : inB l[k] 0 255
      · have hn := Lib.hid (show diskB l = false by rw [diskB, allB_false hlt hb, Bool.and_false])
        go_wp2_with (go_at_call 37; refine (l1In_any _ _ _ _).mono ?_; rintro e w' ⟨rfl, rfl⟩)
        go_ret
        exact ⟨ret_bool hn.out.symm, rfl⟩
      · have hn := Lib.hid (show allB (l.take (k + 1)) 0 255 = true by rw [allB_take hlt, ha.out, hb]; rfl)
        go_wp2_with (go_at_call 37; refine (l1In_any _ _ _ _).mono ?_; rintro e w' ⟨rfl, rfl⟩)
        go_round
        case rel => exact ⟨k + 1, by omega, by go_num, hn⟩
        case measure => simp [intOf]; omega
    · have hn := Lib.hid (show diskB l = decide ((l.length : Int) ≤ 64) by
        have := ha.out
        rw [List.take_of_length_le (by omega)] at this
        rw [diskB, this, Bool.and_true])
      go_wp2
      go_ret
      exact ⟨ret_bool hn.out.symm, rfl⟩
end Go.Proofs.Ythghngphamimgaa
