/- Contracts of the search for a saved value: l18Find of the reference, savedAt of the program. -/
import Derived.Test.YtkjjieofoolnhaaSavX
import Derived.Deep.RegionHeld3
import Derived.Deep.QuietTactic
import Derived.BigQuiet
namespace Go.Proofs.Ytkjjieofoolnhaa
open Go.RowKit
set_option linter.unusedVariables false

/-- The place of the first saved value of a sector from the place k on, or -1. -/
def findF (a : Int) (k : Nat) : List Sv → Int
  | [] => -1
  | q :: r => if q.1 = a then (k : Int) else findF a (k + 1) r
def findS (l : List Sv) (a : Int) : Int := findF a 0 l
theorem findF_step {l : List Sv} {a : Int} {k : Nat} (h : k < l.length) : findF a k (l.drop k) = if l[k].1 = a then (k : Int) else findF a (k + 1) (l.drop (k + 1)) := by
  rw [List.drop_eq_getElem_cons h]; rfl

set_option maxHeartbeats 1000000 in
theorem specFind_any (A : Option Addr) (c : Nat) (l : List Sv) (a : Int) (w : World) (h : SavedIn w A l) (hl : l.length ≤ 1000000000) :
    Calls Try.prog 52 #[.slice A l.length c, .int .i64 a] w fun e w' => e = .returned (.int .i64 (findS l a)) ∧ w = w' := by
  have HR := Lib.hid h
  clear h
  go_enter Try.func52, Try.ntmps52
  go_wp2
  go_loop [5] (fun y => ∃ k : Nat, k ≤ l.length ∧ y = .int .i64 k ∧ Hid (findS l a = findF a k (l.drop k))) (fun y => l.length - (intOf y).toNat)
  case atStart => exact ⟨0, Nat.zero_le _, rfl, rfl⟩
  case round =>
    obtain ⟨k, hk, rfl, he⟩ := hrel
    by_cases hlt : k < l.length
    · obtain ⟨b, off, rfl, hc⟩ := HR.out (by omega)
      obtain ⟨c1, _⟩ := hc k hlt
      have hs := he.out
      rw [findF_step hlt] at hs
      obtain ⟨x, hx⟩ : ∃ x, x = l[k].1 := ⟨_, rfl⟩
      rw [← hx] at c1 hs
      clear hc hx he
      cases hxa : (x == a)
      · have hs2 := Lib.hid (show findS l a = findF a (k + 1) (l.drop (k + 1)) by rw [hs, if_neg (by simpa using hxa)])
        clear hs
        go_wp2
        go_round
        case rel => exact ⟨k + 1, by omega, by go_num, hs2⟩
        case measure => simp [intOf]; omega
      · have hs2 := Lib.hid (show findS l a = (k : Int) by rw [hs, if_pos (by simpa using hxa)])
        clear hs
        go_wp2
        go_ret
        exact ⟨ret_int hs2.out.symm, rfl⟩
    · have hs2 := Lib.hid (show findS l a = -1 by rw [he.out, List.drop_of_length_le (by omega)]; rfl)
      clear he
      go_wp2
      go_ret
      exact ⟨ret_int hs2.out.symm, rfl⟩

theorem isAt_any (q : Sv) (g : Nat) (a : Int) (v : Bool) (w : World) (hb : w.cell? ⟨g, 0, none⟩ = some (.int .i64 a)) (hv : (q.1 == a) = v) :
    Calls Try.prog 72 #[.agg #[.int .i64 q.1, .int .i64 q.2], .pointer (some ⟨g, 0, none⟩)] w fun e w' => e = .returned (.bool v) ∧ Below w.heap.size w w' := by
  have hb2 : (w.alloc (.cells #[.int .i64 q.1, .int .i64 q.2] 44)).cell? ⟨g, 0, none⟩ = some (.int .i64 a) := by rw [World.cell?_alloc_some _ _ _ (by rw [hb]; rfl), hb]
  obtain ⟨f, z⟩ := q
  simp only at hv hb2 ⊢
  go_enter Try.func72, Try.ntmps72
  go_wp2
  go_ret
  exact ⟨rfl, b_alloc (Below.refl _ _) _⟩

def FindPost (l : List Sv) (a : Int) (W : World) (e : Ending) (w' : World) : Prop := e = .returned (.int .i64 (findS l a)) ∧ Below W.heap.size W w'
set_option maxHeartbeats 1000000 in
theorem indexSav_any (A : Option Addr) (c g : Nat) (l : List Sv) (a : Int) (w : World) (h : SavedIn w A l) (hb : w.cell? ⟨g, 0, none⟩ = some (.int .i64 a)) (hl : l.length ≤ 1000000000) :
    Calls Try.prog 71 #[.slice A l.length c, .func (.func 72) #[] #[.pointer (some ⟨g, 0, none⟩)]] w (FindPost l a w) := by
  have HR := Lib.hid h
  have HB := Lib.hid hb
  clear h hb
  go_enter Try.func71, Try.ntmps71
  go_wp2
  go_loopw [8] (fun y wr => ∃ k : Nat, k ≤ l.length ∧ y = .int .i64 k ∧ Hid (findS l a = findF a k (l.drop k)) ∧ Hid (Below w.heap.size w wr)) (fun y _ => l.length - (intOf y).toNat)
  case atStart => exact ⟨0, Nat.zero_le _, rfl, rfl, Below.refl _ _⟩
  case round =>
    obtain ⟨k, hk, rfl, he, hw⟩ := hrel
    by_cases hlt : k < l.length
    · obtain ⟨b, off, rfl, hc⟩ := HR.out.below hw.out (by omega)
      obtain ⟨c1, c2⟩ := hc k hlt
      have hs := he.out
      rw [findF_step hlt] at hs
      obtain ⟨⟨f, z⟩, hx⟩ : ∃ p : Sv, p = l[k] := ⟨_, rfl⟩
      rw [← hx] at c1 c2 hs
      simp only at c1 c2 hs
      have hcell : wr.cell? ⟨g, 0, none⟩ = some (.int .i64 a) := (World.cell?_of_block (a := ⟨g, 0, none⟩) (hw.out.block g (block_lt_of_cell HB.out))).trans HB.out
      clear hc hx he
      cases hxa : (f == a)
      · have hs2 := Lib.hid (show findS l a = findF a (k + 1) (l.drop (k + 1)) by rw [hs, if_neg (by simpa using hxa)])
        have HV := Lib.hid (isAt_any (f, z) g a false wr hcell hxa)
        clear hs hcell hxa
        go_wp2_with fail
        refine HV.out.mono ?_
        rintro e w3 ⟨rfl, b3⟩
        go_wp2
        go_roundw
        case rel => exact ⟨k + 1, by omega, by go_num, hs2, hw.out.trans (b3.mono hw.out.size)⟩
        case measure => simp [intOf]; omega
      · have hs2 := Lib.hid (show findS l a = (k : Int) by rw [hs, if_pos (by simpa using hxa)])
        have HV := Lib.hid (isAt_any (f, z) g a true wr hcell hxa)
        clear hs hcell hxa
        go_wp2_with fail
        refine HV.out.mono ?_
        rintro e w3 ⟨rfl, b3⟩
        go_wp2
        go_ret
        exact ⟨ret_int hs2.out.symm, hw.out.trans (b3.mono hw.out.size)⟩
    · have hs2 := Lib.hid (show findS l a = -1 by rw [he.out, List.drop_of_length_le (by omega)]; rfl)
      clear he
      go_wp2
      go_ret
      exact ⟨ret_int hs2.out.symm, hw.out⟩
theorem implSaved_any (A : Option Addr) (c : Nat) (l : List Sv) (a : Int) (w : World) (h : SavedIn w A l) (hl : l.length ≤ 1000000000) :
    Calls Try.prog 54 #[.slice A l.length c, .int .i64 a] w (FindPost l a w) := by
  have HX := Lib.hid (indexSav_any A c w.heap.size l a (w.alloc (.cells #[.int .i64 a] 3)) (h.below (b_alloc (Below.refl _ _) _)) (by simp) hl)
  clear h
  go_enter Try.func54, Try.ntmps54
  go_wp2_with fail
  refine HX.out.mono ?_
  rintro e w3 ⟨rfl, b3⟩
  rw [World.size_alloc] at b3
  have HF := Lib.hid ((b_alloc (Below.refl w.heap.size w) (.cells #[.int .i64 a] 3)).trans (b3.mono (by omega)))
  clear b3
  go_wp2
  go_ret
  exact ⟨rfl, HF.out⟩
end Go.Proofs.Ytkjjieofoolnhaa
