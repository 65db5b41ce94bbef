/- Contracts of VolumeValid, the program's and the reference's. -/
import Derived.Test.YtkjjieofoolnhaaVolV
import Derived.Deep.RegionHeld3
import Derived.Deep.QuietTactic
import Derived.BigQuiet
namespace Go.Proofs.Ytkjjieofoolnhaa
open Go.RowKit
set_option linter.unusedVariables false

theorem SavedIn.read' {w : World} {A : Option Addr} {l : List Sv} (h : ReadC w A (savC l)) : SavedIn w A l := SavedIn.of h
theorem implSaved_take (A : Option Addr) (c k : Nat) (l : List Sv) (a : Int) (w : World) (h : SavedIn w A l) (hk : k ≤ l.length) (hl : l.length ≤ 1000000000) :
    Calls Try.prog 54 #[.slice A k c, .int .i64 a] w (FindPost (l.take k) a w) := by
  have := implSaved_any A c (l.take k) a w (h.take k) (by rw [List.length_take]; omega)
  rwa [List.length_take, Nat.min_eq_left hk] at this
def VVPost (N : List Int) (S : List (List Sv)) (W : World) (e : Ending) (w' : World) : Prop := e = .returned (.bool (volB N S)) ∧ Below W.heap.size W w'
theorem cell_below {w w' : World} {p : Addr} {v : Value} (h : w.cell? p = some v) (hb : Below w.heap.size w w') : w'.cell? p = some v :=
  (World.cell?_of_block (hb.block _ (block_lt_of_cell h))).trans h

set_option maxHeartbeats 4000000 in
theorem implVol_any (v : Value) (N : List Int) (S : List (List Sv)) (w : World) (h : VolR w v N S) (hN : N.length ≤ 1000000000) (hS : S.length + sumN S ≤ 1000000000) :
    Calls Try.prog 26 #[v] w (VVPost N S w) := by
  obtain ⟨A, c, B, d, rfl, hI, hR, hc1, hc2, hd1, hd2⟩ := h
  have HB0 := Lib.hid (b_alloc (Below.refl w.heap.size w) (.cells #[.slice A N.length c, .slice B S.length d] 29))
  have HI := Lib.hid (hI.alloc (.cells #[.slice A N.length c, .slice B S.length d] 29))
  have HX0 := Lib.hid (show Blk (w.alloc (.cells #[.slice A N.length c, .slice B S.length d] 29)) w.heap.size 29 #[.slice A N.length c, .slice B S.length d] from Blk.new rfl)
  have HR := Lib.hid hR
  clear hI hR
  cases hdk : diskB N
  · have hno := Lib.hid (show VVPost N S w (.returned (.bool false)) (w.alloc (.cells #[.slice A N.length c, .slice B S.length d] 29)) from ⟨ret_bool (by simp [volB, hdk]), HB0.out⟩)
    go_enter Try.func26, Try.ntmps26
    go_wp2_with (go_at_call 33; refine (diskValid_any _ _ N _ HI.out (by omega)).mono ?_; rintro e w' ⟨rfl, rfl⟩; rw [hdk])
    go_ret
    exact hno.out
  by_cases h5 : (S.length : Int) ≤ 5
  case neg =>
    have hno := Lib.hid (show VVPost N S w (.returned (.bool false)) (w.alloc (.cells #[.slice A N.length c, .slice B S.length d] 29)) from ⟨ret_bool (by simp [volB, h5]), HB0.out⟩)
    go_enter Try.func26, Try.ntmps26
    go_wp2_with (go_at_call 33; refine (diskValid_any _ _ N _ HI.out (by omega)).mono ?_; rintro e w' ⟨rfl, rfl⟩; rw [hdk])
    go_ret
    exact hno.out
  have hfal := Lib.hid (fun k (hk : k < S.length) (hf : shotB N.length S[k] = false) w' (hb : Below w.heap.size w w') => show VVPost N S w (.returned (.bool false)) w' from ⟨ret_bool (by rw [volB, allS_no hk hf, Bool.and_false]), hb⟩)
  have hyes := Lib.hid (fun (hf : S.all (shotB N.length) = true) w' (hb : Below w.heap.size w w') => show VVPost N S w (.returned (.bool true)) w' from ⟨ret_bool (by simp [volB, hf, hdk, h5]), hb⟩)
  go_enter Try.func26, Try.ntmps26
  go_wp2_with (go_at_call 33; refine (diskValid_any _ _ N _ HI.out (by omega)).mono ?_; rintro e w' ⟨rfl, rfl⟩; rw [hdk])
  clear hdk HI
  generalize hw0 : w.alloc (.cells #[.slice A N.length c, .slice B S.length d] 29) = w0 at *
  clear hw0
  go_loopw [20] (fun y wr => ∃ k : Nat, k ≤ S.length ∧ y = .int .i64 k ∧ Hid ((S.take k).all (shotB N.length) = true) ∧ Hid (Blk wr w.heap.size 29 #[.slice A N.length c, .slice B S.length d]) ∧ Hid (Below w.heap.size w wr)) (fun y _ => S.length - (intOf y).toNat)
  case atStart => exact ⟨0, Nat.zero_le _, rfl, by show (S.take 0).all _ = true; simp, HX0, HB0⟩
  case round =>
    obtain ⟨k, hk, rfl, ha, hX, hb⟩ := hrel
    clear HX0 HB0
    by_cases hlt : k < S.length
    · obtain ⟨bo, oo, rfl, hcs⟩ := HR.out (by omega)
      obtain ⟨Ai, ci, x0, y0, l1, u1⟩ := hcs k hlt
      have x1 := cell_below x0 hb.out
      have hst := Lib.hid (allS_step (f := shotB N.length) hlt)
      have hf2 := Lib.hid (hfal.out k hlt)
      have hsm := sumN_get hlt
      clear hcs
      obtain ⟨r, hr⟩ : ∃ r, r = S[k] := ⟨_, rfl⟩
      rw [← hr] at x0 x1 y0 l1 hst hf2 hsm
      have Y := Lib.hid (SavedIn.of y0)
      clear hr x0 y0 hfal
      go_wp2
      clear x1
      go_loopw [26] (fun y wr => ∃ j : Nat, j ≤ r.length ∧ y = .int .i64 j ∧ Hid (upS N.length [] r = upS N.length (r.take j) (r.drop j)) ∧ Hid (Blk wr w.heap.size 29 #[.slice A N.length c, .slice (some ⟨bo, oo, none⟩) S.length d]) ∧ Hid (Below w.heap.size w wr)) (fun y _ => r.length - (intOf y).toNat)
      case atStart => exact ⟨0, Nat.zero_le _, rfl, rfl, hX, hb⟩
      case round =>
        rename_i wo
        obtain ⟨j, hj, rfl, hu, hX2, hb2⟩ := hrel
        clear hX hb
        by_cases hjt : j < r.length
        · obtain ⟨b, off, rfl, hc⟩ := Y.out.below hb2.out (by omega)
          obtain ⟨c1, c2⟩ := hc j hjt
          have hs := hu.out
          rw [upS_step hjt] at hs
          clear hc hu
          obtain ⟨⟨f, z⟩, hfn⟩ : ∃ p : Sv, p = r[j] := ⟨_, rfl⟩
          rw [← hfn] at c1 c2 hs
          simp only at c1 c2
          clear hfn
          have hno2 := Lib.hid (fun w' (hv : okS N.length (r.take j) (f, z) = false) hb => hf2.out (by show upS N.length [] r = false; rw [hs, hv, Bool.false_and]) w' hb)
          have hgo := Lib.hid (fun (hv : okS N.length (r.take j) (f, z) = true) => show upS N.length [] r = upS N.length (r.take (j + 1)) (r.drop (j + 1)) by rw [hs, hv, Bool.true_and])
          have X := Lib.hid (show Blk (wr.alloc (.cells #[.int .i64 f, .int .i64 z] 44)) wr.heap.size 44 #[.int .i64 f, .int .i64 z] from Blk.new rfl)
          have X0 := Lib.hid (hX2.out.alloc (.cells #[.int .i64 f, .int .i64 z] 44))
          have HB := Lib.hid (b_alloc hb2.out (.cells #[.int .i64 f, .int .i64 z] 44))
          obtain ⟨v0, _, _, _⟩ := X0.out.two
          obtain ⟨v1, v2, _, _⟩ := X.out.two
          have HSV := Lib.hid (implSaved_take (some ⟨b, off, none⟩) ci j r f ((wr.alloc (.cells #[.int .i64 f, .int .i64 z] 44)).drew) ((Y.out.below HB.out).keep (fun _ _ => rfl)) hj (by omega))
          clear hs hX2 hb2
          have hkc : j ≤ ci := by omega
          have hkc2 : (j : Int) ≤ (ci : Int) := by omega
          have hk0 : (0 : Int) ≤ (j : Int) := by omega
          cases g1 : inB f 0 ((N.length : Int) - 1)
          · have hno := Lib.hid (fun m => hno2.out _ (by simp [okS, g1]) (belowN HB.out m))
            clear hno2 hgo X HB X0 HSV hf2 hyes hst ha
            go_wp2
            go_quiet ((go_at_call 53; exact Calls.quiet_of_same (quiet_ll (within_is g1 _))))
            go_wp2
            go_ret
            exact hno.out _
          · cases g2 : inB z 0 255
            · have hno := Lib.hid (fun m => hno2.out _ (by simp [okS, g2]) (belowN HB.out m))
              clear hno2 hgo X HB X0 HSV hf2 hyes hst ha
              go_wp2
              go_quiet ((go_at_call 53; exact Calls.quiet_of_same (quiet_ll (within_is (by first | exact g1 | exact g2) _))))
              go_wp2
              go_ret
              exact hno.out _
            · have HX1 := Lib.hid (X0.out.drew)
              have hfr : findS (r.take j) f = -1 ∨ (0 ≤ findS (r.take j) f ∧ findS (r.take j) f < 1000000000) := by
                have := findF_range f (r.take j) 0
                rw [List.length_take] at this
                unfold findS
                omega
              obtain ⟨q, hq⟩ : ∃ q, q = findS (r.take j) f := ⟨_, rfl⟩
              rw [← hq] at hfr
              have HQ := Lib.hid hq
              have d2 : IntKind.i64.wrap ((N.length : Int) - 1) = (N.length : Int) - 1 := IntWalk.i64_in _ (by omega)
              have G1 := Lib.hid g1
              have G2 := Lib.hid g2
              clear hq g1 g2
              go_wp2
              go_region_held3 (fun w' => w'.cell? ⟨wr.heap.size, 0, none⟩ = some (.int .i64 f) ∧ w'.cell? ⟨wr.heap.size, 1, none⟩ = some (.int .i64 z) ∧ w'.cell? ⟨w.heap.size, 0, none⟩ = some (.slice A N.length c)) (first | (exact ⟨X.out.drew.cell 0, X.out.drew.cell 1, X0.out.drew.cell 0⟩) | go_keep)
                (first
                  | (go_at_call 53; (try rw [d2]); refine (within_is (b := true) (by first | exact G1.out | exact G2.out) _).mono ?_; rintro e w' ⟨rfl, rfl⟩)
                  | (go_at_call 54; refine HSV.out.mono ?_; rintro e w3 ⟨rfl, b3⟩; rw [← HQ.out]; have e0 := (blk_below b3 X.out.drew X.out.lt).cell 0; have e1 := (blk_below b3 X.out.drew X.out.lt).cell 1; have e2 := (blk_below b3 X0.out.drew X0.out.lt).cell 0))
              all_goals
                have HX3 := Lib.hid (blk_below b3 X0.out.drew X0.out.lt)
                have HB3 := Lib.hid ((b_drew HB.out).trans (b3.mono HB.out.size))
                have hn2 := Lib.hid (fun (h0 : 0 ≤ q) => hno2.out w3 (by simp only [okS, Bool.and_eq_false_iff, decide_eq_false_iff_not]; right; rw [← HQ.out]; omega) HB3.out)
                have hg2 := Lib.hid (fun (h0 : q < 0) => hgo.out (by simp only [okS, G1.out, G2.out, Bool.true_and, decide_eq_true_eq]; rw [← HQ.out]; exact h0))
                clear b3 X HB X0 HSV hno2 hgo hf2 hyes v0 v1 v2
                by_cases h0 : 0 ≤ q
                · have hn3 := Lib.hid (hn2.out h0)
                  clear hn2 hg2
                  go_wp2
                  go_ret
                  exact hn3.out
                · have hg3 := Lib.hid (hg2.out (by omega))
                  clear hn2 hg2
                  go_wp2
                  go_roundw
                  case rel => exact ⟨j + 1, by omega, by go_num, hg3, HX3, HB3⟩
                  case measure => simp [intOf]; omega
        · have ha2 := Lib.hid (show (S.take (k + 1)).all (shotB N.length) = true by
            rw [hst.out, ha.out, Bool.true_and]
            show upS N.length [] r = true
            rw [hu.out, List.drop_of_length_le (by omega)]; rfl)
          clear hu ha hst hf2 hyes
          go_wp2
          go_roundw
          case rel => exact ⟨k + 1, by omega, by go_num, ha2, hX2, hb2⟩
          case measure => simp [intOf]; omega
    · have hno := Lib.hid (hyes.out (by have := ha.out; rwa [List.take_of_length_le (by omega)] at this) wr hb.out)
      clear ha hyes hfal hX hb
      go_wp2
      go_ret
      exact hno.out
end Go.Proofs.Ytkjjieofoolnhaa
