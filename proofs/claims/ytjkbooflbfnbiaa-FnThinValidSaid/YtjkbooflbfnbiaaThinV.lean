/- Contracts of ThinValid, the program's and the reference's. -/
import Derived.Test.YtjkbooflbfnbiaaThinW
import Derived.Test.YtjkbooflbfnbiaaIntsX
import Derived.Deep.QuietTactic
import Derived.BigQuiet
namespace Go.Proofs.Ytjkbooflbfnbiaa
open Go.RowKit
set_option linter.unusedVariables false

def TVPost (W P : List Int) (w : World) (e : Ending) (w' : World) : Prop := e = .returned (.bool (thinB W P)) ∧ Below w.heap.size w w'

/-- The box of the argument lies in the first new block. -/
def Boxed (w : World) (v0 v1 : Value) (wr : World) : Prop := wr.cell? ⟨w.heap.size, 0, none⟩ = some v0 ∧ wr.cell? ⟨w.heap.size, 1, none⟩ = some v1 ∧ Below w.heap.size w wr
theorem Boxed.start (w : World) (v0 v1 : Value) (T : TypeId) : Boxed w v0 v1 (w.alloc (.cells #[v0, v1] T)) :=
  ⟨by rw [cell_of_row _ _ _ _ _ _ (heap_alloc_new w _)]; rfl, by rw [cell_of_row _ _ _ _ _ _ (heap_alloc_new w _)]; rfl, b_alloc (Below.refl _ _) _⟩
theorem Boxed.drewN {w wr : World} {v0 v1 : Value} (h : Boxed w v0 v1 wr) (n : Nat) : Boxed w v0 v1 (wr.drewN n) := ⟨h.1, h.2.1, belowN h.2.2 n⟩

theorem one_false {W : List Int} {k : Nat} (h : k < W.length) (h0 : 0 ≤ W[k]) (hm : W[k] ∈ W.take k) : oneB W = false := by
  unfold oneB
  rw [decide_eq_false_iff_not]
  intro hh
  have e : W.getD k 0 = W[k] := by rw [List.getD_eq_getElem?_getD, List.getElem?_eq_getElem h]; rfl
  exact hh k h (by rw [e]; exact h0) (by rw [e]; exact hm)
def OneTo (W : List Int) (k : Nat) : Prop := ∀ i, i < k → 0 ≤ W.getD i 0 → W.getD i 0 ∉ W.take i
theorem OneTo.succ {W : List Int} {k : Nat} (h : k < W.length) (ho : OneTo W k) (hk : 0 ≤ W[k] → W[k] ∉ W.take k) : OneTo W (k + 1) := by
  intro i hi h0
  have e : W.getD k 0 = W[k] := by rw [List.getD_eq_getElem?_getD, List.getElem?_eq_getElem h]; rfl
  rcases Nat.lt_or_ge i k with hlt | hge
  · exact ho i hlt h0
  · obtain rfl : i = k := by omega
    rw [e] at h0 ⊢
    exact hk h0
theorem one_true {W : List Int} (h : OneTo W W.length) : oneB W = true := by
  unfold oneB
  rw [decide_eq_true_iff]
  exact h

set_option maxHeartbeats 1000000 in
theorem implThin_any (v : Value) (W P : List Int) (w : World) (h : ThinR w v W P) (hW : W.length ≤ 1000000000000) (hP : P.length ≤ 1000000000000) :
    Calls Try.prog 15 #[v] w (TVPost W P w) := by
  obtain ⟨A, c, B, d, rfl, hA, hB, hc1, hc2, hd1, hd2⟩ := h
  by_cases h1 : (W.length : Int) ≤ 64
  · cases h2 : diskB P
    · have hno := Lib.hid (fun w' (hb : Below w.heap.size w w') => show TVPost W P w (.returned (.bool false)) w' from ⟨ret_bool (by simp [thinB, h2]), hb⟩)
      go_enter Try.func15, Try.ntmps15
      go_wp2_with (go_at_call 41; refine (diskValid_any _ _ P _ (hB.alloc _) (by omega)).mono ?_; rintro e w' ⟨rfl, rfl⟩)
      go_ret
      exact hno.out _ (b_alloc (Below.refl _ _) _)
    · cases h3 : allB W (-1) ((P.length : Int) - 1)
      · have hno := Lib.hid (fun w' (hb : Below w.heap.size w w') => show TVPost W P w (.returned (.bool false)) w' from ⟨ret_bool (by simp [thinB, h3]), hb⟩)
        go_enter Try.func15, Try.ntmps15
        go_wp2_with (first
          | (go_at_call 41; refine (diskValid_any _ _ P _ (hB.alloc _) (by omega)).mono ?_; rintro e w' ⟨rfl, rfl⟩)
          | (go_at_call 42; refine (allWithin_any _ _ W _ _ _ (hA.alloc _) (by omega)).mono ?_; rintro e w' ⟨rfl, rfl⟩))
        go_ret
        exact hno.out _ (b_alloc (Below.refl _ _) _)
      · have h0 := Lib.hid (fun b => show thinB W P = b ↔ oneB W = b by simp [thinB, h1, h2, h3])
        go_enter Try.func15, Try.ntmps15
        go_wp2_with (first
          | (go_at_call 41; refine (diskValid_any _ _ P _ (hB.alloc _) (by omega)).mono ?_; rintro e w' ⟨rfl, rfl⟩)
          | (go_at_call 42; refine (allWithin_any _ _ W _ _ _ (hA.alloc _) (by omega)).mono ?_; rintro e w' ⟨rfl, rfl⟩))
        clear h2 h3
        go_loopw [28] (fun y wr => ∃ k : Nat, k ≤ W.length ∧ y = .int .i64 k ∧ Hid (OneTo W k) ∧ Hid (Boxed w (.slice A W.length c) (.slice B P.length d) wr)) (fun y _ => W.length - (intOf y).toNat)
        case atStart => exact ⟨0, Nat.zero_le _, rfl, fun i hi => absurd hi (by omega), Boxed.start _ _ _ _⟩
        case round =>
          obtain ⟨k, hk, rfl, ho, hx⟩ := hrel
          by_cases hlt : k < W.length
          · obtain ⟨x1, x2, hb⟩ := hx.out
            have hA1 := hA.below hb
            obtain ⟨b, off, rfl, hc⟩ := id hA1 (by omega)
            have c1 := hc k hlt
            clear hc
            obtain ⟨x, hxe⟩ : ∃ x, x = W[k] := ⟨_, rfl⟩
            rw [← hxe] at c1
            have hst := Lib.hid (fun h => OneTo.succ hlt ho.out h)
            have hfl := Lib.hid (fun h h' => one_false hlt h h')
            rw [← hxe] at hst hfl
            have htk := hA1.take k
            have hlen : (W.take k).length = k := by rw [List.length_take]; omega
            have Hb := Lib.hid hb
            clear hxe hA1 hb ho hA hB
            by_cases hx0 : 0 ≤ x
            · have hcall := contains_any (some ⟨b, off, none⟩) c (W.take k) x wr htk (by omega)
              rw [hlen] at hcall
              have Hc := Lib.hid hcall
              clear hcall hlen htk
              cases hm : decide (x ∈ W.take k)
              · have hst2 := Lib.hid (hst.out (fun _ => by simpa using hm))
                rw [hm] at Hc
                clear hm hst hfl
                go_wp2_with (go_at_call 43; refine Hc.out.mono ?_; rintro e w' ⟨rfl, rfl⟩)
                go_roundw
                case rel => exact ⟨k + 1, by omega, by go_num, hst2, hx⟩
                case measure => simp [intOf]; omega
              · have hno := Lib.hid (show TVPost W P w (.returned (.bool false)) wr from ⟨ret_bool ((h0.out false).2 (hfl.out hx0 (by simpa using hm))).symm, Hb.out⟩)
                rw [hm] at Hc
                clear hm hst hfl
                go_wp2_with (go_at_call 43; refine Hc.out.mono ?_; rintro e w' ⟨rfl, rfl⟩)
                go_ret
                exact hno.out
            · have hst2 := Lib.hid (hst.out (fun h => absurd h hx0))
              clear hst hfl hlen htk
              go_wp2
              go_roundw
              case rel => exact ⟨k + 1, by omega, by go_num, hst2, hx⟩
              case measure => simp [intOf]; omega
          · have hyes := Lib.hid (show TVPost W P w (.returned (.bool true)) wr from ⟨ret_bool ((h0.out true).2 (one_true (by have := ho.out; rwa [show k = W.length by omega] at this))).symm, hx.out.2.2⟩)
            clear ho hx
            go_wp2
            go_ret
            exact hyes.out
  · have hno := Lib.hid (fun w' (hb : Below w.heap.size w w') => show TVPost W P w (.returned (.bool false)) w' from ⟨ret_bool (by simp [thinB]; omega), hb⟩)
    go_enter Try.func15, Try.ntmps15
    go_wp2
    go_ret
    exact hno.out _ (b_alloc (Below.refl _ _) _)

set_option maxHeartbeats 1000000 in
theorem specThin_any (v : Value) (W P : List Int) (w : World) (h : ThinR w v W P) (hW : W.length ≤ 1000000000000) (hP : P.length ≤ 1000000000000) :
    Calls Try.prog 13 #[v] w (TVPost W P w) := by
  obtain ⟨A, c, B, d, rfl, hA, hB, hc1, hc2, hd1, hd2⟩ := h
  by_cases h1 : (W.length : Int) ≤ 64
  · cases h2 : diskB P
    · have hno := Lib.hid (fun w' (hb : Below w.heap.size w w') => show TVPost W P w (.returned (.bool false)) w' from ⟨ret_bool (by simp [thinB, h2]), hb⟩)
      go_enter Try.func13, Try.ntmps13
      go_wp2_with (go_at_call 38; refine (specDisk_any _ _ P _ (hB.alloc _) (by omega)).mono ?_; rintro e w' ⟨rfl, rfl⟩)
      go_ret
      exact hno.out _ (b_alloc (Below.refl _ _) _)
    · have h0 := Lib.hid (fun (h3 : allB W (-1) ((P.length : Int) - 1) = true) b => show thinB W P = b ↔ oneB W = b by simp [thinB, h1, h2, h3])
      have hf := Lib.hid (fun (h3 : allB W (-1) ((P.length : Int) - 1) = false) => show thinB W P = false by simp [thinB, h3])
      go_enter Try.func13, Try.ntmps13
      go_wp2_with (go_at_call 38; refine (specDisk_any _ _ P _ (hB.alloc _) (by omega)).mono ?_; rintro e w' ⟨rfl, rfl⟩)
      clear h2
      go_loopw [3] (fun y wr => ∃ k : Nat, k ≤ W.length ∧ y = .int .i64 k ∧ Hid (OneTo W k) ∧ Hid (allB (W.take k) (-1) ((P.length : Int) - 1) = true) ∧ Hid (Boxed w (.slice A W.length c) (.slice B P.length d) wr)) (fun y _ => W.length - (intOf y).toNat)
      case atStart => exact ⟨0, Nat.zero_le _, rfl, fun i hi => absurd hi (by omega), by show allB (W.take 0) _ _ = true; simp [allB], Boxed.start _ _ _ _⟩
      case round =>
        obtain ⟨k, hk, rfl, ho, ha, hx⟩ := hrel
        obtain ⟨x1, x2, hb⟩ := hx.out
        have Hb := Lib.hid hb
        by_cases hlt : k < W.length
        · have hA1 := hA.below hb
          obtain ⟨b, off, rfl, hc⟩ := id hA1 (by omega)
          have c1 := hc k hlt
          obtain ⟨x, hxe⟩ : ∃ x, x = W[k] := ⟨_, rfl⟩
          rw [← hxe] at c1
          have hst := Lib.hid (fun h => OneTo.succ hlt ho.out h)
          have hfl := Lib.hid (fun h h' => one_false hlt h h')
          have hal := Lib.hid (allB_take (lo := -1) (hi := (P.length : Int) - 1) hlt)
          have haf := Lib.hid (fun h => allB_false (lo := -1) (hi := (P.length : Int) - 1) hlt h)
          rw [← hxe] at hst hfl hal haf
          have HA := Lib.hid hA
          have HX := Lib.hid hxe
          clear hxe hA1 hb ho hA hB hc
          cases hin : inB x (-1) ((P.length : Int) - 1)
          · have hno := Lib.hid (fun m => show TVPost W P w (.returned (.bool false)) (wr.drewN m) from ⟨ret_bool (hf.out (haf.out hin)).symm, belowN Hb.out m⟩)
            clear hst hfl hal haf
            go_wp2
            go_quiet ((go_at_call 39; exact Calls.quiet_of_same (quiet_ll (l1In_any _ _ _ _))))
            go_wp2
            go_ret
            exact hno.out _
          · have hal2 := Lib.hid (show allB (W.take (k + 1)) (-1) ((P.length : Int) - 1) = true by rw [hal.out, ha.out, hin]; rfl)
            clear hal haf
            have hx' := Lib.hid (fun m => hx.out.drewN m)
            go_wp2
            go_quiet ((go_at_call 39; exact Calls.quiet_of_same (quiet_ll (l1In_any _ _ _ _))))
            go_wp2
            have hxq := Lib.hid (hx'.out nq)
            clear hx' hx hin x1 x2 c1 Hb
            generalize wr.drewN nq = w1 at *
            go_loopw [4] (fun y wr => ∃ j : Nat, j ≤ k ∧ y = .int .i64 j ∧ Hid (0 ≤ x → x ∉ W.take j) ∧ Hid (Boxed w (.slice (some ⟨b, off, none⟩) W.length c) (.slice B P.length d) wr)) (fun y _ => k - (intOf y).toNat)
            case atStart => exact ⟨0, Nat.zero_le _, rfl, by show 0 ≤ x → x ∉ W.take 0; simp, hxq⟩
            case round =>
              obtain ⟨j, hj, rfl, hn, hx2⟩ := hrel
              obtain ⟨x1, x2, hb2⟩ := hx2.out
              have Hb2 := Lib.hid hb2
              by_cases hjk : j < k
              · obtain ⟨b', off', hbo, hc⟩ := (HA.out.below hb2) (by omega)
                obtain ⟨rfl, rfl⟩ : b = b' ∧ off = off' := by injection hbo with hbo; injection hbo with h1 h2; exact ⟨h1, h2⟩
                have c1 := hc k hlt
                have c2 := hc j (by omega)
                rw [← HX.out] at c1
                clear hbo hc hb2
                by_cases hx0 : 0 ≤ x
                · cases hm : (W[j] == x)
                  · have hn2 := Lib.hid (show 0 ≤ x → x ∉ W.take (j + 1) from fun h => mem_take_succ (by omega) (hn.out h) (fun e => by rw [e] at hm; simp at hm))
                    have hx3 := Lib.hid (fun m => hx2.out.drewN m)
                    clear hn hx2 Hb2
                    go_wp2
                    go_quiet (fail)
                    go_wp2
                    go_roundw
                    case rel => exact ⟨j + 1, by omega, by go_num, hn2, hx3.out _⟩
                    case measure => simp [intOf]; omega
                  · have hno := Lib.hid (fun m => show TVPost W P w (.returned (.bool false)) (wr.drewN m) from ⟨ret_bool (by
                      have hmm : W[j] = x := by simpa using hm
                      have : thinB W P = false := by
                        cases hal2' : allB W (-1) ((P.length : Int) - 1)
                        · exact hf.out hal2'
                        · exact (h0.out hal2' false).2 (hfl.out hx0 (by rw [← hmm, List.mem_take_iff_getElem]; exact ⟨j, by omega, rfl⟩))
                      exact this.symm), belowN Hb2.out m⟩)
                    clear hn hx2 Hb2
                    go_wp2
                    go_quiet (fail)
                    go_wp2
                    go_ret
                    exact hno.out _
                · have hn2 := Lib.hid (show 0 ≤ x → x ∉ W.take (j + 1) from fun h => absurd h hx0)
                  have hd : decide (0 ≤ x) = false := by simpa using hx0
                  have hx3 := Lib.hid (fun m => hx2.out.drewN m)
                  clear hn hx2 Hb2
                  go_wp2
                  go_quiet (fail)
                  go_wp2
                  go_roundw
                  case rel => exact ⟨j + 1, by omega, by go_num, hn2, hx3.out _⟩
                  case measure => simp [intOf]; omega
              · have hst2 := Lib.hid (hst.out (by have := hn.out; rwa [show j = k by omega] at this))
                clear hn hb2 Hb2
                go_wp2
                go_roundw
                case rel => exact ⟨k + 1, by omega, by go_num, hst2, hal2, hx2⟩
                case measure => simp [intOf]; omega
        · have hyes := Lib.hid (show TVPost W P w (.returned (.bool true)) wr from ⟨ret_bool (by
            have h4 := ha.out
            have h5 := ho.out
            rw [List.take_of_length_le (by omega)] at h4
            rw [show k = W.length by omega] at h5
            exact ((h0.out h4 true).2 (one_true h5)).symm), Hb.out⟩)
          clear ho hx ha hb Hb
          go_wp2
          go_ret
          exact hyes.out
  · have hno := Lib.hid (fun w' (hb : Below w.heap.size w w') => show TVPost W P w (.returned (.bool false)) w' from ⟨ret_bool (by simp [thinB]; omega), hb⟩)
    go_enter Try.func13, Try.ntmps13
    go_wp2
    go_ret
    exact hno.out _ (b_alloc (Below.refl _ _) _)
end Go.Proofs.Ytjkbooflbfnbiaa
