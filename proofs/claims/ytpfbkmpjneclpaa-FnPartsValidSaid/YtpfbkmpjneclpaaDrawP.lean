/- The draw of partitions and a size. -/
import Derived.Test.YtpfbkmpjneclpaaRd
import Derived.Test.YtpfbkmpjneclpaaPartsX
import Derived.Test.YtpfbkmpjneclpaaCloneP
import Derived.Deep.RegionHeld3
import Derived.Deep.RegionWith
namespace Go.Proofs.Ytpfbkmpjneclpaa
open Go.RowKit
set_option linter.unusedVariables false

def POut (W : World) (rb P g cap : Nat) (l : List (Int × Int)) (w : World) : Prop :=
  w.ownsRow W.heap.size 47 2 (.slice (some ⟨g, 0, none⟩) l.length cap) l.length (partsC l) ∧ RdAt w rb P ∧ W.grownBy w (some rb) ∧ rb < W.heap.size

theorem POut.ge {W w : World} {rb P g cap : Nat} {l : List (Int × Int)} (h : POut W rb P g cap l w) : W.heap.size ≤ g ∧ g < w.heap.size := h.1.lt g rfl
theorem POut.pick {W w w' : World} {rb P Q g cap : Nat} {l : List (Int × Int)} (h : POut W rb P g cap l w) (hr : RdAt w' rb Q) (hg : w.grownBy w' (some rb)) : POut W rb Q g cap l w' :=
  ⟨h.1.kept hg (.inr (fun e => by have e' : g = rb := by injection e
                                  have := h.ge; have := h.2.2.2; omega)), hr, gtrans h.2.2.1 hg, h.2.2.2⟩
theorem POut.alloc {W w : World} {rb P g cap : Nat} {l : List (Int × Int)} (h : POut W rb P g cap l w) (o : Obj) : POut W rb P g cap l (w.alloc o) :=
  ⟨h.1.alloc o, h.2.1.alloc o, galloc h.2.2.1 o, h.2.2.2⟩
theorem POut.drew {W w : World} {rb P g cap : Nat} {l : List (Int × Int)} (h : POut W rb P g cap l w) : POut W rb P g cap l w.drew :=
  ⟨h.1.drew, h.2.1.drew, gdrew h.2.2.1, h.2.2.2⟩
theorem POut.pushed {W w w' : World} {rb P g g' cap cap' n : Nat} {l l2 : List (Int × Int)} {news : List Value} (h : POut W rb P g cap l w) (hown : w'.ownsRow W.heap.size 47 2 (.slice (some ⟨g', 0, none⟩) n cap') n (partsC l ++ news))
    (hg : w.grownBy w' (some g)) (hn : news = partsC l2) (hl : n = (l ++ l2).length) : POut W rb P g' cap' (l ++ l2) w' := by
  subst hn hl
  have hge := h.ge
  have hlt := h.2.2.2
  refine ⟨?_, h.2.1.grown hg (fun k hk => by injection hk with hk; omega), ?_, hlt⟩
  · have : partsC (l ++ l2) = partsC l ++ partsC l2 := by simp [partsC]
    rw [this]; exact hown
  · have hs := h.2.2.1.size
    exact ⟨hg.os.trans h.2.2.1.os, hg.tape.trans h.2.2.1.tape, hg.output.trans h.2.2.1.output, Nat.le_trans hs hg.size,
      fun k hk hn => (hg.block k (by omega) (fun e => by injection e with e; omega)).trans (h.2.2.1.block k hk hn)⟩
theorem POut.to {W w : World} {rb P Q g cap : Nat} {l : List (Int × Int)} (h : POut W rb P g cap l w) (e : P = Q) : POut W rb Q g cap l w := e ▸ h
theorem POut.start {W : World} {rb P : Nat} (h : RdAt W rb P) : POut W rb P W.heap.size 0 [] (W.alloc (.cells #[] 47)) :=
  ⟨World.ownsRow_lit (size := 2) (base := W.heap.size) W #[] 0 (Nat.le_refl _) (by simp [maxLen]) (by simp), h.alloc _, World.grownBy_alloc W _ _, h.lt⟩

def PDPost (rb P : Nat) (W : World) (e : Ending) (w' : World) : Prop :=
  ∃ (A : Option Addr) (c : Nat) (l : List (Int × Int)) (size : Int), e = .returned (.tuple #[.slice A l.length c, .int .i64 size]) ∧ OwnC W.heap.size w'.heap.size w' 47 A (partsC l) ∧ l.length ≤ 6 ∧ -1 ≤ size ∧ size ≤ 100001 ∧
    RdAt w' rb (P + 20) ∧ W.grownBy w' (some rb) ∧ ∃ ad, A = some ad ∧ l.length ≤ c ∧ c ≤ 9223372036854775807
theorem POut.done {W w : World} {rb P Q g cap n : Nat} {l : List (Int × Int)} {size : Int} (h : POut W rb Q g cap l w) (hl : l.length ≤ 6) (hn : n = l.length) (h1 : -1 ≤ size) (h2 : size ≤ 100001) (hQ : Q ≤ P + 20) :
    PDPost rb P W (.returned (.tuple #[.slice (some ⟨g, 0, none⟩) n cap, .int .i64 size])) w :=
  ⟨_, _, l, size, by rw [hn], OwnC.of_row h.1, hl, h1, h2, h.2.1.mono hQ, h.2.2.1, _, rfl, by
    rcases h.1.2 with ⟨hv, _⟩ | ⟨g', cap', cur, hv, _, _, k1, k2, _⟩
    · injection hv with e _ _; cases e
    · injection hv with _ _ e; subst e; exact ⟨k1, by simpa [maxLen] using k2⟩⟩

set_option maxHeartbeats 2000000 in
theorem parts_drawn (rb P : Nat) (n : Int) (W : World) (h : RdAt W rb P) (hP : P ≤ 100000000000) (hn : 0 ≤ n ∧ n ≤ 1000) :
    Calls Try.prog 53 #[.pointer (some ⟨rb, 0, none⟩), .int .i64 n] W (PDPost rb P W) := by
  obtain ⟨i0, hi0, hz0, hz1, hz2⟩ := info_parts rowinfo_parts
  have h0 := POut.start h
  clear h
  go_enter Try.func53, Try.ntmps53
  go_wp2_with fail
  refine (pick_in rb P _ _ h0.2.1 (by omega) (by omega)).mono ?_
  rintro e w1 ⟨at0, rfl, a0, a1, hr1, hg1, hs1⟩
  have h1 := h0.pick hr1 hg1
  clear h0 hr1 hg1 hs1
  go_wp2_with fail
  refine (pick_in rb (P + 1) _ _ h1.2.1 (by omega) (by omega)).mono ?_
  rintro e w2 ⟨k0, rfl, b0, b1, hr1, hg1, hs1⟩
  have h2 := h1.pick hr1 hg1
  clear h1 hr1 hg1 hs1
  go_wp2
  go_loopw [6, 7, 8] (fun f m x wr => ∃ (l : List (Int × Int)) (at1 k : Int) (g cap : Nat), 0 ≤ k ∧ (l.length : Int) + k ≤ 4 ∧ f = .slice (some ⟨g, 0, none⟩) l.length cap ∧ m = .int .i64 at1 ∧ x = .int .i64 k ∧ 0 ≤ at1 ∧ at1 ≤ 2 + 10 * l.length ∧
     POut W rb (P + 2 + 2 * l.length) g cap l wr) (fun _ _ x _ => (intOf x).toNat)
  case atStart => exact ⟨[], at0, k0, _, _, by omega, by simp; omega, rfl, rfl, rfl, by omega, by simp; omega, by simpa using h2⟩
  case round =>
    obtain ⟨l, at1, k, g, cap, k0', k1, rfl, rfl, rfl, t0, t1, hp⟩ := hrel
    clear h2
    by_cases hlt : 0 < k
    · go_wp2_with fail
      refine (pick_in rb (P + 2 + 2 * l.length) _ _ hp.2.1 (by omega) (by omega)).mono ?_
      rintro e w3 ⟨c1, rfl, d0, d1, hr1, hg1, hs1⟩
      have h3 := hp.pick hr1 hg1
      clear hp hr1 hg1 hs1
      have h3a := h3.alloc (.cells #[.int .i64 at1, .int .i64 (1 + c1)] 47)
      have hnw := Lib.hid (news_at (w := w3) (T := 47) (cs := #[.int .i64 at1, .int .i64 (1 + c1)]))
      have hge := h3a.ge
      have hWs := h3a.2.2.1.size
      go_wp2_with (at_builtin; refine wpList_append_own _ rfl (.tmp 23) (.tmp 27) 25 rfl W.heap.size 47 i0 (.agg #[.int .i64 0, .int .i64 0]) 2 16 Try.underlying25 hi0 hz0 hz1 hz2 rfl (by decide) _ l.length (partsC l) rfl h3a.1 ⟨w3.heap.size, 0, none⟩ 1 1 [.int .i64 at1, .int .i64 (1 + c1)] rfl rfl hnw.out (by intro u hu; simp at hu; rcases hu with rfl | rfl <;> rfl) (by simp only [maxLen]; omega) (by omega) hWs ?_; intro v4 w4 hown4 hg4 hnil4; obtain ⟨g4, cap4, rfl⟩ := own_shape hown4)
      have h4 := h3a.pushed (l2 := [(at1, 1 + c1)]) hown4 hg4 rfl (by simp)
      clear h3 h3a hown4 hg4 hnil4 hnw hge hWs
      go_wp2_with fail
      refine (pick_in rb (P + 2 + 2 * l.length + 1) _ _ h4.2.1 (by omega) (by omega)).mono ?_
      rintro e w5 ⟨c2, rfl, e0, e1, hr1, hg1, hs1⟩
      have h5 := h4.pick hr1 hg1
      clear h4 hr1 hg1 hs1
      go_wp2
      go_roundw
      case rel => exact ⟨l ++ [(at1, 1 + c1)], at1 + (1 + c1) + c2, k - 1, g4, cap4, by omega, by simp; omega, by simp, by go_num, by go_num, by omega, by simp; omega, h5.to (by simp; omega)⟩
      case measure => simp [intOf]; omega
    · go_wp2_with fail
      refine (pick_in rb (P + 2 + 2 * l.length) _ _ hp.2.1 (by omega) (by omega)).mono ?_
      rintro e w3 ⟨c1, rfl, d0, d1, hr1, hg1, hs1⟩
      have h3 := hp.pick hr1 hg1
      clear hp hr1 hg1 hs1
      go_wp2_with fail
      refine (odd_any rb (P + 2 + 2 * l.length + 1) n _ h3.2.1 (by omega) (by omega)).mono ?_
      rintro e w4 ⟨o, rfl, hr1, hg1, hs1⟩
      have h4 := h3.pick hr1 hg1
      clear h3 hr1 hg1 hs1
      cases o
      · have hfin := Lib.hid (h4.done (P := P) (n := l.length) (size := at1 + c1) (by omega) rfl (by omega) (by omega) (by omega))
        clear h4
        go_wp2
        go_ret2
        exact hfin.out
      · go_wp2_with fail
        refine (pick_in rb (P + 2 + 2 * l.length + 1 + 1) _ _ h4.2.1 (by omega) (by omega)).mono ?_
        rintro e w5 ⟨q, rfl, q0, q1, hr1, hg1, hs1⟩
        have h5 := h4.pick hr1 hg1
        clear h4 hr1 hg1 hs1
        have hq : q = 0 ∨ q = 1 ∨ q = 2 := by omega
        rcases hq with rfl | rfl | rfl
        · have hge := h5.ge
          have hlt5 := h5.2.1.lt
          have m0 : w5.heap.size ≠ rb := by omega
          go_wp2_with fail
          refine (pick_in rb (P + 2 + 2 * l.length + 1 + 1 + 1) _ _ (h5.alloc _).2.1 (by omega) (by omega)).mono ?_
          rintro e w6 ⟨x, rfl, x0, x1, hr6, hg6, hs6⟩
          have k0 := fun i h => keepc (g := w5.heap.size) i hg6 h m0
          obtain ⟨u, u0, u1, hu⟩ := sel [-1, 100001] (-1) 100001 (by decide) x x0 x1
          simp only [List.map] at hu
          have hfin := Lib.hid (((h5.alloc _).pick hr6 hg6).done (P := P) (n := l.length) (size := u) (by omega) rfl (by omega) (by omega) (by omega))
          clear hr6 hg6 h5
          go_wp2
          go_ret2
          exact hfin.out
        · have h3a := h5.alloc (.cells #[.int .i64 0, .int .i64 1, .int .i64 0, .int .i64 1] 47)
          have hnw := Lib.hid (news_at (w := w5) (T := 47) (cs := #[.int .i64 0, .int .i64 1, .int .i64 0, .int .i64 1]))
          have hWs := h3a.2.2.1.size
          go_wp2_with (at_builtin; refine wpList_append_own _ rfl (.tmp 58) (.tmp 61) 25 rfl W.heap.size 47 i0 (.agg #[.int .i64 0, .int .i64 0]) 2 16 Try.underlying25 hi0 hz0 hz1 hz2 rfl (by decide) _ l.length (partsC l) rfl h3a.1 ⟨w5.heap.size, 0, none⟩ 2 2 [.int .i64 0, .int .i64 1, .int .i64 0, .int .i64 1] rfl rfl hnw.out (by intro u hu; simp at hu; rcases hu with rfl | rfl | rfl | rfl <;> rfl) (by simp only [maxLen]; omega) (by omega) hWs ?_; intro v4 w4 hown4 hg4 hnil4; obtain ⟨g4, cap4, rfl⟩ := own_shape hown4)
          have h4 := h3a.pushed (l2 := [(0, 1), (0, 1)]) hown4 hg4 rfl (by simp)
          have hfin := Lib.hid (h4.done (P := P) (n := l.length + 2) (size := at1 + c1) (by simp; omega) (by simp) (by omega) (by omega) (by omega))
          clear h3a hown4 hg4 hnil4 hnw hWs h4 h5
          go_ret2
          exact hfin.out
        · have h3a := h5.alloc (.cells #[.int .i64 (at1 + c1), .int .i64 1] 47)
          have hnw := Lib.hid (news_at (w := w5) (T := 47) (cs := #[.int .i64 (at1 + c1), .int .i64 1]))
          have hWs := h3a.2.2.1.size
          go_wp2_with (at_builtin; refine wpList_append_own _ rfl (.tmp 44) (.tmp 47) 25 rfl W.heap.size 47 i0 (.agg #[.int .i64 0, .int .i64 0]) 2 16 Try.underlying25 hi0 hz0 hz1 hz2 rfl (by decide) _ l.length (partsC l) rfl h3a.1 ⟨w5.heap.size, 0, none⟩ 1 1 [.int .i64 (at1 + c1), .int .i64 1] rfl rfl hnw.out (by intro u hu; simp at hu; rcases hu with rfl | rfl <;> rfl) (by simp only [maxLen]; omega) (by omega) hWs ?_; intro v4 w4 hown4 hg4 hnil4; obtain ⟨g4, cap4, rfl⟩ := own_shape hown4)
          have h4 := h3a.pushed (l2 := [(at1 + c1, 1)]) hown4 hg4 rfl (by simp)
          have hfin := Lib.hid (h4.done (P := P) (n := l.length + 1) (size := at1 + c1) (by simp; omega) (by simp) (by omega) (by omega) (by omega))
          clear h3a hown4 hg4 hnil4 hnw hWs h4 h5
          go_ret2
          exact hfin.out
end Go.Proofs.Ytpfbkmpjneclpaa
