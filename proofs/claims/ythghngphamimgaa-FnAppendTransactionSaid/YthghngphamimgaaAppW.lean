/- What FnAppendTransaction's walk wants of its calls. -/
import Derived.Test.YthghngphamimgaaAppP
import Derived.Test.YthghngphamimgaaRecA
import Derived.Test.YthghngphamimgaaSameRec
import Derived.Test.YthghngphamimgaaWrS
import Derived.Test.YthghngphamimgaaSame
namespace Go.Proofs.Ythghngphamimgaa
open Go.ChangeShapes Go.WideShapes Go.ChangeAt Go.RowKit Go.Deep
set_option linter.unusedVariables false

theorem bytes_keep {w w' : World} {A : Option Addr} {n : Nat} (h : BytesIn w A n) (hb : Below w.heap.size w w') : BytesIn w' A n := by
  intro h0
  obtain ⟨b, off, e, hc⟩ := h h0
  refine ⟨b, off, e, fun i hi => ?_⟩
  obtain ⟨u, u0, u1, hu⟩ := hc i hi
  exact ⟨u, u0, u1, (World.cell?_of_block (hb.block _ (block_lt_of_cell hu))).trans hu⟩
theorem app_is {l : List Rc} {n a : Int} {vs : List Int} (h : (appV l n a vs).length ≠ 0) : appV l n a vs = appL l n a vs ∧ 0 ≤ a := by
  unfold appV at h ⊢
  by_cases hc : (inB a 0 64 && jrB (appL l n a vs) 64) = true
  · rw [if_pos hc]
    simp only [Bool.and_eq_true, inB_iff] at hc
    exact ⟨rfl, hc.1.1⟩
  · rw [if_neg hc] at h
    simp at h
theorem app_len41 (l : List Rc) (n a : Int) (vs : List Int) : (appV l n a vs).length ≤ 41 := by
  unfold appV
  split
  · rename_i h
    simp only [Bool.and_eq_true] at h
    have := (jr_parts h.2).1
    omega
  · simp
theorem same_l (A B : Option Addr) (c d n : Nat) (l m : List Int) (w : World) (h1 : IntsIn w A l) (h2 : IntsIn w B m) (e : l = m) (hn : l.length = n) (hl : n ≤ 1000000) :
    Calls Try.prog 26 #[.slice A n c, .slice B n d] w fun e w' => e = .returned (.bool true) ∧ Below w.heap.size w w' := by
  subst e hn
  exact (sameInts_any A B c d l l w h1 h2 (by omega) (by omega)).mono fun e w' ⟨he, q, hq⟩ => ⟨by rw [he]; simp, by rw [hq]; exact belowN (Below.refl _ _) q⟩
theorem rep30 (A B : Option Addr) (ca cb n : Nat) (D : List Int) (l : List Rc) (w : World) (hD : D.length = 30) (hn : l.length = n) (hd : ReadC w A (D.map (Value.int .i64))) (h : RecsIn w B l) (h1 : n ≤ 41) (hc1 : n ≤ cb) (hc2 : cb ≤ 9223372036854775807) (hZ : (replayV D l).length = 30) :
    Calls Try.prog 32 #[.slice A 30 ca, .slice B n cb] w fun e w' => ∃ A' c', e = .returned (.slice A' 30 c') ∧ IntsIn w' A' (replayV D l) ∧ Below w.heap.size w w' := by
  subst hn
  have hh := implReplay_any A B ca cb D l w hd h (by omega) (by omega) hc1 hc2
  rw [hD] at hh
  refine hh.mono fun e w' ⟨A', c', he, ho, hb⟩ => ⟨A', c', ?_, IntsIn.of (own_read ho), hb⟩
  rw [he, hZ]
theorem jrs_any (A : Option Addr) (c : Nat) (l : List Rc) (b : Bool) (w : World) (hb : jrB l 30 = b) (h : RecsIn w A l) (hl : l.length ≤ 41) :
    Calls Try.prog 13 #[.slice A l.length c, .int .i64 30] w fun e w' => e = .returned (.bool b) ∧ Below w.heap.size w w' := by
  subst hb
  exact (specJr_any A c l 30 w h (by omega)).mono fun e w' hp => hp
theorem ws30 (A B : Option Addr) (c d : Nat) (P vs : List Int) (k : Nat) (w : World) (h1 : IntsIn w A P) (h2 : IntsIn w B vs) (hd : diskB P = true) (hP : P.length = 30) (hv : allB vs 0 255 = true) (hk : k < 30) (hkl : k + vs.length ≤ 30) :
    Calls Try.prog 36 #[.slice A 30 c, .int .i64 k, .slice B vs.length d] w fun e w' => ∃ A' c', e = .returned (.slice A' 30 c') ∧ IntsIn w' A' (P.take k ++ vs ++ P.drop (k + vs.length)) ∧ Below w.heap.size w w' := by
  have hh := implWs_yes A B c d P vs k w h1 h2 hd hv (by omega) (by omega)
  rw [hP] at hh
  refine hh.mono fun e w' hp => ?_
  have hlen : (P.take k ++ vs ++ P.drop (k + vs.length)).length = 30 := by simp only [List.length_append, List.length_take, List.length_drop]; omega
  unfold WsPost at hp
  obtain ⟨A', c', he, ho, hb⟩ := hp
  rw [hlen] at he
  exact ⟨A', c', he, IntsIn.of (own_read ho), hb⟩
theorem app_all {D : List Int} {l : List Rc} {n : Int} {k : Nat} {vs : List Int} {X : List Rc} (hX : X = appL l n k vs) (hj : jrB X 30 = true) (hd : diskB D = true) (hD : D.length = 30) (hk : k ≤ 11) :
    (∀ j, l.length ≤ j → j < X.length → replayV D (X.take j) = replayV D l) ∧ diskB (replayV D l) = true ∧ (replayV D l).length = 30 ∧ (replayV D X).length = 30 ∧ allB vs 0 255 = true ∧ k + vs.length ≤ 30 ∧ ((∀ r ∈ l, r.1 ≠ n) → replayV D X = (replayV D l).take k ++ vs ++ (replayV D l).drop (k + vs.length)) := by
  subst hX
  replace hj : jrB (appL l n (k : Int) vs) D.length = true := by rw [hD]; exact hj
  have hlen := appL_len l n k vs
  obtain ⟨hn, hr, hf⟩ := app_facts hj
  have hl : jrB l D.length = true := by
    have := hf l.length
    unfold appL at this
    rw [List.append_assoc, List.take_left] at this
    exact this
  have e := (app_cut hj hd (k := l.length) (Nat.le_refl _) (by omega)).2
  have hz := replay_disk hd hl
  have hv : allB vs 0 255 = true ∧ k + vs.length ≤ 30 := by
    rcases Nat.eq_zero_or_pos vs.length with h0 | h0
    · rw [List.eq_nil_of_length_eq_zero h0]
      exact ⟨rfl, by simp; omega⟩
    · have := recs_mem hr h0
      refine ⟨?_, by omega⟩
      unfold allB
      rw [List.all_eq_true]
      exact fun v hv => inB_iff.2 (this.2.2 v hv)
  refine ⟨fun j h1 h2 => (app_cut hj hd h1 h2).1, by rw [e]; exact hz.1, by rw [e, hz.2, hD], ?_, hv.1, hv.2, fun hfr => app_done hj hd hfr (by rw [hD]; exact hv.2)⟩
  unfold replayV
  rw [hd, hj, Bool.and_self, if_pos rfl, (replay_disk hd hj).2, hD]
end Go.Proofs.Ythghngphamimgaa
