/- Proves Rows.FnJournalTwoSaid: for every input the law FnJournalTwo returns true and leaves its arguments as they were. Conditions: none. -/
import Derived.Test.YthghngphamimgaaOpen
import Derived.Test.YthghngphamimgaaDrR2
import Derived.Test.YthghngphamimgaaRepP
import Derived.Test.YthghngphamimgaaRecJ
import Derived.Test.YthghngphamimgaaRecA
import Derived.Test.YthghngphamimgaaSame
import Derived.Deep.QuietTactic
import Derived.BigQuiet
namespace Go.Proofs.Ythghngphamimgaa.fnJournalTwo
open Go.ChangeShapes Go.WideShapes Go.ChangeAt Go.RowKit
set_option linter.unusedVariables false
theorem num_not {l : List Rc} (h : ∀ r ∈ l, numOk r) {n : Int} (h1 : 7 < n) (h2 : n ≠ 41) : ∀ r ∈ l, r.1 ≠ n := by
  intro r hr e
  rcases h r hr with h3 | h3 <;> omega
theorem comm_not {l : List Rc} {n : Int} (h : ∀ r ∈ l, r.1 ≠ n) : n ∉ commN l := fun hm => by
  obtain ⟨r, hr, _, e⟩ := commN_mem_iff.1 hm
  exact h r hr e
theorem ws_not {l : List Rc} {n : Int} (h : ∀ r ∈ l, r.1 ≠ n) : wsOf n l = [] := by
  simp only [wsOf, List.map_eq_nil_iff, List.filter_eq_nil_iff]
  intro r hr
  simp [h r hr]
theorem appL_one (l : List Rc) (n v : Int) : appL l n 0 [v] = l ++ [(n, false, 0, v), (n, true, 0, 0)] := by simp [appL, recsOf]
theorem jr_app {l : List Rc} {n v s : Int} (h : jrB l s = true) (hn : n ∉ commN l) (n0 : 0 ≤ n ∧ n ≤ 40) (v0 : 0 ≤ v ∧ v ≤ 255) (hs : 1 ≤ s) (hl : l.length ≤ 38) : jrB (appL l n 0 [v]) s = true := by
  obtain ⟨a, b, c, d⟩ := jr_parts h
  rw [appL_one]
  simp only [jrB, Bool.and_eq_true, inB_iff, decide_eq_true_eq, List.length_append, List.length_cons, List.length_nil]
  refine ⟨⟨by omega, b, c⟩, ?_⟩
  rw [upB_app, d]
  simp only [List.nil_append, Bool.true_and, upB, recOk, isRecB, Bool.and_true, Bool.and_eq_true, inB_iff]
  refine ⟨⟨⟨n0, ?_⟩, ?_⟩, ⟨⟨n0, ?_⟩, ?_⟩⟩
  · simp [inB]; omega
  · simp [hn]
  · simp
  · have h2 : commN (l ++ [(n, false, 0, v)]) = commN l := by rw [commN_append]; simp [commN]
    have h3 : n ∉ commN (l ++ [(n, false, 0, v)]) := by rw [h2]; exact hn
    rw [Bool.not_eq_true', decide_eq_false_iff_not]
    exact h3
theorem replay_app {l : List Rc} {n v : Int} {d : List Int} (hn : ∀ r ∈ l, r.1 ≠ n) : replayN (commN (appL l n 0 [v])) (appL l n 0 [v]) d = (replayN (commN l) l d).set 0 v := by
  have e1 : commN (appL l n 0 [v]) = commN l ++ [n] := by rw [appL_one, commN_append]; simp [commN]
  have e2 : ∀ t, wsOf t (appL l n 0 [v]) = wsOf t l ++ (if n = t then [(0, v)] else []) := by
    intro t
    rw [appL_one]
    by_cases h : n = t <;> simp [wsOf, h]
  rw [e1, replayN_ws, replayN_ws]
  have e3 : wsAll (commN l ++ [n]) (appL l n 0 [v]) = wsAll (commN l) l ++ [(0, v)] := by
    unfold wsAll
    rw [List.flatMap_append]
    congr 1
    · have : ∀ ts : List Int, (∀ t ∈ ts, n ≠ t) → (ts.flatMap fun t => wsOf t (appL l n 0 [v])) = ts.flatMap fun t => wsOf t l := by
        intro ts
        induction ts with
        | nil => intro _; rfl
        | cons t ts ih =>
          intro h
          rw [List.flatMap_cons, List.flatMap_cons, ih (fun x hx => h x (by simp [hx])), e2 t, if_neg (h t (by simp)), List.append_nil]
      refine this _ (fun t ht e => ?_)
      obtain ⟨r, hr, _, e'⟩ := commN_mem_iff.1 ht
      exact hn r hr (e'.trans e.symm)
    · simp only [List.flatMap_cons, List.flatMap_nil, List.append_nil]
      rw [e2 n, ws_not hn]
      simp
  rw [e3]
  simp [wF, List.foldl_append]
theorem ints_tail {w : World} {g : Nat} {y : Int} {T : List Int} (h : IntsIn w (some ⟨g, 0, none⟩) (y :: T)) : IntsIn w (some ⟨g, 1, none⟩) T := by
  intro h0
  obtain ⟨b, off, e, hc⟩ := h (by simp)
  injection e with e
  injection e with e1 e2
  subst e1 e2
  refine ⟨g, 1, rfl, fun i hi => ?_⟩
  have := hc (i + 1) (by simp; omega)
  rw [show 0 + (i + 1) = 1 + i by omega] at this
  simpa using this

set_option maxHeartbeats 2000000 in
theorem walk (A : Option Addr) (m cp : Nat) (w : World) (hb : BytesIn w A m) (hmc : m ≤ cp) (hcp : cp ≤ 9223372036854775807) :
    Calls Try.prog 10 #[.slice A m cp] w fun e w' => e = .returned (.bool true) ∧ Below w.heap.size w w' := by
  by_cases hbig : 1048576 < m
  · go_enter Try.func10, Try.ntmps10
    go_wp2
    go_ret
    exact ⟨rfl, Below.refl _ _⟩
  · go_enter Try.func10, Try.ntmps10
    go_wp2_with fail
    refine (drawRJ2_any A m cp w hb hmc hcp).mono ?_
    rintro e w1 ⟨A1, c1, d, B1, cb1, l, rfl, o1, j1, hdl, hll, hnum, b1⟩
    have D1 := Lib.hid o1
    have J1 := Lib.hid (show World.ownsRow w1 w.heap.size 33 4 (.slice B1 l.length cb1) l.length (recC l) from j1)
    have C1 := Lib.hid b1
    have HN := Lib.hid hnum
    have hcap := own_cap J1.out
    clear o1 j1 b1 hb hnum
    obtain ⟨X, hX⟩ : ∃ X, X = replayV d l := ⟨_, rfl⟩
    have hsp := replay_split d l
    rw [← hX] at hsp
    have HSP := Lib.hid hsp
    have hXl : X.length ≤ 65 := by
      rcases hsp with ⟨h, _⟩ | ⟨_, _, h⟩
      · rw [h]; simp
      · rw [h, replayN_len]; exact hdl
    have HX := Lib.hid hX
    clear hX hsp
    go_wp2_with fail
    refine (implReplay_any A1 B1 c1 cb1 d l _ (own_read D1.out) (RecsIn.of (own_read J1.out)) (by omega) (by omega) hcap.1 hcap.2).mono ?_
    unfold RPost
    rw [← HX.out]
    rintro e w2 ⟨A2, c2, rfl, o2, b2⟩
    have D2 := Lib.hid (own_below D1.out b2 (Nat.le_refl _))
    have J2 := Lib.hid (own_below J1.out b2 (Nat.le_refl _))
    have X2 := Lib.hid o2
    have C2 := Lib.hid (C1.out.trans (b2.mono C1.out.size))
    clear o2 b2 D1 J1 C1
    go_wp2_with fail
    refine (specReplay_any A1 B1 c1 cb1 d l _ (own_read D2.out) (RecsIn.of (own_read J2.out)) (by omega) (by omega)).mono ?_
    unfold RPost
    rw [← HX.out]
    rintro e w3 ⟨A3, c3, rfl, o3, b3⟩
    have D3 := Lib.hid (own_below D2.out b3 (Nat.le_refl _))
    have J3 := Lib.hid (own_below J2.out b3 (Nat.le_refl _))
    have X3 := Lib.hid (own_below X2.out b3 (Nat.le_refl _))
    have Y3 := Lib.hid o3
    have C3 := Lib.hid (C2.out.trans (b3.mono C2.out.size))
    clear o3 b3 D2 J2 X2 C2
    go_wp2_with fail
    refine (sameInts_any _ _ _ _ X X _ (IntsIn.of (own_read X3.out)) (IntsIn.of (own_read Y3.out)) (by omega) (by omega)).mono ?_
    rintro e w4 ⟨rfl, q4, hw4⟩
    have hd : decide (X = X) = true := by simp
    rw [hd]
    have D4 := Lib.hid (show w4.ownsRow w.heap.size 3 1 (.slice A1 d.length c1) d.length (d.map (Value.int .i64)) by rw [hw4]; exact D3.out)
    have J4 := Lib.hid (show w4.ownsRow w.heap.size 33 4 (.slice B1 l.length cb1) l.length (recC l) by rw [hw4]; exact J3.out)
    have X4 := Lib.hid (show w4.ownsRow w1.heap.size 3 1 (.slice A2 X.length c2) X.length (X.map (Value.int .i64)) by rw [hw4]; exact X3.out)
    have C4 := Lib.hid (show Below w.heap.size w w4 by rw [hw4]; exact belowN C3.out _)
    clear hw4 D3 J3 X3 Y3 C3 hd
    by_cases hX0 : X.length = 0
    · go_wp2_with (go_at_call 18; refine (alive_any _).mono ?_; rintro e w7 ⟨rfl, hb7⟩)
      go_ret
      exact ⟨rfl, C4.out.trans (hb7.mono C4.out.size)⟩
    · have hX0' : ((X.length : Int) == 0) = false := by rw [beq_eq_false_iff_ne]; omega
      by_cases hl30 : 30 < l.length
      · go_wp2_with (go_at_call 18; refine (alive_any _).mono ?_; rintro e w7 ⟨rfl, hb7⟩)
        go_ret
        exact ⟨rfl, C4.out.trans (hb7.mono C4.out.size)⟩
      · have hfacts : diskB d = true ∧ jrB l d.length = true ∧ X = replayN (commN l) l d ∧ X.length = d.length := by
          rcases HSP.out with ⟨h, _⟩ | ⟨h1, h2, h3⟩
          · rw [h] at hX0; simp at hX0
          · exact ⟨h1, h2, h3, by rw [h3, replayN_len]⟩
        obtain ⟨f1, f2, f3, f4⟩ := hfacts
        have hd64 : d.length ≤ 64 := by simp only [diskB, Bool.and_eq_true, decide_eq_true_eq] at f1; omega
        have hn20 := num_not HN.out (n := 20) (by omega) (by omega)
        have hn21 := num_not HN.out (n := 21) (by omega) (by omega)
        have g1 := jr_app (n := 20) (v := 5) f2 (comm_not hn20) (by omega) (by omega) (by omega) (by omega)
        obtain ⟨L2, hL2⟩ : ∃ L2, L2 = appL l 20 0 [5] := ⟨_, rfl⟩
        have hl2 : L2.length = l.length + 2 := by rw [hL2, appL_one]; simp
        have hn21' : ∀ r ∈ L2, r.1 ≠ 21 := by
          intro r hr
          rw [hL2, appL_one] at hr
          rcases List.mem_append.1 hr with hr | hr
          · exact hn21 r hr
          · simp only [List.mem_cons, List.not_mem_nil, or_false] at hr
            rcases hr with rfl | rfl <;> (show (20 : Int) ≠ 21; omega)
        rw [← hL2] at g1
        have g2 := jr_app (n := 21) (v := 6) g1 (comm_not hn21') (by omega) (by omega) (by omega) (by omega)
        obtain ⟨L3, hL3⟩ : ∃ L3, L3 = appL L2 21 0 [6] := ⟨_, rfl⟩
        have hl3 : L3.length = l.length + 4 := by rw [hL3, appL_one]; simp; omega
        rw [← hL3] at g2
        have E2 := Lib.hid (show appV l 20 0 [5] = L2 by
          unfold appV
          rw [← hL2, jr_mono g1 (by omega) (by omega)]
          rfl)
        have E3 := Lib.hid (show appV L2 21 0 [6] = L3 by
          unfold appV
          rw [← hL3, jr_mono g2 (by omega) (by omega)]
          rfl)
        have EY := Lib.hid (show replayV d L3 = X.set 0 6 by
          unfold replayV
          rw [f1, g2]
          simp only [Bool.and_self, if_true]
          rw [hL3, replay_app hn21', hL2, replay_app hn20, ← f3, List.set_set])
        obtain ⟨x0, T, hXT⟩ : ∃ x0 T, X = x0 :: T := by
          cases X with
          | nil => simp at hX0
          | cons a t => exact ⟨a, t, rfl⟩
        have HXT := Lib.hid hXT
        have hEq : ((T.length : Int) + 1 == (d.length : Int)) = true := by rw [hXT] at f4; simp at f4; simp; omega
        have hTl : T.length ≤ 64 := by rw [hXT] at hXl; simp at hXl; omega
        clear f1 f2 f3 g1 g2 hn20 hn21 hn21' hL2 hL3 HN HSP HX hX0 f4 hXT
        have V4 := Lib.hid (readc_newi (w := w4) (cs := #[.int .i64 5]) (xs := [(5 : Int)].map (Value.int .i64)) rfl)
        have J4' := Lib.hid (J4.out.alloc (.cells #[.int .i64 5] 3))
        have D4' := Lib.hid (D4.out.alloc (.cells #[.int .i64 5] 3))
        have X4' := Lib.hid (X4.out.alloc (.cells #[.int .i64 5] 3))
        have C4' := Lib.hid (b_alloc C4.out (.cells #[.int .i64 5] 3))
        have hA := Lib.hid (implApp_any B1 (some ⟨w4.heap.size, 0, none⟩) cb1 1 l 20 0 [5] _ (RecsIn.of (own_read J4'.out)) V4.out (by omega) (by simp) hcap.1 hcap.2)
        clear D4 J4 X4 C4 V4
        go_wp2_with fail
        refine hA.out.mono ?_
        rw [E2.out]
        rintro e w5 ⟨A5, c5, rfl, o5, b5⟩
        have D5 := Lib.hid (own_below D4'.out b5 (Nat.le_refl _))
        have X5 := Lib.hid (own_below X4'.out b5 (Nat.le_refl _))
        have C5 := Lib.hid (C4'.out.trans (b5.mono C4'.out.size))
        have L5 := Lib.hid o5
        clear o5 b5 D4' X4' C4' J4' hA
        have V5 := Lib.hid (readc_newi (w := w5) (cs := #[.int .i64 6]) (xs := [(6 : Int)].map (Value.int .i64)) rfl)
        have D5' := Lib.hid (D5.out.alloc (.cells #[.int .i64 6] 3))
        have X5' := Lib.hid (X5.out.alloc (.cells #[.int .i64 6] 3))
        have C5' := Lib.hid (b_alloc C5.out (.cells #[.int .i64 6] 3))
        have hcap5 := own_cap L5.out
        have hA := Lib.hid (implApp_any A5 (some ⟨w5.heap.size, 0, none⟩) c5 1 L2 21 0 [6] _ (RecsIn.of (own_read (L5.out.alloc (.cells #[.int .i64 6] 3)))) V5.out (by omega) (by simp) hcap5.1 hcap5.2)
        have HL2 := Lib.hid hl2
        clear D5 X5 C5 V5 L5 hl2
        go_wp2_with fail
        refine hA.out.mono ?_
        rw [E3.out]
        rintro e w6 ⟨A6, c6, rfl, o6, b6⟩
        have D6 := Lib.hid (own_below D5'.out b6 (Nat.le_refl _))
        have X6 := Lib.hid (own_below X5'.out b6 (Nat.le_refl _))
        have C6 := Lib.hid (C5'.out.trans (b6.mono C5'.out.size))
        have L6 := Lib.hid o6
        have hcap6 := own_cap L6.out
        have hl3' : L3.length ≤ 1000000 := by omega
        clear o6 b6 D5' X5' C5' hA hl3
        go_wp2_with fail
        refine (implReplay_any A1 A6 c1 c6 d L3 _ (own_read D6.out) (RecsIn.of (own_read L6.out)) (by omega) (by omega) hcap6.1 hcap6.2).mono ?_
        unfold RPost
        rw [EY.out, HXT.out, List.set_cons_zero]
        rintro e w8 ⟨A8, c8, rfl, o8, b8⟩
        have X8 := own_below X6.out b8 (Nat.le_refl _)
        rw [HXT.out] at X8
        have C8 := Lib.hid (C6.out.trans (b8.mono C6.out.size))
        have hcx := own_cap X8
        have hcy := own_cap o8
        rcases own_cases X8 with ⟨_, h0⟩ | ⟨g2, cap2, hv2, _, _⟩
        · simp at h0
        rcases own_cases o8 with ⟨_, h0⟩ | ⟨g8, cap8, hv8, _, _⟩
        · simp at h0
        injection hv2 with hA2 _ hc2
        injection hv8 with hA8 _ hc8
        subst hA2 hA8 hc2 hc8
        have y0 := o8.cellAt 0 (by simp)
        have IX := Lib.hid (ints_tail (IntsIn.of (own_read X8)))
        have IY := Lib.hid (ints_tail (IntsIn.of (own_read o8)))
        have hcc := Lib.hid (fun q => belowN C8.out q)
        simp only [List.length_cons] at hcx hcy
        simp at y0
        clear X8 o8 b8 C6 X6 D6 L6 C8
        simp only [List.length_cons]
        by_cases hT : T.length = 0
        · have hTn : T = [] := List.eq_nil_of_length_eq_zero hT
          subst hTn
          have HQ := Lib.hid (fun (A B : Option Addr) (c d q : Nat) => show Calls Try.prog 26 #[.slice A 0 c, .slice B 0 d] (w8.drewN q) (fun e w'' => e = .returned (.bool true) ∧ ∃ m, w'' = w8.drewN m) from
            (sameInts_any A B c d [] [] (w8.drewN q) (IntsIn.nil _ _) (IntsIn.nil _ _) (by simp) (by simp)).mono (fun e w' ⟨he, q', hq⟩ => ⟨by simpa using he, q + q', by rw [hq]; simp⟩))
          simp only [List.length_nil, Nat.zero_add] at hEq hcx hcy ⊢
          have hEq2 : ((1 : Int) == (d.length : Int)) = true := by simpa using hEq
          clear IX IY hT hEq
          have hc4 : (1 < c8 ∧ 1 < c2) ∨ (1 < c8 ∧ c2 = 1) ∨ (c8 = 1 ∧ 1 < c2) ∨ (c8 = 1 ∧ c2 = 1) := by omega
          rcases hc4 with ⟨t8, t2⟩ | ⟨t8, t2⟩ | ⟨t8, t2⟩ | ⟨t8, t2⟩
          · have n8 : ¬ c8 = 1 := by omega
            have n2 : ¬ c2 = 1 := by omega
            go_wp2
            go_quiet ((go_at_call 26; exact HQ.out _ _ _ _ _))
            all_goals
              go_wp2
              go_ret
              exact ⟨rfl, hcc.out _⟩
          · have n8 : ¬ c8 = 1 := by omega
            obtain rfl : c2 = 1 := by omega
            go_wp2
            go_quiet ((go_at_call 26; exact HQ.out _ _ _ _ _))
            all_goals
              go_wp2
              go_ret
              exact ⟨rfl, hcc.out _⟩
          · obtain rfl : c8 = 1 := by omega
            have n2 : ¬ c2 = 1 := by omega
            go_wp2
            go_quiet ((go_at_call 26; exact HQ.out _ _ _ _ _))
            all_goals
              go_wp2
              go_ret
              exact ⟨rfl, hcc.out _⟩
          · obtain rfl : c8 = 1 := by omega
            obtain rfl : c2 = 1 := by omega
            go_wp2
            go_quiet ((go_at_call 26; exact HQ.out _ _ _ _ _))
            all_goals
              go_wp2
              go_ret
              exact ⟨rfl, hcc.out _⟩
        · have t8 : 2 ≤ c8 := by omega
          have t2 : 2 ≤ c2 := by omega
          have n8 : ¬ c8 = 1 := by omega
          have n2 : ¬ c2 = 1 := by omega
          have HQ := Lib.hid (fun q => show Calls Try.prog 26 #[.slice (some ⟨g8, 1, none⟩) T.length (c8 - 1), .slice (some ⟨g2, 1, none⟩) T.length (c2 - 1)] (w8.drewN q) (fun e w'' => e = .returned (.bool true) ∧ ∃ m, w'' = w8.drewN m) from
            (sameInts_any _ _ _ _ T T (w8.drewN q) IY.out IX.out (by omega) (by omega)).mono (fun e w' ⟨he, q', hq⟩ => ⟨by simpa using he, q + q', by rw [hq]; simp⟩))
          clear IX IY hT
          go_wp2
          go_quiet ((go_at_call 26; exact HQ.out _))
          all_goals
            go_wp2
            go_ret
            exact ⟨rfl, hcc.out _⟩

set_option maxRecDepth 100000 in
theorem lifted (os : Os) (started : os.Started) (H : Type) (enc : TypeId × Value → H) :
    ReturnsInHanded {} Try.checked os 10 .any (Rows.fnJournalTwoSpec.pre6 enc Try.prog Try.f10 Rows.fnJournalTwoRow.domain false) (Rows.fnJournalTwoSpec.post enc Try.prog Try.f10 false true false false) := by
  refine returnsInHanded_of_change (C := Try.checked) own started (by kernel_rfl) Try.func10
    (ChangeSpec.witness6 (enc := enc) (C := Try.checked) false ⟨#[], #[.slice none 0 0], []⟩ 8 (by kernel_rfl) (by kernel_rfl) (by kernel_rfl) (by kernel_rfl)) ?_
  intro W base args ds gs before hval0 hW hcnd _
  have hval : ∀ (j : Nat) t v, Try.f10.params[j]? = some t → args[j]? = some v → Value.okWide Try.prog W .any base t v := hval0
  have hW' := hW
  obtain ⟨p, q, hA0, hV, rfl, hfz, hnd⟩ := hW
  have hA : DataW.TrodAll enc Try.prog W 0 (fun _ => true) true Try.f10.params.toList args.toList ds p := hA0
  rw [Try.params10] at hA hval
  obtain ⟨v0, vs0, d0, ds0, p0, q0, hargs, rfl, rfl, h0, r0⟩ := trodAll_cons hA
  obtain ⟨rfl, rfl, rfl⟩ := trodAll_nil r0
  obtain rfl : args = #[v0] := by cases args; simp_all
  obtain ⟨rfl, rfl⟩ := trodVars_none hV
  have k0 := h0
  have lt0 : ∀ x ∈ p0, x.block < W.heap.size := by obtain ⟨m, hm⟩ := k0; exact DataW.trod_lt m _ _ _ hm
  obtain ⟨a0, n0, c0, rfl, ok0, le0, cl0⟩ := open_bytes (hval 0 29 v0 rfl rfl) h0
  clear hA0 hval0
  refine (walk a0 n0 c0 W ok0 le0 cl0).mono fun e W' ⟨he, bel⟩ => ?_
  subst he
  exact ⟨_, rfl, _, _, _, [], _, [], hW', trodAll_mk1 (shut_bool Try.underlying4 _), (trodAll_cons_mk (Below.trod laidOut (by kernel_rfl) (of_decide_eq_true (by kernel_rfl)) k0 bel lt0) trodAll_mk0), rfl, bel.frame _, fun h => by cases h⟩

theorem proved : Rows.FnJournalTwoSaid :=
  OpenClaim.holds_of_wide 10 Try.f10 rfl rfl rfl rfl rfl rfl rfl ⟨rfl, rfl, rfl, rfl, rfl⟩ rfl rfl rfl rfl rfl (by kernel_rfl) Try.func10 (by kernel_rfl)
    (of_decide_eq_true (by kernel_rfl)) (by unfold Func.isWrapper; first | (rw [if_pos (by decide +kernel)]; kernel_rfl) | (rw [if_neg (by decide +kernel)]; exact ⟨rfl, rfl⟩))
    (fun os started H enc _ => lifted os started H enc)
#print axioms proved
end Go.Proofs.Ythghngphamimgaa.fnJournalTwo
