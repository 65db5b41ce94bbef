/- Proves Rows.FnReplayJournalSaid: for every input the law FnReplayJournal returns true and leaves its arguments as they were. Conditions: none. -/
import Derived.Test.YthghngphamimgaaOpen
import Derived.Test.YthghngphamimgaaDrR
import Derived.Test.YthghngphamimgaaRepP
import Derived.Test.YthghngphamimgaaRecJ
import Derived.Test.YthghngphamimgaaSame
namespace Go.Proofs.Ythghngphamimgaa.fnReplayJournal
open Go.ChangeShapes Go.WideShapes Go.ChangeAt Go.RowKit
set_option linter.unusedVariables false
theorem two_app {w w' : World} {z nO : Nat} {e : TypeId} {vO vK vK' : Value} {xO : List Value} (hO : w.ownsRow z e 4 vO nO xO) (hap : Apart vK vO) (hg : w.grownBy w' vK.ownBlock) (hn : vK'.ownBlock = vK.ownBlock ∨ vK'.ownBlock = some w.heap.size) : w'.ownsRow z e 4 vO nO xO ∧ Apart vK' vO := by
  refine ⟨own_block hO (fun g hq => hg.block g (hO.lt g hq).2 (fun e => hap g e.symm hq)), fun g h1 h2 => ?_⟩
  rcases hn with hn | hn
  · exact hap g (by rw [← hn]; exact h1) h2
  · rw [hn] at h1
    injection h1 with h1
    have := (hO.lt g h2).2
    omega
theorem b_allocz {W a : World} (h : Below W.heap.size W a) (o : Obj) : Below W.heap.size W (a.alloc o) := h.alloc h.size o
theorem belowg {W a b : World} {row : Option Nat} (h : Below W.heap.size W a) (hg : a.grownBy b row) (hr : ∀ g, row = some g → W.heap.size ≤ g) : Below W.heap.size W b := h.grown hg h.size hr
theorem recs_at {w : World} {A : Option Addr} {l : List Rc} {k : Nat} {b off : Nat} {f q z : Int} {o : Bool} (h : RecsIn w A l) (hk : k < l.length) (hf : A = some ⟨b, off, none⟩ ∧ (f, o, q, z) = l[k]) :
    w.cell? ⟨b, off + k * 4, none⟩ = some (.int .i64 f) ∧ w.cell? ⟨b, off + k * 4 + 1, none⟩ = some (.bool o) ∧ w.cell? ⟨b, off + k * 4 + 2, none⟩ = some (.int .i64 q) ∧ w.cell? ⟨b, off + k * 4 + 3, none⟩ = some (.int .i64 z) := by
  obtain ⟨rfl, hf⟩ := hf
  obtain ⟨b', off', e, hc⟩ := h (by omega)
  obtain ⟨rfl, rfl⟩ : b = b' ∧ off = off' := by injection e with e; injection e with h1 h2; exact ⟨h1, h2⟩
  have := hc k hk
  rw [← hf] at this
  exact this
theorem filt_step {l : List Rc} {p : Rc → Bool} {k : Nat} (h : k < l.length) : (l.take (k + 1)).filter p = (l.take k).filter p ++ (if p l[k] = true then [l[k]] else []) := by
  rw [List.take_succ_eq_append_getElem h, List.filter_append]
  congr 1
  cases hp : p l[k] <;> simp [hp]

set_option maxHeartbeats 8000000 in
theorem walk (A : Option Addr) (m cp : Nat) (w : World) (hb : BytesIn w A m) (hmc : m ≤ cp) (hcp : cp ≤ 9223372036854775807) :
    Calls Try.prog 9 #[.slice A m cp] w fun e w' => e = .returned (.bool true) ∧ Below w.heap.size w w' := by
  by_cases hbig : 1048576 < m
  · go_enter Try.func9, Try.ntmps9
    go_wp2
    go_ret
    exact ⟨rfl, Below.refl _ _⟩
  · obtain ⟨i0, hi0, hz0, hz1, hz2⟩ := info_parts rowinfo_records
    go_enter Try.func9, Try.ntmps9
    go_wp2_with fail
    refine (drawRJ_any A m cp w hb hmc hcp).mono ?_
    rintro e w1 ⟨A1, c1, d, B1, cb1, l, rfl, o1, j1, hdl, hll, b1⟩
    have D1 := Lib.hid o1
    have J1 := Lib.hid (show World.ownsRow w1 w.heap.size 33 4 (.slice B1 l.length cb1) l.length (recC l) from j1)
    have C1 := Lib.hid b1
    have hcap := own_cap J1.out
    clear o1 j1 b1 hb
    obtain ⟨X, hX⟩ : ∃ X, X = replayV d l := ⟨_, rfl⟩
    have hsp := replay_split d l
    rw [← hX] at hsp
    have HSP := Lib.hid hsp
    have hXl : X.length ≤ 65 := by
      rcases hsp with ⟨h, _⟩ | ⟨_, _, h⟩
      · rw [h]; simp
      · rw [h, replayN_len]; exact hdl
    have HX := Lib.hid hX
    clear hX hsp
    go_wp2_with fail
    refine (implReplay_any A1 B1 c1 cb1 d l _ (own_read D1.out) (RecsIn.of (own_read J1.out)) (by omega) (by omega) hcap.1 hcap.2).mono ?_
    unfold RPost
    rw [← HX.out]
    rintro e w2 ⟨A2, c2, rfl, o2, b2⟩
    have D2 := Lib.hid (own_below D1.out b2 (Nat.le_refl _))
    have J2 := Lib.hid (own_below J1.out b2 (Nat.le_refl _))
    have X2 := Lib.hid o2
    have C2 := Lib.hid (C1.out.trans (b2.mono C1.out.size))
    clear o2 b2 D1 J1 C1
    go_wp2_with fail
    refine (specReplay_any A1 B1 c1 cb1 d l _ (own_read D2.out) (RecsIn.of (own_read J2.out)) (by omega) (by omega)).mono ?_
    unfold RPost
    rw [← HX.out]
    rintro e w3 ⟨A3, c3, rfl, o3, b3⟩
    have D3 := Lib.hid (own_below D2.out b3 (Nat.le_refl _))
    have J3 := Lib.hid (own_below J2.out b3 (Nat.le_refl _))
    have X3 := Lib.hid (own_below X2.out b3 (Nat.le_refl _))
    have Y3 := Lib.hid o3
    have C3 := Lib.hid (C2.out.trans (b3.mono C2.out.size))
    clear o3 b3 D2 J2 X2 C2
    go_wp2_with fail
    refine (sameInts_any _ _ _ _ X X _ (IntsIn.of (own_read X3.out)) (IntsIn.of (own_read Y3.out)) (by omega) (by omega)).mono ?_
    rintro e w4 ⟨rfl, q4, hw4⟩
    have hd : decide (X = X) = true := by simp
    rw [hd]
    have D4 := Lib.hid (show w4.ownsRow w.heap.size 3 1 (.slice A1 d.length c1) d.length (d.map (Value.int .i64)) by rw [hw4]; exact D3.out)
    have J4 := Lib.hid (show w4.ownsRow w.heap.size 33 4 (.slice B1 l.length cb1) l.length (recC l) by rw [hw4]; exact J3.out)
    have X4 := Lib.hid (show w4.ownsRow w1.heap.size 3 1 (.slice A2 X.length c2) X.length (X.map (Value.int .i64)) by rw [hw4]; exact X3.out)
    have C4 := Lib.hid (show Below w.heap.size w w4 by rw [hw4]; exact belowN C3.out _)
    clear hw4 D3 J3 X3 Y3 C3 hd
    by_cases hX0 : X.length = 0
    · go_wp2_with (go_at_call 18; refine (alive_any _).mono ?_; rintro e w7 ⟨rfl, hb7⟩)
      go_ret
      exact ⟨rfl, C4.out.trans (hb7.mono C4.out.size)⟩
    · have hfacts : diskB d = true ∧ jrB l d.length = true ∧ X = replayN (commN l) l d ∧ X.length = d.length := by
        rcases HSP.out with ⟨h, _⟩ | ⟨h1, h2, h3⟩
        · rw [h] at hX0; simp at hX0
        · exact ⟨h1, h2, h3, by rw [h3, replayN_len]⟩
      obtain ⟨f1, f2, f3, f4⟩ := hfacts
      have hd64 : d.length ≤ 64 := by simp only [diskB, Bool.and_eq_true, decide_eq_true_eq] at f1; omega
      have hall : allB d 0 255 = true := by simp only [diskB, Bool.and_eq_true] at f1; exact f1.2
      obtain ⟨N, hN⟩ : ∃ N, N = commN l := ⟨_, rfl⟩
      have hcv : commV l = N := by unfold commV; rw [if_pos (jr_mono f2 (by omega) (by omega)), hN]
      have R1 := Lib.hid (show replayV X l = X by
        have hv : diskB X = true := by
          have h64 : decide ((X.length : Int) ≤ 64) = true := by simp; omega
          rw [diskB, h64, Bool.true_and, f3, replayN_ws]
          exact allB_wF hall (ws_vals (upB_all (jr_parts f2).2.2.2))
        unfold replayV
        rw [hv, f4, f2]
        simp only [Bool.and_self, if_true]
        rw [f3]; exact replayN_idem _ _ _)
      have R2 := Lib.hid (show replayV d (l.filter fun r => decide (r.1 ∈ N)) = X by
        unfold replayV
        rw [f1, jr_filter f2, hN]
        simp only [Bool.and_self, if_true]
        rw [replay_kept, f3])
      have R3 := Lib.hid (show replayV d (l.filter fun r => !r.2.1) = d by
        unfold replayV
        rw [f1, jr_filter f2]
        simp only [Bool.and_self, if_true]
        exact replay_open)
      have HCV := Lib.hid hcv
      have hNl : N.length ≤ 41 := by have := commN_len l; rw [hN]; omega
      have hX0' : ((X.length : Int) == 0) = false := by rw [beq_eq_false_iff_ne]; omega
      clear f1 f2 f3 hall hN hcv HSP HX hX0
      have HF4 := Lib.hid f4
      clear f4
      go_wp2_with fail
      refine (implComm_any B1 cb1 l _ (RecsIn.of (own_read J4.out)) (by omega) hcap.1 hcap.2).mono ?_
      rw [HCV.out]
      rintro e w5 ⟨A5, c5, rfl, o5, b5⟩
      have D5 := Lib.hid (own_read (own_below D4.out b5 (Nat.le_refl _)))
      have X5 := Lib.hid (own_read (own_below X4.out b5 (Nat.le_refl _)))
      have J5 := Lib.hid (RecsIn.of (own_read (own_below J4.out b5 (Nat.le_refl _))))
      have N5 := Lib.hid (IntsIn.of (own_read o5))
      have C5 := Lib.hid (C4.out.trans (b5.mono C4.out.size))
      have HLr := Lib.hid (fun (wx : World) (hb : Below w5.heap.size w5 wx) => J5.out.below hb)
      clear o5 b5 D4 J4 X4 C4 HCV
      have K0 := Lib.hid ((World.ownsRow_lit (e := 33) (size := 4) (base := w5.heap.size) w5 #[] 0 (Nat.le_refl _) (by simp [maxLen]) (by simp)).alloc (.cells #[] 33))
      have O0 := Lib.hid (World.ownsRow_lit (e := 33) (size := 4) (base := w5.heap.size) (w5.alloc (.cells #[] 33)) #[] 0 (by simp) (by simp [maxLen]) (by simp))
      rw [World.size_alloc] at O0
      have Bz := Lib.hid (b_alloc (b_alloc (Below.refl w5.heap.size w5) (.cells #[] 33)) (.cells #[] 33))
      go_wp2
      go_loopw [7, 8, 9] (fun x y v wr => ∃ (k : Nat) (KA : Option Addr) (kc : Nat) (K : List Rc) (OA : Option Addr) (oc : Nat) (O : List Rc), k ≤ l.length ∧ x = .slice KA K.length kc ∧ y = .slice OA O.length oc ∧ v = .int .i64 k ∧ K.length ≤ k ∧ O.length ≤ k ∧ Hid (K = (l.take k).filter fun r => decide (r.1 ∈ N)) ∧ Hid (O = (l.take k).filter fun r => !r.2.1) ∧ Hid (wr.ownsRow w5.heap.size 33 4 (.slice KA K.length kc) K.length (recC K)) ∧ Hid (wr.ownsRow w5.heap.size 33 4 (.slice OA O.length oc) O.length (recC O)) ∧ Hid (Apart (.slice KA K.length kc) (.slice OA O.length oc)) ∧ Hid (Below w5.heap.size w5 wr)) (fun _ _ v _ => l.length - (intOf v).toNat)
      case atStart => exact ⟨0, _, _, [], _, _, [], Nat.zero_le _, rfl, rfl, rfl, by simp, by simp, by show [] = _; simp, by show [] = _; simp, K0, O0, by show Apart _ _; intro g h1 h2; simp [Value.ownBlock] at h1 h2; omega, Bz⟩
      case round =>
        obtain ⟨k, KA, kc, K, OA, oc, O, hk, rfl, rfl, rfl, hKl, hOl, hKe, hOe, HK, HO, HAP, HB⟩ := hrel
        clear K0 O0 Bz
        by_cases hlt : k < l.length
        · have hK1 := filt_step (p := fun r => decide (r.1 ∈ N)) hlt
          have hO1 := filt_step (p := fun r => !r.2.1) hlt
          rw [← hKe.out] at hK1
          rw [← hOe.out] at hO1
          obtain ⟨b, off, hA, _⟩ := (HLr.out _ HB.out) (by omega)
          obtain ⟨⟨f, o, q, z⟩, hfn⟩ : ∃ p : Rc, p = l[k] := ⟨_, rfl⟩
          rw [← hfn] at hK1 hO1
          simp only at hK1 hO1
          have HF := Lib.hid hfn
          have HK1 := Lib.hid hK1
          have HO1' := Lib.hid hO1
          subst hA
          clear hfn hK1 hO1 hKe hOe
          go_wp2
          go_loopw [10, 11] (fun x y wr => ∃ (j : Nat) (bi : Bool), j ≤ N.length ∧ x = .bool bi ∧ y = .int .i64 j ∧ Hid (bi = decide (f ∈ N.take j)) ∧ Hid (wr.ownsRow w5.heap.size 33 4 (.slice KA K.length kc) K.length (recC K)) ∧ Hid (wr.ownsRow w5.heap.size 33 4 (.slice OA O.length oc) O.length (recC O)) ∧ Hid (Apart (.slice KA K.length kc) (.slice OA O.length oc)) ∧ Hid (Below w5.heap.size w5 wr)) (fun _ y _ => N.length - (intOf y).toNat)
          case atStart => exact ⟨0, false, Nat.zero_le _, rfl, rfl, by show false = _; simp, HK, HO, HAP, HB⟩
          case round =>
            obtain ⟨j, bi, hj, rfl, rfl, hbi, HK, HO, HAP, HB⟩ := hrel
            obtain ⟨c1', c2', c3', c4'⟩ := recs_at (HLr.out _ HB.out) hlt ⟨rfl, HF.out⟩
            by_cases hjn : j < N.length
            · obtain ⟨bn, on, rfl, hcn⟩ := (N5.out.below HB.out) (by omega)
              have cn := hcn j hjn
              have hst : ∀ b2, (bi || (N[j] == f)) = b2 → Hid (b2 = decide (f ∈ N.take (j + 1))) := by
                intro b2 h2
                show b2 = _
                rw [← h2, hbi.out, List.take_succ_eq_append_getElem hjn]
                rw [Bool.eq_iff_iff]
                simp only [Bool.or_eq_true, decide_eq_true_eq, beq_iff_eq, List.mem_append, List.mem_singleton]
                constructor
                · rintro (h | h)
                  · exact .inl h
                  · exact .inr h.symm
                · rintro (h | h)
                  · exact .inl h
                  · exact .inr h.symm
              have HST := Lib.hid hst
              obtain ⟨t, ht⟩ : ∃ t, t = N[j] := ⟨_, rfl⟩
              rw [← ht] at cn HST
              have HKq := Lib.hid (fun m => show (wr.drewN m).ownsRow w5.heap.size 33 4 (.slice KA K.length kc) K.length (recC K) from HK.out)
              have HOq := Lib.hid (fun m => show (wr.drewN m).ownsRow w5.heap.size 33 4 (.slice OA O.length oc) O.length (recC O) from HO.out)
              have HBq := Lib.hid (fun m => belowN HB.out m)
              clear hst ht hcn HK HO HB hbi
              cases bi
              · cases htf : (t == f)
                · have hn2 := HST.out false (by simp [htf])
                  clear HST
                  go_wp2
                  go_quiet (fail)
                  go_wp2
                  go_roundw
                  case rel => exact ⟨j + 1, false, by omega, rfl, by go_num, hn2, HKq.out _, HOq.out _, HAP, HBq.out _⟩
                  case measure => simp [intOf]; omega
                · have hn2 := HST.out true (by simp [htf])
                  clear HST
                  go_wp2
                  go_quiet (fail)
                  go_wp2
                  go_roundw
                  case rel => exact ⟨j + 1, true, by omega, rfl, by go_num, hn2, HKq.out _, HOq.out _, HAP, HBq.out _⟩
                  case measure => simp [intOf]; omega
              · have hn2 := HST.out true (by simp)
                clear HST
                go_wp2
                go_quiet (fail)
                go_wp2
                go_roundw
                case rel => exact ⟨j + 1, true, by omega, rfl, by go_num, hn2, HKq.out _, HOq.out _, HAP, HBq.out _⟩
                case measure => simp [intOf]; omega
            · have hbr : bi = decide (f ∈ N) := by have := hbi.out; rwa [List.take_of_length_le (by omega)] at this
              obtain ⟨c1, c2, c3, c4⟩ : _ ∧ _ ∧ _ ∧ _ := ⟨c1', c2', c3', c4'⟩
              have HZ := Lib.hid HB.out.size
              clear hbi c1' c2' c3' c4'
              cases bi
              · have hKs := Lib.hid (show K = (l.take (k + 1)).filter fun r => decide (r.1 ∈ N) by rw [HK1.out, ← hbr]; simp)
                cases o
                · have hOs := Lib.hid (show O ++ [(f, false, q, z)] = (l.take (k + 1)).filter fun r => !r.2.1 by rw [HO1'.out]; simp)
                  have cc := Lib.hid (And.intro c1 (And.intro c2 (And.intro c3 c4)))
                  have HK3 := Lib.hid (show World.ownsRow (wr.alloc (.cells #[.int .i64 f, .bool false, .int .i64 q, .int .i64 z] 33)) w5.heap.size 33 4 (.slice KA K.length kc) K.length (recC K) from HK.out.alloc _)
                  have HO3 := Lib.hid (show World.ownsRow (wr.alloc (.cells #[.int .i64 f, .bool false, .int .i64 q, .int .i64 z] 33)) w5.heap.size 33 4 (.slice OA O.length oc) O.length (recC O) from HO.out.alloc _)
                  have HB3 := Lib.hid (b_allocz HB.out (.cells #[.int .i64 f, .bool false, .int .i64 q, .int .i64 z] 33))
                  have RDo := Lib.hid (show ReadC (wr.alloc (.cells #[.int .i64 f, .bool false, .int .i64 q, .int .i64 z] 33)) (some ⟨wr.heap.size, 0, none⟩) (recC [(f, false, q, z)]) from readc_news rfl)
                  clear hbr
                  go_wp2_with (at_builtin; refine wpList_append_r _ rfl (.tmp 76) (.tmp 81) 25 rfl w5.heap.size 33 i0 (.agg #[.int .i64 0, .bool false, .int .i64 0, .int .i64 0]) 4 32 Try.underlying25 hi0 hz0 hz1 hz2 rfl (by decide) _ O.length (recC O) HO3.out rfl (some ⟨wr.heap.size, 0, none⟩) 1 1 (recC [(f, false, q, z)]) RDo.out rfl rfl (recC_one _) (by simp only [maxLen]; omega) (by omega) (by have := HZ.out; first | omega | (simp; omega)) ?_; intro v7 w7 o7 g7 n7; obtain ⟨OA2, oc2, rfl⟩ := own_slice o7; obtain ⟨t1, t2⟩ := two_app HK3.out HAP.out.symm g7 n7; have HO4 := Lib.hid (show w7.ownsRow w5.heap.size 33 4 (.slice OA2 (O ++ [(f, false, q, z)]).length oc2) (O ++ [(f, false, q, z)]).length (recC (O ++ [(f, false, q, z)])) by rw [recC_append]; simpa using o7); have HK4 := Lib.hid t1; have HAP4 := Lib.hid (show Apart (.slice KA K.length kc) (.slice OA2 (O ++ [(f, false, q, z)]).length oc2) by have := t2.symm; simpa using this); have HB4 := Lib.hid (belowg HB3.out g7 (fun g hg => (HO3.out.lt g hg).1)); clear o7 g7 n7 t1 t2)
                  go_roundw
                  case rel => exact ⟨k + 1, KA, kc, K, OA2, oc2, O ++ [(f, false, q, z)], by omega, by simp, by simp, by go_num, by first | omega | (simp; omega), by first | omega | (simp; omega), hKs, hOs, HK4, HO4, HAP4, HB4⟩
                  case measure => simp [intOf]; omega
                · have hOs := Lib.hid (show O = (l.take (k + 1)).filter fun r => !r.2.1 by rw [HO1'.out]; simp)
                  have cc := Lib.hid (And.intro c1 (And.intro c2 (And.intro c3 c4)))
                  clear hbr
                  go_wp2
                  go_roundw
                  case rel => exact ⟨k + 1, KA, kc, K, OA, oc, O, by omega, by simp, by simp, by go_num, by first | omega | (simp; omega), by first | omega | (simp; omega), hKs, hOs, HK, HO, HAP, HB⟩
                  case measure => simp [intOf]; omega
              · have hKt := fun (r : Rc) (hr : r.1 = f) => show K ++ [r] = K ++ (if decide (f ∈ N) = true then [r] else []) by rw [← hbr]; simp
                cases o
                · have hKs := Lib.hid (show K ++ [(f, false, q, z)] = (l.take (k + 1)).filter fun r => decide (r.1 ∈ N) by rw [HK1.out]; exact hKt _ rfl)
                  have hOs := Lib.hid (show O ++ [(f, false, q, z)] = (l.take (k + 1)).filter fun r => !r.2.1 by rw [HO1'.out]; simp)
                  clear hKt
                  have cc := Lib.hid (And.intro c1 (And.intro c2 (And.intro c3 c4)))
                  have HK1 := Lib.hid (show World.ownsRow (wr.alloc (.cells #[.int .i64 f, .bool false, .int .i64 q, .int .i64 z] 33)) w5.heap.size 33 4 (.slice KA K.length kc) K.length (recC K) from HK.out.alloc _)
                  have HO1 := Lib.hid (show World.ownsRow (wr.alloc (.cells #[.int .i64 f, .bool false, .int .i64 q, .int .i64 z] 33)) w5.heap.size 33 4 (.slice OA O.length oc) O.length (recC O) from HO.out.alloc _)
                  have HB1 := Lib.hid (b_allocz HB.out (.cells #[.int .i64 f, .bool false, .int .i64 q, .int .i64 z] 33))
                  have RDk := Lib.hid (show ReadC (wr.alloc (.cells #[.int .i64 f, .bool false, .int .i64 q, .int .i64 z] 33)) (some ⟨wr.heap.size, 0, none⟩) (recC [(f, false, q, z)]) from readc_news rfl)
                  clear hbr
                  go_wp2_with (first
                    | (at_builtin; refine wpList_append_r _ rfl (.tmp 63) (.tmp 68) 25 rfl w5.heap.size 33 i0 (.agg #[.int .i64 0, .bool false, .int .i64 0, .int .i64 0]) 4 32 Try.underlying25 hi0 hz0 hz1 hz2 rfl (by decide) _ K.length (recC K) HK1.out rfl (some ⟨wr.heap.size, 0, none⟩) 1 1 (recC [(f, false, q, z)]) RDk.out rfl rfl (recC_one _) (by simp only [maxLen]; omega) (by omega) (by have := HZ.out; first | omega | (simp; omega)) ?_; intro v6 w6 o6 g6 n6; obtain ⟨KA2, kc2, rfl⟩ := own_slice o6; obtain ⟨t1, t2⟩ := two_app HO1.out HAP.out g6 n6; have HK2 := Lib.hid (show w6.ownsRow w5.heap.size 33 4 (.slice KA2 (K ++ [(f, false, q, z)]).length kc2) (K ++ [(f, false, q, z)]).length (recC (K ++ [(f, false, q, z)])) by rw [recC_append]; simpa using o6); have HO2 := Lib.hid t1; have HAP2 := Lib.hid (show Apart (.slice KA2 (K ++ [(f, false, q, z)]).length kc2) (.slice OA O.length oc) by simpa using t2); have HB2 := Lib.hid (belowg HB1.out g6 (fun g hg => (HK1.out.lt g hg).1)); have HZ := Lib.hid HB2.out.size; clear o6 g6 n6 t1 t2; obtain ⟨d1, d2, d3, d4⟩ := recs_at (HLr.out _ HB2.out) hlt ⟨rfl, HF.out⟩; have HK3 := Lib.hid (show World.ownsRow (w6.alloc (.cells #[.int .i64 f, .bool false, .int .i64 q, .int .i64 z] 33)) w5.heap.size 33 4 (.slice KA2 (K ++ [(f, false, q, z)]).length kc2) (K ++ [(f, false, q, z)]).length (recC (K ++ [(f, false, q, z)])) from HK2.out.alloc _); have HO3 := Lib.hid (show World.ownsRow (w6.alloc (.cells #[.int .i64 f, .bool false, .int .i64 q, .int .i64 z] 33)) w5.heap.size 33 4 (.slice OA O.length oc) O.length (recC O) from HO2.out.alloc _); have HB3 := Lib.hid (b_allocz HB2.out (.cells #[.int .i64 f, .bool false, .int .i64 q, .int .i64 z] 33)); have RDo := Lib.hid (show ReadC (w6.alloc (.cells #[.int .i64 f, .bool false, .int .i64 q, .int .i64 z] 33)) (some ⟨w6.heap.size, 0, none⟩) (recC [(f, false, q, z)]) from readc_news rfl))
                    | (at_builtin; refine wpList_append_r _ rfl (.tmp 76) (.tmp 81) 25 rfl w5.heap.size 33 i0 (.agg #[.int .i64 0, .bool false, .int .i64 0, .int .i64 0]) 4 32 Try.underlying25 hi0 hz0 hz1 hz2 rfl (by decide) _ O.length (recC O) HO3.out rfl (some ⟨w6.heap.size, 0, none⟩) 1 1 (recC [(f, false, q, z)]) RDo.out rfl rfl (recC_one _) (by simp only [maxLen]; omega) (by omega) (by have := HZ.out; first | omega | (simp; omega)) ?_; intro v7 w7 o7 g7 n7; obtain ⟨OA2, oc2, rfl⟩ := own_slice o7; obtain ⟨t1, t2⟩ := two_app HK3.out HAP2.out.symm g7 n7; have HO4 := Lib.hid (show w7.ownsRow w5.heap.size 33 4 (.slice OA2 (O ++ [(f, false, q, z)]).length oc2) (O ++ [(f, false, q, z)]).length (recC (O ++ [(f, false, q, z)])) by rw [recC_append]; simpa using o7); have HK4 := Lib.hid t1; have HAP4 := Lib.hid (show Apart (.slice KA2 (K ++ [(f, false, q, z)]).length kc2) (.slice OA2 (O ++ [(f, false, q, z)]).length oc2) by have := t2.symm; simpa using this); have HB4 := Lib.hid (belowg HB3.out g7 (fun g hg => (HO3.out.lt g hg).1)); clear o7 g7 n7 t1 t2))
                  go_roundw
                  case rel => exact ⟨k + 1, KA2, kc2, K ++ [(f, false, q, z)], OA2, oc2, O ++ [(f, false, q, z)], by omega, by simp, by simp, by go_num, by first | omega | (simp; omega), by first | omega | (simp; omega), hKs, hOs, HK4, HO4, HAP4, HB4⟩
                  case measure => simp [intOf]; omega
                · have hKs := Lib.hid (show K ++ [(f, true, q, z)] = (l.take (k + 1)).filter fun r => decide (r.1 ∈ N) by rw [HK1.out]; exact hKt _ rfl)
                  have hOs := Lib.hid (show O = (l.take (k + 1)).filter fun r => !r.2.1 by rw [HO1'.out]; simp)
                  clear hKt
                  have cc := Lib.hid (And.intro c1 (And.intro c2 (And.intro c3 c4)))
                  have HK1 := Lib.hid (show World.ownsRow (wr.alloc (.cells #[.int .i64 f, .bool true, .int .i64 q, .int .i64 z] 33)) w5.heap.size 33 4 (.slice KA K.length kc) K.length (recC K) from HK.out.alloc _)
                  have HO1 := Lib.hid (show World.ownsRow (wr.alloc (.cells #[.int .i64 f, .bool true, .int .i64 q, .int .i64 z] 33)) w5.heap.size 33 4 (.slice OA O.length oc) O.length (recC O) from HO.out.alloc _)
                  have HB1 := Lib.hid (b_allocz HB.out (.cells #[.int .i64 f, .bool true, .int .i64 q, .int .i64 z] 33))
                  have RDk := Lib.hid (show ReadC (wr.alloc (.cells #[.int .i64 f, .bool true, .int .i64 q, .int .i64 z] 33)) (some ⟨wr.heap.size, 0, none⟩) (recC [(f, true, q, z)]) from readc_news rfl)
                  clear hbr
                  go_wp2_with (at_builtin; refine wpList_append_r _ rfl (.tmp 63) (.tmp 68) 25 rfl w5.heap.size 33 i0 (.agg #[.int .i64 0, .bool false, .int .i64 0, .int .i64 0]) 4 32 Try.underlying25 hi0 hz0 hz1 hz2 rfl (by decide) _ K.length (recC K) HK1.out rfl (some ⟨wr.heap.size, 0, none⟩) 1 1 (recC [(f, true, q, z)]) RDk.out rfl rfl (recC_one _) (by simp only [maxLen]; omega) (by omega) (by have := HZ.out; first | omega | (simp; omega)) ?_; intro v6 w6 o6 g6 n6; obtain ⟨KA2, kc2, rfl⟩ := own_slice o6; obtain ⟨t1, t2⟩ := two_app HO1.out HAP.out g6 n6; have HK2 := Lib.hid (show w6.ownsRow w5.heap.size 33 4 (.slice KA2 (K ++ [(f, true, q, z)]).length kc2) (K ++ [(f, true, q, z)]).length (recC (K ++ [(f, true, q, z)])) by rw [recC_append]; simpa using o6); have HO2 := Lib.hid t1; have HAP2 := Lib.hid (show Apart (.slice KA2 (K ++ [(f, true, q, z)]).length kc2) (.slice OA O.length oc) by simpa using t2); have HB2 := Lib.hid (belowg HB1.out g6 (fun g hg => (HK1.out.lt g hg).1)); have HZ := Lib.hid HB2.out.size; clear o6 g6 n6 t1 t2; obtain ⟨d1, d2, d3, d4⟩ := recs_at (HLr.out _ HB2.out) hlt ⟨rfl, HF.out⟩)
                  go_roundw
                  case rel => exact ⟨k + 1, KA2, kc2, K ++ [(f, true, q, z)], OA, oc, O, by omega, by simp, by simp, by go_num, by first | omega | (simp; omega), by first | omega | (simp; omega), hKs, hOs, HK2, HO2, HAP2, HB2⟩
                  case measure => simp [intOf]; omega
        · have hKf : K = l.filter fun r => decide (r.1 ∈ N) := by have := hKe.out; rwa [List.take_of_length_le (by omega)] at this
          have hOf : O = l.filter fun r => !r.2.1 := by have := hOe.out; rwa [List.take_of_length_le (by omega)] at this
          rw [← hKf] at R2
          rw [← hOf] at R3
          have kcap := own_cap HK.out
          have ocap := own_cap HO.out
          clear hKf hOf hKe hOe
          have C6 := Lib.hid (C5.out.trans (HB.out.mono C5.out.size))
          have X6 := Lib.hid (X5.out.below HB.out)
          have D6 := Lib.hid (D5.out.below HB.out)
          have L6 := Lib.hid (HLr.out _ HB.out)
          have K6 := Lib.hid (RecsIn.of (own_read HK.out))
          have O6 := Lib.hid (RecsIn.of (own_read HO.out))
          clear HK HO HAP HB
          go_wp2_with fail
          refine (implReplay_any A2 B1 c2 cb1 X l _ X6.out L6.out (by omega) (by omega) hcap.1 hcap.2).mono ?_
          unfold RPost
          rw [R1.out]
          rintro e w7 ⟨A7, c7, rfl, o7, b7⟩
          have C7 := Lib.hid (C6.out.trans (b7.mono C6.out.size))
          have X7 := Lib.hid (X6.out.below b7)
          have D7 := Lib.hid (D6.out.below b7)
          have K7 := Lib.hid (K6.out.below b7)
          have O7 := Lib.hid (O6.out.below b7)
          have Y7 := Lib.hid (IntsIn.of (own_read o7))
          clear o7 b7 C6 X6 D6 L6 K6 O6
          go_wp2_with fail
          refine (sameInts_any _ _ _ _ X X _ Y7.out (IntsIn.of X7.out) (by omega) (by omega)).mono ?_
          rintro e w8 ⟨rfl, q8, hw8⟩
          have hd : decide (X = X) = true := by simp
          rw [hd]
          have C8 := Lib.hid (show Below w.heap.size w w8 by rw [hw8]; exact belowN C7.out _)
          have X8 := Lib.hid (show ReadC w8 A2 (X.map (Value.int .i64)) by rw [hw8]; exact X7.out)
          have D8 := Lib.hid (show ReadC w8 A1 (d.map (Value.int .i64)) by rw [hw8]; exact D7.out)
          have K8 := Lib.hid (show RecsIn w8 KA K by rw [hw8]; exact K7.out)
          have O8 := Lib.hid (show RecsIn w8 OA O by rw [hw8]; exact O7.out)
          clear hw8 C7 X7 D7 K7 O7 Y7 hd
          go_wp2_with fail
          refine (implReplay_any A1 KA c1 kc d K _ D8.out K8.out (by omega) (by omega) kcap.1 kcap.2).mono ?_
          unfold RPost
          rw [R2.out]
          rintro e w9 ⟨A9, c9, rfl, o9, b9⟩
          have C9 := Lib.hid (C8.out.trans (b9.mono C8.out.size))
          have X9 := Lib.hid (X8.out.below b9)
          have D9 := Lib.hid (D8.out.below b9)
          have O9 := Lib.hid (O8.out.below b9)
          have Y9 := Lib.hid (IntsIn.of (own_read o9))
          clear o9 b9 C8 X8 D8 K8 O8
          go_wp2_with fail
          refine (sameInts_any _ _ _ _ X X _ Y9.out (IntsIn.of X9.out) (by omega) (by omega)).mono ?_
          rintro e w10 ⟨rfl, q10, hw10⟩
          have hd : decide (X = X) = true := by simp
          rw [hd]
          have C10 := Lib.hid (show Below w.heap.size w w10 by rw [hw10]; exact belowN C9.out _)
          have D10 := Lib.hid (show ReadC w10 A1 (d.map (Value.int .i64)) by rw [hw10]; exact D9.out)
          have O10 := Lib.hid (show RecsIn w10 OA O by rw [hw10]; exact O9.out)
          clear hw10 C9 X9 D9 O9 Y9 hd
          go_wp2_with fail
          refine (implReplay_any A1 OA c1 oc d O _ D10.out O10.out (by omega) (by omega) ocap.1 ocap.2).mono ?_
          unfold RPost
          rw [R3.out]
          rintro e w11 ⟨A11, c11, rfl, o11, b11⟩
          have C11 := Lib.hid (C10.out.trans (b11.mono C10.out.size))
          have D11 := Lib.hid (D10.out.below b11)
          have Y11 := Lib.hid (IntsIn.of (own_read o11))
          clear o11 b11 C10 D10 O10
          go_wp2_with fail
          refine (sameInts_any _ _ _ _ d d _ Y11.out (IntsIn.of D11.out) (by omega) (by omega)).mono ?_
          rintro e w12 ⟨rfl, q12, hw12⟩
          have hd : decide (d = d) = true := by simp
          rw [hd]
          have C12 := Lib.hid (show Below w.heap.size w w12 by rw [hw12]; exact belowN C11.out _)
          clear hw12 C11 D11 Y11 hd
          go_wp2
          go_ret
          exact ⟨rfl, C12.out⟩

set_option maxRecDepth 100000 in
theorem lifted (os : Os) (started : os.Started) (H : Type) (enc : TypeId × Value → H) :
    ReturnsInHanded {} Try.checked os 9 .any (Rows.fnReplayJournalSpec.pre6 enc Try.prog Try.f9 Rows.fnReplayJournalRow.domain false) (Rows.fnReplayJournalSpec.post enc Try.prog Try.f9 false true false false) := by
  refine returnsInHanded_of_change (C := Try.checked) own started (by kernel_rfl) Try.func9
    (ChangeSpec.witness6 (enc := enc) (C := Try.checked) false ⟨#[], #[.slice none 0 0], []⟩ 8 (by kernel_rfl) (by kernel_rfl) (by kernel_rfl) (by kernel_rfl)) ?_
  intro W base args ds gs before hval0 hW hcnd _
  have hval : ∀ (j : Nat) t v, Try.f9.params[j]? = some t → args[j]? = some v → Value.okWide Try.prog W .any base t v := hval0
  have hW' := hW
  obtain ⟨p, q, hA0, hV, rfl, hfz, hnd⟩ := hW
  have hA : DataW.TrodAll enc Try.prog W 0 (fun _ => true) true Try.f9.params.toList args.toList ds p := hA0
  rw [Try.params9] at hA hval
  obtain ⟨v0, vs0, d0, ds0, p0, q0, hargs, rfl, rfl, h0, r0⟩ := trodAll_cons hA
  obtain ⟨rfl, rfl, rfl⟩ := trodAll_nil r0
  obtain rfl : args = #[v0] := by cases args; simp_all
  obtain ⟨rfl, rfl⟩ := trodVars_none hV
  have k0 := h0
  have lt0 : ∀ x ∈ p0, x.block < W.heap.size := by obtain ⟨m, hm⟩ := k0; exact DataW.trod_lt m _ _ _ hm
  obtain ⟨a0, n0, c0, rfl, ok0, le0, cl0⟩ := open_bytes (hval 0 29 v0 rfl rfl) h0
  clear hA0 hval0
  refine (walk a0 n0 c0 W ok0 le0 cl0).mono fun e W' ⟨he, bel⟩ => ?_
  subst he
  exact ⟨_, rfl, _, _, _, [], _, [], hW', trodAll_mk1 (shut_bool Try.underlying4 _), (trodAll_cons_mk (Below.trod laidOut (by kernel_rfl) (of_decide_eq_true (by kernel_rfl)) k0 bel lt0) trodAll_mk0), rfl, bel.frame _, fun h => by cases h⟩

theorem proved : Rows.FnReplayJournalSaid :=
  OpenClaim.holds_of_wide 9 Try.f9 rfl rfl rfl rfl rfl rfl rfl ⟨rfl, rfl, rfl, rfl, rfl⟩ rfl rfl rfl rfl rfl (by kernel_rfl) Try.func9 (by kernel_rfl)
    (of_decide_eq_true (by kernel_rfl)) (by unfold Func.isWrapper; first | (rw [if_pos (by decide +kernel)]; kernel_rfl) | (rw [if_neg (by decide +kernel)]; exact ⟨rfl, rfl⟩))
    (fun os started H enc _ => lifted os started H enc)
#print axioms proved
end Go.Proofs.Ythghngphamimgaa.fnReplayJournal
