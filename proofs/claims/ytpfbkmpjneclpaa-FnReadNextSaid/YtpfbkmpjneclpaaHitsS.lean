/- The contract of the reference's AheadHits. -/
import Derived.Test.YtpfbkmpjneclpaaHits
import Derived.Deep.RegionWith
namespace Go.Proofs.Ytpfbkmpjneclpaa
open Go.RowKit
set_option linter.unusedVariables false

/-- ReadNext, of the reference, at a valid reader. -/
theorem specRN_any (n v a c : Int) (w : World) (hn : 0 ≤ n ∧ n ≤ 100000) (hv : isWin v) (ha : 0 ≤ a ∧ a ≤ 100000) (hc : 1 ≤ c ∧ c ≤ 200) :
    Calls Try.prog 26 #[.agg #[.int .i64 n, .int .i64 v], .int .i64 a, .int .i64 c] w fun e w' => e = .returned (.tuple #[.agg #[.int .i64 (rnN a c), .int .i64 (rnW n v a)], .int .i64 (rnW n v a)]) ∧ Below w.heap.size w w' := by
  have hah : ahB n v = true := ahB_iff.2 ⟨hn.1, hn.2, hv⟩
  have i1 : inB a 0 100000 = true := inB_iff.2 ha
  have i2 : inB c 1 200 = true := inB_iff.2 hc
  obtain ⟨v0, v1⟩ := win_b hv
  have HV := Lib.hid hv
  have eN := Lib.hid (show rnN a c = min 100000 (a + c) by unfold rnN; omega)
  clear hv
  by_cases h : a = n
  · have eW := Lib.hid (show rnW n v a = max 1 (min 32 (2 * v)) by rw [rnW, if_pos h]; omega)
    subst h
    go_enter Try.func26, Try.ntmps26
    go_wp2_with fail
    refine (specAhead_any a v _).mono ?_
    rintro e w1 ⟨rfl, b1⟩
    have K0 : Blk w1 w.heap.size _ _ := blk_below b1 ((Blk.new rfl).alloc _) (by simp; omega)
    have K1 : Blk w1 (w.heap.size + 1) _ _ := blk_below b1 (Blk.new (by simp)) (by simp)
    have C1 := Lib.hid ((b_alloc (b_alloc (Below.refl w.heap.size w) _) _).trans (b1.mono (by simp; omega)))
    obtain ⟨x0, x1, f0, f1⟩ := K0.two
    obtain ⟨y0, y1, g0, g1⟩ := K1.two
    clear K0 K1 b1
    go_wp2_with (first
      | (go_at_call 42; refine (l1In_any _ _ _ _).mono ?_; rintro e w' ⟨rfl, rfl⟩)
      | (go_at_call 51; refine (clip_any _ _ _ _).mono ?_; rintro e w' ⟨rfl, rfl⟩))
    all_goals
      refine bodyPost_ret (v := .tuple #[.agg #[.int .i64 (rnN a c), .int .i64 (rnW a v a)], .int .i64 (rnW a v a)]) (by rw [eN.out, eW.out]; simp [results, Try.results26, go_sem, *]; omega) rfl ⟨rfl, ?_⟩
      exact (C1.out.setCell (by simp) _).setCell (by simp) _
  · have eW := Lib.hid (show rnW n v a = 0 by rw [rnW, if_neg h])
    have he : ((a : Int) == n) = false := by simpa using h
    go_enter Try.func26, Try.ntmps26
    go_wp2_with fail
    refine (specAhead_any n v _).mono ?_
    rintro e w1 ⟨rfl, b1⟩
    have K0 : Blk w1 w.heap.size _ _ := blk_below b1 ((Blk.new rfl).alloc _) (by simp; omega)
    have K1 : Blk w1 (w.heap.size + 1) _ _ := blk_below b1 (Blk.new (by simp)) (by simp)
    have C1 := Lib.hid ((b_alloc (b_alloc (Below.refl w.heap.size w) _) _).trans (b1.mono (by simp; omega)))
    obtain ⟨x0, x1, f0, f1⟩ := K0.two
    obtain ⟨y0, y1, g0, g1⟩ := K1.two
    clear K0 K1 b1
    go_wp2_with (go_at_call 42; refine (l1In_any _ _ _ _).mono ?_; rintro e w' ⟨rfl, rfl⟩)
    all_goals
      refine bodyPost_ret (v := .tuple #[.agg #[.int .i64 (rnN a c), .int .i64 (rnW n v a)], .int .i64 (rnW n v a)]) (by rw [eN.out, eW.out]; simp [results, Try.results26, go_sem, *]; omega) rfl ⟨rfl, ?_⟩
      exact (C1.out.setCell (by simp) _).setCell (by simp) _

set_option maxHeartbeats 2000000 in
theorem specHits_any (A : Option Addr) (c : Nat) (l : List Rq) (w : World) (h : ReqsIn w A l) (hl : l.length ≤ 1000000000000) :
    Calls Try.prog 34 #[.slice A l.length c] w (AHPost l w) := by
  go_enter Try.func34, Try.ntmps34
  go_wp2_with fail
  refine (specReqs_any A c l w h hl).mono ?_
  rintro e w1 ⟨rfl, b1⟩
  cases hv : reqsB l
  · have hno := Lib.hid (show AHPost l w (.returned (.int .i64 (-1))) w1 from ⟨ret_int (by simp [hitsV, hv]), b1⟩)
    clear hv b1
    go_wp2
    go_ret
    exact hno.out
  · have hval := Lib.hid (fun n w' (h : hitsG false 0 0 l = n) (hb : Below w.heap.size w w') => show AHPost l w (.returned (.int .i64 n)) w' from ⟨ret_int (by simp [hitsV, hv, h]), hb⟩)
    have HV := Lib.hid hv
    have B1 := Lib.hid b1
    have HR := Lib.hid h
    clear hv b1 h
    go_wp2
    go_loopw [4, 5] (fun x y wr => ∃ (k : Nat) (h n v : Int), k ≤ l.length ∧ x = .int .i64 h ∧ y = .int .i64 k ∧ 0 ≤ h ∧ h ≤ k ∧ 0 ≤ n ∧ n ≤ 100000 ∧ Hid (isWin v) ∧ Hid (hitsG false 0 0 l = h + hitsG (decide (0 < k)) n v (l.drop k)) ∧ Hid (Blk wr w1.heap.size 36 #[.int .i64 n, .int .i64 v]) ∧ Hid (Below w.heap.size w wr)) (fun _ y _ => l.length - (intOf y).toNat)
    case atStart => exact ⟨0, 0, 0, 0, Nat.zero_le _, rfl, rfl, by omega, by omega, by omega, by omega, .inl rfl, by show hitsG false 0 0 l = _; simp, Blk.new rfl, b_alloc B1.out _⟩
    case round =>
      obtain ⟨k, h, n, v, hk, rfl, rfl, h0, h1, n0, n1, hw, hs, hB, hb⟩ := hrel
      obtain ⟨v0, v1⟩ := win_b hw.out
      by_cases hlt : k < l.length
      · obtain ⟨b, off, rfl, hc⟩ := HR.out.below hb.out (by omega)
        obtain ⟨c1, c2, c3⟩ := hc k hlt
        have hq := reqs_at HV.out hlt
        have hstep := hitsG_step hlt (decide (0 < k)) n v
        obtain ⟨⟨f, q, o⟩, hfn⟩ : ∃ p : Rq, p = l[k] := ⟨_, rfl⟩
        rw [← hfn] at c1 c2 c3 hq hstep
        simp only at c1 c2 c3 hq hstep
        obtain ⟨q1, q2, q3, q4⟩ := hq
        have HS := Lib.hid (hs.out.trans (by rw [hstep]))
        obtain ⟨x0, x1, f0, f1⟩ := hB.out.two
        have hlt1 := hB.out.lt
        have hne : wr.heap.size ≠ w1.heap.size := by omega
        have hnb : b ≠ w1.heap.size := by
          obtain ⟨b', off', hbo, hc'⟩ := HR.out (by omega)
          have h1 := block_lt_of_cell (hc' k hlt).1
          have h2 := B1.out.size
          injection hbo with hbo
          injection hbo with hbo
          simp only at h1
          omega
        clear hc hfn hstep hs HR
        have rnb := rnN_b q1 (show 0 ≤ q by omega)
        have rw_ := Lib.hid (rnW_win (n := n) (a := f) hw.out)
        have hall : ∀ δ : Int, (if decide (0 < k) = true ∧ n ≤ f ∧ f < n + v then (1:Int) else 0) = δ → Hid (hitsG false 0 0 l = (h + δ) + hitsG (decide (0 < k + 1)) (rnN f q) (rnW n v f) (l.drop (k + 1))) := by
          intro δ hδ
          rw [hδ] at HS
          have e : decide (0 < k + 1) = true := by simp
          rw [e]
          exact HS.out.trans (by omega)
        have Hall := Lib.hid hall
        have D := Lib.hid (fun m => And.intro (hB.out.drewN m) (belowN hb.out m))
        clear HS hall hB hb
        rcases Nat.eq_zero_or_pos k with hc | hc
        · have HN := Hall.out 0 (by simp [hc])
          have d1 : decide (0 < k) = false := by simp [hc]
          have d2 : decide ((0 : Int) < (k : Int)) = false := by simp [hc]
          have HC := Lib.hid hc
          clear hc Hall
          go_wp2
          go_quiet ((go_at_call 42; exact Calls.quiet_of_same (quiet_l (l1In_any _ _ _ _))))
          go_wp2
          obtain ⟨hB2, hb2⟩ := D.out nq
          have c1' : (wr.drewN nq).cell? ⟨b, off + k * 3, none⟩ = some (.int .i64 f) := c1
          have c2' : (wr.drewN nq).cell? ⟨b, off + k * 3 + 1, none⟩ = some (.int .i64 q) := c2
          clear D c1 c2 c3 x0 x1 f0 f1
          generalize wr.drewN nq = w2 at *
          have HB2 := Lib.hid hB2
          have Hb2 := Lib.hid hb2
          obtain ⟨x0, x1, f0, f1⟩ := hB2.two
          clear hB2 hb2
          go_region_with (go_at_call 26; refine (specRN_any n v f q _ (by omega) hw.out (by omega) (by omega)).mono ?_; rintro e w3 ⟨rfl, b3⟩; have d1' := (b3.cell (p := ⟨b, off + k * 3, none⟩) (block_lt_of_cell (w := w2) c1')).trans c1'; have d2' := (b3.cell (p := ⟨b, off + k * 3 + 1, none⟩) (block_lt_of_cell (w := w2) c2')).trans c2'; obtain ⟨y0, y1, g0, g1⟩ := (blk_below b3 HB2.out HB2.out.lt).two)
          all_goals
            have B3 := Lib.hid (show Blk ((w3.setCell ⟨w1.heap.size, 0, none⟩ (.int .i64 (rnN f q))).setCell ⟨w1.heap.size, 1, none⟩ (.int .i64 (rnW n v f))) w1.heap.size 36 #[.int .i64 (rnN f q), .int .i64 (rnW n v f)] from ((blk_below b3 HB2.out HB2.out.lt).set 0 _).set 1 _)
            have C3 := Lib.hid ((((b_drew Hb2.out).trans (b3.mono Hb2.out.size)).setCell (p := ⟨w1.heap.size, 0, none⟩) B1.out.size (.int .i64 (rnN f q))).setCell (p := ⟨w1.heap.size, 1, none⟩) B1.out.size (.int .i64 (rnW n v f)))
            clear b3
            go_wp2
            go_roundw
            case rel => exact ⟨k + 1, h + 0, rnN f q, rnW n v f, by omega, by go_num, by go_num, by omega, by omega, rnb.1, rnb.2, rw_, HN, B3, C3⟩
            case measure => simp [intOf]; omega
        · cases hin : inB f n (n + v - 1)
          · have HN := Hall.out 0 (by have := inB_not.1 hin; rw [if_neg]; omega)
            have d1 : decide (0 < k) = true := by simp [hc]
            have d2 : decide ((0 : Int) < (k : Int)) = true := by simp [hc]
            have HC := Lib.hid hc
            clear hc Hall
            go_wp2
            go_quiet ((go_at_call 42; exact Calls.quiet_of_same (quiet_l (l1In_any _ _ _ _))))
            go_wp2
            obtain ⟨hB2, hb2⟩ := D.out nq
            have c1' : (wr.drewN nq).cell? ⟨b, off + k * 3, none⟩ = some (.int .i64 f) := c1
            have c2' : (wr.drewN nq).cell? ⟨b, off + k * 3 + 1, none⟩ = some (.int .i64 q) := c2
            clear D c1 c2 c3 x0 x1 f0 f1
            generalize wr.drewN nq = w2 at *
            have HB2 := Lib.hid hB2
            have Hb2 := Lib.hid hb2
            obtain ⟨x0, x1, f0, f1⟩ := hB2.two
            clear hB2 hb2
            go_region_with (go_at_call 26; refine (specRN_any n v f q _ (by omega) hw.out (by omega) (by omega)).mono ?_; rintro e w3 ⟨rfl, b3⟩; have d1' := (b3.cell (p := ⟨b, off + k * 3, none⟩) (block_lt_of_cell (w := w2) c1')).trans c1'; have d2' := (b3.cell (p := ⟨b, off + k * 3 + 1, none⟩) (block_lt_of_cell (w := w2) c2')).trans c2'; obtain ⟨y0, y1, g0, g1⟩ := (blk_below b3 HB2.out HB2.out.lt).two)
            all_goals
              have B3 := Lib.hid (show Blk ((w3.setCell ⟨w1.heap.size, 0, none⟩ (.int .i64 (rnN f q))).setCell ⟨w1.heap.size, 1, none⟩ (.int .i64 (rnW n v f))) w1.heap.size 36 #[.int .i64 (rnN f q), .int .i64 (rnW n v f)] from ((blk_below b3 HB2.out HB2.out.lt).set 0 _).set 1 _)
              have C3 := Lib.hid ((((b_drew Hb2.out).trans (b3.mono Hb2.out.size)).setCell (p := ⟨w1.heap.size, 0, none⟩) B1.out.size (.int .i64 (rnN f q))).setCell (p := ⟨w1.heap.size, 1, none⟩) B1.out.size (.int .i64 (rnW n v f)))
              clear b3
              go_wp2
              go_roundw
              case rel => exact ⟨k + 1, h + 0, rnN f q, rnW n v f, by omega, by go_num, by go_num, by omega, by omega, rnb.1, rnb.2, rw_, HN, B3, C3⟩
              case measure => simp [intOf]; omega
          · have HN := Hall.out 1 (by have := inB_iff.1 hin; rw [if_pos]; exact ⟨by simp [hc], by omega, by omega⟩)
            have d1 : decide (0 < k) = true := by simp [hc]
            have d2 : decide ((0 : Int) < (k : Int)) = true := by simp [hc]
            have HC := Lib.hid hc
            clear hc Hall
            go_wp2
            go_quiet ((go_at_call 42; exact Calls.quiet_of_same (quiet_l (l1In_any _ _ _ _))))
            go_wp2
            obtain ⟨hB2, hb2⟩ := D.out nq
            have c1' : (wr.drewN nq).cell? ⟨b, off + k * 3, none⟩ = some (.int .i64 f) := c1
            have c2' : (wr.drewN nq).cell? ⟨b, off + k * 3 + 1, none⟩ = some (.int .i64 q) := c2
            clear D c1 c2 c3 x0 x1 f0 f1
            generalize wr.drewN nq = w2 at *
            have HB2 := Lib.hid hB2
            have Hb2 := Lib.hid hb2
            obtain ⟨x0, x1, f0, f1⟩ := hB2.two
            clear hB2 hb2
            go_region_with (go_at_call 26; refine (specRN_any n v f q _ (by omega) hw.out (by omega) (by omega)).mono ?_; rintro e w3 ⟨rfl, b3⟩; have d1' := (b3.cell (p := ⟨b, off + k * 3, none⟩) (block_lt_of_cell (w := w2) c1')).trans c1'; have d2' := (b3.cell (p := ⟨b, off + k * 3 + 1, none⟩) (block_lt_of_cell (w := w2) c2')).trans c2'; obtain ⟨y0, y1, g0, g1⟩ := (blk_below b3 HB2.out HB2.out.lt).two)
            all_goals
              have B3 := Lib.hid (show Blk ((w3.setCell ⟨w1.heap.size, 0, none⟩ (.int .i64 (rnN f q))).setCell ⟨w1.heap.size, 1, none⟩ (.int .i64 (rnW n v f))) w1.heap.size 36 #[.int .i64 (rnN f q), .int .i64 (rnW n v f)] from ((blk_below b3 HB2.out HB2.out.lt).set 0 _).set 1 _)
              have C3 := Lib.hid ((((b_drew Hb2.out).trans (b3.mono Hb2.out.size)).setCell (p := ⟨w1.heap.size, 0, none⟩) B1.out.size (.int .i64 (rnN f q))).setCell (p := ⟨w1.heap.size, 1, none⟩) B1.out.size (.int .i64 (rnW n v f)))
              clear b3
              go_wp2
              go_roundw
              case rel => exact ⟨k + 1, h + 1, rnN f q, rnW n v f, by omega, by go_num, by go_num, by omega, by omega, rnb.1, rnb.2, rw_, HN, B3, C3⟩
              case measure => simp [intOf]; omega
      · have hfin := Lib.hid (hval.out h wr (by have := hs.out; rw [List.drop_of_length_le (by omega)] at this; simpa [hitsG] using this) hb.out)
        clear hs hB hb hval
        go_wp2
        go_ret
        exact hfin.out
end Go.Proofs.Ytpfbkmpjneclpaa
