/- The plain law of AheadHits, and the contracts of the program's and the reference's. -/
import Derived.Test.YtpfbkmpjneclpaaReqV
import Derived.Test.YtpfbkmpjneclpaaAhead
import Derived.Test.YtpfbkmpjneclpaaOwn
import Derived.StillTailTactics
namespace Go.Proofs.Ytpfbkmpjneclpaa
open Go.RowKit
set_option linter.unusedVariables false

def hitsG : Bool → Int → Int → List Rq → Int
  | _, _, _, [] => 0
  | f, n, v, q :: r => (if f = true ∧ n ≤ q.1 ∧ q.1 < n + v then 1 else 0) + hitsG true (rnN q.1 q.2.1) (rnW n v q.1) r
def hitsV (l : List Rq) : Int := if reqsB l = true then hitsG false 0 0 l else -1
theorem hitsG_step {l : List Rq} {k : Nat} (hk : k < l.length) (f : Bool) (n v : Int) : hitsG f n v (l.drop k) = (if f = true ∧ n ≤ l[k].1 ∧ l[k].1 < n + v then 1 else 0) + hitsG true (rnN l[k].1 l[k].2.1) (rnW n v l[k].1) (l.drop (k + 1)) := by
  rw [List.drop_eq_getElem_cons hk]; rfl

def AHPost (l : List Rq) (W : World) (e : Ending) (w' : World) : Prop := e = .returned (.int .i64 (hitsV l)) ∧ Below W.heap.size W w'
theorem reqs_at {l : List Rq} (h : reqsB l = true) {k : Nat} (hk : k < l.length) : 0 ≤ l[k].1 ∧ l[k].1 ≤ 100000 ∧ 1 ≤ l[k].2.1 ∧ l[k].2.1 ≤ 200 := by
  unfold reqsB at h
  simp only [Bool.and_eq_true, List.all_eq_true] at h
  have := h.2 _ (List.getElem_mem hk)
  simp only [isRq, Bool.and_eq_true, inB_iff] at this
  omega

set_option maxHeartbeats 2000000 in
theorem implHits_any (A : Option Addr) (c : Nat) (l : List Rq) (w : World) (h : ReqsIn w A l) (hl : l.length ≤ 1000000000000) :
    Calls Try.prog 36 #[.slice A l.length c] w (AHPost l w) := by
  go_enter Try.func36, Try.ntmps36
  go_wp2_with fail
  refine (implReqs_any A c l w h hl).mono ?_
  rintro e w1 ⟨rfl, b1⟩
  cases hv : reqsB l
  · have hno := Lib.hid (show AHPost l w (.returned (.int .i64 (-1))) w1 from ⟨ret_int (by simp [hitsV, hv]), b1⟩)
    clear hv b1
    go_wp2
    go_ret
    exact hno.out
  · have hval := Lib.hid (fun n w' (h : hitsG false 0 0 l = n) (hb : Below w.heap.size w w') => show AHPost l w (.returned (.int .i64 n)) w' from ⟨ret_int (by simp [hitsV, hv, h]), hb⟩)
    have HV := Lib.hid hv
    have B1 := Lib.hid b1
    have HR := Lib.hid h
    clear hv b1 h
    go_wp2
    go_loopw [3, 12] (fun x y wr => ∃ (k : Nat) (h n v : Int), k ≤ l.length ∧ x = .int .i64 h ∧ y = .int .i64 k ∧ 0 ≤ h ∧ h ≤ k ∧ 0 ≤ n ∧ n ≤ 100000 ∧ Hid (isWin v) ∧ Hid (hitsG false 0 0 l = h + hitsG (decide (0 < k)) n v (l.drop k)) ∧ Hid (Blk wr w1.heap.size 36 #[.int .i64 n, .int .i64 v]) ∧ Hid (Below w.heap.size w wr)) (fun _ y _ => l.length - (intOf y).toNat)
    case atStart => exact ⟨0, 0, 0, 0, Nat.zero_le _, rfl, rfl, by omega, by omega, by omega, by omega, .inl rfl, by show hitsG false 0 0 l = _; simp, Blk.new rfl, b_alloc B1.out _⟩
    case round =>
      obtain ⟨k, h, n, v, hk, rfl, rfl, h0, h1, n0, n1, hw, hs, hB, hb⟩ := hrel
      obtain ⟨v0, v1⟩ := win_b hw.out
      by_cases hlt : k < l.length
      · obtain ⟨b, off, rfl, hc⟩ := HR.out.below hb.out (by omega)
        obtain ⟨c1, c2, c3⟩ := hc k hlt
        have hq := reqs_at HV.out hlt
        have hstep := hitsG_step hlt (decide (0 < k)) n v
        obtain ⟨⟨f, q, o⟩, hfn⟩ : ∃ p : Rq, p = l[k] := ⟨_, rfl⟩
        rw [← hfn] at c1 c2 c3 hq hstep
        simp only at c1 c2 c3 hq hstep
        obtain ⟨q1, q2, q3, q4⟩ := hq
        have HS := Lib.hid (hs.out.trans (by rw [hstep]))
        obtain ⟨x0, x1, f0, f1⟩ := hB.out.two
        have hlt1 := hB.out.lt
        have hne : wr.heap.size ≠ w1.heap.size := by omega
        clear hc hfn hstep hs HR
        have hcase : (k = 0 ∨ (0 < k ∧ ¬ n ≤ f)) ∨ ((0 < k ∧ n ≤ f ∧ ¬ f < n + v) ∨ (0 < k ∧ n ≤ f ∧ f < n + v)) := by omega
        have rnb := rnN_b q1 (show 0 ≤ q by omega)
        have rw_ := Lib.hid (rnW_win (n := n) (a := f) hw.out)
        have hall : ∀ δ : Int, (if decide (0 < k) = true ∧ n ≤ f ∧ f < n + v then (1:Int) else 0) = δ → Hid (hitsG false 0 0 l = (h + δ) + hitsG (decide (0 < k + 1)) (rnN f q) (rnW n v f) (l.drop (k + 1))) := by
          intro δ hδ
          rw [hδ] at HS
          have e : decide (0 < k + 1) = true := by simp
          rw [e]
          exact HS.out.trans (by omega)
        have Hall := Lib.hid hall
        clear HS hall
        rcases hcase with (hc | hc) | (hc | hc)
        · have HN := Hall.out 0 (by simp [hc])
          have d1 : decide (0 < k) = false := by simp [hc]
          have d2 : decide ((0 : Int) < (k : Int)) = false := by simp [hc]
          have HC := Lib.hid hc
          clear hc Hall
          go_wp2_with fail
          refine (implRN_any n v f q _ (by omega) (by omega) (by omega)).mono ?_
          rintro e w2 ⟨rfl, b2⟩
          have B2 : Blk w2 w1.heap.size _ _ := blk_below b2 (hB.out.alloc _) (by simp; omega)
          obtain ⟨y0, y1, g0, g1⟩ := B2.two
          have B3 := Lib.hid (show Blk ((w2.setCell ⟨w1.heap.size, 0, none⟩ (.int .i64 (rnN f q))).setCell ⟨w1.heap.size, 1, none⟩ (.int .i64 (rnW n v f))) w1.heap.size 36 #[.int .i64 (rnN f q), .int .i64 (rnW n v f)] from (B2.set 0 _).set 1 _)
          have C2 := (b_alloc hb.out _).trans (b2.mono (by have := hb.out.size; simp; omega))
          have C3 := Lib.hid ((C2.setCell (p := ⟨w1.heap.size, 0, none⟩) B1.out.size (.int .i64 (rnN f q))).setCell (p := ⟨w1.heap.size, 1, none⟩) B1.out.size (.int .i64 (rnW n v f)))
          clear B2 C2 b2 hB hb c1 c2 c3 x0 x1 f0 f1 hw
          go_wp2
          go_roundw
          case rel => exact ⟨k + 1, h + 0, rnN f q, rnW n v f, by omega, by go_num, by go_num, by omega, by omega, rnb.1, rnb.2, rw_, HN, B3, C3⟩
          case measure => simp [intOf]; omega
        · have HN := Hall.out 0 (by simp [hc])
          have e1 := hc.1; have e2 := hc.2
          have d1 : decide (0 < k) = true := by simp [e1]
          have d3 : decide (n ≤ f) = false := by simp [e2]
          have HC := Lib.hid hc
          clear hc Hall
          go_wp2_with fail
          refine (implRN_any n v f q _ (by omega) (by omega) (by omega)).mono ?_
          rintro e w2 ⟨rfl, b2⟩
          have B2 : Blk w2 w1.heap.size _ _ := blk_below b2 (hB.out.alloc _) (by simp; omega)
          obtain ⟨y0, y1, g0, g1⟩ := B2.two
          have B3 := Lib.hid (show Blk ((w2.setCell ⟨w1.heap.size, 0, none⟩ (.int .i64 (rnN f q))).setCell ⟨w1.heap.size, 1, none⟩ (.int .i64 (rnW n v f))) w1.heap.size 36 #[.int .i64 (rnN f q), .int .i64 (rnW n v f)] from (B2.set 0 _).set 1 _)
          have C2 := (b_alloc hb.out _).trans (b2.mono (by have := hb.out.size; simp; omega))
          have C3 := Lib.hid ((C2.setCell (p := ⟨w1.heap.size, 0, none⟩) B1.out.size (.int .i64 (rnN f q))).setCell (p := ⟨w1.heap.size, 1, none⟩) B1.out.size (.int .i64 (rnW n v f)))
          clear B2 C2 b2 hB hb c1 c2 c3 x0 x1 f0 f1 hw
          go_wp2
          go_roundw
          case rel => exact ⟨k + 1, h + 0, rnN f q, rnW n v f, by omega, by go_num, by go_num, by omega, by omega, rnb.1, rnb.2, rw_, HN, B3, C3⟩
          case measure => simp [intOf]; omega
        · have HN := Hall.out 0 (by simp [hc])
          have e1 := hc.1; have e2 := hc.2.1; have e3 := hc.2.2
          have d1 : decide (0 < k) = true := by simp [e1]
          have d3 : decide (n ≤ f) = true := by simp [e2]
          have d4 : decide (f < n + v) = false := by simpa using e3
          have HC := Lib.hid hc
          clear hc Hall
          go_wp2_with fail
          refine (implRN_any n v f q _ (by omega) (by omega) (by omega)).mono ?_
          rintro e w2 ⟨rfl, b2⟩
          have B2 : Blk w2 w1.heap.size _ _ := blk_below b2 (hB.out.alloc _) (by simp; omega)
          obtain ⟨y0, y1, g0, g1⟩ := B2.two
          have B3 := Lib.hid (show Blk ((w2.setCell ⟨w1.heap.size, 0, none⟩ (.int .i64 (rnN f q))).setCell ⟨w1.heap.size, 1, none⟩ (.int .i64 (rnW n v f))) w1.heap.size 36 #[.int .i64 (rnN f q), .int .i64 (rnW n v f)] from (B2.set 0 _).set 1 _)
          have C2 := (b_alloc hb.out _).trans (b2.mono (by have := hb.out.size; simp; omega))
          have C3 := Lib.hid ((C2.setCell (p := ⟨w1.heap.size, 0, none⟩) B1.out.size (.int .i64 (rnN f q))).setCell (p := ⟨w1.heap.size, 1, none⟩) B1.out.size (.int .i64 (rnW n v f)))
          clear B2 C2 b2 hB hb c1 c2 c3 x0 x1 f0 f1 hw
          go_wp2
          go_roundw
          case rel => exact ⟨k + 1, h + 0, rnN f q, rnW n v f, by omega, by go_num, by go_num, by omega, by omega, rnb.1, rnb.2, rw_, HN, B3, C3⟩
          case measure => simp [intOf]; omega
        · have HN := Hall.out 1 (by simp [hc])
          have e1 := hc.1; have e2 := hc.2.1; have e3 := hc.2.2
          have d1 : decide (0 < k) = true := by simp [e1]
          have d3 : decide (n ≤ f) = true := by simp [e2]
          have d4 : decide (f < n + v) = true := by simpa using e3
          have HC := Lib.hid hc
          clear hc Hall
          go_wp2_with fail
          refine (implRN_any n v f q _ (by omega) (by omega) (by omega)).mono ?_
          rintro e w2 ⟨rfl, b2⟩
          have B2 : Blk w2 w1.heap.size _ _ := blk_below b2 (hB.out.alloc _) (by simp; omega)
          obtain ⟨y0, y1, g0, g1⟩ := B2.two
          have B3 := Lib.hid (show Blk ((w2.setCell ⟨w1.heap.size, 0, none⟩ (.int .i64 (rnN f q))).setCell ⟨w1.heap.size, 1, none⟩ (.int .i64 (rnW n v f))) w1.heap.size 36 #[.int .i64 (rnN f q), .int .i64 (rnW n v f)] from (B2.set 0 _).set 1 _)
          have C2 := (b_alloc hb.out _).trans (b2.mono (by have := hb.out.size; simp; omega))
          have C3 := Lib.hid ((C2.setCell (p := ⟨w1.heap.size, 0, none⟩) B1.out.size (.int .i64 (rnN f q))).setCell (p := ⟨w1.heap.size, 1, none⟩) B1.out.size (.int .i64 (rnW n v f)))
          clear B2 C2 b2 hB hb c1 c2 c3 x0 x1 f0 f1 hw
          go_wp2
          go_roundw
          case rel => exact ⟨k + 1, h + 1, rnN f q, rnW n v f, by omega, by go_num, by go_num, by omega, by omega, rnb.1, rnb.2, rw_, HN, B3, C3⟩
          case measure => simp [intOf]; omega
      · have hfin := Lib.hid (hval.out h wr (by have := hs.out; rw [List.drop_of_length_le (by omega)] at this; simpa [hitsG] using this) hb.out)
        clear hs hB hb hval
        go_wp2
        go_ret
        exact hfin.out
end Go.Proofs.Ytpfbkmpjneclpaa
