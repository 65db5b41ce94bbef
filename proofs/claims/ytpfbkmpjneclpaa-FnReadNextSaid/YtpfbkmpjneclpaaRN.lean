/- Contracts of ReadNext, the program's and the reference's, at any arguments. -/
import Derived.Test.YtpfbkmpjneclpaaHitsS
namespace Go.Proofs.Ytpfbkmpjneclpaa
open Go.RowKit
set_option linter.unusedVariables false

/-- The arguments of ReadNext are valid. -/
def rnOk (n v a c : Int) : Prop := ahB n v = true ∧ inB a 0 100000 = true ∧ inB c 1 200 = true
def ZeroRN (w : World) (e : Ending) (w' : World) : Prop := e = .returned (.tuple #[.agg #[.int .i64 0, .int .i64 0], .int .i64 0]) ∧ Below w.heap.size w w'
def ValRN (n v a c : Int) (w : World) (e : Ending) (w' : World) : Prop := e = .returned (.tuple #[.agg #[.int .i64 (rnN a c), .int .i64 (rnW n v a)], .int .i64 (rnW n v a)]) ∧ Below w.heap.size w w'

theorem specRN_bad (n v a c : Int) (w : World) (h : ¬ rnOk n v a c) :
    Calls Try.prog 26 #[.agg #[.int .i64 n, .int .i64 v], .int .i64 a, .int .i64 c] w (ZeroRN w) := by
  have key : ∀ w1 : World, Below (w.heap.size + 2) ((w.alloc (.cells #[.int .i64 n, .int .i64 v] 36)).alloc (.cells #[.int .i64 0, .int .i64 0] 36)) w1 → w1.cell? ⟨w.heap.size + 1, 0, none⟩ = some (.int .i64 0) ∧ w1.cell? ⟨w.heap.size + 1, 1, none⟩ = some (.int .i64 0) ∧ w1.frozen? ⟨w.heap.size + 1, 0, none⟩ = false ∧ w1.frozen? ⟨w.heap.size + 1, 1, none⟩ = false ∧ Hid (ZeroRN w (.returned (.tuple #[.agg #[.int .i64 0, .int .i64 0], .int .i64 0])) ((w1.setCell ⟨w.heap.size + 1, 0, none⟩ (.int .i64 0)).setCell ⟨w.heap.size + 1, 1, none⟩ (.int .i64 0))) := fun w1 b1 => by
    have K1 : Blk w1 (w.heap.size + 1) 36 #[.int .i64 0, .int .i64 0] := blk_below b1 (Blk.new (by simp)) (by omega)
    obtain ⟨y0, y1, g0, g1⟩ := K1.two
    have C1 := (b_alloc (b_alloc (Below.refl w.heap.size w) (.cells #[.int .i64 n, .int .i64 v] 36)) (.cells #[.int .i64 0, .int .i64 0] 36)).trans (b1.mono (by omega))
    exact ⟨y0, y1, g0, g1, Lib.hid ⟨rfl, (C1.setCell (by simp) _).setCell (by simp) _⟩⟩
  cases h0 : ahB n v
  · clear h
    go_enter Try.func26, Try.ntmps26
    go_wp2_with fail
    refine (specAhead_any n v _).mono ?_
    rintro e w1 ⟨rfl, b1⟩
    obtain ⟨y0, y1, g0, g1, Z⟩ := key w1 (by simpa using b1)
    clear key b1
    go_wp2
    exact bodyPost_ret (v := .tuple #[.agg #[.int .i64 0, .int .i64 0], .int .i64 0]) (by simp [results, Try.results26, go_sem, *]) rfl Z.out
  · cases h1 : inB a 0 100000
    · clear h
      go_enter Try.func26, Try.ntmps26
      go_wp2_with fail
      refine (specAhead_any n v _).mono ?_
      rintro e w1 ⟨rfl, b1⟩
      obtain ⟨y0, y1, g0, g1, Z⟩ := key w1 (by simpa using b1)
      clear key b1
      go_wp2_with (go_at_call 42; refine (l1In_any _ _ _ _).mono ?_; rintro e w' ⟨rfl, rfl⟩)
      exact bodyPost_ret (v := .tuple #[.agg #[.int .i64 0, .int .i64 0], .int .i64 0]) (by simp [results, Try.results26, go_sem, *]) rfl Z.out
    · cases h2 : inB c 1 200
      · clear h
        go_enter Try.func26, Try.ntmps26
        go_wp2_with fail
        refine (specAhead_any n v _).mono ?_
        rintro e w1 ⟨rfl, b1⟩
        obtain ⟨y0, y1, g0, g1, Z⟩ := key w1 (by simpa using b1)
        clear key b1
        go_wp2_with (go_at_call 42; refine (l1In_any _ _ _ _).mono ?_; rintro e w' ⟨rfl, rfl⟩)
        exact bodyPost_ret (v := .tuple #[.agg #[.int .i64 0, .int .i64 0], .int .i64 0]) (by simp [results, Try.results26, go_sem, *]) rfl Z.out
      · exact absurd ⟨h0, h1, h2⟩ h

theorem implRN2_bad (n v a c : Int) (w : World) (h : ¬ rnOk n v a c) :
    Calls Try.prog 25 #[.agg #[.int .i64 n, .int .i64 v], .int .i64 a, .int .i64 c] w (ZeroRN w) := by
  have key : ∀ w1 : World, Below (w.heap.size + 2) ((w.alloc (.cells #[.int .i64 n, .int .i64 v] 36)).alloc (.cells #[.int .i64 0, .int .i64 0] 36)) w1 → w1.cell? ⟨w.heap.size + 1, 0, none⟩ = some (.int .i64 0) ∧ w1.cell? ⟨w.heap.size + 1, 1, none⟩ = some (.int .i64 0) ∧ w1.frozen? ⟨w.heap.size + 1, 0, none⟩ = false ∧ w1.frozen? ⟨w.heap.size + 1, 1, none⟩ = false ∧ Hid (ZeroRN w (.returned (.tuple #[.agg #[.int .i64 0, .int .i64 0], .int .i64 0])) ((w1.setCell ⟨w.heap.size + 1, 0, none⟩ (.int .i64 0)).setCell ⟨w.heap.size + 1, 1, none⟩ (.int .i64 0))) := fun w1 b1 => by
    have K1 : Blk w1 (w.heap.size + 1) 36 #[.int .i64 0, .int .i64 0] := blk_below b1 (Blk.new (by simp)) (by omega)
    obtain ⟨y0, y1, g0, g1⟩ := K1.two
    have C1 := (b_alloc (b_alloc (Below.refl w.heap.size w) (.cells #[.int .i64 n, .int .i64 v] 36)) (.cells #[.int .i64 0, .int .i64 0] 36)).trans (b1.mono (by omega))
    exact ⟨y0, y1, g0, g1, Lib.hid ⟨rfl, (C1.setCell (by simp) _).setCell (by simp) _⟩⟩
  cases h0 : ahB n v
  · clear h
    go_enter Try.func25, Try.ntmps25
    go_wp2_with fail
    refine (implAhead_any n v _).mono ?_
    rintro e w1 ⟨rfl, b1⟩
    obtain ⟨y0, y1, g0, g1, Z⟩ := key w1 (by simpa using b1)
    clear key b1
    go_wp2
    exact bodyPost_ret (v := .tuple #[.agg #[.int .i64 0, .int .i64 0], .int .i64 0]) (by simp [results, Try.results25, go_sem, *]) rfl Z.out
  · cases h1 : inB a 0 100000
    · clear h
      go_enter Try.func25, Try.ntmps25
      go_wp2_with fail
      refine (implAhead_any n v _).mono ?_
      rintro e w1 ⟨rfl, b1⟩
      obtain ⟨y0, y1, g0, g1, Z⟩ := key w1 (by simpa using b1)
      clear key b1
      go_wp2_with (go_at_call 44; refine (within_any _ _ _ _).mono ?_; rintro e w' ⟨rfl, rfl⟩)
      exact bodyPost_ret (v := .tuple #[.agg #[.int .i64 0, .int .i64 0], .int .i64 0]) (by simp [results, Try.results25, go_sem, *]) rfl Z.out
    · cases h2 : inB c 1 200
      · clear h
        go_enter Try.func25, Try.ntmps25
        go_wp2_with fail
        refine (implAhead_any n v _).mono ?_
        rintro e w1 ⟨rfl, b1⟩
        obtain ⟨y0, y1, g0, g1, Z⟩ := key w1 (by simpa using b1)
        clear key b1
        go_wp2_with (go_at_call 44; refine (within_any _ _ _ _).mono ?_; rintro e w' ⟨rfl, rfl⟩)
        exact bodyPost_ret (v := .tuple #[.agg #[.int .i64 0, .int .i64 0], .int .i64 0]) (by simp [results, Try.results25, go_sem, *]) rfl Z.out
      · exact absurd ⟨h0, h1, h2⟩ h

theorem specRN2_any (n v a c : Int) (w : World) (h : rnOk n v a c) :
    Calls Try.prog 26 #[.agg #[.int .i64 n, .int .i64 v], .int .i64 a, .int .i64 c] w (ValRN n v a c w) := by
  obtain ⟨h0, h1, h2⟩ := h
  obtain ⟨a0, a1, a2⟩ := ahB_iff.1 h0
  exact specRN_any n v a c w ⟨a0, a1⟩ a2 (inB_iff.1 h1) (inB_iff.1 h2)
set_option maxHeartbeats 1000000 in
theorem implRN2_any (n v a c : Int) (w : World) (h : rnOk n v a c) :
    Calls Try.prog 25 #[.agg #[.int .i64 n, .int .i64 v], .int .i64 a, .int .i64 c] w (ValRN n v a c w) := by
  obtain ⟨h0, i1, i2⟩ := h
  obtain ⟨a0, a1, a2⟩ := ahB_iff.1 h0
  obtain ⟨v0, v1⟩ := win_b a2
  obtain ⟨c0, c1⟩ := inB_iff.1 i1
  obtain ⟨d0, d1⟩ := inB_iff.1 i2
  clear a2
  go_enter Try.func25, Try.ntmps25
  go_wp2_with fail
  refine (implAhead_any n v _).mono ?_
  rintro e w1 ⟨rfl, b1⟩
  have K0 := Lib.hid (show Blk w1 w.heap.size 36 #[.int .i64 n, .int .i64 v] from blk_below b1 ((Blk.new rfl).alloc _) (by simp; omega))
  have K1 := Lib.hid (show Blk w1 (w.heap.size + 1) 36 #[.int .i64 0, .int .i64 0] from blk_below b1 (Blk.new (by simp)) (by simp))
  have C1 := Lib.hid ((b_alloc (b_alloc (Below.refl w.heap.size w) (.cells #[.int .i64 n, .int .i64 v] 36)) (.cells #[.int .i64 0, .int .i64 0] 36)).trans (b1.mono (by simp; omega)))
  obtain ⟨x0, x1, f0, f1⟩ := K0.out.two
  clear b1 K0
  go_wp2_with (first
      | (go_at_call 44; refine (within_any _ _ _ _).mono ?_; rintro e w' ⟨rfl, rfl⟩)
      | (go_at_call 50; refine (implRN_any n v a c _ (by omega) (by omega) (by omega)).mono ?_; rintro e w2 ⟨rfl, b2⟩))
  obtain ⟨N, hN⟩ : ∃ N, N = rnN a c := ⟨_, rfl⟩
  obtain ⟨q, hq⟩ : ∃ q, q = rnW n v a := ⟨_, rfl⟩
  rw [← hN, ← hq]
  have HN := Lib.hid hN
  have HQ := Lib.hid hq
  clear hN hq
  have hz := b2.size
  have hz1 := K1.out.lt
  have K8 := Lib.hid (Blk.new (w := w2) (t := 36) (cs := #[.int .i64 N, .int .i64 q]) rfl)
  have K6 := Lib.hid ((blk_below b2 K1.out hz1).alloc (.cells #[.int .i64 N, .int .i64 q] 36))
  have C2 := Lib.hid (b_alloc (C1.out.trans (b2.mono C1.out.size)) (.cells #[.int .i64 N, .int .i64 q] 36))
  clear b2 C1 K1 x0 x1 f0 f1
  obtain ⟨p8, hp8⟩ : ∃ p, p = w2.heap.size := ⟨_, rfl⟩
  have hne : ¬ (w.heap.size + 1 = p8) := by omega
  have hne2 : ¬ (p8 = w.heap.size + 1) := by omega
  clear hz hz1
  rw [← hp8] at K8 ⊢
  generalize hu : w2.alloc (.cells #[.int .i64 N, .int .i64 q] 36) = u at *
  clear hu hp8
  obtain ⟨x0, x1, -, -⟩ := K8.out.two
  obtain ⟨y0, y1, g0, g1⟩ := K6.out.two
  have Z := Lib.hid (show ValRN n v a c w (.returned (.tuple #[.agg #[.int .i64 N, .int .i64 q], .int .i64 q])) ((u.drew.setCell ⟨w.heap.size + 1, 0, none⟩ (.int .i64 N)).setCell ⟨w.heap.size + 1, 1, none⟩ (.int .i64 q)) from
    ⟨by rw [HN.out, HQ.out], ((b_drew C2.out).setCell (by simp) _).setCell (by simp) _⟩)
  clear K8 K6 C2
  go_region
  all_goals
    go_wp2
    exact bodyPost_ret (v := .tuple #[.agg #[.int .i64 N, .int .i64 q], .int .i64 q]) (by simp [results, Try.results25, go_sem, *]) rfl Z.out
end Go.Proofs.Ytpfbkmpjneclpaa
