/- Proves Rows.FnReadNextSaid: for every input the law FnReadNext returns true and leaves its arguments as they were. Conditions: none. -/
import Derived.Test.YtpfbkmpjneclpaaOpen
import Derived.Test.YtpfbkmpjneclpaaDrRN
import Derived.Test.YtpfbkmpjneclpaaRN
import Derived.Test.YtpfbkmpjneclpaaInts
namespace Go.Proofs.Ytpfbkmpjneclpaa.fnReadNext
open Go.ChangeShapes Go.WideShapes Go.ChangeAt Go.RowKit
set_option linter.unusedVariables false
def lowW : Nat → Int
  | 0 => 0
  | 1 => 1
  | 2 => 2
  | 3 => 4
  | 4 => 8
  | 5 => 16
  | _ => 32
theorem low_step {k : Nat} {v n : Int} (hk : k < 6) (h : lowW k ≤ v) (hv : 0 ≤ v) : lowW (k + 1) ≤ rnW n v n := by
  unfold rnW
  rw [if_pos rfl]
  rcases (show k = 0 ∨ k = 1 ∨ k = 2 ∨ k = 3 ∨ k = 4 ∨ k = 5 by omega) with rfl | rfl | rfl | rfl | rfl | rfl <;> simp only [lowW] at h ⊢ <;> omega
theorem rn_law {n v a : Int} (hv : 0 ≤ v) : 0 ≤ rnW n v a ∧ rnW n v a ≤ max 1 (2 * v) ∧ (a = n → 0 < rnW n v a) ∧ (¬ a = n → rnW n v a = 0) := by
  unfold rnW
  split <;> (refine ⟨?_, ?_, ?_, ?_⟩ <;> omega)
theorem bad_cases {n v a k : Int} (h : ¬ rnOk n v a k) : ahB n v = false ∨ (ahB n v = true ∧ a < 0) ∨ (ahB n v = true ∧ 0 ≤ a ∧ 100000 < a) ∨ (ahB n v = true ∧ 0 ≤ a ∧ a ≤ 100000 ∧ k < 1) ∨ (ahB n v = true ∧ 0 ≤ a ∧ a ≤ 100000 ∧ 1 ≤ k ∧ 200 < k) := by
  unfold rnOk at h
  rw [inB_iff, inB_iff] at h
  cases h0 : ahB n v
  · exact .inl rfl
  · rw [h0] at h
    by_cases h1 : a < 0
    · exact .inr (.inl ⟨rfl, h1⟩)
    · by_cases h2 : 100000 < a
      · exact .inr (.inr (.inl ⟨rfl, by omega, h2⟩))
      · by_cases h3 : k < 1
        · exact .inr (.inr (.inr (.inl ⟨rfl, by omega, by omega, h3⟩)))
        · exact .inr (.inr (.inr (.inr ⟨rfl, by omega, by omega, by omega, by
            have : ¬ (200 ≥ k) := fun h4 => h ⟨rfl, ⟨by omega, by omega⟩, by omega, by omega⟩
            omega⟩)))
set_option linter.unusedSimpArgs false in
set_option maxHeartbeats 8000000 in
theorem walk (A : Option Addr) (m cp : Nat) (w : World) (hb : BytesIn w A m) (hmc : m ≤ cp) (hcp : cp ≤ 9223372036854775807) :
    Calls Try.prog 6 #[.slice A m cp] w fun e w' => e = .returned (.bool true) ∧ Below w.heap.size w w' := by
  by_cases hbig : 1048576 < m
  · go_enter Try.func6, Try.ntmps6
    go_wp2
    go_ret
    exact ⟨rfl, Below.refl _ _⟩
  go_enter Try.func6, Try.ntmps6
  go_wp2_with fail
  refine (drawRN_any A m cp w hb hmc hcp).mono ?_
  rintro e w1 ⟨n, v, a, k, rfl, b1⟩
  have B3 := Lib.hid (Blk.new (w := w1) (t := 36) (cs := #[.int .i64 n, .int .i64 v]) rfl)
  have C1 := Lib.hid (b_alloc b1 (.cells #[.int .i64 n, .int .i64 v] 36))
  have hz1 := b1.size
  clear hb b1
  by_cases hok : rnOk n v a k
  · obtain ⟨e0, i1, i2⟩ := hok
    obtain ⟨n0, n1, hv⟩ := ahB_iff.1 e0
    obtain ⟨v0, v1⟩ := win_b hv
    obtain ⟨a0, a1⟩ := inB_iff.1 i1
    obtain ⟨k0, k1⟩ := inB_iff.1 i2
    have OK := Lib.hid (show rnOk n v a k from ⟨e0, i1, i2⟩)
    obtain ⟨N, hN⟩ : ∃ N, N = rnN a k := ⟨_, rfl⟩
    obtain ⟨q, hq⟩ : ∃ q, q = rnW n v a := ⟨_, rfl⟩
    have LW := Lib.hid (rn_law (n := n) (a := a) v0)
    rw [← hq] at LW
    have hwq : isWin q := by rw [hq]; exact rnW_win hv
    obtain ⟨q0, q1⟩ := win_b hwq
    have WQ := Lib.hid hwq
    obtain ⟨N0, N1⟩ := rnN_b (a := a) (c := k) a0 (by omega)
    rw [← hN] at N0 N1
    have HN := Lib.hid hN
    have HQ := Lib.hid hq
    have EQ := Lib.hid (ahB_iff.2 ⟨N0, N1, hwq⟩)
    clear hN hq hv hwq i1 i2
    go_wp2_with fail
    refine (implRN2_any n v a k _ OK.out).mono ?_
    unfold ValRN
    rw [← HN.out, ← HQ.out]
    rintro e w2 ⟨rfl, b2⟩
    replace B3 := Lib.hid ((blk_below b2 B3.out (by simp)).alloc (.cells #[.int .i64 N, .int .i64 q] 36))
    have C2 := Lib.hid (b_alloc (C1.out.trans (b2.mono (by simp; omega))) (.cells #[.int .i64 N, .int .i64 q] 36))
    have B6 := Lib.hid (Blk.new (w := w2) (t := 36) (cs := #[.int .i64 N, .int .i64 q]) rfl)
    have hz2 := b2.size
    rw [World.size_alloc] at hz2
    clear b2 C1
    obtain ⟨x0, x1, -, -⟩ := B3.out.two
    go_wp2_with fail
    clear x0 x1
    refine (specRN2_any n v a k _ OK.out).mono ?_
    unfold ValRN
    rw [← HN.out, ← HQ.out]
    rintro e w3 ⟨rfl, b3⟩
    replace B3 := Lib.hid ((blk_below b3 B3.out (by simp; omega)).alloc (.cells #[.int .i64 N, .int .i64 q] 36))
    replace B6 := Lib.hid ((blk_below b3 B6.out (by simp)).alloc (.cells #[.int .i64 N, .int .i64 q] 36))
    have C3 := Lib.hid (b_alloc (C2.out.trans (b3.mono (by simp; omega))) (.cells #[.int .i64 N, .int .i64 q] 36))
    have B8 := Lib.hid (Blk.new (w := w3) (t := 36) (cs := #[.int .i64 N, .int .i64 q]) rfl)
    have hz3 := b3.size
    rw [World.size_alloc] at hz3
    clear b3 C2
    obtain ⟨x0, x1, -, -⟩ := B3.out.two
    obtain ⟨y0, y1, -, -⟩ := B6.out.two
    obtain ⟨z0, z1, -, -⟩ := B8.out.two
    go_wp2_with fail
    clear x0 x1 y0 y1 z0 z1
    refine (specAhead_any n v _).mono ?_
    rintro e w4 ⟨rfl, b4⟩
    replace B3 := Lib.hid (blk_below b4 B3.out (by simp; omega))
    replace B6 := Lib.hid (blk_below b4 B6.out (by simp; omega))
    have C4 := Lib.hid (C3.out.trans (b4.mono (by simp; omega)))
    have hz4 := b4.size
    rw [World.size_alloc] at hz4
    clear b4 C3 B8
    obtain ⟨y0, y1, -, -⟩ := B6.out.two
    have B10 := Lib.hid (Blk.new (w := w4) (t := 36) (cs := #[.int .i64 N, .int .i64 q]) rfl)
    have K10 := Lib.hid (b_alloc (Below.refl w4.heap.size w4) (.cells #[.int .i64 N, .int .i64 q] 36))
    have L0 := Lib.hid (show lowW 0 ≤ q from q0)
    go_wp2
    clear y0 y1
    go_loopw [11] (fun y wr => ∃ (j : Nat) (N' W' : Int), y = .int .i64 j ∧ j ≤ 6 ∧ 0 ≤ N' ∧ N' ≤ 100000 ∧ Hid (lowW j ≤ W') ∧ Hid (isWin W') ∧ Hid (Blk wr w4.heap.size 36 #[.int .i64 N', .int .i64 W']) ∧ Hid (Below w4.heap.size w4 wr)) (fun y _ => 6 - (intOf y).toNat)
    case atStart => exact ⟨0, N, q, rfl, by omega, N0, N1, L0, WQ, B10, K10⟩
    case round =>
      obtain ⟨j, N', W', rfl, hj, M0, M1, HL, HW, BB, KB⟩ := hrel
      clear B10 K10 L0
      by_cases hlt : j < 6
      · have hOK := Lib.hid (show rnOk N' W' N' 1 from ⟨ahB_iff.2 ⟨M0, M1, HW.out⟩, inB_iff.2 ⟨M0, M1⟩, by decide⟩)
        obtain ⟨N2, hN2⟩ : ∃ N2, N2 = rnN N' 1 := ⟨_, rfl⟩
        obtain ⟨W2, hW2⟩ : ∃ W2, W2 = rnW N' W' N' := ⟨_, rfl⟩
        have HL2 := Lib.hid (show lowW (j + 1) ≤ W2 by rw [hW2]; exact low_step hlt HL.out (win_b HW.out).1)
        have HW2 := Lib.hid (show isWin W2 by rw [hW2]; exact rnW_win HW.out)
        obtain ⟨P0, P1⟩ := rnN_b (a := N') (c := 1) M0 (by omega)
        rw [← hN2] at P0 P1
        have HN2 := Lib.hid hN2
        have HE2 := Lib.hid hW2
        clear hN2 hW2 HL HW
        obtain ⟨x0, x1, -, -⟩ := BB.out.two
        have hsz := BB.out.lt
        go_wp2_with fail
        clear x0 x1
        refine (implRN2_any N' W' N' 1 _ hOK.out).mono ?_
        unfold ValRN
        rw [← HN2.out, ← HE2.out]
        rintro e w6 ⟨rfl, b6⟩
        have BB2 := Lib.hid (blk_below b6 BB.out hsz)
        have KB2 := Lib.hid (KB.out.trans (b6.mono (by omega)))
        clear b6 BB KB hOK HN2 HE2 hsz
        obtain ⟨x0, x1, f0, f1⟩ := BB2.out.two
        have BB3 := Lib.hid ((BB2.out.set 0 (.int .i64 N2)).set 1 (.int .i64 W2))
        have KB3 := Lib.hid ((KB2.out.setCell (p := ⟨w4.heap.size, 0, none⟩) (Nat.le_refl _) (.int .i64 N2)).setCell (p := ⟨w4.heap.size, 1, none⟩) (Nat.le_refl _) (.int .i64 W2))
        clear BB2 KB2
        go_wp2
        go_roundw
        case rel => exact ⟨j + 1, N2, W2, by go_num, by omega, P0, P1, HL2, HW2, BB3, KB3⟩
        case measure => simp [intOf]; omega
      · obtain rfl : j = 6 := by omega
        have hW' : W' = 32 := by have h1 := HL.out; have h2 := win_b HW.out; simp only [lowW] at h1; omega
        subst hW'
        clear HL HW
        replace B3 := Lib.hid (blk_below KB.out B3.out (by omega))
        replace B6 := Lib.hid (blk_below KB.out B6.out (by omega))
        have hsz := BB.out.lt
        have C5 := Lib.hid (C4.out.trans (KB.out.mono C4.out.size))
        clear KB C4
        obtain ⟨y0, y1, -, -⟩ := B6.out.two
        go_wp2_with fail
        clear y0 y1
        refine (implAhead_any N q _).mono ?_
        rw [EQ.out]
        rintro e w7 ⟨rfl, b7⟩
        replace B3 := Lib.hid (blk_below b7 B3.out (by omega))
        replace B6 := Lib.hid (blk_below b7 B6.out (by omega))
        replace BB := Lib.hid (blk_below b7 BB.out (by omega))
        have C6 := Lib.hid (C5.out.trans (b7.mono C5.out.size))
        clear b7 C5
        obtain ⟨x0, x1, -, -⟩ := B3.out.two
        obtain ⟨y0, y1, -, -⟩ := B6.out.two
        obtain ⟨z0, z1, -, -⟩ := BB.out.two
        obtain ⟨l0, l1, l2, l3⟩ := LW.out
        clear B3 B6 BB LW HN HQ EQ OK WQ
        by_cases han : a = n
        · have qp := l2 han
          subst han
          clear l2 l3
          go_wp2
          all_goals (go_ret; exact ⟨rfl, C6.out⟩)
        · have qz := l3 han
          have he : (a == n) = false := by rw [beq_eq_false_iff_ne]; exact han
          subst qz
          clear l2 l3
          go_wp2
          all_goals (go_ret; exact ⟨rfl, C6.out⟩)
  · have NOK := Lib.hid hok
    clear hok
    go_wp2_with fail
    refine (implRN2_bad n v a k _ NOK.out).mono ?_
    rintro e w2 ⟨rfl, b2⟩
    replace B3 := Lib.hid ((blk_below b2 B3.out (by simp)).alloc (.cells #[.int .i64 0, .int .i64 0] 36))
    have C2 := Lib.hid (b_alloc (C1.out.trans (b2.mono (by simp; omega))) (.cells #[.int .i64 0, .int .i64 0] 36))
    have B6 := Lib.hid (Blk.new (w := w2) (t := 36) (cs := #[.int .i64 0, .int .i64 0]) rfl)
    have hz2 := b2.size
    rw [World.size_alloc] at hz2
    clear b2 C1
    obtain ⟨x0, x1, -, -⟩ := B3.out.two
    go_wp2_with fail
    clear x0 x1
    refine (specRN_bad n v a k _ NOK.out).mono ?_
    rintro e w3 ⟨rfl, b3⟩
    replace B3 := Lib.hid ((blk_below b3 B3.out (by simp; omega)).alloc (.cells #[.int .i64 0, .int .i64 0] 36))
    replace B6 := Lib.hid ((blk_below b3 B6.out (by simp)).alloc (.cells #[.int .i64 0, .int .i64 0] 36))
    have C3 := Lib.hid (b_alloc (C2.out.trans (b3.mono (by simp; omega))) (.cells #[.int .i64 0, .int .i64 0] 36))
    have B8 := Lib.hid (Blk.new (w := w3) (t := 36) (cs := #[.int .i64 0, .int .i64 0]) rfl)
    have hz3 := b3.size
    rw [World.size_alloc] at hz3
    clear b3 C2
    obtain ⟨x0, x1, -, -⟩ := B3.out.two
    obtain ⟨y0, y1, -, -⟩ := B6.out.two
    obtain ⟨z0, z1, -, -⟩ := B8.out.two
    go_wp2_with fail
    clear x0 x1 y0 y1 z0 z1
    refine (specAhead_any n v _).mono ?_
    rintro e w4 ⟨rfl, b4⟩
    replace B6 := Lib.hid (blk_below b4 B6.out (by simp; omega))
    have C4 := Lib.hid (C3.out.trans (b4.mono (by simp; omega)))
    clear b4 C3 B3 B8
    obtain ⟨y0, y1, -, -⟩ := B6.out.two
    have cs := bad_cases NOK.out
    clear B6 NOK
    rcases cs with e0 | ⟨e0, e1⟩ | ⟨e0, e1, e2⟩ | ⟨e0, e1, e2, e3⟩ | ⟨e0, e1, e2, e3, e4⟩
    all_goals
      go_wp2_with (go_at_call 28; refine (alive_any _).mono ?_; rintro e w7 ⟨rfl, hb7⟩)
      go_ret
      exact ⟨rfl, C4.out.trans (hb7.mono C4.out.size)⟩

set_option maxRecDepth 100000 in
theorem lifted (os : Os) (started : os.Started) (H : Type) (enc : TypeId × Value → H) :
    ReturnsInHanded {} Try.checked os 6 .any (Rows.fnReadNextSpec.pre6 enc Try.prog Try.f6 Rows.fnReadNextRow.domain false) (Rows.fnReadNextSpec.post enc Try.prog Try.f6 false true false false) := by
  refine returnsInHanded_of_change (C := Try.checked) own started (by kernel_rfl) Try.func6
    (ChangeSpec.witness6 (enc := enc) (C := Try.checked) false ⟨#[], #[.slice none 0 0], []⟩ 8 (by kernel_rfl) (by kernel_rfl) (by kernel_rfl) (by kernel_rfl)) ?_
  intro W base args ds gs before hval0 hW hcnd _
  have hval : ∀ (j : Nat) t v, Try.f6.params[j]? = some t → args[j]? = some v → Value.okWide Try.prog W .any base t v := hval0
  have hW' := hW
  obtain ⟨p, q, hA0, hV, rfl, hfz, hnd⟩ := hW
  have hA : DataW.TrodAll enc Try.prog W 0 (fun _ => true) true Try.f6.params.toList args.toList ds p := hA0
  rw [Try.params6] at hA hval
  obtain ⟨v0, vs0, d0, ds0, p0, q0, hargs, rfl, rfl, h0, r0⟩ := trodAll_cons hA
  obtain ⟨rfl, rfl, rfl⟩ := trodAll_nil r0
  obtain rfl : args = #[v0] := by cases args; simp_all
  obtain ⟨rfl, rfl⟩ := trodVars_none hV
  have k0 := h0
  have lt0 : ∀ x ∈ p0, x.block < W.heap.size := by obtain ⟨m, hm⟩ := k0; exact DataW.trod_lt m _ _ _ hm
  obtain ⟨a0, n0, c0, rfl, ok0, le0, cl0⟩ := open_bytes (hval 0 34 v0 rfl rfl) h0
  clear hA0 hval0
  refine (walk a0 n0 c0 W ok0 le0 cl0).mono fun e W' ⟨he, bel⟩ => ?_
  subst he
  exact ⟨_, rfl, _, _, _, [], _, [], hW', trodAll_mk1 (shut_bool Try.underlying4 _), (trodAll_cons_mk (Below.trod laidOut (by kernel_rfl) (of_decide_eq_true (by kernel_rfl)) k0 bel lt0) trodAll_mk0), rfl, bel.frame _, fun h => by cases h⟩

theorem proved : Rows.FnReadNextSaid :=
  OpenClaim.holds_of_wide 6 Try.f6 rfl rfl rfl rfl rfl rfl rfl ⟨rfl, rfl, rfl, rfl, rfl⟩ rfl rfl rfl rfl rfl (by kernel_rfl) Try.func6 (by kernel_rfl)
    (of_decide_eq_true (by kernel_rfl)) (by unfold Func.isWrapper; first | (rw [if_pos (by decide +kernel)]; kernel_rfl) | (rw [if_neg (by decide +kernel)]; exact ⟨rfl, rfl⟩))
    (fun os started H enc _ => lifted os started H enc)
#print axioms proved
end Go.Proofs.Ytpfbkmpjneclpaa.fnReadNext
