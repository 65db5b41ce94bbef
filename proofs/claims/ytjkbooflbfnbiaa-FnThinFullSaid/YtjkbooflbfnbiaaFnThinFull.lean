/- Proves Rows.FnThinFullSaid: for every input the law FnThinFull returns true and leaves its arguments as they were. Conditions: none. -/
import Derived.Test.YtjkbooflbfnbiaaOpen
import Derived.Test.YtjkbooflbfnbiaaNewLaw
import Derived.Test.YtjkbooflbfnbiaaThinY
import Derived.Test.YtjkbooflbfnbiaaFull
import Derived.Deep.RegionHeld3
namespace Go.Proofs.Ytjkbooflbfnbiaa.fnThinFull
open Go.ChangeShapes Go.WideShapes Go.ChangeAt Go.RowKit
set_option linter.unusedVariables false
theorem full_split (n p : Int) : (∃ N M : Nat, n = N ∧ p = M ∧ N ≤ 64 ∧ M ≤ 64 ∧ newW n p = fillW N 0 0 ∧ newP n p = fillP M 0) ∨ (¬ (0 ≤ n ∧ n ≤ 64 ∧ 0 ≤ p ∧ p ≤ 64) ∧ newW n p = [] ∧ newP n p = []) := by
  cases h : (inB n 0 64 && inB p 0 64)
  · right
    refine ⟨?_, by simp [newW, h], by simp [newP, h]⟩
    rintro ⟨a, b, c, d⟩
    rw [inB_iff.2 ⟨a, b⟩, inB_iff.2 ⟨c, d⟩] at h
    cases h
  · left
    have h' := h
    simp only [Bool.and_eq_true, inB_iff] at h'
    exact ⟨n.toNat, p.toNat, by omega, by omega, by omega, by omega, by rw [← (new_fill n.toNat p.toNat).1]; simp [newW, h], by rw [← (new_fill n.toNat p.toNat).2]; simp [newP, h]⟩

set_option maxHeartbeats 4000000 in
theorem walk (A : Option Addr) (m cp : Nat) (w : World) (hb : BytesIn w A m) (hmc : m ≤ cp) (hcp : cp ≤ 9223372036854775807) :
    Calls Try.prog 10 #[.slice A m cp] w fun e w' => e = .returned (.bool true) ∧ Below w.heap.size w w' := by
  by_cases hbig : 1048576 < m
  · go_enter Try.func10, Try.ntmps10
    go_wp2
    go_ret
    exact ⟨rfl, Below.refl _ _⟩
  · go_enter Try.func10, Try.ntmps10
    go_wp2_with fail
    refine (drawNew_any A m cp w hb hmc hcp).mono ?_
    rintro e w1 ⟨n, p, rfl, n0, n1, p0, p1, b1⟩
    have B1 := Lib.hid b1
    clear b1 hb
    have hsplit := Lib.hid (full_split n p)
    go_wp2_with fail
    refine (implNew_any n p _).mono ?_
    rintro e w2 ⟨v2, rfl, o2, b2⟩
    have O2 := Lib.hid o2
    have C2 := Lib.hid (B1.out.trans (b2.mono B1.out.size))
    clear b2 B1
    obtain ⟨W, hW⟩ : ∃ W, W = newW n p := ⟨_, rfl⟩
    obtain ⟨P, hP⟩ : ∃ P, P = newP n p := ⟨_, rfl⟩
    have hsp := Lib.hid (fun w => specNew_any n p w)
    rw [← hW, ← hP] at hsp O2 hsplit o2
    clear hW hP
    have hl : W.length ≤ 64 ∧ P.length ≤ 64 := by
      rcases hsplit.out with ⟨N, M, _, _, hN, hM, h1, h2⟩ | ⟨_, h1, h2⟩
      · rw [h1, h2]; simp; omega
      · rw [h1, h2]; simp
    obtain ⟨A2, c2, B2, d2, rfl, _⟩ := o2
    have X2 := Lib.hid (show Blk (w2.alloc (.cells #[.slice A2 W.length c2, .slice B2 P.length d2] 27)) w2.heap.size 27 #[.slice A2 W.length c2, .slice B2 P.length d2] from Blk.new rfl)
    go_wp2
    go_region_held3 (fun w' => w'.cell? ⟨w2.heap.size, 0, none⟩ = some (.slice A2 W.length c2) ∧ w'.cell? ⟨w2.heap.size, 1, none⟩ = some (.slice B2 P.length d2)) (go_keep)
      (first
        | (go_at_call 17; refine (hsp.out _).mono ?_; rintro e w3 ⟨v3, rfl, o3, b3⟩; obtain ⟨x0, x1, f0, f1⟩ := (blk_below b3 X2.out.drew X2.out.lt).two)
        | (go_at_call 31; refine (sameThin_same _ _ W P _ ((O2.out.below (b_alloc (Below.refl _ _) _)).drew.below b3).read o3.read (by omega) (by omega)).mono ?_; rintro e w4 ⟨rfl, b4⟩; obtain ⟨x0, x1, f0, f1⟩ := (blk_below b4 (blk_below b3 X2.out.drew X2.out.lt) (Nat.lt_of_lt_of_le X2.out.lt b3.size)).two))
    have X4 := Lib.hid (show Blk w4 w2.heap.size 27 #[.slice A2 W.length c2, .slice B2 P.length d2] from blk_below b4 (blk_below b3 X2.out.drew X2.out.lt) (Nat.lt_of_lt_of_le X2.out.lt b3.size))
    have hz2 : w2.heap.size + 1 ≤ w3.heap.size := by have := b3.size; simpa using this
    have C4 := Lib.hid (((b_drew (b_alloc C2.out _)).trans (b3.mono (by have := C2.out.size; simp; omega))).trans (b4.mono (by have := C2.out.size; omega)))
    have O4 := Lib.hid (((O2.out.below (b_alloc (Below.refl _ _) _)).drew.below b3).below b4)
    have hg1 : w.heap.size ≤ w2.heap.size := C2.out.size
    clear b3 b4 o3 X2 C2 O2 hsp hz2
    rcases hsplit.out with ⟨N, M, rfl, rfl, hN, hM, h1, h2⟩ | ⟨hnot, h1, h2⟩
    · have hlW : W.length = N := by rw [h1]; simp
      have hlP : P.length = M := by rw [h2]; simp
      have HW := Lib.hid h1
      have HP := Lib.hid h2
      clear h1 h2 hsplit hl
      simp only [hlW, hlP] at X4 O4 x0 x1 ⊢
      have me : ((M : Int) == M) = true := by simp
      have me2 : ((N : Int) == N) = true := by simp
      by_cases hn1 : N = 0
      · subst hn1
        go_wp2_with (go_at_call 29; refine (alive_any _).mono ?_; rintro e w5 ⟨rfl, hb5⟩)
        go_ret
        exact ⟨rfl, C4.out.trans (hb5.mono C4.out.size)⟩
      · have hn2 : 0 < N := by omega
        have hn3 : ¬ (N : Int) < 1 := by omega
        clear hn1
        go_wp2
        go_loopw [6, 7] (fun x y wr => ∃ (k : Nat) (A c B d : _) (W P : List Int) (lo hi : Nat), k ≤ N ∧ x = .int .i64 (min k M : Nat) ∧ y = .int .i64 k ∧ W.length = N ∧ P.length = M ∧ Hid (W = fillW N 0 (min k M)) ∧ Hid (P = fillP M (min k M)) ∧ (hi ≤ w2.heap.size ∨ w2.heap.size + 1 ≤ lo) ∧ Hid (Blk wr w2.heap.size 27 #[.slice A N c, .slice B M d]) ∧ Hid (ThinO lo hi wr (.agg #[.slice A N c, .slice B M d]) W P) ∧ Hid (Below w.heap.size w wr)) (fun _ y _ => N - (intOf y).toNat)
        case atStart => exact ⟨0, A2, c2, B2, d2, W, P, _, _, Nat.zero_le _, by rw [Nat.zero_min]; rfl, rfl, hlW, hlP, Lib.hid (by simpa using HW.out), Lib.hid (by simpa using HP.out), .inl (Nat.le_refl _), X4, O4, C4⟩
        case round =>
          obtain ⟨k, A5, c5, B5, d5, W5, P5, lo, hi, hk, rfl, rfl, lW5, lP5, HW5, HP5, hlh, X5, O5, C5⟩ := hrel
          clear HW HP X4 O4 C4 hlW hlP
          rcases Nat.lt_or_ge k N with hkn | hkn
          · have hstep := Lib.hid (show wrV W5 P5 k 9 = (fillW N 0 (min (k + 1) M), fillP M (min (k + 1) M), decide (k < M)) from by rw [HW5.out, HP5.out]; exact fill_step hN hM hkn)
            obtain ⟨x0, x1, f0, f1⟩ := X5.out.two
            go_wp2_with fail
            refine (implWrite_any _ W5 P5 k 9 _ O5.out.read (by omega) (by omega)).mono ?_
            rintro e w6 ⟨v6, rfl, o6, b6⟩
            rw [hstep.out] at o6
            rw [hstep.out]
            have O6 := Lib.hid o6
            obtain ⟨A6, c6, B6, d6, rfl, _⟩ := o6
            have X6 := Lib.hid (show Blk w6 w2.heap.size 27 #[.slice A5 N c5, .slice B5 M d5] from blk_below b6 X5.out X5.out.lt)
            have C6 := Lib.hid (C5.out.trans (b6.mono C5.out.size))
            have hz := b6.size
            have hz5 := X5.out.lt
            have xl := X6.out.lt
            clear b6 x0 x1 f0 f1 X5 C5 O5 HW5 HP5 hstep
            simp only [fillW_len, fillP_len] at *
            obtain ⟨x0, x1, f0, f1⟩ := X6.out.two
            have X7 := Lib.hid (show Blk (((w6.setCell ⟨w2.heap.size, 0, none⟩ (.slice A6 N c6)).setCell ⟨w2.heap.size, 1, none⟩ (.slice B6 M d6)).alloc (.cells #[.slice A6 N c6, .slice B6 M d6] 27)) w2.heap.size 27 #[.slice A6 N c6, .slice B6 M d6] from ((X6.out.set 0 _).set 1 _).alloc _)
            have C7 := Lib.hid (show Below w.heap.size w (((w6.setCell ⟨w2.heap.size, 0, none⟩ (.slice A6 N c6)).setCell ⟨w2.heap.size, 1, none⟩ (.slice B6 M d6)).alloc (.cells #[.slice A6 N c6, .slice B6 M d6] 27)) from b_alloc ((C6.out.setCell (p := ⟨w2.heap.size, 0, none⟩) hg1 _).setCell (p := ⟨w2.heap.size, 1, none⟩) hg1 _) _)
            have O7 := Lib.hid (show ThinO wr.heap.size w6.heap.size (((w6.setCell ⟨w2.heap.size, 0, none⟩ (.slice A6 N c6)).setCell ⟨w2.heap.size, 1, none⟩ (.slice B6 M d6)).alloc (.cells #[.slice A6 N c6, .slice B6 M d6] 27)) (.agg #[.slice A6 N c6, .slice B6 M d6]) (fillW N 0 (min (k + 1) M)) (fillP M (min (k + 1) M)) from by
              have := (O6.out.turn (((Turn.refl w2.heap.size (w2.heap.size + 1) _).setCell (by simp) (by simp) (p := ⟨w2.heap.size, 0, none⟩) (.slice A6 N c6)).setCell (by simp) (by simp) (p := ⟨w2.heap.size, 1, none⟩) (.slice B6 M d6)) (.inl (by omega))).below (b_alloc (Below.refl _ _) (.cells #[.slice A6 N c6, .slice B6 M d6] 27))
              simpa using this)
            clear X6 C6 O6
            by_cases hkm : k < M
            · have e0 : ((min k M : Nat) : Int) = k := by omega
              have e1 : ((min (k + 1) M : Nat) : Int) = k + 1 := by omega
              have d1 : decide (k < M) = true := by simpa using hkm
              have d2 : IntKind.i64.wrap ((k : Int) + 1) = (k : Int) + 1 := IntWalk.i64_in _ (by omega)
              rw [e0, d1]
              go_wp2
              go_roundw
              case rel => exact ⟨k + 1, A6, c6, B6, d6, _, _, wr.heap.size, w6.heap.size, by omega, by rw [e1], by go_num, by simp, by simp, Lib.hid rfl, Lib.hid rfl, .inr (by omega), X7, O7, C7⟩
              case measure => simp [intOf]; omega
            · have e0 : min k M = M := by omega
              have e1 : min (k + 1) M = M := by omega
              have d1 : decide (k < M) = false := by simpa using hkm
              rw [e0, d1]
              go_wp2
              go_roundw
              case rel => exact ⟨k + 1, A6, c6, B6, d6, _, _, wr.heap.size, w6.heap.size, by omega, by rw [e1], by go_num, by simp, by simp, Lib.hid rfl, Lib.hid rfl, .inr (by omega), X7, O7, C7⟩
              case measure => simp [intOf]; omega
          · obtain rfl : k = N := by omega
            obtain ⟨x0, x1, f0, f1⟩ := X5.out.two
            have hfin := Lib.hid (fun h => show (wrV (trimW W5 P5 0) (trimP W5 P5 0) ((k : Int) - 1) 7).2.2 = true from by rw [HW5.out, HP5.out]; exact fill_end hN hM hn2 h)
            go_wp2_with fail
            refine (implTrim_any _ W5 P5 0 _ O5.out.read (by omega) (by omega)).mono ?_
            rintro e w6 ⟨v6, rfl, o6, b6⟩
            have C6 := Lib.hid (C5.out.trans (b6.mono C5.out.size))
            clear b6 x0 x1 f0 f1 X5 C5 O5 HW5 HP5
            obtain ⟨W6, hW6⟩ : ∃ W6, trimW W5 P5 0 = W6 := ⟨_, rfl⟩
            obtain ⟨P6, hP6⟩ : ∃ P6, trimP W5 P5 0 = P6 := ⟨_, rfl⟩
            have l6 : W6.length ≤ 64 ∧ P6.length ≤ 64 := by
              rw [← hW6, ← hP6, trimW, trimP]
              constructor
              · split
                · rw [List.length_set]; omega
                · simp
              · split
                · split
                  · rw [List.length_set]; omega
                  · omega
                · simp
            rw [hW6, hP6] at o6 hfin
            have O6 := Lib.hid o6
            clear hW6 hP6
            obtain ⟨A6, c6, B6, d6, rfl, _⟩ := o6
            have d2 : IntKind.i64.wrap ((k : Int) - 1) = (k : Int) - 1 := IntWalk.i64_in _ (by omega)
            go_wp2_with fail
            refine (implWrite_any _ W6 P6 (k - 1) 7 _ (O6.out.below (b_alloc (Below.refl _ _) _)).read (by omega) (by omega)).mono ?_
            rintro e w7 ⟨v7, rfl, o7, b7⟩
            have C7 := Lib.hid ((b_alloc C6.out _).trans (b7.mono (by have := C6.out.size; simp; omega)))
            obtain ⟨r, hr⟩ : ∃ r, (wrV W6 P6 ((k : Int) - 1) 7) = r := ⟨_, rfl⟩
            rw [hr] at hfin o7 ⊢
            obtain ⟨A7, c7, B7, d7, rfl, _⟩ := o7
            clear hr b7 O6 C6
            have hm : ((min k M : Nat) : Int) = if (k : Int) < M then (k : Int) else M := by split <;> omega
            by_cases hM0 : M = 0
            · subst hM0
              go_wp2
              go_ret
              exact ⟨rfl, b_alloc C7.out _⟩
            · have hr2 := hfin.out (by omega)
              have hM1 : ((M : Int) == 0) = false := by simp; omega
              rw [hr2]
              go_wp2
              all_goals
                first
                  | (go_ret; exact ⟨rfl, b_alloc C7.out _⟩)
                  | (have hkm : M = k := by omega
                     subst hkm
                     simp only [me]
                     go_ret
                     exact ⟨rfl, b_alloc C7.out _⟩)
    · subst h1 h2
      simp only [List.length_nil] at *
      have hcase : n ≠ 0 ∨ (n = 0 ∧ p ≠ 0) := by omega
      have HN := Lib.hid hnot
      clear hnot hsplit hl
      rcases hcase with h | ⟨rfl, h⟩
      · have h' : ¬ (0 : Int) = n := fun e => h e.symm
        have h'' : ((0 : Int) == n) = false := by simpa using h'
        go_wp2_with (go_at_call 29; refine (alive_any _).mono ?_; rintro e w5 ⟨rfl, hb5⟩)
        go_ret
        exact ⟨rfl, C4.out.trans (hb5.mono C4.out.size)⟩
      · have h' : ¬ (0 : Int) = p := fun e => h e.symm
        have h'' : ((0 : Int) == p) = false := by simpa using h'
        go_wp2_with (go_at_call 29; refine (alive_any _).mono ?_; rintro e w5 ⟨rfl, hb5⟩)
        go_ret
        exact ⟨rfl, C4.out.trans (hb5.mono C4.out.size)⟩

set_option maxRecDepth 100000 in
theorem lifted (os : Os) (started : os.Started) (H : Type) (enc : TypeId × Value → H) :
    ReturnsInHanded {} Try.checked os 10 .any (Rows.fnThinFullSpec.pre6 enc Try.prog Try.f10 Rows.fnThinFullRow.domain false) (Rows.fnThinFullSpec.post enc Try.prog Try.f10 false true false false) := by
  refine returnsInHanded_of_change (C := Try.checked) own started (by kernel_rfl) Try.func10
    (ChangeSpec.witness6 (enc := enc) (C := Try.checked) false ⟨#[], #[.slice none 0 0], []⟩ 8 (by kernel_rfl) (by kernel_rfl) (by kernel_rfl) (by kernel_rfl)) ?_
  intro W base args ds gs before hval0 hW hcnd _
  have hval : ∀ (j : Nat) t v, Try.f10.params[j]? = some t → args[j]? = some v → Value.okWide Try.prog W .any base t v := hval0
  have hW' := hW
  obtain ⟨p, q, hA0, hV, rfl, hfz, hnd⟩ := hW
  have hA : DataW.TrodAll enc Try.prog W 0 (fun _ => true) true Try.f10.params.toList args.toList ds p := hA0
  rw [Try.params10] at hA hval
  obtain ⟨v0, vs0, d0, ds0, p0, q0, hargs, rfl, rfl, h0, r0⟩ := trodAll_cons hA
  obtain ⟨rfl, rfl, rfl⟩ := trodAll_nil r0
  obtain rfl : args = #[v0] := by cases args; simp_all
  obtain ⟨rfl, rfl⟩ := trodVars_none hV
  have k0 := h0
  have lt0 : ∀ x ∈ p0, x.block < W.heap.size := by obtain ⟨m, hm⟩ := k0; exact DataW.trod_lt m _ _ _ hm
  obtain ⟨a0, n0, c0, rfl, ok0, le0, cl0⟩ := open_bytes (hval 0 38 v0 rfl rfl) h0
  clear hA0 hval0
  refine (walk a0 n0 c0 W ok0 le0 cl0).mono fun e W' ⟨he, bel⟩ => ?_
  subst he
  exact ⟨_, rfl, _, _, _, [], _, [], hW', trodAll_mk1 (shut_bool Try.underlying4 _), (trodAll_cons_mk (Below.trod laidOut (by kernel_rfl) (of_decide_eq_true (by kernel_rfl)) k0 bel lt0) trodAll_mk0), rfl, bel.frame _, fun h => by cases h⟩

theorem proved : Rows.FnThinFullSaid :=
  OpenClaim.holds_of_wide 10 Try.f10 rfl rfl rfl rfl rfl rfl rfl ⟨rfl, rfl, rfl, rfl, rfl⟩ rfl rfl rfl rfl rfl (by kernel_rfl) Try.func10 (by kernel_rfl)
    (of_decide_eq_true (by kernel_rfl)) (by unfold Func.isWrapper; first | (rw [if_pos (by decide +kernel)]; kernel_rfl) | (rw [if_neg (by decide +kernel)]; exact ⟨rfl, rfl⟩))
    (fun os started H enc _ => lifted os started H enc)
#print axioms proved
end Go.Proofs.Ytjkbooflbfnbiaa.fnThinFull
