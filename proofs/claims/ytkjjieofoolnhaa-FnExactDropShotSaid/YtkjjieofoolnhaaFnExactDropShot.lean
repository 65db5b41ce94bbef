/- Proves Rows.FnExactDropShotSaid: for every input the law FnExactDropShot returns true and leaves its arguments as they were. Conditions: none. -/
import Derived.Test.YtkjjieofoolnhaaOpen
import Derived.Test.YtkjjieofoolnhaaOpenV
import Derived.Test.YtkjjieofoolnhaaVolD
import Derived.Test.YtkjjieofoolnhaaVolF
import Derived.Deep.RegionHeld3
namespace Go.Proofs.Ytkjjieofoolnhaa.fnExactDropShot
open Go.ChangeShapes Go.WideShapes Go.ChangeAt Go.RowKit
set_option linter.unusedVariables false
set_option maxHeartbeats 2000000 in
theorem walk (v : Value) (N : List Int) (S : List (List Sv)) (a : Int) (w : World) (h : VolR w v N S) (ha : -9223372036854775808 ≤ a ∧ a ≤ 9223372036854775807) :
    Calls Try.prog 5 #[v, .int .i64 a] w fun e w' => e = .returned (.bool true) ∧ Below w.heap.size w w' := by
  obtain ⟨A, c, B, d, rfl, hr⟩ : ∃ A c B d, v = .agg #[.slice A N.length c, .slice B S.length d] ∧ (N.length ≤ c ∧ c ≤ 9223372036854775807 ∧ S.length ≤ d ∧ d ≤ 9223372036854775807) := by obtain ⟨A, c, B, d, e, _, _, r⟩ := h; exact ⟨A, c, B, d, e, r⟩
  have HR := Lib.hid h
  clear h
  go_enter Try.func5, Try.ntmps5
  go_wp2_with fail
  refine (szVol_any _ N S _ _ (HR.out.alloc _) (by omega)).mono ?_
  rintro e w1 ⟨r, rfl, b1, hr1⟩
  have k1 : Blk w1 w.heap.size 25 #[.slice A N.length c, .slice B S.length d] := blk_below b1 (Blk.new rfl) (by simp)
  have c1 : Below w.heap.size w w1 := (b_alloc (Below.refl _ _) _).trans (b1.mono (by simp))
  have K1 := Lib.hid k1
  have C1 := Lib.hid c1
  clear k1 c1 b1
  rcases hr1 with rfl | ⟨hr0, hr1⟩
  · go_wp2
    go_ret
    exact ⟨rfl, C1.out⟩
  · obtain ⟨x0, x1, f0, f1⟩ := K1.out.two
    obtain ⟨hN, hS⟩ : N.length ≤ 1048576 ∧ S.length + sumN S ≤ 1048576 := by omega
    clear hr1
    obtain ⟨R, hR⟩ : ∃ R, R = dropN N S a := ⟨_, rfl⟩
    obtain ⟨Q, hQ⟩ : ∃ Q, Q = dropS N S a := ⟨_, rfl⟩
    have hRl : R.length ≤ 1048576 ∧ Q.length + sumN Q ≤ 3000000 := by rw [hR, hQ]; have := drop_len N S a; omega
    have hsp := Lib.hid (show ∀ v w, VolR w v N S → Calls Try.prog 23 #[v, .int .i64 a] w (ToVolPost (dropN N S a) (dropS N S a) w) from fun v w h => specDrop_any v N S a w h hN hS ha)
    have him := Lib.hid (show ∀ v w, VolR w v N S → Calls Try.prog 24 #[v, .int .i64 a] w (ToVolPost (dropN N S a) (dropS N S a) w) from fun v w h => implDrop_any v N S a w h hN hS ha)
    rw [← hR, ← hQ] at hsp him
    clear hR hQ
    go_wp2_with fail
    refine (toVol_any _ N S _ (HR.out.below C1.out) (by omega) (by omega)).mono ?_
    rintro e w2 ⟨v2, rfl, o2, b2⟩
    have K2 := Lib.hid (show Blk w2 w.heap.size 25 #[.slice A N.length c, .slice B S.length d] from blk_below b2 K1.out K1.out.lt)
    have C2 := Lib.hid (C1.out.trans (b2.mono C1.out.size))
    have O2 := Lib.hid o2
    have Z02 := K2.out.lt
    clear x0 x1 f0 f1 b2 o2 K1 C1
    go_wp2_with fail
    refine (hsp.out _ _ O2.out.read).mono ?_
    rintro e w3 ⟨v3, rfl, r3, b3⟩
    have K3 := Lib.hid (show Blk w3 w.heap.size 25 #[.slice A N.length c, .slice B S.length d] from blk_below b3 K2.out K2.out.lt)
    have C3 := Lib.hid (C2.out.trans (b3.mono C2.out.size))
    have R3 := Lib.hid r3
    obtain ⟨A3, c3, B3, d3, _, rfl, _⟩ := r3
    have Z23 := b3.size
    have Z03 := K3.out.lt
    clear b3 K2 C2 O2
    obtain ⟨x0, x1, f0, f1⟩ := K3.out.two
    go_wp2_with fail
    refine (toVol_any _ N S _ (HR.out.below (b_alloc C3.out _)) (by omega) (by omega)).mono ?_
    rintro e w4 ⟨v4, rfl, o4, b4⟩
    have O4 := Lib.hid (o4.mono (show w3.heap.size + 1 ≤ _ by simp) (Nat.le_refl _))
    obtain ⟨A4, c4, B4, d4, _, rfl, _⟩ := o4
    have K4 := Lib.hid (show Blk w4 w.heap.size 25 #[.slice A N.length c, .slice B S.length d] from blk_below b4 (K3.out.alloc _) (K3.out.alloc _).lt)
    have S4 := Lib.hid (show Blk w4 w3.heap.size 29 #[.slice A3 R.length c3, .slice B3 Q.length d3] from blk_below b4 (Blk.new rfl) (by simp))
    have C4 := Lib.hid ((b_alloc C3.out _).trans (b4.mono (b_alloc C3.out _).size))
    have R4 := Lib.hid ((R3.out.below (b_alloc (Below.refl _ _) _)).below b4)
    have Z34 : w3.heap.size + 1 ≤ w4.heap.size := by have := b4.size; simpa using this
    clear x0 x1 f0 f1 b4 K3 C3 R3
    go_wp2_with fail
    refine (him.out _ _ (O4.out.read.alloc _)).mono ?_
    rintro e w5 ⟨v5, rfl, g5, b5⟩
    have G5 := Lib.hid (g5.mono (show w4.heap.size + 1 ≤ _ by simp) (Nat.le_refl _))
    obtain ⟨A5, c5, B5, d5, _, rfl, _⟩ := g5
    have K5 := Lib.hid (show Blk w5 w.heap.size 25 #[.slice A N.length c, .slice B S.length d] from blk_below b5 (K4.out.alloc _) (K4.out.alloc _).lt)
    have S5 := Lib.hid (show Blk w5 w3.heap.size 29 #[.slice A3 R.length c3, .slice B3 Q.length d3] from blk_below b5 (S4.out.alloc _) (S4.out.alloc _).lt)
    have X5 := Lib.hid (show Blk w5 w4.heap.size 29 #[.slice A4 N.length c4, .slice B4 S.length d4] from blk_below b5 (Blk.new rfl) (by simp))
    have C5 := Lib.hid ((b_alloc C4.out _).trans (b5.mono (b_alloc C4.out _).size))
    have O5 := Lib.hid ((O4.out.below (b_alloc (Below.refl _ _) _)).below b5)
    have R5 := Lib.hid ((R4.out.below (b_alloc (Below.refl _ _) _)).below b5)
    have Z45 : w4.heap.size + 1 ≤ w5.heap.size := by have := b5.size; simpa using this
    clear b5 K4 S4 C4 O4 R4
    obtain ⟨x0, x1, f0, f1⟩ := S5.out.two
    have xl5 := S5.out.lt
    go_wp2_with fail
    refine (eqVol_same _ _ R Q _ (G5.out.read.alloc _) (R5.out.read.alloc _) (by omega) (by omega)).mono ?_
    rintro e w6 ⟨rfl, b6⟩
    have K6 := Lib.hid (show Blk w6 w.heap.size 25 #[.slice A N.length c, .slice B S.length d] from blk_below b6 (K5.out.alloc _) (K5.out.alloc _).lt)
    have S6 := Lib.hid (show Blk w6 w3.heap.size 29 #[.slice A3 R.length c3, .slice B3 Q.length d3] from blk_below b6 (S5.out.alloc _) (S5.out.alloc _).lt)
    have X6 := Lib.hid (show Blk w6 w4.heap.size 29 #[.slice A4 N.length c4, .slice B4 S.length d4] from blk_below b6 (X5.out.alloc _) (X5.out.alloc _).lt)
    have Y6 := Lib.hid (show Blk w6 w5.heap.size 29 #[.slice A5 R.length c5, .slice B5 Q.length d5] from blk_below b6 (Blk.new rfl) (by simp))
    have C6 := Lib.hid ((b_alloc C5.out _).trans (b6.mono (b_alloc C5.out _).size))
    have O6 := Lib.hid ((O5.out.below (b_alloc (Below.refl _ _) _)).below b6)
    have R6 := Lib.hid ((R5.out.below (b_alloc (Below.refl _ _) _)).below b6)
    have G6 := Lib.hid ((G5.out.below (b_alloc (Below.refl _ _) _)).below b6)
    have Z56 : w5.heap.size + 1 ≤ w6.heap.size := by have := b6.size; simpa using this
    clear b6 K5 S5 X5 C5 O5 R5 G5 x0 x1 f0 f1
    obtain ⟨x0, x1, f0, f1⟩ := K6.out.two
    obtain ⟨y0, y1, g0, g1⟩ := X6.out.two
    go_wp2_with fail
    go_region_held3 (fun w' => w'.cell? ⟨w.heap.size, 0, none⟩ = some (.slice A N.length c) ∧ w'.cell? ⟨w.heap.size, 1, none⟩ = some (.slice B S.length d) ∧ w'.cell? ⟨w4.heap.size, 0, none⟩ = some (.slice A4 N.length c4) ∧ w'.cell? ⟨w4.heap.size, 1, none⟩ = some (.slice B4 S.length d4)) (go_keep)
      (first
        | (go_at_call 16; refine (toVol_any _ N S _ (HR.out.below (b_drew C6.out)) (by omega) (by omega)).mono ?_; rintro e w7 ⟨v7, rfl, o7, b7⟩; obtain ⟨x0, x1, f0, f1⟩ := (blk_below b7 K6.out K6.out.lt).two; obtain ⟨y0, y1, g0, g1⟩ := (blk_below b7 X6.out X6.out.lt).two)
        | (go_at_call 18; refine (eqVol_same _ _ N S _ (O6.out.drew.below b7).read o7.read (by omega) (by omega)).mono ?_; rintro e w8 ⟨rfl, b8⟩; obtain ⟨x0, x1, f0, f1⟩ := (blk_below b8 (blk_below b7 K6.out K6.out.lt) (Nat.lt_of_lt_of_le K6.out.lt b7.size)).two; obtain ⟨y0, y1, g0, g1⟩ := (blk_below b8 (blk_below b7 X6.out X6.out.lt) (Nat.lt_of_lt_of_le X6.out.lt b7.size)).two))
    have b8' : Below w6.heap.size w6 w8 := ((b_drew (Below.refl _ _)).trans b7).trans (b8.mono b7.size)
    have K8 := Lib.hid (show Blk w8 w.heap.size 25 #[.slice A N.length c, .slice B S.length d] from blk_below b8' K6.out K6.out.lt)
    have S8 := Lib.hid (show Blk w8 w3.heap.size 29 #[.slice A3 R.length c3, .slice B3 Q.length d3] from blk_below b8' S6.out S6.out.lt)
    have Y8 := Lib.hid (show Blk w8 w5.heap.size 29 #[.slice A5 R.length c5, .slice B5 Q.length d5] from blk_below b8' Y6.out Y6.out.lt)
    have C8 := Lib.hid (C6.out.trans (b8'.mono C6.out.size))
    have O8 := Lib.hid (O6.out.below b8')
    have R8 := Lib.hid (R6.out.below b8')
    have G8 := Lib.hid (G6.out.below b8')
    have Z68 := b8'.size
    clear b8' b7 b8 o7 K6 S6 X6 Y6 C6 O6 R6 G6
    go_wp2_with fail
    refine (markVol_any (w3.heap.size + 1) w4.heap.size _ N S 1 _ O8.out (by omega) (by omega) (by omega) (by omega)).mono ?_
    rintro e w9 ⟨rfl, _, t9⟩
    have K9 := Lib.hid (show Blk w9 w.heap.size 25 #[.slice A N.length c, .slice B S.length d] from blk_turn t9 K8.out (.inl (by omega)))
    have S9 := Lib.hid (show Blk w9 w3.heap.size 29 #[.slice A3 R.length c3, .slice B3 Q.length d3] from blk_turn t9 S8.out (.inl (by omega)))
    have Y9 := Lib.hid (show Blk w9 w5.heap.size 29 #[.slice A5 R.length c5, .slice B5 Q.length d5] from blk_turn t9 Y8.out (.inr (by omega)))
    have C9 := Lib.hid (C8.out.trans (t9.below w.heap.size (by omega) C8.out.size))
    have R9 := Lib.hid (R8.out.turn t9 (.inr (by omega)))
    have G9 := Lib.hid (G8.out.turn t9 (.inl (by omega)))
    have Z89 := t9.size
    clear t9 K8 S8 Y8 C8 O8 R8 G8 x0 x1 f0 f1 y0 y1 g0 g1
    obtain ⟨x0, x1, f0, f1⟩ := S9.out.two
    obtain ⟨y0, y1, g0, g1⟩ := Y9.out.two
    go_wp2_with fail
    refine (eqVol_same _ _ R Q _ G9.out.read R9.out.read (by omega) (by omega)).mono ?_
    rintro e w10 ⟨rfl, b10⟩
    have K10 := Lib.hid (show Blk w10 w.heap.size 25 #[.slice A N.length c, .slice B S.length d] from blk_below b10 K9.out K9.out.lt)
    have S10 := Lib.hid (show Blk w10 w3.heap.size 29 #[.slice A3 R.length c3, .slice B3 Q.length d3] from blk_below b10 S9.out S9.out.lt)
    have Y10 := Lib.hid (show Blk w10 w5.heap.size 29 #[.slice A5 R.length c5, .slice B5 Q.length d5] from blk_below b10 Y9.out Y9.out.lt)
    have C10 := Lib.hid (C9.out.trans (b10.mono C9.out.size))
    have R10 := Lib.hid (R9.out.below b10)
    have G10 := Lib.hid (G9.out.below b10)
    have Z910 := b10.size
    clear b10 K9 S9 Y9 C9 R9 G9 x0 x1 f0 f1 y0 y1 g0 g1
    obtain ⟨y0, y1, g0, g1⟩ := Y10.out.two
    go_wp2_with fail
    refine (markVol_any (w4.heap.size + 1) w5.heap.size _ R Q 1 _ G10.out (by omega) (by omega) (by omega) (by omega)).mono ?_
    rintro e w11 ⟨rfl, r11, t11⟩
    have K11 := Lib.hid (show Blk w11 w.heap.size 25 #[.slice A N.length c, .slice B S.length d] from blk_turn t11 K10.out (.inl (by omega)))
    have S11 := Lib.hid (show Blk w11 w3.heap.size 29 #[.slice A3 R.length c3, .slice B3 Q.length d3] from blk_turn t11 S10.out (.inl (by omega)))
    have Y11 := Lib.hid (show Blk w11 w5.heap.size 29 #[.slice A5 R.length c5, .slice B5 Q.length d5] from blk_turn t11 Y10.out (.inr (by omega)))
    have C11 := Lib.hid (C10.out.trans (t11.below w.heap.size (by omega) C10.out.size))
    have R11 := Lib.hid (R10.out.turn t11 (.inr (by omega)))
    have M11 := Lib.hid r11
    clear t11 r11 K10 S10 Y10 C10 R10 G10 y0 y1 g0 g1
    obtain ⟨y0, y1, g0, g1⟩ := Y11.out.two
    go_wp2_with fail
    refine (heldVol_any _ R.length Q 1 _ M11.out (by omega) (by omega) (by omega)).mono ?_
    rintro e w12 ⟨rfl, b12⟩
    have K12 := Lib.hid (show Blk w12 w.heap.size 25 #[.slice A N.length c, .slice B S.length d] from blk_below b12 K11.out K11.out.lt)
    have S12 := Lib.hid (show Blk w12 w3.heap.size 29 #[.slice A3 R.length c3, .slice B3 Q.length d3] from blk_below b12 S11.out S11.out.lt)
    have Y12 := Lib.hid (show Blk w12 w5.heap.size 29 #[.slice A5 R.length c5, .slice B5 Q.length d5] from blk_below b12 Y11.out Y11.out.lt)
    have C12 := Lib.hid (C11.out.trans (b12.mono C11.out.size))
    have R12 := Lib.hid (R11.out.below b12)
    have M12 := Lib.hid (M11.out.below b12)
    have k1 : ((1 : Int) + R.length + 2 * (sumN Q : Int) != 1 + R.length + 2 * (sumN Q : Int)) = false := by simp
    clear b12 K11 S11 Y11 C11 R11 M11 y0 y1 g0 g1
    obtain ⟨x0, x1, f0, f1⟩ := K12.out.two
    go_wp2_with fail
    refine (toVol_any _ N S _ (HR.out.below C12.out) (by omega) (by omega)).mono ?_
    rintro e w13 ⟨v13, rfl, o13, b13⟩
    have S13 := Lib.hid (show Blk w13 w3.heap.size 29 #[.slice A3 R.length c3, .slice B3 Q.length d3] from blk_below b13 S12.out S12.out.lt)
    have Y13 := Lib.hid (show Blk w13 w5.heap.size 29 #[.slice A5 R.length c5, .slice B5 Q.length d5] from blk_below b13 Y12.out Y12.out.lt)
    have C13 := Lib.hid (C12.out.trans (b13.mono C12.out.size))
    have R13 := Lib.hid (R12.out.below b13)
    have M13 := Lib.hid (M12.out.below b13)
    have O13 := Lib.hid o13
    clear b13 o13 K12 S12 Y12 C12 R12 M12 x0 x1 f0 f1
    go_wp2_with fail
    refine (him.out _ _ O13.out.read).mono ?_
    rintro e w14 ⟨v14, rfl, g14, b14⟩
    have G14 := Lib.hid g14
    obtain ⟨A14, c14, B14, d14, _, rfl, _⟩ := g14
    have S14 := Lib.hid (show Blk w14 w3.heap.size 29 #[.slice A3 R.length c3, .slice B3 Q.length d3] from blk_below b14 S13.out S13.out.lt)
    have Y14 := Lib.hid (show Blk w14 w5.heap.size 29 #[.slice A5 R.length c5, .slice B5 Q.length d5] from blk_below b14 Y13.out Y13.out.lt)
    have C14 := Lib.hid (C13.out.trans (b14.mono C13.out.size))
    have R14 := Lib.hid (R13.out.below b14)
    have M14 := Lib.hid (M13.out.below b14)
    clear b14 S13 Y13 C13 R13 M13 O13
    obtain ⟨x0, x1, f0, f1⟩ := S14.out.two
    have xl14 := S14.out.lt
    go_wp2_with fail
    refine (eqVol_same _ _ R Q _ (G14.out.read.alloc _) (R14.out.read.alloc _) (by omega) (by omega)).mono ?_
    rintro e w15 ⟨rfl, b15⟩
    have Y15 := Lib.hid (show Blk w15 w5.heap.size 29 #[.slice A5 R.length c5, .slice B5 Q.length d5] from blk_below b15 (Y14.out.alloc _) (Y14.out.alloc _).lt)
    have C15 := Lib.hid ((b_alloc C14.out _).trans (b15.mono (b_alloc C14.out _).size))
    have M15 := Lib.hid ((M14.out.alloc _).below b15)
    clear b15 S14 Y14 C14 R14 M14 G14 x0 x1 f0 f1
    obtain ⟨y0, y1, g0, g1⟩ := Y15.out.two
    go_wp2_with fail
    refine (heldVol_any _ R.length Q 1 _ M15.out (by omega) (by omega) (by omega)).mono ?_
    rintro e w16 ⟨rfl, b16⟩
    have C16 := Lib.hid (C15.out.trans (b16.mono C15.out.size))
    clear b16
    go_wp2
    go_ret
    exact ⟨rfl, C16.out⟩

set_option maxRecDepth 100000 in
theorem lifted (os : Os) (started : os.Started) (H : Type) (enc : TypeId × Value → H) :
    ReturnsInHanded {} Try.checked os 5 .any (Rows.fnExactDropShotSpec.pre6 enc Try.prog Try.f5 Rows.fnExactDropShotRow.domain false) (Rows.fnExactDropShotSpec.post enc Try.prog Try.f5 false true false false) := by
  refine returnsInHanded_of_change (C := Try.checked) own started (by kernel_rfl) Try.func5
    (ChangeSpec.witness6 (enc := enc) (C := Try.checked) false ⟨#[], #[.agg #[.slice none 0 0, .slice none 0 0], .int .i64 0], []⟩ 8 (by kernel_rfl) (by kernel_rfl) (by kernel_rfl) (by kernel_rfl)) ?_
  intro W base args ds gs before hval0 hW hcnd _
  have hval : ∀ (j : Nat) t v, Try.f5.params[j]? = some t → args[j]? = some v → Value.okWide Try.prog W .any base t v := hval0
  have hW' := hW
  obtain ⟨p, q, hA0, hV, rfl, hfz, hnd⟩ := hW
  have hA : DataW.TrodAll enc Try.prog W 0 (fun _ => true) true Try.f5.params.toList args.toList ds p := hA0
  rw [Try.params5] at hA hval
  obtain ⟨v0, vs0, d0, ds0, p0, q0, hargs, rfl, rfl, h0, r0⟩ := trodAll_cons hA
  obtain ⟨v1, vs1, d1, ds1, p1, q1, rfl, rfl, rfl, h1, r1⟩ := trodAll_cons r0
  obtain ⟨rfl, rfl, rfl⟩ := trodAll_nil r1
  obtain rfl : args = #[v0, v1] := by cases args; simp_all
  obtain ⟨rfl, rfl⟩ := trodVars_none hV
  have k0 := h0
  have lt0 : ∀ x ∈ p0, x.block < W.heap.size := by obtain ⟨m, hm⟩ := k0; exact DataW.trod_lt m _ _ _ hm
  obtain ⟨l0, k0', ok0⟩ := open_volume (hval 0 25 v0 rfl rfl) h0
  obtain ⟨a1, rfl, rfl, rfl, w1⟩ := open_int Try.underlying3 (hval 1 3 v1 rfl rfl) h1
  have b1 := bounds_of_wf w1
  clear hA0 hval0
  refine (walk v0 l0 k0' a1 W ok0 b1).mono fun e W' ⟨he, bel⟩ => ?_
  subst he
  exact ⟨_, rfl, _, _, _, [], _, [], hW', trodAll_mk1 (shut_bool Try.underlying4 _), (trodAll_cons_mk (Below.trod laidOut (by kernel_rfl) (of_decide_eq_true (by kernel_rfl)) k0 bel lt0) (trodAll_cons_mk (shut_int Try.underlying3 w1) trodAll_mk0)), rfl, bel.frame _, fun h => by cases h⟩

theorem proved : Rows.FnExactDropShotSaid :=
  OpenClaim.holds_of_wide 5 Try.f5 rfl rfl rfl rfl rfl rfl rfl ⟨rfl, rfl, rfl, rfl, rfl⟩ rfl rfl rfl rfl rfl (by kernel_rfl) Try.func5 (by kernel_rfl)
    (of_decide_eq_true (by kernel_rfl)) (by unfold Func.isWrapper; first | (rw [if_pos (by decide +kernel)]; kernel_rfl) | (rw [if_neg (by decide +kernel)]; exact ⟨rfl, rfl⟩))
    (fun os started H enc _ => lifted os started H enc)
#print axioms proved
end Go.Proofs.Ytkjjieofoolnhaa.fnExactDropShot
