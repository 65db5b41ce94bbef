/- Proves Rows.FnExactShotViewSaid: for every input the law FnExactShotView returns true and leaves its arguments as they were. Conditions: none. -/
import Derived.Test.YtkjjieofoolnhaaOpen
import Derived.Test.YtkjjieofoolnhaaOpenV
import Derived.Test.YtkjjieofoolnhaaShI
import Derived.Deep.RegionHeld3
namespace Go.Proofs.Ytkjjieofoolnhaa.fnExactShotView
open Go.ChangeShapes Go.WideShapes Go.ChangeAt Go.RowKit
set_option linter.unusedVariables false
set_option maxHeartbeats 2000000 in
theorem walk (v : Value) (N : List Int) (S : List (List Sv)) (a : Int) (w : World) (h : VolR w v N S) (ha : -9223372036854775808 ≤ a ∧ a ≤ 9223372036854775807) :
    Calls Try.prog 11 #[v, .int .i64 a] w fun e w' => e = .returned (.bool true) ∧ Below w.heap.size w w' := by
  obtain ⟨A, c, B, d, rfl, hr⟩ : ∃ A c B d, v = .agg #[.slice A N.length c, .slice B S.length d] ∧ (N.length ≤ c ∧ c ≤ 9223372036854775807 ∧ S.length ≤ d ∧ d ≤ 9223372036854775807) := by obtain ⟨A, c, B, d, e, _, _, r⟩ := h; exact ⟨A, c, B, d, e, r⟩
  have HR := Lib.hid h
  clear h
  go_enter Try.func11, Try.ntmps11
  go_wp2_with fail
  refine (szVol_any _ N S _ _ (HR.out.alloc _) (by omega)).mono ?_
  rintro e w1 ⟨r, rfl, b1, hr1⟩
  have k1 : Blk w1 w.heap.size 25 #[.slice A N.length c, .slice B S.length d] := blk_below b1 (Blk.new rfl) (by simp)
  have c1 : Below w.heap.size w w1 := (b_alloc (Below.refl _ _) _).trans (b1.mono (by simp))
  have K1 := Lib.hid k1
  have C1 := Lib.hid c1
  clear k1 c1 b1
  rcases hr1 with rfl | ⟨hr0, hr1⟩
  · go_wp2
    go_ret
    exact ⟨rfl, C1.out⟩
  · obtain ⟨x0, x1, f0, f1⟩ := K1.out.two
    obtain ⟨hN, hS⟩ : N.length ≤ 1048576 ∧ S.length + sumN S ≤ 1048576 := by omega
    clear hr1
    obtain ⟨R, hRe⟩ : ∃ R, R = shotV N S a := ⟨_, rfl⟩
    have hRl : R.length ≤ 1048576 := by rw [hRe]; have := shotV_len N S a; omega
    have hsp := Lib.hid (show ∀ v w, VolR w v N S → Calls Try.prog 32 #[v, .int .i64 a] w (ShPost (shotV N S a) w) from fun v w h => specShot_any v N S a w h hN hS ha)
    have him := Lib.hid (show ∀ v w, VolR w v N S → Calls Try.prog 30 #[v, .int .i64 a] w (ShPost (shotV N S a) w) from fun v w h => implShot_any v N S a w h hN hS ha)
    rw [← hRe] at hsp him
    clear hRe
    go_wp2_with fail
    refine (toVol_any _ N S _ (HR.out.below C1.out) (by omega) (by omega)).mono ?_
    rintro e w2 ⟨v2, rfl, o2, b2⟩
    have K2 := Lib.hid (show Blk w2 w.heap.size 25 #[.slice A N.length c, .slice B S.length d] from blk_below b2 K1.out K1.out.lt)
    have C2 := Lib.hid (C1.out.trans (b2.mono C1.out.size))
    have O2 := Lib.hid o2
    clear x0 x1 f0 f1 b2 o2
    go_wp2_with fail
    refine (hsp.out _ _ O2.out.read).mono ?_
    rintro e w3 ⟨A3, c3, rfl, r3, b3⟩
    have K3 := Lib.hid (show Blk w3 w.heap.size 25 #[.slice A N.length c, .slice B S.length d] from blk_below b3 K2.out K2.out.lt)
    have C3 := Lib.hid (C2.out.trans (b3.mono C2.out.size))
    have R3 := Lib.hid r3
    clear b3 r3
    obtain ⟨x0, x1, f0, f1⟩ := K3.out.two
    go_wp2_with fail
    refine (toVol_any _ N S _ (HR.out.below C3.out) (by omega) (by omega)).mono ?_
    rintro e w4 ⟨v4, rfl, o4, b4⟩
    have O4 := Lib.hid o4
    obtain ⟨A4, c4, B4, d4, _, rfl, _⟩ := o4
    have K4 := Lib.hid (show Blk w4 w.heap.size 25 #[.slice A N.length c, .slice B S.length d] from blk_below b4 K3.out K3.out.lt)
    have C4 := Lib.hid (C3.out.trans (b4.mono C3.out.size))
    have R4 := Lib.hid (own_below R3.out b4 (Nat.le_refl _))
    have Z34 := b4.size
    have Z03 := K3.out.lt
    have Z02 := K2.out.lt
    clear x0 x1 f0 f1 b4
    go_wp2_with fail
    refine (him.out _ _ (O4.out.read.alloc _)).mono ?_
    rintro e w5 ⟨A5, c5, rfl, g5, b5⟩
    have K5 := Lib.hid (show Blk w5 w.heap.size 25 #[.slice A N.length c, .slice B S.length d] from blk_below b5 (K4.out.alloc _) (by have := K4.out.lt; simp; omega))
    have X5 := Lib.hid (show Blk w5 w4.heap.size 29 #[.slice A4 N.length c4, .slice B4 S.length d4] from blk_below b5 (Blk.new rfl) (by simp))
    have C5 := Lib.hid ((b_alloc C4.out _).trans (b5.mono (by have := C4.out.size; simp; omega)))
    have O5 := Lib.hid ((O4.out.below (b_alloc (Below.refl _ _) _)).below b5)
    have R5 := Lib.hid (own_below (R4.out.alloc _) b5 (Nat.le_refl _))
    have G5 := Lib.hid (own_mono g5 (show w4.heap.size + 1 ≤ _ by simp))
    have Z45 := b5.size
    simp only [World.size_alloc] at Z45
    clear b5 g5
    obtain ⟨x0, x1, f0, f1⟩ := K5.out.two
    obtain ⟨y0, y1, g0, g1⟩ := X5.out.two
    go_wp2_with fail
    refine (eqIntS_any _ _ _ _ R R _ (IntsIn.of (own_read G5.out)) (IntsIn.of (own_read R5.out)) (by omega) (by omega)).mono ?_
    rintro e w6 ⟨rfl, q6, hw6⟩
    have K6 := Lib.hid (show Blk w6 w.heap.size 25 #[.slice A N.length c, .slice B S.length d] by rw [hw6]; exact K5.out)
    have X6 := Lib.hid (show Blk w6 w4.heap.size 29 #[.slice A4 N.length c4, .slice B4 S.length d4] by rw [hw6]; exact X5.out)
    have C6 := Lib.hid (show Below w.heap.size w w6 by rw [hw6]; exact belowN C5.out _)
    have O6 := Lib.hid (show VolO w3.heap.size w4.heap.size w6 (.agg #[.slice A4 N.length c4, .slice B4 S.length d4]) N S by rw [hw6]; exact O5.out)
    have R6 := Lib.hid (show w6.ownsRow w2.heap.size 3 1 (.slice A3 R.length c3) R.length (R.map (Value.int .i64)) by rw [hw6]; exact R5.out)
    have G6 := Lib.hid (show w6.ownsRow (w4.heap.size + 1) 3 1 (.slice A5 R.length c5) R.length (R.map (Value.int .i64)) by rw [hw6]; exact G5.out)
    have Z56 : w5.heap.size = w6.heap.size := by rw [hw6]; rfl
    have R3lt := Lib.hid (fun g hg => (R3.out.lt g hg).2)
    clear hw6 x0 x1 f0 f1 y0 y1 g0 g1 K5 X5 C5 O5 R5 G5 R4 R3 O4 K4 C4 K3 C3 K2 C2 O2 K1 C1
    obtain ⟨x0, x1, f0, f1⟩ := K6.out.two
    obtain ⟨y0, y1, g0, g1⟩ := X6.out.two
    go_wp2_with fail
    go_region_held3 (fun w' => w'.cell? ⟨w.heap.size, 0, none⟩ = some (.slice A N.length c) ∧ w'.cell? ⟨w.heap.size, 1, none⟩ = some (.slice B S.length d) ∧ w'.cell? ⟨w4.heap.size, 0, none⟩ = some (.slice A4 N.length c4) ∧ w'.cell? ⟨w4.heap.size, 1, none⟩ = some (.slice B4 S.length d4)) (go_keep)
      (first
        | (go_at_call 16; refine (toVol_any _ N S _ (HR.out.below (b_drew C6.out)) (by omega) (by omega)).mono ?_; rintro e w7 ⟨v7, rfl, o7, b7⟩; obtain ⟨x0, x1, f0, f1⟩ := (blk_below b7 K6.out K6.out.lt).two; obtain ⟨y0, y1, g0, g1⟩ := (blk_below b7 X6.out X6.out.lt).two)
        | (go_at_call 18; refine (eqVol_same _ _ N S _ (O6.out.drew.below b7).read o7.read (by omega) (by omega)).mono ?_; rintro e w8 ⟨rfl, b8⟩; obtain ⟨x0, x1, f0, f1⟩ := (blk_below b8 (blk_below b7 K6.out K6.out.lt) (Nat.lt_of_lt_of_le K6.out.lt b7.size)).two; obtain ⟨y0, y1, g0, g1⟩ := (blk_below b8 (blk_below b7 X6.out X6.out.lt) (Nat.lt_of_lt_of_le X6.out.lt b7.size)).two))
    have b8' : Below w6.heap.size w6 w8 := ((b_drew (Below.refl _ _)).trans b7).trans (b8.mono b7.size)
    have K8 := Lib.hid (show Blk w8 w.heap.size 25 #[.slice A N.length c, .slice B S.length d] from blk_below b8' K6.out K6.out.lt)
    have C8 := Lib.hid (C6.out.trans (b8'.mono C6.out.size))
    have O8 := Lib.hid (O6.out.below b8')
    have R8 := Lib.hid (own_below R6.out b8' (Nat.le_refl _))
    have G8 := Lib.hid (own_below G6.out b8' (Nat.le_refl _))
    have Z68 := b8'.size
    clear b8' b7 b8 o7 K6 X6 C6 O6 R6 G6
    go_wp2_with fail
    refine (markVol_any w3.heap.size w4.heap.size _ N S 1 _ O8.out (by omega) (by omega) (by omega) (by omega)).mono ?_
    rintro e w9 ⟨rfl, _, t9⟩
    have K9 := Lib.hid (show Blk w9 w.heap.size 25 #[.slice A N.length c, .slice B S.length d] from blk_turn t9 K8.out (.inl Z03))
    have C9 := Lib.hid (C8.out.trans (t9.below w.heap.size (by omega) C8.out.size))
    have R9 := Lib.hid (own_turn R8.out t9 (fun g hg hh => by have := R3lt.out g hg; omega))
    have G9 := Lib.hid (own_turn G8.out t9 (fun g hg hh => by have := (G8.out.lt g hg).1; omega))
    clear t9 K8 C8 O8 R8 G8 x0 x1 f0 f1 y0 y1 g0 g1
    go_wp2_with fail
    refine (eqIntS_any _ _ _ _ R R _ (IntsIn.of (own_read G9.out)) (IntsIn.of (own_read R9.out)) (by omega) (by omega)).mono ?_
    rintro e w10 ⟨rfl, q10, hw10⟩
    obtain ⟨a, b, oG, rG⟩ := own_range G9.out
    have oG10 : OwnC a b w10 3 (A5) (R.map (Value.int .i64)) := by rw [hw10]; exact oG
    have K10 := Lib.hid (show Blk w10 w.heap.size 25 #[.slice A N.length c, .slice B S.length d] by rw [hw10]; exact K9.out)
    have C10 := Lib.hid (show Below w.heap.size w w10 by rw [hw10]; exact belowN C9.out _)
    have R10 := Lib.hid (show w10.ownsRow w2.heap.size 3 1 (.slice A3 R.length c3) R.length (R.map (Value.int .i64)) by rw [hw10]; exact R9.out)
    have RG := Lib.hid (fun g (h1 : a ≤ g) (h2 : g < b) => (G9.out.lt g (rG g h1 h2)).1)
    clear hw10 oG rG K9 C9 R9 G9
    go_wp2_with fail
    refine (mark_any a b _ _ R 1 _ oG10 (by omega) (by omega)).mono ?_
    rintro e w11 ⟨rfl, oM, t11⟩
    have K11 := Lib.hid (show Blk w11 w.heap.size 25 #[.slice A N.length c, .slice B S.length d] from blk_turn' t11 K10.out (fun hh => by have := RG.out _ hh.1 hh.2; omega))
    have C11 := Lib.hid (C10.out.trans ((t11.wide (lo := w4.heap.size) (hi := w11.heap.size + b) (fun g h1 h2 => ⟨by have := RG.out g h1 h2; omega, by omega⟩)).below w.heap.size (by omega) C10.out.size))
    have R11 := Lib.hid (own_turn R10.out t11 (fun g hg hh => by have := R3lt.out g hg; have := RG.out g hh.1 hh.2; omega))
    clear t11 oG10 K10 C10 R10 RG
    have OM := Lib.hid oM
    clear oM
    go_wp2_with fail
    refine (held_any _ R.length _ 1 _ (IntsIn.of OM.out.read) (by omega) (by omega)).mono ?_
    rintro e w' ⟨rfl, rfl⟩
    have k1 : ((1 : Int) + R.length != 1 + R.length) = false := by simp
    obtain ⟨x0, x1, f0, f1⟩ := K11.out.two
    go_wp2_with fail
    refine (toVol_any _ N S _ (HR.out.below C11.out) (by omega) (by omega)).mono ?_
    rintro e w12 ⟨v12, rfl, o12, b12⟩
    have C12 := Lib.hid (C11.out.trans (b12.mono C11.out.size))
    have O12 := Lib.hid o12
    have R12 := Lib.hid (own_below R11.out b12 (Nat.le_refl _))
    have M12 := Lib.hid (OM.out.below b12)
    clear b12 o12 K11 C11 R11 OM x0 x1 f0 f1
    go_wp2_with fail
    refine (him.out _ _ O12.out.read).mono ?_
    rintro e w13 ⟨A13, c13, rfl, g13, b13⟩
    have C13 := Lib.hid (C12.out.trans (b13.mono C12.out.size))
    have R13 := Lib.hid (own_below R12.out b13 (Nat.le_refl _))
    have M13 := Lib.hid (M12.out.below b13)
    have G13 := Lib.hid g13
    clear b13 g13 C12 R12 M12 O12
    go_wp2_with fail
    refine (eqIntS_any _ _ _ _ R R _ (IntsIn.of (own_read G13.out)) (IntsIn.of (own_read R13.out)) (by omega) (by omega)).mono ?_
    rintro e w14 ⟨rfl, q14, hw14⟩
    have C14 := Lib.hid (show Below w.heap.size w w14 by rw [hw14]; exact belowN C13.out _)
    have M14 := Lib.hid (show OwnC a b w14 3 A5 ((marks 1 R.length).map (Value.int .i64)) by rw [hw14]; exact M13.out)
    clear hw14 C13 R13 M13 G13
    go_wp2_with fail
    refine (held_any _ R.length _ 1 _ (IntsIn.of M14.out.read) (by omega) (by omega)).mono ?_
    rintro e w' ⟨rfl, rfl⟩
    go_wp2
    go_ret
    exact ⟨rfl, C14.out⟩

set_option maxRecDepth 100000 in
theorem lifted (os : Os) (started : os.Started) (H : Type) (enc : TypeId × Value → H) :
    ReturnsInHanded {} Try.checked os 11 .any (Rows.fnExactShotViewSpec.pre6 enc Try.prog Try.f11 Rows.fnExactShotViewRow.domain false) (Rows.fnExactShotViewSpec.post enc Try.prog Try.f11 false true false false) := by
  refine returnsInHanded_of_change (C := Try.checked) own started (by kernel_rfl) Try.func11
    (ChangeSpec.witness6 (enc := enc) (C := Try.checked) false ⟨#[], #[.agg #[.slice none 0 0, .slice none 0 0], .int .i64 0], []⟩ 8 (by kernel_rfl) (by kernel_rfl) (by kernel_rfl) (by kernel_rfl)) ?_
  intro W base args ds gs before hval0 hW hcnd _
  have hval : ∀ (j : Nat) t v, Try.f11.params[j]? = some t → args[j]? = some v → Value.okWide Try.prog W .any base t v := hval0
  have hW' := hW
  obtain ⟨p, q, hA0, hV, rfl, hfz, hnd⟩ := hW
  have hA : DataW.TrodAll enc Try.prog W 0 (fun _ => true) true Try.f11.params.toList args.toList ds p := hA0
  rw [Try.params11] at hA hval
  obtain ⟨v0, vs0, d0, ds0, p0, q0, hargs, rfl, rfl, h0, r0⟩ := trodAll_cons hA
  obtain ⟨v1, vs1, d1, ds1, p1, q1, rfl, rfl, rfl, h1, r1⟩ := trodAll_cons r0
  obtain ⟨rfl, rfl, rfl⟩ := trodAll_nil r1
  obtain rfl : args = #[v0, v1] := by cases args; simp_all
  obtain ⟨rfl, rfl⟩ := trodVars_none hV
  have k0 := h0
  have lt0 : ∀ x ∈ p0, x.block < W.heap.size := by obtain ⟨m, hm⟩ := k0; exact DataW.trod_lt m _ _ _ hm
  obtain ⟨l0, k0', ok0⟩ := open_volume (hval 0 25 v0 rfl rfl) h0
  obtain ⟨a1, rfl, rfl, rfl, w1⟩ := open_int Try.underlying3 (hval 1 3 v1 rfl rfl) h1
  have b1 := bounds_of_wf w1
  clear hA0 hval0
  refine (walk v0 l0 k0' a1 W ok0 b1).mono fun e W' ⟨he, bel⟩ => ?_
  subst he
  exact ⟨_, rfl, _, _, _, [], _, [], hW', trodAll_mk1 (shut_bool Try.underlying4 _), (trodAll_cons_mk (Below.trod laidOut (by kernel_rfl) (of_decide_eq_true (by kernel_rfl)) k0 bel lt0) (trodAll_cons_mk (shut_int Try.underlying3 w1) trodAll_mk0)), rfl, bel.frame _, fun h => by cases h⟩

theorem proved : Rows.FnExactShotViewSaid :=
  OpenClaim.holds_of_wide 11 Try.f11 rfl rfl rfl rfl rfl rfl rfl ⟨rfl, rfl, rfl, rfl, rfl⟩ rfl rfl rfl rfl rfl (by kernel_rfl) Try.func11 (by kernel_rfl)
    (of_decide_eq_true (by kernel_rfl)) (by unfold Func.isWrapper; first | (rw [if_pos (by decide +kernel)]; kernel_rfl) | (rw [if_neg (by decide +kernel)]; exact ⟨rfl, rfl⟩))
    (fun os started H enc _ => lifted os started H enc)
#print axioms proved
end Go.Proofs.Ytkjjieofoolnhaa.fnExactShotView
