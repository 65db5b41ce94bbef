/- Proves Rows.FnExactCommittedNumbersSaid: for every input the law FnExactCommittedNumbers returns true and leaves its arguments as they were. Conditions: none. -/
import Derived.Test.YthghngphamimgaaOpen
import Derived.Test.YthghngphamimgaaRecIn
import Derived.Test.YthghngphamimgaaRecC
import Derived.Test.YthghngphamimgaaRecX
import Derived.Test.YthghngphamimgaaRecM
import Derived.Test.YthghngphamimgaaEqI
import Derived.Test.YthghngphamimgaaMark
import Derived.Deep.RegionHeld3
namespace Go.Proofs.Ythghngphamimgaa.fnExactCommittedNumbers
open Go.ChangeShapes Go.WideShapes Go.ChangeAt Go.RowKit
set_option linter.unusedVariables false
theorem commV_len (l : List Rc) : (commV l).length ≤ l.length := by unfold commV; split; exact commN_len l; simp

set_option maxHeartbeats 2000000 in
theorem walk (A : Option Addr) (n c : Nat) (l : List Rc) (w : World) (ok : n = l.length ∧ RecsIn w A l ∧ n ≤ c ∧ c ≤ 9223372036854775807) :
    Calls Try.prog 5 #[.slice A n c] w fun e w' => e = .returned (.bool true) ∧ Below w.heap.size w w' := by
  obtain ⟨rfl, h, hn, hn2⟩ := ok
  by_cases hbig : (1048576 : Int) - l.length < 0
  · have hs : (if (1048576 : Int) - l.length < 0 then (-1 : Int) else 1048576 - l.length) = -1 := if_pos hbig
    go_enter Try.func5, Try.ntmps5
    go_wp2_with (go_at_call 12; refine (szRec_any _ _ _ _ _ (by omega) (by omega)).mono ?_; rintro e w' ⟨rfl, rfl⟩; rw [hs])
    go_ret
    exact ⟨rfl, Below.refl _ _⟩
  · have hs : (if (1048576 : Int) - l.length < 0 then (-1 : Int) else 1048576 - l.length) = 1048576 - l.length := if_neg hbig
    have hl : l.length ≤ 1048576 := by omega
    obtain ⟨R, hRe⟩ : ∃ R, R = commV l := ⟨_, rfl⟩
    have hRl : R.length ≤ 1048576 := by rw [hRe]; have := commV_len l; omega
    have HRe := Lib.hid hRe
    have HR := Lib.hid h
    clear hRe h
    go_enter Try.func5, Try.ntmps5
    go_wp2_with fail
    refine (szRec_any _ _ _ _ _ (by omega) (by omega)).mono ?_
    rintro e w' ⟨rfl, rfl⟩
    rw [hs]
    clear hs hbig
    go_wp2_with fail
    refine (toRecs_any _ _ l _ HR.out (by omega)).mono ?_
    rintro e w1 ⟨A1, c1, rfl, o1, b1⟩
    go_wp2_with fail
    refine (specComm_any _ _ l _ (RecsIn.of (own_read o1)) (by omega)).mono ?_
    rw [← HRe.out]
    rintro e w2 ⟨A2, c2, rfl, r2, b2⟩
    have C2 := Lib.hid (b1.trans (b2.mono b1.size))
    have R2 := Lib.hid r2
    clear o1 b1 b2 r2
    go_wp2_with fail
    refine (toRecs_any _ _ l _ (HR.out.below C2.out) (by omega)).mono ?_
    rintro e w3 ⟨A3, c3, rfl, o3, b3⟩
    have O3 := Lib.hid o3
    have C3 := Lib.hid (C2.out.trans (b3.mono C2.out.size))
    have R3 := Lib.hid (own_below R2.out b3 (Nat.le_refl _))
    have Z23 := b3.size
    have hg2 : w.heap.size ≤ w2.heap.size := C2.out.size
    have R2lt := Lib.hid (fun g hg => (R2.out.lt g hg).2)
    clear b3 o3
    go_wp2_with fail
    refine (implComm_any _ _ l _ (RecsIn.of (own_read O3.out)) (by omega) (own_cap O3.out).1 (own_cap O3.out).2).mono ?_
    rw [← HRe.out]
    rintro e w4 ⟨A4, c4, rfl, g4, b4⟩
    have G4 := Lib.hid g4
    have O4 := Lib.hid (own_below O3.out b4 (Nat.le_refl _))
    have C4 := Lib.hid (C3.out.trans (b4.mono C3.out.size))
    have R4 := Lib.hid (own_below R3.out b4 (Nat.le_refl _))
    have O3lt := Lib.hid (fun g hg => (O3.out.lt g hg).2)
    clear b4 g4 C2 R2 C3 R3 O3
    go_wp2_with fail
    refine (eqIntS_any _ _ _ _ R R _ (IntsIn.of (own_read G4.out)) (IntsIn.of (own_read R4.out)) (by omega) (by omega)).mono ?_
    rintro e w5 ⟨rfl, q5, hw5⟩
    have O5 := Lib.hid (show w5.ownsRow w2.heap.size 33 4 (.slice A3 l.length c3) l.length (recC l) by rw [hw5]; exact O4.out)
    have C5 := Lib.hid (show Below w.heap.size w w5 by rw [hw5]; exact belowN C4.out _)
    have R5 := Lib.hid (show w5.ownsRow w1.heap.size 3 1 (.slice A2 R.length c2) R.length (R.map (Value.int .i64)) by rw [hw5]; exact R4.out)
    have G5 := Lib.hid (show w5.ownsRow w3.heap.size 3 1 (.slice A4 R.length c4) R.length (R.map (Value.int .i64)) by rw [hw5]; exact G4.out)
    clear hw5 O4 C4 R4 G4
    go_wp2_with fail
    refine (toRecs_any _ _ l _ (HR.out.below C5.out) (by omega)).mono ?_
    rintro e w6 ⟨A6, c6, rfl, o6, b6⟩
    have O6 := Lib.hid (own_below O5.out b6 (Nat.le_refl _))
    have C6 := Lib.hid (C5.out.trans (b6.mono C5.out.size))
    have R6 := Lib.hid (own_below R5.out b6 (Nat.le_refl _))
    have G6 := Lib.hid (own_below G5.out b6 (Nat.le_refl _))
    clear b6 O5 C5 R5 G5
    go_wp2_with fail
    refine (eqRecs_same _ _ _ _ l _ (RecsIn.of (own_read O6.out)) (RecsIn.of (own_read o6)) (by omega)).mono ?_
    rintro e w7 ⟨rfl, b7⟩
    have O7 := Lib.hid (own_below O6.out b7 (Nat.le_refl _))
    have C7 := Lib.hid (C6.out.trans (b7.mono C6.out.size))
    have R7 := Lib.hid (own_below R6.out b7 (Nat.le_refl _))
    have G7 := Lib.hid (own_below G6.out b7 (Nat.le_refl _))
    clear b7 o6 O6 C6 R6 G6
    go_wp2_with fail
    refine (markRec_any w2.heap.size w3.heap.size _ _ l 1 _ (own_at O7.out (fun g hg => ⟨(O7.out.lt g hg).1, O3lt.out g hg⟩)) (by omega) (by omega)).mono ?_
    rintro e w8 ⟨rfl, _, t8⟩
    have C8 := Lib.hid (C7.out.trans (t8.below w.heap.size hg2 C7.out.size))
    have R8 := Lib.hid (own_turn R7.out t8 (fun g hg hh => by have := R2lt.out g hg; omega))
    have G8 := Lib.hid (own_turn G7.out t8 (fun g hg hh => by have := (G7.out.lt g hg).1; omega))
    clear t8 O7 C7 R7 G7
    go_wp2_with fail
    refine (eqIntS_any _ _ _ _ R R _ (IntsIn.of (own_read G8.out)) (IntsIn.of (own_read R8.out)) (by omega) (by omega)).mono ?_
    rintro e w10 ⟨rfl, q10, hw10⟩
    obtain ⟨a, b, oG, rG⟩ := own_range G8.out
    have oG10 : OwnC a b w10 3 A4 (R.map (Value.int .i64)) := by rw [hw10]; exact oG
    have C10 := Lib.hid (show Below w.heap.size w w10 by rw [hw10]; exact belowN C8.out _)
    have R10 := Lib.hid (show w10.ownsRow w1.heap.size 3 1 (.slice A2 R.length c2) R.length (R.map (Value.int .i64)) by rw [hw10]; exact R8.out)
    have RG := Lib.hid (fun g (h1 : a ≤ g) (h2 : g < b) => (G8.out.lt g (rG g h1 h2)).1)
    clear hw10 oG rG C8 R8 G8
    go_wp2_with fail
    refine (mark_any a b _ _ R 1 _ oG10 (by omega) (by omega)).mono ?_
    rintro e w11 ⟨rfl, oM, t11⟩
    have C11 := Lib.hid (C10.out.trans ((t11.wide (lo := w2.heap.size) (hi := w11.heap.size + b) (fun g h1 h2 => ⟨by have := RG.out g h1 h2; omega, by omega⟩)).below w.heap.size hg2 C10.out.size))
    have R11 := Lib.hid (own_turn R10.out t11 (fun g hg hh => by have := R2lt.out g hg; have := RG.out g hh.1 hh.2; omega))
    clear t11 oG10 C10 R10 RG
    have OM := Lib.hid oM
    clear oM
    go_wp2_with fail
    refine (held_any _ R.length _ 1 _ (IntsIn.of OM.out.read) (by omega) (by omega)).mono ?_
    rintro e w' ⟨rfl, rfl⟩
    have k1 : ((1 : Int) + R.length != 1 + R.length) = false := by simp
    go_wp2_with fail
    refine (toRecs_any _ _ l _ (HR.out.below C11.out) (by omega)).mono ?_
    rintro e w12 ⟨A12, c12, rfl, o12, b12⟩
    have C12 := Lib.hid (C11.out.trans (b12.mono C11.out.size))
    have O12 := Lib.hid o12
    have R12 := Lib.hid (own_below R11.out b12 (Nat.le_refl _))
    have M12 := Lib.hid (OM.out.below b12)
    clear b12 o12 C11 R11 OM
    go_wp2_with fail
    refine (implComm_any _ _ l _ (RecsIn.of (own_read O12.out)) (by omega) (own_cap O12.out).1 (own_cap O12.out).2).mono ?_
    rw [← HRe.out]
    rintro e w13 ⟨A13, c13, rfl, g13, b13⟩
    have C13 := Lib.hid (C12.out.trans (b13.mono C12.out.size))
    have R13 := Lib.hid (own_below R12.out b13 (Nat.le_refl _))
    have M13 := Lib.hid (M12.out.below b13)
    have G13 := Lib.hid g13
    clear b13 g13 C12 R12 M12 O12
    go_wp2_with fail
    refine (eqIntS_any _ _ _ _ R R _ (IntsIn.of (own_read G13.out)) (IntsIn.of (own_read R13.out)) (by omega) (by omega)).mono ?_
    rintro e w14 ⟨rfl, q14, hw14⟩
    have C14 := Lib.hid (show Below w.heap.size w w14 by rw [hw14]; exact belowN C13.out _)
    have M14 := Lib.hid (show OwnC a b w14 3 A4 ((marks 1 R.length).map (Value.int .i64)) by rw [hw14]; exact M13.out)
    clear hw14 C13 R13 M13 G13
    go_wp2_with fail
    refine (held_any _ R.length _ 1 _ (IntsIn.of M14.out.read) (by omega) (by omega)).mono ?_
    rintro e w' ⟨rfl, rfl⟩
    go_wp2
    go_ret
    exact ⟨rfl, C14.out⟩

set_option maxRecDepth 100000 in
theorem lifted (os : Os) (started : os.Started) (H : Type) (enc : TypeId × Value → H) :
    ReturnsInHanded {} Try.checked os 5 .any (Rows.fnExactCommittedNumbersSpec.pre6 enc Try.prog Try.f5 Rows.fnExactCommittedNumbersRow.domain false) (Rows.fnExactCommittedNumbersSpec.post enc Try.prog Try.f5 false true false false) := by
  refine returnsInHanded_of_change (C := Try.checked) own started (by kernel_rfl) Try.func5
    (ChangeSpec.witness6 (enc := enc) (C := Try.checked) false ⟨#[], #[.slice none 0 0], []⟩ 8 (by kernel_rfl) (by kernel_rfl) (by kernel_rfl) (by kernel_rfl)) ?_
  intro W base args ds gs before hval0 hW hcnd _
  have hval : ∀ (j : Nat) t v, Try.f5.params[j]? = some t → args[j]? = some v → Value.okWide Try.prog W .any base t v := hval0
  have hW' := hW
  obtain ⟨p, q, hA0, hV, rfl, hfz, hnd⟩ := hW
  have hA : DataW.TrodAll enc Try.prog W 0 (fun _ => true) true Try.f5.params.toList args.toList ds p := hA0
  rw [Try.params5] at hA hval
  obtain ⟨v0, vs0, d0, ds0, p0, q0, hargs, rfl, rfl, h0, r0⟩ := trodAll_cons hA
  obtain ⟨rfl, rfl, rfl⟩ := trodAll_nil r0
  obtain rfl : args = #[v0] := by cases args; simp_all
  obtain ⟨rfl, rfl⟩ := trodVars_none hV
  have k0 := h0
  have lt0 : ∀ x ∈ p0, x.block < W.heap.size := by obtain ⟨m, hm⟩ := k0; exact DataW.trod_lt m _ _ _ hm
  obtain ⟨a0, n0, c0, l0, rfl, ok0⟩ := open_records (hval 0 22 v0 rfl rfl) h0
  clear hA0 hval0
  refine (walk a0 n0 c0 l0 W ok0).mono fun e W' ⟨he, bel⟩ => ?_
  subst he
  exact ⟨_, rfl, _, _, _, [], _, [], hW', trodAll_mk1 (shut_bool Try.underlying4 _), (trodAll_cons_mk (Below.trod laidOut (by kernel_rfl) (of_decide_eq_true (by kernel_rfl)) k0 bel lt0) trodAll_mk0), rfl, bel.frame _, fun h => by cases h⟩

theorem proved : Rows.FnExactCommittedNumbersSaid :=
  OpenClaim.holds_of_wide 5 Try.f5 rfl rfl rfl rfl rfl rfl rfl ⟨rfl, rfl, rfl, rfl, rfl⟩ rfl rfl rfl rfl rfl (by kernel_rfl) Try.func5 (by kernel_rfl)
    (of_decide_eq_true (by kernel_rfl)) (by unfold Func.isWrapper; first | (rw [if_pos (by decide +kernel)]; kernel_rfl) | (rw [if_neg (by decide +kernel)]; exact ⟨rfl, rfl⟩))
    (fun os started H enc _ => lifted os started H enc)
#print axioms proved
end Go.Proofs.Ythghngphamimgaa.fnExactCommittedNumbers
