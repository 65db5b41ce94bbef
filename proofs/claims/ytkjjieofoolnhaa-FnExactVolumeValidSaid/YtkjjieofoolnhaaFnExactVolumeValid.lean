/- Proves Rows.FnExactVolumeValidSaid: for every input the law FnExactVolumeValid returns true and leaves its arguments as they were. Conditions: none. -/
import Derived.Test.YtkjjieofoolnhaaOpen
import Derived.Test.YtkjjieofoolnhaaOpenV
import Derived.Test.YtkjjieofoolnhaaVolX
import Derived.Test.YtkjjieofoolnhaaVolW
import Derived.Test.YtkjjieofoolnhaaVolU
import Derived.Deep.RegionHeld3
namespace Go.Proofs.Ytkjjieofoolnhaa.fnExactVolumeValid
open Go.ChangeShapes Go.WideShapes Go.ChangeAt Go.RowKit
set_option linter.unusedVariables false
set_option maxHeartbeats 1000000 in
theorem walk (v : Value) (N : List Int) (S : List (List Sv)) (w : World) (h : VolR w v N S) :
    Calls Try.prog 7 #[v] w fun e w' => e = .returned (.bool true) ∧ Below w.heap.size w w' := by
  obtain ⟨A, c, B, d, rfl, hr⟩ : ∃ A c B d, v = .agg #[.slice A N.length c, .slice B S.length d] ∧ (N.length ≤ c ∧ c ≤ 9223372036854775807 ∧ S.length ≤ d ∧ d ≤ 9223372036854775807) := by obtain ⟨A, c, B, d, e, _, _, r⟩ := h; exact ⟨A, c, B, d, e, r⟩
  have HR := Lib.hid h
  clear h
  go_enter Try.func7, Try.ntmps7
  go_wp2_with fail
  refine (szVol_any _ N S _ _ (HR.out.alloc _) (by omega)).mono ?_
  rintro e w1 ⟨r, rfl, b1, hr⟩
  have k1 : Blk w1 w.heap.size 25 #[.slice A N.length c, .slice B S.length d] := blk_below b1 (Blk.new rfl) (by simp)
  have c1 : Below w.heap.size w w1 := (b_alloc (Below.refl _ _) _).trans (b1.mono (by simp))
  have K1 := Lib.hid k1
  have C1 := Lib.hid c1
  clear k1 c1 b1
  rcases hr with rfl | ⟨hr0, hr1⟩
  · go_wp2
    go_ret
    exact ⟨rfl, C1.out⟩
  · obtain ⟨x0, x1, f0, f1⟩ := K1.out.two
    obtain ⟨hN, hS⟩ : N.length ≤ 1048576 ∧ S.length + sumN S ≤ 1048576 := by omega
    clear hr1
    go_wp2_with fail
    refine (toVol_any _ N S _ (HR.out.below C1.out) (by omega) (by omega)).mono ?_
    rintro e w2 ⟨v2, rfl, o2, b2⟩
    have K2 := Lib.hid (show Blk w2 w.heap.size 25 #[.slice A N.length c, .slice B S.length d] from blk_below b2 K1.out K1.out.lt)
    have C2 := Lib.hid (C1.out.trans (b2.mono C1.out.size))
    have O2 := Lib.hid o2
    clear x0 x1 f0 f1 b2 o2
    go_wp2_with fail
    refine (specVol_any _ N S _ O2.out.read (by omega) (by omega)).mono ?_
    rintro e w3 ⟨rfl, b3⟩
    have K3 := Lib.hid (show Blk w3 w.heap.size 25 #[.slice A N.length c, .slice B S.length d] from blk_below b3 K2.out K2.out.lt)
    have C3 := Lib.hid (C2.out.trans (b3.mono C2.out.size))
    clear b3
    obtain ⟨x0, x1, f0, f1⟩ := K3.out.two
    go_wp2_with fail
    refine (toVol_any _ N S _ (HR.out.below C3.out) (by omega) (by omega)).mono ?_
    rintro e w4 ⟨v4, rfl, o4, b4⟩
    have O4 := Lib.hid o4
    obtain ⟨A4, c4, B4, d4, _, rfl, _⟩ := o4
    have K4 := Lib.hid (show Blk w4 w.heap.size 25 #[.slice A N.length c, .slice B S.length d] from blk_below b4 K3.out K3.out.lt)
    have C4 := Lib.hid (C3.out.trans (b4.mono C3.out.size))
    clear x0 x1 f0 f1 b4
    go_wp2_with fail
    refine (implVol_any _ N S _ (O4.out.read.alloc _) (by omega) (by omega)).mono ?_
    rintro e w5 ⟨rfl, b5⟩
    have K5 := Lib.hid (show Blk w5 w.heap.size 25 #[.slice A N.length c, .slice B S.length d] from blk_below b5 (K4.out.alloc _) (by have := K4.out.lt; simp; omega))
    have X5 := Lib.hid (show Blk w5 w4.heap.size 29 #[.slice A4 N.length c4, .slice B4 S.length d4] from blk_below b5 (Blk.new rfl) (by simp))
    have C5 := Lib.hid ((b_alloc C4.out _).trans (b5.mono (by have := C4.out.size; simp; omega)))
    have O5 := Lib.hid ((O4.out.below (b_alloc (Below.refl _ _) _)).below b5)
    have kk : (volB N S != volB N S) = false := by simp
    clear b5
    obtain ⟨x0, x1, f0, f1⟩ := K5.out.two
    obtain ⟨y0, y1, g0, g1⟩ := X5.out.two
    go_wp2_with fail
    go_region_held3 (fun w' => w'.cell? ⟨w.heap.size, 0, none⟩ = some (.slice A N.length c) ∧ w'.cell? ⟨w.heap.size, 1, none⟩ = some (.slice B S.length d) ∧ w'.cell? ⟨w4.heap.size, 0, none⟩ = some (.slice A4 N.length c4) ∧ w'.cell? ⟨w4.heap.size, 1, none⟩ = some (.slice B4 S.length d4)) (go_keep)
      (first
        | (go_at_call 16; refine (toVol_any _ N S _ (HR.out.below (b_drew C5.out)) (by omega) (by omega)).mono ?_; rintro e w6 ⟨v6, rfl, o6, b6⟩; obtain ⟨x0, x1, f0, f1⟩ := (blk_below b6 K5.out K5.out.lt).two; obtain ⟨y0, y1, g0, g1⟩ := (blk_below b6 X5.out X5.out.lt).two)
        | (go_at_call 18; refine (eqVol_same _ _ N S _ (O5.out.drew.below b6).read o6.read (by omega) (by omega)).mono ?_; rintro e w7 ⟨rfl, b7⟩; obtain ⟨x0, x1, f0, f1⟩ := (blk_below b7 (blk_below b6 K5.out K5.out.lt) (Nat.lt_of_lt_of_le K5.out.lt b6.size)).two; obtain ⟨y0, y1, g0, g1⟩ := (blk_below b7 (blk_below b6 X5.out X5.out.lt) (Nat.lt_of_lt_of_le X5.out.lt b6.size)).two))
    have C7 := Lib.hid (((b_drew C5.out).trans (b6.mono C5.out.size)).trans (b7.mono (Nat.le_trans C5.out.size b6.size)))
    clear b6 b7 o6
    go_wp2
    go_ret
    exact ⟨rfl, C7.out⟩

set_option maxRecDepth 100000 in
theorem lifted (os : Os) (started : os.Started) (H : Type) (enc : TypeId × Value → H) :
    ReturnsInHanded {} Try.checked os 7 .any (Rows.fnExactVolumeValidSpec.pre6 enc Try.prog Try.f7 Rows.fnExactVolumeValidRow.domain false) (Rows.fnExactVolumeValidSpec.post enc Try.prog Try.f7 false true false false) := by
  refine returnsInHanded_of_change (C := Try.checked) own started (by kernel_rfl) Try.func7
    (ChangeSpec.witness6 (enc := enc) (C := Try.checked) false ⟨#[], #[.agg #[.slice none 0 0, .slice none 0 0]], []⟩ 8 (by kernel_rfl) (by kernel_rfl) (by kernel_rfl) (by kernel_rfl)) ?_
  intro W base args ds gs before hval0 hW hcnd _
  have hval : ∀ (j : Nat) t v, Try.f7.params[j]? = some t → args[j]? = some v → Value.okWide Try.prog W .any base t v := hval0
  have hW' := hW
  obtain ⟨p, q, hA0, hV, rfl, hfz, hnd⟩ := hW
  have hA : DataW.TrodAll enc Try.prog W 0 (fun _ => true) true Try.f7.params.toList args.toList ds p := hA0
  rw [Try.params7] at hA hval
  obtain ⟨v0, vs0, d0, ds0, p0, q0, hargs, rfl, rfl, h0, r0⟩ := trodAll_cons hA
  obtain ⟨rfl, rfl, rfl⟩ := trodAll_nil r0
  obtain rfl : args = #[v0] := by cases args; simp_all
  obtain ⟨rfl, rfl⟩ := trodVars_none hV
  have k0 := h0
  have lt0 : ∀ x ∈ p0, x.block < W.heap.size := by obtain ⟨m, hm⟩ := k0; exact DataW.trod_lt m _ _ _ hm
  obtain ⟨l0, k0', ok0⟩ := open_volume (hval 0 25 v0 rfl rfl) h0
  clear hA0 hval0
  refine (walk v0 l0 k0' W ok0).mono fun e W' ⟨he, bel⟩ => ?_
  subst he
  exact ⟨_, rfl, _, _, _, [], _, [], hW', trodAll_mk1 (shut_bool Try.underlying4 _), (trodAll_cons_mk (Below.trod laidOut (by kernel_rfl) (of_decide_eq_true (by kernel_rfl)) k0 bel lt0) trodAll_mk0), rfl, bel.frame _, fun h => by cases h⟩

theorem proved : Rows.FnExactVolumeValidSaid :=
  OpenClaim.holds_of_wide 7 Try.f7 rfl rfl rfl rfl rfl rfl rfl ⟨rfl, rfl, rfl, rfl, rfl⟩ rfl rfl rfl rfl rfl (by kernel_rfl) Try.func7 (by kernel_rfl)
    (of_decide_eq_true (by kernel_rfl)) (by unfold Func.isWrapper; first | (rw [if_pos (by decide +kernel)]; kernel_rfl) | (rw [if_neg (by decide +kernel)]; exact ⟨rfl, rfl⟩))
    (fun os started H enc _ => lifted os started H enc)
#print axioms proved
end Go.Proofs.Ytkjjieofoolnhaa.fnExactVolumeValid
