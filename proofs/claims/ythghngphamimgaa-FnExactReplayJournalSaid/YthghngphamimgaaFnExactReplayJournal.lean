/- Proves Rows.FnExactReplayJournalSaid: for every input the law FnExactReplayJournal returns true and leaves its arguments as they were. Conditions: none. -/
import Derived.Test.YthghngphamimgaaOpen
import Derived.Test.YthghngphamimgaaOpenS
import Derived.Test.YthghngphamimgaaRecIn
import Derived.Test.YthghngphamimgaaRecJ
import Derived.Test.YthghngphamimgaaRecX
import Derived.Test.YthghngphamimgaaRecM
import Derived.Test.YthghngphamimgaaEqI
import Derived.Test.YthghngphamimgaaMark
import Derived.Test.YthghngphamimgaaIntsX
import Derived.Deep.RegionHeld3
namespace Go.Proofs.Ythghngphamimgaa.fnExactReplayJournal
open Go.ChangeShapes Go.WideShapes Go.ChangeAt Go.RowKit
set_option linter.unusedVariables false
theorem replayV_len (d : List Int) (l : List Rc) : (replayV d l).length ≤ d.length := by
  unfold replayV
  split
  · rw [replayN_len]; exact Nat.le_refl _
  · simp

theorem resOf {R L : List Int} (hR : R = L) {W : World} {e : Ending} {w' : World} (h : OwnIs L W e w') : ∃ A c, e = .returned (.slice A R.length c) ∧ w'.ownsRow W.heap.size 3 1 (.slice A R.length c) R.length (R.map (Value.int .i64)) ∧ Below W.heap.size W w' := by subst hR; exact h

set_option maxHeartbeats 4000000 in
theorem walk (Ad : Option Addr) (nd cd : Nat) (d : List Int) (Al : Option Addr) (nl cl : Nat) (l : List Rc) (w : World) (okd : nd = d.length ∧ ReadC w Ad (d.map (Value.int .i64)) ∧ nd ≤ cd ∧ cd ≤ 9223372036854775807) (okl : nl = l.length ∧ RecsIn w Al l ∧ nl ≤ cl ∧ cl ≤ 9223372036854775807) :
    Calls Try.prog 8 #[.slice Ad nd cd, .slice Al nl cl] w fun e w' => e = .returned (.bool true) ∧ Below w.heap.size w w' := by
  obtain ⟨rfl, hd, hnd, hmd⟩ := okd
  replace hd := IntsIn.of hd
  obtain ⟨rfl, hl, hnl, hml⟩ := okl
  by_cases bigd : 1048576 < d.length
  case pos =>
    go_enter Try.func8, Try.ntmps8
    go_wp2
    go_ret
    exact ⟨rfl, Below.refl _ _⟩
  by_cases bigl : (1048576 : Int) - l.length < 0
  case pos =>
    have hsl : (if (1048576 : Int) - l.length < 0 then (-1 : Int) else 1048576 - l.length) = -1 := if_pos bigl
    go_enter Try.func8, Try.ntmps8
    go_wp2_with (go_at_call 12; refine (szRec_any _ _ _ _ _ (by omega) (by omega)).mono ?_; rintro e w' ⟨rfl, rfl⟩; rw [hsl])
    go_ret
    exact ⟨rfl, Below.refl _ _⟩
  have hsl : (if (1048576 : Int) - l.length < 0 then (-1 : Int) else 1048576 - l.length) = 1048576 - l.length := if_neg bigl
  have hld : d.length ≤ 1048576 := by omega
  have hll : l.length ≤ 1048576 := by omega
  obtain ⟨R, hRe⟩ : ∃ R, R = replayV d l := ⟨_, rfl⟩
  have hRl : R.length ≤ 3145728 := by rw [hRe]; have := replayV_len d l; omega
  have HRe := Lib.hid hRe
  have Hd := Lib.hid hd
  have Hl := Lib.hid hl
  clear hRe hd hl
  go_enter Try.func8, Try.ntmps8
  go_wp2_with fail
  refine (szRec_any _ _ _ _ _ (by omega) (by omega)).mono ?_
  rintro e w' ⟨rfl, rfl⟩
  rw [hsl]
  clear hsl bigl
  have Z0 : w.heap.size ≤ w.heap.size := Nat.le_refl _
  go_wp2_with fail
  refine (toInts_any _ _ d _ Hd.out (by omega)).mono ?_
  rintro e w1 ⟨A1, c1, rfl, o1, b1⟩
  have C1 := Lib.hid b1
  have Z1 := b1.size
  have Td1 := Lib.hid o1
  have Tdlt1 := Lib.hid (fun g hg => (Td1.out.lt g hg).2)
  clear b1 o1 
  go_wp2_with fail
  refine (toRecs_any _ _ l _ (Hl.out.below C1.out) (by omega)).mono ?_
  rintro e w2 ⟨A2, c2, rfl, o2, b2⟩
  have C2 := Lib.hid (C1.out.trans (b2.mono C1.out.size))
  have Td2 := Lib.hid (own_below Td1.out b2 (Nat.le_refl _))
  have Z2 := b2.size
  have Tl2 := Lib.hid o2
  have Tllt2 := Lib.hid (fun g hg => (Tl2.out.lt g hg).2)
  clear b2 o2 C1 Td1
  go_wp2_with fail
  refine (specReplay_any _ _ _ _ d l _ (own_read Td2.out) (RecsIn.of (own_read Tl2.out)) (by omega) (by omega)).mono ?_
  rintro e w3 hh3
  obtain ⟨A3, c3, rfl, o3, b3⟩ := resOf HRe.out hh3
  have C3 := Lib.hid (C2.out.trans (b3.mono C2.out.size))
  have Z3 := b3.size
  have R3 := Lib.hid o3
  have Rlt3 := Lib.hid (fun g hg => (R3.out.lt g hg).2)
  clear b3 o3 hh3 C2 Td2 Tl2
  go_wp2_with fail
  refine (toInts_any _ _ d _ (Hd.out.below C3.out) (by omega)).mono ?_
  rintro e w4 ⟨A4, c4, rfl, o4, b4⟩
  have C4 := Lib.hid (C3.out.trans (b4.mono C3.out.size))
  have R4 := Lib.hid (own_below R3.out b4 (Nat.le_refl _))
  have Z4 := b4.size
  have Xd4 := Lib.hid o4
  have Xdlt4 := Lib.hid (fun g hg => (Xd4.out.lt g hg).2)
  clear b4 o4 C3 R3
  go_wp2_with fail
  refine (toRecs_any _ _ l _ (Hl.out.below C4.out) (by omega)).mono ?_
  rintro e w5 ⟨A5, c5, rfl, o5, b5⟩
  have C5 := Lib.hid (C4.out.trans (b5.mono C4.out.size))
  have R5 := Lib.hid (own_below R4.out b5 (Nat.le_refl _))
  have Xd5 := Lib.hid (own_below Xd4.out b5 (Nat.le_refl _))
  have Z5 := b5.size
  have Xl5 := Lib.hid o5
  have Xllt5 := Lib.hid (fun g hg => (Xl5.out.lt g hg).2)
  clear b5 o5 C4 R4 Xd4
  go_wp2_with fail
  refine (implReplay_any _ _ _ _ d l _ (own_read Xd5.out) (RecsIn.of (own_read Xl5.out)) (by omega) (by omega) (own_cap Xl5.out).1 (own_cap Xl5.out).2).mono ?_
  rintro e w6 hh6
  obtain ⟨A6, c6, rfl, o6, b6⟩ := resOf HRe.out hh6
  have C6 := Lib.hid (C5.out.trans (b6.mono C5.out.size))
  have R6 := Lib.hid (own_below R5.out b6 (Nat.le_refl _))
  have Xd6 := Lib.hid (own_below Xd5.out b6 (Nat.le_refl _))
  have Xl6 := Lib.hid (own_below Xl5.out b6 (Nat.le_refl _))
  have Z6 := b6.size
  have G6 := Lib.hid o6
  have Glt6 := Lib.hid (fun g hg => (G6.out.lt g hg).2)
  clear b6 o6 hh6 C5 R5 Xd5 Xl5
  go_wp2_with fail
  refine (eqIntS_any _ _ _ _ R R _ (IntsIn.of (own_read G6.out)) (IntsIn.of (own_read R6.out)) (by omega) (by omega)).mono ?_
  rintro e w7 ⟨rfl, q7, hw7⟩
  have C7 := Lib.hid (show Below w.heap.size w w7 by rw [hw7]; exact belowN C6.out _)
  have Z7 : w6.heap.size = w7.heap.size := by rw [hw7]; rfl
  have R7 := Lib.hid (show w7.ownsRow w2.heap.size 3 1 (.slice A3 R.length c3) R.length (R.map (Value.int .i64)) by rw [hw7]; exact R6.out)
  have Xd7 := Lib.hid (show w7.ownsRow w3.heap.size 3 1 (.slice A4 d.length c4) d.length (d.map (Value.int .i64)) by rw [hw7]; exact Xd6.out)
  have Xl7 := Lib.hid (show w7.ownsRow w4.heap.size 33 4 (.slice A5 l.length c5) l.length (recC l) by rw [hw7]; exact Xl6.out)
  have G7 := Lib.hid (show w7.ownsRow w5.heap.size 3 1 (.slice A6 R.length c6) R.length (R.map (Value.int .i64)) by rw [hw7]; exact G6.out)
  clear hw7 C6 R6 Xd6 Xl6 G6
  go_wp2_with fail
  refine (toInts_any _ _ d _ (Hd.out.below C7.out) (by omega)).mono ?_
  rintro e w8 ⟨A8, c8, rfl, o8, b8⟩
  have C8 := Lib.hid (C7.out.trans (b8.mono C7.out.size))
  have R8 := Lib.hid (own_below R7.out b8 (Nat.le_refl _))
  have Xd8 := Lib.hid (own_below Xd7.out b8 (Nat.le_refl _))
  have Xl8 := Lib.hid (own_below Xl7.out b8 (Nat.le_refl _))
  have G8 := Lib.hid (own_below G7.out b8 (Nat.le_refl _))
  have Z8 := b8.size
  have Td8 := Lib.hid o8
  have Tdlt8 := Lib.hid (fun g hg => (Td8.out.lt g hg).2)
  clear b8 o8 C7 R7 Xd7 Xl7 G7
  go_wp2_with fail
  refine (eqIntS_any _ _ _ _ d d _ (IntsIn.of (own_read Xd8.out)) (IntsIn.of (own_read Td8.out)) (by omega) (by omega)).mono ?_
  rintro e w9 ⟨rfl, q9, hw9⟩
  have C9 := Lib.hid (show Below w.heap.size w w9 by rw [hw9]; exact belowN C8.out _)
  have Z9 : w8.heap.size = w9.heap.size := by rw [hw9]; rfl
  have R9 := Lib.hid (show w9.ownsRow w2.heap.size 3 1 (.slice A3 R.length c3) R.length (R.map (Value.int .i64)) by rw [hw9]; exact R8.out)
  have Xd9 := Lib.hid (show w9.ownsRow w3.heap.size 3 1 (.slice A4 d.length c4) d.length (d.map (Value.int .i64)) by rw [hw9]; exact Xd8.out)
  have Xl9 := Lib.hid (show w9.ownsRow w4.heap.size 33 4 (.slice A5 l.length c5) l.length (recC l) by rw [hw9]; exact Xl8.out)
  have G9 := Lib.hid (show w9.ownsRow w5.heap.size 3 1 (.slice A6 R.length c6) R.length (R.map (Value.int .i64)) by rw [hw9]; exact G8.out)
  clear hw9 C8 R8 Xd8 Xl8 G8 Td8
  go_wp2_with fail
  refine (toRecs_any _ _ l _ (Hl.out.below C9.out) (by omega)).mono ?_
  rintro e w10 ⟨A10, c10, rfl, o10, b10⟩
  have C10 := Lib.hid (C9.out.trans (b10.mono C9.out.size))
  have R10 := Lib.hid (own_below R9.out b10 (Nat.le_refl _))
  have Xd10 := Lib.hid (own_below Xd9.out b10 (Nat.le_refl _))
  have Xl10 := Lib.hid (own_below Xl9.out b10 (Nat.le_refl _))
  have G10 := Lib.hid (own_below G9.out b10 (Nat.le_refl _))
  have Z10 := b10.size
  have Tl10 := Lib.hid o10
  have Tllt10 := Lib.hid (fun g hg => (Tl10.out.lt g hg).2)
  clear b10 o10 C9 R9 Xd9 Xl9 G9
  go_wp2_with fail
  refine (eqRecs_same _ _ _ _ l _ (RecsIn.of (own_read Xl10.out)) (RecsIn.of (own_read Tl10.out)) (by omega)).mono ?_
  rintro e w11 ⟨rfl, b11⟩
  have C11 := Lib.hid (C10.out.trans (b11.mono C10.out.size))
  have R11 := Lib.hid (own_below R10.out b11 (Nat.le_refl _))
  have Xd11 := Lib.hid (own_below Xd10.out b11 (Nat.le_refl _))
  have Xl11 := Lib.hid (own_below Xl10.out b11 (Nat.le_refl _))
  have G11 := Lib.hid (own_below G10.out b11 (Nat.le_refl _))
  have Z11 := b11.size
  clear b11 C10 R10 Xd10 Xl10 G10 Tl10
  go_wp2_with fail
  refine (mark_any w3.heap.size w4.heap.size _ _ d (1) _ (own_at Xd11.out (fun g hg => ⟨(Xd11.out.lt g hg).1, Xdlt4.out g hg⟩)) (by omega) (by omega)).mono ?_
  rintro e w12 ⟨rfl, _, t12⟩
  have C12 := Lib.hid (C11.out.trans (t12.below w.heap.size (by omega) C11.out.size))
  have Z12 := t12.size
  have R12 := Lib.hid (own_turn R11.out t12 (fun g hg hh => by have q1 := (R11.out.lt g hg).1; have q2 := Rlt3.out g hg;  omega))
  have Xl12 := Lib.hid (own_turn Xl11.out t12 (fun g hg hh => by have q1 := (Xl11.out.lt g hg).1; have q2 := Xllt5.out g hg;  omega))
  have G12 := Lib.hid (own_turn G11.out t12 (fun g hg hh => by have q1 := (G11.out.lt g hg).1; have q2 := Glt6.out g hg;  omega))
  clear t12 C11 R11 Xd11 Xl11 G11
  go_wp2_with fail
  refine (markRec_any w4.heap.size w5.heap.size _ _ l (1 + (d.length : Int)) _ (own_at Xl12.out (fun g hg => ⟨(Xl12.out.lt g hg).1, Xllt5.out g hg⟩)) (by omega) (by omega)).mono ?_
  rintro e w13 ⟨rfl, _, t13⟩
  have C13 := Lib.hid (C12.out.trans (t13.below w.heap.size (by omega) C12.out.size))
  have Z13 := t13.size
  have R13 := Lib.hid (own_turn R12.out t13 (fun g hg hh => by have q1 := (R12.out.lt g hg).1; have q2 := Rlt3.out g hg;  omega))
  have G13 := Lib.hid (own_turn G12.out t13 (fun g hg hh => by have q1 := (G12.out.lt g hg).1; have q2 := Glt6.out g hg;  omega))
  clear t13 C12 R12 Xl12 G12
  go_wp2_with fail
  refine (eqIntS_any _ _ _ _ R R _ (IntsIn.of (own_read G13.out)) (IntsIn.of (own_read R13.out)) (by omega) (by omega)).mono ?_
  rintro e w14 ⟨rfl, q14, hw14⟩
  have C14 := Lib.hid (show Below w.heap.size w w14 by rw [hw14]; exact belowN C13.out _)
  have Z14 : w13.heap.size = w14.heap.size := by rw [hw14]; rfl
  have R14 := Lib.hid (show w14.ownsRow w2.heap.size 3 1 (.slice A3 R.length c3) R.length (R.map (Value.int .i64)) by rw [hw14]; exact R13.out)
  have G14 := Lib.hid (show w14.ownsRow w5.heap.size 3 1 (.slice A6 R.length c6) R.length (R.map (Value.int .i64)) by rw [hw14]; exact G13.out)
  clear hw14 C13 R13 G13
  obtain ⟨ra, rb, oG, rG⟩ := own_range G14.out
  have RG := Lib.hid (fun g (h1 : ra ≤ g) (h2 : g < rb) => (G14.out.lt g (rG g h1 h2)).1)
  clear rG
  go_wp2_with fail
  refine (mark_any ra rb _ _ R 1 _ oG (by omega) (by omega)).mono ?_
  rintro e w15 ⟨rfl, oM, t15⟩
  have C15 := Lib.hid (C14.out.trans ((t15.wide (lo := w5.heap.size) (hi := w15.heap.size + rb) (fun g h1 h2 => ⟨by have := RG.out g h1 h2; omega, by omega⟩)).below w.heap.size (by omega) C14.out.size))
  have Z15 := t15.size
  have R15 := Lib.hid (own_turn R14.out t15 (fun g hg hh => by have q1 := (R14.out.lt g hg).1; have q2 := Rlt3.out g hg; have q3 := RG.out g hh.1 hh.2; omega))
  have M15 := Lib.hid oM
  clear t15 oG oM RG C14 R14 G14
  go_wp2_with fail
  refine (held_any _ R.length _ 1 _ (IntsIn.of M15.out.read) (by omega) (by omega)).mono ?_
  rintro e w' ⟨rfl, rfl⟩
  have kk1 : (1 + (R.length : Int) != 1 + (R.length : Int)) = false := by simp
  go_wp2_with fail
  refine (toInts_any _ _ d _ (Hd.out.below C15.out) (by omega)).mono ?_
  rintro e w16 ⟨A16, c16, rfl, o16, b16⟩
  have C16 := Lib.hid (C15.out.trans (b16.mono C15.out.size))
  have R16 := Lib.hid (own_below R15.out b16 (Nat.le_refl _))
  have M16 := Lib.hid (M15.out.below b16)
  have Z16 := b16.size
  have Td16 := Lib.hid o16
  have Tdlt16 := Lib.hid (fun g hg => (Td16.out.lt g hg).2)
  clear b16 o16 C15 R15 M15
  go_wp2_with fail
  refine (toRecs_any _ _ l _ (Hl.out.below C16.out) (by omega)).mono ?_
  rintro e w17 ⟨A17, c17, rfl, o17, b17⟩
  have C17 := Lib.hid (C16.out.trans (b17.mono C16.out.size))
  have R17 := Lib.hid (own_below R16.out b17 (Nat.le_refl _))
  have M17 := Lib.hid (M16.out.below b17)
  have Td17 := Lib.hid (own_below Td16.out b17 (Nat.le_refl _))
  have Z17 := b17.size
  have Tl17 := Lib.hid o17
  have Tllt17 := Lib.hid (fun g hg => (Tl17.out.lt g hg).2)
  clear b17 o17 C16 R16 M16 Td16
  go_wp2_with fail
  refine (implReplay_any _ _ _ _ d l _ (own_read Td17.out) (RecsIn.of (own_read Tl17.out)) (by omega) (by omega) (own_cap Tl17.out).1 (own_cap Tl17.out).2).mono ?_
  rintro e w18 hh18
  obtain ⟨A18, c18, rfl, o18, b18⟩ := resOf HRe.out hh18
  have C18 := Lib.hid (C17.out.trans (b18.mono C17.out.size))
  have R18 := Lib.hid (own_below R17.out b18 (Nat.le_refl _))
  have M18 := Lib.hid (M17.out.below b18)
  have Z18 := b18.size
  have H18 := Lib.hid o18
  have Hlt18 := Lib.hid (fun g hg => (H18.out.lt g hg).2)
  clear b18 o18 hh18 C17 R17 M17 Td17 Tl17
  go_wp2_with fail
  refine (eqIntS_any _ _ _ _ R R _ (IntsIn.of (own_read H18.out)) (IntsIn.of (own_read R18.out)) (by omega) (by omega)).mono ?_
  rintro e w19 ⟨rfl, q19, hw19⟩
  have C19 := Lib.hid (show Below w.heap.size w w19 by rw [hw19]; exact belowN C18.out _)
  have Z19 : w18.heap.size = w19.heap.size := by rw [hw19]; rfl
  have R19 := Lib.hid (show w19.ownsRow w2.heap.size 3 1 (.slice A3 R.length c3) R.length (R.map (Value.int .i64)) by rw [hw19]; exact R18.out)
  have M19 := Lib.hid (show OwnC ra rb w19 3 A6 ((marks 1 R.length).map (Value.int .i64)) by rw [hw19]; exact M18.out)
  have H19 := Lib.hid (show w19.ownsRow w17.heap.size 3 1 (.slice A18 R.length c18) R.length (R.map (Value.int .i64)) by rw [hw19]; exact H18.out)
  clear hw19 C18 R18 M18 H18
  go_wp2_with fail
  refine (held_any _ R.length _ 1 _ (IntsIn.of M19.out.read) (by omega) (by omega)).mono ?_
  rintro e w' ⟨rfl, rfl⟩
  go_wp2
  go_ret
  exact ⟨rfl, C19.out⟩

set_option maxRecDepth 100000 in
theorem lifted (os : Os) (started : os.Started) (H : Type) (enc : TypeId × Value → H) :
    ReturnsInHanded {} Try.checked os 8 .any (Rows.fnExactReplayJournalSpec.pre6 enc Try.prog Try.f8 Rows.fnExactReplayJournalRow.domain false) (Rows.fnExactReplayJournalSpec.post enc Try.prog Try.f8 false true false false) := by
  refine returnsInHanded_of_change (C := Try.checked) own started (by kernel_rfl) Try.func8
    (ChangeSpec.witness6 (enc := enc) (C := Try.checked) false ⟨#[], #[.slice none 0 0, .slice none 0 0], []⟩ 8 (by kernel_rfl) (by kernel_rfl) (by kernel_rfl) (by kernel_rfl)) ?_
  intro W base args ds gs before hval0 hW hcnd _
  have hval : ∀ (j : Nat) t v, Try.f8.params[j]? = some t → args[j]? = some v → Value.okWide Try.prog W .any base t v := hval0
  have hW' := hW
  obtain ⟨p, q, hA0, hV, rfl, hfz, hnd⟩ := hW
  have hA : DataW.TrodAll enc Try.prog W 0 (fun _ => true) true Try.f8.params.toList args.toList ds p := hA0
  rw [Try.params8] at hA hval
  obtain ⟨v0, vs0, d0, ds0, p0, q0, hargs, rfl, rfl, h0, r0⟩ := trodAll_cons hA
  obtain ⟨v1, vs1, d1, ds1, p1, q1, rfl, rfl, rfl, h1, r1⟩ := trodAll_cons r0
  obtain ⟨rfl, rfl, rfl⟩ := trodAll_nil r1
  obtain rfl : args = #[v0, v1] := by cases args; simp_all
  obtain ⟨rfl, rfl⟩ := trodVars_none hV
  have k0 := h0
  have lt0 : ∀ x ∈ p0, x.block < W.heap.size := by obtain ⟨m, hm⟩ := k0; exact DataW.trod_lt m _ _ _ hm
  obtain ⟨a0, n0, c0, l0, rfl, ok0⟩ := open_ints' (hval 0 36 v0 rfl rfl) h0
  have k1 := h1
  have lt1 : ∀ x ∈ p1, x.block < W.heap.size := by obtain ⟨m, hm⟩ := k1; exact DataW.trod_lt m _ _ _ hm
  obtain ⟨a1, n1, c1, l1, rfl, ok1⟩ := open_records (hval 1 22 v1 rfl rfl) h1
  clear hA0 hval0
  refine (walk a0 n0 c0 l0 a1 n1 c1 l1 W ok0 ok1).mono fun e W' ⟨he, bel⟩ => ?_
  subst he
  exact ⟨_, rfl, _, _, _, [], _, [], hW', trodAll_mk1 (shut_bool Try.underlying4 _), (trodAll_cons_mk (Below.trod laidOut (by kernel_rfl) (of_decide_eq_true (by kernel_rfl)) k0 bel lt0) (trodAll_cons_mk (Below.trod laidOut (by kernel_rfl) (of_decide_eq_true (by kernel_rfl)) k1 bel lt1) trodAll_mk0)), rfl, bel.frame _, fun h => by cases h⟩

theorem proved : Rows.FnExactReplayJournalSaid :=
  OpenClaim.holds_of_wide 8 Try.f8 rfl rfl rfl rfl rfl rfl rfl ⟨rfl, rfl, rfl, rfl, rfl⟩ rfl rfl rfl rfl rfl (by kernel_rfl) Try.func8 (by kernel_rfl)
    (of_decide_eq_true (by kernel_rfl)) (by unfold Func.isWrapper; first | (rw [if_pos (by decide +kernel)]; kernel_rfl) | (rw [if_neg (by decide +kernel)]; exact ⟨rfl, rfl⟩))
    (fun os started H enc _ => lifted os started H enc)
#print axioms proved
end Go.Proofs.Ythghngphamimgaa.fnExactReplayJournal
