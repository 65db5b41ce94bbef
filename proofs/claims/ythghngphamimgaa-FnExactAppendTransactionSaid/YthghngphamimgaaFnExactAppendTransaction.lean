/- Proves Rows.FnExactAppendTransactionSaid: for every input the law FnExactAppendTransaction returns true and leaves its arguments as they were. Conditions: none. -/
import Derived.Test.YthghngphamimgaaOpen
import Derived.Test.YthghngphamimgaaOpenS
import Derived.Test.YthghngphamimgaaRecIn
import Derived.Test.YthghngphamimgaaRecA
import Derived.Test.YthghngphamimgaaRecX
import Derived.Test.YthghngphamimgaaRecM
import Derived.Test.YthghngphamimgaaEqI
import Derived.Test.YthghngphamimgaaMark
import Derived.Test.YthghngphamimgaaIntsX
import Derived.Deep.RegionHeld3
namespace Go.Proofs.Ythghngphamimgaa.fnExactAppendTransaction
open Go.ChangeShapes Go.WideShapes Go.ChangeAt Go.RowKit
set_option linter.unusedVariables false
theorem appV_len (l : List Rc) (x y : Int) (v : List Int) : (appV l x y v).length ≤ l.length + v.length + 1 := by
  unfold appV
  split
  · rw [appL_len]; exact Nat.le_refl _
  · simp

theorem resOf {R L : List Rc} (hR : R = L) {W : World} {e : Ending} {w' : World} (h : OwnRs L W e w') : ∃ A c, e = .returned (.slice A R.length c) ∧ w'.ownsRow W.heap.size 33 4 (.slice A R.length c) R.length (recC R) ∧ Below W.heap.size W w' := by subst hR; exact h

set_option maxHeartbeats 4000000 in
theorem walk (Al : Option Addr) (nl cl : Nat) (l : List Rc) (x : Int) (y : Int) (Av : Option Addr) (nv cv : Nat) (v : List Int) (w : World) (okl : nl = l.length ∧ RecsIn w Al l ∧ nl ≤ cl ∧ cl ≤ 9223372036854775807) (bo_x : -9223372036854775808 ≤ x ∧ x ≤ 9223372036854775807) (bo_y : -9223372036854775808 ≤ y ∧ y ≤ 9223372036854775807) (okv : nv = v.length ∧ ReadC w Av (v.map (Value.int .i64)) ∧ nv ≤ cv ∧ cv ≤ 9223372036854775807) :
    Calls Try.prog 7 #[.slice Al nl cl, .int .i64 x, .int .i64 y, .slice Av nv cv] w fun e w' => e = .returned (.bool true) ∧ Below w.heap.size w w' := by
  obtain ⟨rfl, hl, hnl, hml⟩ := okl
  obtain ⟨rfl, hv, hnv, hmv⟩ := okv
  replace hv := IntsIn.of hv
  by_cases bigv : 1048576 < v.length
  case pos =>
    go_enter Try.func7, Try.ntmps7
    go_wp2
    go_ret
    exact ⟨rfl, Below.refl _ _⟩
  by_cases bigl : (1048576 : Int) - l.length < 0
  case pos =>
    have hsl : (if (1048576 : Int) - l.length < 0 then (-1 : Int) else 1048576 - l.length) = -1 := if_pos bigl
    go_enter Try.func7, Try.ntmps7
    go_wp2_with (go_at_call 12; refine (szRec_any _ _ _ _ _ (by omega) (by omega)).mono ?_; rintro e w' ⟨rfl, rfl⟩; rw [hsl])
    go_ret
    exact ⟨rfl, Below.refl _ _⟩
  have hsl : (if (1048576 : Int) - l.length < 0 then (-1 : Int) else 1048576 - l.length) = 1048576 - l.length := if_neg bigl
  have hll : l.length ≤ 1048576 := by omega
  have hlv : v.length ≤ 1048576 := by omega
  obtain ⟨R, hRe⟩ : ∃ R, R = appV l x y v := ⟨_, rfl⟩
  have hRl : R.length ≤ 3145728 := by rw [hRe]; have := appV_len l x y v; omega
  have HRe := Lib.hid hRe
  have Hl := Lib.hid hl
  have Hv := Lib.hid hv
  clear hRe hl hv
  go_enter Try.func7, Try.ntmps7
  go_wp2_with fail
  refine (szRec_any _ _ _ _ _ (by omega) (by omega)).mono ?_
  rintro e w' ⟨rfl, rfl⟩
  rw [hsl]
  clear hsl bigl
  have Z0 : w.heap.size ≤ w.heap.size := Nat.le_refl _
  go_wp2_with fail
  refine (toRecs_any _ _ l _ Hl.out (by omega)).mono ?_
  rintro e w1 ⟨A1, c1, rfl, o1, b1⟩
  have C1 := Lib.hid b1
  have Z1 := b1.size
  have Tl1 := Lib.hid o1
  have Tllt1 := Lib.hid (fun g hg => (Tl1.out.lt g hg).2)
  clear b1 o1 
  go_wp2_with fail
  refine (toInts_any _ _ v _ (Hv.out.below C1.out) (by omega)).mono ?_
  rintro e w2 ⟨A2, c2, rfl, o2, b2⟩
  have C2 := Lib.hid (C1.out.trans (b2.mono C1.out.size))
  have Tl2 := Lib.hid (own_below Tl1.out b2 (Nat.le_refl _))
  have Z2 := b2.size
  have Tv2 := Lib.hid o2
  have Tvlt2 := Lib.hid (fun g hg => (Tv2.out.lt g hg).2)
  clear b2 o2 C1 Tl1
  go_wp2_with fail
  refine (specApp_any _ _ _ _ l x y v _ (RecsIn.of (own_read Tl2.out)) (own_read Tv2.out) (by omega) (by omega) (own_cap Tl2.out).1 (own_cap Tl2.out).2).mono ?_
  rintro e w3 hh3
  obtain ⟨A3, c3, rfl, o3, b3⟩ := resOf HRe.out hh3
  have C3 := Lib.hid (C2.out.trans (b3.mono C2.out.size))
  have Z3 := b3.size
  have R3 := Lib.hid o3
  have Rlt3 := Lib.hid (fun g hg => (R3.out.lt g hg).2)
  clear b3 o3 hh3 C2 Tl2 Tv2
  go_wp2_with fail
  refine (toRecs_any _ _ l _ (Hl.out.below C3.out) (by omega)).mono ?_
  rintro e w4 ⟨A4, c4, rfl, o4, b4⟩
  have C4 := Lib.hid (C3.out.trans (b4.mono C3.out.size))
  have R4 := Lib.hid (own_below R3.out b4 (Nat.le_refl _))
  have Z4 := b4.size
  have Xl4 := Lib.hid o4
  have Xllt4 := Lib.hid (fun g hg => (Xl4.out.lt g hg).2)
  clear b4 o4 C3 R3
  go_wp2_with fail
  refine (toInts_any _ _ v _ (Hv.out.below C4.out) (by omega)).mono ?_
  rintro e w5 ⟨A5, c5, rfl, o5, b5⟩
  have C5 := Lib.hid (C4.out.trans (b5.mono C4.out.size))
  have R5 := Lib.hid (own_below R4.out b5 (Nat.le_refl _))
  have Xl5 := Lib.hid (own_below Xl4.out b5 (Nat.le_refl _))
  have Z5 := b5.size
  have Xv5 := Lib.hid o5
  have Xvlt5 := Lib.hid (fun g hg => (Xv5.out.lt g hg).2)
  clear b5 o5 C4 R4 Xl4
  go_wp2_with fail
  refine (implApp_any _ _ _ _ l x y v _ (RecsIn.of (own_read Xl5.out)) (own_read Xv5.out) (by omega) (by omega) (own_cap Xl5.out).1 (own_cap Xl5.out).2).mono ?_
  rintro e w6 hh6
  obtain ⟨A6, c6, rfl, o6, b6⟩ := resOf HRe.out hh6
  have C6 := Lib.hid (C5.out.trans (b6.mono C5.out.size))
  have R6 := Lib.hid (own_below R5.out b6 (Nat.le_refl _))
  have Xl6 := Lib.hid (own_below Xl5.out b6 (Nat.le_refl _))
  have Xv6 := Lib.hid (own_below Xv5.out b6 (Nat.le_refl _))
  have Z6 := b6.size
  have G6 := Lib.hid o6
  have Glt6 := Lib.hid (fun g hg => (G6.out.lt g hg).2)
  clear b6 o6 hh6 C5 R5 Xl5 Xv5
  go_wp2_with fail
  refine (eqRecs_same _ _ _ _ R _ (RecsIn.of (own_read G6.out)) (RecsIn.of (own_read R6.out)) (by omega)).mono ?_
  rintro e w7 ⟨rfl, b7⟩
  have C7 := Lib.hid (C6.out.trans (b7.mono C6.out.size))
  have R7 := Lib.hid (own_below R6.out b7 (Nat.le_refl _))
  have Xl7 := Lib.hid (own_below Xl6.out b7 (Nat.le_refl _))
  have Xv7 := Lib.hid (own_below Xv6.out b7 (Nat.le_refl _))
  have G7 := Lib.hid (own_below G6.out b7 (Nat.le_refl _))
  have Z7 := b7.size
  clear b7 C6 R6 Xl6 Xv6 G6
  go_wp2_with fail
  refine (toRecs_any _ _ l _ (Hl.out.below C7.out) (by omega)).mono ?_
  rintro e w8 ⟨A8, c8, rfl, o8, b8⟩
  have C8 := Lib.hid (C7.out.trans (b8.mono C7.out.size))
  have R8 := Lib.hid (own_below R7.out b8 (Nat.le_refl _))
  have Xl8 := Lib.hid (own_below Xl7.out b8 (Nat.le_refl _))
  have Xv8 := Lib.hid (own_below Xv7.out b8 (Nat.le_refl _))
  have G8 := Lib.hid (own_below G7.out b8 (Nat.le_refl _))
  have Z8 := b8.size
  have Tl8 := Lib.hid o8
  have Tllt8 := Lib.hid (fun g hg => (Tl8.out.lt g hg).2)
  clear b8 o8 C7 R7 Xl7 Xv7 G7
  go_wp2_with fail
  refine (eqRecs_same _ _ _ _ l _ (RecsIn.of (own_read Xl8.out)) (RecsIn.of (own_read Tl8.out)) (by omega)).mono ?_
  rintro e w9 ⟨rfl, b9⟩
  have C9 := Lib.hid (C8.out.trans (b9.mono C8.out.size))
  have R9 := Lib.hid (own_below R8.out b9 (Nat.le_refl _))
  have Xl9 := Lib.hid (own_below Xl8.out b9 (Nat.le_refl _))
  have Xv9 := Lib.hid (own_below Xv8.out b9 (Nat.le_refl _))
  have G9 := Lib.hid (own_below G8.out b9 (Nat.le_refl _))
  have Z9 := b9.size
  clear b9 C8 R8 Xl8 Xv8 G8 Tl8
  go_wp2_with fail
  refine (toInts_any _ _ v _ (Hv.out.below C9.out) (by omega)).mono ?_
  rintro e w10 ⟨A10, c10, rfl, o10, b10⟩
  have C10 := Lib.hid (C9.out.trans (b10.mono C9.out.size))
  have R10 := Lib.hid (own_below R9.out b10 (Nat.le_refl _))
  have Xl10 := Lib.hid (own_below Xl9.out b10 (Nat.le_refl _))
  have Xv10 := Lib.hid (own_below Xv9.out b10 (Nat.le_refl _))
  have G10 := Lib.hid (own_below G9.out b10 (Nat.le_refl _))
  have Z10 := b10.size
  have Tv10 := Lib.hid o10
  have Tvlt10 := Lib.hid (fun g hg => (Tv10.out.lt g hg).2)
  clear b10 o10 C9 R9 Xl9 Xv9 G9
  go_wp2_with fail
  refine (eqIntS_any _ _ _ _ v v _ (IntsIn.of (own_read Xv10.out)) (IntsIn.of (own_read Tv10.out)) (by omega) (by omega)).mono ?_
  rintro e w11 ⟨rfl, q11, hw11⟩
  have C11 := Lib.hid (show Below w.heap.size w w11 by rw [hw11]; exact belowN C10.out _)
  have Z11 : w10.heap.size = w11.heap.size := by rw [hw11]; rfl
  have R11 := Lib.hid (show w11.ownsRow w2.heap.size 33 4 (.slice A3 R.length c3) R.length (recC R) by rw [hw11]; exact R10.out)
  have Xl11 := Lib.hid (show w11.ownsRow w3.heap.size 33 4 (.slice A4 l.length c4) l.length (recC l) by rw [hw11]; exact Xl10.out)
  have Xv11 := Lib.hid (show w11.ownsRow w4.heap.size 3 1 (.slice A5 v.length c5) v.length (v.map (Value.int .i64)) by rw [hw11]; exact Xv10.out)
  have G11 := Lib.hid (show w11.ownsRow w5.heap.size 33 4 (.slice A6 R.length c6) R.length (recC R) by rw [hw11]; exact G10.out)
  clear hw11 C10 R10 Xl10 Xv10 G10 Tv10
  go_wp2_with fail
  refine (markRec_any w3.heap.size w4.heap.size _ _ l (1) _ (own_at Xl11.out (fun g hg => ⟨(Xl11.out.lt g hg).1, Xllt4.out g hg⟩)) (by omega) (by omega)).mono ?_
  rintro e w12 ⟨rfl, _, t12⟩
  have C12 := Lib.hid (C11.out.trans (t12.below w.heap.size (by omega) C11.out.size))
  have Z12 := t12.size
  have R12 := Lib.hid (own_turn R11.out t12 (fun g hg hh => by have q1 := (R11.out.lt g hg).1; have q2 := Rlt3.out g hg;  omega))
  have Xv12 := Lib.hid (own_turn Xv11.out t12 (fun g hg hh => by have q1 := (Xv11.out.lt g hg).1; have q2 := Xvlt5.out g hg;  omega))
  have G12 := Lib.hid (own_turn G11.out t12 (fun g hg hh => by have q1 := (G11.out.lt g hg).1; have q2 := Glt6.out g hg;  omega))
  clear t12 C11 R11 Xl11 Xv11 G11
  go_wp2_with fail
  refine (mark_any w4.heap.size w5.heap.size _ _ v (1 + 4 * (l.length : Int)) _ (own_at Xv12.out (fun g hg => ⟨(Xv12.out.lt g hg).1, Xvlt5.out g hg⟩)) (by omega) (by omega)).mono ?_
  rintro e w13 ⟨rfl, _, t13⟩
  have C13 := Lib.hid (C12.out.trans (t13.below w.heap.size (by omega) C12.out.size))
  have Z13 := t13.size
  have R13 := Lib.hid (own_turn R12.out t13 (fun g hg hh => by have q1 := (R12.out.lt g hg).1; have q2 := Rlt3.out g hg;  omega))
  have G13 := Lib.hid (own_turn G12.out t13 (fun g hg hh => by have q1 := (G12.out.lt g hg).1; have q2 := Glt6.out g hg;  omega))
  clear t13 C12 R12 Xv12 G12
  go_wp2_with fail
  refine (eqRecs_same _ _ _ _ R _ (RecsIn.of (own_read G13.out)) (RecsIn.of (own_read R13.out)) (by omega)).mono ?_
  rintro e w14 ⟨rfl, b14⟩
  have C14 := Lib.hid (C13.out.trans (b14.mono C13.out.size))
  have R14 := Lib.hid (own_below R13.out b14 (Nat.le_refl _))
  have G14 := Lib.hid (own_below G13.out b14 (Nat.le_refl _))
  have Z14 := b14.size
  clear b14 C13 R13 G13
  obtain ⟨ra, rb, oG, rG⟩ := own_range G14.out
  have RG := Lib.hid (fun g (h1 : ra ≤ g) (h2 : g < rb) => (G14.out.lt g (rG g h1 h2)).1)
  clear rG
  go_wp2_with fail
  refine (markRec_any ra rb _ _ R 1 _ oG (by omega) (by omega)).mono ?_
  rintro e w15 ⟨rfl, oM, t15⟩
  have C15 := Lib.hid (C14.out.trans ((t15.wide (lo := w5.heap.size) (hi := w15.heap.size + rb) (fun g h1 h2 => ⟨by have := RG.out g h1 h2; omega, by omega⟩)).below w.heap.size (by omega) C14.out.size))
  have Z15 := t15.size
  have R15 := Lib.hid (own_turn R14.out t15 (fun g hg hh => by have q1 := (R14.out.lt g hg).1; have q2 := Rlt3.out g hg; have q3 := RG.out g hh.1 hh.2; omega))
  have M15 := Lib.hid oM
  clear t15 oG oM RG C14 R14 G14
  go_wp2_with fail
  refine (heldRec_any _ R.length _ 1 _ (RecsIn.of M15.out.read) (by omega) (by omega)).mono ?_
  rintro e w' ⟨rfl, rfl⟩
  have kk1 : (1 + 4 * (R.length : Int) != 1 + 4 * (R.length : Int)) = false := by simp
  go_wp2_with fail
  refine (toRecs_any _ _ l _ (Hl.out.below C15.out) (by omega)).mono ?_
  rintro e w16 ⟨A16, c16, rfl, o16, b16⟩
  have C16 := Lib.hid (C15.out.trans (b16.mono C15.out.size))
  have R16 := Lib.hid (own_below R15.out b16 (Nat.le_refl _))
  have M16 := Lib.hid (M15.out.below b16)
  have Z16 := b16.size
  have Tl16 := Lib.hid o16
  have Tllt16 := Lib.hid (fun g hg => (Tl16.out.lt g hg).2)
  clear b16 o16 C15 R15 M15
  go_wp2_with fail
  refine (toInts_any _ _ v _ (Hv.out.below C16.out) (by omega)).mono ?_
  rintro e w17 ⟨A17, c17, rfl, o17, b17⟩
  have C17 := Lib.hid (C16.out.trans (b17.mono C16.out.size))
  have R17 := Lib.hid (own_below R16.out b17 (Nat.le_refl _))
  have M17 := Lib.hid (M16.out.below b17)
  have Tl17 := Lib.hid (own_below Tl16.out b17 (Nat.le_refl _))
  have Z17 := b17.size
  have Tv17 := Lib.hid o17
  have Tvlt17 := Lib.hid (fun g hg => (Tv17.out.lt g hg).2)
  clear b17 o17 C16 R16 M16 Tl16
  go_wp2_with fail
  refine (implApp_any _ _ _ _ l x y v _ (RecsIn.of (own_read Tl17.out)) (own_read Tv17.out) (by omega) (by omega) (own_cap Tl17.out).1 (own_cap Tl17.out).2).mono ?_
  rintro e w18 hh18
  obtain ⟨A18, c18, rfl, o18, b18⟩ := resOf HRe.out hh18
  have C18 := Lib.hid (C17.out.trans (b18.mono C17.out.size))
  have R18 := Lib.hid (own_below R17.out b18 (Nat.le_refl _))
  have M18 := Lib.hid (M17.out.below b18)
  have Z18 := b18.size
  have H18 := Lib.hid o18
  have Hlt18 := Lib.hid (fun g hg => (H18.out.lt g hg).2)
  clear b18 o18 hh18 C17 R17 M17 Tl17 Tv17
  go_wp2_with fail
  refine (eqRecs_same _ _ _ _ R _ (RecsIn.of (own_read H18.out)) (RecsIn.of (own_read R18.out)) (by omega)).mono ?_
  rintro e w19 ⟨rfl, b19⟩
  have C19 := Lib.hid (C18.out.trans (b19.mono C18.out.size))
  have R19 := Lib.hid (own_below R18.out b19 (Nat.le_refl _))
  have M19 := Lib.hid (M18.out.below b19)
  have H19 := Lib.hid (own_below H18.out b19 (Nat.le_refl _))
  have Z19 := b19.size
  clear b19 C18 R18 M18 H18
  go_wp2_with fail
  refine (heldRec_any _ R.length _ 1 _ (RecsIn.of M19.out.read) (by omega) (by omega)).mono ?_
  rintro e w' ⟨rfl, rfl⟩
  go_wp2
  go_ret
  exact ⟨rfl, C19.out⟩

set_option maxRecDepth 100000 in
theorem lifted (os : Os) (started : os.Started) (H : Type) (enc : TypeId × Value → H) :
    ReturnsInHanded {} Try.checked os 7 .any (Rows.fnExactAppendTransactionSpec.pre6 enc Try.prog Try.f7 Rows.fnExactAppendTransactionRow.domain false) (Rows.fnExactAppendTransactionSpec.post enc Try.prog Try.f7 false true false false) := by
  refine returnsInHanded_of_change (C := Try.checked) own started (by kernel_rfl) Try.func7
    (ChangeSpec.witness6 (enc := enc) (C := Try.checked) false ⟨#[], #[.slice none 0 0, .int .i64 0, .int .i64 0, .slice none 0 0], []⟩ 8 (by kernel_rfl) (by kernel_rfl) (by kernel_rfl) (by kernel_rfl)) ?_
  intro W base args ds gs before hval0 hW hcnd _
  have hval : ∀ (j : Nat) t v, Try.f7.params[j]? = some t → args[j]? = some v → Value.okWide Try.prog W .any base t v := hval0
  have hW' := hW
  obtain ⟨p, q, hA0, hV, rfl, hfz, hnd⟩ := hW
  have hA : DataW.TrodAll enc Try.prog W 0 (fun _ => true) true Try.f7.params.toList args.toList ds p := hA0
  rw [Try.params7] at hA hval
  obtain ⟨v0, vs0, d0, ds0, p0, q0, hargs, rfl, rfl, h0, r0⟩ := trodAll_cons hA
  obtain ⟨v1, vs1, d1, ds1, p1, q1, rfl, rfl, rfl, h1, r1⟩ := trodAll_cons r0
  obtain ⟨v2, vs2, d2, ds2, p2, q2, rfl, rfl, rfl, h2, r2⟩ := trodAll_cons r1
  obtain ⟨v3, vs3, d3, ds3, p3, q3, rfl, rfl, rfl, h3, r3⟩ := trodAll_cons r2
  obtain ⟨rfl, rfl, rfl⟩ := trodAll_nil r3
  obtain rfl : args = #[v0, v1, v2, v3] := by cases args; simp_all
  obtain ⟨rfl, rfl⟩ := trodVars_none hV
  have k0 := h0
  have lt0 : ∀ x ∈ p0, x.block < W.heap.size := by obtain ⟨m, hm⟩ := k0; exact DataW.trod_lt m _ _ _ hm
  obtain ⟨a0, n0, c0, l0, rfl, ok0⟩ := open_records (hval 0 22 v0 rfl rfl) h0
  obtain ⟨a1, rfl, rfl, rfl, w1⟩ := open_int Try.underlying3 (hval 1 3 v1 rfl rfl) h1
  have b1 := bounds_of_wf w1
  obtain ⟨a2, rfl, rfl, rfl, w2⟩ := open_int Try.underlying3 (hval 2 3 v2 rfl rfl) h2
  have b2 := bounds_of_wf w2
  have k3 := h3
  have lt3 : ∀ x ∈ p3, x.block < W.heap.size := by obtain ⟨m, hm⟩ := k3; exact DataW.trod_lt m _ _ _ hm
  obtain ⟨a3, n3, c3, l3, rfl, ok3⟩ := open_ints' (hval 3 36 v3 rfl rfl) h3
  clear hA0 hval0
  refine (walk a0 n0 c0 l0 a1 a2 a3 n3 c3 l3 W ok0 b1 b2 ok3).mono fun e W' ⟨he, bel⟩ => ?_
  subst he
  exact ⟨_, rfl, _, _, _, [], _, [], hW', trodAll_mk1 (shut_bool Try.underlying4 _), (trodAll_cons_mk (Below.trod laidOut (by kernel_rfl) (of_decide_eq_true (by kernel_rfl)) k0 bel lt0) (trodAll_cons_mk (shut_int Try.underlying3 w1) (trodAll_cons_mk (shut_int Try.underlying3 w2) (trodAll_cons_mk (Below.trod laidOut (by kernel_rfl) (of_decide_eq_true (by kernel_rfl)) k3 bel lt3) trodAll_mk0)))), rfl, bel.frame _, fun h => by cases h⟩

theorem proved : Rows.FnExactAppendTransactionSaid :=
  OpenClaim.holds_of_wide 7 Try.f7 rfl rfl rfl rfl rfl rfl rfl ⟨rfl, rfl, rfl, rfl, rfl⟩ rfl rfl rfl rfl rfl (by kernel_rfl) Try.func7 (by kernel_rfl)
    (of_decide_eq_true (by kernel_rfl)) (by unfold Func.isWrapper; first | (rw [if_pos (by decide +kernel)]; kernel_rfl) | (rw [if_neg (by decide +kernel)]; exact ⟨rfl, rfl⟩))
    (fun os started H enc _ => lifted os started H enc)
#print axioms proved
end Go.Proofs.Ythghngphamimgaa.fnExactAppendTransaction
