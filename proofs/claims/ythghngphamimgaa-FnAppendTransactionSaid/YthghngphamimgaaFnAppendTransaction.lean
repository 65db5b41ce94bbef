/- Proves Rows.FnAppendTransactionSaid: for every input the law FnAppendTransaction returns true and leaves its arguments as they were. Conditions: none. -/
import Derived.Test.YthghngphamimgaaOpen
import Derived.Test.YthghngphamimgaaDrAT
import Derived.Test.YthghngphamimgaaAppW
import Derived.Test.YthghngphamimgaaRecA
import Derived.Test.YthghngphamimgaaSameRec
import Derived.Test.YthghngphamimgaaWrS
import Derived.Test.YthghngphamimgaaSame
namespace Go.Proofs.Ythghngphamimgaa.fnAppendTransaction
open Go.ChangeShapes Go.WideShapes Go.ChangeAt Go.RowKit
set_option linter.unusedVariables false
set_option linter.unusedSimpArgs false in
set_option maxHeartbeats 8000000 in
theorem walk (A : Option Addr) (m cp : Nat) (B : Option Addr) (mb cb : Nat) (w : World) (hb : BytesIn w A m) (hmc : m ≤ cp) (hcp : cp ≤ 9223372036854775807) (hbB : BytesIn w B mb) (hmcB : mb ≤ cb) (hcpB : cb ≤ 9223372036854775807) :
    Calls Try.prog 11 #[.slice A m cp, .slice B mb cb] w fun e w' => e = .returned (.bool true) ∧ Below w.heap.size w w' := by
  by_cases hbig : 1048576 < m
  · go_enter Try.func11, Try.ntmps11
    go_wp2
    go_ret
    exact ⟨rfl, Below.refl _ _⟩
  by_cases hbig2 : 1048576 < mb
  · go_enter Try.func11, Try.ntmps11
    go_wp2
    go_ret
    exact ⟨rfl, Below.refl _ _⟩
  go_enter Try.func11, Try.ntmps11
  have MB := Lib.hid hbB
  clear hbB
  go_wp2_with fail
  refine (drawAT_any A m cp w hb hmc hcp).mono ?_
  rintro e w1 ⟨A1, c1, l, n, a, B1, cb1, vs, rfl, lr, hl, ov, hvl, n0, n1, a0, a1, b1⟩
  have hcl := own_cap lr
  have J1 := Lib.hid (RecsIn.of (own_read lr))
  have V1 := Lib.hid (own_read ov)
  have C1 := Lib.hid b1
  clear hb lr ov b1
  obtain ⟨X, hX⟩ : ∃ X, X = appV l n a vs := ⟨_, rfl⟩
  have hXl : X.length ≤ 41 := by rw [hX]; exact app_len41 l n a vs
  have HX := Lib.hid hX
  clear hX
  go_wp2_with fail
  refine (implApp_any A1 B1 c1 cb1 l n a vs w1 J1.out V1.out (by omega) (by omega) hcl.1 hcl.2).mono ?_
  rw [← HX.out]
  rintro e w2 ⟨A2, c2, rfl, o2, b2⟩
  have hcx := own_cap o2
  have J2 := Lib.hid (J1.out.below b2)
  have V2 := Lib.hid (V1.out.keep b2.block)
  have X2 := Lib.hid (RecsIn.of (own_read o2))
  have C2 := Lib.hid (C1.out.trans (b2.mono C1.out.size))
  clear o2 b2 J1 V1 C1
  go_wp2_with fail
  refine (specApp_any A1 B1 c1 cb1 l n a vs w2 J2.out V2.out (by omega) (by omega) hcl.1 hcl.2).mono ?_
  rw [← HX.out]
  rintro e w3 ⟨A3, c3, rfl, o3, b3⟩
  have J3 := Lib.hid (J2.out.below b3)
  have V3 := Lib.hid (V2.out.keep b3.block)
  have X3 := Lib.hid (X2.out.below b3)
  have Y3 := Lib.hid (RecsIn.of (own_read o3))
  have C3 := Lib.hid (C2.out.trans (b3.mono C2.out.size))
  clear o3 b3 J2 V2 X2 C2
  go_wp2_with fail
  refine (sameRecs_same A2 A3 c2 c3 X w3 X3.out Y3.out (by omega)).mono ?_
  rintro e w4 ⟨rfl, q4, hw4⟩
  have J4 := Lib.hid (show RecsIn w4 A1 l by rw [hw4]; exact J3.out)
  have V4 := Lib.hid (show ReadC w4 B1 (vs.map (Value.int .i64)) by rw [hw4]; exact V3.out)
  have X4 := Lib.hid (show RecsIn w4 A2 X by rw [hw4]; exact X3.out)
  have C4 := Lib.hid (show Below w.heap.size w w4 by rw [hw4]; exact belowN C3.out _)
  clear hw4 J3 V3 X3 Y3 C3
  have hmk : (Instr.makeSlice 36 (.int .i64 30) (.int .i64 30)).run Try.prog w4 = .ok (.slice (some ⟨w4.heap.size, 0, none⟩) 30 30) (w4.alloc (.cells (madeCells #[.int .i64 0] 30) 3)) := by
    have := make_rows (P := Try.prog) 36 3 (.int .i64 0) 1 8 Try.underlying36 rowinfo_i 30 (by omega) (by omega) w4
    rw [Nat.mul_one] at this
    exact this
  have O5 := Lib.hid (show (w4.alloc (.cells (madeCells #[Value.int .i64 0] 30) 3)).ownsRow w4.heap.size 3 1 (.slice (some ⟨w4.heap.size, 0, none⟩) 30 30) 30 ((List.replicate 30 (0 : Int)).map (Value.int .i64)) from
    ⟨by simp, .inr ⟨w4.heap.size, 30, _, rfl, Nat.le_refl _, heap_alloc_new w4 _, Nat.le_refl _, by simp [maxLen], by simp [size_madeCells], by rw [toList_madeCells_one, List.take_of_length_le (by simp)]; simp⟩⟩)
  have B5 := Lib.hid (show Below w4.heap.size w4 (w4.alloc (.cells (madeCells #[Value.int .i64 0] 30) 3)) from b_alloc (Below.refl _ _) _)
  have M4 := Lib.hid (bytes_keep MB.out C4.out)
  go_wp2
  clear hmk
  go_loopw [11] (fun x wr => ∃ (k : Nat) (D : List Int), k ≤ 30 ∧ x = .int .i64 k ∧ Hid (D.length = 30 ∧ ∀ x ∈ D, 0 ≤ x ∧ x ≤ 255) ∧ Hid (wr.ownsRow w4.heap.size 3 1 (.slice (some ⟨w4.heap.size, 0, none⟩) 30 30) 30 (D.map (Value.int .i64))) ∧ Hid (Below w4.heap.size w4 wr)) (fun x _ => 30 - (intOf x).toNat)
  case atStart => exact ⟨0, List.replicate 30 0, Nat.zero_le _, rfl, Lib.hid ⟨by simp, fun x hx => by rw [List.eq_of_mem_replicate hx]; omega⟩, O5, B5⟩
  case round =>
    clear O5 B5
    obtain ⟨k, D, hk, rfl, HD, O, BB⟩ := hrel
    by_cases hin : k < 30 ∧ k < mb
    · obtain ⟨h30, hkm⟩ := hin
      obtain ⟨bB, oB, rfl, hcB⟩ := (bytes_keep M4.out BB.out) (by omega)
      obtain ⟨u, u0, u1, hcu⟩ := hcB k hkm
      have hst := O.out.stored k (.int .i64 u)
      have hcell := O.out.cellAt k (by omega)
      have hfr := O.out.frozenAt k
      rw [List.getElem?_eq_getElem (by rw [List.length_map, HD.out.1]; exact h30), List.getElem_map] at hcell
      have O2 := Lib.hid (show (wr.setCell ⟨w4.heap.size, k, none⟩ (.int .i64 u)).ownsRow w4.heap.size 3 1 (.slice (some ⟨w4.heap.size, 0, none⟩) 30 30) 30 ((D.set k u).map (Value.int .i64)) by rw [List.map_set]; exact hst.1)
      have HD2 := Lib.hid (show (D.set k u).length = 30 ∧ ∀ x ∈ D.set k u, 0 ≤ x ∧ x ≤ 255 from ⟨by rw [List.length_set]; exact HD.out.1, fun x hx => by
        rcases List.mem_or_eq_of_mem_set hx with hx | rfl
        · exact HD.out.2 x hx
        · exact ⟨u0, u1⟩⟩)
      have B2 := Lib.hid (BB.out.setCell (p := ⟨w4.heap.size, k, none⟩) (Nat.le_refl _) (.int .i64 u))
      have hk30 : (k : Int) < 30 := by omega
      have hkmb : (k : Int) < (mb : Int) := by omega
      have hk0 : (0 : Int) ≤ (k : Int) := by omega
      generalize D[k]'_ = dk at hcell
      clear hst hcB O BB HD
      go_wp2
      go_roundw
      case rel => exact ⟨k + 1, D.set k u, by omega, by go_num, HD2, O2, B2⟩
      case measure => simp [intOf]; omega
    have hdl := HD.out.1
    have hdb : diskB D = true := by
      simp only [diskB, Bool.and_eq_true, decide_eq_true_eq]
      refine ⟨by rw [hdl]; decide, ?_⟩
      unfold allB
      rw [List.all_eq_true]
      exact fun x hx => inB_iff.2 (HD.out.2 x hx)
    have J6 := Lib.hid (J4.out.below BB.out)
    have V6 := Lib.hid (V4.out.keep BB.out.block)
    have X6 := Lib.hid (X4.out.below BB.out)
    have D6 := Lib.hid (own_read O.out)
    have C6 := Lib.hid (C4.out.trans (BB.out.mono C4.out.size))
    have HDB := Lib.hid hdb
    have HDL := Lib.hid hdl
    obtain ⟨g, hg⟩ : ∃ g, g = w4.heap.size := ⟨_, rfl⟩
    rw [← hg] at D6 ⊢
    clear hdl hdb J4 V4 X4 C4 O BB HD M4 MB hg
    have hx30 : ¬ (k < 30 ∧ k < mb) := hin
    have hkx : k = 30 ∨ (k < 30 ∧ ¬ k < mb) := by omega
    have J6' := J6.out
    clear J6'
    clear hin hx30
    by_cases hX0 : X.length = 0
    · have e0 : ((X.length : Int) == 0) = true := by simp [hX0]
      clear hX0
      rcases hkx with h30 | ⟨h30, hkm⟩
      · have hk30 : ¬ ((k : Int) < 30) := by omega
        go_wp2_with (go_at_call 18; refine (alive_any _).mono ?_; rintro e w7 ⟨rfl, hb7⟩)
        go_ret
        exact ⟨rfl, C6.out.trans (hb7.mono C6.out.size)⟩
      · have hkmb : ¬ ((k : Int) < (mb : Int)) := by omega
        have hk30 : (k : Int) < 30 := by omega
        go_wp2_with (go_at_call 18; refine (alive_any _).mono ?_; rintro e w7 ⟨rfl, hb7⟩)
        go_ret
        exact ⟨rfl, C6.out.trans (hb7.mono C6.out.size)⟩
    have e0 : ((X.length : Int) == 0) = false := by rw [beq_eq_false_iff_ne]; omega
    cases hjr : jrB X 30
    case false =>
      have HJ := Lib.hid hjr
      clear hjr
      have HP := Lib.hid (jrs_any A2 c2 X false _ HJ.out X6.out hXl)
      rcases hkx with h30 | ⟨h30, hkm⟩
      · have hk30 : ¬ ((k : Int) < 30) := by omega
        go_wp2_with (go_at_call 13; refine HP.out.mono ?_; rintro e w7 ⟨rfl, hb7⟩)
        go_wp2_with (go_at_call 18; refine (alive_any _).mono ?_; rintro e w8 ⟨rfl, hb8⟩)
        go_ret
        exact ⟨rfl, C6.out.trans ((hb7.trans (hb8.mono hb7.size)).mono C6.out.size)⟩
      · have hkmb : ¬ ((k : Int) < (mb : Int)) := by omega
        have hk30 : (k : Int) < 30 := by omega
        go_wp2_with (go_at_call 13; refine HP.out.mono ?_; rintro e w7 ⟨rfl, hb7⟩)
        go_wp2_with (go_at_call 18; refine (alive_any _).mono ?_; rintro e w8 ⟨rfl, hb8⟩)
        go_ret
        exact ⟨rfl, C6.out.trans ((hb7.trans (hb8.mono hb7.size)).mono C6.out.size)⟩
    case true =>
      obtain ⟨hxe, ha0⟩ : X = appL l n a vs ∧ 0 ≤ a := by
        have := app_is (l := l) (n := n) (a := a) (vs := vs) (by rw [← HX.out]; exact hX0)
        rw [← HX.out] at this
        exact this
      obtain ⟨k0, hk0⟩ : ∃ k0 : Nat, a = (k0 : Int) := ⟨a.toNat, by omega⟩
      subst hk0
      have hxl := appL_len l n k0 vs
      rw [← hxe] at hxl
      obtain ⟨f1, f2, f3, f4, f5, f6, f7⟩ := app_all hxe hjr HDB.out HDL.out (by omega)
      obtain ⟨P, hP⟩ : ∃ P, P = replayV D l := ⟨_, rfl⟩
      rw [← hP] at f1 f2 f3 f7
      have F1 := Lib.hid f1
      have F2 := Lib.hid f2
      have F3 := Lib.hid f3
      have F4 := Lib.hid f4
      have F5 := Lib.hid f5
      have F7 := Lib.hid f7
      have F6 := Lib.hid f6
      have HXL := Lib.hid hxl
      have A01 := Lib.hid (And.intro a0 (And.intro a1 ha0))
      have HPe := Lib.hid hP
      have HP := Lib.hid (jrs_any A2 c2 X true _ hjr X6.out hXl)
      have hcap := Lib.hid hcl
      have hcapx := Lib.hid hcx
      clear hxe f1 f2 f3 f4 f5 f6 f7 hxl hP hjr HX HDB e0 hX0 a0 a1 ha0 hcl hcx n0 n1
      have e0 : ((X.length : Int) == 0) = false := by rw [beq_eq_false_iff_ne]; have := HXL.out; omega
      rcases hkx with h30 | ⟨h30, hkm⟩
      · have hk30 : ¬ ((k : Int) < 30) := by omega
        go_wp2_with (go_at_call 13; refine HP.out.mono ?_; rintro e w7 ⟨rfl, b7⟩)
        have J7 := Lib.hid (J6.out.below b7)
        have V7 := Lib.hid (V6.out.keep b7.block)
        have X7 := Lib.hid (X6.out.below b7)
        have D7 := Lib.hid (D6.out.keep b7.block)
        have C7 := Lib.hid (C6.out.trans (b7.mono C6.out.size))
        clear b7 J6 V6 X6 D6 C6 HP
        go_wp2_with fail
        refine (rep30 _ A1 30 c1 l.length D l _ HDL.out rfl D7.out J7.out (by omega) hcap.out.1 hcap.out.2 (by rw [← HPe.out]; exact F3.out)).mono ?_
        rintro e w8 ⟨A8, c8, rfl, i8, b8⟩
        rw [← HPe.out] at i8
        have I8 := Lib.hid i8
        have J8 := Lib.hid (J7.out.below b8)
        have V8 := Lib.hid (V7.out.keep b8.block)
        have X8 := Lib.hid (X7.out.below b8)
        have D8 := Lib.hid (D7.out.keep b8.block)
        have C8 := Lib.hid (C7.out.trans (b8.mono C7.out.size))
        clear i8 b8 J7 V7 X7 D7 C7
        go_wp2_with fail
        refine (rep30 _ A2 30 c2 X.length D X _ HDL.out rfl D8.out X8.out hXl hcapx.out.1 hcapx.out.2 F4.out).mono ?_
        rintro e w9 ⟨A9, c9, rfl, i9, b9⟩
        have R9 := Lib.hid i9
        have I9 := Lib.hid (I8.out.below b9)
        have J9 := Lib.hid (J8.out.below b9)
        have V9 := Lib.hid (V8.out.keep b9.block)
        have X9 := Lib.hid (X8.out.below b9)
        have D9 := Lib.hid (D8.out.keep b9.block)
        have C9 := Lib.hid (C8.out.trans (b9.mono C8.out.size))
        clear i9 b9 I8 J8 V8 X8 D8 C8
        have Z9 := Lib.hid (Below.refl w9.heap.size w9)
        go_wp2
        go_loopw [14, 15] (fun f x wv => ∃ (j : Nat) (bf : Bool), j ≤ l.length ∧ f = .bool bf ∧ x = .int .i64 j ∧ Hid (bf = true → ∀ r ∈ l.take j, r.1 ≠ n) ∧ Hid (Below w9.heap.size w9 wv)) (fun _ x _ => l.length - (intOf x).toNat)
        case atStart => exact ⟨0, true, Nat.zero_le _, rfl, rfl, Lib.hid (fun _ r hr => by simp at hr), Z9⟩
        case round =>
          clear Z9
          obtain ⟨j, bf, hj, rfl, rfl, HF, BB⟩ := hrel
          by_cases hjl : j < l.length
          · obtain ⟨b, off, hA, hc⟩ := (J9.out.below BB.out) (by omega)
            obtain ⟨h1, -⟩ := hc j hjl
            obtain ⟨t, ht⟩ : ∃ t, t = l[j].1 := ⟨_, rfl⟩
            rw [← ht] at h1
            have hstep : ∀ b2 : Bool, b2 = (bf && !(t == n)) → Hid (b2 = true → ∀ r ∈ l.take (j + 1), r.1 ≠ n) := by
              intro b2 e2 hb2 r hr
              rw [e2] at hb2
              simp only [Bool.and_eq_true, Bool.not_eq_true', beq_eq_false_iff_ne] at hb2
              rw [List.take_succ_eq_append_getElem hjl] at hr
              rcases List.mem_append.1 hr with hr | hr
              · exact HF.out hb2.1 r hr
              · rw [List.mem_singleton] at hr
                rw [hr, ← ht]
                exact hb2.2
            have HS := Lib.hid hstep
            subst hA
            clear hc ht hstep HF J9
            cases bf
            · have HN := HS.out false (by simp)
              clear HS
              go_wp2
              go_roundw
              case rel => exact ⟨j + 1, false, by omega, rfl, by go_num, HN, BB⟩
              case measure => simp [intOf]; omega
            · have HN := HS.out (t != n) (by simp [bne])
              clear HS
              go_wp2
              go_roundw
              case rel => exact ⟨j + 1, (t != n), by omega, rfl, by go_num, HN, BB⟩
              case measure => simp [intOf]; omega
          have HF2 := Lib.hid (show bf = true → ∀ r ∈ l, r.1 ≠ n from fun hb => by have := HF.out hb; rwa [List.take_of_length_le (by omega)] at this)
          have I10 := Lib.hid (I9.out.below BB.out)
          have R10 := Lib.hid (R9.out.below BB.out)
          have V10 := Lib.hid (V9.out.keep BB.out.block)
          have X10 := Lib.hid (X9.out.below BB.out)
          have D10 := Lib.hid (D9.out.keep BB.out.block)
          have C10 := Lib.hid (C9.out.trans (BB.out.mono C9.out.size))
          clear HF BB I9 R9 J9 V9 X9 D9 C9
          have Z10 := Lib.hid (Below.refl wr.heap.size wr)
          go_wp2
          go_loopw [16] (fun x wx => ∃ (i : Nat), l.length ≤ i ∧ i ≤ X.length ∧ x = .int .i64 i ∧ Hid (Below wr.heap.size wr wx)) (fun x _ => X.length - (intOf x).toNat)
          case atStart => exact ⟨l.length, Nat.le_refl _, by have := HXL.out; omega, rfl, Z10⟩
          case round =>
            clear Z10
            obtain ⟨i, hi0, hi1, rfl, BB⟩ := hrel
            by_cases hil : i < X.length
            · have hcx2 := hcapx.out
              have hic : i ≤ c2 := by omega
              have K1 := Lib.hid (rep30 _ A2 30 c2 i D (X.take i) _ HDL.out (by rw [List.length_take]; omega) (D10.out.keep BB.out.block) ((X10.out.below BB.out).take i) (by omega) hic hcx2.2 (by rw [F1.out i hi0 hil]; exact F3.out))
              go_wp2_with (go_at_call 32; refine K1.out.mono ?_; rintro e w11 ⟨A11, c11, rfl, i11, b11⟩; rw [F1.out i hi0 hil] at i11; have I11 := Lib.hid i11; have B11 := Lib.hid (BB.out.trans (b11.mono BB.out.size)); have I12 := Lib.hid (I10.out.below B11.out); clear i11 b11 K1)
              go_wp2_with (go_at_call 26; refine (same_l A11 A8 c11 c8 30 P P _ I11.out I12.out rfl F3.out (by omega)).mono ?_; rintro e w12 ⟨rfl, b12⟩; have B12 := Lib.hid (B11.out.trans (b12.mono B11.out.size)); clear b12)
              go_roundw
              case rel => exact ⟨i + 1, by omega, by omega, by go_num, B12⟩
              case measure => simp [intOf]; omega
            have I13 := Lib.hid (I10.out.below BB.out)
            have R13 := Lib.hid (R10.out.below BB.out)
            have V13 := Lib.hid (IntsIn.of (V10.out.keep BB.out.block))
            have C13 := Lib.hid (C10.out.trans (BB.out.mono C10.out.size))
            clear BB I10 R10 V10 X10 D10 C10
            cases bf
            · go_wp2
              go_ret
              exact ⟨rfl, C13.out⟩
            · have HFX := Lib.hid (F7.out (HF2.out rfl))
              go_wp2_with (go_at_call 36; refine (ws30 A8 B1 c8 cb1 P vs k0 _ I13.out V13.out F2.out F3.out F5.out (by have := A01.out; omega) F6.out).mono ?_; rintro e w14 ⟨A14, c14, rfl, i14, b14⟩; rw [← HFX.out] at i14; have I14 := Lib.hid i14; have R14 := Lib.hid (R13.out.below b14); have C14 := Lib.hid (C13.out.trans (b14.mono C13.out.size)); clear i14 b14)
              go_wp2_with (go_at_call 26; refine (same_l A9 A14 c9 c14 30 _ _ _ R14.out I14.out rfl F4.out (by omega)).mono ?_; rintro e w15 ⟨rfl, b15⟩)
              go_ret
              exact ⟨rfl, C14.out.trans (b15.mono C14.out.size)⟩
      · have hkmb : ¬ ((k : Int) < (mb : Int)) := by omega
        have hk30 : (k : Int) < 30 := by omega
        go_wp2_with (go_at_call 13; refine HP.out.mono ?_; rintro e w7 ⟨rfl, b7⟩)
        have J7 := Lib.hid (J6.out.below b7)
        have V7 := Lib.hid (V6.out.keep b7.block)
        have X7 := Lib.hid (X6.out.below b7)
        have D7 := Lib.hid (D6.out.keep b7.block)
        have C7 := Lib.hid (C6.out.trans (b7.mono C6.out.size))
        clear b7 J6 V6 X6 D6 C6 HP
        go_wp2_with fail
        refine (rep30 _ A1 30 c1 l.length D l _ HDL.out rfl D7.out J7.out (by omega) hcap.out.1 hcap.out.2 (by rw [← HPe.out]; exact F3.out)).mono ?_
        rintro e w8 ⟨A8, c8, rfl, i8, b8⟩
        rw [← HPe.out] at i8
        have I8 := Lib.hid i8
        have J8 := Lib.hid (J7.out.below b8)
        have V8 := Lib.hid (V7.out.keep b8.block)
        have X8 := Lib.hid (X7.out.below b8)
        have D8 := Lib.hid (D7.out.keep b8.block)
        have C8 := Lib.hid (C7.out.trans (b8.mono C7.out.size))
        clear i8 b8 J7 V7 X7 D7 C7
        go_wp2_with fail
        refine (rep30 _ A2 30 c2 X.length D X _ HDL.out rfl D8.out X8.out hXl hcapx.out.1 hcapx.out.2 F4.out).mono ?_
        rintro e w9 ⟨A9, c9, rfl, i9, b9⟩
        have R9 := Lib.hid i9
        have I9 := Lib.hid (I8.out.below b9)
        have J9 := Lib.hid (J8.out.below b9)
        have V9 := Lib.hid (V8.out.keep b9.block)
        have X9 := Lib.hid (X8.out.below b9)
        have D9 := Lib.hid (D8.out.keep b9.block)
        have C9 := Lib.hid (C8.out.trans (b9.mono C8.out.size))
        clear i9 b9 I8 J8 V8 X8 D8 C8
        have Z9 := Lib.hid (Below.refl w9.heap.size w9)
        go_wp2
        go_loopw [14, 15] (fun f x wv => ∃ (j : Nat) (bf : Bool), j ≤ l.length ∧ f = .bool bf ∧ x = .int .i64 j ∧ Hid (bf = true → ∀ r ∈ l.take j, r.1 ≠ n) ∧ Hid (Below w9.heap.size w9 wv)) (fun _ x _ => l.length - (intOf x).toNat)
        case atStart => exact ⟨0, true, Nat.zero_le _, rfl, rfl, Lib.hid (fun _ r hr => by simp at hr), Z9⟩
        case round =>
          clear Z9
          obtain ⟨j, bf, hj, rfl, rfl, HF, BB⟩ := hrel
          by_cases hjl : j < l.length
          · obtain ⟨b, off, hA, hc⟩ := (J9.out.below BB.out) (by omega)
            obtain ⟨h1, -⟩ := hc j hjl
            obtain ⟨t, ht⟩ : ∃ t, t = l[j].1 := ⟨_, rfl⟩
            rw [← ht] at h1
            have hstep : ∀ b2 : Bool, b2 = (bf && !(t == n)) → Hid (b2 = true → ∀ r ∈ l.take (j + 1), r.1 ≠ n) := by
              intro b2 e2 hb2 r hr
              rw [e2] at hb2
              simp only [Bool.and_eq_true, Bool.not_eq_true', beq_eq_false_iff_ne] at hb2
              rw [List.take_succ_eq_append_getElem hjl] at hr
              rcases List.mem_append.1 hr with hr | hr
              · exact HF.out hb2.1 r hr
              · rw [List.mem_singleton] at hr
                rw [hr, ← ht]
                exact hb2.2
            have HS := Lib.hid hstep
            subst hA
            clear hc ht hstep HF J9
            cases bf
            · have HN := HS.out false (by simp)
              clear HS
              go_wp2
              go_roundw
              case rel => exact ⟨j + 1, false, by omega, rfl, by go_num, HN, BB⟩
              case measure => simp [intOf]; omega
            · have HN := HS.out (t != n) (by simp [bne])
              clear HS
              go_wp2
              go_roundw
              case rel => exact ⟨j + 1, (t != n), by omega, rfl, by go_num, HN, BB⟩
              case measure => simp [intOf]; omega
          have HF2 := Lib.hid (show bf = true → ∀ r ∈ l, r.1 ≠ n from fun hb => by have := HF.out hb; rwa [List.take_of_length_le (by omega)] at this)
          have I10 := Lib.hid (I9.out.below BB.out)
          have R10 := Lib.hid (R9.out.below BB.out)
          have V10 := Lib.hid (V9.out.keep BB.out.block)
          have X10 := Lib.hid (X9.out.below BB.out)
          have D10 := Lib.hid (D9.out.keep BB.out.block)
          have C10 := Lib.hid (C9.out.trans (BB.out.mono C9.out.size))
          clear HF BB I9 R9 J9 V9 X9 D9 C9
          have Z10 := Lib.hid (Below.refl wr.heap.size wr)
          go_wp2
          go_loopw [16] (fun x wx => ∃ (i : Nat), l.length ≤ i ∧ i ≤ X.length ∧ x = .int .i64 i ∧ Hid (Below wr.heap.size wr wx)) (fun x _ => X.length - (intOf x).toNat)
          case atStart => exact ⟨l.length, Nat.le_refl _, by have := HXL.out; omega, rfl, Z10⟩
          case round =>
            clear Z10
            obtain ⟨i, hi0, hi1, rfl, BB⟩ := hrel
            by_cases hil : i < X.length
            · have hcx2 := hcapx.out
              have hic : i ≤ c2 := by omega
              have K1 := Lib.hid (rep30 _ A2 30 c2 i D (X.take i) _ HDL.out (by rw [List.length_take]; omega) (D10.out.keep BB.out.block) ((X10.out.below BB.out).take i) (by omega) hic hcx2.2 (by rw [F1.out i hi0 hil]; exact F3.out))
              go_wp2_with (go_at_call 32; refine K1.out.mono ?_; rintro e w11 ⟨A11, c11, rfl, i11, b11⟩; rw [F1.out i hi0 hil] at i11; have I11 := Lib.hid i11; have B11 := Lib.hid (BB.out.trans (b11.mono BB.out.size)); have I12 := Lib.hid (I10.out.below B11.out); clear i11 b11 K1)
              go_wp2_with (go_at_call 26; refine (same_l A11 A8 c11 c8 30 P P _ I11.out I12.out rfl F3.out (by omega)).mono ?_; rintro e w12 ⟨rfl, b12⟩; have B12 := Lib.hid (B11.out.trans (b12.mono B11.out.size)); clear b12)
              go_roundw
              case rel => exact ⟨i + 1, by omega, by omega, by go_num, B12⟩
              case measure => simp [intOf]; omega
            have I13 := Lib.hid (I10.out.below BB.out)
            have R13 := Lib.hid (R10.out.below BB.out)
            have V13 := Lib.hid (IntsIn.of (V10.out.keep BB.out.block))
            have C13 := Lib.hid (C10.out.trans (BB.out.mono C10.out.size))
            clear BB I10 R10 V10 X10 D10 C10
            cases bf
            · go_wp2
              go_ret
              exact ⟨rfl, C13.out⟩
            · have HFX := Lib.hid (F7.out (HF2.out rfl))
              go_wp2_with (go_at_call 36; refine (ws30 A8 B1 c8 cb1 P vs k0 _ I13.out V13.out F2.out F3.out F5.out (by have := A01.out; omega) F6.out).mono ?_; rintro e w14 ⟨A14, c14, rfl, i14, b14⟩; rw [← HFX.out] at i14; have I14 := Lib.hid i14; have R14 := Lib.hid (R13.out.below b14); have C14 := Lib.hid (C13.out.trans (b14.mono C13.out.size)); clear i14 b14)
              go_wp2_with (go_at_call 26; refine (same_l A9 A14 c9 c14 30 _ _ _ R14.out I14.out rfl F4.out (by omega)).mono ?_; rintro e w15 ⟨rfl, b15⟩)
              go_ret
              exact ⟨rfl, C14.out.trans (b15.mono C14.out.size)⟩

set_option maxRecDepth 100000 in
theorem lifted (os : Os) (started : os.Started) (H : Type) (enc : TypeId × Value → H) :
    ReturnsInHanded {} Try.checked os 11 .any (Rows.fnAppendTransactionSpec.pre6 enc Try.prog Try.f11 Rows.fnAppendTransactionRow.domain false) (Rows.fnAppendTransactionSpec.post enc Try.prog Try.f11 false true false false) := by
  refine returnsInHanded_of_change (C := Try.checked) own started (by kernel_rfl) Try.func11
    (ChangeSpec.witness6 (enc := enc) (C := Try.checked) false ⟨#[], #[.slice none 0 0, .slice none 0 0], []⟩ 8 (by kernel_rfl) (by kernel_rfl) (by kernel_rfl) (by kernel_rfl)) ?_
  intro W base args ds gs before hval0 hW hcnd _
  have hval : ∀ (j : Nat) t v, Try.f11.params[j]? = some t → args[j]? = some v → Value.okWide Try.prog W .any base t v := hval0
  have hW' := hW
  obtain ⟨p, q, hA0, hV, rfl, hfz, hnd⟩ := hW
  have hA : DataW.TrodAll enc Try.prog W 0 (fun _ => true) true Try.f11.params.toList args.toList ds p := hA0
  rw [Try.params11] at hA hval
  obtain ⟨v0, vs0, d0, ds0, p0, q0, hargs, rfl, rfl, h0, r0⟩ := trodAll_cons hA
  obtain ⟨v1, vs1, d1, ds1, p1, q1, rfl, rfl, rfl, h1, r1⟩ := trodAll_cons r0
  obtain ⟨rfl, rfl, rfl⟩ := trodAll_nil r1
  obtain rfl : args = #[v0, v1] := by cases args; simp_all
  obtain ⟨rfl, rfl⟩ := trodVars_none hV
  have k0 := h0
  have lt0 : ∀ x ∈ p0, x.block < W.heap.size := by obtain ⟨m, hm⟩ := k0; exact DataW.trod_lt m _ _ _ hm
  obtain ⟨a0, n0, c0, rfl, ok0, le0, cl0⟩ := open_bytes (hval 0 29 v0 rfl rfl) h0
  have k1 := h1
  have lt1 : ∀ x ∈ p1, x.block < W.heap.size := by obtain ⟨m, hm⟩ := k1; exact DataW.trod_lt m _ _ _ hm
  obtain ⟨a1, n1, c1, rfl, ok1, le1, cl1⟩ := open_bytes (hval 1 29 v1 rfl rfl) h1
  clear hA0 hval0
  refine (walk a0 n0 c0 a1 n1 c1 W ok0 le0 cl0 ok1 le1 cl1).mono fun e W' ⟨he, bel⟩ => ?_
  subst he
  exact ⟨_, rfl, _, _, _, [], _, [], hW', trodAll_mk1 (shut_bool Try.underlying4 _), (trodAll_cons_mk (Below.trod laidOut (by kernel_rfl) (of_decide_eq_true (by kernel_rfl)) k0 bel lt0) (trodAll_cons_mk (Below.trod laidOut (by kernel_rfl) (of_decide_eq_true (by kernel_rfl)) k1 bel lt1) trodAll_mk0)), rfl, bel.frame _, fun h => by cases h⟩

theorem proved : Rows.FnAppendTransactionSaid :=
  OpenClaim.holds_of_wide 11 Try.f11 rfl rfl rfl rfl rfl rfl rfl ⟨rfl, rfl, rfl, rfl, rfl⟩ rfl rfl rfl rfl rfl (by kernel_rfl) Try.func11 (by kernel_rfl)
    (of_decide_eq_true (by kernel_rfl)) (by unfold Func.isWrapper; first | (rw [if_pos (by decide +kernel)]; kernel_rfl) | (rw [if_neg (by decide +kernel)]; exact ⟨rfl, rfl⟩))
    (fun os started H enc _ => lifted os started H enc)
#print axioms proved
end Go.Proofs.Ythghngphamimgaa.fnAppendTransaction
