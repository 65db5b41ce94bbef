/- Contracts of ArrayValid, the program's and the reference's. -/
import Derived.Test.YtgdbchodlapdpaaArrP
import Derived.Test.YtgdbchodlapdpaaIntsX
import Derived.Deep.QuietTactic
import Derived.BigQuiet
namespace Go.Proofs.Ytgdbchodlapdpaa
open Go.RowKit
set_option linter.unusedVariables false

def AVPost (L : List (List Int)) (W : World) (e : Ending) (w' : World) : Prop := e = .returned (.bool (arrB L)) ∧ Below W.heap.size W w'
theorem disk_row {r : List Int} (h : r.length ≤ 16) : diskB r = allB r 0 255 := by
  have : decide ((r.length : Int) ≤ 64) = true := by simp; omega
  rw [diskB, this, Bool.true_and]

set_option maxHeartbeats 2000000 in
theorem specArr_any (A : Option Addr) (c : Nat) (L : List (List Int)) (w : World) (h : RowsR CI w A L) (hl : L.length + sumN L ≤ 1000000000) :
    Calls Try.prog 15 #[.slice A L.length c] w (AVPost L w) := by
  cases h2 : inB L.length 2 6
  · have hno := Lib.hid (show AVPost L w (.returned (.bool false)) w from ⟨ret_bool (by simp [arrB, h2]), Below.refl _ _⟩)
    go_enter Try.func15, Try.ntmps15
    go_wp2_with (go_at_call 37; refine (l1In_is h2 _).mono ?_; rintro e w' ⟨rfl, rfl⟩)
    go_ret
    exact hno.out
  obtain ⟨n2, n6⟩ := inB_iff.1 h2
  have HR := Lib.hid h
  have hm0 := headN_get (L := L) (by omega)
  have hfal := Lib.hid (fun k (hk : k < L.length) (hf : rowB (headN L) L[k] = false) w' (hb : Below w.heap.size w w') => show AVPost L w (.returned (.bool false)) w' from ⟨ret_bool (by rw [arrB, all_no hk hf, Bool.and_false]), hb⟩)
  have hyes := Lib.hid (fun (hf : L.all (rowB (headN L)) = true) w' (hb : Below w.heap.size w w') => show AVPost L w (.returned (.bool true)) w' from ⟨ret_bool (by rw [arrB, hf, h2]; rfl), hb⟩)
  obtain ⟨b, off, rfl, hc⟩ := h (by omega)
  obtain ⟨A0, k0, x0, _, l0, u0⟩ := hc 0 (by omega)
  clear hc h
  have hsm0 := sumN_get (L := L) (k := 0) (by omega)
  rw [← hm0] at x0 l0 hsm0
  simp only [Nat.add_zero] at x0
  by_cases hm : headN L ≤ 16
  case neg =>
    have hno := Lib.hid (hfal.out 0 (by omega) (by rw [← hm0.symm.trans rfl] at hm; simp [rowB]; omega) w (Below.refl _ _))
    clear hfal hyes
    go_enter Try.func15, Try.ntmps15
    go_wp2_with (go_at_call 37; refine (l1In_is h2 _).mono ?_; rintro e w' ⟨rfl, rfl⟩)
    go_ret
    exact hno.out
  have HM := Lib.hid hm0
  obtain ⟨m, hme⟩ : ∃ m, m = headN L := ⟨_, rfl⟩
  rw [← hme] at x0 l0 hsm0 hm HM hfal hyes
  clear hme hm0
  go_enter Try.func15, Try.ntmps15
  go_wp2_with (go_at_call 37; refine (l1In_is h2 _).mono ?_; rintro e w' ⟨rfl, rfl⟩)
  clear h2 x0
  go_loopw [3] (fun y wr => ∃ k : Nat, k ≤ L.length ∧ y = .int .i64 k ∧ Hid ((L.take k).all (rowB m) = true) ∧ Hid (Below w.heap.size w wr)) (fun y _ => L.length - (intOf y).toNat)
  case atStart => exact ⟨0, Nat.zero_le _, rfl, by show (L.take 0).all _ = true; simp, Below.refl _ _⟩
  case round =>
    obtain ⟨k, hk, rfl, ha, hb⟩ := hrel
    by_cases hlt : k < L.length
    · obtain ⟨b', off', hbo, hc⟩ := HR.out.below hb.out (by omega)
      obtain ⟨rfl, rfl⟩ : b = b' ∧ off = off' := by injection hbo with hbo; injection hbo with h1 h2; exact ⟨h1, h2⟩
      obtain ⟨A0, k0, x0, _, l0, u0⟩ := hc 0 (by omega)
      obtain ⟨A1, k1, x1, y1, l1, u1⟩ := hc k hlt
      rw [← HM.out] at x0 l0
      simp only [Nat.add_zero] at x0
      have hst := Lib.hid (all_step (f := rowB m) hlt)
      have hf2 := Lib.hid (hfal.out k hlt)
      have hsm := sumN_get hlt
      clear hc hbo
      obtain ⟨r, hr⟩ : ∃ r, r = L[k] := ⟨_, rfl⟩
      rw [← hr] at x1 y1 l1 hst hf2 hsm
      clear hr
      have Hb := Lib.hid hb.out
      have Y1 := Lib.hid (IntsIn.of y1)
      clear hb y1
      by_cases hrm : r.length = m
      · have e1 : ((r.length : Int) != m) = false := by simp; omega
        cases hd : allB r 0 255
        · have hdd : diskB r = false := by rw [disk_row (by omega), hd]
          have HQ := Lib.hid (fun q => show Calls Try.prog 38 #[.slice A1 r.length k1] (wr.drewN q) (fun e w' => e = .returned (.bool false) ∧ w' = wr.drewN q) from by have := specDisk_any A1 k1 r (wr.drewN q) Y1.out (by omega); rw [hdd] at this; exact quiet_ll this)
          clear hdd
          have hno := Lib.hid (fun q => hf2.out (by simp [rowB, hd]) (wr.drewN q) (belowN Hb.out q))
          clear ha hst hf2 hfal hyes hd hrm
          go_wp2
          go_quiet ((go_at_call 38; exact Calls.quiet_of_same (HQ.out _)))
          go_wp2
          go_ret
          exact hno.out _
        · have hdd : diskB r = true := by rw [disk_row (by omega), hd]
          have HQ := Lib.hid (fun q => show Calls Try.prog 38 #[.slice A1 r.length k1] (wr.drewN q) (fun e w' => e = .returned (.bool true) ∧ w' = wr.drewN q) from by have := specDisk_any A1 k1 r (wr.drewN q) Y1.out (by omega); rw [hdd] at this; exact quiet_ll this)
          clear hdd
          have ha2 := Lib.hid (show (L.take (k + 1)).all (rowB m) = true by rw [hst.out, ha.out]; simp [rowB, hd, hrm]; omega)
          have hb2 := Lib.hid (fun q => belowN Hb.out q)
          clear ha hst hf2 hd Hb hrm
          go_wp2
          go_quiet ((go_at_call 38; exact Calls.quiet_of_same (HQ.out _)))
          go_wp2
          go_roundw
          case rel => exact ⟨k + 1, by omega, by go_num, ha2, hb2.out _⟩
          case measure => simp [intOf]; omega
      · have e1 : ((r.length : Int) != m) = true := by simp; omega
        have hno := Lib.hid (fun q => hf2.out (by simp [rowB, hrm]) (wr.drewN q) (belowN Hb.out q))
        clear ha hst hf2 hfal hyes
        go_wp2
        go_quiet (fail)
        go_wp2
        go_ret
        exact hno.out _
    · have hno := Lib.hid (hyes.out (by have := ha.out; rwa [List.take_of_length_le (by omega)] at this) wr hb.out)
      clear ha hfal hyes hb
      go_wp2
      go_ret
      exact hno.out

set_option maxHeartbeats 1000000 in
theorem rowChk_any (A A0 : Option Addr) (c c0 m n : Nat) (r : List Int) (g : Nat) (L0 : Option Addr) (cL : Nat) (v : Bool) (w : World) (hb : w.cell? ⟨g, 0, none⟩ = some (.slice L0 n cL)) (hn : 0 < n)
    (h0 : ∃ b off, L0 = some ⟨b, off, none⟩ ∧ w.cell? ⟨b, off, none⟩ = some (.slice A0 m c0)) (hr : IntsIn w A r) (hl : r.length ≤ 1000000000) (hm : m ≤ 1000000000) (hv : rowB m r = v) :
    Calls Try.prog 42 #[.slice A r.length c, .pointer (some ⟨g, 0, none⟩)] w fun e w' => e = .returned (.bool (!v)) ∧ w = w' := by
  obtain ⟨b, off, rfl, h0⟩ := h0
  by_cases hrm : r.length = m
  · have e1 : ((r.length : Int) != m) = false := by simp; omega
    by_cases h16 : r.length ≤ 16
    · have hv2 : allB r 0 255 = v := by rw [← hv]; simp [rowB, hrm]; omega
      clear hv hrm
      have d16 : decide ((16 : Int) < (r.length : Int)) = false := by simp; omega
      go_enter Try.func42, Try.ntmps42
      go_wp2_with (go_at_call 43; refine (allWithin_any _ _ r _ _ _ hr (by omega)).mono ?_; rintro e w' ⟨rfl, rfl⟩; rw [hv2])
      go_ret
      exact ⟨ret_bool (by first | rfl | simp [d16] | simp), rfl⟩
    · have hv2 : v = false := by rw [← hv]; simp [rowB]; omega
      subst hv2
      clear hv hrm
      go_enter Try.func42, Try.ntmps42
      go_wp2
      go_ret
      exact ⟨rfl, rfl⟩
  · have e1 : ((r.length : Int) != m) = true := by simp; omega
    have hv2 : v = false := by rw [← hv]; simp [rowB, hrm]
    subst hv2
    clear hv hrm
    go_enter Try.func42, Try.ntmps42
    go_wp2
    go_ret
    exact ⟨rfl, rfl⟩

def IdxW (b : Bool) (W : World) (e : Ending) (w' : World) : Prop := ∃ n : Int, e = .returned (.int .i64 n) ∧ decide (0 ≤ n) = !b ∧ W = w'

set_option maxHeartbeats 1000000 in
theorem indexRow_any (A : Option Addr) (c : Nat) (L : List (List Int)) (g : Nat) (w : World) (h : RowsR CI w A L) (hpos : 0 < L.length) (hb : w.cell? ⟨g, 0, none⟩ = some (.slice A L.length c)) (hl : L.length + sumN L ≤ 1000000000) :
    Calls Try.prog 59 #[.slice A L.length c, .func (.func 42) #[] #[.pointer (some ⟨g, 0, none⟩)]] w (IdxW (L.all (rowB (headN L))) w) := by
  have hm0 := headN_get hpos
  obtain ⟨b, off, rfl, hc⟩ := h hpos
  have h00 : ∃ A0 c0, w.cell? ⟨b, off, none⟩ = some (.slice A0 (headN L) c0) := by
    obtain ⟨A0, k0, x0, _, _, _⟩ := hc 0 hpos
    rw [← hm0] at x0
    exact ⟨A0, k0, x0⟩
  obtain ⟨A0, c0, h00⟩ := h00
  have hm1 := sumN_get hpos
  rw [← hm0] at hm1
  have HC := Lib.hid hc
  have H0 := Lib.hid h00
  obtain ⟨m, hme⟩ : ∃ m, m = headN L := ⟨_, rfl⟩
  rw [← hme] at hm1 H0 ⊢
  clear hme hm0 hc h00
  go_enter Try.func59, Try.ntmps59
  go_wp2
  go_loop [8] (fun y => ∃ k : Nat, k ≤ L.length ∧ y = .int .i64 k ∧ Hid ((L.take k).all (rowB m) = true)) (fun y => L.length - (intOf y).toNat)
  case atStart => exact ⟨0, Nat.zero_le _, rfl, by show (L.take 0).all _ = true; simp⟩
  case round =>
    obtain ⟨k, hk, rfl, ha⟩ := hrel
    by_cases hlt : k < L.length
    · obtain ⟨A1, k1, x1, y1, _, _⟩ := HC.out k hlt
      have hst := Lib.hid (all_step (f := rowB m) hlt)
      have hno := Lib.hid (fun h => all_no (f := rowB m) hlt h)
      have hsm := sumN_get hlt
      obtain ⟨r, hr⟩ : ∃ r, r = L[k] := ⟨_, rfl⟩
      rw [← hr] at x1 y1 hst hno hsm
      clear hr
      cases hv : rowB m r
      · have hn := Lib.hid (hno.out hv)
        have HV := Lib.hid (rowChk_any A1 A0 k1 c0 m L.length r g _ c false w hb hpos ⟨b, off, rfl, H0.out⟩ (IntsIn.of y1) (by omega) (by omega) hv)
        clear hv hst hno ha y1
        go_wp2_with (go_at_call 42; refine HV.out.mono ?_; rintro e w' ⟨rfl, rfl⟩)
        go_ret
        exact ⟨k, rfl, by rw [hn.out]; simp, rfl⟩
      · have ha2 := Lib.hid (show (L.take (k + 1)).all (rowB m) = true by rw [hst.out, ha.out, hv]; rfl)
        have HV := Lib.hid (rowChk_any A1 A0 k1 c0 m L.length r g _ c true w hb hpos ⟨b, off, rfl, H0.out⟩ (IntsIn.of y1) (by omega) (by omega) hv)
        clear hv hst hno ha y1
        go_wp2_with (go_at_call 42; refine HV.out.mono ?_; rintro e w' ⟨rfl, rfl⟩)
        go_round
        case rel => exact ⟨k + 1, by omega, by go_num, ha2⟩
        case measure => simp [intOf]; omega
    · have hn := Lib.hid (show L.all (rowB m) = true by have := ha.out; rwa [List.take_of_length_le (by omega)] at this)
      clear ha
      go_wp2
      go_ret
      exact ⟨-1, rfl, by rw [hn.out]; rfl, rfl⟩

set_option maxHeartbeats 2000000 in
theorem implArr_any (A : Option Addr) (c : Nat) (L : List (List Int)) (w : World) (h : RowsR CI w A L) (hl : L.length + sumN L ≤ 1000000000) :
    Calls Try.prog 17 #[.slice A L.length c] w (AVPost L w) := by
  cases h2 : inB L.length 2 6
  · have hno := Lib.hid (show AVPost L w (.returned (.bool false)) (w.alloc (.cells #[.slice A L.length c] 22)) from ⟨ret_bool (by simp [arrB, h2]), b_alloc (Below.refl _ _) _⟩)
    go_enter Try.func17, Try.ntmps17
    go_wp2_with (go_at_call 40; refine (within_is h2 _).mono ?_; rintro e w' ⟨rfl, rfl⟩)
    go_ret
    exact hno.out
  go_enter Try.func17, Try.ntmps17
  go_wp2_with (go_at_call 40; refine (within_is h2 _).mono ?_; rintro e w' ⟨rfl, rfl⟩)
  obtain ⟨n2, n6⟩ := inB_iff.1 h2
  have hfin := Lib.hid (fun b w' (hv : L.all (rowB (headN L)) = b) (hb : Below w.heap.size w w') => show AVPost L w (.returned (.bool b)) w' from ⟨ret_bool (by rw [arrB, hv, h2]; cases b <;> rfl), hb⟩)
  have HB := Lib.hid (b_alloc (Below.refl w.heap.size w) (.cells #[.slice A L.length c] 22))
  have HX := Lib.hid (indexRow_any A c L w.heap.size (w.alloc (.cells #[.slice A L.length c] 22)) (h.alloc _) (by omega) (by simp) hl)
  clear h2 h
  obtain ⟨v, hv⟩ : ∃ v, v = L.all (rowB (headN L)) := ⟨_, rfl⟩
  rw [← hv] at HX hfin
  have HF := Lib.hid (hfin.out v _ rfl HB.out)
  clear hfin HB hv
  generalize hw0 : w.alloc (.cells #[.slice A L.length c] 22) = w0 at *
  clear hw0
  have hcf : Calls Try.prog 41 #[.slice A L.length c, .func (.func 42) #[] #[.pointer (some ⟨w.heap.size, 0, none⟩)]] w0 fun e w' => e = .returned (.bool (!v)) ∧ w0 = w' := by
    go_enter Try.func41, Try.ntmps41
    go_wp2_with fail
    refine HX.out.mono ?_
    rintro e w2 ⟨n, rfl, hn, rfl⟩
    have Hn := Lib.hid hn
    clear hn
    go_wp2
    go_ret
    exact ⟨ret_bool Hn.out, rfl⟩
  refine hcf.mono ?_
  rintro e w2 ⟨rfl, rfl⟩
  cases v
  all_goals
    go_wp2
    go_ret
    exact HF.out
end Go.Proofs.Ytgdbchodlapdpaa
