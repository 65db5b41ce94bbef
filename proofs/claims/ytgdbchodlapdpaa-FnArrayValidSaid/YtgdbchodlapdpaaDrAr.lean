/- The draws of the laws on arrays of disks. -/
import Derived.Test.YtgdbchodlapdpaaDrAq
namespace Go.Proofs.Ytgdbchodlapdpaa
open Go.RowKit
set_option linter.unusedVariables false

/-- An array that reads so. -/
def ArrIn (W : World) (A : Option Addr) (c : Nat) (L : List (List Int)) (w' : World) : Prop :=
  RowsR CI w' A L ∧ 1 ≤ L.length ∧ L.length ≤ c ∧ c ≤ 9223372036854775807 ∧ L.length + sumN L ≤ 60 ∧ Below W.heap.size W w'
def DrawnA1 (W : World) (e : Ending) (w' : World) : Prop := ∃ A c L, e = .returned (.slice A L.length c) ∧ ArrIn W A c L w'
def DrawnA2 (W : World) (e : Ending) (w' : World) : Prop := ∃ A c L, ∃ n : Int, e = .returned (.tuple #[.slice A L.length c, .int .i64 n]) ∧ ArrIn W A c L w' ∧ -1 ≤ n ∧ n ≤ 1000
def DrawnA3 (W : World) (e : Ending) (w' : World) : Prop := ∃ A c L, ∃ n v : Int, e = .returned (.tuple #[.slice A L.length c, .int .i64 n, .int .i64 v]) ∧ ArrIn W A c L w' ∧ -1 ≤ n ∧ n ≤ 10000 ∧ -1 ≤ v ∧ v ≤ 1000
theorem mulMax_b {m D : Nat} (h0 : D + m ≤ 60) (h1 : 1 ≤ D) : 0 ≤ (m : Int) * ((D : Int) - 1) ∧ (m : Int) * ((D : Int) - 1) ≤ 3600 := by
  refine ⟨Int.mul_nonneg (by omega) (by omega), ?_⟩
  have h1 : (m : Int) * ((D : Int) - 1) = (m : Int) * D - m := by rw [Int.mul_sub, Int.mul_one]
  have h2 : m * D ≤ 60 * 60 := Nat.mul_le_mul (by omega) (by omega)
  have h3 : ((m * D : Nat) : Int) = (m : Int) * (D : Int) := Int.natCast_mul m D
  have h4 : (0 : Int) ≤ ((m * D : Nat) : Int) := by omega
  omega
theorem wrapm_in {x : Int} (h0 : 0 ≤ x) (h1 : x ≤ 100000) : wrap64 x = x := IntWalk.wrap64_in _ (by omega)

set_option maxHeartbeats 1000000 in
theorem drawAV_any (A : Option Addr) (m c : Nat) (W : World) (hb : BytesIn W A m) (hmc : m ≤ c) (hc : c ≤ 9223372036854775807) :
    Calls Try.prog 21 #[.slice A m c] W (DrawnA1 W) := by
  go_enter Try.func21, Try.ntmps21
  go_wp2_with fail
  refine (open_any A m c W hb hmc hc).mono ?_
  rintro e w1 ⟨rfl, hr, hb1, hs1⟩
  go_wp2_with fail
  refine (l20Array_any W.heap.size 0 2 _ hr (by omega) (by omega)).mono ?_
  rintro e w2 ⟨A2, c2, L, rfl, ht, l1, lc, hc2, hs, hr2, hg⟩
  have Z := Lib.hid (show DrawnA1 W (.returned (.slice A2 L.length c2)) w2 from ⟨_, _, L, rfl, ht w2 (fun k _ _ => rfl), l1, lc, hc2, hs, bgrown hb1 hg (Nat.le_refl _)⟩)
  clear ht hr hr2 hg hb1
  go_wp2
  go_ret
  exact Z.out

set_option maxHeartbeats 1000000 in
theorem drawAC_any (A : Option Addr) (m c : Nat) (W : World) (hb : BytesIn W A m) (hmc : m ≤ c) (hc : c ≤ 9223372036854775807) :
    Calls Try.prog 25 #[.slice A m c] W (DrawnA1 W) := by
  go_enter Try.func25, Try.ntmps25
  go_wp2_with fail
  refine (open_any A m c W hb hmc hc).mono ?_
  rintro e w1 ⟨rfl, hr, hb1, hs1⟩
  go_wp2_with fail
  refine (l20Array_any W.heap.size 0 9 _ hr (by omega) (by omega)).mono ?_
  rintro e w2 ⟨A2, c2, L, rfl, ht, l1, lc, hc2, hs, hr2, hg⟩
  have Z := Lib.hid (show DrawnA1 W (.returned (.slice A2 L.length c2)) w2 from ⟨_, _, L, rfl, ht w2 (fun k _ _ => rfl), l1, lc, hc2, hs, bgrown hb1 hg (Nat.le_refl _)⟩)
  clear ht hr hr2 hg hb1
  go_wp2
  go_ret
  exact Z.out

set_option maxHeartbeats 2000000 in
theorem drawReb_any (A : Option Addr) (m c : Nat) (W : World) (hb : BytesIn W A m) (hmc : m ≤ c) (hc : c ≤ 9223372036854775807) :
    Calls Try.prog 33 #[.slice A m c] W (DrawnA2 W) := by
  go_enter Try.func33, Try.ntmps33
  go_wp2_with fail
  refine (open_any A m c W hb hmc hc).mono ?_
  rintro e w1 ⟨rfl, hr, hb1, hs1⟩
  go_wp2_with fail
  refine (l20Array_any W.heap.size 0 12 _ hr (by omega) (by omega)).mono ?_
  rintro e w2 ⟨A2, c2, L, rfl, ht, l1, lc, hc2, hs, hr2, hg⟩
  have B2 := Lib.hid (bgrown hb1 hg (Nat.le_refl _))
  have HT := Lib.hid ht
  have R2 := Lib.hid hr2
  have z2 := hg.size
  clear hr hr2 hg hb1
  clear ht
  go_wp2_with fail
  refine (pick_in W.heap.size 100001100 _ _ R2.out (by omega) (by omega)).mono ?_
  rintro e w3 ⟨x, rfl, x0, x1, hr3, hg3, hs3⟩
  have Z := Lib.hid (show DrawnA2 W (.returned (.tuple #[.slice A2 L.length c2, .int .i64 (x - 1)])) w3 from ⟨_, _, L, _, rfl, ⟨HT.out w3 (fun k k1 k2 => hg3.block k k2 (fun e => by injection e with e; omega)), l1, lc, hc2, hs, bgrown B2.out hg3 (Nat.le_refl _)⟩, by omega, by omega⟩)
  clear hr3 hg3 hs3 B2 HT R2
  go_wp2
  go_ret2
  exact Z.out

set_option maxHeartbeats 2000000 in
theorem drawAR_any (A : Option Addr) (m c : Nat) (W : World) (hb : BytesIn W A m) (hmc : m ≤ c) (hc : c ≤ 9223372036854775807) :
    Calls Try.prog 30 #[.slice A m c] W (DrawnA3 W) := by
  go_enter Try.func30, Try.ntmps30
  go_wp2_with fail
  refine (open_any A m c W hb hmc hc).mono ?_
  rintro e w1 ⟨rfl, hr, hb1, hs1⟩
  go_wp2_with fail
  refine (l20Array_any W.heap.size 0 12 _ hr (by omega) (by omega)).mono ?_
  rintro e w2 ⟨A2, c2, L, rfl, ht, l1, lc, hc2, hs, hr2, hg⟩
  have B2 := Lib.hid (bgrown hb1 hg (Nat.le_refl _))
  have HT := Lib.hid ht
  have R2 := Lib.hid hr2
  have z2 := hg.size
  clear hr hr2 hg hb1
  obtain ⟨b, off, rfl, hcell⟩ := ht w2 (fun k _ _ => rfl) l1
  obtain ⟨A0, c0, x0c, _, _, _⟩ := hcell 0 l1
  simp only [Nat.add_zero] at x0c
  have hm0 := sumN_get (L := L) (k := 0) l1
  obtain ⟨m0, hm0e⟩ : ∃ q, q = L[0].length := ⟨_, rfl⟩
  rw [← hm0e] at x0c hm0
  have HS := Lib.hid hs
  obtain ⟨mb0, mb1⟩ := mulMax_b (m := m0) (D := L.length) (by omega) (by omega)
  clear hcell ht hm0e
  have wq : (0 : Int) ≤ (m0 : Int) ∧ (m0 : Int) ≤ 100000 ∧ (0 : Int) ≤ (m0 : Int) + 2 ∧ (m0 : Int) + 2 ≤ 100000 := by omega
  have wp1 : wrap64 ((m0 : Int) * ((L.length : Int) - 1)) = (m0 : Int) * ((L.length : Int) - 1) := wrapm_in mb0 (Int.le_trans mb1 (by decide))
  have wp2 : wrap64 ((m0 : Int) * ((L.length : Int) - 1) + 2) = (m0 : Int) * ((L.length : Int) - 1) + 2 := wrapm_in (Int.add_nonneg mb0 (by decide)) (Int.le_trans (Int.add_le_add_right mb1 2) (by decide))
  have wp3 : wrap64 (m0 : Int) = (m0 : Int) := wrapm_in wq.1 wq.2.1
  have wp4 : wrap64 ((m0 : Int) + 2) = (m0 : Int) + 2 := wrapm_in wq.2.2.1 wq.2.2.2
  by_cases hD : 1 < L.length
  all_goals go_wp2_with fail
  all_goals (try simp only [wp1, wp2, wp3, wp4])
  all_goals clear wp1 wp2 wp3 wp4
  all_goals
    refine (pick_in W.heap.size 100001100 _ _ R2.out (by omega) (by omega)).mono ?_
    rintro e w3 ⟨x, rfl, x0, x1, hr3, hg3, hs3⟩
    go_wp2_with fail
    refine (pick_in W.heap.size 100001101 _ _ hr3 (by omega) (by omega)).mono ?_
    rintro e w4 ⟨y, rfl, y0, y1, hr4, hg4, hs4⟩
    have Z := Lib.hid (show DrawnA3 W (.returned (.tuple #[.slice (some ⟨b, off, none⟩) L.length c2, .int .i64 (x - 1), .int .i64 (y - 1)])) w4 from ⟨_, _, L, _, _, rfl, ⟨HT.out w4 (fun k k1 k2 => (hg4.block k (by omega) (fun e => by injection e with e; omega)).trans (hg3.block k k2 (fun e => by injection e with e; omega))), l1, lc, hc2, HS.out, bgrown (bgrown B2.out hg3 (Nat.le_refl _)) hg4 (Nat.le_refl _)⟩, by omega, by omega, by omega, by omega⟩)
    clear hr3 hg3 hs3 hr4 hg4 hs4 B2 HT R2
    go_wp2
    go_ret3
    exact Z.out

set_option maxHeartbeats 2000000 in
theorem drawAW_any (A : Option Addr) (m c : Nat) (W : World) (hb : BytesIn W A m) (hmc : m ≤ c) (hc : c ≤ 9223372036854775807) :
    Calls Try.prog 35 #[.slice A m c] W (DrawnA3 W) := by
  go_enter Try.func35, Try.ntmps35
  go_wp2_with fail
  refine (open_any A m c W hb hmc hc).mono ?_
  rintro e w1 ⟨rfl, hr, hb1, hs1⟩
  go_wp2_with fail
  refine (l20Array_any W.heap.size 0 12 _ hr (by omega) (by omega)).mono ?_
  rintro e w2 ⟨A2, c2, L, rfl, ht, l1, lc, hc2, hs, hr2, hg⟩
  have B2 := Lib.hid (bgrown hb1 hg (Nat.le_refl _))
  have HT := Lib.hid ht
  have R2 := Lib.hid hr2
  have z2 := hg.size
  clear hr hr2 hg hb1
  obtain ⟨b, off, rfl, hcell⟩ := ht w2 (fun k _ _ => rfl) l1
  obtain ⟨A0, c0, x0c, _, _, _⟩ := hcell 0 l1
  simp only [Nat.add_zero] at x0c
  have hm0 := sumN_get (L := L) (k := 0) l1
  obtain ⟨m0, hm0e⟩ : ∃ q, q = L[0].length := ⟨_, rfl⟩
  rw [← hm0e] at x0c hm0
  have HS := Lib.hid hs
  obtain ⟨mb0, mb1⟩ := mulMax_b (m := m0) (D := L.length) (by omega) (by omega)
  clear hcell ht hm0e
  have wq : (0 : Int) ≤ (m0 : Int) ∧ (m0 : Int) ≤ 100000 ∧ (0 : Int) ≤ (m0 : Int) + 2 ∧ (m0 : Int) + 2 ≤ 100000 := by omega
  have wp1 : wrap64 ((m0 : Int) * ((L.length : Int) - 1)) = (m0 : Int) * ((L.length : Int) - 1) := wrapm_in mb0 (Int.le_trans mb1 (by decide))
  have wp2 : wrap64 ((m0 : Int) * ((L.length : Int) - 1) + 2) = (m0 : Int) * ((L.length : Int) - 1) + 2 := wrapm_in (Int.add_nonneg mb0 (by decide)) (Int.le_trans (Int.add_le_add_right mb1 2) (by decide))
  have wp3 : wrap64 (m0 : Int) = (m0 : Int) := wrapm_in wq.1 wq.2.1
  have wp4 : wrap64 ((m0 : Int) + 2) = (m0 : Int) + 2 := wrapm_in wq.2.2.1 wq.2.2.2
  by_cases hD : 1 < L.length
  all_goals go_wp2_with fail
  all_goals (try simp only [wp1, wp2, wp3, wp4])
  all_goals clear wp1 wp2 wp3 wp4
  all_goals
    refine (pick_in W.heap.size 100001100 _ _ R2.out (by omega) (by omega)).mono ?_
    rintro e w3 ⟨x, rfl, x0, x1, hr3, hg3, hs3⟩
    go_wp2_with fail
    refine (pick_in W.heap.size 100001101 _ _ hr3 (by omega) (by omega)).mono ?_
    rintro e w4 ⟨y, rfl, y0, y1, hr4, hg4, hs4⟩
    have Z := Lib.hid (show DrawnA3 W (.returned (.tuple #[.slice (some ⟨b, off, none⟩) L.length c2, .int .i64 (x - 1), .int .i64 (y - 1)])) w4 from ⟨_, _, L, _, _, rfl, ⟨HT.out w4 (fun k k1 k2 => (hg4.block k (by omega) (fun e => by injection e with e; omega)).trans (hg3.block k k2 (fun e => by injection e with e; omega))), l1, lc, hc2, HS.out, bgrown (bgrown B2.out hg3 (Nat.le_refl _)) hg4 (Nat.le_refl _)⟩, by omega, by omega, by omega, by omega⟩)
    clear hr3 hg3 hs3 hr4 hg4 hs4 B2 HT R2
    go_wp2
    go_ret3
    exact Z.out
end Go.Proofs.Ytgdbchodlapdpaa
