/- Proves Rows.FnPartsCoverSaid: for every input the law FnPartsCover returns true and leaves its arguments as they were. Conditions: none. -/
import Derived.Test.YtpfbkmpjneclpaaOpen
import Derived.Test.YtpfbkmpjneclpaaPartsLaw
import Derived.Test.YtpfbkmpjneclpaaDrawPs
import Derived.Test.YtpfbkmpjneclpaaInts
namespace Go.Proofs.Ytpfbkmpjneclpaa.fnPartsCover
open Go.ChangeShapes Go.WideShapes Go.ChangeAt Go.RowKit
set_option linter.unusedVariables false
/-- How many sectors the first j partitions hold. -/
def sumP : Nat → List (Int × Int) → Int
  | 0, _ => 0
  | _ + 1, [] => 0
  | j + 1, p :: r => p.2 + sumP j r
/-- How many of the sectors from 0 to j belong to a partition. -/
def hitsP (l : List (Int × Int)) : Nat → Int
  | 0 => 0
  | j + 1 => hitsP l j + (if (fdV j 0 l).1 < 0 then 0 else 1)
theorem sumP_succ : ∀ (l : List (Int × Int)) (j : Nat) (h : j < l.length), sumP (j + 1) l = sumP j l + l[j].2
  | [], j, h => absurd h (by simp)
  | p :: r, 0, h => by simp [sumP]
  | p :: r, j + 1, h => by
    have := sumP_succ r j (by simpa using h)
    rw [show sumP (j + 1 + 1) (p :: r) = p.2 + sumP (j + 1) r from rfl, this, show sumP (j + 1) (p :: r) = p.2 + sumP j r from rfl]
    simp only [List.getElem_cons_succ]
    omega
theorem hitsP_bd (l : List (Int × Int)) (j : Nat) : 0 ≤ hitsP l j ∧ hitsP l j ≤ j := by
  induction j with
  | zero => simp [hitsP]
  | succ j ih => unfold hitsP; split <;> omega

/-- The sectors below j that belong to a partition, partition by partition. -/
def meets (j : Int) : List (Int × Int) → Int
  | [] => 0
  | p :: r => (if j ≤ p.1 then 0 else if j < p.1 + p.2 then j - p.1 else p.2) + meets j r
theorem fd_none (size a : Int) : ∀ (l : List (Int × Int)) (last : Int) (k0 : Nat), partsOk size last l = true → a < last → (fdV a k0 l).1 < 0
  | [], _, _, _, _ => by simp [fdV]
  | p :: r, last, k0, hp, ha => by
    simp only [partsOk, Bool.and_eq_true, inB_iff] at hp
    have : inB a p.1 (p.1 + p.2 - 1) = false := inB_not.2 (by omega)
    simp only [fdV, this]
    exact fd_none size a r _ _ hp.2 (by omega)
theorem meets_none (size j : Int) : ∀ (l : List (Int × Int)) (last : Int), partsOk size last l = true → j ≤ last → meets j l = 0
  | [], _, _, _ => rfl
  | p :: r, last, hp, ha => by
    simp only [partsOk, Bool.and_eq_true, inB_iff] at hp
    have := meets_none size j r _ hp.2 (by omega)
    simp only [meets, this]
    rw [if_pos (by omega)]; rfl
theorem meets_step (size j : Int) : ∀ (l : List (Int × Int)) (last : Int) (k0 : Nat), partsOk size last l = true → meets (j + 1) l = meets j l + (if (fdV j k0 l).1 < 0 then 0 else 1)
  | [], _, _, _ => by simp [meets, fdV]
  | p :: r, last, k0, hp => by
    simp only [partsOk, Bool.and_eq_true, inB_iff] at hp
    cases hb : inB j p.1 (p.1 + p.2 - 1)
    · have hb' := inB_not.1 hb
      have ih := meets_step size j r _ (k0 + 1) hp.2
      simp only [meets, fdV, hb, ih]
      simp only [Bool.false_eq_true, if_false]
      have : (if j + 1 ≤ p.1 then (0 : Int) else if j + 1 < p.1 + p.2 then j + 1 - p.1 else p.2) = (if j ≤ p.1 then 0 else if j < p.1 + p.2 then j - p.1 else p.2) := by
        split <;> split <;> first | omega | (split <;> first | omega | (split <;> omega))
      rw [this]; omega
    · have hb' := inB_iff.1 hb
      have h1 := meets_none size (j + 1) r _ hp.2 (by omega)
      have h2 := meets_none size j r _ hp.2 (by omega)
      simp only [meets, fdV, hb, h1, h2, if_true]
      rw [if_neg (show ¬ (k0 : Int) < 0 by omega)]
      split <;> split <;> first | omega | (split <;> first | omega | (split <;> omega))
theorem hits_meets {size : Int} {l : List (Int × Int)} (hp : partsOk size 0 l = true) (j : Nat) : hitsP l j = meets j l := by
  induction j with
  | zero => rw [show hitsP l 0 = 0 from rfl, show ((0 : Nat) : Int) = 0 from rfl, meets_none size 0 l 0 hp (by omega)]
  | succ j ih =>
    rw [show hitsP l (j + 1) = hitsP l j + (if (fdV j 0 l).1 < 0 then 0 else 1) from rfl, ih, show ((j + 1 : Nat) : Int) = (j : Int) + 1 by omega, meets_step size j l 0 0 hp]
theorem meets_all (size : Int) : ∀ (l : List (Int × Int)) (last : Int), partsOk size last l = true → meets size l = sumP l.length l
  | [], _, _ => rfl
  | p :: r, last, hp => by
    simp only [partsOk, Bool.and_eq_true, inB_iff] at hp
    have := meets_all size r _ hp.2
    rw [show meets size (p :: r) = (if size ≤ p.1 then 0 else if size < p.1 + p.2 then size - p.1 else p.2) + meets size r from rfl, this,
      show sumP (p :: r).length (p :: r) = p.2 + sumP r.length r from rfl, if_neg (by omega), if_neg (by omega)]
theorem cover {size : Int} {l : List (Int × Int)} (hv : partsB l size = true) : hitsP l size.toNat = sumP l.length l := by
  unfold partsB at hv
  simp only [Bool.and_eq_true, inB_iff] at hv
  rw [hits_meets hv.2, show ((size.toNat : Nat) : Int) = size by omega, meets_all size l 0 hv.2]
theorem sumP_bd {size : Int} {l : List (Int × Int)} (hv : partsB l size = true) (j : Nat) (h : j ≤ l.length) : 0 ≤ sumP j l ∧ sumP j l ≤ 100000 * j := by
  induction j with
  | zero => cases l <;> simp [sumP]
  | succ j ih =>
    have := ih (by omega)
    have hr := parts_range hv j (by omega)
    rw [sumP_succ l j (by omega)]
    omega

set_option maxHeartbeats 1000000 in
theorem walk (A : Option Addr) (m cp : Nat) (w : World) (hb : BytesIn w A m) (hmc : m ≤ cp) (hcp : cp ≤ 9223372036854775807) :
    Calls Try.prog 8 #[.slice A m cp] w fun e w' => e = .returned (.bool true) ∧ Below w.heap.size w w' := by
  by_cases hbig : 1048576 < m
  · go_enter Try.func8, Try.ntmps8
    go_wp2
    go_ret
    exact ⟨rfl, Below.refl _ _⟩
  · go_enter Try.func8, Try.ntmps8
    go_wp2_with fail
    refine (drawPartsValid_any A m cp w hb hmc hcp).mono ?_
    rintro e w1 ⟨B, c, l, size, rfl, hR, hl, s0, s1, hb1⟩
    have hP := PartsIn.of hR
    clear hR
    go_wp2_with fail
    refine (implParts_any B c l size _ hP (by omega)).mono ?_
    rintro e w2 ⟨rfl, hb2⟩
    have hP2 := hP.below hb2
    have hb12 := hb1.trans (hb2.mono hb1.size)
    clear hP hb1 hb2
    cases hv : partsB l size
    · go_wp2_with (first
        | (go_at_call 16; refine (specParts_any B c l size _ hP2 (by omega)).mono ?_; rintro e w3 ⟨rfl, hb3⟩; rw [hv])
        | (go_at_call 28; refine (alive_any _).mono ?_; rintro e w4 ⟨rfl, hb4⟩))
      have hb13 := hb12.trans (hb3.mono hb12.size)
      go_ret
      exact ⟨rfl, hb13.trans (hb4.mono hb13.size)⟩
    · go_wp2_with fail
      refine (specParts_any B c l size _ hP2 (by omega)).mono ?_
      rintro e w3 ⟨rfl, hb3⟩
      have hP3 := hP2.below hb3
      have hb13 := hb12.trans (hb3.mono hb12.size)
      rw [hv]
      clear hP2 hb12 hb3
      by_cases hbg : 200 < size
      · go_wp2_with (go_at_call 28; refine (alive_any _).mono ?_; rintro e w4 ⟨rfl, hb4⟩)
        go_ret
        exact ⟨rfl, hb13.trans (hb4.mono hb13.size)⟩
      · have hz : 0 ≤ size := by
          have hv' := hv
          unfold partsB at hv'
          simp only [Bool.and_eq_true, inB_iff] at hv'
          omega
        have hfd : ∀ a, fromDiskV l size a = fdV a 0 l := fun a => by unfold fromDiskV; rw [if_pos hv]
        have Hcov := Lib.hid (cover hv)
        have Hsb := Lib.hid (fun j h => sumP_bd hv j h)
        have Hfd := Lib.hid hfd
        clear hv hfd
        go_wp2
        go_loopw [6, 7] (fun x y wr => ∃ j : Nat, j ≤ l.length ∧ x = .int .i64 (sumP j l) ∧ y = .int .i64 j ∧ Below w3.heap.size w3 wr) (fun _ y _ => l.length - (intOf y).toNat)
        case atStart => exact ⟨0, by omega, by cases l <;> rfl, rfl, Below.refl _ _⟩
        case round =>
          obtain ⟨j, hj, rfl, rfl, hbr⟩ := hrel
          by_cases hlt : j < l.length
          · obtain ⟨b, off, rfl, hc⟩ := hP3.below hbr (by omega)
            obtain ⟨c1, c2⟩ := hc j hlt
            have hs := Lib.hid (sumP_succ l j hlt)
            have b1 := Hsb.out j hj
            have b2 := Hsb.out (j + 1) hlt
            rw [hs.out] at b2
            clear hc hP3
            obtain ⟨⟨f, n⟩, hfn⟩ : ∃ p : Int × Int, p = l[j] := ⟨_, rfl⟩
            rw [← hfn] at c1 c2 hs b2
            simp only at c1 c2 b2
            clear hfn
            have hbr' := Lib.hid hbr
            clear hbr
            go_wp2
            go_roundw
            case rel => exact ⟨j + 1, by omega, by rw [hs.out], by go_num, hbr'.out⟩
            case measure => simp [intOf]; omega
          · obtain rfl : j = l.length := by omega
            have b1 := Hsb.out l.length (Nat.le_refl _)
            have hP4 := hP3.below hbr
            have hb14 := hb13.trans (hbr.mono hb13.size)
            clear hP3 hb13 hbr
            go_wp2
            go_loopw [6, 8] (fun x y wz => ∃ j : Nat, (j : Int) ≤ size ∧ x = .int .i64 (sumP l.length l - hitsP l j) ∧ y = .int .i64 j ∧ Below wr.heap.size wr wz) (fun _ y _ => size.toNat - (intOf y).toNat)
            case atStart => exact ⟨0, by omega, by simp [hitsP], rfl, Below.refl _ _⟩
            case round =>
              obtain ⟨i, hi, rfl, rfl, hbz⟩ := hrel
              have hb1 := hitsP_bd l i
              have hbz' := Lib.hid hbz
              have hP5 := hP4.below hbz
              clear hbz
              by_cases hlt2 : (i : Int) < size
              · have hs : Hid (hitsP l (i + 1) = hitsP l i + (if (fdV i 0 l).1 < 0 then 0 else 1)) := Lib.hid rfl
                go_wp2_with fail
                refine (implFromDisk_any B c l size i _ hP5 (by omega)).mono ?_
                rintro e w5 ⟨rfl, hb5⟩
                have hb6 := Lib.hid (hbz'.out.trans (hb5.mono hbz'.out.size))
                clear hb5 hP5 hP4
                rw [Hfd.out]
                by_cases hn : (fdV i 0 l).1 < 0
                · have hs2 := Lib.hid (show hitsP l (i + 1) = hitsP l i by rw [hs.out, if_pos hn]; omega)
                  go_wp2
                  go_roundw
                  case rel => exact ⟨i + 1, by omega, by rw [hs2.out], by go_num, hb6.out⟩
                  case measure => simp [intOf]; omega
                · have hs2 := Lib.hid (show hitsP l (i + 1) = hitsP l i + 1 by rw [hs.out, if_neg hn])
                  go_wp2
                  go_roundw
                  case rel => exact ⟨i + 1, by omega, by rw [hs2.out]; go_num, by go_num, hb6.out⟩
                  case measure => simp [intOf]; omega
              · obtain rfl : i = size.toNat := by omega
                have hzero : (sumP l.length l - hitsP l size.toNat == 0) = true := by rw [Hcov.out]; simp
                go_wp2
                go_ret
                exact ⟨rfl, hb14.trans (hbz'.out.mono hb14.size)⟩

set_option maxRecDepth 100000 in
theorem lifted (os : Os) (started : os.Started) (H : Type) (enc : TypeId × Value → H) :
    ReturnsInHanded {} Try.checked os 8 .any (Rows.fnPartsCoverSpec.pre6 enc Try.prog Try.f8 Rows.fnPartsCoverRow.domain false) (Rows.fnPartsCoverSpec.post enc Try.prog Try.f8 false true false false) := by
  refine returnsInHanded_of_change (C := Try.checked) own started (by kernel_rfl) Try.func8
    (ChangeSpec.witness6 (enc := enc) (C := Try.checked) false ⟨#[], #[.slice none 0 0], []⟩ 8 (by kernel_rfl) (by kernel_rfl) (by kernel_rfl) (by kernel_rfl)) ?_
  intro W base args ds gs before hval0 hW hcnd _
  have hval : ∀ (j : Nat) t v, Try.f8.params[j]? = some t → args[j]? = some v → Value.okWide Try.prog W .any base t v := hval0
  have hW' := hW
  obtain ⟨p, q, hA0, hV, rfl, hfz, hnd⟩ := hW
  have hA : DataW.TrodAll enc Try.prog W 0 (fun _ => true) true Try.f8.params.toList args.toList ds p := hA0
  rw [Try.params8] at hA hval
  obtain ⟨v0, vs0, d0, ds0, p0, q0, hargs, rfl, rfl, h0, r0⟩ := trodAll_cons hA
  obtain ⟨rfl, rfl, rfl⟩ := trodAll_nil r0
  obtain rfl : args = #[v0] := by cases args; simp_all
  obtain ⟨rfl, rfl⟩ := trodVars_none hV
  have k0 := h0
  have lt0 : ∀ x ∈ p0, x.block < W.heap.size := by obtain ⟨m, hm⟩ := k0; exact DataW.trod_lt m _ _ _ hm
  obtain ⟨a0, n0, c0, rfl, ok0, le0, cl0⟩ := open_bytes (hval 0 34 v0 rfl rfl) h0
  clear hA0 hval0
  refine (walk a0 n0 c0 W ok0 le0 cl0).mono fun e W' ⟨he, bel⟩ => ?_
  subst he
  exact ⟨_, rfl, _, _, _, [], _, [], hW', trodAll_mk1 (shut_bool Try.underlying4 _), (trodAll_cons_mk (Below.trod laidOut (by kernel_rfl) (of_decide_eq_true (by kernel_rfl)) k0 bel lt0) trodAll_mk0), rfl, bel.frame _, fun h => by cases h⟩

theorem proved : Rows.FnPartsCoverSaid :=
  OpenClaim.holds_of_wide 8 Try.f8 rfl rfl rfl rfl rfl rfl rfl ⟨rfl, rfl, rfl, rfl, rfl⟩ rfl rfl rfl rfl rfl (by kernel_rfl) Try.func8 (by kernel_rfl)
    (of_decide_eq_true (by kernel_rfl)) (by unfold Func.isWrapper; first | (rw [if_pos (by decide +kernel)]; kernel_rfl) | (rw [if_neg (by decide +kernel)]; exact ⟨rfl, rfl⟩))
    (fun os started H enc _ => lifted os started H enc)
#print axioms proved
end Go.Proofs.Ytpfbkmpjneclpaa.fnPartsCover
