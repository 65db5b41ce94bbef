/- Proves Rows.FnCommittedNumbersSaid: for every input the law FnCommittedNumbers returns true and leaves its arguments as they were. Conditions: none. -/
import Derived.Test.YthghngphamimgaaOpen
import Derived.Test.YthghngphamimgaaDrJV
import Derived.Test.YthghngphamimgaaRecC
import Derived.Test.YthghngphamimgaaSame
namespace Go.Proofs.Ythghngphamimgaa.fnCommittedNumbers
open Go.ChangeShapes Go.WideShapes Go.ChangeAt Go.RowKit
set_option linter.unusedVariables false
theorem comm_nodup : ∀ (l p : List Rc) (s : Int), upB s p l = true → (commN p).Nodup → (commN (p ++ l)).Nodup
  | [], p, s, _, hp => by simpa using hp
  | r :: t, p, s, h, hp => by
    simp only [upB, recOk, Bool.and_eq_true] at h
    have h2 := h.1.2
    simp at h2
    have h3 : (commN (p ++ [r])).Nodup := by
      rw [commN_append]
      cases hc : r.2.1
      · simpa [commN, hc] using hp
      · have e : commN [r] = [r.1] := by simp [commN, hc]
        rw [e]
        refine List.nodup_append.2 ⟨hp, by simp, ?_⟩
        intro a ha b hb
        simp only [List.mem_singleton] at hb
        subst hb
        intro e
        exact h2 (e ▸ ha)
    have := comm_nodup t (p ++ [r]) s h.2 h3
    rwa [List.append_assoc] at this
theorem commV_ne {l : List Rc} {j k : Nat} (hj : j < k) (hk : k < (commV l).length) : ((commV l)[j] == (commV l)[k]) = false := by
  have hn : (commV l).Nodup := by
    unfold commV
    split
    · have := comm_nodup l [] 64 (jr_parts ‹_›).2.2.2 (by simp [commN])
      simpa using this
    · simp
  have := (List.nodup_iff_pairwise_ne.1 hn)
  rw [List.pairwise_iff_getElem] at this
  have h2 := this j k (by omega) hk hj
  simpa using h2
theorem comm_half {l : List Rc} (h : jrB l 64 = true) (m : Nat) : commV (l.take m) = (commV l).take (commV (l.take m)).length ∧ (commV (l.take m)).length ≤ (commV l).length := by
  have h1 : jrB (l.take m) 64 = true := jr_front (m := l.drop m) (by rw [List.take_append_drop]; exact h)
  have e1 : commV (l.take m) = commN (l.take m) := by simp [commV, h1]
  have e2 : commV l = commN (l.take m) ++ commN (l.drop m) := by rw [← commN_append, List.take_append_drop]; simp [commV, h]
  rw [e1, e2]
  refine ⟨by simp, by simp⟩

set_option maxHeartbeats 4000000 in
theorem walk (A : Option Addr) (m cp : Nat) (w : World) (hb : BytesIn w A m) (hmc : m ≤ cp) (hcp : cp ≤ 9223372036854775807) :
    Calls Try.prog 6 #[.slice A m cp] w fun e w' => e = .returned (.bool true) ∧ Below w.heap.size w w' := by
  by_cases hbig : 1048576 < m
  · go_enter Try.func6, Try.ntmps6
    go_wp2
    go_ret
    exact ⟨rfl, Below.refl _ _⟩
  · go_enter Try.func6, Try.ntmps6
    go_wp2_with fail
    refine (drawCN_any A m cp w hb hmc hcp).mono ?_
    rintro e w1 ⟨A1, c1, l, rfl, o1, hl, -, b1⟩
    have O1 := Lib.hid (show World.ownsRow w1 w.heap.size 33 4 (.slice A1 l.length c1) l.length (recC l) from o1)
    have C1 := Lib.hid b1
    clear b1 o1 hb
    obtain ⟨R, hR⟩ : ∃ R, R = commV l := ⟨_, rfl⟩
    have hRl : R.length ≤ l.length := by rw [hR]; unfold commV; split; exact commN_len l; simp
    have HRe := Lib.hid hR
    have hne := Lib.hid (fun (j k : Nat) (hj : j < k) (hk : k < R.length) => show (R[j] == R[k]) = false by subst hR; exact commV_ne hj hk)
    clear hR
    have hcap := own_cap O1.out
    go_wp2_with fail
    refine (implComm_any A1 c1 l _ (RecsIn.of (own_read O1.out)) (by omega) hcap.1 hcap.2).mono ?_
    rw [← HRe.out]
    rintro e w2 ⟨A2, c2, rfl, o2, b2⟩
    have O2 := Lib.hid (own_below O1.out b2 (Nat.le_refl _))
    have G2 := Lib.hid o2
    have C2 := Lib.hid (C1.out.trans (b2.mono C1.out.size))
    clear o2 b2 O1 C1
    go_wp2_with fail
    refine (specComm_any A1 c1 l _ (RecsIn.of (own_read O2.out)) (by omega)).mono ?_
    rw [← HRe.out]
    rintro e w3 ⟨A3, c3, rfl, o3, b3⟩
    have O3 := Lib.hid (own_below O2.out b3 (Nat.le_refl _))
    have G3 := Lib.hid (own_below G2.out b3 (Nat.le_refl _))
    have S3 := Lib.hid o3
    have C3 := Lib.hid (C2.out.trans (b3.mono C2.out.size))
    clear o3 b3 O2 C2 G2
    go_wp2_with fail
    refine (sameInts_any _ _ _ _ R R _ (IntsIn.of (own_read G3.out)) (IntsIn.of (own_read S3.out)) (by omega) (by omega)).mono ?_
    rintro e w4 ⟨rfl, q4, hw4⟩
    have hd : decide (R = R) = true := by simp
    rw [hd]
    have O4 := Lib.hid (show w4.ownsRow w.heap.size 33 4 (.slice A1 l.length c1) l.length (recC l) by rw [hw4]; exact O3.out)
    have G4 := Lib.hid (show w4.ownsRow w1.heap.size 3 1 (.slice A2 R.length c2) R.length (R.map (Value.int .i64)) by rw [hw4]; exact G3.out)
    have C4 := Lib.hid (show Below w.heap.size w w4 by rw [hw4]; exact belowN C3.out _)
    clear hw4 O3 G3 S3 C3 hd
    go_wp2
    go_loopw [5] (fun y wr => ∃ k : Nat, k ≤ R.length ∧ y = .int .i64 k ∧ Hid (wr.ownsRow w.heap.size 33 4 (.slice A1 l.length c1) l.length (recC l)) ∧ Hid (wr.ownsRow w1.heap.size 3 1 (.slice A2 R.length c2) R.length (R.map (Value.int .i64))) ∧ Hid (Below w.heap.size w wr)) (fun y _ => R.length - (intOf y).toNat)
    case atStart => exact ⟨0, Nat.zero_le _, rfl, O4, G4, C4⟩
    case round =>
      obtain ⟨k, hk, rfl, O5, G5, C5⟩ := hrel
      clear O4 G4 C4
      by_cases hlt : k < R.length
      · go_wp2
        go_loopw [6] (fun y wr => ∃ j : Nat, j ≤ k ∧ y = .int .i64 j ∧ Hid (wr.ownsRow w.heap.size 33 4 (.slice A1 l.length c1) l.length (recC l)) ∧ Hid (wr.ownsRow w1.heap.size 3 1 (.slice A2 R.length c2) R.length (R.map (Value.int .i64))) ∧ Hid (Below w.heap.size w wr)) (fun y _ => k - (intOf y).toNat)
        case atStart => exact ⟨0, Nat.zero_le _, rfl, O5, G5, C5⟩
        case round =>
          obtain ⟨j, hj, rfl, O6, G6, C6⟩ := hrel
          clear O5 G5 C5
          by_cases hjk : j < k
          · obtain ⟨b, off, rfl, hc⟩ := (IntsIn.of (own_read G6.out)) (by omega)
            have x1 := hc j (by omega)
            have x2 := hc k hlt
            have e1 := hne.out j k hjk hlt
            have O7 := Lib.hid (fun q => show (wr.drewN q).ownsRow w.heap.size 33 4 (.slice A1 l.length c1) l.length (recC l) from O6.out)
            have G7 := Lib.hid (fun q => show (wr.drewN q).ownsRow w1.heap.size 3 1 (.slice (some ⟨b, off, none⟩) R.length c2) R.length (R.map (Value.int .i64)) from G6.out)
            have C7 := Lib.hid (fun q => belowN C6.out q)
            clear hc O6 G6 C6
            go_wp2
            go_quiet (fail)
            go_wp2
            go_roundw
            case rel => exact ⟨j + 1, by omega, by go_num, O7.out _, G7.out _, C7.out _⟩
            case measure => simp [intOf]; omega
          · go_wp2
            go_roundw
            case rel => exact ⟨k + 1, by omega, by go_num, O6, G6, C6⟩
            case measure => simp [intOf]; omega
      · go_wp2_with fail
        refine (specJr_any A1 c1 l 64 _ (RecsIn.of (own_read O5.out)) (by omega)).mono ?_
        rintro e w6 ⟨rfl, b6⟩
        have O6 := Lib.hid (own_below O5.out b6 (Nat.le_refl _))
        have G6 := Lib.hid (own_below G5.out b6 (Nat.le_refl _))
        have C6 := Lib.hid (C5.out.trans (b6.mono C5.out.size))
        clear b6 O5 G5 C5
        cases hv : jrB l 64
        · have h0 : R.length = 0 := by rw [HRe.out]; simp [commV, hv]
          clear hv
          go_wp2_with (go_at_call 18; refine (alive_any _).mono ?_; rintro e w7 ⟨rfl, hb7⟩)
          go_ret
          exact ⟨rfl, C6.out.trans (hb7.mono C6.out.size)⟩
        · have HV := Lib.hid hv
          obtain ⟨h2, hh2⟩ : ∃ h2 : Nat, (l.length : Int) / 2 = h2 ∧ h2 ≤ l.length := ⟨l.length / 2, by omega, by omega⟩
          obtain ⟨hh2, hh3⟩ := hh2
          clear hv
          have hcall := implComm_any A1 c1 (l.take h2) w6 ((RecsIn.of (own_read O6.out)).take h2) (by rw [List.length_take]; omega) (by rw [List.length_take]; omega) hcap.2
          rw [List.length_take, Nat.min_eq_left hh3] at hcall
          obtain ⟨P, hP⟩ : ∃ P, P = commV (l.take h2) := ⟨_, rfl⟩
          have hhalf := comm_half HV.out h2
          rw [← hP] at hcall hhalf
          rw [← HRe.out] at hhalf
          obtain ⟨hpre, hple⟩ := hhalf
          have HP := Lib.hid hpre
          have HC := Lib.hid hcall
          clear hcall hP hpre
          go_wp2_with fail
          refine HC.out.mono ?_
          rintro e w7 ⟨A7, c7, rfl, o7, b7⟩
          have C7 := Lib.hid (C6.out.trans (b7.mono C6.out.size))
          have P7 := Lib.hid (IntsIn.of (own_read o7))
          have R7 := Lib.hid (show IntsIn w7 A2 P from by rw [HP.out]; exact (IntsIn.of (own_read (own_below G6.out b7 (Nat.le_refl _)))).take P.length)
          have hcap2 := own_cap G6.out
          have hpc : P.length ≤ c2 := by omega
          clear o7 b7 O6 G6 C6 HC
          go_wp2_with fail
          refine (sameInts_any _ _ _ _ P P _ P7.out R7.out (by omega) (by omega)).mono ?_
          rintro e w8 ⟨rfl, q8, rfl⟩
          have hd : decide (P = P) = true := by simp
          rw [hd]
          have C8 := Lib.hid (belowN C7.out q8)
          clear P7 R7 C7 hd
          go_wp2
          go_ret
          exact ⟨rfl, C8.out⟩

set_option maxRecDepth 100000 in
theorem lifted (os : Os) (started : os.Started) (H : Type) (enc : TypeId × Value → H) :
    ReturnsInHanded {} Try.checked os 6 .any (Rows.fnCommittedNumbersSpec.pre6 enc Try.prog Try.f6 Rows.fnCommittedNumbersRow.domain false) (Rows.fnCommittedNumbersSpec.post enc Try.prog Try.f6 false true false false) := by
  refine returnsInHanded_of_change (C := Try.checked) own started (by kernel_rfl) Try.func6
    (ChangeSpec.witness6 (enc := enc) (C := Try.checked) false ⟨#[], #[.slice none 0 0], []⟩ 8 (by kernel_rfl) (by kernel_rfl) (by kernel_rfl) (by kernel_rfl)) ?_
  intro W base args ds gs before hval0 hW hcnd _
  have hval : ∀ (j : Nat) t v, Try.f6.params[j]? = some t → args[j]? = some v → Value.okWide Try.prog W .any base t v := hval0
  have hW' := hW
  obtain ⟨p, q, hA0, hV, rfl, hfz, hnd⟩ := hW
  have hA : DataW.TrodAll enc Try.prog W 0 (fun _ => true) true Try.f6.params.toList args.toList ds p := hA0
  rw [Try.params6] at hA hval
  obtain ⟨v0, vs0, d0, ds0, p0, q0, hargs, rfl, rfl, h0, r0⟩ := trodAll_cons hA
  obtain ⟨rfl, rfl, rfl⟩ := trodAll_nil r0
  obtain rfl : args = #[v0] := by cases args; simp_all
  obtain ⟨rfl, rfl⟩ := trodVars_none hV
  have k0 := h0
  have lt0 : ∀ x ∈ p0, x.block < W.heap.size := by obtain ⟨m, hm⟩ := k0; exact DataW.trod_lt m _ _ _ hm
  obtain ⟨a0, n0, c0, rfl, ok0, le0, cl0⟩ := open_bytes (hval 0 29 v0 rfl rfl) h0
  clear hA0 hval0
  refine (walk a0 n0 c0 W ok0 le0 cl0).mono fun e W' ⟨he, bel⟩ => ?_
  subst he
  exact ⟨_, rfl, _, _, _, [], _, [], hW', trodAll_mk1 (shut_bool Try.underlying4 _), (trodAll_cons_mk (Below.trod laidOut (by kernel_rfl) (of_decide_eq_true (by kernel_rfl)) k0 bel lt0) trodAll_mk0), rfl, bel.frame _, fun h => by cases h⟩

theorem proved : Rows.FnCommittedNumbersSaid :=
  OpenClaim.holds_of_wide 6 Try.f6 rfl rfl rfl rfl rfl rfl rfl ⟨rfl, rfl, rfl, rfl, rfl⟩ rfl rfl rfl rfl rfl (by kernel_rfl) Try.func6 (by kernel_rfl)
    (of_decide_eq_true (by kernel_rfl)) (by unfold Func.isWrapper; first | (rw [if_pos (by decide +kernel)]; kernel_rfl) | (rw [if_neg (by decide +kernel)]; exact ⟨rfl, rfl⟩))
    (fun os started H enc _ => lifted os started H enc)
#print axioms proved
end Go.Proofs.Ythghngphamimgaa.fnCommittedNumbers
