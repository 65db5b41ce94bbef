/- Proves Rows.FnStripeChunksSaid: for every input the law FnStripeChunks returns true and leaves its arguments as they were. Conditions: none. -/
import Derived.Test.YtfjnagaphfemfaaOpen
import Derived.Test.YtfjnagaphfemfaaStrLaw
import Derived.Test.YtfjnagaphfemfaaDrawS
import Derived.Test.YtfjnagaphfemfaaInts
namespace Go.Proofs.Ytfjnagaphfemfaa.fnStripeChunks
open Go.ChangeShapes Go.WideShapes Go.ChangeAt Go.RowKit
set_option linter.unusedVariables false
set_option maxHeartbeats 2000000 in
theorem walk (A : Option Addr) (m cp : Nat) (w : World) (hb : BytesIn w A m) (hmc : m ≤ cp) (hcp : cp ≤ 9223372036854775807) :
    Calls Try.prog 9 #[.slice A m cp] w fun e w' => e = .returned (.bool true) ∧ Below w.heap.size w w' := by
  by_cases hbig : 1048576 < m
  · go_enter Try.func9, Try.ntmps9
    go_wp2
    go_ret
    exact ⟨rfl, Below.refl _ _⟩
  · go_enter Try.func9, Try.ntmps9
    go_wp2_with fail
    refine (drawPlace_any A m cp w hb hmc hcp).mono ?_
    rintro e w1 ⟨a, d, c, rfl, a0, a1, d0, d1, c0, c1, hb1⟩
    go_wp2_with fail
    refine (implPlace_any a d c _).mono ?_
    rintro e w' ⟨rfl, q, rfl⟩
    go_wp2_with fail
    refine (specPlace_any a d c _).mono ?_
    rintro e w' ⟨rfl, q2, rfl⟩
    cases hv : strB a d c
    · obtain ⟨e1, e2⟩ := sp_no hv
      rw [e1, e2]
      clear e1 e2
      go_wp2_with (go_at_call 25; refine (alive_any _).mono ?_; rintro e w2 ⟨rfl, hb2⟩)
      go_ret
      exact ⟨rfl, (belowN hb1 _).trans (hb2.mono hb1.size)⟩
    · obtain ⟨r1, r2, r3, r4⟩ := sp_range hv
      obtain ⟨ha, hd, hc⟩ := strB_iff.1 hv
      by_cases hmax : 100000 - c < a
      · clear hv
        go_wp2_with (go_at_call 25; refine (alive_any _).mono ?_; rintro e w2 ⟨rfl, hb2⟩)
        go_ret
        exact ⟨rfl, (belowN hb1 _).trans (hb2.mono hb1.size)⟩
      · obtain ⟨f1, f2, f3, f4, f5, f6, f7, f8, f9, f10⟩ := sp_facts a d c ha.1 hd.1 hc.1
        have hq : 0 ≤ a / c * c ∧ a / c * c ≤ a := by have := emod_ediv a c; exact ⟨Int.mul_nonneg f1 (by omega), by omega⟩
        have hv0 : strB (a / c * c) d c = true := strB_iff.2 ⟨by omega, hd, hc⟩
        obtain ⟨s1, s2, s3, s4⟩ := sp_range hv0
        have hch := fun (j : Nat) (h : (j : Int) < c) => chunk_place hv (by omega) (j : Int) (by omega) h
        have hbase : (spK (a / c * c) d c % c == 0) = true := by rw [chunk_base hv (by omega)]; rfl
        have Hch := Lib.hid hch
        clear hch f5 f6 f7 f8 f9 f10 hv hv0
        have hc1 : (1 : Int) ≤ c := hc.1
        have hd1 : (1 : Int) ≤ d := hd.1
        go_wp2_with (go_at_call 18; refine (implPlace_any _ _ _ _).mono ?_; rintro e w' ⟨rfl, q3, rfl⟩)
        go_loopw [13] (fun x wr => ∃ j p : Nat, (j : Int) ≤ c ∧ x = .int .i64 j ∧ wr = w1.drewN p) (fun x _ => (c - intOf x).toNat)
        case atStart => exact ⟨0, _, by omega, rfl, rfl⟩
        case round =>
          obtain ⟨j, p, hj, rfl, rfl⟩ := hrel
          by_cases hlt : (j : Int) < c
          · obtain ⟨g1, g2⟩ := Hch.out j hlt
            go_wp2_with (go_at_call 18; refine (implPlace_any _ _ _ _).mono ?_; rintro e w' ⟨rfl, q3, rfl⟩; rw [g1, g2])
            go_roundw
            case rel => exact ⟨j + 1, _, by omega, by go_num, rfl⟩
            case measure => simp [intOf]; omega
          · go_wp2
            go_ret
            exact ⟨rfl, belowN hb1 _⟩

set_option maxRecDepth 100000 in
theorem lifted (os : Os) (started : os.Started) (H : Type) (enc : TypeId × Value → H) :
    ReturnsInHanded {} Try.checked os 9 .any (Rows.fnStripeChunksSpec.pre6 enc Try.prog Try.f9 Rows.fnStripeChunksRow.domain false) (Rows.fnStripeChunksSpec.post enc Try.prog Try.f9 false true false false) := by
  refine returnsInHanded_of_change (C := Try.checked) own started (by kernel_rfl) Try.func9
    (ChangeSpec.witness6 (enc := enc) (C := Try.checked) false ⟨#[], #[.slice none 0 0], []⟩ 8 (by kernel_rfl) (by kernel_rfl) (by kernel_rfl) (by kernel_rfl)) ?_
  intro W base args ds gs before hval0 hW hcnd _
  have hval : ∀ (j : Nat) t v, Try.f9.params[j]? = some t → args[j]? = some v → Value.okWide Try.prog W .any base t v := hval0
  have hW' := hW
  obtain ⟨p, q, hA0, hV, rfl, hfz, hnd⟩ := hW
  have hA : DataW.TrodAll enc Try.prog W 0 (fun _ => true) true Try.f9.params.toList args.toList ds p := hA0
  rw [Try.params9] at hA hval
  obtain ⟨v0, vs0, d0, ds0, p0, q0, hargs, rfl, rfl, h0, r0⟩ := trodAll_cons hA
  obtain ⟨rfl, rfl, rfl⟩ := trodAll_nil r0
  obtain rfl : args = #[v0] := by cases args; simp_all
  obtain ⟨rfl, rfl⟩ := trodVars_none hV
  have k0 := h0
  have lt0 : ∀ x ∈ p0, x.block < W.heap.size := by obtain ⟨m, hm⟩ := k0; exact DataW.trod_lt m _ _ _ hm
  obtain ⟨a0, n0, c0, rfl, ok0, le0, cl0⟩ := open_bytes (hval 0 33 v0 rfl rfl) h0
  clear hA0 hval0
  refine (walk a0 n0 c0 W ok0 le0 cl0).mono fun e W' ⟨he, bel⟩ => ?_
  subst he
  exact ⟨_, rfl, _, _, _, [], _, [], hW', trodAll_mk1 (shut_bool Try.underlying4 _), (trodAll_cons_mk (Below.trod laidOut (by kernel_rfl) (of_decide_eq_true (by kernel_rfl)) k0 bel lt0) trodAll_mk0), rfl, bel.frame _, fun h => by cases h⟩

theorem proved : Rows.FnStripeChunksSaid :=
  OpenClaim.holds_of_wide 9 Try.f9 rfl rfl rfl rfl rfl rfl rfl ⟨rfl, rfl, rfl, rfl, rfl⟩ rfl rfl rfl rfl rfl (by kernel_rfl) Try.func9 (by kernel_rfl)
    (of_decide_eq_true (by kernel_rfl)) (by unfold Func.isWrapper; first | (rw [if_pos (by decide +kernel)]; kernel_rfl) | (rw [if_neg (by decide +kernel)]; exact ⟨rfl, rfl⟩))
    (fun os started H enc _ => lifted os started H enc)
#print axioms proved
end Go.Proofs.Ytfjnagaphfemfaa.fnStripeChunks
