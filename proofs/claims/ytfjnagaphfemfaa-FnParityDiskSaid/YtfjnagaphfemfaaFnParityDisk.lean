/- Proves Rows.FnParityDiskSaid: for every input the law FnParityDisk returns true and leaves its arguments as they were. Conditions: none. -/
import Derived.Test.YtfjnagaphfemfaaOpen
import Derived.Test.YtfjnagaphfemfaaPar
import Derived.Test.YtfjnagaphfemfaaDrawPar
import Derived.Test.YtfjnagaphfemfaaInts
namespace Go.Proofs.Ytfjnagaphfemfaa.fnParityDisk
open Go.ChangeShapes Go.WideShapes Go.ChangeAt Go.RowKit
set_option linter.unusedVariables false
theorem mod_next (r d : Int) (h0 : 0 ≤ r) (h : 2 ≤ d) : (r + 1) % d ≠ r % d := by
  intro e
  have h1 : (r + 1 - r) % d = 0 := by rw [Int.sub_emod, e]; simp
  have h2 : (r + 1 - r) = 1 := by omega
  rw [h2] at h1
  have : (1 : Int) % d = 1 := Int.emod_eq_of_lt (by omega) (by omega)
  omega

theorem parD_range (r d : Int) : parD r d = -1 ∨ (0 ≤ parD r d ∧ parD r d < d) := by
  unfold parD
  split
  · rename_i h
    have h2 := inB_iff.1 h.2
    have m1 : 0 ≤ r % d := Int.emod_nonneg _ (by omega)
    have m2 : r % d < d := Int.emod_lt_of_pos _ (by omega)
    omega
  · exact .inl rfl

theorem parD_valid {r d : Int} (h : 0 ≤ parD r d) : (0 ≤ r ∧ r ≤ 15) ∧ (2 ≤ d ∧ d ≤ 6) ∧ parD r d = d - 1 - r % d := by
  unfold parD at h ⊢
  split at h
  · rename_i h1
    rw [if_pos h1]
    exact ⟨inB_iff.1 h1.1, inB_iff.1 h1.2, rfl⟩
  · omega

theorem parD_next {r d : Int} (h : 0 ≤ parD r d) : parD (r + 1) d ≠ parD r d := by
  obtain ⟨hr, hd, e⟩ := parD_valid h
  rcases parD_range (r + 1) d with h1 | h1
  · omega
  · obtain ⟨_, _, e1⟩ := parD_valid h1.1
    have := mod_next r d hr.1 hd.1
    omega

theorem parD_far {r d : Int} (h : 0 ≤ parD r d) : parD (r + d) d = -1 ∨ parD (r + d) d = parD r d := by
  obtain ⟨hr, hd, e⟩ := parD_valid h
  rcases parD_range (r + d) d with h1 | h1
  · exact .inl h1
  · obtain ⟨_, _, e1⟩ := parD_valid h1.1
    right
    rw [e1, e, Int.add_emod_right]

theorem parD_zero {r d : Int} (h : 0 ≤ parD r d) : parD 0 d = d - 1 := by
  obtain ⟨hr, hd, e⟩ := parD_valid h
  rw [parD_yes ⟨by omega, by omega⟩ hd]
  simp

set_option maxHeartbeats 1000000 in
theorem walk (A : Option Addr) (m c : Nat) (w : World) (hb : BytesIn w A m) (hmc : m ≤ c) (hc : c ≤ 9223372036854775807) :
    Calls Try.prog 7 #[.slice A m c] w fun e w' => e = .returned (.bool true) ∧ Below w.heap.size w w' := by
  by_cases hbig : 1048576 < m
  · go_enter Try.func7, Try.ntmps7
    go_wp2
    go_ret
    exact ⟨rfl, Below.refl _ _⟩
  · go_enter Try.func7, Try.ntmps7
    go_wp2_with fail
    refine (drawParity_any A m c w hb hmc hc).mono ?_
    rintro e w1 ⟨r, d, rfl, r0, r1, d0, d1, hb1⟩
    rcases parD_range r d with hn | hn
    · have hnb : (parD r d == -1) = true := by simp [hn]
      have hneg : parD r d < 0 := by omega
      clear hn
      go_wp2_with (first
        | (go_at_call 14; refine (implParity_any r d _).mono ?_; rintro e w' ⟨rfl, rfl⟩)
        | (go_at_call 13; refine (specParity_any r d _).mono ?_; rintro e w' ⟨rfl, rfl⟩)
        | (go_at_call 25; refine (alive_any _).mono ?_; rintro e w2 ⟨rfl, hb2⟩))
      go_ret
      exact ⟨rfl, hb1.trans (hb2.mono hb1.size)⟩
    · have f1 := beq_eq_false_iff_ne.2 (parD_next hn.1)
      have f0 : (parD (r + 1) d != parD r d) = true := by simp [bne, f1]
      have f2 : (parD 0 d == d - 1) = true := by rw [parD_zero hn.1]; simp
      have f4 : decide (parD r d < d) = true := by simpa using hn.2
      have hpos : 0 ≤ parD r d := hn.1
      have hfar := parD_far hn.1
      cases f3 : (parD (r + d) d == -1)
      · have f5 : (parD (r + d) d == parD r d) = true := by
          rcases hfar with h | h
          · rw [h] at f3; simp at f3
          · rw [h]; simp
        clear hn hfar f1
        go_wp2_with (first
          | (go_at_call 14; refine (implParity_any _ _ _).mono ?_; rintro e w' ⟨rfl, rfl⟩)
          | (go_at_call 13; refine (specParity_any _ _ _).mono ?_; rintro e w' ⟨rfl, rfl⟩))
        go_ret
        exact ⟨rfl, hb1⟩
      · clear hn hfar f1
        go_wp2_with (first
          | (go_at_call 14; refine (implParity_any _ _ _).mono ?_; rintro e w' ⟨rfl, rfl⟩)
          | (go_at_call 13; refine (specParity_any _ _ _).mono ?_; rintro e w' ⟨rfl, rfl⟩))
        go_ret
        exact ⟨rfl, hb1⟩

set_option maxRecDepth 100000 in
theorem lifted (os : Os) (started : os.Started) (H : Type) (enc : TypeId × Value → H) :
    ReturnsInHanded {} Try.checked os 7 .any (Rows.fnParityDiskSpec.pre6 enc Try.prog Try.f7 Rows.fnParityDiskRow.domain false) (Rows.fnParityDiskSpec.post enc Try.prog Try.f7 false true false false) := by
  refine returnsInHanded_of_change (C := Try.checked) own started (by kernel_rfl) Try.func7
    (ChangeSpec.witness6 (enc := enc) (C := Try.checked) false ⟨#[], #[.slice none 0 0], []⟩ 8 (by kernel_rfl) (by kernel_rfl) (by kernel_rfl) (by kernel_rfl)) ?_
  intro W base args ds gs before hval0 hW hcnd _
  have hval : ∀ (j : Nat) t v, Try.f7.params[j]? = some t → args[j]? = some v → Value.okWide Try.prog W .any base t v := hval0
  have hW' := hW
  obtain ⟨p, q, hA0, hV, rfl, hfz, hnd⟩ := hW
  have hA : DataW.TrodAll enc Try.prog W 0 (fun _ => true) true Try.f7.params.toList args.toList ds p := hA0
  rw [Try.params7] at hA hval
  obtain ⟨v0, vs0, d0, ds0, p0, q0, hargs, rfl, rfl, h0, r0⟩ := trodAll_cons hA
  obtain ⟨rfl, rfl, rfl⟩ := trodAll_nil r0
  obtain rfl : args = #[v0] := by cases args; simp_all
  obtain ⟨rfl, rfl⟩ := trodVars_none hV
  have k0 := h0
  have lt0 : ∀ x ∈ p0, x.block < W.heap.size := by obtain ⟨m, hm⟩ := k0; exact DataW.trod_lt m _ _ _ hm
  obtain ⟨a0, n0, c0, rfl, ok0, le0, cl0⟩ := open_bytes (hval 0 33 v0 rfl rfl) h0
  clear hA0 hval0
  refine (walk a0 n0 c0 W ok0 le0 cl0).mono fun e W' ⟨he, bel⟩ => ?_
  subst he
  exact ⟨_, rfl, _, _, _, [], _, [], hW', trodAll_mk1 (shut_bool Try.underlying4 _), (trodAll_cons_mk (Below.trod laidOut (by kernel_rfl) (of_decide_eq_true (by kernel_rfl)) k0 bel lt0) trodAll_mk0), rfl, bel.frame _, fun h => by cases h⟩

theorem proved : Rows.FnParityDiskSaid :=
  OpenClaim.holds_of_wide 7 Try.f7 rfl rfl rfl rfl rfl rfl rfl ⟨rfl, rfl, rfl, rfl, rfl⟩ rfl rfl rfl rfl rfl (by kernel_rfl) Try.func7 (by kernel_rfl)
    (of_decide_eq_true (by kernel_rfl)) (by unfold Func.isWrapper; first | (rw [if_pos (by decide +kernel)]; kernel_rfl) | (rw [if_neg (by decide +kernel)]; exact ⟨rfl, rfl⟩))
    (fun os started H enc _ => lifted os started H enc)
#print axioms proved
end Go.Proofs.Ytfjnagaphfemfaa.fnParityDisk
