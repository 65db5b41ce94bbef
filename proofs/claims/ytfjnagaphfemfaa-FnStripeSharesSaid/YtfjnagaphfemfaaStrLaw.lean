/- The plain laws of stripes: no program in sight. -/
import Derived.Test.YtfjnagaphfemfaaSec
namespace Go.Proofs.Ytfjnagaphfemfaa
set_option linter.unusedVariables false

theorem strB_iff {a d c : Int} : strB a d c = true ↔ (0 ≤ a ∧ a ≤ 100000) ∧ (1 ≤ d ∧ d ≤ 6) ∧ (1 ≤ c ∧ c ≤ 16) := by
  unfold strB; rw [Bool.and_eq_true, inB_iff, shB_iff]
theorem sp_no {a d c : Int} (h : strB a d c = false) : spD a d c = -1 ∧ spK a d c = -1 := by simp [spD, spK, h]
theorem sp_yes {a d c : Int} (h : strB a d c = true) : spD a d c = a / c % d ∧ spK a d c = a / c / d * c + a % c := by simp [spD, spK, h]

theorem div_of (q r c : Int) (h0 : 0 ≤ r) (h1 : r < c) : (q * c + r) / c = q ∧ (q * c + r) % c = r := by
  have hc : c ≠ 0 := by omega
  constructor
  · rw [Int.add_comm, Int.add_mul_ediv_right _ _ hc, Int.ediv_eq_zero_of_lt h0 h1, Int.zero_add]
  · rw [Int.add_comm, Int.add_mul_emod_self_right, Int.emod_eq_of_lt h0 h1]
theorem emod_ediv (a c : Int) : a / c * c + a % c = a := by
  have := Int.mul_ediv_add_emod a c
  rw [Int.mul_comm] at this
  exact this

/-- What a valid place is. -/
theorem sp_range {a d c : Int} (h : strB a d c = true) : 0 ≤ spD a d c ∧ spD a d c < d ∧ 0 ≤ spK a d c ∧ spK a d c ≤ a := by
  obtain ⟨ha, hd, hc⟩ := strB_iff.1 h
  obtain ⟨e1, e2⟩ := sp_yes h
  obtain ⟨f1, f2, f3, f4, f5, f6, f7, f8, f9, f10⟩ := sp_facts a d c ha.1 hd.1 hc.1
  have h1 : a / c / d * c ≤ a / c * c := Int.mul_le_mul_of_nonneg_right f8 (by omega)
  have h2 := emod_ediv a c
  rw [e1, e2]
  omega

theorem sec_of_place {a d c : Int} (h : strB a d c = true) : ssN (spD a d c) (spK a d c) d c = a := by
  obtain ⟨ha, hd, hc⟩ := strB_iff.1 h
  obtain ⟨r1, r2, r3, r4⟩ := sp_range h
  obtain ⟨e1, e2⟩ := sp_yes h
  obtain ⟨f1, f2, f3, f4, f5, f6, f7, f8, f9, f10⟩ := sp_facts a d c ha.1 hd.1 hc.1
  have hv : strB (spK a d c) d c = true := strB_iff.2 ⟨by omega, hd, hc⟩
  have hk : inB (spD a d c) 0 (d - 1) = true := inB_iff.2 (by omega)
  unfold ssN
  rw [if_pos ⟨hv, hk⟩, e1, e2, (div_of _ _ c f3 f4).1, (div_of _ _ c f3 f4).2, emod_ediv (a / c) d, emod_ediv a c]

theorem ssN_cases (k a d c : Int) : ssN k a d c = -1 ∨ (strB a d c = true ∧ inB k 0 (d - 1) = true ∧ ssN k a d c = (a / c * d + k) * c + a % c) := by
  unfold ssN
  split
  · rename_i h; exact .inr ⟨h.1, h.2, rfl⟩
  · exact .inl rfl

theorem place_of_sec {k a d c : Int} (h : 0 ≤ ssN k a d c) (hm : ssN k a d c ≤ 100000) : spD (ssN k a d c) d c = k ∧ spK (ssN k a d c) d c = a := by
  rcases ssN_cases k a d c with e | ⟨hv, hk, e⟩
  · omega
  · obtain ⟨ha, hd, hc⟩ := strB_iff.1 hv
    have hkk := inB_iff.1 hk
    obtain ⟨f1, f2, f3, f4, f5, f6, f7, f8, f9, f10⟩ := sp_facts a d c ha.1 hd.1 hc.1
    have hs : strB (ssN k a d c) d c = true := strB_iff.2 ⟨⟨h, hm⟩, hd, hc⟩
    obtain ⟨e1, e2⟩ := sp_yes hs
    rw [e1, e2, e, (div_of _ _ c f3 f4).1, (div_of _ _ c f3 f4).2, (div_of (a / c) k d hkk.1 (by omega)).1, (div_of (a / c) k d hkk.1 (by omega)).2, emod_ediv a c]
    exact ⟨rfl, rfl⟩

theorem next_place {a d c : Int} (h : strB a d c = true) (h2 : strB (a + 1) d c = true) :
    (spD (a + 1) d c = spD a d c ∧ spK (a + 1) d c = spK a d c + 1) ∨ (spD (a + 1) d c = (spD a d c + 1) % d ∧ spK (a + 1) d c % c = 0) := by
  obtain ⟨ha, hd, hc⟩ := strB_iff.1 h
  obtain ⟨e1, e2⟩ := sp_yes h
  obtain ⟨e3, e4⟩ := sp_yes h2
  obtain ⟨f1, f2, f3, f4, f5, f6, f7, f8, f9, f10⟩ := sp_facts a d c ha.1 hd.1 hc.1
  have ea := emod_ediv a c
  rw [e1, e2, e3, e4]
  by_cases hr : a % c + 1 < c
  · have := div_of (a / c) (a % c + 1) c (by omega) hr
    rw [show a / c * c + (a % c + 1) = a + 1 by omega] at this
    rw [this.1, this.2]
    left; exact ⟨rfl, by omega⟩
  · have := div_of (a / c + 1) 0 c (by omega) (by omega)
    rw [show (a / c + 1) * c + 0 = a + 1 by rw [Int.add_mul]; omega] at this
    rw [this.1, this.2]
    right
    refine ⟨?_, by rw [Int.add_zero, Int.mul_emod_left]⟩
    simp

/-- All sectors of a chunk lie on one disk, one behind the other. -/
theorem chunk_place {a d c : Int} (h : strB a d c = true) (hm : a ≤ 100000 - c) (j : Int) (h0 : 0 ≤ j) (h1 : j < c) :
    spD (a / c * c + j) d c = spD a d c ∧ spK (a / c * c + j) d c = spK (a / c * c) d c + j := by
  obtain ⟨ha, hd, hc⟩ := strB_iff.1 h
  obtain ⟨e1, e2⟩ := sp_yes h
  obtain ⟨f1, f2, f3, f4, f5, f6, f7, f8, f9, f10⟩ := sp_facts a d c ha.1 hd.1 hc.1
  have ea := emod_ediv a c
  have hq : 0 ≤ a / c * c := Int.mul_nonneg f1 (by omega)
  have hv : strB (a / c * c + j) d c = true := strB_iff.2 ⟨by omega, hd, hc⟩
  have hv0 : strB (a / c * c) d c = true := strB_iff.2 ⟨by omega, hd, hc⟩
  obtain ⟨e3, e4⟩ := sp_yes hv
  obtain ⟨e5, e6⟩ := sp_yes hv0
  have hd0 := div_of (a / c) 0 c (by omega) (by omega)
  rw [Int.add_zero] at hd0
  rw [e1, e3, e4, e6, (div_of _ _ c h0 h1).1, (div_of _ _ c h0 h1).2, hd0.1, hd0.2]
  exact ⟨rfl, by omega⟩
theorem chunk_base {a d c : Int} (h : strB a d c = true) (hm : a ≤ 100000 - c) : spK (a / c * c) d c % c = 0 := by
  obtain ⟨ha, hd, hc⟩ := strB_iff.1 h
  obtain ⟨f1, f2, f3, f4, f5, f6, f7, f8, f9, f10⟩ := sp_facts a d c ha.1 hd.1 hc.1
  have ea := emod_ediv a c
  have hq : 0 ≤ a / c * c := Int.mul_nonneg f1 (by omega)
  have hv0 : strB (a / c * c) d c = true := strB_iff.2 ⟨by omega, hd, hc⟩
  have hd0 := div_of (a / c) 0 c (by omega) (by omega)
  rw [Int.add_zero] at hd0
  rw [(sp_yes hv0).2, hd0.1, hd0.2, Int.add_zero, Int.mul_emod_left]
end Go.Proofs.Ytfjnagaphfemfaa
