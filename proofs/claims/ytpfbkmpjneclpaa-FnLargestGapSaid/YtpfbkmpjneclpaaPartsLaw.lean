/- Plain laws on lists of partitions: no program in sight. -/
import Derived.Test.YtpfbkmpjneclpaaFromDisk
import Derived.Test.YtpfbkmpjneclpaaToDisk
namespace Go.Proofs.Ytpfbkmpjneclpaa
open Go.RowKit
set_option linter.unusedVariables false

theorem fdV_cases (a : Int) : ∀ (l : List (Int × Int)) (k0 : Nat), (fdV a k0 l = (-1, -1) ∧ ∀ i (h : i < l.length), ¬ (l[i].1 ≤ a ∧ a < l[i].1 + l[i].2)) ∨
    ∃ i, ∃ h : i < l.length, fdV a k0 l = (((k0 + i : Nat) : Int), a - l[i].1) ∧ l[i].1 ≤ a ∧ a < l[i].1 + l[i].2
  | [], k0 => .inl ⟨rfl, fun i h => absurd h (by simp)⟩
  | p :: r, k0 => by
    cases hb : inB a p.1 (p.1 + p.2 - 1)
    · have e : fdV a k0 (p :: r) = fdV a (k0 + 1) r := by simp [fdV, hb]
      rw [e]
      have hb' := inB_not.1 hb
      rcases fdV_cases a r (k0 + 1) with ⟨h1, h2⟩ | ⟨i, h, h1, h2, h3⟩
      · refine .inl ⟨h1, fun i h => ?_⟩
        cases i with
        | zero => simp only [List.getElem_cons_zero]; omega
        | succ i => exact h2 i (by simpa using h)
      · exact .inr ⟨i + 1, by simpa using h, by rw [h1]; simp only [List.getElem_cons_succ]; rw [show k0 + 1 + i = k0 + (i + 1) by omega], by simpa using h2, by simpa using h3⟩
    · have hb' := inB_iff.1 hb
      exact .inr ⟨0, by simp, by simp [fdV, hb], by simp only [List.getElem_cons_zero]; omega, by simp only [List.getElem_cons_zero]; omega⟩

theorem fd_at (size a : Int) : ∀ (l : List (Int × Int)) (last : Int) (k0 : Nat), partsOk size last l = true → ∀ i (h : i < l.length), l[i].1 ≤ a → a < l[i].1 + l[i].2 → fdV a k0 l = (((k0 + i : Nat) : Int), a - l[i].1)
  | [], _, _, _, i, h => absurd h (by simp)
  | p :: r, last, k0, hp, i, h => by
    intro h1 h2
    simp only [partsOk, Bool.and_eq_true, inB_iff] at hp
    cases i with
    | zero =>
      simp only [List.getElem_cons_zero] at h1 h2
      have : inB a p.1 (p.1 + p.2 - 1) = true := inB_iff.2 (by omega)
      simp [fdV, this]
    | succ i =>
      have hi : i < r.length := by simpa using h
      simp only [List.getElem_cons_succ] at h1 h2 ⊢
      have hr := parts_range_aux size r (p.1 + p.2) hp.2 i hi
      have : inB a p.1 (p.1 + p.2 - 1) = false := inB_not.2 (by omega)
      have e : fdV a k0 (p :: r) = fdV a (k0 + 1) r := by simp [fdV, this]
      rw [e, fd_at size a r (p.1 + p.2) (k0 + 1) hp.2 i hi h1 h2, show k0 + 1 + i = k0 + (i + 1) by omega]

theorem fd_neg {l : List (Int × Int)} {size a : Int} (h : (fromDiskV l size a).1 < 0) : fromDiskV l size a = (-1, -1) := by
  unfold fromDiskV at h ⊢
  split
  · rename_i hv
    rw [if_pos hv] at h
    rcases fdV_cases a l 0 with ⟨h1, _⟩ | ⟨i, hi, h1, _⟩
    · exact h1
    · rw [h1] at h; simp only at h; omega
  · rfl
theorem fd_pos {l : List (Int × Int)} {size a : Int} (h : ¬ (fromDiskV l size a).1 < 0) : partsB l size = true ∧ ∃ i, ∃ hi : i < l.length, fromDiskV l size a = ((i : Int), a - l[i].1) ∧ l[i].1 ≤ a ∧ a < l[i].1 + l[i].2 := by
  unfold fromDiskV at h ⊢
  split
  · rename_i hv
    rw [if_pos hv] at h
    rcases fdV_cases a l 0 with ⟨h1, _⟩ | ⟨i, hi, h1, h2, h3⟩
    · rw [h1] at h; simp at h
    · exact ⟨hv, i, hi, by rw [h1, Nat.zero_add], h2, h3⟩
  · rename_i hv
    rw [if_neg hv] at h; simp at h
theorem fd_td {l : List (Int × Int)} {size a : Int} (h : ¬ (fromDiskV l size a).1 < 0) : toDiskV l size (fromDiskV l size a).1 (fromDiskV l size a).2 = a := by
  obtain ⟨hv, i, hi, e, h1, h2⟩ := fd_pos h
  rw [e]
  unfold toDiskV
  rw [getD_at hi rfl, hv, (inB_iff (n := (i : Int))).2 (by omega), inB_iff.2 (by omega)]
  simp; omega
theorem td_neg {l : List (Int × Int)} {size n a : Int} (h : toDiskV l size n a < 0) : toDiskV l size n a = -1 := by
  unfold toDiskV at h ⊢
  split
  · rename_i hv
    rw [if_pos hv] at h
    simp only [Bool.and_eq_true] at hv
    have h1 := inB_iff.1 hv.1.2
    have h2 := inB_iff.1 hv.2
    obtain ⟨k, rfl⟩ := Int.eq_ofNat_of_zero_le h1.1
    have hk : k < l.length := by omega
    rw [getD_at hk rfl] at h
    have := parts_range hv.1.1 k hk
    omega
  · rfl
theorem td_fd {l : List (Int × Int)} {size n a : Int} (h : ¬ toDiskV l size n a < 0) : toDiskV l size n a < size ∧ fromDiskV l size (toDiskV l size n a) = (n, a) := by
  unfold toDiskV at h ⊢
  split
  · rename_i hv
    simp only [Bool.and_eq_true] at hv
    have h1 := inB_iff.1 hv.1.2
    have h2 := inB_iff.1 hv.2
    obtain ⟨k, rfl⟩ := Int.eq_ofNat_of_zero_le h1.1
    have hk : k < l.length := by omega
    rw [getD_at hk rfl] at h2 ⊢
    have hr := parts_range hv.1.1 k hk
    refine ⟨by omega, ?_⟩
    have hp := hv.1.1
    unfold fromDiskV
    rw [if_pos hp]
    unfold partsB at hp
    simp only [Bool.and_eq_true] at hp
    rw [fd_at size _ l 0 0 hp.2 k hk (by omega) (by omega), Nat.zero_add, show l[k].1 + a - l[k].1 = a by omega]
  · rename_i hv
    rw [if_neg hv] at h; omega
end Go.Proofs.Ytpfbkmpjneclpaa
