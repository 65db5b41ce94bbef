/- The plain law of replays: once is twice; kept records; no record that commits; valid. No program in sight. -/
import Derived.Test.YthghngphamimgaaRecP
namespace Go.Proofs.Ythghngphamimgaa
open Go.RowKit
set_option linter.unusedVariables false

/-- Writes, one behind the other. -/
def wF (ws : List (Nat × Int)) (d : List Int) : List Int := ws.foldl (fun d p => d.set p.1 p.2) d
def lastW (i : Nat) : List (Nat × Int) → Option Int
  | [] => none
  | p :: r => match lastW i r with
    | some v => some v
    | none => if p.1 = i then some p.2 else none
theorem wF_len (ws : List (Nat × Int)) (d : List Int) : (wF ws d).length = d.length := by
  induction ws generalizing d with
  | nil => rfl
  | cons p r ih => simp only [wF, List.foldl_cons] at ih ⊢; rw [ih]; simp
theorem wF_get (ws : List (Nat × Int)) (d : List Int) (i : Nat) : (wF ws d)[i]? = if i < d.length then some ((lastW i ws).getD (d.getD i 0)) else none := by
  induction ws generalizing d with
  | nil =>
    by_cases h : i < d.length
    · rw [if_pos h]; simp [wF, lastW, h]
    · rw [if_neg h]; simp [wF]; omega
  | cons p r ih =>
    have e : wF (p :: r) d = wF r (d.set p.1 p.2) := rfl
    rw [e, ih, List.length_set]
    by_cases h : i < d.length
    · rw [if_pos h, if_pos h]
      congr 1
      simp only [lastW]
      cases h2 : lastW i r with
      | some v => rfl
      | none =>
        by_cases h3 : p.1 = i
        · subst h3
          simp [h]
        · rw [if_neg h3]
          simp only [Option.getD_none]
          rw [List.getD_eq_getElem?_getD, List.getElem?_set_ne h3, List.getD_eq_getElem?_getD]
    · rw [if_neg h, if_neg h]
theorem wF_idem (ws : List (Nat × Int)) (d : List Int) : wF ws (wF ws d) = wF ws d := by
  apply List.ext_getElem?
  intro i
  rw [wF_get ws (wF ws d), wF_len, wF_get ws d]
  by_cases h : i < d.length
  · rw [if_pos h, if_pos h]
    congr 1
    cases h2 : lastW i ws with
    | some v => rfl
    | none =>
      have := wF_get ws d i
      rw [if_pos h, h2] at this
      simp only [Option.getD_none] at this ⊢
      rw [List.getD_eq_getElem?_getD, this]
      rfl
  · rw [if_neg h, if_neg h]
def wsOf (t : Int) (l : List Rc) : List (Nat × Int) := (l.filter fun r => decide (r.1 = t) && !r.2.1).map fun r => (r.2.2.1.toNat, r.2.2.2)
theorem replay1_ws (t : Int) (l : List Rc) (d : List Int) : replay1 t l d = wF (wsOf t l) d := by
  induction l generalizing d with
  | nil => rfl
  | cons r l ih =>
    have e : replay1 t (r :: l) d = replay1 t l (if r.1 = t ∧ r.2.1 = false then d.set r.2.2.1.toNat r.2.2.2 else d) := rfl
    rw [e, ih]
    by_cases h : r.1 = t ∧ r.2.1 = false
    · rw [if_pos h]
      simp [wsOf, h.1, h.2, wF]
    · rw [if_neg h]
      have : (decide (r.1 = t) && !r.2.1) = false := by
        simp only [Bool.and_eq_false_iff, decide_eq_false_iff_not, Bool.not_eq_false']
        by_cases h1 : r.1 = t
        · right; cases h2 : r.2.1
          · exact absurd ⟨h1, h2⟩ h
          · rfl
        · left; exact h1
      simp [wsOf, this]
def wsAll (ts : List Int) (l : List Rc) : List (Nat × Int) := ts.flatMap fun t => wsOf t l
theorem replayN_ws (ts : List Int) (l : List Rc) (d : List Int) : replayN ts l d = wF (wsAll ts l) d := by
  induction ts generalizing d with
  | nil => rfl
  | cons t ts ih =>
    have e : replayN (t :: ts) l d = replayN ts l (replay1 t l d) := rfl
    rw [e, ih, replay1_ws]
    simp [wsAll, wF, List.foldl_append]
theorem replayN_idem (ts : List Int) (l : List Rc) (d : List Int) : replayN ts l (replayN ts l d) = replayN ts l d := by
  rw [replayN_ws, replayN_ws, wF_idem]
/-- A journal of which only records are kept whose number is one of some: valid. -/
theorem upB_filter (s : Int) (q : Rc → Bool) : ∀ (l p p' : List Rc), upB s p l = true → (∀ x, x ∈ commN p' → x ∈ commN p) → upB s p' (l.filter q) = true
  | [], _, _, _, _ => rfl
  | r :: t, p, p', h, hp => by
    simp only [upB, recOk, Bool.and_eq_true] at h
    have hsub : ∀ x, x ∈ commN p' → x ∈ commN (p ++ [r]) := fun x hx => by rw [commN_append]; exact List.mem_append_left _ (hp x hx)
    cases hq : q r
    · rw [List.filter_cons_of_neg (by simp [hq])]
      exact upB_filter s q t (p ++ [r]) p' h.2 hsub
    · rw [List.filter_cons_of_pos hq]
      simp only [upB, recOk, Bool.and_eq_true]
      refine ⟨⟨h.1.1, ?_⟩, upB_filter s q t (p ++ [r]) (p' ++ [r]) h.2 (fun x hx => ?_)⟩
      · have h2 := h.1.2
        simp at h2 ⊢
        exact fun hm => h2 (hp _ hm)
      · rw [commN_append] at hx ⊢
        rcases List.mem_append.1 hx with hx | hx
        · exact List.mem_append_left _ (hp x hx)
        · exact List.mem_append_right _ hx
theorem jr_filter {l : List Rc} {s : Int} (h : jrB l s = true) (q : Rc → Bool) : jrB (l.filter q) s = true := by
  obtain ⟨a, b, c, d⟩ := jr_parts h
  have := List.length_filter_le q l
  simp only [jrB, Bool.and_eq_true, inB_iff, decide_eq_true_eq]
  exact ⟨⟨by omega, b, c⟩, upB_filter s q l [] [] d (fun _ h => h)⟩
theorem commN_filter {l : List Rc} {q : Rc → Bool} (h : ∀ r ∈ l, r.2.1 = true → q r = true) : commN (l.filter q) = commN l := by
  simp only [commN, List.filter_filter]
  congr 1
  apply List.filter_congr
  intro r hr
  cases hc : r.2.1
  · rfl
  · rw [h r hr hc]; rfl
theorem wsOf_filter {t : Int} {l : List Rc} {q : Rc → Bool} (h : ∀ r ∈ l, r.1 = t → q r = true) : wsOf t (l.filter q) = wsOf t l := by
  simp only [wsOf, List.filter_filter]
  congr 1
  apply List.filter_congr
  intro r hr
  by_cases hc : r.1 = t
  · rw [h r hr hc, Bool.and_true]
  · simp [hc]
theorem commN_mem_iff {l : List Rc} {x : Int} : x ∈ commN l ↔ ∃ r ∈ l, r.2.1 = true ∧ r.1 = x := by
  simp only [commN, List.mem_map, List.mem_filter]
  constructor
  · rintro ⟨r, ⟨h1, h2⟩, h3⟩; exact ⟨r, h1, h2, h3⟩
  · rintro ⟨r, h1, h2, h3⟩; exact ⟨r, ⟨h1, h2⟩, h3⟩
/-- Only the records of committed transactions kept: the same disk. -/
theorem replay_kept {l : List Rc} {d : List Int} : replayN (commN (l.filter fun r => decide (r.1 ∈ commN l))) (l.filter fun r => decide (r.1 ∈ commN l)) d = replayN (commN l) l d := by
  have e1 : commN (l.filter fun r => decide (r.1 ∈ commN l)) = commN l := commN_filter (fun r hr hc => by simp; exact commN_mem_iff.2 ⟨r, hr, hc, rfl⟩)
  rw [e1, replayN_ws, replayN_ws]
  congr 1
  unfold wsAll
  have : ∀ ts : List Int, (∀ t ∈ ts, t ∈ commN l) → (ts.flatMap fun t => wsOf t (l.filter fun r => decide (r.1 ∈ commN l))) = ts.flatMap fun t => wsOf t l := by
    intro ts
    induction ts with
    | nil => intro _; rfl
    | cons t ts ih =>
      intro h
      rw [List.flatMap_cons, List.flatMap_cons, ih (fun x hx => h x (by simp [hx])), wsOf_filter (fun r hr he => by simp; rw [he]; exact h t (by simp))]
  exact this _ (fun _ h => h)
/-- No record that commits: the disk is as it was. -/
theorem replay_open {l : List Rc} {d : List Int} : replayN (commN (l.filter fun r => !r.2.1)) (l.filter fun r => !r.2.1) d = d := by
  have e : commN (l.filter fun r => !r.2.1) = [] := by
    simp only [commN, List.filter_filter]
    rw [List.map_eq_nil_iff, List.filter_eq_nil_iff]
    intro r _
    cases r.2.1 <;> simp
  rw [e]
  rfl
/-- The replayed disk is valid. -/
theorem allB_set {d : List Int} {i : Nat} {v : Int} (h : allB d 0 255 = true) (hv : 0 ≤ v ∧ v ≤ 255) : allB (d.set i v) 0 255 = true := by
  simp only [allB, List.all_eq_true] at h ⊢
  intro x hx
  rcases List.mem_or_eq_of_mem_set hx with hx | rfl
  · exact h x hx
  · exact inB_iff.2 hv
theorem allB_wF {ws : List (Nat × Int)} {d : List Int} (h : allB d 0 255 = true) (hw : ∀ p ∈ ws, 0 ≤ p.2 ∧ p.2 ≤ 255) : allB (wF ws d) 0 255 = true := by
  induction ws generalizing d with
  | nil => exact h
  | cons p r ih => exact ih (allB_set h (hw p (by simp))) (fun x hx => hw x (by simp [hx]))
theorem ws_vals {ts : List Int} {l : List Rc} {s : Int} (h : ∀ r ∈ l, isRecB s r = true) : ∀ p ∈ wsAll ts l, 0 ≤ p.2 ∧ p.2 ≤ 255 := by
  intro p hp
  simp only [wsAll, wsOf, List.mem_flatMap, List.mem_map, List.mem_filter] at hp
  obtain ⟨t, _, r, ⟨hr, hc⟩, rfl⟩ := hp
  simp only [Bool.and_eq_true, Bool.not_eq_true'] at hc
  have := (isRec_parts (h r hr)).2.2.2 hc.2
  exact ⟨this.2.2.1, this.2.2.2⟩
end Go.Proofs.Ythghngphamimgaa
