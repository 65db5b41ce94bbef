/- The plain law of FnAheadHits: hits are fewer than requests; a line of requests hits at each but the first. -/
import Derived.Test.YtpfbkmpjneclpaaHitsS
namespace Go.Proofs.Ytpfbkmpjneclpaa
open Go.RowKit
set_option linter.unusedVariables false

theorem hitsG_b (l : List Rq) : ∀ (f : Bool) (n v : Int), 0 ≤ hitsG f n v l ∧ hitsG f n v l ≤ l.length := by
  induction l with
  | nil => intro f n v; simp [hitsG]
  | cons q r ih =>
    intro f n v
    have := ih true (rnN q.1 q.2.1) (rnW n v q.1)
    simp only [hitsG, List.length_cons]
    split <;> omega
theorem hitsV_b {l : List Rq} (h : 0 ≤ hitsV l) : hitsV l = 0 ∨ hitsV l < l.length := by
  unfold hitsV at h ⊢
  split at h
  · rename_i hv
    rw [if_pos hv]
    cases l with
    | nil => left; rfl
    | cons q r =>
      right
      have := hitsG_b r true (rnN q.1 q.2.1) (rnW 0 0 q.1)
      simp only [hitsG, List.length_cons]
      simp
      omega
  · omega
theorem hitsV_neg {l : List Rq} (h : hitsV l < 0) : hitsV l = -1 := by
  unfold hitsV at h ⊢
  split at h
  · have := hitsG_b l false 0 0
    omega
  · rename_i hv
    rw [if_neg hv]
theorem hitsV_val {l : List Rq} (h : 0 ≤ hitsV l) : reqsB l = true := by
  unfold hitsV at h
  split at h
  · assumption
  · omega
/-- The line that begins at s, with the counts of the list. -/
def lineL : Int → List Rq → List Rq
  | _, [] => []
  | s, q :: r => (s, q.2.1, false) :: lineL (s + q.2.1) r
def cntL : List Rq → Int
  | [] => 0
  | q :: r => q.2.1 + cntL r
theorem lineL_len (l : List Rq) : ∀ s, (lineL s l).length = l.length := by
  induction l with
  | nil => intro s; rfl
  | cons q r ih => intro s; simp [lineL, ih]
theorem lineL_app (l : List Rq) (q : Rq) : ∀ s, lineL s (l ++ [q]) = lineL s l ++ [(s + cntL l, q.2.1, false)] := by
  induction l with
  | nil => intro s; simp [lineL, cntL]
  | cons p r ih => intro s; simp [lineL, cntL, ih]; omega
theorem cntL_app (l : List Rq) (q : Rq) : cntL (l ++ [q]) = cntL l + q.2.1 := by
  induction l with
  | nil => simp [cntL]
  | cons p r ih => simp [cntL, ih]; omega
theorem line_step {l : List Rq} {k : Nat} (h : k < l.length) (s : Int) : lineL s (l.take (k + 1)) = lineL s (l.take k) ++ [(s + cntL (l.take k), l[k].2.1, false)] ∧ cntL (l.take (k + 1)) = cntL (l.take k) + l[k].2.1 := by
  rw [List.take_succ_eq_append_getElem h, lineL_app, cntL_app]
  exact ⟨rfl, rfl⟩
theorem cntL_b {l : List Rq} (h : ∀ q ∈ l, 1 ≤ q.2.1 ∧ q.2.1 ≤ 200) : 0 ≤ cntL l ∧ cntL l ≤ 200 * l.length := by
  induction l with
  | nil => simp [cntL]
  | cons q r ih =>
    have h1 := h q (by simp)
    have h2 := ih (fun x hx => h x (by simp [hx]))
    simp only [cntL, List.length_cons]
    omega
theorem line_all : ∀ (l : List Rq) (s : Int), (∀ q ∈ l, 1 ≤ q.2.1 ∧ q.2.1 ≤ 200) → 0 ≤ s → s + 200 * l.length ≤ 100000 → ∀ q ∈ lineL s l, isRq q = true
  | [], _, _, _, _, q, hq => by simp [lineL] at hq
  | p :: r, s, h, h0, h1, q, hq => by
    have hp := h p (by simp)
    simp only [List.length_cons] at h1
    simp only [lineL, List.mem_cons] at hq
    rcases hq with rfl | hq
    · simp only [isRq, Bool.and_eq_true, inB_iff]
      omega
    · exact line_all r (s + p.2.1) (fun x hx => h x (by simp [hx])) (by omega) (by omega) q hq
theorem line_hits : ∀ (l : List Rq) (s v : Int), (∀ q ∈ l, 1 ≤ q.2.1 ∧ q.2.1 ≤ 200) → 0 ≤ s → s + 200 * l.length ≤ 100000 → 1 ≤ v → hitsG true s v (lineL s l) = l.length
  | [], _, _, _, _, _, _ => rfl
  | p :: r, s, v, h, h0, h1, hv => by
    have hp := h p (by simp)
    simp only [List.length_cons] at h1
    simp only [lineL, hitsG, List.length_cons]
    rw [if_pos ⟨by trivial, by omega, by omega⟩]
    have hn : rnN s p.2.1 = s + p.2.1 := by unfold rnN; omega
    have hw : 1 ≤ rnW s v s := by unfold rnW; rw [if_pos rfl]; omega
    rw [hn, line_hits r (s + p.2.1) (rnW s v s) (fun x hx => h x (by simp [hx])) (by omega) (by omega) hw]
    omega
theorem line_law {l : List Rq} (h : reqsB l = true) : hitsV (lineL 0 l) = max 0 ((l.length : Int) - 1) := by
  have h30 : l.length ≤ 30 := by
    unfold reqsB at h
    simp only [Bool.and_eq_true, decide_eq_true_eq] at h
    omega
  have hall : ∀ q ∈ l, 1 ≤ q.2.1 ∧ q.2.1 ≤ 200 := by
    intro q hq
    unfold reqsB at h
    simp only [Bool.and_eq_true, List.all_eq_true] at h
    have := h.2 q hq
    simp only [isRq, Bool.and_eq_true, inB_iff] at this
    omega
  have hv : reqsB (lineL 0 l) = true := by
    unfold reqsB
    simp only [Bool.and_eq_true, List.all_eq_true, decide_eq_true_eq, lineL_len]
    exact ⟨by omega, line_all l 0 hall (by omega) (by omega)⟩
  unfold hitsV
  rw [if_pos hv]
  cases l with
  | nil => rfl
  | cons p r =>
    have hp := hall p (by simp)
    simp only [List.length_cons] at h30
    simp only [lineL, hitsG, List.length_cons]
    have hn : rnN 0 p.2.1 = 0 + p.2.1 := by unfold rnN; omega
    have hw : 1 ≤ rnW 0 0 0 := by unfold rnW; rw [if_pos rfl]; omega
    rw [hn, line_hits r (0 + p.2.1) (rnW 0 0 0) (fun x hx => hall x (by simp [hx])) (by omega) (by omega) hw]
    simp
end Go.Proofs.Ytpfbkmpjneclpaa
