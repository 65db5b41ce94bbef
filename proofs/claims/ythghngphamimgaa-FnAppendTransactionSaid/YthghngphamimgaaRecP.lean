/- The plain law of journals: valid journals, committed numbers, replays, appended transactions. No program in sight. -/
import Derived.Test.YthghngphamimgaaRecIn
import Derived.Test.YthghngphamimgaaInts
namespace Go.Proofs.Ythghngphamimgaa
open Go.RowKit
set_option linter.unusedVariables false

/-- The numbers of the transactions that are committed, in order. -/
def commN (l : List Rc) : List Int := (l.filter (·.2.1)).map (·.1)
theorem commN_append (l m : List Rc) : commN (l ++ m) = commN l ++ commN m := by simp [commN]
theorem commN_len (l : List Rc) : (commN l).length ≤ l.length := by
  simp only [commN, List.length_map]
  exact List.length_filter_le _ _
theorem take_step {α : Type} {l : List α} {k : Nat} (h : k < l.length) : l.take (k + 1) = l.take k ++ [l[k]] := List.take_succ_eq_append_getElem h
theorem commN_step {l : List Rc} {k : Nat} (h : k < l.length) : commN (l.take (k + 1)) = commN (l.take k) ++ (if l[k].2.1 = true then [l[k].1] else []) := by
  rw [take_step h, commN_append]
  congr 1
  cases hb : l[k].2.1 <;> simp [commN, hb]
def isRecB (size : Int) (r : Rc) : Bool := inB r.1 0 40 && (if r.2.1 = true then decide (r.2.2.1 = 0) && decide (r.2.2.2 = 0) else inB r.2.2.1 0 (size - 1) && inB r.2.2.2 0 255)
def recOk (size : Int) (p : List Rc) (r : Rc) : Bool := isRecB size r && !decide (r.1 ∈ commN p)
/-- The records r, behind the records p, are all in their place. -/
def upB (size : Int) : List Rc → List Rc → Bool
  | _, [] => true
  | p, r :: t => recOk size p r && upB size (p ++ [r]) t
def jrB (l : List Rc) (size : Int) : Bool := decide ((l.length : Int) ≤ 40) && inB size 0 64 && upB size [] l
theorem upB_step {size : Int} {l : List Rc} {k : Nat} (h : k < l.length) : upB size (l.take k) (l.drop k) = (recOk size (l.take k) l[k] && upB size (l.take (k + 1)) (l.drop (k + 1))) := by
  rw [List.drop_eq_getElem_cons h, take_step h]
  rfl
theorem upB_app (size : Int) (q : List Rc) : ∀ (l p : List Rc), upB size p (l ++ q) = (upB size p l && upB size (p ++ l) q)
  | [], p => by simp [upB]
  | r :: t, p => by simp [upB, upB_app size q t (p ++ [r]), Bool.and_assoc]
theorem upB_all {size : Int} {l p : List Rc} (h : upB size p l = true) : ∀ r ∈ l, isRecB size r = true := by
  induction l generalizing p with
  | nil => intro r hr; simp at hr
  | cons a t ih =>
    simp only [upB, recOk, Bool.and_eq_true] at h
    intro r hr
    rcases List.mem_cons.1 hr with rfl | hr
    · exact h.1.1
    · exact ih h.2 r hr
def commV (l : List Rc) : List Int := if jrB l 64 = true then commN l else []
theorem jr_parts {l : List Rc} {size : Int} (h : jrB l size = true) : l.length ≤ 40 ∧ 0 ≤ size ∧ size ≤ 64 ∧ upB size [] l = true := by
  simp only [jrB, Bool.and_eq_true, inB_iff, decide_eq_true_eq] at h
  exact ⟨by omega, h.1.2.1, h.1.2.2, h.2⟩
theorem isRec_parts {size : Int} {r : Rc} (h : isRecB size r = true) : 0 ≤ r.1 ∧ r.1 ≤ 40 ∧ (r.2.1 = true → r.2.2.1 = 0 ∧ r.2.2.2 = 0) ∧ (r.2.1 = false → 0 ≤ r.2.2.1 ∧ r.2.2.1 < size ∧ 0 ≤ r.2.2.2 ∧ r.2.2.2 ≤ 255) := by
  simp only [isRecB, Bool.and_eq_true, inB_iff] at h
  refine ⟨h.1.1, h.1.2, fun hc => ?_, fun hc => ?_⟩
  · have := h.2
    rw [if_pos hc] at this
    simpa using this
  · have := h.2
    rw [if_neg (by rw [hc]; simp)] at this
    simp only [Bool.and_eq_true, inB_iff] at this
    omega
theorem isRec_mono {s t : Int} {r : Rc} (h : isRecB s r = true) (hs : s ≤ t) : isRecB t r = true := by
  simp only [isRecB, Bool.and_eq_true, inB_iff] at h ⊢
  refine ⟨h.1, ?_⟩
  have h2 := h.2
  split at h2
  · rw [if_pos ‹_›]; exact h2
  · rw [if_neg ‹_›]
    simp only [Bool.and_eq_true, inB_iff] at h2 ⊢
    omega
theorem upB_mono {s t : Int} (hs : s ≤ t) : ∀ {l p : List Rc}, upB s p l = true → upB t p l = true
  | [], _, _ => rfl
  | r :: l, p, h => by
    simp only [upB, recOk, Bool.and_eq_true] at h ⊢
    exact ⟨⟨isRec_mono h.1.1 hs, h.1.2⟩, upB_mono hs h.2⟩
theorem jr_mono {s t : Int} {l : List Rc} (h : jrB l s = true) (hs : s ≤ t) (ht : t ≤ 64) : jrB l t = true := by
  obtain ⟨a, b, c, d⟩ := jr_parts h
  simp only [jrB, Bool.and_eq_true, inB_iff, decide_eq_true_eq]
  exact ⟨⟨by omega, by omega, ht⟩, upB_mono hs d⟩

/-- One transaction of a journal written to a disk. -/
def replay1 (t : Int) (l : List Rc) (d : List Int) : List Int := l.foldl (fun d r => if r.1 = t ∧ r.2.1 = false then d.set r.2.2.1.toNat r.2.2.2 else d) d
def replayN (ts : List Int) (l : List Rc) (d : List Int) : List Int := ts.foldl (fun d t => replay1 t l d) d
def replayV (d : List Int) (l : List Rc) : List Int := if (diskB d && jrB l d.length) = true then replayN (commN l) l d else []
theorem replay1_step {t : Int} {l : List Rc} {d : List Int} {k : Nat} (h : k < l.length) : replay1 t (l.take (k + 1)) d = (if l[k].1 = t ∧ l[k].2.1 = false then (replay1 t (l.take k) d).set l[k].2.2.1.toNat l[k].2.2.2 else replay1 t (l.take k) d) := by
  rw [take_step h]
  simp only [replay1, List.foldl_append, List.foldl_cons, List.foldl_nil]
theorem replayN_step {ts : List Int} {l : List Rc} {d : List Int} {k : Nat} (h : k < ts.length) : replayN (ts.take (k + 1)) l d = replay1 ts[k] l (replayN (ts.take k) l d) := by
  rw [take_step h]
  simp only [replayN, List.foldl_append, List.foldl_cons, List.foldl_nil]
theorem replay1_len (t : Int) (l : List Rc) (d : List Int) : (replay1 t l d).length = d.length := by
  induction l generalizing d with
  | nil => rfl
  | cons r l ih =>
    simp only [replay1, List.foldl_cons] at ih ⊢
    rw [ih]
    split <;> simp
theorem replayN_len (ts : List Int) (l : List Rc) (d : List Int) : (replayN ts l d).length = d.length := by
  induction ts generalizing d with
  | nil => rfl
  | cons t ts ih =>
    simp only [replayN, List.foldl_cons] at ih ⊢
    rw [ih, replay1_len]

/-- A journal with a transaction appended. -/
def recsOf (n a : Int) : List Int → List Rc
  | [] => []
  | v :: r => (n, false, a, v) :: recsOf n (a + 1) r
theorem recsOf_len (n a : Int) (vs : List Int) : (recsOf n a vs).length = vs.length := by
  induction vs generalizing a with
  | nil => rfl
  | cons v r ih => simp [recsOf, ih]
theorem recsOf_step {n a : Int} {vs : List Int} {k : Nat} (h : k < vs.length) : recsOf n a (vs.take (k + 1)) = recsOf n a (vs.take k) ++ [(n, false, a + k, vs[k])] := by
  induction vs generalizing a k with
  | nil => simp at h
  | cons v r ih =>
    cases k with
    | zero => simp [recsOf]
    | succ k =>
      have := ih (a := a + 1) (k := k) (by simpa using h)
      simp only [List.take_succ_cons, recsOf, List.getElem_cons_succ, List.cons_append, this]
      congr 3
      simp only [Prod.mk.injEq, true_and]
      exact ⟨by omega, trivial⟩
def appL (l : List Rc) (n a : Int) (vs : List Int) : List Rc := l ++ recsOf n a vs ++ [(n, true, 0, 0)]
def appV (l : List Rc) (n a : Int) (vs : List Int) : List Rc := if (inB a 0 64 && jrB (appL l n a vs) 64) = true then appL l n a vs else []
theorem appL_len (l : List Rc) (n a : Int) (vs : List Int) : (appL l n a vs).length = l.length + vs.length + 1 := by simp [appL, recsOf_len]; omega
theorem jr_front {l m : List Rc} {s : Int} (h : jrB (l ++ m) s = true) : jrB l s = true := by
  obtain ⟨a, b, c, d⟩ := jr_parts h
  rw [upB_app] at d
  simp only [Bool.and_eq_true] at d
  simp only [List.length_append] at a
  simp only [jrB, Bool.and_eq_true, inB_iff, decide_eq_true_eq]
  exact ⟨⟨by omega, b, c⟩, d.1⟩
/-- A journal that is not valid, or too long a list of values, has no valid result. -/
theorem appV_no {l : List Rc} {n a : Int} {vs : List Int} (h : jrB l 64 = false ∨ inB a 0 64 = false ∨ 40 < vs.length) : appV l n a vs = [] := by
  unfold appV
  rw [if_neg]
  intro hh
  simp only [Bool.and_eq_true] at hh
  obtain ⟨h1, h2⟩ := hh
  rcases h with h | h | h
  · have : jrB l 64 = true := by
      rw [appL, List.append_assoc] at h2
      exact jr_front h2
    rw [h] at this; cases this
  · rw [h] at h1; cases h1
  · have := (jr_parts h2).1
    rw [appL_len] at this
    omega
end Go.Proofs.Ythghngphamimgaa
