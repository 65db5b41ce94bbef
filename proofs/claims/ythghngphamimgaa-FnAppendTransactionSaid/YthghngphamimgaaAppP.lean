/- The plain law of transactions appended to a journal. No program in sight. -/
import Derived.Test.YthghngphamimgaaRepP
import Derived.Test.YthghngphamimgaaRecJ
namespace Go.Proofs.Ythghngphamimgaa
open Go.RowKit
set_option linter.unusedVariables false

def prs : Nat → List Int → List (Nat × Int)
  | _, [] => []
  | k, v :: t => (k, v) :: prs (k + 1) t
theorem wF_prs : ∀ (vs : List Int) (k : Nat) (d : List Int), k + vs.length ≤ d.length → wF (prs k vs) d = d.take k ++ vs ++ d.drop (k + vs.length)
  | [], k, d, _ => by simp [prs, wF]
  | v :: t, k, d, h => by
    simp only [List.length_cons] at h
    have h1 := wF_prs t (k + 1) (d.set k v) (by rw [List.length_set]; omega)
    show wF (prs (k + 1) t) (d.set k v) = _
    rw [h1, List.take_succ_eq_append_getElem (by rw [List.length_set]; omega), List.getElem_set_self, List.take_set_of_le (by omega), List.drop_set_of_lt (by omega)]
    simp only [List.length_cons, List.append_assoc, List.cons_append, List.nil_append]
    rw [show k + 1 + t.length = k + (t.length + 1) by omega]
theorem wsOf_app (t : Int) (l m : List Rc) : wsOf t (l ++ m) = wsOf t l ++ wsOf t m := by simp [wsOf]
theorem wsOf_no {t : Int} {m : List Rc} (h : ∀ r ∈ m, r.1 = t → r.2.1 = true) : wsOf t m = [] := by
  unfold wsOf
  rw [List.map_eq_nil_iff, List.filter_eq_nil_iff]
  intro r hr
  simp only [Bool.and_eq_true, decide_eq_true_eq, Bool.not_eq_true']
  rintro ⟨h1, h2⟩
  rw [h r hr h1] at h2
  cases h2
theorem wsAll_congr {ts : List Int} {l m : List Rc} (h : ∀ t ∈ ts, wsOf t l = wsOf t m) : wsAll ts l = wsAll ts m := by
  unfold wsAll
  induction ts with
  | nil => rfl
  | cons t ts ih => rw [List.flatMap_cons, List.flatMap_cons, h t (by simp), ih fun x hx => h x (by simp [hx])]
/-- Records that are not committed change nothing. -/
theorem replay_pend {l m : List Rc} {n : Int} {d : List Int} (hn : n ∉ commN l) (hm : ∀ r ∈ m, r.1 = n ∧ r.2.1 = false) : replayN (commN (l ++ m)) (l ++ m) d = replayN (commN l) l d := by
  have hc : commN (l ++ m) = commN l := by
    rw [commN_append]
    have : commN m = [] := by
      unfold commN
      rw [List.map_eq_nil_iff, List.filter_eq_nil_iff]
      intro r hr
      rw [(hm r hr).2]
      simp
    rw [this, List.append_nil]
  rw [hc, replayN_ws, replayN_ws]
  congr 1
  refine wsAll_congr fun t ht => ?_
  rw [wsOf_app, wsOf_no (m := m) (fun r hr e => ?_), List.append_nil]
  exact absurd ((hm r hr).1 ▸ e ▸ ht) hn
theorem recs_all (n : Int) : ∀ (vs : List Int) (a : Int), ∀ r ∈ recsOf n a vs, r.1 = n ∧ r.2.1 = false
  | [], _, r, h => by simp [recsOf] at h
  | v :: t, a, r, h => by
    simp only [recsOf, List.mem_cons] at h
    rcases h with rfl | h
    · exact ⟨rfl, rfl⟩
    · exact recs_all n t (a + 1) r h
theorem recs_ws (n : Int) : ∀ (vs : List Int) (k : Nat), wsOf n (recsOf n k vs) = prs k vs
  | [], _ => rfl
  | v :: t, k => by
    have := recs_ws n t (k + 1)
    simp only [recsOf, prs]
    have e : wsOf n ((n, false, (k : Int), v) :: recsOf n ((k : Int) + 1) t) = (k, v) :: wsOf n (recsOf n ((k : Int) + 1) t) := by simp [wsOf]
    rw [e]
    congr 1
theorem recs_mem {n s : Int} : ∀ {vs : List Int} {a : Int}, (∀ r ∈ recsOf n a vs, isRecB s r = true) → 0 < vs.length → 0 ≤ a ∧ a + vs.length ≤ s ∧ ∀ v ∈ vs, 0 ≤ v ∧ v ≤ 255
  | [], _, _, h => by simp at h
  | v :: t, a, h, _ => by
    have h1 := (isRec_parts (h (n, false, a, v) (by simp [recsOf]))).2.2.2 rfl
    simp only at h1
    rcases Nat.eq_zero_or_pos t.length with h0 | h0
    · have ht : t = [] := List.eq_nil_of_length_eq_zero h0
      subst ht
      simp only [List.length_cons, List.length_nil, List.mem_cons, List.not_mem_nil, or_false]
      exact ⟨h1.1, by omega, by rintro x rfl; exact h1.2.2⟩
    · have h2 := recs_mem (n := n) (s := s) (vs := t) (a := a + 1) (fun r hr => h r (by simp [recsOf, hr])) h0
      simp only [List.length_cons, List.mem_cons]
      refine ⟨h1.1, by omega, ?_⟩
      rintro x (rfl | hx)
      · exact h1.2.2
      · exact h2.2.2 x hx
/-- What is so of a journal that a transaction has been appended to. -/
theorem app_facts {l : List Rc} {n a : Int} {vs : List Int} {s : Int} (h : jrB (appL l n a vs) s = true) : n ∉ commN l ∧ (∀ r ∈ recsOf n a vs, isRecB s r = true) ∧ ∀ k, jrB ((appL l n a vs).take k) s = true := by
  obtain ⟨_, _, _, hu⟩ := jr_parts h
  refine ⟨?_, fun r hr => upB_all hu r (by simp [appL, hr]), fun k => ?_⟩
  · unfold appL at hu
    rw [upB_app, Bool.and_eq_true] at hu
    have h2 := hu.2
    simp only [List.nil_append, upB, recOk, Bool.and_eq_true, Bool.not_eq_true', decide_eq_false_iff_not] at h2
    intro hc
    refine h2.1.2 ?_
    rw [commN_append]
    exact List.mem_append_left _ hc
  · refine jr_front (m := (appL l n a vs).drop k) ?_
    rw [List.take_append_drop]
    exact h
/-- Power fails ahead of the record that commits. -/
theorem app_cut {l : List Rc} {n a : Int} {vs : List Int} {d : List Int} (h : jrB (appL l n a vs) d.length = true) (hd : diskB d = true) {k : Nat} (h1 : l.length ≤ k) (h2 : k < (appL l n a vs).length) :
    replayV d ((appL l n a vs).take k) = replayV d l ∧ replayV d l = replayN (commN l) l d := by
  obtain ⟨hn, hr, hj⟩ := app_facts h
  have hl : jrB l d.length = true := by
    have := hj l.length
    unfold appL at this
    rw [List.append_assoc, List.take_left] at this
    exact this
  have e1 : (appL l n a vs).take k = l ++ (recsOf n a vs).take (k - l.length) := by
    unfold appL
    rw [appL_len] at h2
    rw [List.append_assoc, List.take_append, List.take_of_length_le h1, List.take_append_of_le_length (by rw [recsOf_len]; omega)]
  have e2 : replayV d l = replayN (commN l) l d := by unfold replayV; rw [hd, hl]; rfl
  refine ⟨?_, e2⟩
  rw [e2]
  unfold replayV
  rw [hd, hj k, Bool.and_self, if_pos rfl, e1]
  exact replay_pend hn fun r hr => recs_all n vs a r (List.mem_of_mem_take hr)
/-- With the record that commits all values are written. -/
theorem app_done {l : List Rc} {n : Int} {k : Nat} {vs : List Int} {d : List Int} (h : jrB (appL l n k vs) d.length = true) (hd : diskB d = true) (hf : ∀ r ∈ l, r.1 ≠ n) (hk : k + vs.length ≤ d.length) :
    replayV d (appL l n k vs) = (replayV d l).take k ++ vs ++ (replayV d l).drop (k + vs.length) := by
  have hlt : l.length < (appL l n k vs).length := by rw [appL_len]; omega
  rw [(app_cut h hd (Nat.le_refl _) hlt).2]
  unfold replayV
  rw [hd, h, Bool.and_self, if_pos rfl]
  have e1 : commN (appL l n k vs) = commN l ++ [n] := by
    unfold appL
    rw [commN_append, commN_append]
    have : commN (recsOf n k vs) = [] := by
      unfold commN
      rw [List.map_eq_nil_iff, List.filter_eq_nil_iff]
      intro r hr
      rw [(recs_all n vs k r hr).2]
      simp
    rw [this, List.append_nil]
    rfl
  have e2 : ∀ t, t ≠ n → wsOf t (appL l n k vs) = wsOf t l := by
    intro t ht
    unfold appL
    rw [wsOf_app, wsOf_app, wsOf_no (m := recsOf n k vs) (fun r hr e => absurd ((recs_all n vs k r hr).1 ▸ e) (fun e => ht e.symm)), wsOf_no (m := [(n, true, 0, 0)]) (fun r hr _ => by simp at hr; rw [hr]), List.append_nil, List.append_nil]
  have e3 : wsOf n (appL l n k vs) = prs k vs := by
    unfold appL
    rw [wsOf_app, wsOf_app, wsOf_no (m := l) (fun r hr e => absurd e (hf r hr)), wsOf_no (m := [(n, true, 0, 0)]) (fun r hr _ => by simp at hr; rw [hr]), recs_ws]
    simp
  have e4 : wsAll (commN l ++ [n]) (appL l n k vs) = wsAll (commN l) l ++ prs k vs := by
    have h1 : wsAll (commN l ++ [n]) (appL l n k vs) = wsAll (commN l) (appL l n k vs) ++ wsOf n (appL l n k vs) := by simp [wsAll]
    rw [h1, e3, wsAll_congr (ts := commN l) (m := l) fun t ht => e2 t (fun e => by
      subst e
      obtain ⟨r, hr, _, e'⟩ := commN_mem_iff.1 ht
      exact hf r hr e')]
  rw [e1, replayN_ws, replayN_ws, e4]
  have e5 : wF (wsAll (commN l) l ++ prs k vs) d = wF (prs k vs) (wF (wsAll (commN l) l) d) := by simp [wF, List.foldl_append]
  rw [e5, wF_prs _ _ _ (by rw [wF_len]; exact hk)]
theorem replay_disk {d : List Int} {l : List Rc} (hd : diskB d = true) (hl : jrB l d.length = true) : diskB (replayN (commN l) l d) = true ∧ (replayN (commN l) l d).length = d.length := by
  have hlen := replayN_len (commN l) l d
  refine ⟨?_, hlen⟩
  simp only [diskB, Bool.and_eq_true, decide_eq_true_eq] at hd ⊢
  refine ⟨by rw [hlen]; exact hd.1, ?_⟩
  rw [replayN_ws]
  exact allB_wF hd.2 (ws_vals (upB_all (jr_parts hl).2.2.2))
end Go.Proofs.Ythghngphamimgaa
