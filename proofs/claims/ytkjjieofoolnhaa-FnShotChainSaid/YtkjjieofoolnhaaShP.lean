/- The plain laws of views of snapshots. No program in sight. -/
import Derived.Test.YtkjjieofoolnhaaVolD0
namespace Go.Proofs.Ytkjjieofoolnhaa
open Go.RowKit
set_option linter.unusedVariables false

/-- The saved values of a snapshot written over a disk, in order. -/
def wrSh : List Int → List Sv → List Int
  | o, [] => o
  | o, q :: t => wrSh (o.set q.1.toNat q.2) t
def viewT (N : List Int) : List (List Sv) → List Int
  | [] => N
  | p :: T => wrSh (viewT N T) p
def shotV (N : List Int) (S : List (List Sv)) (a : Int) : List Int := if dropB N S a then viewT N (S.drop a.toNat) else []
def valS : List Sv → Int → Option Int
  | [], _ => none
  | q :: t, i => if q.1 = i then some q.2 else valS t i
theorem wrSh_step {o : List Int} {p : List Sv} {j : Nat} (h : j < p.length) : wrSh o (p.drop j) = wrSh (o.set p[j].1.toNat p[j].2) (p.drop (j + 1)) := by
  rw [List.drop_eq_getElem_cons h]
  rfl
theorem wrSh_len : ∀ (p : List Sv) (o : List Int), (wrSh o p).length = o.length
  | [], _ => rfl
  | q :: t, o => by unfold wrSh; rw [wrSh_len t, List.length_set]
theorem viewT_len (N : List Int) : ∀ T : List (List Sv), (viewT N T).length = N.length
  | [] => rfl
  | p :: T => by unfold viewT; rw [wrSh_len, viewT_len N T]
theorem wrSh_app : ∀ (p q : List Sv) (o : List Int), wrSh o (p ++ q) = wrSh (wrSh o p) q
  | [], _, _ => rfl
  | r :: t, q, o => wrSh_app t q (o.set r.1.toNat r.2)
theorem viewT_app (N : List Int) (B : List (List Sv)) : ∀ A : List (List Sv), viewT N (A ++ B) = viewT (viewT N B) A
  | [] => rfl
  | p :: A => by rw [List.cons_append]; unfold viewT; rw [viewT_app N B A]
theorem findF_neg (a : Int) : ∀ (p : List Sv) (k : Nat), findF a k p < 0 ↔ ∀ q ∈ p, q.1 ≠ a
  | [], k => by simp [findF]
  | r :: t, k => by
    unfold findF
    by_cases h : r.1 = a
    · rw [if_pos h]
      constructor
      · intro h1; omega
      · intro h1; exact absurd h (h1 r (by simp))
    · rw [if_neg h, findF_neg a t]
      constructor
      · intro h1 q hq
        rcases List.mem_cons.1 hq with rfl | hq
        · exact h
        · exact h1 q hq
      · intro h1 q hq
        exact h1 q (List.mem_cons_of_mem _ hq)
theorem findS_neg {a : Int} {p : List Sv} : findS p a < 0 ↔ ∀ q ∈ p, q.1 ≠ a := findF_neg a p 0
theorem valS_none {i : Int} : ∀ {p : List Sv}, (∀ q ∈ p, q.1 ≠ i) → valS p i = none
  | [], _ => rfl
  | q :: t, h => by
    unfold valS
    rw [if_neg (h q (by simp))]
    exact valS_none fun r hr => h r (List.mem_cons_of_mem _ hr)
theorem valS_some {i : Int} : ∀ {p : List Sv}, ¬ (∀ q ∈ p, q.1 ≠ i) → ∃ v, valS p i = some v
  | [], h => absurd (by simp) h
  | q :: t, h => by
    unfold valS
    by_cases e : q.1 = i
    · exact ⟨q.2, if_pos e⟩
    · rw [if_neg e]
      exact valS_some fun h1 => h fun r hr => by
        rcases List.mem_cons.1 hr with rfl | hr
        · exact e
        · exact h1 r hr
theorem valS_app (i : Int) : ∀ p q : List Sv, valS (p ++ q) i = (valS p i).or (valS q i)
  | [], q => by simp [valS]
  | r :: t, q => by
    show (if r.1 = i then some r.2 else valS (t ++ q) i) = (if r.1 = i then some r.2 else valS t i).or (valS q i)
    split
    · rfl
    · exact valS_app i t q
/-- A snapshot's saved values are all in their place. -/
def RowOk (n : Nat) (p : List Sv) : Prop := (∀ q ∈ p, (0 ≤ q.1 ∧ q.1 < n) ∧ 0 ≤ q.2 ∧ q.2 ≤ 255) ∧ (p.map (·.1)).Nodup
theorem upS_iff {n : Nat} : ∀ {t p : List Sv}, upS n p t = true ↔ (∀ q ∈ t, (0 ≤ q.1 ∧ q.1 < n) ∧ 0 ≤ q.2 ∧ q.2 ≤ 255) ∧ (∀ q ∈ t, ∀ r ∈ p, r.1 ≠ q.1) ∧ (t.map (·.1)).Nodup
  | [], p => by simp [upS]
  | s :: t, p => by
    unfold upS
    rw [Bool.and_eq_true, upS_iff]
    simp only [okS, Bool.and_eq_true, inB_iff, decide_eq_true_eq, findS_neg, List.mem_cons, List.map_cons, List.nodup_cons, List.mem_append, List.not_mem_nil, or_false, List.mem_map, not_exists, not_and]
    constructor
    · rintro ⟨⟨⟨a1, a2⟩, a3⟩, b1, b2, b3⟩
      refine ⟨?_, ?_, fun r hr => (b2 r hr s (.inr rfl)).symm, b3⟩
      · rintro q (rfl | hq)
        · exact ⟨⟨a1.1, by omega⟩, a2⟩
        · exact b1 q hq
      · rintro q (rfl | hq) r hr
        · exact a3 r hr
        · exact b2 q hq r (.inl hr)
    · rintro ⟨b1, b2, b3, b4⟩
      have h1 := b1 s (.inl rfl)
      refine ⟨⟨⟨⟨h1.1.1, by omega⟩, h1.2⟩, b2 s (.inl rfl)⟩, fun q hq => b1 q (.inr hq), ?_, b4⟩
      rintro q hq r (hr | rfl)
      · exact b2 q (.inr hq) r hr
      · exact fun e => b3 q hq e.symm
theorem shot_iff {n : Nat} {p : List Sv} : shotB n p = true ↔ RowOk n p := by
  unfold shotB RowOk
  rw [upS_iff]
  constructor
  · rintro ⟨a, _, b⟩; exact ⟨a, b⟩
  · rintro ⟨a, b⟩; exact ⟨a, fun _ _ _ h => by simp at h, b⟩
theorem vol_iff {N : List Int} {S : List (List Sv)} : volB N S = true ↔ diskB N = true ∧ S.length ≤ 5 ∧ ∀ p ∈ S, RowOk N.length p := by
  simp only [volB, Bool.and_eq_true, decide_eq_true_eq, List.all_eq_true, shot_iff]
  constructor
  · rintro ⟨⟨a, b⟩, c⟩; exact ⟨a, by omega, c⟩
  · rintro ⟨a, b, c⟩; exact ⟨⟨a, by omega⟩, c⟩
theorem disk_iff {N : List Int} : diskB N = true ↔ N.length ≤ 64 ∧ ∀ x ∈ N, 0 ≤ x ∧ x ≤ 255 := by
  simp only [diskB, Bool.and_eq_true, decide_eq_true_eq, allB, List.all_eq_true, inB_iff]
  constructor
  · rintro ⟨a, b⟩; exact ⟨by omega, b⟩
  · rintro ⟨a, b⟩; exact ⟨by omega, b⟩
theorem set_getD (o : List Int) (k i : Nat) (x : Int) (hk : k < o.length) : (o.set k x).getD i 0 = if i = k then x else o.getD i 0 := by
  simp only [List.getD_eq_getElem?_getD, List.getElem?_set]
  by_cases h : k = i
  · subst h; simp [hk]
  · rw [if_neg h, if_neg (fun e => h e.symm)]
theorem wrSh_get : ∀ (p : List Sv) (o : List Int), RowOk o.length p → ∀ i : Nat, (wrSh o p).getD i 0 = (valS p i).getD (o.getD i 0)
  | [], _, _, _ => rfl
  | q :: t, o, ⟨h1, h2⟩, i => by
    have hq := (h1 q (by simp)).1
    simp only [List.map_cons, List.nodup_cons] at h2
    unfold wrSh valS
    rw [wrSh_get t _ ⟨by rw [List.length_set]; exact fun r hr => h1 r (List.mem_cons_of_mem _ hr), h2.2⟩, set_getD _ _ _ _ (by omega)]
    by_cases h : q.1 = i
    · rw [if_pos h, if_pos (by omega), valS_none fun r hr e => h2.1 (List.mem_map.2 ⟨r, hr, by rw [e, h]⟩)]
      rfl
    · rw [if_neg h, if_neg (by omega)]
theorem ext_getD {a b : List Int} (hl : a.length = b.length) (h : ∀ i : Nat, i < a.length → a.getD i 0 = b.getD i 0) : a = b := by
  refine List.ext_getElem hl fun i h1 h2 => ?_
  have := h i h1
  rw [List.getD_eq_getElem?_getD, List.getD_eq_getElem?_getD, List.getElem?_eq_getElem h1, List.getElem?_eq_getElem h2] at this
  exact this
/-- Each value of a view is the one now or a saved one. -/
theorem wrSh_mem : ∀ (p : List Sv) (o : List Int) (i : Nat), (∀ q ∈ p, 0 ≤ q.1 ∧ q.1 < o.length) → (wrSh o p).getD i 0 = o.getD i 0 ∨ ((i : Int), (wrSh o p).getD i 0) ∈ p
  | [], _, _, _ => .inl rfl
  | q :: t, o, i, h => by
    have hq := h q (by simp)
    unfold wrSh
    rcases wrSh_mem t (o.set q.1.toNat q.2) i (fun r hr => by rw [List.length_set]; exact h r (List.mem_cons_of_mem _ hr)) with h1 | h1
    · rw [set_getD _ _ _ _ (by omega)] at h1
      split at h1
      · rename_i e
        right
        rw [h1]
        have : (i : Int) = q.1 := by omega
        rw [this]
        simp
      · exact .inl h1
    · exact .inr (List.mem_cons_of_mem _ h1)
theorem viewT_mem (N : List Int) : ∀ (T : List (List Sv)), (∀ p ∈ T, RowOk N.length p) → ∀ i : Nat, (viewT N T).getD i 0 = N.getD i 0 ∨ ∃ p ∈ T, ((i : Int), (viewT N T).getD i 0) ∈ p
  | [], _, _ => .inl rfl
  | p :: T, h, i => by
    unfold viewT
    rcases wrSh_mem p (viewT N T) i (fun q hq => by rw [viewT_len]; exact ((h p (by simp)).1 q hq).1) with h1 | h1
    · rcases viewT_mem N T (fun q hq => h q (List.mem_cons_of_mem _ hq)) i with h2 | ⟨q, hq, h2⟩
      · exact .inl (h1.trans h2)
      · exact .inr ⟨q, List.mem_cons_of_mem _ hq, by rw [h1]; exact h2⟩
    · exact .inr ⟨p, by simp, h1⟩
theorem viewT_disk {N : List Int} {T : List (List Sv)} (hN : diskB N = true) (hT : ∀ p ∈ T, RowOk N.length p) : diskB (viewT N T) = true := by
  obtain ⟨a, b⟩ := disk_iff.1 hN
  refine disk_iff.2 ⟨by rw [viewT_len]; exact a, fun x hx => ?_⟩
  obtain ⟨i, hi, rfl⟩ := List.mem_iff_getElem.1 hx
  have hi2 : i < N.length := by rw [← viewT_len N T]; exact hi
  have e : (viewT N T)[i] = (viewT N T).getD i 0 := by rw [List.getD_eq_getElem?_getD, List.getElem?_eq_getElem hi]; rfl
  rw [e]
  rcases viewT_mem N T hT i with h | ⟨p, hp, h⟩
  · rw [h, List.getD_eq_getElem?_getD, List.getElem?_eq_getElem hi2]
    exact b _ (List.getElem_mem hi2)
  · exact ((hT p hp).1 _ h).2
theorem drop_iff {N : List Int} {S : List (List Sv)} {a : Int} : dropB N S a = true ↔ volB N S = true ∧ 0 ≤ a ∧ a < S.length := by
  simp only [dropB, Bool.and_eq_true, inB_iff]
  constructor
  · rintro ⟨h1, h2⟩; exact ⟨h1, by omega, by omega⟩
  · rintro ⟨h1, h2⟩; exact ⟨h1, by omega, by omega⟩
theorem shotV_yes {N : List Int} {S : List (List Sv)} {k : Nat} (h : volB N S = true) (hk : k < S.length) : shotV N S k = viewT N (S.drop k) := by
  unfold shotV
  rw [if_pos (drop_iff.2 ⟨h, by omega, by omega⟩), Int.toNat_natCast]
theorem shotV_len (N : List Int) (S : List (List Sv)) (a : Int) : (shotV N S a).length ≤ N.length := by
  unfold shotV
  split
  · rw [viewT_len]; exact Nat.le_refl _
  · simp
/-- A further snapshot without saved values. -/
theorem take_vol {N : List Int} {S : List (List Sv)} (h : volB N S = true) (h5 : S.length < 5) : volB N (S ++ [[]]) = true := by
  obtain ⟨a, b, c⟩ := vol_iff.1 h
  refine vol_iff.2 ⟨a, by simp; omega, fun p hp => ?_⟩
  rcases List.mem_append.1 hp with hp | hp
  · exact c p hp
  · rw [List.mem_singleton.1 hp]
    exact ⟨by simp, by simp⟩
theorem take_view {N : List Int} {S : List (List Sv)} {k : Nat} (h : volB N S = true) (h5 : S.length < 5) (hk : k < S.length) : shotV N (S ++ [[]]) k = shotV N S k := by
  rw [shotV_yes (take_vol h h5) (by simp; omega), shotV_yes h hk, List.drop_append_of_le_length (by omega), viewT_app]
  rfl
theorem take_new {N : List Int} {S : List (List Sv)} (h : volB N S = true) (h5 : S.length < 5) : shotV N (S ++ [[]]) S.length = N := by
  rw [shotV_yes (take_vol h h5) (by simp), List.drop_left]
  rfl
/-- Writing. -/
def savR (N : List Int) (p : List Sv) (a : Int) : List Sv := if findS p a < 0 then p ++ [(a, N.getD a.toNat 0)] else p
theorem savS_last (N : List Int) (S : List (List Sv)) (p : List Sv) (a : Int) : savS N (S ++ [p]) a = S ++ [savR N p a] := by
  have e : (S ++ [p]).getD ((S ++ [p]).length - 1) [] = p := by simp
  unfold savS savR
  rw [e]
  by_cases h : findS p a < 0
  · rw [if_pos ⟨by simp, h⟩, if_pos h]
    simp
  · rw [if_neg (fun x => h x.2), if_neg h]
theorem savS_nil (N : List Int) (a : Int) : savS N [] a = [] := by simp [savS]
theorem savR_ok {N : List Int} {p : List Sv} {a : Nat} (hN : diskB N = true) (h : RowOk N.length p) (ha : a < N.length) : RowOk N.length (savR N p a) := by
  unfold savR
  split
  · rename_i hf
    rw [findS_neg] at hf
    have hv := (disk_iff.1 hN).2 N[a] (List.getElem_mem ha)
    have e : N.getD (a : Int).toNat 0 = N[a] := by rw [Int.toNat_natCast, List.getD_eq_getElem?_getD, List.getElem?_eq_getElem ha]; rfl
    refine ⟨fun q hq => ?_, ?_⟩
    · rcases List.mem_append.1 hq with hq | hq
      · exact h.1 q hq
      · rw [List.mem_singleton.1 hq, e]
        exact ⟨by show 0 ≤ (a : Int) ∧ (a : Int) < N.length; omega, hv⟩
    · rw [List.map_append]
      refine List.nodup_append.2 ⟨h.2, by simp, fun x hx y hy => ?_⟩
      simp only [List.map_cons, List.map_nil, List.mem_singleton] at hy
      obtain ⟨q, hq, rfl⟩ := List.mem_map.1 hx
      rw [hy]
      exact hf q hq
  · exact h
theorem savR_get {N : List Int} {p : List Sv} {a : Nat} (x : Int) (hN : diskB N = true) (h : RowOk N.length p) (ha : a < N.length) : wrSh (N.set a x) (savR N p a) = wrSh N p := by
  have h1 := savR_ok hN h ha
  refine ext_getD (by rw [wrSh_len, wrSh_len, List.length_set]) fun i hi => ?_
  rw [wrSh_get _ _ (by rw [List.length_set]; exact h1), wrSh_get _ _ h, set_getD _ _ _ _ ha]
  unfold savR
  split
  · rename_i hf
    rw [findS_neg] at hf
    rw [valS_app]
    by_cases e : i = a
    · subst e
      rw [valS_none hf]
      simp [valS]
    · rw [if_neg e]
      have : valS [((a : Int), N.getD (a : Int).toNat 0)] i = none := by
        unfold valS
        rw [if_neg (by show ¬ (a : Int) = i; omega)]
        rfl
      rw [this, Option.or_none]
  · rename_i hf
    rw [findS_neg] at hf
    by_cases e : i = a
    · subst e
      obtain ⟨v, hv⟩ := valS_some hf
      rw [hv]
      rfl
    · rw [if_neg e]
theorem last_of {S : List (List Sv)} (h : S ≠ []) : ∃ T p, S = T ++ [p] := ⟨S.dropLast, S.getLast h, (List.dropLast_concat_getLast h).symm⟩
theorem write_vol {N : List Int} {S : List (List Sv)} {a : Nat} {x : Int} (h : volB N S = true) (ha : a < N.length) (hx : 0 ≤ x ∧ x ≤ 255) : volB (N.set a x) (savS N S a) = true := by
  obtain ⟨h1, h2, h3⟩ := vol_iff.1 h
  have hd : diskB (N.set a x) = true := by
    obtain ⟨d1, d2⟩ := disk_iff.1 h1
    refine disk_iff.2 ⟨by rw [List.length_set]; exact d1, fun y hy => ?_⟩
    rcases List.mem_or_eq_of_mem_set hy with hy | rfl
    · exact d2 y hy
    · exact hx
  by_cases e : S = []
  · subst e
    rw [savS_nil]
    exact vol_iff.2 ⟨hd, by simp, fun p hp => by simp at hp⟩
  · obtain ⟨T, p, rfl⟩ := last_of e
    rw [savS_last]
    refine vol_iff.2 ⟨hd, by simpa using h2, fun q hq => ?_⟩
    rw [List.length_set]
    rcases List.mem_append.1 hq with hq | hq
    · exact h3 q (List.mem_append.2 (.inl hq))
    · rw [List.mem_singleton.1 hq]
      exact savR_ok h1 (h3 p (by simp)) ha
theorem write_view {N : List Int} {S : List (List Sv)} {a k : Nat} {x : Int} (h : volB N S = true) (ha : a < N.length) (hx : 0 ≤ x ∧ x ≤ 255) (hk : k < S.length) : shotV (N.set a x) (savS N S a) k = shotV N S k := by
  rw [shotV_yes (write_vol h ha hx) (by rw [(savS_len N S a).1]; exact hk), shotV_yes h hk]
  obtain ⟨h1, h2, h3⟩ := vol_iff.1 h
  obtain ⟨T, p, rfl⟩ := last_of (S := S) (by intro e; subst e; simp at hk)
  simp only [List.length_append, List.length_singleton] at hk
  rw [savS_last, List.drop_append_of_le_length (by omega), List.drop_append_of_le_length (by omega), viewT_app, viewT_app]
  show viewT (wrSh (N.set a x) (savR N p a)) _ = viewT (wrSh N p) _
  rw [savR_get x h1 (h3 p (by simp)) ha]
theorem write_again {N : List Int} {S : List (List Sv)} {a : Nat} {x : Int} : savS (N.set a x) (savS N S a) a = savS N S a := by
  by_cases e : S = []
  · subst e
    rw [savS_nil, savS_nil]
  · obtain ⟨T, p, rfl⟩ := last_of e
    rw [savS_last, savS_last]
    have : ¬ findS (savR N p a) a < 0 := by
      rw [findS_neg]
      unfold savR
      split
      · exact fun h => h (a, N.getD (a : Int).toNat 0) (by simp) rfl
      · rename_i hf
        rwa [findS_neg] at hf
    rw [show savR (N.set a x) (savR N p a) a = savR N p a from if_neg this]
/-- Dropping. -/
theorem merge_get (i : Int) : ∀ r p : List Sv, valS (mergeS p r) i = (valS p i).or (valS r i)
  | [], p => by simp [mergeS, valS]
  | q :: t, p => by
    unfold mergeS
    rw [merge_get i t]
    by_cases hf : findS p q.1 < 0
    · rw [if_pos hf, valS_app, Option.or_assoc]
      congr 1
      show (valS [q] i).or (valS t i) = valS (q :: t) i
      rw [← valS_app]
      rfl
    · rw [if_neg hf]
      by_cases e : q.1 = i
      · rw [findS_neg, e] at hf
        obtain ⟨v, hv⟩ := valS_some hf
        rw [hv]
        rfl
      · rw [show valS (q :: t) i = valS t i from if_neg e]
theorem merge_ok {n : Nat} : ∀ {r p : List Sv}, RowOk n p → RowOk n r → RowOk n (mergeS p r)
  | [], p, hp, _ => hp
  | q :: t, p, hp, hr => by
    unfold mergeS
    simp only [RowOk, List.map_cons, List.nodup_cons] at hr
    refine merge_ok ?_ ⟨fun s hs => hr.1 s (List.mem_cons_of_mem _ hs), hr.2.2⟩
    split
    · rename_i hf
      rw [findS_neg] at hf
      refine ⟨fun s hs => ?_, ?_⟩
      · rcases List.mem_append.1 hs with hs | hs
        · exact hp.1 s hs
        · rw [List.mem_singleton.1 hs]; exact hr.1 q (by simp)
      · rw [List.map_append]
        refine List.nodup_append.2 ⟨hp.2, by simp, fun x hx y hy => ?_⟩
        simp only [List.map_cons, List.map_nil, List.mem_singleton] at hy
        obtain ⟨s, hs, rfl⟩ := List.mem_map.1 hx
        rw [hy]
        exact hf s hs
    · exact hp
theorem merge_wr {o : List Int} {p r : List Sv} (hp : RowOk o.length p) (hr : RowOk o.length r) : wrSh o (mergeS p r) = wrSh (wrSh o r) p := by
  refine ext_getD (by rw [wrSh_len, wrSh_len, wrSh_len]) fun i _ => ?_
  rw [wrSh_get _ _ (merge_ok hp hr), wrSh_get _ _ (by rw [wrSh_len]; exact hp), wrSh_get _ _ hr, merge_get]
  cases valS p i <;> rfl
theorem split_two {S : List (List Sv)} {n : Nat} (h0 : 0 < n) (hn : n < S.length) : ∃ P p r Q, S = P ++ p :: r :: Q ∧ P.length + 1 = n := by
  refine ⟨S.take (n - 1), S[n - 1], S[n], S.drop (n + 1), ?_, by rw [List.length_take]; omega⟩
  rw [← List.drop_eq_getElem_cons (by omega)]
  have : S.drop n = S.drop (n - 1 + 1) := by rw [show n - 1 + 1 = n by omega]
  rw [this, ← List.drop_eq_getElem_cons (by omega), List.take_append_drop]
theorem dropM_split {P Q : List (List Sv)} {p r : List Sv} : (dropM (P ++ p :: r :: Q) (P.length + 1)).eraseIdx (P.length + 1) = P ++ mergeS p r :: Q := by
  unfold dropM
  rw [if_pos (by omega)]
  have e1 : (P ++ p :: r :: Q).getD (P.length + 1 - 1) [] = p := by simp [List.getD_eq_getElem?_getD]
  have e2 : (P ++ p :: r :: Q).getD (P.length + 1) [] = r := by simp [List.getD_eq_getElem?_getD]
  rw [e1, e2, Nat.add_sub_cancel, List.set_append_right _ _ (Nat.le_refl _), Nat.sub_self, List.set_cons_zero, List.eraseIdx_append_of_length_le (by omega)]
  simp
theorem drop_vol {N : List Int} {S : List (List Sv)} {n : Nat} (h : volB N S = true) (hn : n < S.length) : volB N ((dropM S n).eraseIdx n) = true ∧ ((dropM S n).eraseIdx n).length + 1 = S.length := by
  obtain ⟨h1, h2, h3⟩ := vol_iff.1 h
  rcases Nat.eq_zero_or_pos n with rfl | h0
  · have : (dropM S 0).eraseIdx 0 = S.tail := by unfold dropM; rw [if_neg (by omega)]; simp
    rw [this]
    refine ⟨vol_iff.2 ⟨h1, by rw [List.length_tail]; omega, fun p hp => h3 p (List.mem_of_mem_tail hp)⟩, by rw [List.length_tail]; omega⟩
  · obtain ⟨P, p, r, Q, rfl, rfl⟩ := split_two h0 hn
    rw [dropM_split]
    simp only [List.length_append, List.length_cons] at h2 ⊢
    refine ⟨vol_iff.2 ⟨h1, by simp only [List.length_append, List.length_cons]; omega, fun q hq => ?_⟩, by omega⟩
    rcases List.mem_append.1 hq with hq | hq
    · exact h3 q (by simp [hq])
    · rcases List.mem_cons.1 hq with rfl | hq
      · exact merge_ok (h3 p (by simp)) (h3 r (by simp))
      · exact h3 q (by simp [hq])
theorem drop_view {N : List Int} {S : List (List Sv)} {n k : Nat} (h : volB N S = true) (hn : n < S.length) (hk : k + 1 < S.length) :
    shotV N ((dropM S n).eraseIdx n) k = shotV N S (if n ≤ k then (k + 1 : Nat) else k) := by
  obtain ⟨hv, hl⟩ := drop_vol h hn
  rw [shotV_yes hv (by omega)]
  obtain ⟨h1, h2, h3⟩ := vol_iff.1 h
  rcases Nat.eq_zero_or_pos n with rfl | h0
  · have : (dropM S 0).eraseIdx 0 = S.tail := by unfold dropM; rw [if_neg (by omega)]; simp
    rw [this, if_pos (by omega), shotV_yes h hk, List.drop_tail]
  · obtain ⟨P, p, r, Q, rfl, rfl⟩ := split_two h0 hn
    rw [dropM_split]
    by_cases e : P.length + 1 ≤ k
    · rw [if_pos e, shotV_yes h hk]
      obtain ⟨j, rfl⟩ : ∃ j, k = P.length + 1 + j := ⟨k - (P.length + 1), by omega⟩
      have e1 : (P ++ mergeS p r :: Q).drop (P.length + 1 + j) = Q.drop j := by
        rw [List.drop_append, List.drop_eq_nil_of_le (show P.length ≤ _ by omega), show P.length + 1 + j - P.length = j + 1 by omega]
        rfl
      have e2 : (P ++ p :: r :: Q).drop (P.length + 1 + j + 1) = Q.drop j := by
        rw [List.drop_append, List.drop_eq_nil_of_le (show P.length ≤ _ by omega), show P.length + 1 + j + 1 - P.length = j + 1 + 1 by omega]
        rfl
      rw [e1, e2]
    · rw [if_neg e, shotV_yes h (by omega), List.drop_append_of_le_length (by omega), List.drop_append_of_le_length (by omega), viewT_app, viewT_app]
      congr 1
      show wrSh (viewT N Q) (mergeS p r) = wrSh (wrSh (viewT N Q) r) p
      exact merge_wr (by rw [viewT_len]; exact h3 p (by simp)) (by rw [viewT_len]; exact h3 r (by simp))
end Go.Proofs.Ytkjjieofoolnhaa
