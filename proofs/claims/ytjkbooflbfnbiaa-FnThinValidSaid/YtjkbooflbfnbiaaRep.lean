/- The contract of slices.Repeat at a list of one number. -/
import Derived.Test.YtjkbooflbfnbiaaMul
import Derived.Test.YtjkbooflbfnbiaaOwn
import Derived.Laws.CopyOwn
import Derived.Deep.RegionLaw
import Derived.IntWalk
namespace Go.Proofs.Ytjkbooflbfnbiaa
open Go.RowKit
set_option linter.unusedVariables false

def RepPost (n : Nat) (v : Int) (W : World) (e : Ending) (w' : World) : Prop :=
  ∃ A c, e = .returned (.slice A n c) ∧ w'.ownsRow W.heap.size 3 1 (.slice A n c) n ((List.replicate n v).map (Value.int .i64)) ∧ Below W.heap.size W w'

/-- Block g holds N cells; the first m are v. -/
def RepAt (w : World) (g N m : Nat) (v : Int) : Prop := ∃ cur : List Value, w.heap[g]? = some (.cells cur.toArray 3 (0, 0)) ∧ cur.length = N ∧ cur.take m = List.replicate m (.int .i64 v)
theorem splice_take {cur : List Value} {m k : Nat} {v : Value} (h : cur.take m = List.replicate m v) (hk : m + k ≤ cur.length) : (splice cur m (List.replicate k v)).take (m + k) = List.replicate (m + k) v := by
  have hm : (cur.take m).length = m := by rw [List.length_take]; omega
  have hl : (splice cur m (List.replicate k v)).take (m + k) = cur.take m ++ List.replicate k v := by
    unfold splice
    rw [← List.append_assoc] 
    exact List.take_left' (by simp; omega)
  rw [hl, h, List.replicate_append_replicate]

set_option maxHeartbeats 2000000 in
theorem repeat_any (ad : Addr) (cp : Nat) (n : Nat) (v : Int) (w : World) (hc : w.cell? ad = some (.int .i64 v)) (hn : n ≤ 64) (hcp : 1 ≤ cp ∧ cp ≤ 1000) :
    Calls Try.prog 45 #[.slice (some ad) 1 cp, .int .i64 (n : Int)] w (RepPost n v w) := by
  have hmk := make_rows (P := Try.prog) 22 3 (.int .i64 0) 1 8 Try.underlying22 (by kernel_rfl) n (by omega) (by omega)
  go_enter Try.func45, Try.ntmps45
  go_wp2_with fail
  refine (mul_one (n : Int) w (by omega) (by omega)).mono ?_
  rintro e w' ⟨rfl, rfl⟩
  have hb : Below w.heap.size w (w.alloc (.cells (madeCells #[Value.int .i64 0] n) 3)) := b_alloc (Below.refl _ _) _
  have hg : (w.alloc (.cells (madeCells #[Value.int .i64 0] n) 3)).heap[w.heap.size]? = some (.cells (List.replicate n (Value.int .i64 0)).toArray 3 (0, 0)) := by
    rw [heap_alloc_new]
    congr 2
    apply Array.ext'
    rw [toList_madeCells_one]
  have Hg := Lib.hid hg
  have Hb := Lib.hid hb
  have hlt := block_lt_of_cell hc
  clear hg hb
  obtain ⟨q, hq⟩ : ∃ q, q = Nat.min 1 n := ⟨_, rfl⟩
  have hq1 : q ≤ 1 := by rw [hq]; exact Nat.min_le_left _ _
  have hq2 : q ≤ n := by rw [hq]; exact Nat.min_le_right _ _
  have hq3 : 0 < n → q = 1 := by intro h; rw [hq]; exact Nat.min_eq_left h
  have hsrc : ∀ j u, (List.replicate q (Value.int .i64 v))[j]? = some u → (w.alloc (.cells (madeCells #[Value.int .i64 0] n) 3)).cell? (ad.add j) = some u := by
    intro j u hu
    obtain ⟨hj, rfl⟩ := List.getElem?_eq_some_iff.1 hu
    have hj0 : j = 0 := by simp at hj; omega
    subst hj0
    rw [List.getElem_replicate, show ad.add 0 = ad from rfl, World.cell?_alloc_lt _ _ _ hlt]
    exact hc
  have HS := Lib.hid hsrc
  have HQ := Lib.hid hq
  have H3 := Lib.hid hq3
  clear hc hsrc hq hq3
  go_wp2_with ((refine wpList_copy_splice (o := ⟨some 33, _, _, _, _, _⟩) rfl (.tmp 31) (.tmp 32) 22 22 rfl 3 Try.underlying22 (by kernel_rfl) (some ⟨w.heap.size, 0, none⟩) (some ad) n n 1 cp rfl rfl w.heap.size 0 _ _ Hg.out (List.replicate q (.int .i64 v)) (by rw [List.length_replicate]; exact HQ.out) (fun _ => ⟨rfl, ad, rfl, HS.out⟩) (by simp; omega) (by intro u hu; rw [(List.mem_replicate.1 hu).2]; rfl) w.heap.size w Hb.out (Nat.le_refl _) ?_); intro w2 hg2 hb2)
  have R2 := Lib.hid (show RepAt w2 w.heap.size n q v from ⟨_, hg2.out, by rw [length_splice] <;> simp <;> omega, by have := splice_take (cur := List.replicate n (Value.int .i64 0)) (m := 0) (k := q) (v := .int .i64 v) (by simp) (by simp; omega); simpa using this⟩)
  have B2 := Lib.hid hb2
  clear hg2 hb2 Hg hmk
  go_loopw [8] (fun y wr => ∃ m : Nat, m ≤ n ∧ y = .int .i64 m ∧ Hid (0 < n → 0 < m) ∧ Hid (RepAt wr w.heap.size n m v) ∧ Hid (Below w.heap.size w wr)) (fun y _ => n - (intOf y).toNat)
  case atStart => exact ⟨q, hq2, by simp, fun h => by rw [H3.out h]; omega, R2, B2⟩
  case round =>
    obtain ⟨m, hm, rfl, hp, hR, hB⟩ := hrel
    by_cases hlt : m < n
    · have hm0 : 0 < m := hp.out (by omega)
      obtain ⟨cur, hcur, hcl, hct⟩ := hR.out
      have i1 : (0 : Int) ≤ (m : Int) := by omega
      have i2 : (m : Int) ≤ (n : Int) := by omega
      have i3 : m ≠ n := by omega
      have i4 : n ≠ m := by omega
      obtain ⟨k, hk⟩ : ∃ k, k = Nat.min m (n - m) := ⟨_, rfl⟩
      have hk1 : k ≤ m := by rw [hk]; exact Nat.min_le_left _ _
      have hk2 : k ≤ n - m := by rw [hk]; exact Nat.min_le_right _ _
      have hk3 : 0 < k := by rw [hk]; exact Nat.lt_min.2 ⟨hm0, by omega⟩
      have HK := Lib.hid hk
      have HG := Lib.hid hcur
      have HCT := Lib.hid hct
      have hsrc : ∀ j u, (List.replicate k (Value.int .i64 v))[j]? = some u → wr.drew.cell? ((⟨w.heap.size, 0, none⟩ : Addr).add j) = some u := by
        intro j u hu
        obtain ⟨hj, rfl⟩ := List.getElem?_eq_some_iff.1 hu
        have hj' : j < k := by simpa using hj
        have e : (⟨w.heap.size, 0, none⟩ : Addr).add j = ⟨w.heap.size, j, none⟩ := by unfold Addr.add; split <;> simp_all
        rw [e, List.getElem_replicate]
        show wr.cell? _ = _
        rw [cell_of_row _ _ _ _ _ _ hcur]
        have h2 : (cur.take m)[j]? = some (.int .i64 v) := by rw [hct, List.getElem?_replicate, if_pos (by omega)]
        rw [List.getElem?_take, if_pos (by omega)] at h2
        simpa using h2
      have HS2 := Lib.hid hsrc
      clear hcur hct hk hsrc
      have hwr : IntKind.i64.wrap ((m : Int) + (k : Int)) = (m : Int) + (k : Int) := IntWalk.i64_in _ (by omega)
      go_wp2
      go_region_law ((refine step_copy_splice (by rfl) (.tmp 41) (.tmp 44) 22 22 (by rfl) 3 Try.underlying22 (by kernel_rfl) (some ⟨w.heap.size, m, none⟩) (some ⟨w.heap.size, 0, none⟩) (n - m) (n - m) m n (by simp [Act.eval, Act.put]) (by simp [Act.eval, Act.put]) w.heap.size m cur _ HG.out (List.replicate k (.int .i64 v)) (by rw [List.length_replicate]; exact HK.out) (fun _ => ⟨rfl, ⟨w.heap.size, 0, none⟩, rfl, HS2.out⟩) (by simp; omega) (by intro u hu; rw [(List.mem_replicate.1 hu).2]; rfl) w.heap.size w (b_drew hB.out) (Nat.le_refl _) ?_; intro w3 hg3 hb3))
      have R3 := Lib.hid (show RepAt w3 w.heap.size n (m + k) v from ⟨_, hg3.out, (by rw [length_splice _ _ _ (by simp; omega)]; exact hcl), splice_take HCT.out (by omega)⟩)
      have B3 := Lib.hid hb3
      have hlk : (List.replicate k (Value.int .i64 v)).length = k := List.length_replicate
      clear hg3 hb3 HG HCT hR hB HS2 hwr
      go_simp
      go_wp2
      go_roundw
      case rel => exact ⟨m + k, by omega, by first | go_num | (simp [goInt]; go_num), fun _ => by omega, R3, B3⟩
      case measure => simp [intOf]; omega
    · have hfin := Lib.hid (show RepPost n v w (.returned (.slice (some ⟨w.heap.size, 0, none⟩) n n)) wr from by
        obtain ⟨cur, hcur, hcl, hct⟩ := hR.out
        refine ⟨_, _, rfl, ⟨by simp, .inr ⟨w.heap.size, n, cur.toArray, rfl, Nat.le_refl _, hcur, Nat.le_refl _, by simp only [maxLen]; omega, by simpa using hcl, ?_⟩⟩, hB.out⟩
        rw [show n * 1 = m by omega, List.map_replicate, show n = m by omega]
        exact hct)
      clear hR hB
      go_wp2
      go_ret
      exact hfin.out
end Go.Proofs.Ytjkbooflbfnbiaa
