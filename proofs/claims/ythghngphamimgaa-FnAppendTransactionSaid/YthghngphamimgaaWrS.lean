/- The contract of WriteSectors where it writes. -/
import Derived.Test.YthghngphamimgaaInts
import Derived.Test.YthghngphamimgaaOwn
import Derived.Test.YthghngphamimgaaCloneI
import Derived.Laws.CopyOwn
namespace Go.Proofs.Ythghngphamimgaa
open Go.RowKit
set_option linter.unusedVariables false

def WsPost (l : List Int) (W : World) (e : Ending) (w' : World) : Prop :=
  ∃ A c, e = .returned (.slice A l.length c) ∧ w'.ownsRow W.heap.size 3 1 (.slice A l.length c) l.length (l.map (Value.int .i64)) ∧ Below W.heap.size W w'
theorem wints_one (l : List Int) : ∀ u ∈ l.map (Value.int .i64), u.oneCell' = true := by
  intro u hu
  obtain ⟨x, _, rfl⟩ := List.mem_map.1 hu
  rfl
theorem wread_of {w : World} {A : Option Addr} {l : List Int} (h : IntsIn w A l) : ReadC w A (l.map (Value.int .i64)) := by
  intro h0
  obtain ⟨b, off, e, hc⟩ := h (by simpa using h0)
  refine ⟨b, off, e, fun i hi => ?_⟩
  rw [List.getElem_map]
  exact hc i (by simpa using hi)
theorem src_ad {w : World} {B : Option Addr} {cs : List Value} (h : ∀ j u, cs[j]? = some u → ∃ b off, B = some ⟨b, off, none⟩ ∧ w.cell? ⟨b, off + j, none⟩ = some u) (h0 : 0 < cs.length) : ∃ ad, B = some ad ∧ ∀ j v, cs[j]? = some v → w.cell? (ad.add j) = some v := by
  obtain ⟨b, off, e, _⟩ := h 0 cs[0] (List.getElem?_eq_getElem h0)
  refine ⟨⟨b, off, none⟩, e, fun j v hj => ?_⟩
  obtain ⟨b', off', e', hc⟩ := h j v hj
  rw [e] at e'
  injection e' with e'
  injection e' with e1 e2
  subst e1 e2
  by_cases h : j = 0
  · subst h; simpa [Addr.add] using hc
  · simpa [Addr.add, h] using hc
theorem splice_put {cur xs cs : List Value} {n k : Nat} (h : cur.take n = xs) (hk : k + cs.length ≤ n) (hn : n ≤ cur.length) : (splice cur k cs).take n = xs.take k ++ cs ++ xs.drop (k + cs.length) := by
  unfold splice
  subst h
  rw [← List.append_assoc, List.take_append]
  have h1 : (cur.take k ++ cs).length = k + cs.length := by rw [List.length_append, List.length_take]; omega
  rw [List.take_of_length_le (by omega), h1]
  congr 1
  · congr 1
    rw [List.take_take, Nat.min_eq_left (by omega)]
  · rw [List.drop_take]
set_option maxHeartbeats 2000000 in
theorem stretch_yes (k m n : Nat) (w : World) (h : k + m ≤ n) (hn : n ≤ 1000000) :
    Calls Try.prog 53 #[.int .i64 k, .int .i64 m, .int .i64 n] w fun e w' => e = .returned (.bool true) ∧ w = w' := by
  have h1 : inB (k : Int) 0 (n : Int) = true := inB_iff.2 ⟨by omega, by omega⟩
  have h2 : inB (m : Int) 0 ((n : Int) - (k : Int)) = true := inB_iff.2 ⟨by omega, by omega⟩
  go_enter Try.func53, Try.ntmps53
  go_wp2_with fail
  refine (within_is h1 _).mono ?_
  rintro e w' ⟨rfl, rfl⟩
  go_wp2_with fail
  refine (within_is h2 _).mono ?_
  rintro e w' ⟨rfl, rfl⟩
  go_wp2
  go_ret
  exact ⟨rfl, rfl⟩
set_option maxHeartbeats 4000000 in
theorem implWs_yes (A B : Option Addr) (c d : Nat) (l vs : List Int) (k : Nat) (w : World) (h1 : IntsIn w A l) (h2 : IntsIn w B vs) (hd : diskB l = true) (hv : allB vs 0 255 = true) (hk : k < l.length) (hkl : k + vs.length ≤ l.length) :
    Calls Try.prog 36 #[.slice A l.length c, .int .i64 k, .slice B vs.length d] w (WsPost (l.take k ++ vs ++ l.drop (k + vs.length)) w) := by
  have hl64 : l.length ≤ 64 := by simp only [diskB, Bool.and_eq_true, decide_eq_true_eq] at hd; omega
  have hlen : (l.take k ++ vs ++ l.drop (k + vs.length)).length = l.length := by simp only [List.length_append, List.length_take, List.length_drop]; omega
  obtain ⟨Z, hZ⟩ : ∃ Z, Z = l.take k ++ vs ++ l.drop (k + vs.length) := ⟨_, rfl⟩
  rw [← hZ] at hlen ⊢
  have HZ := Lib.hid hZ
  have HZL := Lib.hid hlen
  clear hZ hlen
  have hst := Lib.hid (stretch_yes k vs.length l.length w hkl (by omega))
  have hdv := Lib.hid (diskValid_any A c l w h1 (by omega))
  rw [hd] at hdv
  have H1 := Lib.hid h1
  have H2 := Lib.hid h2
  have HD := Lib.hid hd
  clear h1 hd
  go_enter Try.func36, Try.ntmps36
  go_wp2_with fail
  refine hdv.out.mono ?_
  rintro e w' ⟨rfl, rfl⟩
  go_wp2_with fail
  refine (allWithin_any B d vs 0 255 w H2.out (by omega)).mono ?_
  rintro e w' ⟨rfl, rfl⟩
  rw [hv]
  go_wp2_with fail
  refine hst.out.mono ?_
  rintro e w' ⟨rfl, rfl⟩
  go_wp2_with fail
  refine (clone_ints A l.length c (l.map (Value.int .i64)) w (wread_of H1.out) (by simp) (wints_one l) (by omega)).mono ?_
  rintro e w3 ⟨v3, rfl, o3, b3⟩
  rcases o3.2 with ⟨rfl, h0⟩ | ⟨g, cap, cur, rfl, hg, hcur, hnc, hcm, hcs, hct⟩
  · omega
  have hsrc : ∀ j u, (vs.map (Value.int .i64))[j]? = some u → ∃ b off, B = some ⟨b, off, none⟩ ∧ w3.cell? ⟨b, off + j, none⟩ = some u := by
    intro j u hu
    obtain ⟨hj, rfl⟩ := List.getElem?_eq_some_iff.1 hu
    simp only [List.length_map] at hj
    obtain ⟨b, off, e, hc⟩ := H2.out.below b3 (by omega)
    exact ⟨b, off, e, by rw [List.getElem_map]; exact hc j hj⟩
  have hg3 : w3.heap[g]? = some (.cells cur.toList.toArray 3 (0, 0)) := by simpa using hcur
  have HG := Lib.hid hg3
  have HSRC := Lib.hid hsrc
  have HCT := Lib.hid hct
  have HB3 := Lib.hid b3
  have hcl : cur.toList.length = cap := by rw [Array.length_toList]; omega
  have HCL := Lib.hid hcl
  have i1 : (0 : Int) ≤ (k : Int) := by omega
  have i2 : (k : Int) ≤ (l.length : Int) := by omega
  have i3 : ¬ cap - k = 0 := by omega
  have i4 : ¬ cap = k := by omega
  have i5 : (l.length : Int) ≤ (cap : Int) := by omega
  have i6 : k < cap := by omega
  have i7 : k ≤ l.length := by omega
  obtain ⟨cs, hcse⟩ : ∃ cs, cs = vs.map (Value.int .i64) := ⟨_, rfl⟩
  rw [← hcse] at HSRC
  have hcsl : cs.length = vs.length := by rw [hcse]; simp
  have h1c : ∀ v ∈ cs, v.oneCell' = true := by rw [hcse]; exact wints_one vs
  have HCS := Lib.hid hcse
  have hmin : cs.length = Nat.min vs.length (l.length - k) := by rw [hcsl]; exact (Nat.min_eq_left (by omega)).symm
  have HMIN := Lib.hid hmin
  have HCSL := Lib.hid hcsl
  clear hsrc hct hcl hcur hg3 b3 h2 hcs o3 hv hcse hcsl hmin
  go_wp2_with ((refine wpList_copy_splice (o := ⟨some 31, _, _, _, _, _⟩) rfl (.tmp 29) (.tmp 30) 36 36 rfl 3 Try.underlying36 (by kernel_rfl) (some ⟨g, k, none⟩) B (l.length - k) (cap - k) vs.length d rfl rfl g k _ _ HG.out cs HMIN.out (fun h0 => ⟨rfl, src_ad HSRC.out h0⟩) (by rw [HCL.out, HCSL.out]; omega) h1c w.heap.size w HB3.out hg ?_); intro w4 hg4 hb4)
  have hsz : ((splice cur.toList k cs).toArray).size = cap * 1 := by
    rw [List.size_toArray, length_splice _ _ _ (by rw [HCL.out, HCSL.out]; omega), HCL.out]
    omega
  have htk : ((splice cur.toList k cs).toArray).toList.take (l.length * 1) = Z.map (Value.int .i64) := by
    have hct2 : cur.toList.take l.length = l.map (Value.int .i64) := by have := HCT.out; rwa [Nat.mul_one] at this
    have := splice_put (cs := cs) (k := k) hct2 (by rw [HCSL.out]; exact hkl) (by rw [HCL.out]; exact hnc)
    rw [Nat.mul_one, List.toList_toArray, this, HCS.out, HZ.out]
    simp only [List.map_append, List.map_take, List.map_drop, List.length_map]
  have hown : w4.ownsRow w.heap.size 3 1 (.slice (some ⟨g, 0, none⟩) l.length cap) l.length (Z.map (Value.int .i64)) :=
    ⟨by rw [List.length_map, HZL.out, Nat.mul_one], .inr ⟨g, cap, (splice cur.toList k cs).toArray, rfl, hg, hg4.out, hnc, hcm, hsz, htk⟩⟩
  have hfin := Lib.hid (show WsPost Z w (.returned (.slice (some ⟨g, 0, none⟩) l.length cap)) w4 from ⟨_, cap, by rw [HZL.out], by rw [HZL.out]; exact hown, hb4⟩)
  clear hown htk hsz hg4 hb4 HG HCT
  go_wp2
  go_ret
  exact hfin.out
end Go.Proofs.Ythghngphamimgaa
