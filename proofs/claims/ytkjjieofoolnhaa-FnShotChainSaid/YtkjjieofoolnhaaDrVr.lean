/- The draw of FnVolumeValid and of FnTakeShot. -/
import Derived.Test.YtkjjieofoolnhaaDrVq
namespace Go.Proofs.Ytkjjieofoolnhaa
open Go.RowKit
set_option linter.unusedVariables false

def DrawnVV (W : World) (e : Ending) (w' : World) : Prop :=
  ∃ v N S, e = .returned v ∧ VolR w' v N S ∧ N.length ≤ 70 ∧ S.length + sumN S ≤ 40 ∧ Below W.heap.size W w'
theorem vbytes_alloc {w : World} {A : Option Addr} {n : Nat} (h : BytesIn w A n) (o : Obj) : BytesIn (w.alloc o) A n := by
  intro h0
  obtain ⟨b, off, e, hc⟩ := h h0
  refine ⟨b, off, e, fun i hi => ?_⟩
  obtain ⟨u, u0, u1, hu⟩ := hc i hi
  exact ⟨u, u0, u1, by rw [World.cell?_alloc_some _ _ _ (by rw [hu]; rfl), hu]⟩
theorem vbgrown {W a b : World} (h : Below W.heap.size W a) (k : a.grownBy b (some (W.heap.size + 1))) : Below W.heap.size W b :=
  h.grown k h.size (fun k' e => by injection e with e; omega)
set_option maxHeartbeats 2000000 in
theorem drawVV_any (A : Option Addr) (m c : Nat) (W : World) (hb : BytesIn W A m) (hmc : m ≤ c) (hc : c ≤ 9223372036854775807) :
    Calls Try.prog 25 #[.slice A m c] W (DrawnVV W) := by
  go_enter Try.func25, Try.ntmps25
  have K0 := Lib.hid (Blk.new (w := W) (g := W.heap.size) (t := 29) (cs := #[.slice none 0 0, .slice none 0 0]) rfl)
  have C0 := Lib.hid (b_alloc (Below.refl W.heap.size W) (.cells #[.slice none 0 0, .slice none 0 0] 29))
  go_wp2_with fail
  refine (open_any A m c _ (vbytes_alloc hb _) hmc hc).mono ?_
  rintro e w1 ⟨rfl, hr, hb1, hs1⟩
  have K1 := Lib.hid (blk_below hb1 K0.out K0.out.lt)
  have C1 := Lib.hid (C0.out.trans (hb1.mono C0.out.size))
  rw [World.size_alloc] at hr
  have hr1 := Lib.hid hr
  clear K0 C0 hb1 hr
  go_wp2_with fail
  refine (l20Volume_any (W.heap.size + 1) 0 _ _ hr1.out (by omega) (by omega)).mono ?_
  rintro e w2 ⟨v, N, S, rfl, ht, lN, lS, hg, _⟩
  have T2 := Lib.hid ht
  obtain ⟨A2, c2, B2, d2, rfl, _⟩ := ht w2 (fun k _ _ => rfl)
  have K2 := Lib.hid (show Blk w2 W.heap.size 29 #[.slice none 0 0, .slice none 0 0] from blk_grown hg K1.out (by intro e; injection e with e; simp at e))
  have C2 := Lib.hid (vbgrown C1.out hg)
  have hz := hg.size
  simp at hs1
  have Z := Lib.hid (show DrawnVV W (.returned (.agg #[.slice A2 N.length c2, .slice B2 S.length d2])) ((w2.setCell ⟨W.heap.size, 0, none⟩ (.slice A2 N.length c2)).setCell ⟨W.heap.size, 1, none⟩ (.slice B2 S.length d2)) from
    ⟨_, N, S, rfl, T2.out _ (fun k hk _ => by rw [Below.heap_setCell _ _ _ _ (by show k ≠ W.heap.size; omega), Below.heap_setCell _ _ _ _ (by show k ≠ W.heap.size; omega)]), lN, lS, (C2.out.setCell (Nat.le_refl _) _).setCell (Nat.le_refl _) _⟩)
  obtain ⟨y0, y1, g0, g1⟩ := K2.out.two
  clear T2 K1 C1 hr1 hg C2 K2
  go_wp2
  exact bodyPost_ret (v := .agg #[.slice A2 N.length c2, .slice B2 S.length d2]) (by simp [results, Try.results25, go_sem, y0, y1]) rfl Z.out
end Go.Proofs.Ytkjjieofoolnhaa
