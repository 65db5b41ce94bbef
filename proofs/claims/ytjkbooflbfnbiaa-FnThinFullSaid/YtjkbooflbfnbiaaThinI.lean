/- The contract of ThinWrite, the program's. -/
import Derived.Test.YtjkbooflbfnbiaaThinT
namespace Go.Proofs.Ytjkbooflbfnbiaa
open Go.RowKit
set_option linter.unusedVariables false

/-- The lowest place, up to n, that no sector has. -/
def lowP (W : List Int) (n : Nat) : Nat := ((List.range (n + 1)).find? fun (p : Nat) => decide ((p : Int) ∉ W)).getD 0
theorem low_is {W : List Int} {n p : Nat} (h : (p : Int) ∉ W) (hq : ∀ q, q < p → (q : Int) ∈ W) (hp : p ≤ n) : lowP W n = p := by
  have : (List.range (n + 1)).find? (fun (p : Nat) => decide ((p : Int) ∉ W)) = some p := by
    rw [List.find?_range_eq_some]
    exact ⟨by simpa using h, by simp; omega, fun j hj => by simpa using hq j hj⟩
  rw [lowP, this]
  rfl
/-- The outcome: the sectors, the pool, whether it was written. -/
def wrV (W P : List Int) (a x : Int) : List Int × List Int × Bool :=
  if secB W P a = true ∧ inB x 0 255 = true then
    (if 0 ≤ W.getD a.toNat 0 then (W, P.set (W.getD a.toNat 0).toNat x, true)
     else if lowP W P.length = P.length then (W, P, false) else (W.set a.toNat (lowP W P.length), P.set (lowP W P.length) x, true))
  else ([], [], false)
def OwnThinB (r : List Int × List Int × Bool) (w : World) (e : Ending) (w' : World) : Prop :=
  ∃ v, e = .returned (.tuple #[v, .bool r.2.2]) ∧ ThinO w.heap.size w'.heap.size w' v r.1 r.2.1 ∧ Below w.heap.size w w'

theorem cell_past {w : World} {a b : Addr} {u v y : Value} {o : Obj} (h : w.cell? a = some u) (hb : b ≠ a) : (((w.setCell a v).setCell b y).alloc o).drew.cell? a = some v := by
  have q1 := World.cell?_setCell_same w a v h
  have q2 := (World.cell?_setCell_other (w.setCell a v) b a y hb).trans q1
  exact (World.cell?_alloc_some _ _ _ (by rw [q2]; rfl)).trans q2
set_option maxHeartbeats 4000000 in
theorem implWrite_any (v : Value) (W P : List Int) (a x : Int) (w : World) (h : ThinR w v W P) (hW : W.length ≤ 1048576) (hP : P.length ≤ 1048576) :
    Calls Try.prog 35 #[v, .int .i64 a, .int .i64 x] w (OwnThinB (wrV W P a x) w) := by
  have HR := Lib.hid h
  obtain ⟨A, c, B, d, rfl, hA, hB, hc1, hc2, hd1, hd2⟩ := h
  have HA := Lib.hid hA
  clear hA hB
  go_enter Try.func35, Try.ntmps35
  go_wp2_with fail
  refine (isSector_any _ W P a _ ((HR.out.alloc _).alloc _) hW hP).mono ?_
  rintro e w1 ⟨rfl, b1⟩
  have K1 := Lib.hid (show Blk w1 w.heap.size 27 #[.slice A W.length c, .slice B P.length d] from blk_below b1 ((Blk.new rfl).alloc _) (by simp; omega))
  have L1 := Lib.hid (show Blk w1 (w.heap.size + 1) 27 #[.slice none 0 0, .slice none 0 0] from blk_below b1 (Blk.new (by simp)) (by simp))
  have C1 := Lib.hid ((b_alloc (b_alloc (Below.refl w.heap.size w) _) _).trans (b1.mono (by simp; omega)))
  have Z1 : w.heap.size + 2 ≤ w1.heap.size := by have := b1.size; simp at this; omega
  clear b1
  obtain ⟨x0, x1, f0, f1⟩ := K1.out.two
  obtain ⟨y0, y1, g0, g1⟩ := L1.out.two
  have hcase : (secB W P a = false ∨ (secB W P a = true ∧ inB x 0 255 = false)) ∨ (secB W P a = true ∧ inB x 0 255 = true) := by
    cases secB W P a <;> cases inB x 0 255 <;> simp
  rcases hcase with hbad | ⟨hv, hin⟩
  · have hno := Lib.hid (fun w' (hb : Below w.heap.size w w') => show OwnThinB (wrV W P a x) w (.returned (.tuple #[.agg #[.slice none 0 0, .slice none 0 0], .bool false])) w' from by
      have e : wrV W P a x = ([], [], false) := by
        rw [wrV, if_neg]
        rintro ⟨p, q⟩
        rcases hbad with h | ⟨_, h⟩
        · rw [p] at h; cases h
        · rw [q] at h; cases h
      rw [e]
      exact ⟨_, rfl, thin_nil' _ _ _, hb⟩)
    rcases hbad with h1 | ⟨h1, h2⟩
    all_goals
      go_wp2_with (go_at_call 44; refine (within_any _ _ _ _).mono ?_; rintro e w' ⟨rfl, rfl⟩)
      exact bodyPost_ret (v := .tuple #[.agg #[.slice none 0 0, .slice none 0 0], .bool false]) (by simp [results, Try.results35, go_sem, y0, y1]) rfl (hno.out _ ((C1.out.setCell (by simp) _).setCell (by simp) _))
  · have hs := hv
    simp only [secB, Bool.and_eq_true, inB_iff] at hs
    obtain ⟨hthin, a0, a1⟩ := hs
    obtain ⟨k, rfl⟩ := Int.eq_ofNat_of_zero_le a0
    have hk : k < W.length := by omega
    have hat := thin_at' hthin hk
    have HT := Lib.hid hthin
    have hyes := (fun A B c d r w' (hr : wrV W P k x = r) (ho : ThinO w.heap.size w'.heap.size w' (.agg #[.slice A W.length c, .slice B P.length d]) r.1 r.2.1) (hb : Below w.heap.size w w') => show OwnThinB (wrV W P k x) w (.returned (.tuple #[.agg #[.slice A W.length c, .slice B P.length d], .bool r.2.2])) w' from ⟨_, by rw [hr], by rw [hr]; exact ho, hb⟩)
    have hwr : wrV W P k x = (if 0 ≤ W.getD k 0 then (W, P.set (W.getD k 0).toNat x, true) else if lowP W P.length = P.length then (W, P, false) else (W.set k (lowP W P.length), P.set (lowP W P.length) x, true)) := by
      rw [wrV, if_pos ⟨hv, hin⟩]; rfl
    have hgd : W.getD k 0 = W[k] := by rw [List.getD_eq_getElem?_getD, List.getElem?_eq_getElem hk]; rfl
    rw [← hgd] at hat
    have HG := Lib.hid hgd
    have HY := Lib.hid hyes
    have HWR := Lib.hid hwr
    clear hthin hgd hyes hwr
    go_wp2_with fail
    refine (within_any _ _ _ _).mono ?_
    rintro e w' ⟨rfl, rfl⟩
    go_wp2_with fail
    refine (cloneThin_any _ W P _ (HR.out.below C1.out) hW hP).mono ?_
    rintro e w2 ⟨v2, rfl, o2, b2⟩
    have O2 := Lib.hid o2
    obtain ⟨A2, c2, B2, d2, rfl, _, _, hap, _⟩ := o2
    have HAP := Lib.hid hap
    clear hap
    have K2 := Lib.hid (show Blk w2 w.heap.size 27 #[.slice A W.length c, .slice B P.length d] from blk_below b2 K1.out K1.out.lt)
    have L2 := Lib.hid (show Blk w2 (w.heap.size + 1) 27 #[.slice none 0 0, .slice none 0 0] from blk_below b2 L1.out L1.out.lt)
    have C2 := Lib.hid (C1.out.trans (b2.mono C1.out.size))
    have Z2 : w1.heap.size ≤ w2.heap.size := b2.size
    clear b2 K1 L1 x0 x1 f0 f1 y0 y1 g0 g1 hin hv
    obtain ⟨x0, x1, f0, f1⟩ := K2.out.two
    obtain ⟨y0, y1, g0, g1⟩ := L2.out.two
    have zl1 : w.heap.size < w2.heap.size := by omega
    have zl2 : w.heap.size + 1 < w2.heap.size := by omega
    obtain ⟨z, hz⟩ : ∃ z, z = W.getD k 0 := ⟨_, rfl⟩
    rw [← hz] at hat HWR
    have HX := Lib.hid hz
    clear hz
    obtain ⟨gW, rfl, r1, r2, r3, r4, r5, OWF⟩ := (show ∃ g, A2 = some ⟨g, 0, none⟩ ∧ w1.heap.size ≤ g ∧ g < w2.heap.size ∧ g < w2.heap.size ∧ w2.cell? ⟨g, k, none⟩ = some (.int .i64 (W.getD k 0)) ∧ w2.frozen? ⟨g, k, none⟩ = false ∧ ∀ y : Int, ThinO w1.heap.size w2.heap.size (w2.setCell ⟨g, k, none⟩ (.int .i64 y)) (.agg #[.slice A2 W.length c2, .slice B2 P.length d2]) (W.set k y) P by
      obtain ⟨g, q0, q1, q2, q3, q4, q5, _⟩ := O2.out.setW rfl rfl k 0 hk
      refine ⟨g, q0, q1, q2, q3, q4, q5, fun y => ?_⟩
      obtain ⟨g', q0', _, _, _, _, _, q6⟩ := O2.out.setW rfl rfl k y hk
      rw [q0] at q0'
      obtain rfl : g = g' := by injection q0' with q; injection q
      exact q6)
    rw [← HX.out] at r4
    have n2 : gW ≠ w.heap.size + 1 := by omega
    have n4 : gW ≠ w2.heap.size := by omega
    by_cases h0 : 0 ≤ z
    · obtain ⟨q, rfl⟩ := Int.eq_ofNat_of_zero_le h0
      obtain ⟨gP, rfl, p1, p2, p3, p4, p5, OP⟩ := O2.out.setP rfl rfl q x (by omega)
      have hne : gP ≠ gW := fun e => HAP.out gW rfl (by rw [← e]; rfl)
      have n1 : gP ≠ w.heap.size + 1 := by omega
      have n3 : gP ≠ w2.heap.size := by omega
      have hr : wrV W P k x = (W, P.set q x, true) := by rw [HWR.out, if_pos h0]; rfl
      have HOP := Lib.hid OP
      have F1 := Lib.hid (HY.out _ _ _ _ _ ((((w2.setCell ⟨gP, q, none⟩ (.int .i64 x)).setCell ⟨w.heap.size + 1, 0, none⟩ (.slice (some ⟨gW, 0, none⟩) W.length c2)).setCell ⟨w.heap.size + 1, 1, none⟩ (.slice (some ⟨gP, 0, none⟩) P.length d2)).alloc (.cells #[.slice (some ⟨gW, 0, none⟩) W.length c2, .slice (some ⟨gP, 0, none⟩) P.length d2] 27)).drew hr (((HOP.out.turn (((Turn.refl (w.heap.size + 1) (w.heap.size + 2) _).setCell (by simp) (by simp) _).setCell (by simp) (by simp) _) (.inl (by omega))).below (b_alloc (Below.refl _ _) _)).mono (by omega) (by simp) : ThinO _ _ _ _ _ _) (b_drew (b_alloc (((C2.out.setCell (p := ⟨gP, q, none⟩) (by show _ ≤ gP; omega) _).setCell (by simp) _).setCell (by simp) _) _)))
      clear HY HOP HAP O2 OP OWF HWR hr
      go_wp2
      go_region_held3 (fun w' => w'.cell? ⟨w2.heap.size, 0, none⟩ = some (.slice (some ⟨gW, 0, none⟩) W.length c2) ∧ w'.cell? ⟨w2.heap.size, 1, none⟩ = some (.slice (some ⟨gP, 0, none⟩) P.length d2) ∧ w'.cell? ⟨gW, k, none⟩ = some (.int .i64 q)) (first | (refine ⟨?_, ?_, ?_⟩; (exact (Blk.new (g := w2.heap.size) (t := 27) (cs := #[.slice (some ⟨gW, 0, none⟩) W.length c2, .slice (some ⟨gP, 0, none⟩) P.length d2]) (w := w2.setCell ⟨gP, q, none⟩ (.int .i64 x)) (by simp)).drew.cell 0); (exact (Blk.new (g := w2.heap.size) (t := 27) (cs := #[.slice (some ⟨gW, 0, none⟩) W.length c2, .slice (some ⟨gP, 0, none⟩) P.length d2]) (w := w2.setCell ⟨gP, q, none⟩ (.int .i64 x)) (by simp)).drew.cell 1); go_keep) | go_keep) (fail)
      go_wp2
      exact bodyPost_ret (v := .tuple #[.agg #[.slice (some ⟨gW, 0, none⟩) W.length c2, .slice (some ⟨gP, 0, none⟩) P.length d2], .bool true]) (by simp [results, Try.results35, go_sem, y0, y1, zl2]) rfl F1.out
    · have hmem := Lib.hid (fun (p : Nat) (hp : (p : Int) ∈ W) => show p < P.length by
        obtain ⟨i, hi, he⟩ := List.getElem_of_mem hp
        have := thin_at' HT.out hi
        omega)
      have HA2 := Lib.hid (HA.out.below (b_alloc C2.out (.cells #[.slice (some ⟨gW, 0, none⟩) W.length c2, .slice B2 P.length d2] 27)))
      have hd0 : decide (z < 0) = true := by simp; omega
      have Hz := Lib.hid h0
      have HOWF := Lib.hid OWF
      clear OWF h0 HR
      go_wp2
      go_loop [9] (fun y => ∃ p : Nat, p ≤ P.length ∧ y = .int .i64 p ∧ Hid (∀ q, q < p → (q : Int) ∈ W)) (fun y => P.length - (intOf y).toNat)
      case atStart => exact ⟨0, Nat.zero_le _, rfl, fun q hq => absurd hq (by omega)⟩
      case round =>
        obtain ⟨p, hp, rfl, hq⟩ := hrel
        cases hm : decide ((p : Int) ∈ W)
        · have hlow := Lib.hid (low_is (by simpa using hm) hq.out hp)
          have hcl := Lib.hid (contains_any A c W (p : Int) _ HA2.out (by omega))
          rw [hm] at hcl
          clear hm hq
          by_cases hlast : p = P.length
          · have hr : wrV W P k x = (W, P, false) := by rw [HWR.out, if_neg (by have := Hz.out; omega), hlow.out, if_pos hlast]
            have F1 := Lib.hid (HY.out _ _ _ _ _ (((w2.setCell ⟨w.heap.size + 1, 0, none⟩ (.slice (some ⟨gW, 0, none⟩) W.length c2)).setCell ⟨w.heap.size + 1, 1, none⟩ (.slice B2 P.length d2)).alloc (.cells #[.slice (some ⟨gW, 0, none⟩) W.length c2, .slice B2 P.length d2] 27)) hr (((O2.out.turn (((Turn.refl (w.heap.size + 1) (w.heap.size + 2) _).setCell (by simp) (by simp) _).setCell (by simp) (by simp) _) (.inl (by omega))).below (b_alloc (Below.refl _ _) _)).mono (by omega) (by simp) : ThinO _ _ _ _ _ _) (b_alloc ((C2.out.setCell (by simp) _).setCell (by simp) _) _))
            have he : ((p : Int) == P.length) = true := by simp; omega
            clear HY HOWF HAP O2 HWR hr hlow hlast
            go_wp2_with (go_at_call 43; refine hcl.out.mono ?_; rintro e w' ⟨rfl, rfl⟩)
            exact bodyPost_ret (v := .tuple #[.agg #[.slice (some ⟨gW, 0, none⟩) W.length c2, .slice B2 P.length d2], .bool false]) (by simp [results, Try.results35, go_sem, y0, y1, zl2]) rfl F1.out
          · have hr : wrV W P k x = (W.set k p, P.set p x, true) := by rw [HWR.out, if_neg (by have := Hz.out; omega), hlow.out, if_neg hlast]
            obtain ⟨gP, rfl, p1, p2, p3, p4, p5, OP⟩ := (HOWF.out (p : Int)).setP (by simp) rfl p x (by omega)
            have hne : gP ≠ gW := fun e => HAP.out gW rfl (by rw [← e]; rfl)
            have hpl : p < P.length := by omega
            have n1 : gP ≠ w.heap.size + 1 := by omega
            have n3 : gP ≠ w2.heap.size := by omega
            have p4' : w2.cell? ⟨gP, p, none⟩ = some (.int .i64 (P.getD p 0)) := by
              rw [World.cell?_setCell_other _ _ _ _ (by intro e; injection e with e; exact hne e.symm)] at p4
              exact p4
            have p5' : w2.frozen? ⟨gP, p, none⟩ = false := by simpa using p5
            have HOP := Lib.hid OP
            have he : ((p : Int) == P.length) = false := by simp; omega
            have F1 := Lib.hid (HY.out _ _ _ _ _ (((((w2.setCell ⟨gW, k, none⟩ (.int .i64 p)).setCell ⟨gP, p, none⟩ (.int .i64 x)).setCell ⟨w.heap.size + 1, 0, none⟩ (.slice (some ⟨gW, 0, none⟩) W.length c2)).setCell ⟨w.heap.size + 1, 1, none⟩ (.slice (some ⟨gP, 0, none⟩) P.length d2)).alloc (.cells #[.slice (some ⟨gW, 0, none⟩) W.length c2, .slice (some ⟨gP, 0, none⟩) P.length d2] 27)).drew hr (((HOP.out.turn (((Turn.refl (w.heap.size + 1) (w.heap.size + 2) _).setCell (by simp) (by simp) _).setCell (by simp) (by simp) _) (.inl (by omega))).below (b_alloc (Below.refl _ _) _)).mono (by omega) (by simp) : ThinO _ _ _ _ _ _) (b_drew (b_alloc ((((C2.out.setCell (p := ⟨gW, k, none⟩) (by show _ ≤ gW; omega) _).setCell (p := ⟨gP, p, none⟩) (by show _ ≤ gP; omega) _).setCell (by simp) _).setCell (by simp) _) _)))
            clear HY HOWF HAP O2 HWR hr hlow hlast p4 p5 HOP OP
            go_wp2_with (go_at_call 43; refine hcl.out.mono ?_; rintro e w' ⟨rfl, rfl⟩)
            have s1 := Lib.hid (show ((w2.setCell ⟨gW, k, none⟩ (.int .i64 p)).alloc (.cells #[.slice (some ⟨gW, 0, none⟩) W.length c2, .slice (some ⟨gP, 0, none⟩) P.length d2] 27)).drew.cell? ⟨w2.heap.size, 0, none⟩ = some (.slice (some ⟨gW, 0, none⟩) W.length c2) from (Blk.new (g := w2.heap.size) (by simp)).drew.cell 0)
            have s2 := Lib.hid (show ((w2.setCell ⟨gW, k, none⟩ (.int .i64 p)).alloc (.cells #[.slice (some ⟨gW, 0, none⟩) W.length c2, .slice (some ⟨gP, 0, none⟩) P.length d2] 27)).drew.cell? ⟨w2.heap.size, 1, none⟩ = some (.slice (some ⟨gP, 0, none⟩) P.length d2) from (Blk.new (g := w2.heap.size) (by simp)).drew.cell 1)
            have s3 := Lib.hid (show ((w2.setCell ⟨gW, k, none⟩ (.int .i64 p)).alloc (.cells #[.slice (some ⟨gW, 0, none⟩) W.length c2, .slice (some ⟨gP, 0, none⟩) P.length d2] 27)).drew.cell? ⟨gW, k, none⟩ = some (.int .i64 p) from by
              exact (World.cell?_alloc_some _ _ _ (by rw [World.cell?_setCell_same _ _ _ r4]; rfl)).trans (World.cell?_setCell_same _ _ _ r4))
            go_region_held3 (fun w' => w'.cell? ⟨w2.heap.size, 0, none⟩ = some (.slice (some ⟨gW, 0, none⟩) W.length c2) ∧ w'.cell? ⟨w2.heap.size, 1, none⟩ = some (.slice (some ⟨gP, 0, none⟩) P.length d2) ∧ w'.cell? ⟨gW, k, none⟩ = some (.int .i64 p)) (first | (refine ⟨?_, ?_, ?_⟩; (exact (Blk.new (g := w2.heap.size) (t := 27) (cs := #[.slice (some ⟨gW, 0, none⟩) W.length c2, .slice (some ⟨gP, 0, none⟩) P.length d2]) (w := (w2.setCell ⟨gW, k, none⟩ (.int .i64 p)).setCell ⟨gP, p, none⟩ (.int .i64 x)) (by simp)).drew.cell 0); (exact (Blk.new (g := w2.heap.size) (t := 27) (cs := #[.slice (some ⟨gW, 0, none⟩) W.length c2, .slice (some ⟨gP, 0, none⟩) P.length d2]) (w := (w2.setCell ⟨gW, k, none⟩ (.int .i64 p)).setCell ⟨gP, p, none⟩ (.int .i64 x)) (by simp)).drew.cell 1); exact cell_past r4 (by intro e; injection e with e; omega)) | (exact ⟨s1.out, s2.out, s3.out⟩) | go_keep) (fail)
            go_wp2
            exact bodyPost_ret (v := .tuple #[.agg #[.slice (some ⟨gW, 0, none⟩) W.length c2, .slice (some ⟨gP, 0, none⟩) P.length d2], .bool true]) (by simp [results, Try.results35, go_sem, y0, y1, zl2]) rfl F1.out
        · have hlt := hmem.out p (by simpa using hm)
          have hq2 := Lib.hid (show ∀ q, q < p + 1 → (q : Int) ∈ W from fun q h => by
            rcases Nat.lt_or_ge q p with h' | h'
            · exact hq.out q h'
            · obtain rfl : q = p := by omega
              simpa using hm)
          have hcl := Lib.hid (contains_any A c W (p : Int) _ HA2.out (by omega))
          rw [hm] at hcl
          clear hm hq HY HOWF HAP O2 HWR
          go_wp2_with (go_at_call 43; refine hcl.out.mono ?_; rintro e w' ⟨rfl, rfl⟩)
          go_round
          case rel => exact ⟨p + 1, by omega, by go_num, hq2⟩
          case measure => simp [intOf]; omega
end Go.Proofs.Ytjkbooflbfnbiaa
