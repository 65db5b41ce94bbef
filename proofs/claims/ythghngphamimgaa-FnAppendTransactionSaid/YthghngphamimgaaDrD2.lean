/- The draw of disks. -/
import Derived.Test.YthghngphamimgaaAppR
import Derived.Test.YthghngphamimgaaRd
import Derived.Test.YthghngphamimgaaOwn
namespace Go.Proofs.Ythghngphamimgaa
open Go.RowKit
set_option linter.unusedVariables false

theorem readc_newi {w : World} {cs : Array Value} {xs : List Value} (h : xs = cs.toList) : ReadC (w.alloc (.cells cs 3)) (some ⟨w.heap.size, 0, none⟩) xs := by
  subst h
  intro h0
  refine ⟨w.heap.size, 0, rfl, fun i hi => ?_⟩
  rw [Nat.zero_add, cell_of_row _ _ _ _ _ _ (heap_alloc_new w _)]
  rw [Array.length_toList] at hi
  rw [Array.getElem?_eq_getElem hi, Array.getElem_toList]
theorem dints_one (l : List Int) : ∀ u ∈ l.map (Value.int .i64), u.oneCell' = true := by
  intro u hu
  simp only [List.mem_map] at hu
  obtain ⟨x, _, rfl⟩ := hu
  rfl
theorem drowinfo_i : (Try.prog.info? 3).map (fun i => (i.zero, i.size, i.bytes)) = some (some (.int .i64 0), 1, 8) := by kernel_rfl
/-- The state of the draw: the reader rb, the disk R. -/
def DS (W : World) (rb Q : Nat) (D : Option Addr) (cp : Nat) (R : List Int) (w : World) : Prop :=
  RdAt w rb Q ∧ w.ownsRow W.heap.size 3 1 (.slice D R.length cp) R.length (R.map (Value.int .i64)) ∧ W.grownBy w (some rb) ∧ rb < W.heap.size
section
variable {W w w' : World} {rb Q Q' cp : Nat} {D : Option Addr} {R : List Int}
theorem DS.pick (h : DS W rb Q D cp R w) (hr : RdAt w' rb Q') (hg : w.grownBy w' (some rb)) : DS W rb Q' D cp R w' := by
  obtain ⟨a, c, e, f⟩ := h
  exact ⟨hr, own_block c (fun g hq => hg.block g (c.lt g hq).2 (fun e => by injection e with e; have := (c.lt g hq).1; omega)), gtrans e hg, f⟩
theorem DS.alloc (h : DS W rb Q D cp R w) (o : Obj) : DS W rb Q D cp R (w.alloc o) := by
  obtain ⟨a, c, e, f⟩ := h
  exact ⟨a.alloc o, c.alloc o, galloc e o, f⟩
theorem DS.app {A' : Option Addr} {c' m : Nat} {R' : List Int} (h : DS W rb Q D cp R w) (ho : w'.ownsRow W.heap.size 3 1 (.slice A' m c') m ((R ++ R').map (Value.int .i64))) (hm : m = (R ++ R').length)
    (hg : w.grownBy w' (Value.slice D R.length cp).ownBlock) : DS W rb Q A' c' (R ++ R') w' := by
  subst hm
  obtain ⟨a, c, e, f⟩ := h
  exact ⟨a.grown hg (fun k hk => by have := (c.lt k hk).1; omega), ho, ⟨hg.os.trans e.os, hg.tape.trans e.tape, hg.output.trans e.output, Nat.le_trans e.size hg.size, fun k hk hn' => (hg.block k (Nat.lt_of_lt_of_le hk e.size) (fun e' => by have := (c.lt k e'.symm).1; omega)).trans (e.block k hk hn')⟩, f⟩
theorem DS.store {g : Nat} (h : DS W rb Q (some ⟨g, 0, none⟩) cp R w) (t : Nat) (b : Int) : DS W rb Q (some ⟨g, 0, none⟩) cp (R.set t b) (w.setCell ⟨g, t, none⟩ (.int .i64 b)) := by
  obtain ⟨a, c, e, f⟩ := h
  have hge := (c.lt g rfl).1
  refine ⟨a.setCell (a := ⟨g, t, none⟩) (by show _ < g; omega) _, by rw [List.map_set, List.length_set]; exact (c.stored t (.int .i64 b)).1, ?_, f⟩
  exact ⟨e.os, e.tape, e.output, by simpa using e.size, fun k hk hn => (Below.heap_setCell w ⟨g, t, none⟩ _ k (by show k ≠ g; omega)).trans (e.block k hk hn)⟩
end
def DrawnD (rb : Nat) (W : World) (e : Ending) (w' : World) : Prop :=
  ∃ (A : Option Addr) (c : Nat) (d : List Int), e = .returned (.slice A d.length c) ∧ w'.ownsRow W.heap.size 3 1 (.slice A d.length c) d.length (d.map (Value.int .i64)) ∧ d.length ≤ 65 ∧ W.grownBy w' (some rb) ∧ ∃ Q, RdAt w' rb Q ∧ Q ≤ 199999999999
theorem DS.fin {W w : World} {rb Q cp : Nat} {D : Option Addr} {R : List Int} (h : DS W rb Q D cp R w) (hl : R.length ≤ 65) (hQ : Q ≤ 199999999999) : DrawnD rb W (.returned (.slice D R.length cp)) w :=
  ⟨D, cp, R, rfl, h.2.1, hl, h.2.2.1, Q, h.1, hQ⟩
theorem made65 : (madeCells #[Value.int .i64 0] 65).toList = (List.replicate 65 (0 : Int)).map (Value.int .i64) := by kernel_rfl

set_option maxHeartbeats 4000000 in
theorem l20Disk_any (rb P : Nat) (mx n : Int) (W : World) (h : RdAt W rb P) (hP : P ≤ 200000000000 - 200) (hmx : 0 ≤ mx ∧ mx ≤ 16) (hn : 0 ≤ n ∧ n ≤ 1000) :
    Calls Try.prog 51 #[.pointer (some ⟨rb, 0, none⟩), .int .i64 mx, .int .i64 n] W (DrawnD rb W) := by
  obtain ⟨i0, hi0, hz0, hz1, hz2⟩ := info_parts drowinfo_i
  have J0 := Lib.hid (show DS W rb P (some ⟨W.heap.size, 0, none⟩) 0 [] (W.alloc (.cells #[] 3)) from
    ⟨h.alloc _, World.ownsRow_lit (e := 3) (size := 1) (base := W.heap.size) W #[] 0 (Nat.le_refl _) (by simp [maxLen]) (by simp), World.grownBy_alloc W _ _, h.lt⟩)
  have hrb := h.lt
  clear h
  go_enter Try.func51, Try.ntmps51
  go_wp2_with fail
  refine (pick_in rb P _ _ J0.out.1 (by omega) (by omega)).mono ?_
  rintro e w1 ⟨x1, rfl, a1, a2, hr1, hg1, -⟩
  obtain ⟨k1, rfl⟩ := Int.eq_ofNat_of_zero_le a1
  have J1 := Lib.hid (J0.out.pick hr1 hg1)
  clear hr1 hg1 J0 a1
  go_wp2
  go_loopw [7, 8] (fun x y wr => ∃ (k : Nat) (D : Option Addr) (cp : Nat) (R : List Int) (Q : Nat), k ≤ 16 ∧ x = .slice D R.length cp ∧ y = .int .i64 k ∧ R.length + k ≤ 16 ∧ Q + 3 * k ≤ P + 49 ∧ Hid (DS W rb Q D cp R wr)) (fun _ y _ => (intOf y).toNat)
  case atStart => exact ⟨k1, _, _, [], P + 1, by omega, rfl, rfl, by simp; omega, by omega, J1⟩
  case round =>
    obtain ⟨k, D, cp, R, Q, hk, rfl, rfl, hRk, hQ, hJ⟩ := hrel
    by_cases hpos : 0 < k
    · go_wp2_with fail
      refine (pick_in rb Q _ _ hJ.out.1 (by omega) (by omega)).mono ?_
      rintro e w2 ⟨x2, rfl, -, -, hr2, hg2, -⟩
      have J2 := Lib.hid (hJ.out.pick hr2 hg2)
      clear hr2 hg2 hJ
      go_wp2_with fail
      refine (pick_in rb (Q + 1) _ _ J2.out.1 (by omega) (by omega)).mono ?_
      rintro e w3 ⟨x3, rfl, -, -, hr3, hg3, -⟩
      have J3 := Lib.hid (J2.out.pick hr3 hg3)
      clear hr3 hg3 J2
      have J3a := Lib.hid (J3.out.alloc (.cells #[.int .i64 0, .int .i64 1, .int .i64 x2, .int .i64 x3, .int .i64 255] 3))
      have hb3 := Lib.hid (heap_alloc_new w3 (.cells #[.int .i64 0, .int .i64 1, .int .i64 x2, .int .i64 x3, .int .i64 255] 3))
      have hne3 := Lib.hid (show w3.heap.size ≠ rb by have := J3.out.1.lt; omega)
      clear J3
      go_wp2_with fail
      refine (pick_in rb (Q + 1 + 1) _ _ J3a.out.1 (by omega) (by omega)).mono ?_
      rintro e w5 ⟨x5, rfl, a5, a6, hr5, hg5, -⟩
      have J5 := Lib.hid (J3a.out.pick hr5 hg5)
      obtain ⟨t, rfl⟩ := Int.eq_ofNat_of_zero_le a5
      obtain ⟨v, hv⟩ : ∃ v : Int, w5.cell? ⟨w3.heap.size, t, none⟩ = some (.int .i64 v) := by
        have hk := keepr hg5 hb3.out hne3.out t
        rw [hk]
        rcases (show t = 0 ∨ t = 1 ∨ t = 2 ∨ t = 3 ∨ t = 4 by omega) with rfl | rfl | rfl | rfl | rfl <;> exact ⟨_, rfl⟩
      clear hr5 hg5 J3a hb3 hne3 a5
      have J4 := Lib.hid (J5.out.alloc (.cells #[.int .i64 v] 3))
      have HRD := Lib.hid (readc_newi (w := w5) (cs := #[.int .i64 v]) (xs := [v].map (Value.int .i64)) rfl)
      clear J5
      go_wp2_with (at_builtin; refine wpList_append_r _ rfl (.tmp 18) (.tmp 28) 36 rfl W.heap.size 3 i0 (.int .i64 0) 1 8 Try.underlying36 hi0 hz0 hz1 hz2 rfl (by decide) _ R.length (R.map (Value.int .i64)) J4.out.2.1 rfl (some ⟨w5.heap.size, 0, none⟩) 1 1 ([v].map (Value.int .i64)) HRD.out rfl rfl (dints_one _) (by simp only [maxLen]; omega) (by omega) (by have := J4.out.2.2.1.size; omega) ?_; intro v4 w4 o4 g4 n4; obtain ⟨A4, c4, rfl⟩ := own_slice o4; have J6 := Lib.hid (J4.out.app (R' := [v]) (by rw [List.map_append]; exact o4) (by simp) g4); clear o4 g4 n4)
      clear J4 HRD hv
      go_roundw
      case rel => exact ⟨k - 1, A4, c4, R ++ [v], Q + 1 + 1 + 1, by omega, by simp, by go_num, by simp; omega, by omega, J6⟩
      case measure => simp [intOf]; omega
    · obtain rfl : k = 0 := by omega
      clear hi0 hz0 hz1 hz2
      go_wp2_with fail
      refine (odd_any rb Q n _ hJ.out.1 (by omega) (by omega)).mono ?_
      rintro e w2 ⟨x2, rfl, hr2, hg2, -⟩
      have J2 := Lib.hid (hJ.out.pick hr2 hg2)
      clear hr2 hg2 hJ
      have hmk : ∀ w : World, (Instr.makeSlice 36 (.int .i64 65) (.int .i64 65)).run Try.prog w = .ok (.slice (some ⟨w.heap.size, 0, none⟩) 65 65) (w.alloc (.cells (madeCells #[.int .i64 0] 65) 3)) := fun w =>
        make_rows (P := Try.prog) 36 3 (.int .i64 0) 1 8 Try.underlying36 drowinfo_i 65 (by omega) (by omega) w
      have hbent := Lib.hid (fun (w3 : World) (Q' : Nat) (D' : Option Addr) (cp' : Nat) (R' : List Int) (hQ' : Q' ≤ 199999999999) (J3 : DS W rb Q' D' cp' R' w3) => show DrawnD rb W (.returned (.slice (some ⟨w3.heap.size, 0, none⟩) 65 65)) (w3.alloc (.cells (madeCells #[.int .i64 0] 65) 3)) from by
        refine ⟨some ⟨w3.heap.size, 0, none⟩, 65, List.replicate 65 0, rfl, ?_, by simp, galloc J3.2.2.1 _, _, J3.1.alloc _, hQ'⟩
        rw [← made65]
        exact World.ownsRow_lit (e := 3) (size := 1) (base := W.heap.size) w3 (madeCells #[.int .i64 0] 65) 65 J3.2.2.1.size (by simp [maxLen]) (by simp [size_madeCells]))
      cases x2
      · have hfin := Lib.hid (J2.out.fin (by omega) (by omega))
        clear J2 hbent hmk
        go_wp2
        go_ret
        exact hfin.out
      · by_cases hR0 : R.length = 0
        · have hfin := Lib.hid (hbent.out w2 _ _ _ _ (by omega) J2.out)
          clear J2 hbent
          go_wp2
          go_ret
          exact hfin.out
        · have hRp : 0 < R.length := by omega
          clear hR0
          go_wp2_with fail
          refine (pick_in rb (Q + 1) _ _ J2.out.1 (by omega) (by omega)).mono ?_
          rintro e w3 ⟨x3, rfl, a3, a4, hr3, hg3, -⟩
          have J3 := Lib.hid (J2.out.pick hr3 hg3)
          clear hr3 hg3 J2
          have hc3 : x3 = 0 ∨ x3 = 1 := by omega
          clear a3 a4
          rcases hc3 with rfl | rfl
          · clear hbent hmk
            go_wp2_with fail
            refine (pick_in rb (Q + 1 + 1) _ _ J3.out.1 (by omega) (by omega)).mono ?_
            rintro e w4 ⟨x4, rfl, a3, a4, hr4, hg4, -⟩
            have J4 := Lib.hid (J3.out.pick hr4 hg4)
            obtain ⟨t, rfl⟩ := Int.eq_ofNat_of_zero_le a3
            clear hr4 hg4 J3 a3
            have J4a := Lib.hid (J4.out.alloc (.cells #[.int .i64 (-1), .int .i64 256] 3))
            have hb4 := Lib.hid (heap_alloc_new w4 (.cells #[.int .i64 (-1), .int .i64 256] 3))
            have hne4 := Lib.hid (show w4.heap.size ≠ rb by have := J4.out.1.lt; omega)
            clear J4
            go_wp2_with fail
            refine (pick_in rb (Q + 1 + 1 + 1) _ _ J4a.out.1 (by omega) (by omega)).mono ?_
            rintro e w5 ⟨x5, rfl, a5, a6, hr5, hg5, -⟩
            have J5 := Lib.hid (J4a.out.pick hr5 hg5)
            obtain ⟨s, rfl⟩ := Int.eq_ofNat_of_zero_le a5
            obtain ⟨v, hv⟩ : ∃ v : Int, w5.cell? ⟨w4.heap.size, s, none⟩ = some (.int .i64 v) := by
              have hk := keepr hg5 hb4.out hne4.out s
              rw [hk]
              rcases (show s = 0 ∨ s = 1 by omega) with rfl | rfl <;> exact ⟨_, rfl⟩
            clear hr5 hg5 J4a hb4 hne4 a5
            rcases own_cases J5.out.2.1 with ⟨_, h0⟩ | ⟨g, cap, hD, _, _⟩
            · omega
            · injection hD with hD _ hcap
              subst hD hcap
              have hcell := J5.out.2.1.cellAt t (by omega)
              have hfr := J5.out.2.1.frozenAt t
              rw [List.getElem?_eq_getElem (by rw [List.length_map]; omega)] at hcell
              have J6 := Lib.hid (J5.out.store t v)
              have hfin := Lib.hid (J6.out.fin (by simp; omega) (by omega))
              rw [List.length_set] at hfin
              obtain ⟨u0, hu0⟩ : ∃ u, u = (R.map (Value.int .i64))[t]'(by rw [List.length_map]; omega) := ⟨_, rfl⟩
              rw [← hu0] at hcell
              clear J5 J6 hu0
              go_wp2
              go_ret
              exact hfin.out
          · have hfin := Lib.hid (hbent.out w3 _ _ _ _ (by omega) J3.out)
            clear J3 hbent
            go_wp2
            go_ret
            exact hfin.out
end Go.Proofs.Ythghngphamimgaa
