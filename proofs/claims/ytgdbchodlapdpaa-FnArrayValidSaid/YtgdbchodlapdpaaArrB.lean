/- Contracts of RebuildDisk, the program's and the reference's. -/
import Derived.Test.YtgdbchodlapdpaaArrM
import Derived.Test.YtgdbchodlapdpaaArrR
import Derived.Test.YtgdbchodlapdpaaRowsA
import Derived.Test.YtgdbchodlapdpaaAppR
import Derived.Deep.RegionWith
import Derived.Deep.RegionHeld3
namespace Go.Proofs.Ytgdbchodlapdpaa
open Go.RowKit
set_option linter.unusedVariables false

def xorL (L : List (List Int)) (d : Nat) : List Int := (List.range (headN L)).map fun r => xorV L r d
theorem xorL_length (L : List (List Int)) (d : Nat) : (xorL L d).length = headN L := by simp [xorL]
def mixR (L : List (List Int)) (d k : Nat) : List Int := (xorL L d).take k ++ (L.getD d []).drop k
theorem getD_row {L : List (List Int)} {d : Nat} (h : d < L.length) : L.getD d [] = L[d] := by rw [List.getD_eq_getElem?_getD, List.getElem?_eq_getElem h]; rfl
theorem mixR_length {L : List (List Int)} {d k : Nat} (hd : d < L.length) (hr : L[d].length = headN L) (hk : k ≤ headN L) : (mixR L d k).length = headN L := by
  rw [mixR, List.length_append, List.length_take, xorL_length, List.length_drop, getD_row hd, hr]; omega
theorem mixR_set {L : List (List Int)} {d k : Nat} (hd : d < L.length) (hr : L[d].length = headN L) (hk : k < headN L) : (mixR L d k).set k (xorV L k d) = mixR L d (k + 1) := by
  have hl : ((xorL L d).take k).length = k := by rw [List.length_take, xorL_length]; omega
  have hg : (xorL L d)[k]'(by rw [xorL_length]; exact hk) = xorV L k d := by simp [xorL]
  unfold mixR
  rw [getD_row hd, List.set_append_right _ _ (by omega), hl, Nat.sub_self, List.drop_eq_getElem_cons (by omega), List.set_cons_zero, List.take_succ_eq_append_getElem (by rw [xorL_length]; exact hk), hg, List.append_assoc]
  rfl
theorem mixR_zero {L : List (List Int)} {d : Nat} (hd : d < L.length) : mixR L d 0 = L[d] := by
  unfold mixR
  rw [getD_row hd]
  simp
theorem mixR_end {L : List (List Int)} {d : Nat} (hd : d < L.length) (hr : L[d].length = headN L) : mixR L d (headN L) = xorL L d := by
  unfold mixR
  rw [List.take_of_length_le (by rw [xorL_length]; omega), getD_row hd, List.drop_of_length_le (by omega), List.append_nil]
def rebL (L : List (List Int)) (d : Nat) : List (List Int) := L.set d (xorL L d)
def rebV (L : List (List Int)) (disk : Int) : List (List Int) := if (arrB L && inB disk 0 ((L.length : Int) - 1)) = true then rebL L disk.toNat else []
theorem rebL_length (L : List (List Int)) (d : Nat) : (rebL L d).length = L.length := by simp [rebL]
theorem rows_nil {L : List (List Int)} {disk : Int} {w w' : World} (h : (arrB L && inB disk 0 ((L.length : Int) - 1)) = false) (hb : Below w.heap.size w w') : OwnRows (rebV L disk) w (.returned (.slice none 0 0)) w' := by
  have e : rebV L disk = [] := by simp [rebV, h]
  rw [e]
  exact ⟨none, 0, rfl, RowsO.nil _ _ _, hb⟩
theorem rowsO_lit {α : Type} {C : List α → List Value} {TT T : TypeId} {sz lo hi g : Nat} {w : World} (h : w.ownsRow lo TT 1 (.slice (some ⟨g, 0, none⟩) 0 0) 0 []) (hh : g < hi) : RowsO C TT T sz lo hi w (.slice (some ⟨g, 0, none⟩) 0 0) [] :=
  ⟨some ⟨g, 0, none⟩, 0, [], rfl, h, fun g' hg => by simp [Value.ownBlock] at hg; omega, ⟨rfl, fun i h => absurd h (by simp), fun i j a b _ h => by simp at h⟩, fun a h => by simp at h⟩

set_option maxHeartbeats 4000000 in
theorem implReb_any (A : Option Addr) (c : Nat) (L : List (List Int)) (disk : Int) (w : World) (h : RowsR CI w A L) (hl : L.length + sumN L ≤ 1048576) :
    Calls Try.prog 27 #[.slice A L.length c, .int .i64 disk] w (OwnRows (rebV L disk) w) := by
  go_enter Try.func27, Try.ntmps27
  go_wp2_with fail
  refine (implArr_any A c L w h (by omega)).mono ?_
  rintro e w1 ⟨rfl, b1⟩
  cases hv : arrB L
  · have hno := Lib.hid (rows_nil (disk := disk) (by rw [hv]; rfl) b1)
    clear hv b1
    go_wp2
    go_ret
    exact hno.out
  obtain ⟨n2, n6, hm, hrow⟩ := arr_parts hv
  cases hin : inB disk 0 ((L.length : Int) - 1)
  · have hno := Lib.hid (rows_nil (disk := disk) (by rw [hv, hin]; rfl) b1)
    clear hv b1
    go_wp2_with (go_at_call 40; refine (within_any _ _ _ _).mono ?_; rintro e w' ⟨rfl, rfl⟩)
    go_ret
    exact hno.out
  obtain ⟨d0, d1⟩ := inB_iff.1 hin
  obtain ⟨d, rfl⟩ := Int.eq_ofNat_of_zero_le d0
  have hdl : d < L.length := by omega
  have hrd := (hrow d hdl).1
  have hyes := Lib.hid (fun A c w' lo hi (ho : RowsI lo hi w' (.slice A L.length c) (L.set d (mixR L d (headN L)))) (h1 : w.heap.size ≤ lo) (h2 : hi ≤ w'.heap.size) (hb : Below w.heap.size w w') => show OwnRows (rebV L d) w (.returned (.slice A L.length c)) w' from by
    have e : rebV L d = rebL L d := by simp [rebV, hv, hin]
    rw [e]
    rw [mixR_end hdl hrd] at ho
    exact ⟨A, c, by rw [rebL_length], by rw [rebL_length]; exact ho.mono h1 h2, hb⟩)
  have HR := Lib.hid h
  have HX := Lib.hid (fun (w' : World) (r : Nat) (hr : r < headN L) (hb : Below w.heap.size w w') => implXor_any A c r d L w' (h.below hb) (by omega) (fun k hk => by rw [(hrow k hk).1]; exact hr))
  have B1 := Lib.hid b1
  have HIN := Lib.hid hin
  have hms := Lib.hid (fun k (hk : k < headN L) => mixR_set hdl hrd hk)
  have hml := Lib.hid (fun k (hk : k ≤ headN L) => mixR_length hdl hrd hk)
  have hm0 := mixR_zero hdl
  clear hv hrow b1 h hin
  go_wp2_with (go_at_call 40; refine (within_is HIN.out _).mono ?_; rintro e w' ⟨rfl, rfl⟩)
  refine (cloneRows_any A c L w1 (HR.out.below B1.out) hl).mono ?_
  rintro e w2 ⟨A2, c2, rfl, o2, b2⟩
  have O2 := Lib.hid (show RowsI w1.heap.size w2.heap.size w2 (.slice A2 L.length c2) (L.set d (mixR L d 0)) by rw [hm0, List.set_getElem_self]; exact o2)
  have B2 := Lib.hid (B1.out.trans (b2.mono B1.out.size))
  have Z1 := Lib.hid B1.out.size
  obtain ⟨g0, A3, c3, rfl, l0, l1, l2, x3, f3, _⟩ := o2.row d hdl
  rw [hrd] at x3
  have hg0 := Lib.hid (And.intro l0 l1)
  clear o2 b2 B1 hm0 l0 l1 f3
  obtain ⟨m, hme⟩ : ∃ m, m = headN L := ⟨_, rfl⟩
  rw [← hme] at x3 hm hyes HX hms hml hrd
  clear hme
  go_wp2
  clear x3
  go_loopw [25] (fun y wr => ∃ k : Nat, k ≤ m ∧ y = .int .i64 k ∧ Hid (RowsI w1.heap.size w2.heap.size wr (.slice (some ⟨g0, 0, none⟩) L.length c2) (L.set d (mixR L d k))) ∧ Hid (w2.heap.size ≤ wr.heap.size) ∧ Hid (Below w.heap.size w wr)) (fun y _ => m - (intOf y).toNat)
  case atStart => exact ⟨0, Nat.zero_le _, rfl, O2, Nat.le_refl _, B2⟩
  case round =>
    obtain ⟨k, hk, rfl, ho, hz, hb⟩ := hrel
    by_cases hlt : k < m
    · have hx := Lib.hid (HX.out wr.drew k hlt (b_drew hb.out))
      have hms2 := Lib.hid (hms.out k hlt)
      have hml2 := hml.out k hk
      have hsl : (L.set d (mixR L d k)).length = L.length := by simp
      have ho1 := ho.out
      rw [← hsl] at ho1
      obtain ⟨g0', A4, c4, e0, l0, l1, l2, x4, f4, r4, hblk⟩ := ho1.row d (by omega)
      obtain rfl : g0 = g0' := by injection e0 with e0; injection e0
      simp only [List.getElem_set_self] at x4 r4 hblk
      obtain ⟨x, hxe⟩ : ∃ x, x = xorV L k d := ⟨_, rfl⟩
      rw [← hxe] at hx hms2
      rcases own_cases r4 with ⟨_, h0⟩ | ⟨g4, cap, hv4, hb4, hg4⟩
      · omega
      · injection hv4 with hA4 _ hcap
        subst hA4 hcap
        have hgne := (hblk g4 rfl).2
        have hcell := r4.cellAt k (by omega)
        have hfr := r4.frozenAt k
        rw [List.getElem?_eq_getElem (by rw [List.length_map]; omega)] at hcell
        obtain ⟨u0, hu0⟩ : ∃ u, u = ((mixR L d k).map (Value.int .i64))[k]'(by rw [List.length_map]; omega) := ⟨_, rfl⟩
        change wr.cell? ⟨g4, k, none⟩ = some (((mixR L d k).map (Value.int .i64))[k]'_) at hcell
        rw [← hu0] at hcell
        have hnew := RowsO.setCell (C := CI) ho1.drew d (by omega) g4 c4 k (.int .i64 x) (mixR L d (k + 1)) (by simp only [List.getElem_set_self]; exact x4) (by simp only [List.getElem_set_self]; rw [hml2, hml.out (k + 1) hlt]) (by simp only [List.getElem_set_self]; rw [← hms2.out]; exact List.map_set)
        rw [List.set_set, hsl] at hnew
        have HN := Lib.hid hnew
        have HB := Lib.hid ((b_drew hb.out).setCell (p := ⟨g4, k, none⟩) (by have := Z1.out; show w.heap.size ≤ g4; omega) (.int .i64 x))
        have HZ := Lib.hid (show w2.heap.size ≤ (wr.drew.setCell ⟨g4, k, none⟩ (.int .i64 x)).heap.size by have := hz.out; simpa using this)
        rw [hml2] at x4
        clear hnew ho ho1 r4 hblk hu0 hz hb hms2 hxe
        go_wp2
        go_region_held3 (fun w' => w'.cell? ⟨g0, d, none⟩ = some (.slice (some ⟨g4, 0, none⟩) m c4)) (go_keep)
          (first | (go_at_call 46; refine hx.out.mono ?_; rintro e w' ⟨rfl, rfl⟩))
        all_goals
          go_wp2
          go_roundw
          case rel => exact ⟨k + 1, by omega, by go_num, HN, HZ, HB⟩
          case measure => simp [intOf]; omega
    · obtain rfl : k = m := by omega
      have hfin := Lib.hid (hyes.out _ _ wr _ _ ho.out Z1.out hz.out hb.out)
      clear ho hz hb hyes
      go_wp2
      go_ret
      exact hfin.out

theorem readc_nw {w : World} {T : TypeId} {cs : Array Value} {xs : List Value} (h : xs = cs.toList) : ReadC (w.alloc (.cells cs T)) (some ⟨w.heap.size, 0, none⟩) xs := by
  subst h
  intro h0
  refine ⟨w.heap.size, 0, rfl, fun i hi => ?_⟩
  rw [Nat.zero_add, cell_of_row _ _ _ _ _ _ (heap_alloc_new w _)]
  rw [Array.length_toList] at hi
  rw [Array.getElem?_eq_getElem hi, Array.getElem_toList]
theorem aints_one (l : List Int) : ∀ u ∈ l.map (Value.int .i64), u.oneCell' = true := by
  intro u hu
  simp only [List.mem_map] at hu
  obtain ⟨x, _, rfl⟩ := hu
  rfl
theorem info_i1 : (Try.prog.info? 3).map (fun i => (i.zero, i.size, i.bytes)) = some (some (.int .i64 0), 1, 8) := by kernel_rfl

set_option maxHeartbeats 4000000 in
theorem specReb_any (A : Option Addr) (c : Nat) (L : List (List Int)) (disk : Int) (w : World) (h : RowsR CI w A L) (hl : L.length + sumN L ≤ 1048576) :
    Calls Try.prog 26 #[.slice A L.length c, .int .i64 disk] w (OwnRows (rebV L disk) w) := by
  obtain ⟨i0, hi0, hz0, hz1, hz2⟩ := info_parts info_i1
  obtain ⟨i1, hi1, hy0, hy1, hy2⟩ := info_parts info_row
  have L0 := Lib.hid (World.ownsRow_lit (e := 30) (size := 1) (base := w.heap.size) w #[] 0 (Nat.le_refl _) (by simp [maxLen]) (by simp))
  have C0 := Lib.hid (b_alloc (Below.refl w.heap.size w) (.cells #[] 30))
  have hno := Lib.hid (fun w' (hf : (arrB L && inB disk 0 ((L.length : Int) - 1)) = false) (hb : Below (w.heap.size + 1) (w.alloc (.cells #[] 30)) w') => show OwnRows (rebV L disk) w (.returned (.slice (some ⟨w.heap.size, 0, none⟩) 0 0)) w' from by
    have e : rebV L disk = [] := by simp [rebV, hf]
    have hs := hb.size
    simp at hs
    rw [e]
    exact ⟨_, 0, rfl, rowsO_lit (own_below L0.out hb (by simp)) (by omega), C0.out.trans (hb.mono (by omega))⟩)
  have HR := Lib.hid h
  go_enter Try.func26, Try.ntmps26
  go_wp2_with fail
  refine (specArr_any A c L _ (h.alloc _) (by omega)).mono ?_
  rintro e w1 ⟨rfl, b1⟩
  rw [World.size_alloc] at b1
  cases hv : arrB L
  · have hn2 := Lib.hid (hno.out w1 (by rw [hv]; rfl) b1)
    clear hv b1
    go_wp2
    go_ret
    exact hn2.out
  obtain ⟨n2, n6, hm, hrow⟩ := arr_parts hv
  cases hin : inB disk 0 ((L.length : Int) - 1)
  · have hn2 := Lib.hid (hno.out w1 (by rw [hv, hin]; rfl) b1)
    clear hv b1
    go_wp2_with (go_at_call 37; refine (l1In_any _ _ _ _).mono ?_; rintro e w' ⟨rfl, rfl⟩)
    go_ret
    exact hn2.out
  obtain ⟨d0, d1⟩ := inB_iff.1 hin
  obtain ⟨d, rfl⟩ := Int.eq_ofNat_of_zero_le d0
  have hdl : d < L.length := by omega
  have hrd := (hrow d hdl).1
  have hyes := Lib.hid (fun A c w' (ho : RowsI w.heap.size w'.heap.size w' (.slice A (rebL L d).length c) (rebL L d)) (hb : Below w.heap.size w w') => show OwnRows (rebV L d) w (.returned (.slice A (rebL L d).length c)) w' from by
    have e : rebV L d = rebL L d := by simp [rebV, hv, hin]
    rw [e]
    exact ⟨A, c, rfl, ho, hb⟩)
  have HX := Lib.hid (fun (w' : World) (r : Nat) (hr : r < headN L) (hb : Below w.heap.size w w') => specXor_any A c r d L w' (h.below hb) (by omega) (fun k hk => by rw [(hrow k hk).1]; exact hr))
  have B1 := Lib.hid (C0.out.trans (b1.mono (by omega)))
  have O1 := Lib.hid (show RowsI w.heap.size w1.heap.size w1 (.slice (some ⟨w.heap.size, 0, none⟩) 0 0) [] from rowsO_lit (own_below L0.out b1 (by simp)) (by have := b1.size; simp at this; omega))
  have HIN := Lib.hid hin
  have hms := Lib.hid (fun k (hk : k < headN L) => mixR_set hdl hrd hk)
  have hml := Lib.hid (fun k (hk : k ≤ headN L) => mixR_length hdl hrd hk)
  have hm0 := Lib.hid (mixR_zero hdl)
  have hme := Lib.hid (mixR_end hdl hrd)
  have hrw := Lib.hid (fun k (hk : k < L.length) => (hrow k hk).1)
  have hsm := Lib.hid (fun k (hk : k < L.length) => sumN_get hk)
  clear hv hrow b1 h hin hno L0 C0 hrd
  go_wp2_with (go_at_call 37; refine (l1In_is HIN.out _).mono ?_; rintro e w' ⟨rfl, rfl⟩)
  go_loopw [5, 6] (fun x y wr => ∃ (k : Nat) (D : Option Addr) (cp : Nat) (R : List (List Int)), k ≤ L.length ∧ Hid (R.length = k) ∧ x = .slice D R.length cp ∧ y = .int .i64 k ∧ Hid (R = (rebL L d).take k) ∧ Hid (RowsI w.heap.size wr.heap.size wr (.slice D R.length cp) R) ∧ Hid (Below w.heap.size w wr)) (fun _ y _ => L.length - (intOf y).toNat)
  case atStart => exact ⟨0, _, _, [], Nat.zero_le _, rfl, rfl, rfl, by show [] = _; simp, O1, B1⟩
  case round =>
    obtain ⟨k, D, cp, R, hk, hRl, rfl, rfl, hRe, ho, hb⟩ := hrel
    by_cases hlt : k < L.length
    · have hstep := Lib.hid (show (rebL L d).take (k + 1) = R ++ [(rebL L d)[k]'(by rw [rebL_length]; exact hlt)] by rw [List.take_succ_eq_append_getElem (by rw [rebL_length]; exact hlt), hRe.out])
      obtain ⟨b, off, hA, hc⟩ := HR.out.below hb.out (by omega)
      obtain ⟨Ak, ck, x1, y1, _, _⟩ := hc k hlt
      have hn := hrw.out k hlt
      have hs0 := hsm.out k hlt
      obtain ⟨r0, hr0⟩ : ∃ r0, r0 = L[k] := ⟨_, rfl⟩
      rw [← hr0] at x1 y1 hn hs0
      have hz0' : w.heap.size ≤ wr.heap.size := hb.out.size
      have x1' : (wr.alloc (.cells #[] 3)).cell? ⟨b, off + k, none⟩ = some (.slice Ak r0.length ck) := by rw [World.cell?_alloc_some _ _ _ (by rw [x1]; rfl), x1]
      have L7 := Lib.hid (World.ownsRow_lit (e := 3) (size := 1) (base := wr.heap.size) wr #[] 0 (Nat.le_refl _) (by simp [maxLen]) (by simp))
      have Y7 := Lib.hid (y1.alloc (.cells #[] 3))
      have HR0 := Lib.hid hr0
      have Hn := Lib.hid hn
      clear hc y1 hr0 hn
      subst hA
      go_wp2_with (at_builtin; refine wpList_append_r _ rfl (.tmp 28) (.tmp 32) 30 rfl wr.heap.size 3 i0 (.int .i64 0) 1 8 Try.underlying30 hi0 hz0 hz1 hz2 rfl (by decide) _ 0 [] L7.out rfl Ak r0.length ck (r0.map (Value.int .i64)) Y7.out rfl (by simp) (aints_one r0) (by simp only [maxLen]; omega) (by omega) (by simp) ?_; intro v5 w5 o5 g5 n5; rw [Nat.zero_add] at o5; obtain ⟨A5, c5, rfl⟩ := own_slice o5)
      have B57 : Below wr.heap.size wr w5 := (b_alloc (Below.refl wr.heap.size wr) (.cells #[] 3)).grown g5 (by simp) (fun g hg => by simp [Value.ownBlock] at hg; omega)
      have OW := Lib.hid (show w5.ownsRow wr.heap.size 3 1 (.slice A5 r0.length c5) r0.length (r0.map (Value.int .i64)) by simpa using o5)
      have OR := Lib.hid (ho.out.below B57)
      have OB := Lib.hid (hb.out.trans (B57.mono hz0'))
      obtain ⟨z, hz⟩ : ∃ z, z = wr.heap.size := ⟨_, rfl⟩
      rw [← hz] at OW OR hz0'
      obtain ⟨n, hn'⟩ : ∃ n, n = r0.length := ⟨_, rfl⟩
      have hn := Hn.out
      have hnm : n = headN L := by omega
      rw [← hn'] at OW
      clear o5 g5 n5 B57 L7 Y7 ho hb x1 x1'
      have hzw : w.heap.size ≤ z := by omega
      by_cases hkd : k = d
      · subst hkd
        have e1 : ((k : Int) == (k : Int)) = true := by simp
        obtain ⟨r, hr⟩ : ∃ r, r = xorL L k := ⟨_, rfl⟩
        have hrn : r.length = n := by rw [hr, xorL_length]; omega
        have hre : (rebL L k)[k]'(by rw [rebL_length]; exact hlt) = r := by rw [hr]; simp [rebL]
        rw [hre] at hstep
        have OW0 := Lib.hid (show w5.ownsRow z 3 1 (.slice A5 n c5) n ((mixR L k 0).map (Value.int .i64)) by rw [hm0.out, ← HR0.out]; exact OW.out)
        have hend := Lib.hid (show mixR L k n = r by rw [hr, hnm]; exact hme.out)
        rw [← hn']
        clear OW hre hn hs0 hn' hr
        have hnm' := Lib.hid hnm
        have hn16 : n ≤ 16 := by omega
        clear hnm
        go_wp2
        go_loopw [8] (fun y wr => ∃ j : Nat, j ≤ n ∧ y = .int .i64 j ∧ Hid (wr.ownsRow z 3 1 (.slice A5 n c5) n ((mixR L k j).map (Value.int .i64))) ∧ Hid (RowsI w.heap.size z wr (.slice D R.length cp) R) ∧ Hid (Below w.heap.size w wr)) (fun y _ => n - (intOf y).toNat)
        case atStart => exact ⟨0, Nat.zero_le _, rfl, OW0, OR, OB⟩
        case round =>
          obtain ⟨j, hj, rfl, OW, OR, OB⟩ := hrel
          by_cases hjn : j < n
          · have hx := Lib.hid (HX.out wr j (by rw [← hnm'.out]; exact hjn) OB.out)
            have hms2 := Lib.hid (hms.out j (by rw [← hnm'.out]; exact hjn))
            have hml2 := hml.out j (by rw [← hnm'.out]; exact hj)
            obtain ⟨x, hxe⟩ : ∃ x, x = xorV L j k := ⟨_, rfl⟩
            rw [← hxe] at hx hms2
            rcases own_cases OW.out with ⟨_, h0⟩ | ⟨g4, cap, hv4, hb4, hg4⟩
            · omega
            · injection hv4 with hA4 _ hcap
              subst hA4 hcap
              have hcell := OW.out.cellAt j (by omega)
              have hfr := OW.out.frozenAt j
              rw [List.getElem?_eq_getElem (by rw [List.length_map, hml2]; have := hnm'.out; omega)] at hcell
              obtain ⟨u0, hu0⟩ : ∃ u, u = ((mixR L k j).map (Value.int .i64))[j]'(by rw [List.length_map, hml2]; have := hnm'.out; omega) := ⟨_, rfl⟩
              rw [← hu0] at hcell
              have OW2 := Lib.hid (show (wr.setCell ⟨g4, j, none⟩ (.int .i64 x)).ownsRow z 3 1 (.slice (some ⟨g4, 0, none⟩) n c5) n ((mixR L k (j + 1)).map (Value.int .i64)) by rw [← hms2.out, List.map_set]; exact (OW.out.stored j (.int .i64 x)).1)
              have OR2 := Lib.hid (OR.out.far (p := ⟨g4, j, none⟩) (.inr hb4) (.int .i64 x))
              have OB2 := Lib.hid (OB.out.setCell (p := ⟨g4, j, none⟩) (by show w.heap.size ≤ g4; omega) (.int .i64 x))
              clear OW OR OB hms2 hml2 hxe hu0
              go_wp2_with (go_at_call 45; refine hx.out.mono ?_; rintro e w' ⟨rfl, rfl⟩)
              go_roundw
              case rel => exact ⟨j + 1, by omega, by go_num, OW2, OR2, OB2⟩
              case measure => simp [intOf]; omega
          · have hje : j = n := by omega
            rw [hje, hend.out] at OW
            have hzw2 := hzw
            obtain ⟨Dx, cx, hs, ev, o1, v1, hH, hap⟩ := OR.out
            injection ev with ev1 _ ev3
            subst ev1 ev3
            have H1 := Lib.hid (o1.alloc (.cells #[.slice A5 n c5] 30))
            have HRD := Lib.hid (show ReadC (wr.alloc (.cells #[.slice A5 n c5] 30)) (some ⟨wr.heap.size, 0, none⟩) [.slice A5 n c5] from readc_nw rfl)
            have HV1 := Lib.hid v1
            have HH := Lib.hid (hH.keep (w' := wr.alloc (.cells #[.slice A5 n c5] 30)) (fun k _ _ hk => Below.heap_alloc wr _ k hk))
            have HAP := Lib.hid hap
            have HOW := Lib.hid (OW.out.alloc (.cells #[.slice A5 n c5] 30))
            have HOB := Lib.hid (b_alloc OB.out (.cells #[.slice A5 n c5] 30))
            have hbase := OB.out.size
            have hRk : R.length ≤ 6 := by have := hRl.out; omega
            clear o1 v1 hH hap OR OW OB
            go_wp2_with (at_builtin; refine wpList_append_r _ rfl (.tmp 52) (.tmp 54) 22 rfl w.heap.size 30 i1 (.slice none 0 0) 1 24 Try.underlying22 hi1 hy0 hy1 hy2 rfl (by decide) _ R.length hs H1.out rfl (some ⟨wr.heap.size, 0, none⟩) 1 1 [.slice A5 n c5] HRD.out rfl rfl (by intro u hu; simp at hu; subst hu; rfl) (by simp only [maxLen]; omega) (by omega) (by simp; omega) ?_; intro v4 w4 o4 g4 n4; obtain ⟨A4, c4, rfl⟩ := own_slice o4)
            have C4 := Lib.hid (HOB.out.grown g4 (by simp; omega) (fun g hg => (H1.out.lt g hg).1))
            have N4 := Lib.hid (RowsO.app (C := CI) (r := r) H1.out HV1.out HH.out HAP.out (by rw [hrn]; exact HOW.out) (Nat.le_refl _) hzw (by rw [hrn]; exact o4) g4 n4)
            clear o4 g4 n4 H1 HRD HV1 HH HAP HOW HOB
            go_roundw
            case rel => exact ⟨k + 1, A4, c4, R ++ [r], by omega, by have := hRl.out; show (R ++ [r]).length = k + 1; simp; omega, by simp, by go_num, by show R ++ [r] = _; rw [hstep.out], N4, C4⟩
            case measure => simp [intOf]; omega
      · have e1 : ((k : Int) == (d : Int)) = false := by simp; omega
        obtain ⟨r, hr⟩ : ∃ r, r = r0 := ⟨_, rfl⟩
        have hrn : r.length = n := by rw [hr, hn']
        have hre : (rebL L d)[k]'(by rw [rebL_length]; exact hlt) = r := by rw [hr, HR0.out]; simp [rebL]; rw [List.getElem_set_ne (fun e => hkd e.symm)]
        rw [hre] at hstep
        rw [← hr] at OW
        rw [← hn']
        have hn16 : n ≤ 16 := by omega
        clear hre hn hs0 hn' hr hnm
        go_wp2
        go_loopw [8] (fun y wr => y = .int .i64 0 ∧ Hid (wr.ownsRow z 3 1 (.slice A5 n c5) n (r.map (Value.int .i64))) ∧ Hid (RowsI w.heap.size z wr (.slice D R.length cp) R) ∧ Hid (Below w.heap.size w wr)) (fun y _ => n)
        case atStart => exact ⟨rfl, OW, OR, OB⟩
        case round =>
          obtain ⟨rfl, OW, OR, OB⟩ := hrel
          by_cases hn0 : 0 < n
          · obtain ⟨Dx, cx, hs, ev, o1, v1, hH, hap⟩ := OR.out
            injection ev with ev1 _ ev3
            subst ev1 ev3
            have H1 := Lib.hid (o1.alloc (.cells #[.slice A5 n c5] 30))
            have HRD := Lib.hid (show ReadC (wr.alloc (.cells #[.slice A5 n c5] 30)) (some ⟨wr.heap.size, 0, none⟩) [.slice A5 n c5] from readc_nw rfl)
            have HV1 := Lib.hid v1
            have HH := Lib.hid (hH.keep (w' := wr.alloc (.cells #[.slice A5 n c5] 30)) (fun k _ _ hk => Below.heap_alloc wr _ k hk))
            have HAP := Lib.hid hap
            have HOW := Lib.hid (OW.out.alloc (.cells #[.slice A5 n c5] 30))
            have HOB := Lib.hid (b_alloc OB.out (.cells #[.slice A5 n c5] 30))
            have hbase := OB.out.size
            have hRk : R.length ≤ 6 := by have := hRl.out; omega
            clear o1 v1 hH hap OR OW OB
            go_wp2_with (at_builtin; refine wpList_append_r _ rfl (.tmp 52) (.tmp 54) 22 rfl w.heap.size 30 i1 (.slice none 0 0) 1 24 Try.underlying22 hi1 hy0 hy1 hy2 rfl (by decide) _ R.length hs H1.out rfl (some ⟨wr.heap.size, 0, none⟩) 1 1 [.slice A5 n c5] HRD.out rfl rfl (by intro u hu; simp at hu; subst hu; rfl) (by simp only [maxLen]; omega) (by omega) (by simp; omega) ?_; intro v4 w4 o4 g4 n4; obtain ⟨A4, c4, rfl⟩ := own_slice o4)
            have C4 := Lib.hid (HOB.out.grown g4 (by simp; omega) (fun g hg => (H1.out.lt g hg).1))
            have N4 := Lib.hid (RowsO.app (C := CI) (r := r) H1.out HV1.out HH.out HAP.out (by rw [hrn]; exact HOW.out) (Nat.le_refl _) hzw (by rw [hrn]; exact o4) g4 n4)
            clear o4 g4 n4 H1 HRD HV1 HH HAP HOW HOB
            go_roundw
            case rel => exact ⟨k + 1, A4, c4, R ++ [r], by omega, by have := hRl.out; show (R ++ [r]).length = k + 1; simp; omega, by simp, by go_num, by show R ++ [r] = _; rw [hstep.out], N4, C4⟩
            case measure => simp [intOf]; omega
          · obtain ⟨Dx, cx, hs, ev, o1, v1, hH, hap⟩ := OR.out
            injection ev with ev1 _ ev3
            subst ev1 ev3
            have H1 := Lib.hid (o1.alloc (.cells #[.slice A5 n c5] 30))
            have HRD := Lib.hid (show ReadC (wr.alloc (.cells #[.slice A5 n c5] 30)) (some ⟨wr.heap.size, 0, none⟩) [.slice A5 n c5] from readc_nw rfl)
            have HV1 := Lib.hid v1
            have HH := Lib.hid (hH.keep (w' := wr.alloc (.cells #[.slice A5 n c5] 30)) (fun k _ _ hk => Below.heap_alloc wr _ k hk))
            have HAP := Lib.hid hap
            have HOW := Lib.hid (OW.out.alloc (.cells #[.slice A5 n c5] 30))
            have HOB := Lib.hid (b_alloc OB.out (.cells #[.slice A5 n c5] 30))
            have hbase := OB.out.size
            have hRk : R.length ≤ 6 := by have := hRl.out; omega
            clear o1 v1 hH hap OR OW OB
            go_wp2_with (at_builtin; refine wpList_append_r _ rfl (.tmp 52) (.tmp 54) 22 rfl w.heap.size 30 i1 (.slice none 0 0) 1 24 Try.underlying22 hi1 hy0 hy1 hy2 rfl (by decide) _ R.length hs H1.out rfl (some ⟨wr.heap.size, 0, none⟩) 1 1 [.slice A5 n c5] HRD.out rfl rfl (by intro u hu; simp at hu; subst hu; rfl) (by simp only [maxLen]; omega) (by omega) (by simp; omega) ?_; intro v4 w4 o4 g4 n4; obtain ⟨A4, c4, rfl⟩ := own_slice o4)
            have C4 := Lib.hid (HOB.out.grown g4 (by simp; omega) (fun g hg => (H1.out.lt g hg).1))
            have N4 := Lib.hid (RowsO.app (C := CI) (r := r) H1.out HV1.out HH.out HAP.out (by rw [hrn]; exact HOW.out) (Nat.le_refl _) hzw (by rw [hrn]; exact o4) g4 n4)
            clear o4 g4 n4 H1 HRD HV1 HH HAP HOW HOB
            go_roundw
            case rel => exact ⟨k + 1, A4, c4, R ++ [r], by omega, by have := hRl.out; show (R ++ [r]).length = k + 1; simp; omega, by simp, by go_num, by show R ++ [r] = _; rw [hstep.out], N4, C4⟩
            case measure => simp [intOf]; omega
    · have hRf : R = rebL L d := by rw [hRe.out, List.take_of_length_le (by rw [rebL_length]; omega)]
      have hfin := Lib.hid (hyes.out D cp wr (by rw [← hRf]; exact ho.out) hb.out)
      rw [hRf]
      clear ho hb hyes hRe
      go_wp2
      go_ret
      exact hfin.out
end Go.Proofs.Ytgdbchodlapdpaa
