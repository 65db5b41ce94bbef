/- Contracts of AppendTransaction, the program's and the reference's. -/
import Derived.Test.YthghngphamimgaaRecC
import Derived.Test.YthghngphamimgaaCloneR
import Derived.Test.YthghngphamimgaaAppR
namespace Go.Proofs.Ythghngphamimgaa
open Go.RowKit
set_option linter.unusedVariables false

/-- A row of the call's own with the records l. -/
def OwnRs (l : List Rc) (W : World) (e : Ending) (w' : World) : Prop :=
  ∃ A c, e = .returned (.slice A l.length c) ∧ w'.ownsRow W.heap.size 33 4 (.slice A l.length c) l.length (recC l) ∧ Below W.heap.size W w'
theorem RecsIn.read {w : World} {A : Option Addr} {l : List Rc} (h : RecsIn w A l) : ReadC w A (recC l) := by
  intro h0
  have hl := recC_length l
  obtain ⟨b, off, e, hc⟩ := h (by omega)
  refine ⟨b, off, e, fun j hj => ?_⟩
  obtain ⟨i, r, rfl, hr⟩ : ∃ i r, j = i * 4 + r ∧ r < 4 := ⟨j / 4, j % 4, by omega, by omega⟩
  have hi : i < l.length := by omega
  obtain ⟨c1, c2, c3, c4⟩ := hc i hi
  obtain ⟨g1, g2, g3, g4⟩ := recC_get l i hi
  have key : ∀ (j : Nat) (hj : j < (recC l).length) (v : Value), (recC l)[j]? = some v → (recC l)[j] = v := by
    intro j hj v h
    rw [List.getElem?_eq_getElem hj] at h
    injection h
  rcases (show r = 0 ∨ r = 1 ∨ r = 2 ∨ r = 3 by omega) with rfl | rfl | rfl | rfl
  · rw [key (i * 4 + 0) hj _ g1]; exact c1
  · rw [key _ _ _ g2, ← Nat.add_assoc]; exact c2
  · rw [key _ _ _ g3, ← Nat.add_assoc]; exact c3
  · rw [key _ _ _ g4, ← Nat.add_assoc]; exact c4
theorem own_rs_nil {l : List Rc} {n a : Int} {vs : List Int} {w w' : World} (he : appV l n a vs = []) (hb : Below w.heap.size w w') : OwnRs (appV l n a vs) w (.returned (.slice none 0 0)) w' := by
  rw [he]
  exact ⟨none, 0, rfl, World.ownsRow_nil _ _ _ _, hb⟩
theorem own_rs_lit {l : List Rc} {n a : Int} {vs : List Int} {w w' : World} {A : Option Addr} {c : Nat} (he : appV l n a vs = []) (ho : w'.ownsRow w.heap.size 33 4 (.slice A 0 c) 0 []) (hb : Below w.heap.size w w') : OwnRs (appV l n a vs) w (.returned (.slice A 0 c)) w' := by
  rw [he]
  exact ⟨A, c, rfl, ho, hb⟩
def RowR (w : World) (base : Nat) (A : Option Addr) (c : Nat) (l : List Rc) : Prop := w.ownsRow base 33 4 (.slice A l.length c) l.length (recC l)
theorem news4 {w : World} {f q z : Int} {o : Bool} : ∀ j u, (recC [(f, o, q, z)])[j]? = some u → (w.alloc (.cells #[.int .i64 f, .bool o, .int .i64 q, .int .i64 z] 33)).cell? ((⟨w.heap.size, 0, none⟩ : Addr).add j) = some u := by
  intro j u hu
  exact news_at (w := w) (T := 33) (cs := #[.int .i64 f, .bool o, .int .i64 q, .int .i64 z]) j u (by simpa [recC] using hu)

set_option maxHeartbeats 4000000 in
theorem implApp_any (A B : Option Addr) (ca cb : Nat) (l : List Rc) (n a : Int) (vs : List Int) (w : World) (h : RecsIn w A l) (hvs : ReadC w B (vs.map (Value.int .i64))) (hl : l.length ≤ 100000000) (hvl : vs.length ≤ 100000000) (hc1 : l.length ≤ ca) (hc2 : ca ≤ 9223372036854775807) :
    Calls Try.prog 29 #[.slice A l.length ca, .int .i64 n, .int .i64 a, .slice B vs.length cb] w (OwnRs (appV l n a vs) w) := by
  cases hj : jrB l 64
  · have hno := Lib.hid (fun w' hb => own_rs_nil (w := w) (w' := w') (appV_no (n := n) (a := a) (vs := vs) (.inl hj)) hb)
    go_enter Try.func29, Try.ntmps29
    go_wp2_with fail
    refine (implJr_any A ca l 64 w h (by omega) hc1 hc2).mono ?_
    rintro e w1 ⟨rfl, b1⟩
    rw [hj]
    clear hj
    go_wp2
    go_ret
    exact hno.out _ b1
  cases ha : inB a 0 64
  · have hno := Lib.hid (fun w' hb => own_rs_nil (w := w) (w' := w') (appV_no (l := l) (n := n) (a := a) (vs := vs) (.inr (.inl ha))) hb)
    go_enter Try.func29, Try.ntmps29
    go_wp2_with fail
    refine (implJr_any A ca l 64 w h (by omega) hc1 hc2).mono ?_
    rintro e w1 ⟨rfl, b1⟩
    rw [hj]
    go_wp2_with (go_at_call 39; refine (within_is ha _).mono ?_; rintro e w' ⟨rfl, rfl⟩)
    go_ret
    exact hno.out _ b1
  by_cases hv : 40 < vs.length
  · have hno := Lib.hid (fun w' hb => own_rs_nil (w := w) (w' := w') (appV_no (l := l) (n := n) (a := a) (vs := vs) (.inr (.inr hv))) hb)
    go_enter Try.func29, Try.ntmps29
    go_wp2_with fail
    refine (implJr_any A ca l 64 w h (by omega) hc1 hc2).mono ?_
    rintro e w1 ⟨rfl, b1⟩
    rw [hj]
    go_wp2_with (go_at_call 39; refine (within_is ha _).mono ?_; rintro e w' ⟨rfl, rfl⟩)
    go_ret
    exact hno.out _ b1
  obtain ⟨a0, a1⟩ := inB_iff.1 ha
  obtain ⟨i0, hi0, hz0, hz1, hz2⟩ := info_parts rowinfo_records
  have hyes := Lib.hid (fun A c w' (hv : jrB (appL l n a vs) 64 = true) (ho : RowR w' w.heap.size A c (appL l n a vs)) (hb : Below w.heap.size w w') => show OwnRs (appV l n a vs) w (.returned (.slice A (appL l n a vs).length c)) w' from by
    have e : appV l n a vs = appL l n a vs := by simp [appV, ha, hv]
    rw [e]; exact ⟨A, c, rfl, ho, hb⟩)
  have hno := Lib.hid (fun w' (hv : jrB (appL l n a vs) 64 = false) hb => own_rs_nil (w := w) (w' := w') (l := l) (n := n) (a := a) (vs := vs) (by simp [appV, hv]) hb)
  have HV := Lib.hid hvs
  have HR := Lib.hid h
  go_enter Try.func29, Try.ntmps29
  go_wp2_with fail
  refine (implJr_any A ca l 64 w h (by omega) hc1 hc2).mono ?_
  rintro e w1 ⟨rfl, b1⟩
  rw [hj]
  have HA := Lib.hid ha
  have B1 := Lib.hid b1
  clear hvs h hj b1
  go_wp2_with (go_at_call 39; refine (within_is HA.out _).mono ?_; rintro e w' ⟨rfl, rfl⟩)
  refine (clone_records A l.length ca _ w1 (HR.out.below B1.out).read (by rw [recC_length]; omega) (recC_one l) (by omega)).mono ?_
  rintro e w2 ⟨v2, rfl, o2, b2⟩
  obtain ⟨A2, c2, rfl⟩ := own_slice o2
  have O2 := Lib.hid (show RowR w2 w.heap.size A2 c2 l from own_mono o2 B1.out.size)
  have B2 := Lib.hid (B1.out.trans (b2.mono B1.out.size))
  clear o2 b2 B1 HA ha
  go_wp2
  go_loopw [9, 29] (fun x y wr => ∃ (k : Nat) (D : Option Addr) (cp : Nat) (R : List Rc), k ≤ vs.length ∧ x = .slice D R.length cp ∧ y = .int .i64 k ∧ R.length ≤ 100000000 + k ∧ Hid (l ++ recsOf n a (vs.take k) = R) ∧ Hid (RowR wr w.heap.size D cp R) ∧ Hid (Below w.heap.size w wr)) (fun _ y _ => vs.length - (intOf y).toNat)
  case atStart => exact ⟨0, A2, c2, l, Nat.zero_le _, rfl, rfl, by omega, by show l ++ recsOf n a (vs.take 0) = l; simp [recsOf], O2, B2⟩
  case round =>
    obtain ⟨k, D, cp, R, hk, rfl, rfl, hR, he, ho, hb⟩ := hrel
    have HBS := Lib.hid ho.out.lt
    have Hz := Lib.hid hb.out.size
    by_cases hlt : k < vs.length
    · obtain ⟨b, off, rfl, hc⟩ := (IntsIn.of HV.out).below hb.out (by omega)
      have c1 := hc k hlt
      have hs := recsOf_step (n := n) (a := a) hlt
      clear hc
      obtain ⟨z, hz⟩ : ∃ z, z = vs[k] := ⟨_, rfl⟩
      rw [← hz] at c1 hs
      clear hz
      have Hs := Lib.hid (show l ++ recsOf n a (vs.take (k + 1)) = R ++ [(n, false, a + k, z)] by rw [hs, ← List.append_assoc, he.out])
      have H3 := Lib.hid (show World.ownsRow _ _ _ _ _ _ _ from ho.out.alloc (.cells #[.int .i64 n, .bool false, .int .i64 (a + k), .int .i64 z] 33))
      have Hb := Lib.hid (b_alloc hb.out (.cells #[.int .i64 n, .bool false, .int .i64 (a + k), .int .i64 z] 33))
      clear hs he ho hb
      go_wp2_with (at_builtin; refine wpList_append_own _ rfl (.tmp 34) (.tmp 41) 25 rfl w.heap.size 33 i0 (.agg #[.int .i64 0, .bool false, .int .i64 0, .int .i64 0]) 4 32 Try.underlying25 hi0 hz0 hz1 hz2 rfl (by decide) _ R.length (recC R) rfl H3.out ⟨wr.heap.size, 0, none⟩ 1 1 (recC [(n, false, a + k, z)]) rfl rfl news4 (recC_one _) (by simp only [maxLen]; omega) (by omega) (by have := Hz.out; simp; omega) ?_; intro v4 w4 hown4 hg4 hnil4; obtain ⟨g4, cap4, rfl⟩ := own_shape hown4)
      have C4 := Lib.hid (Hb.out.grown hg4 (by have := Hz.out; simp; omega) (fun g hg => by have := (HBS.out g hg).1; omega))
      have O4 := Lib.hid (show RowR _ w.heap.size (some ⟨g4, 0, none⟩) cap4 (R ++ [(n, false, a + k, z)]) by unfold RowR; rw [recC_append, List.length_append, List.length_singleton]; exact hown4)
      clear hown4 hg4 hnil4 H3 Hb HBS hi0 hz0 hz1 hz2
      go_roundw
      case rel => exact ⟨k + 1, _, cap4, R ++ [(n, false, a + k, z)], by omega, by simp, by go_num, by simp; omega, Hs, O4, C4⟩
      case measure => simp [intOf]; omega
    · have hfin := Lib.hid (show R ++ [(n, true, 0, 0)] = appL l n a vs from by have hh := he.out; rw [List.take_of_length_le (by omega)] at hh; rw [appL, hh])
      have H3 := Lib.hid (show World.ownsRow _ _ _ _ _ _ _ from ho.out.alloc (.cells #[.int .i64 n, .bool true, .int .i64 0, .int .i64 0] 33))
      have Hb := Lib.hid (b_alloc hb.out (.cells #[.int .i64 n, .bool true, .int .i64 0, .int .i64 0] 33))
      clear he ho hb
      go_wp2_with (at_builtin; refine wpList_append_own _ rfl (.tmp 44) (.tmp 47) 25 rfl w.heap.size 33 i0 (.agg #[.int .i64 0, .bool false, .int .i64 0, .int .i64 0]) 4 32 Try.underlying25 hi0 hz0 hz1 hz2 rfl (by decide) _ R.length (recC R) rfl H3.out ⟨wr.heap.size, 0, none⟩ 1 1 (recC [(n, true, 0, 0)]) rfl rfl news4 (recC_one _) (by simp only [maxLen]; omega) (by omega) (by have := Hz.out; simp; omega) ?_; intro v4 w4 hown4 hg4 hnil4; obtain ⟨g4, cap4, rfl⟩ := own_shape hown4)
      have C4 := Lib.hid (Hb.out.grown hg4 (by have := Hz.out; simp; omega) (fun g hg => by have := (HBS.out g hg).1; omega))
      have O4 := Lib.hid (show RowR _ w.heap.size (some ⟨g4, 0, none⟩) cap4 (R ++ [(n, true, 0, 0)]) by unfold RowR; rw [recC_append, List.length_append, List.length_singleton]; exact hown4)
      have hRl : R.length + 1 = (R ++ [(n, true, 0, 0)]).length := by simp
      rw [hRl]
      obtain ⟨S, hS⟩ : ∃ S, S = R ++ [(n, true, 0, 0)] := ⟨_, rfl⟩
      have hSl : S.length ≤ 100000000 + vs.length + 1 := by rw [hS]; simp; omega
      rw [← hS] at O4 hfin ⊢
      rw [← hfin.out] at hyes hno
      clear hown4 hg4 hnil4 H3 Hb HBS hi0 hz0 hz1 hz2 hRl hS hfin
      go_wp2_with fail
      refine (implJr_any _ cap4 S 64 _ (RecsIn.of (own_read O4.out)) (by omega) (own_cap O4.out).1 (own_cap O4.out).2).mono ?_
      rintro e w5 ⟨rfl, b5⟩
      have C5 := C4.out.trans (b5.mono C4.out.size)
      have O5 := own_below O4.out b5 (Nat.le_refl _)
      cases hjj : jrB S 64
      · have hn2 := Lib.hid (hno.out w5 hjj C5)
        clear hyes hno C5 O5 b5 hjj
        go_wp2
        go_ret
        exact hn2.out
      · have hn2 := Lib.hid (hyes.out _ _ w5 hjj O5 C5)
        clear hyes hno C5 O5 b5 hjj
        go_wp2
        go_ret
        exact hn2.out

set_option maxHeartbeats 4000000 in
theorem specApp_any (A B : Option Addr) (ca cb : Nat) (l : List Rc) (n a : Int) (vs : List Int) (w : World) (h : RecsIn w A l) (hvs : ReadC w B (vs.map (Value.int .i64))) (hl : l.length ≤ 100000000) (hvl : vs.length ≤ 100000000) (hc1 : l.length ≤ ca) (hc2 : ca ≤ 9223372036854775807) :
    Calls Try.prog 27 #[.slice A l.length ca, .int .i64 n, .int .i64 a, .slice B vs.length cb] w (OwnRs (appV l n a vs) w) := by
  have L0 := Lib.hid (World.ownsRow_lit (e := 33) (size := 4) (base := w.heap.size) w #[] 0 (Nat.le_refl _) (by simp [maxLen]) (by simp))
  have B0 := Lib.hid (b_alloc (Below.refl w.heap.size w) (.cells #[] 33))
  have hlit := Lib.hid (fun (he : appV l n a vs = []) => own_rs_lit (w := w) he L0.out B0.out)
  by_cases hl4 : l.length ≤ 40
  case neg =>
    have hno := Lib.hid (hlit.out (appV_no (.inl (by
      cases hj : jrB l 64
      · rfl
      · have := (jr_parts hj).1; omega))))
    go_enter Try.func27, Try.ntmps27
    go_wp2
    go_ret
    exact hno.out
  by_cases hv : 64 < vs.length
  · have hno := Lib.hid (hlit.out (appV_no (l := l) (n := n) (a := a) (vs := vs) (.inr (.inr (by omega)))))
    go_enter Try.func27, Try.ntmps27
    go_wp2
    go_ret
    exact hno.out
  cases ha : inB a 0 64
  · have hno := Lib.hid (hlit.out (appV_no (l := l) (n := n) (a := a) (vs := vs) (.inr (.inl ha))))
    go_enter Try.func27, Try.ntmps27
    go_wp2_with (go_at_call 37; refine (l1In_is ha _).mono ?_; rintro e w' ⟨rfl, rfl⟩)
    go_ret
    exact hno.out
  obtain ⟨a0, a1⟩ := inB_iff.1 ha
  obtain ⟨i0, hi0, hz0, hz1, hz2⟩ := info_parts rowinfo_records
  have hyes := Lib.hid (fun A c w' (hv : jrB (appL l n a vs) 64 = true) (ho : RowR w' w.heap.size A c (appL l n a vs)) (hb : Below w.heap.size w w') => show OwnRs (appV l n a vs) w (.returned (.slice A (appL l n a vs).length c)) w' from by
    have e : appV l n a vs = appL l n a vs := by simp [appV, ha, hv]
    rw [e]; exact ⟨A, c, rfl, ho, hb⟩)
  have hno := Lib.hid (fun (w' : World) (hv : jrB (appL l n a vs) 64 = false) (hb : Below w.heap.size w w') => show OwnRs (appV l n a vs) w (.returned (.slice (some ⟨w'.heap.size, 0, none⟩) 0 0)) (w'.alloc (.cells #[] 33)) from
    own_rs_lit (w := w) (l := l) (n := n) (a := a) (vs := vs) (by simp [appV, hv]) (World.ownsRow_lit (e := 33) (size := 4) (base := w.heap.size) w' #[] 0 hb.size (by simp [maxLen]) (by simp)) (b_alloc hb _))
  have HV := Lib.hid hvs
  have HR := Lib.hid h
  have RD := Lib.hid (h.read.alloc (.cells #[] 33))
  have HA := Lib.hid ha
  clear hvs h ha hlit
  go_enter Try.func27, Try.ntmps27
  go_wp2_with (first
    | (go_at_call 37; refine (l1In_is HA.out _).mono ?_; rintro e w' ⟨rfl, rfl⟩)
    | (at_builtin; refine wpList_append_r _ rfl (.tmp 26) (.tmp 27) 25 rfl w.heap.size 33 i0 (.agg #[.int .i64 0, .bool false, .int .i64 0, .int .i64 0]) 4 32 Try.underlying25 hi0 hz0 hz1 hz2 rfl (by decide) _ 0 [] L0.out rfl A l.length ca (recC l) RD.out rfl (by rw [recC_length]; omega) (recC_one l) (by simp only [maxLen]; omega) (by omega) (by simp) ?_; intro v2 w2 o2 g2 n2; rw [Nat.zero_add] at o2; obtain ⟨A2, c2, rfl⟩ := own_slice o2))
  have O2 := Lib.hid (show RowR w2 w.heap.size A2 c2 l from by unfold RowR; simpa using o2)
  have B2 := Lib.hid (B0.out.grown g2 (by simp) (fun g hg => by simp [Value.ownBlock] at hg; omega))
  clear o2 g2 n2 HA RD L0 B0
  go_loopw [9, 10] (fun x y wr => ∃ (k : Nat) (D : Option Addr) (cp : Nat) (R : List Rc), k ≤ vs.length ∧ x = .slice D R.length cp ∧ y = .int .i64 k ∧ R.length ≤ 100000000 + k ∧ Hid (l ++ recsOf n a (vs.take k) = R) ∧ Hid (RowR wr w.heap.size D cp R) ∧ Hid (Below w.heap.size w wr)) (fun _ y _ => vs.length - (intOf y).toNat)
  case atStart => exact ⟨0, A2, c2, l, Nat.zero_le _, rfl, rfl, by omega, by show l ++ recsOf n a (vs.take 0) = l; simp [recsOf], O2, B2⟩
  case round =>
    obtain ⟨k, D, cp, R, hk, rfl, rfl, hR, he, ho, hb⟩ := hrel
    have HBS := Lib.hid ho.out.lt
    have Hz := Lib.hid hb.out.size
    by_cases hlt : k < vs.length
    · obtain ⟨b, off, rfl, hc⟩ := (IntsIn.of HV.out).below hb.out (by omega)
      have c1 := hc k hlt
      have hs := recsOf_step (n := n) (a := a) hlt
      clear hc
      obtain ⟨z, hz⟩ : ∃ z, z = vs[k] := ⟨_, rfl⟩
      rw [← hz] at c1 hs
      clear hz
      have Hs := Lib.hid (show l ++ recsOf n a (vs.take (k + 1)) = R ++ [(n, false, a + k, z)] by rw [hs, ← List.append_assoc, he.out])
      have H3 := Lib.hid (show World.ownsRow _ _ _ _ _ _ _ from ho.out.alloc (.cells #[.int .i64 n, .bool false, .int .i64 (a + k), .int .i64 z] 33))
      have Hb := Lib.hid (b_alloc hb.out (.cells #[.int .i64 n, .bool false, .int .i64 (a + k), .int .i64 z] 33))
      clear hs he ho hb
      go_wp2_with (at_builtin; refine wpList_append_own _ rfl (.tmp 35) (.tmp 45) 25 rfl w.heap.size 33 i0 (.agg #[.int .i64 0, .bool false, .int .i64 0, .int .i64 0]) 4 32 Try.underlying25 hi0 hz0 hz1 hz2 rfl (by decide) _ R.length (recC R) rfl H3.out ⟨wr.heap.size, 0, none⟩ 1 1 (recC [(n, false, a + k, z)]) rfl rfl news4 (recC_one _) (by simp only [maxLen]; omega) (by omega) (by have := Hz.out; simp; omega) ?_; intro v4 w4 hown4 hg4 hnil4; obtain ⟨g4, cap4, rfl⟩ := own_shape hown4)
      have C4 := Lib.hid (Hb.out.grown hg4 (by have := Hz.out; simp; omega) (fun g hg => by have := (HBS.out g hg).1; omega))
      have O4 := Lib.hid (show RowR _ w.heap.size (some ⟨g4, 0, none⟩) cap4 (R ++ [(n, false, a + k, z)]) by unfold RowR; rw [recC_append, List.length_append, List.length_singleton]; exact hown4)
      clear hown4 hg4 hnil4 H3 Hb HBS hi0 hz0 hz1 hz2
      go_roundw
      case rel => exact ⟨k + 1, _, cap4, R ++ [(n, false, a + k, z)], by omega, by simp, by go_num, by simp; omega, Hs, O4, C4⟩
      case measure => simp [intOf]; omega
    · have hfin := Lib.hid (show R ++ [(n, true, 0, 0)] = appL l n a vs from by have hh := he.out; rw [List.take_of_length_le (by omega)] at hh; rw [appL, hh])
      have H3 := Lib.hid (show World.ownsRow _ _ _ _ _ _ _ from ho.out.alloc (.cells #[.int .i64 n, .bool true, .int .i64 0, .int .i64 0] 33))
      have Hb := Lib.hid (b_alloc hb.out (.cells #[.int .i64 n, .bool true, .int .i64 0, .int .i64 0] 33))
      clear he ho hb
      go_wp2_with (at_builtin; refine wpList_append_own _ rfl (.tmp 47) (.tmp 50) 25 rfl w.heap.size 33 i0 (.agg #[.int .i64 0, .bool false, .int .i64 0, .int .i64 0]) 4 32 Try.underlying25 hi0 hz0 hz1 hz2 rfl (by decide) _ R.length (recC R) rfl H3.out ⟨wr.heap.size, 0, none⟩ 1 1 (recC [(n, true, 0, 0)]) rfl rfl news4 (recC_one _) (by simp only [maxLen]; omega) (by omega) (by have := Hz.out; simp; omega) ?_; intro v4 w4 hown4 hg4 hnil4; obtain ⟨g4, cap4, rfl⟩ := own_shape hown4)
      have C4 := Lib.hid (Hb.out.grown hg4 (by have := Hz.out; simp; omega) (fun g hg => by have := (HBS.out g hg).1; omega))
      have O4 := Lib.hid (show RowR _ w.heap.size (some ⟨g4, 0, none⟩) cap4 (R ++ [(n, true, 0, 0)]) by unfold RowR; rw [recC_append, List.length_append, List.length_singleton]; exact hown4)
      have hRl : R.length + 1 = (R ++ [(n, true, 0, 0)]).length := by simp
      rw [hRl]
      obtain ⟨S, hS⟩ : ∃ S, S = R ++ [(n, true, 0, 0)] := ⟨_, rfl⟩
      have hSl : S.length ≤ 100000000 + vs.length + 1 := by rw [hS]; simp; omega
      rw [← hS] at O4 hfin ⊢
      rw [← hfin.out] at hyes hno
      clear hown4 hg4 hnil4 H3 Hb HBS hi0 hz0 hz1 hz2 hRl hS hfin
      go_wp2_with fail
      refine (specJr_any _ cap4 S 64 _ (RecsIn.of (own_read O4.out)) (by omega)).mono ?_
      rintro e w5 ⟨rfl, b5⟩
      have C5 := C4.out.trans (b5.mono C4.out.size)
      have O5 := own_below O4.out b5 (Nat.le_refl _)
      cases hjj : jrB S 64
      · have hn2 := Lib.hid (hno.out w5 hjj C5)
        clear hyes hno C5 O5 b5 hjj
        go_wp2
        go_ret
        exact hn2.out
      · have hn2 := Lib.hid (hyes.out _ _ w5 hjj O5 C5)
        clear hyes hno C5 O5 b5 hjj
        go_wp2
        go_ret
        exact hn2.out
end Go.Proofs.Ythghngphamimgaa
