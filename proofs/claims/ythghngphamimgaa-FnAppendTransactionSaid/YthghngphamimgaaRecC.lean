/- Contracts of CommittedNumbers, the program's and the reference's. -/
import Derived.Test.YthghngphamimgaaRecV
namespace Go.Proofs.Ythghngphamimgaa
open Go.RowKit
set_option linter.unusedVariables false

theorem own_is_nil {l : List Rc} (hv : jrB l 64 = false) {w w' : World} (hb : Below w.heap.size w w') : OwnIs (commV l) w (.returned (.slice none 0 0)) w' := by
  have e : commV l = [] := by simp [commV, hv]
  rw [e]
  exact ⟨none, 0, rfl, World.ownsRow_nil _ _ _ _, hb⟩
theorem own_is {l : List Rc} (hv : jrB l 64 = true) {w w' : World} {A : Option Addr} {c : Nat} (ho : w'.ownsRow w.heap.size 3 1 (.slice A (commN l).length c) (commN l).length ((commN l).map (Value.int .i64))) (hb : Below w.heap.size w w') : OwnIs (commV l) w (.returned (.slice A (commN l).length c)) w' := by
  have e : commV l = commN l := by simp [commV, hv]
  rw [e]
  exact ⟨A, c, rfl, ho, hb⟩

set_option maxHeartbeats 1000000 in
theorem implComm_any (A : Option Addr) (c : Nat) (l : List Rc) (w : World) (h : RecsIn w A l) (hl : l.length ≤ 1000000000) (hc1 : l.length ≤ c) (hc2 : c ≤ 9223372036854775807) :
    Calls Try.prog 20 #[.slice A l.length c] w (OwnIs (commV l) w) := by
  go_enter Try.func20, Try.ntmps20
  go_wp2_with fail
  refine (implJr_any A c l 64 w h hl hc1 hc2).mono ?_
  rintro e w1 ⟨rfl, b1⟩
  cases hv : jrB l 64
  · have hno := Lib.hid (own_is_nil hv b1)
    clear hv
    go_wp2
    go_ret
    exact hno.out
  · have hyes := Lib.hid (fun (A : Option Addr) c w' => own_is (w := w) (w' := w') (A := A) (c := c) hv)
    clear hv
    go_wp2_with fail
    refine (committedIn_any A c l w1 (h.below b1) hl).mono ?_
    rintro e w2 ⟨A2, c2, rfl, o2, b2⟩
    have hfin := Lib.hid (hyes.out A2 c2 w2 (own_mono o2 b1.size) (b1.trans (b2.mono b1.size)))
    clear o2 b2 hyes
    go_wp2
    go_ret
    exact hfin.out

set_option maxHeartbeats 1000000 in
theorem specComm_any (A : Option Addr) (c : Nat) (l : List Rc) (w : World) (h : RecsIn w A l) (hl : l.length ≤ 1000000000) :
    Calls Try.prog 19 #[.slice A l.length c] w (OwnIs (commV l) w) := by
  cases hv : jrB l 64
  · have hno := Lib.hid (fun w' (ho : w'.ownsRow w.heap.size 3 1 (.slice (some ⟨w.heap.size, 0, none⟩) 0 0) 0 []) (hb : Below w.heap.size w w') => show OwnIs (commV l) w (.returned (.slice (some ⟨w.heap.size, 0, none⟩) 0 0)) w' from by
      have e : commV l = [] := by simp [commV, hv]
      rw [e]
      exact ⟨_, _, rfl, ho, hb⟩)
    have hpos : 0 < l.length := by
      cases l with
      | nil => cases hv
      | cons => simp
    have HV := Lib.hid hv
    have HR := Lib.hid h
    clear hv h
    go_enter Try.func19, Try.ntmps19
    go_wp2
    go_loopw [3, 4] (fun x y wr => x = .slice (some ⟨w.heap.size, 0, none⟩) 0 0 ∧ y = .int .i64 0 ∧ Hid (wr.ownsRow w.heap.size 3 1 (.slice (some ⟨w.heap.size, 0, none⟩) 0 0) 0 []) ∧ Hid (Below w.heap.size w wr)) (fun _ y _ => l.length)
    case atStart => exact ⟨rfl, rfl, World.ownsRow_lit (e := 3) (size := 1) (base := w.heap.size) w #[] 0 (Nat.le_refl _) (by simp [maxLen]) (by simp), b_alloc (Below.refl _ _) _⟩
    case round =>
      obtain ⟨rfl, rfl, ho, hb⟩ := hrel
      go_wp2_with fail
      refine (specJr_any A c l 64 _ (HR.out.below hb.out) hl).mono ?_
      rintro e w3 ⟨rfl, b3⟩
      rw [HV.out]
      have hfin := Lib.hid (hno.out w3 (own_below ho.out b3 (Nat.le_refl _)) (hb.out.trans (b3.mono hb.out.size)))
      clear b3 ho hb hno
      go_wp2
      go_ret
      exact hfin.out
  · obtain ⟨i0, hi0, hz0, hz1, hz2⟩ := info_parts rowinfo_i
    have hyes := Lib.hid (fun (A : Option Addr) c w' => own_is (w := w) (w' := w') (A := A) (c := c) hv)
    have HV := Lib.hid hv
    have HR := Lib.hid h
    clear hv h
    go_enter Try.func19, Try.ntmps19
    go_wp2
    go_loopw [3, 4] (fun x y wr => ∃ (k : Nat) (B : Option Addr) (cp : Nat) (R : List Int), k ≤ l.length ∧ x = .slice B R.length cp ∧ y = .int .i64 k ∧ R.length ≤ k ∧ Hid (commN (l.take k) = R) ∧ Hid (wr.ownsRow w.heap.size 3 1 (.slice B R.length cp) R.length (R.map (Value.int .i64))) ∧ Hid (Below w.heap.size w wr)) (fun _ y _ => l.length - (intOf y).toNat)
    case atStart => exact ⟨0, _, _, [], Nat.zero_le _, rfl, rfl, by simp, by show commN (l.take 0) = []; simp [commN], World.ownsRow_lit (e := 3) (size := 1) (base := w.heap.size) w #[] 0 (Nat.le_refl _) (by simp [maxLen]) (by simp), b_alloc (Below.refl _ _) _⟩
    case round =>
      obtain ⟨k, B, cp, R, hk, rfl, rfl, hR, he, ho, hb⟩ := hrel
      by_cases hlt : k < l.length
      · have hs := commN_step hlt
        rw [he.out] at hs
        clear he
        go_wp2_with fail
        refine (specJr_any A c l 64 _ (HR.out.below hb.out) hl).mono ?_
        rintro e w3 ⟨rfl, b3⟩
        rw [HV.out]
        have HB3 := Lib.hid (hb.out.trans (b3.mono hb.out.size))
        have O3 := Lib.hid (own_below ho.out b3 (Nat.le_refl _))
        clear b3 ho hb
        obtain ⟨b, off, rfl, hc⟩ := HR.out.below HB3.out (by omega)
        obtain ⟨c1, c2, c3, c4⟩ := hc k hlt
        clear hc
        obtain ⟨⟨f, o, q, z⟩, hfn⟩ : ∃ p : Rc, p = l[k] := ⟨_, rfl⟩
        rw [← hfn] at c1 c2 c3 c4 hs
        simp only at c1 c2 c3 c4 hs
        clear hfn c3 c4
        cases o
        · have Hs := Lib.hid (show commN (l.take (k + 1)) = R by simpa using hs)
          clear hs hi0 hz0 hz1 hz2
          go_wp2
          go_roundw
          case rel => exact ⟨k + 1, B, cp, R, by omega, rfl, by go_num, by omega, Hs, O3, HB3⟩
          case measure => simp [intOf]; omega
        · have Hs := Lib.hid (show commN (l.take (k + 1)) = R ++ [f] by simpa using hs)
          have H3 := Lib.hid (show World.ownsRow _ _ _ _ _ _ _ from O3.out.alloc (.cells #[.int .i64 f] 3))
          have hnw := Lib.hid (news_at (w := w3) (T := 3) (cs := #[.int .i64 f]))
          have HBS := Lib.hid O3.out.lt
          have Hb := Lib.hid (b_alloc HB3.out (.cells #[.int .i64 f] 3))
          have Hz := Lib.hid HB3.out.size
          clear hs O3 HB3
          go_wp2_with (at_builtin; refine wpList_append_own _ rfl (.tmp 21) (.tmp 27) 36 rfl w.heap.size 3 i0 (.int .i64 0) 1 8 Try.underlying36 hi0 hz0 hz1 hz2 rfl (by decide) _ R.length (R.map (Value.int .i64)) rfl H3.out ⟨w3.heap.size, 0, none⟩ 1 1 [.int .i64 f] rfl rfl (by have := hnw.out; simpa using this) (by intro u hu; simp at hu; subst hu; rfl) (by simp only [maxLen]; omega) (by omega) (by have := Hz.out; simp; omega) ?_; intro v4 w4 hown4 hg4 hnil4; obtain ⟨g4, cap4, rfl⟩ := own_shape hown4)
          have C4 := Lib.hid (Hb.out.grown hg4 (by have := Hz.out; simp; omega) (fun g hg => by have := (HBS.out g hg).1; omega))
          have O4 := Lib.hid (show World.ownsRow _ w.heap.size 3 1 (.slice (some ⟨g4, 0, none⟩) (R ++ [f]).length cap4) (R ++ [f]).length ((R ++ [f]).map (Value.int .i64)) by simpa using hown4)
          clear hown4 hg4 hnil4 hnw H3 Hb HBS hi0 hz0 hz1 hz2
          go_roundw
          case rel => exact ⟨k + 1, _, cap4, R ++ [f], by omega, by simp, by go_num, by simp; omega, Hs, O4, C4⟩
          case measure => simp [intOf]; omega
      · have hfin := Lib.hid (hyes.out B cp wr (by have hh := he.out; rw [List.take_of_length_le (by omega)] at hh; subst hh; exact ho.out) hb.out)
        have hh := he.out
        rw [List.take_of_length_le (by omega)] at hh
        subst hh
        clear he ho hb hi0 hz0 hz1 hz2 hyes
        go_wp2
        go_ret
        exact hfin.out
end Go.Proofs.Ythghngphamimgaa
