/- Contracts of committedIn and of JournalValid, the program's and the reference's. -/
import Derived.Test.YthghngphamimgaaRecP
import Derived.Test.YthghngphamimgaaIntsX
import Derived.Test.YthghngphamimgaaOwn
import Derived.Deep.QuietTactic
import Derived.BigQuiet
import Derived.StillTailTactics
import Derived.Deep.RegionHeld3
namespace Go.Proofs.Ythghngphamimgaa
open Go.RowKit
set_option linter.unusedVariables false

/-- A row of the call's own with the numbers l. -/
def OwnIs (l : List Int) (W : World) (e : Ending) (w' : World) : Prop :=
  ∃ A c, e = .returned (.slice A l.length c) ∧ w'.ownsRow W.heap.size 3 1 (.slice A l.length c) l.length (l.map (Value.int .i64)) ∧ Below W.heap.size W w'
theorem rowinfo_i : (Try.prog.info? 3).map (fun i => (i.zero, i.size, i.bytes)) = some (some (.int .i64 0), 1, 8) := by kernel_rfl

set_option maxHeartbeats 1000000 in
theorem committedIn_any (A : Option Addr) (c : Nat) (l : List Rc) (w : World) (h : RecsIn w A l) (hl : l.length ≤ 1000000000) :
    Calls Try.prog 41 #[.slice A l.length c] w (OwnIs (commN l) w) := by
  obtain ⟨i0, hi0, hz0, hz1, hz2⟩ := info_parts rowinfo_i
  go_enter Try.func41, Try.ntmps41
  go_wp2
  go_loopw [3, 8] (fun x y wr => ∃ (k : Nat) (B : Option Addr) (cp : Nat) (R : List Int), k ≤ l.length ∧ x = .slice B R.length cp ∧ y = .int .i64 k ∧ R.length ≤ k ∧ Hid (commN (l.take k) = R) ∧ Hid (wr.ownsRow w.heap.size 3 1 (.slice B R.length cp) R.length (R.map (Value.int .i64))) ∧ Hid (Below w.heap.size w wr)) (fun _ y _ => l.length - (intOf y).toNat)
  case atStart => exact ⟨0, none, 0, [], Nat.zero_le _, rfl, rfl, by simp, by show commN (l.take 0) = []; simp [commN], World.ownsRow_nil _ _ _ _, Below.refl _ _⟩
  case round =>
    obtain ⟨k, B, cp, R, hk, rfl, rfl, hR, he, ho, hb⟩ := hrel
    by_cases hlt : k < l.length
    · obtain ⟨b, off, rfl, hc⟩ := h.below hb.out (by omega)
      obtain ⟨c1, c2, c3, c4⟩ := hc k hlt
      have hs := commN_step hlt
      rw [he.out] at hs
      clear hc h
      obtain ⟨⟨f, o, q, z⟩, hfn⟩ : ∃ p : Rc, p = l[k] := ⟨_, rfl⟩
      rw [← hfn] at c1 c2 c3 c4 hs
      simp only at c1 c2 c3 c4 hs
      clear hfn he
      cases o
      · have Hs := Lib.hid (show commN (l.take (k + 1)) = R by simpa using hs)
        have Ho := Lib.hid (show World.ownsRow _ _ _ _ _ _ _ from ho.out.alloc (.cells #[.int .i64 f, .bool false, .int .i64 q, .int .i64 z] 33))
        have Hb := Lib.hid (b_alloc hb.out (.cells #[.int .i64 f, .bool false, .int .i64 q, .int .i64 z] 33))
        clear hs ho hb hi0 hz0 hz1 hz2
        go_wp2
        go_roundw
        case rel => exact ⟨k + 1, B, cp, R, by omega, rfl, by go_num, by omega, Hs, Ho, Hb⟩
        case measure => simp [intOf]; omega
      · have Hs := Lib.hid (show commN (l.take (k + 1)) = R ++ [f] by simpa using hs)
        have H3 := Lib.hid (show World.ownsRow _ _ _ _ _ _ _ from (ho.out.alloc (.cells #[.int .i64 f, .bool true, .int .i64 q, .int .i64 z] 33)).alloc (.cells #[.int .i64 f] 3))
        have hnw := Lib.hid (news_at (w := wr.alloc (.cells #[.int .i64 f, .bool true, .int .i64 q, .int .i64 z] 33)) (T := 3) (cs := #[.int .i64 f]))
        have HBS := Lib.hid ho.out.lt
        have Hb := Lib.hid (b_alloc (b_alloc hb.out (.cells #[.int .i64 f, .bool true, .int .i64 q, .int .i64 z] 33)) (.cells #[.int .i64 f] 3))
        have Hz := Lib.hid hb.out.size
        clear hs ho hb
        go_wp2_with (at_builtin; refine wpList_append_own _ rfl (.tmp 14) (.tmp 17) 36 rfl w.heap.size 3 i0 (.int .i64 0) 1 8 Try.underlying36 hi0 hz0 hz1 hz2 rfl (by decide) _ R.length (R.map (Value.int .i64)) rfl H3.out ⟨wr.heap.size + 1, 0, none⟩ 1 1 [.int .i64 f] rfl rfl (by have := hnw.out; simpa using this) (by intro u hu; simp at hu; subst hu; rfl) (by simp only [maxLen]; omega) (by omega) (by have := Hz.out; simp; omega) ?_; intro v4 w4 hown4 hg4 hnil4; obtain ⟨g4, cap4, rfl⟩ := own_shape hown4)
        have C4 := Lib.hid (Hb.out.grown hg4 (by have := Hz.out; simp; omega) (fun g hg => by have := (HBS.out g hg).1; omega))
        have O4 := Lib.hid (show World.ownsRow _ w.heap.size 3 1 (.slice (some ⟨g4, 0, none⟩) (R ++ [f]).length cap4) (R ++ [f]).length ((R ++ [f]).map (Value.int .i64)) by simpa using hown4)
        clear hown4 hg4 hnil4 hnw H3 Hb HBS hi0 hz0 hz1 hz2
        go_roundw
        case rel => exact ⟨k + 1, _, cap4, R ++ [f], by omega, by simp, by go_num, by simp; omega, Hs, O4, C4⟩
        case measure => simp [intOf]; omega
    · have hfin := Lib.hid (show OwnIs (commN l) w (.returned (.slice B R.length cp)) wr from by
        have hh := he.out
        rw [List.take_of_length_le (by omega)] at hh
        rw [hh]
        exact ⟨B, cp, rfl, ho.out, hb.out⟩)
      clear he ho hb hi0 hz0 hz1 hz2
      go_wp2
      go_ret
      exact hfin.out

theorem committedIn_take (A : Option Addr) (c k : Nat) (l : List Rc) (w : World) (h : RecsIn w A l) (hk : k ≤ l.length) (hl : l.length ≤ 1000000000) :
    Calls Try.prog 41 #[.slice A k c] w (OwnIs (commN (l.take k)) w) := by
  have := committedIn_any A c (l.take k) w (h.take k) (by rw [List.length_take]; omega)
  rwa [List.length_take, Nat.min_eq_left hk] at this

def JVPost (l : List Rc) (size : Int) (W : World) (e : Ending) (w' : World) : Prop := e = .returned (.bool (jrB l size)) ∧ Below W.heap.size W w'

set_option maxHeartbeats 2000000 in
theorem implJr_any (A : Option Addr) (c : Nat) (l : List Rc) (size : Int) (w : World) (h : RecsIn w A l) (hl : l.length ≤ 1000000000) (hc1 : l.length ≤ c) (hc2 : c ≤ 9223372036854775807) :
    Calls Try.prog 15 #[.slice A l.length c, .int .i64 size] w (JVPost l size w) := by
  by_cases h1 : (l.length : Int) ≤ 40
  case neg =>
    have hno := Lib.hid (show JVPost l size w (.returned (.bool false)) w from ⟨ret_bool (by simp [jrB, h1]), Below.refl _ _⟩)
    go_enter Try.func15, Try.ntmps15
    go_wp2
    go_ret
    exact hno.out
  cases h2 : inB size 0 64
  · have hno := Lib.hid (show JVPost l size w (.returned (.bool false)) w from ⟨ret_bool (by simp [jrB, h2]), Below.refl _ _⟩)
    go_enter Try.func15, Try.ntmps15
    go_wp2_with (go_at_call 39; refine (within_is h2 _).mono ?_; rintro e w' ⟨rfl, rfl⟩)
    go_ret
    exact hno.out
  obtain ⟨z0, z1⟩ := inB_iff.1 h2
  have hfin := Lib.hid (fun b w' (hv : upB size [] l = b) (hb : Below w.heap.size w w') => show JVPost l size w (.returned (.bool b)) w' from ⟨ret_bool (by simp [jrB, h1, h2, hv]), hb⟩)
  go_enter Try.func15, Try.ntmps15
  go_wp2_with (go_at_call 39; refine (within_is h2 _).mono ?_; rintro e w' ⟨rfl, rfl⟩)
  clear h2
  go_loopw [17] (fun y wr => ∃ k : Nat, k ≤ l.length ∧ y = .int .i64 k ∧ Hid (upB size [] l = upB size (l.take k) (l.drop k)) ∧ Hid (Below w.heap.size w wr)) (fun y _ => l.length - (intOf y).toNat)
  case atStart => exact ⟨0, Nat.zero_le _, rfl, rfl, Below.refl _ _⟩
  case round =>
    obtain ⟨k, hk, rfl, hd, hb⟩ := hrel
    by_cases hlt : k < l.length
    · have HR := Lib.hid (h.below hb.out)
      obtain ⟨b, off, rfl, hc⟩ := h.below hb.out (by omega)
      obtain ⟨c1, c2, c3, c4⟩ := hc k hlt
      have hs := hd.out
      rw [upB_step hlt] at hs
      clear hc h hd
      obtain ⟨⟨f, o, q, z⟩, hfn⟩ : ∃ p : Rc, p = l[k] := ⟨_, rfl⟩
      rw [← hfn] at c1 c2 c3 c4 hs
      simp only at c1 c2 c3 c4
      clear hfn
      have hfal := Lib.hid (fun w' (hv : recOk size (l.take k) (f, o, q, z) = false) hb => hfin.out false w' (by rw [hs, hv, Bool.false_and]) hb)
      have hgo := Lib.hid (fun (hv : recOk size (l.take k) (f, o, q, z) = true) => show upB size [] l = upB size (l.take (k + 1)) (l.drop (k + 1)) by rw [hs, hv, Bool.true_and])
      have X := Lib.hid (show Blk (wr.alloc (.cells #[.int .i64 f, .bool o, .int .i64 q, .int .i64 z] 33)) wr.heap.size 33 #[.int .i64 f, .bool o, .int .i64 q, .int .i64 z] from Blk.new rfl)
      have HB := Lib.hid (b_alloc hb.out (.cells #[.int .i64 f, .bool o, .int .i64 q, .int .i64 z] 33))
      have HR1 := Lib.hid (HR.out.below (b_alloc (Below.refl _ _) (.cells #[.int .i64 f, .bool o, .int .i64 q, .int .i64 z] 33)))
      clear hs hb hfin HR
      have Hcl := Lib.hid (show (commN (l.take k)).length ≤ 1000000000000 by have := commN_len (l.take k); rw [List.length_take] at this; omega)
      have hcc := Lib.hid (committedIn_take (some ⟨b, off, none⟩) c k l ((wr.alloc (.cells #[.int .i64 f, .bool o, .int .i64 q, .int .i64 z] 33)).drew) HR1.out hk hl)
      have hkc : k ≤ c := by omega
      have hkc2 : (k : Int) ≤ (c : Int) := by omega
      have hk0 : (0 : Int) ≤ (k : Int) := by omega
      cases g1 : inB f 0 40
      · have hno := Lib.hid (fun m => hfal.out _ (by simp [recOk, isRecB, g1]) (belowN HB.out m))
        clear hfal hgo X HB HR1 Hcl hcc
        go_wp2
        go_quiet ((go_at_call 39; exact Calls.quiet_of_same (quiet_ll (within_is g1 _))))
        go_wp2
        go_ret
        exact hno.out _
      · cases hx : decide (f ∈ commN (l.take k))
        · have Hx := Lib.hid hx
          clear hx
          go_wp2
          go_region_held3 (fun w' => w'.cell? ⟨wr.heap.size, 0, none⟩ = some (.int .i64 f)) (first | (exact X.out.drew.cell 0) | go_keep)
            (first
              | (go_at_call 39; refine (within_is g1 _).mono ?_; rintro e w' ⟨rfl, rfl⟩)
              | (go_at_call 41; refine hcc.out.mono ?_; rintro e w3 ⟨A3, c3', rfl, o3, b3⟩; have y0 := (blk_below b3 X.out.drew X.out.lt).cell 0)
              | (go_at_call 40; refine (contains_any _ _ (commN (l.take k)) f _ (IntsIn.of (own_read o3)) Hcl.out).mono ?_; rintro e w' ⟨rfl, rfl⟩; rw [Hx.out]))
          all_goals
            have X3 := Lib.hid (blk_below b3 X.out.drew X.out.lt)
            have HB3 := Lib.hid ((b_drew HB.out).trans (b3.mono HB.out.size))
            have hz3 : wr.heap.size < w3.heap.size := X3.out.lt
            obtain ⟨y0, y1, y2, y3⟩ := (show w3.cell? ⟨wr.heap.size, 0, none⟩ = some (.int .i64 f) ∧ w3.cell? ⟨wr.heap.size, 1, none⟩ = some (.bool o) ∧ w3.cell? ⟨wr.heap.size, 2, none⟩ = some (.int .i64 q) ∧ w3.cell? ⟨wr.heap.size, 3, none⟩ = some (.int .i64 z) from ⟨X3.out.cell 0, X3.out.cell 1, X3.out.cell 2, X3.out.cell 3⟩)
            clear b3 o3 X HB X3
            cases o
            · cases g2 : inB q 0 (size - 1)
              · have hn2 := Lib.hid (hfal.out w3 (by simp [recOk, isRecB, g1, g2]) HB3.out)
                clear hfal hgo
                go_wp2_with (go_at_call 39; refine (within_any _ _ _ _).mono ?_; rintro e w' ⟨rfl, rfl⟩)
                go_ret
                exact hn2.out
              · cases g3 : inB z 0 255
                · have hn2 := Lib.hid (hfal.out w3 (by simp [recOk, isRecB, g1, g2, g3]) HB3.out)
                  clear hfal hgo
                  go_wp2_with (go_at_call 39; refine (within_any _ _ _ _).mono ?_; rintro e w' ⟨rfl, rfl⟩)
                  go_ret
                  exact hn2.out
                · have hs := Lib.hid (hgo.out (by simp only [recOk, isRecB, g1, g2, g3, Hx.out]; rfl))
                  clear hfal hgo
                  go_wp2_with (go_at_call 39; refine (within_any _ _ _ _).mono ?_; rintro e w' ⟨rfl, rfl⟩)
                  go_roundw
                  case rel => exact ⟨k + 1, by omega, by go_num, hs, HB3⟩
                  case measure => simp [intOf]; omega
            · cases g2 : (q != 0)
              · cases g3 : (z != 0)
                · have hs := Lib.hid (hgo.out (by simp at g2 g3; simp only [recOk, isRecB, g1, g2, g3, Hx.out]; rfl))
                  clear hfal hgo
                  go_wp2
                  go_roundw
                  case rel => exact ⟨k + 1, by omega, by go_num, hs, HB3⟩
                  case measure => simp [intOf]; omega
                · have hn2 := Lib.hid (hfal.out w3 (by simp at g3; simp [recOk, isRecB, g1, g3]) HB3.out)
                  clear hfal hgo
                  go_wp2
                  go_ret
                  exact hn2.out
              · have hn2 := Lib.hid (hfal.out w3 (by simp at g2; simp [recOk, isRecB, g1, g2]) HB3.out)
                clear hfal hgo
                go_wp2
                go_ret
                exact hn2.out
        · have Hx := Lib.hid hx
          have hno := Lib.hid (fun w' hb => hfal.out w' (by simp [recOk, hx]) hb)
          clear hx hfal hgo
          go_wp2
          go_region_held3 (fun w' => w'.cell? ⟨wr.heap.size, 0, none⟩ = some (.int .i64 f)) (first | (exact X.out.drew.cell 0) | go_keep)
            (first
              | (go_at_call 39; refine (within_is g1 _).mono ?_; rintro e w' ⟨rfl, rfl⟩)
              | (go_at_call 41; refine hcc.out.mono ?_; rintro e w3 ⟨A3, c3', rfl, o3, b3⟩; have y0 := (blk_below b3 X.out.drew X.out.lt).cell 0)
              | (go_at_call 40; refine (contains_any _ _ (commN (l.take k)) f _ (IntsIn.of (own_read o3)) Hcl.out).mono ?_; rintro e w' ⟨rfl, rfl⟩; rw [Hx.out]))
          all_goals
            have hn2 := Lib.hid (hno.out _ ((b_drew HB.out).trans (b3.mono HB.out.size)))
            clear b3 o3 X HB
            go_wp2
            go_ret
            exact hn2.out
    · have hno := Lib.hid (hfin.out true wr (by rw [hd.out, List.drop_of_length_le (by omega)]; rfl) hb.out)
      clear hfin hd hb
      go_wp2
      go_ret
      exact hno.out

theorem commN_mem {l : List Rc} {k j : Nat} (hj : j < k) (hk : k < l.length) (h : l[j].2.1 = true) : l[j].1 ∈ commN (l.take k) := by
  simp only [commN, List.mem_map, List.mem_filter]
  exact ⟨l[j], ⟨by rw [List.mem_take_iff_getElem]; exact ⟨j, by omega, rfl⟩, h⟩, rfl⟩

set_option maxHeartbeats 2000000 in
theorem specJr_any (A : Option Addr) (c : Nat) (l : List Rc) (size : Int) (w : World) (h : RecsIn w A l) (hl : l.length ≤ 1000000000) :
    Calls Try.prog 13 #[.slice A l.length c, .int .i64 size] w (JVPost l size w) := by
  by_cases h1 : (l.length : Int) ≤ 40
  case neg =>
    have hno := Lib.hid (show JVPost l size w (.returned (.bool false)) w from ⟨ret_bool (by simp [jrB, h1]), Below.refl _ _⟩)
    go_enter Try.func13, Try.ntmps13
    go_wp2
    go_ret
    exact hno.out
  cases h2 : inB size 0 64
  · have hno := Lib.hid (show JVPost l size w (.returned (.bool false)) w from ⟨ret_bool (by simp [jrB, h2]), Below.refl _ _⟩)
    go_enter Try.func13, Try.ntmps13
    go_wp2_with (go_at_call 37; refine (l1In_is h2 _).mono ?_; rintro e w' ⟨rfl, rfl⟩)
    go_ret
    exact hno.out
  obtain ⟨z0, z1⟩ := inB_iff.1 h2
  have hfin := Lib.hid (fun b w' (hv : upB size [] l = b) (hb : Below w.heap.size w w') => show JVPost l size w (.returned (.bool b)) w' from ⟨ret_bool (by simp [jrB, h1, h2, hv]), hb⟩)
  go_enter Try.func13, Try.ntmps13
  go_wp2_with (go_at_call 37; refine (l1In_is h2 _).mono ?_; rintro e w' ⟨rfl, rfl⟩)
  have HR := Lib.hid h
  clear h2 h
  go_loopw [5] (fun y wr => ∃ k : Nat, k ≤ l.length ∧ y = .int .i64 k ∧ Hid (upB size [] l = upB size (l.take k) (l.drop k)) ∧ Hid (Below w.heap.size w wr)) (fun y _ => l.length - (intOf y).toNat)
  case atStart => exact ⟨0, Nat.zero_le _, rfl, rfl, Below.refl _ _⟩
  case round =>
    obtain ⟨k, hk, rfl, hd, hb⟩ := hrel
    by_cases hlt : k < l.length
    · obtain ⟨b, off, rfl, hc⟩ := HR.out.below hb.out (by omega)
      obtain ⟨c1, c2, c3, c4⟩ := hc k hlt
      have hs := hd.out
      rw [upB_step hlt] at hs
      clear hc hd
      obtain ⟨⟨f, o, q, z⟩, hfn⟩ : ∃ p : Rc, p = l[k] := ⟨_, rfl⟩
      rw [← hfn] at c1 c2 c3 c4 hs
      simp only at c1 c2 c3 c4
      clear hfn
      have hfal := Lib.hid (fun w' (hv : recOk size (l.take k) (f, o, q, z) = false) hb => hfin.out false w' (by rw [hs, hv, Bool.false_and]) hb)
      have hgo := Lib.hid (fun (hv : isRecB size (f, o, q, z) = true) (hm : f ∉ commN (l.take k)) => show upB size [] l = upB size (l.take (k + 1)) (l.drop (k + 1)) by rw [hs, recOk, hv]; simp [hm])
      have X := Lib.hid (show Blk (wr.alloc (.cells #[.int .i64 f, .bool o, .int .i64 q, .int .i64 z] 33)) wr.heap.size 33 #[.int .i64 f, .bool o, .int .i64 q, .int .i64 z] from Blk.new rfl)
      have HB := Lib.hid (b_alloc hb.out (.cells #[.int .i64 f, .bool o, .int .i64 q, .int .i64 z] 33))
      clear hs hb hfin
      cases g1 : inB f 0 40
      · have hn2 := Lib.hid (hfal.out _ (by simp [recOk, isRecB, g1]) HB.out)
        clear hfal hgo
        go_wp2_with (go_at_call 37; refine (l1In_is g1 _).mono ?_; rintro e w' ⟨rfl, rfl⟩)
        go_ret
        exact hn2.out
      · cases o
        · cases g2 : inB q 0 (size - 1)
          · have hn2 := Lib.hid (hfal.out _ (by simp [recOk, isRecB, g1, g2]) HB.out)
            clear hfal hgo
            go_wp2_with (go_at_call 37; refine (l1In_any _ _ _ _).mono ?_; rintro e w' ⟨rfl, rfl⟩)
            go_ret
            exact hn2.out
          · cases g3 : inB z 0 255
            · have hn2 := Lib.hid (hfal.out _ (by simp [recOk, isRecB, g1, g2, g3]) HB.out)
              clear hfal hgo
              go_wp2_with (go_at_call 37; refine (l1In_any _ _ _ _).mono ?_; rintro e w' ⟨rfl, rfl⟩)
              go_ret
              exact hn2.out
            · have hrec := Lib.hid (show isRecB size (f, false, q, z) = true by simp only [isRecB, g1, g2, g3]; rfl)
              go_wp2_with (go_at_call 37; refine (l1In_any _ _ _ _).mono ?_; rintro e w' ⟨rfl, rfl⟩)
              clear g1 g2 g3 c1 c2 c3 c4
              generalize hw3 : wr.alloc (.cells #[.int .i64 f, .bool false, .int .i64 q, .int .i64 z] 33) = w3 at *
              generalize hgg : wr.heap.size = gg at *
              clear hw3 hgg
              go_loopw [7] (fun y wr => ∃ j : Nat, j ≤ k ∧ y = .int .i64 j ∧ Hid (f ∉ commN (l.take j)) ∧ Hid (Blk wr gg 33 #[.int .i64 f, .bool false, .int .i64 q, .int .i64 z]) ∧ Hid (Below w.heap.size w wr)) (fun y _ => k - (intOf y).toNat)
              case atStart => exact ⟨0, Nat.zero_le _, rfl, by show f ∉ commN (l.take 0); simp [commN], X, HB⟩
              case round =>
                obtain ⟨j, hj, rfl, hn, hX, hb2⟩ := hrel
                have v0 := hX.out.cell 0
                by_cases hjk : j < k
                · obtain ⟨b', off', hbo, hc⟩ := (HR.out.below hb2.out) (by omega)
                  obtain ⟨rfl, rfl⟩ : b = b' ∧ off = off' := by injection hbo with hbo; injection hbo with h1 h2; exact ⟨h1, h2⟩
                  obtain ⟨d1, d2, _, _⟩ := hc j (by omega)
                  have hst := commN_step (l := l) (k := j) (by omega)
                  have hlm := Lib.hid (commN_mem (l := l) (k := k) (j := j) hjk hlt)
                  clear hc hbo
                  obtain ⟨⟨f2, o2, q2, z2⟩, hfn⟩ : ∃ p : Rc, p = l[j] := ⟨_, rfl⟩
                  rw [← hfn] at d1 d2 hst hlm
                  simp only at d1 d2 hst hlm
                  have Hst := Lib.hid hst
                  clear hst hfn
                  have hx3 := Lib.hid (fun m => (show Blk (wr.drewN m) gg 33 #[.int .i64 f, .bool false, .int .i64 q, .int .i64 z] from hX.out))
                  have hb3 := Lib.hid (fun m => belowN hb2.out m)
                  cases o2
                  · have hn2 := Lib.hid (show f ∉ commN (l.take (j + 1)) by rw [Hst.out]; simpa using hn.out)
                    clear hn hX hb2
                    go_wp2
                    go_quiet (fail)
                    go_wp2
                    go_roundw
                    case rel => exact ⟨j + 1, by omega, by go_num, hn2, hx3.out _, hb3.out _⟩
                    case measure => simp [intOf]; omega
                  · cases hm : (f2 == f)
                    · have hn2 := Lib.hid (show f ∉ commN (l.take (j + 1)) by rw [Hst.out]; simp only [if_true, List.mem_append, List.mem_singleton, not_or]; exact ⟨hn.out, fun e => by rw [e] at hm; simp at hm⟩)
                      clear hn hX hb2
                      go_wp2
                      go_quiet (fail)
                      go_wp2
                      go_roundw
                      case rel => exact ⟨j + 1, by omega, by go_num, hn2, hx3.out _, hb3.out _⟩
                      case measure => simp [intOf]; omega
                    · have hno := Lib.hid (fun m => hfal.out (wr.drewN m) (by
                        have hmm : f2 = f := by simpa using hm
                        have : f ∈ commN (l.take k) := hmm ▸ hlm.out rfl
                        simp [recOk, this]) (hb3.out m))
                      clear hn hX hb2
                      go_wp2
                      go_quiet (fail)
                      go_wp2
                      go_ret
                      exact hno.out _
                · have hs2 := Lib.hid (hgo.out hrec.out (by have := hn.out; rwa [show j = k by omega] at this))
                  clear hn hX
                  go_wp2
                  go_roundw
                  case rel => exact ⟨k + 1, by omega, by go_num, hs2, hb2⟩
                  case measure => simp [intOf]; omega
        · cases g2 : (q != 0)
          · cases g3 : (z != 0)
            · have hrec := Lib.hid (show isRecB size (f, true, q, z) = true by simp at g2 g3; simp only [isRecB, g1, g2, g3]; rfl)
              go_wp2_with (go_at_call 37; refine (l1In_any _ _ _ _).mono ?_; rintro e w' ⟨rfl, rfl⟩)
              clear g1 g2 g3 c1 c2 c3 c4
              generalize hw3 : wr.alloc (.cells #[.int .i64 f, .bool true, .int .i64 q, .int .i64 z] 33) = w3 at *
              generalize hgg : wr.heap.size = gg at *
              clear hw3 hgg
              go_loopw [7] (fun y wr => ∃ j : Nat, j ≤ k ∧ y = .int .i64 j ∧ Hid (f ∉ commN (l.take j)) ∧ Hid (Blk wr gg 33 #[.int .i64 f, .bool true, .int .i64 q, .int .i64 z]) ∧ Hid (Below w.heap.size w wr)) (fun y _ => k - (intOf y).toNat)
              case atStart => exact ⟨0, Nat.zero_le _, rfl, by show f ∉ commN (l.take 0); simp [commN], X, HB⟩
              case round =>
                obtain ⟨j, hj, rfl, hn, hX, hb2⟩ := hrel
                have v0 := hX.out.cell 0
                by_cases hjk : j < k
                · obtain ⟨b', off', hbo, hc⟩ := (HR.out.below hb2.out) (by omega)
                  obtain ⟨rfl, rfl⟩ : b = b' ∧ off = off' := by injection hbo with hbo; injection hbo with h1 h2; exact ⟨h1, h2⟩
                  obtain ⟨d1, d2, _, _⟩ := hc j (by omega)
                  have hst := commN_step (l := l) (k := j) (by omega)
                  have hlm := Lib.hid (commN_mem (l := l) (k := k) (j := j) hjk hlt)
                  clear hc hbo
                  obtain ⟨⟨f2, o2, q2, z2⟩, hfn⟩ : ∃ p : Rc, p = l[j] := ⟨_, rfl⟩
                  rw [← hfn] at d1 d2 hst hlm
                  simp only at d1 d2 hst hlm
                  have Hst := Lib.hid hst
                  clear hst hfn
                  have hx3 := Lib.hid (fun m => (show Blk (wr.drewN m) gg 33 #[.int .i64 f, .bool true, .int .i64 q, .int .i64 z] from hX.out))
                  have hb3 := Lib.hid (fun m => belowN hb2.out m)
                  cases o2
                  · have hn2 := Lib.hid (show f ∉ commN (l.take (j + 1)) by rw [Hst.out]; simpa using hn.out)
                    clear hn hX hb2
                    go_wp2
                    go_quiet (fail)
                    go_wp2
                    go_roundw
                    case rel => exact ⟨j + 1, by omega, by go_num, hn2, hx3.out _, hb3.out _⟩
                    case measure => simp [intOf]; omega
                  · cases hm : (f2 == f)
                    · have hn2 := Lib.hid (show f ∉ commN (l.take (j + 1)) by rw [Hst.out]; simp only [if_true, List.mem_append, List.mem_singleton, not_or]; exact ⟨hn.out, fun e => by rw [e] at hm; simp at hm⟩)
                      clear hn hX hb2
                      go_wp2
                      go_quiet (fail)
                      go_wp2
                      go_roundw
                      case rel => exact ⟨j + 1, by omega, by go_num, hn2, hx3.out _, hb3.out _⟩
                      case measure => simp [intOf]; omega
                    · have hno := Lib.hid (fun m => hfal.out (wr.drewN m) (by
                        have hmm : f2 = f := by simpa using hm
                        have : f ∈ commN (l.take k) := hmm ▸ hlm.out rfl
                        simp [recOk, this]) (hb3.out m))
                      clear hn hX hb2
                      go_wp2
                      go_quiet (fail)
                      go_wp2
                      go_ret
                      exact hno.out _
                · have hs2 := Lib.hid (hgo.out hrec.out (by have := hn.out; rwa [show j = k by omega] at this))
                  clear hn hX
                  go_wp2
                  go_roundw
                  case rel => exact ⟨k + 1, by omega, by go_num, hs2, hb2⟩
                  case measure => simp [intOf]; omega
            · have hn2 := Lib.hid (hfal.out _ (by simp at g3; simp [recOk, isRecB, g1, g3]) HB.out)
              clear hfal hgo
              go_wp2_with (go_at_call 37; refine (l1In_any _ _ _ _).mono ?_; rintro e w' ⟨rfl, rfl⟩)
              go_ret
              exact hn2.out
          · have hn2 := Lib.hid (hfal.out _ (by simp at g2; simp [recOk, isRecB, g1, g2]) HB.out)
            clear hfal hgo
            go_wp2_with (go_at_call 37; refine (l1In_any _ _ _ _).mono ?_; rintro e w' ⟨rfl, rfl⟩)
            go_ret
            exact hn2.out
    · have hno := Lib.hid (hfin.out true wr (by rw [hd.out, List.drop_of_length_le (by omega)]; rfl) hb.out)
      clear hfin hd hb
      go_wp2
      go_ret
      exact hno.out
end Go.Proofs.Ythghngphamimgaa
