/- Proves Rows.FnNewThinSaid: for every input the law FnNewThin returns true and leaves its arguments as they were. Conditions: none. -/
import Derived.Test.YtjkbooflbfnbiaaOpen
import Derived.Test.YtjkbooflbfnbiaaNewLaw
import Derived.Test.YtjkbooflbfnbiaaThinY
import Derived.Deep.RegionHeld3
namespace Go.Proofs.Ytjkbooflbfnbiaa.fnNewThin
open Go.ChangeShapes Go.WideShapes Go.ChangeAt Go.RowKit
set_option linter.unusedVariables false
theorem sameInts_N (A B : Option Addr) (c d N : Nat) (l : List Int) (w : World) (hl : l.length = N) (h1 : IntsIn w A l) (h2 : IntsIn w B l) (hN : N ≤ 1000000) :
    Calls Try.prog 32 #[.slice A N c, .slice B N d] w fun e w' => e = .returned (.bool true) ∧ ∃ q, w' = w.drewN q := by
  subst hl
  exact (sameInts_any A B c d l l w h1 h2 (by omega) (by omega)).mono fun e w' ⟨he, hq⟩ => ⟨by simpa using he, hq⟩
theorem news_split (n p : Int) : ((inB n 0 64 && inB p 0 64) = true ∧ ∃ N M : Nat, n = N ∧ p = M ∧ N ≤ 64 ∧ M ≤ 64 ∧ newW n p = List.replicate N (-1) ∧ newP n p = List.replicate M 0) ∨ (¬ (0 ≤ n ∧ n ≤ 64 ∧ 0 ≤ p ∧ p ≤ 64) ∧ newW n p = [] ∧ newP n p = []) := by
  cases h : (inB n 0 64 && inB p 0 64)
  · right
    refine ⟨?_, by simp [newW, h], by simp [newP, h]⟩
    rintro ⟨a, b, c, d⟩
    rw [inB_iff.2 ⟨a, b⟩, inB_iff.2 ⟨c, d⟩] at h
    cases h
  · left
    have h' := h
    simp only [Bool.and_eq_true, inB_iff] at h'
    exact ⟨rfl, n.toNat, p.toNat, by omega, by omega, by omega, by omega, by simp [newW, h], by simp [newP, h]⟩

set_option maxHeartbeats 2000000 in
theorem walk (A : Option Addr) (m cp : Nat) (w : World) (hb : BytesIn w A m) (hmc : m ≤ cp) (hcp : cp ≤ 9223372036854775807) :
    Calls Try.prog 8 #[.slice A m cp] w fun e w' => e = .returned (.bool true) ∧ Below w.heap.size w w' := by
  by_cases hbig : 1048576 < m
  · go_enter Try.func8, Try.ntmps8
    go_wp2
    go_ret
    exact ⟨rfl, Below.refl _ _⟩
  · go_enter Try.func8, Try.ntmps8
    go_wp2_with fail
    refine (drawNew_any A m cp w hb hmc hcp).mono ?_
    rintro e w1 ⟨n, p, rfl, n0, n1, p0, p1, b1⟩
    have B1 := Lib.hid b1
    clear b1 hb
    have hsplit := Lib.hid (news_split n p)
    go_wp2_with fail
    refine (implNew_any n p _).mono ?_
    rintro e w2 ⟨v2, rfl, o2, b2⟩
    have O2 := Lib.hid o2
    have C2 := Lib.hid (B1.out.trans (b2.mono B1.out.size))
    clear b2 B1
    obtain ⟨W, hW⟩ : ∃ W, W = newW n p := ⟨_, rfl⟩
    obtain ⟨P, hP⟩ : ∃ P, P = newP n p := ⟨_, rfl⟩
    have hsp := Lib.hid (fun w => specNew_any n p w)
    rw [← hW, ← hP] at hsp O2 hsplit o2
    clear hW hP
    have hl : W.length ≤ 64 ∧ P.length ≤ 64 := by
      rcases hsplit.out with ⟨_, N, M, _, _, hN, hM, h1, h2⟩ | ⟨_, h1, h2⟩
      · rw [h1, h2]; simp; omega
      · rw [h1, h2]; simp
    obtain ⟨A2, c2, B2, d2, rfl, _⟩ := o2
    have X2 := Lib.hid (show Blk (w2.alloc (.cells #[.slice A2 W.length c2, .slice B2 P.length d2] 27)) w2.heap.size 27 #[.slice A2 W.length c2, .slice B2 P.length d2] from Blk.new rfl)
    go_wp2
    go_region_held3 (fun w' => w'.cell? ⟨w2.heap.size, 0, none⟩ = some (.slice A2 W.length c2) ∧ w'.cell? ⟨w2.heap.size, 1, none⟩ = some (.slice B2 P.length d2)) (go_keep)
      (first
        | (go_at_call 17; refine (hsp.out _).mono ?_; rintro e w3 ⟨v3, rfl, o3, b3⟩; obtain ⟨x0, x1, f0, f1⟩ := (blk_below b3 X2.out.drew X2.out.lt).two)
        | (go_at_call 31; refine (sameThin_same _ _ W P _ ((O2.out.below (b_alloc (Below.refl _ _) _)).drew.below b3).read o3.read (by omega) (by omega)).mono ?_; rintro e w4 ⟨rfl, b4⟩; obtain ⟨x0, x1, f0, f1⟩ := (blk_below b4 (blk_below b3 X2.out.drew X2.out.lt) (Nat.lt_of_lt_of_le X2.out.lt b3.size)).two))
    have X4 := Lib.hid (show Blk w4 w2.heap.size 27 #[.slice A2 W.length c2, .slice B2 P.length d2] from blk_below b4 (blk_below b3 X2.out.drew X2.out.lt) (Nat.lt_of_lt_of_le X2.out.lt b3.size))
    have hz2 : w2.heap.size + 1 ≤ w3.heap.size := by have := b3.size; simpa using this
    have C4 := Lib.hid (((b_drew (b_alloc C2.out _)).trans (b3.mono (by have := C2.out.size; simp; omega))).trans (b4.mono (by have := C2.out.size; omega)))
    have O4 := Lib.hid (((O2.out.below (b_alloc (Below.refl _ _) _)).drew.below b3).below b4)
    clear b3 b4 o3 X2 C2 O2 hsp
    rcases hsplit.out with ⟨_, N, M, rfl, rfl, hN, hM, h1, h2⟩ | ⟨hnot, h1, h2⟩
    · subst h1 h2
      have hv := Lib.hid (new_view N M hN hM)
      have hf := Lib.hid (new_free N M hN hM)
      have hmk := make_rows (P := Try.prog) 22 3 (.int .i64 0) 1 8 Try.underlying22 (by kernel_rfl) N (by omega) (by omega)
      clear hsplit
      rw [List.length_replicate, List.length_replicate] at *
      have HM := Lib.hid hmk
      have me : ((M : Int) == M) = true := by simp
      have xl := X4.out.lt
      go_wp2
      go_region_held3 (fun w' => w'.cell? ⟨w2.heap.size, 0, none⟩ = some (.slice A2 N c2) ∧ w'.cell? ⟨w2.heap.size, 1, none⟩ = some (.slice B2 M d2)) (go_keep)
        (first
          | (go_at_call 24; refine (newView_any _ N M _ (by first | exact O4.out.drew.read | exact (O4.out.below (b_alloc (Below.refl _ _) _)).drew.read) hN hM).mono ?_; rintro e w5 ⟨A5, c5, rfl, i5, b5⟩; obtain ⟨y0, y1, g0, g1⟩ := (show Blk w5 w2.heap.size 27 _ by first | exact blk_below b5 X4.out.drew X4.out.lt | exact blk_below b5 (X4.out.alloc _).drew (X4.out.alloc _).lt).two)
          | (go_at_call 32; refine (sameInts_N _ _ _ _ N (List.replicate N 0) _ (by simp) (by first | exact i5.alloc _ | exact i5) (by first | exact zeros_in _ _ hN | exact (zeros_drew _ _ hN).below b5) (by omega)).mono ?_; rintro e w6 ⟨rfl, q, rfl⟩)
          | (go_at_call 22; refine (newFree_any _ N M _ (by first | exact (((O4.out.drew.below b5).below (b_alloc (Below.refl _ _) _)).drewN q).read | exact ((((O4.out.below (b_alloc (Below.refl _ _) _)).drew).below b5).drewN q).read) hN hM).mono ?_; rintro e w7 ⟨rfl, b7⟩; obtain ⟨z0, z1, h0, h1⟩ := (show Blk w7 w2.heap.size 27 _ by first | exact blk_below b7 ((blk_below b5 (X4.out.alloc _).drew (X4.out.alloc _).lt).drewN q) (blk_below b5 (X4.out.alloc _).drew (X4.out.alloc _).lt).lt | exact blk_below b7 (((blk_below b5 X4.out.drew X4.out.lt).alloc _).drewN q) ((blk_below b5 X4.out.drew X4.out.lt).alloc _).lt).two))
      all_goals
        have hb5 := b5.size
        have hb7 := b7.size
        have C7 := Lib.hid (show Below w.heap.size w w7 by
          first
            | exact (belowN (b_alloc ((b_drew C4.out).trans (b5.mono C4.out.size)) _) q).trans (b7.mono (by have := C4.out.size; have := b5.size; simp at *; omega))
            | exact (belowN ((b_drew (b_alloc C4.out _)).trans (b5.mono (by have := C4.out.size; simp; omega))) q).trans (b7.mono (by have := C4.out.size; have := b5.size; simp at *; omega)))
        clear b5 b7
        go_wp2
        go_ret
        exact ⟨rfl, C7.out⟩
    · subst h1 h2
      simp only [List.length_nil] at *
      have hcase : n < 0 ∨ (¬ n < 0 ∧ 64 < n) ∨ (¬ n < 0 ∧ ¬ 64 < n ∧ p < 0) ∨ (¬ n < 0 ∧ ¬ 64 < n ∧ ¬ p < 0 ∧ 64 < p) := by omega
      have HN := Lib.hid hnot
      clear hnot hsplit hl
      rcases hcase with h | ⟨g, h⟩ | ⟨g, g', h⟩ | ⟨g, g', g'', h⟩
      all_goals
        go_wp2_with (go_at_call 29; refine (alive_any _).mono ?_; rintro e w5 ⟨rfl, hb5⟩)
        go_ret
        exact ⟨rfl, C4.out.trans (hb5.mono C4.out.size)⟩

set_option maxRecDepth 100000 in
theorem lifted (os : Os) (started : os.Started) (H : Type) (enc : TypeId × Value → H) :
    ReturnsInHanded {} Try.checked os 8 .any (Rows.fnNewThinSpec.pre6 enc Try.prog Try.f8 Rows.fnNewThinRow.domain false) (Rows.fnNewThinSpec.post enc Try.prog Try.f8 false true false false) := by
  refine returnsInHanded_of_change (C := Try.checked) own started (by kernel_rfl) Try.func8
    (ChangeSpec.witness6 (enc := enc) (C := Try.checked) false ⟨#[], #[.slice none 0 0], []⟩ 8 (by kernel_rfl) (by kernel_rfl) (by kernel_rfl) (by kernel_rfl)) ?_
  intro W base args ds gs before hval0 hW hcnd _
  have hval : ∀ (j : Nat) t v, Try.f8.params[j]? = some t → args[j]? = some v → Value.okWide Try.prog W .any base t v := hval0
  have hW' := hW
  obtain ⟨p, q, hA0, hV, rfl, hfz, hnd⟩ := hW
  have hA : DataW.TrodAll enc Try.prog W 0 (fun _ => true) true Try.f8.params.toList args.toList ds p := hA0
  rw [Try.params8] at hA hval
  obtain ⟨v0, vs0, d0, ds0, p0, q0, hargs, rfl, rfl, h0, r0⟩ := trodAll_cons hA
  obtain ⟨rfl, rfl, rfl⟩ := trodAll_nil r0
  obtain rfl : args = #[v0] := by cases args; simp_all
  obtain ⟨rfl, rfl⟩ := trodVars_none hV
  have k0 := h0
  have lt0 : ∀ x ∈ p0, x.block < W.heap.size := by obtain ⟨m, hm⟩ := k0; exact DataW.trod_lt m _ _ _ hm
  obtain ⟨a0, n0, c0, rfl, ok0, le0, cl0⟩ := open_bytes (hval 0 38 v0 rfl rfl) h0
  clear hA0 hval0
  refine (walk a0 n0 c0 W ok0 le0 cl0).mono fun e W' ⟨he, bel⟩ => ?_
  subst he
  exact ⟨_, rfl, _, _, _, [], _, [], hW', trodAll_mk1 (shut_bool Try.underlying4 _), (trodAll_cons_mk (Below.trod laidOut (by kernel_rfl) (of_decide_eq_true (by kernel_rfl)) k0 bel lt0) trodAll_mk0), rfl, bel.frame _, fun h => by cases h⟩

theorem proved : Rows.FnNewThinSaid :=
  OpenClaim.holds_of_wide 8 Try.f8 rfl rfl rfl rfl rfl rfl rfl ⟨rfl, rfl, rfl, rfl, rfl⟩ rfl rfl rfl rfl rfl (by kernel_rfl) Try.func8 (by kernel_rfl)
    (of_decide_eq_true (by kernel_rfl)) (by unfold Func.isWrapper; first | (rw [if_pos (by decide +kernel)]; kernel_rfl) | (rw [if_neg (by decide +kernel)]; exact ⟨rfl, rfl⟩))
    (fun os started H enc _ => lifted os started H enc)
#print axioms proved
end Go.Proofs.Ytjkbooflbfnbiaa.fnNewThin
