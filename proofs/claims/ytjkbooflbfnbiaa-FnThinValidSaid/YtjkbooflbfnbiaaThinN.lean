/- Contracts of NewThin, the program's and the reference's. -/
import Derived.Test.YtjkbooflbfnbiaaRep
import Derived.Test.YtjkbooflbfnbiaaThinG
import Derived.Deep.RegionWith
namespace Go.Proofs.Ytjkbooflbfnbiaa
open Go.RowKit
set_option linter.unusedVariables false

def newW (n p : Int) : List Int := if inB n 0 64 && inB p 0 64 then List.replicate n.toNat (-1) else []
def newP (n p : Int) : List Int := if inB n 0 64 && inB p 0 64 then List.replicate p.toNat 0 else []
def OwnThin (W P : List Int) (w : World) (e : Ending) (w' : World) : Prop :=
  ∃ v, e = .returned v ∧ ThinO w.heap.size w'.heap.size w' v W P ∧ Below w.heap.size w w'
theorem thin_nil (lo hi : Nat) (w : World) : ThinO lo hi w (.agg #[.slice none 0 0, .slice none 0 0]) [] [] :=
  ⟨none, 0, none, 0, rfl, World.ownsRow_nil _ _ _ _, World.ownsRow_nil _ _ _ _, fun g hg => by simp [Value.ownBlock] at hg, fun g hg => by simp [Value.ownBlock] at hg, fun g hg => by simp [Value.ownBlock] at hg⟩

theorem new_fin {lo : Nat} {wf : World} {g N M c : Nat} {A : Option Addr} (o : wf.ownsRow lo 3 1 (.slice A N c) N ((List.replicate N (-1 : Int)).map (Value.int .i64))) (z : Blk wf g 3 (madeCells #[Value.int .i64 0] M)) (hg : lo ≤ g) (hM : M ≤ 64)
    (hap : (Value.slice A N c).ownBlock ≠ some g) : ThinO lo wf.heap.size wf (.agg #[.slice A N c, .slice (some ⟨g, 0, none⟩) M M]) (List.replicate N (-1)) (List.replicate M 0) := by
  have hz : wf.ownsRow lo 3 1 (.slice (some ⟨g, 0, none⟩) M M) M ((List.replicate M (0 : Int)).map (Value.int .i64)) := by
    refine ⟨by simp, .inr ⟨g, M, _, rfl, hg, z, Nat.le_refl _, by simp only [maxLen]; omega, by simp [size_madeCells], ?_⟩⟩
    rw [toList_madeCells_one, List.map_replicate, List.take_of_length_le (by simp)]
  have h1 := ThinO.mk (W := List.replicate N (-1)) (P := List.replicate M 0) (A := A) (B := some ⟨g, 0, none⟩) (c := c) (d := M) (hi := wf.heap.size) (by rw [List.length_replicate]; exact o) (by rw [List.length_replicate]; exact hz) (by
    rw [List.length_replicate, List.length_replicate]
    intro x h1 h2
    have : x = g := by simpa [Value.ownBlock] using h2.symm
    exact hap (this ▸ h1)) (Nat.le_refl _)
  rw [List.length_replicate, List.length_replicate] at h1
  exact h1

set_option maxHeartbeats 2000000 in
theorem implNew_any (n p : Int) (w : World) :
    Calls Try.prog 18 #[.int .i64 n, .int .i64 p] w (OwnThin (newW n p) (newP n p) w) := by
  cases h1 : inB n 0 64
  · have hno := Lib.hid (fun w' (hb : Below w.heap.size w w') => show OwnThin (newW n p) (newP n p) w (.returned (.agg #[.slice none 0 0, .slice none 0 0])) w' from ⟨_, rfl, by simp only [newW, newP, h1, Bool.false_and]; exact thin_nil _ _ _, hb⟩)
    go_enter Try.func18, Try.ntmps18
    go_wp2_with (go_at_call 44; refine (within_any _ _ _ _).mono ?_; rintro e w' ⟨rfl, rfl⟩)
    exact bodyPost_ret (v := .agg #[.slice none 0 0, .slice none 0 0]) (by simp [results, Try.results18, go_sem]) rfl (hno.out _ (by first | exact ((b_alloc (Below.refl _ _) _).setCell (Nat.le_refl _) _).setCell (Nat.le_refl _) _ | exact b_alloc (Below.refl _ _) _))
  · cases h2 : inB p 0 64
    · have hno := Lib.hid (fun w' (hb : Below w.heap.size w w') => show OwnThin (newW n p) (newP n p) w (.returned (.agg #[.slice none 0 0, .slice none 0 0])) w' from ⟨_, rfl, by simp only [newW, newP, h2, Bool.and_false]; exact thin_nil _ _ _, hb⟩)
      go_enter Try.func18, Try.ntmps18
      go_wp2_with (go_at_call 44; refine (within_any _ _ _ _).mono ?_; rintro e w' ⟨rfl, rfl⟩)
      exact bodyPost_ret (v := .agg #[.slice none 0 0, .slice none 0 0]) (by simp [results, Try.results18, go_sem]) rfl (hno.out _ (by first | exact ((b_alloc (Below.refl _ _) _).setCell (Nat.le_refl _) _).setCell (Nat.le_refl _) _ | exact b_alloc (Below.refl _ _) _))
    · obtain ⟨n0, n1⟩ := inB_iff.1 h1
      obtain ⟨p0, p1⟩ := inB_iff.1 h2
      obtain ⟨N, rfl⟩ := Int.eq_ofNat_of_zero_le n0
      obtain ⟨M, rfl⟩ := Int.eq_ofNat_of_zero_le p0
      have hyes := Lib.hid (fun (A B : Option Addr) c d w' (ho : ThinO w.heap.size w'.heap.size w' (.agg #[.slice A N c, .slice B M d]) (List.replicate N (-1)) (List.replicate M 0)) (hb : Below w.heap.size w w') => show OwnThin (newW N M) (newP N M) w (.returned (.agg #[.slice A N c, .slice B M d])) w' from ⟨_, rfl, by simp only [newW, newP, h1, h2, Bool.and_true, if_true, Int.toNat_natCast]; exact ho, hb⟩)
      have hmk := make_rows (P := Try.prog) 22 3 (.int .i64 0) 1 8 Try.underlying22 (by kernel_rfl) M (by omega) (by omega)
      have hN : N ≤ 64 := by omega
      have hM : M ≤ 64 := by omega
      go_enter Try.func18, Try.ntmps18
      go_wp2_with (go_at_call 44; refine (within_any _ _ _ _).mono ?_; rintro e w' ⟨rfl, rfl⟩)
      go_region_with (go_at_call 45; refine (repeat_any _ 1 N (-1) _ (by first | (simp; done) | exact ((Blk.new (by simp)).alloc _).drew.cell 0 | exact (Blk.new (by simp)).drew.cell 0) hN (by omega)).mono ?_; rintro e w1 ⟨A1, c1, rfl, o1, b1⟩; have kk : Blk w1 w.heap.size 27 #[.slice none 0 0, .slice none 0 0] := blk_below b1 (by first | exact ((Blk.new rfl).alloc _).drew | exact (((Blk.new rfl).alloc _).alloc _).drew) (by simp; try omega); have hz : w.heap.size < w1.heap.size := kk.lt; obtain ⟨y0, y1, g0, g1⟩ := kk.two)
      all_goals go_wp2
      · have hs : ∀ g, (Value.slice A1 N c1).ownBlock = some g → w.heap.size + 2 ≤ g ∧ g < w1.heap.size := fun g hg => by have := o1.lt g hg; simp at this; omega
        refine bodyPost_ret (v := .agg #[.slice A1 N c1, .slice (some ⟨w1.heap.size, 0, none⟩) M M]) (by simp [results, Try.results18, go_sem, y0, y1, hz]) rfl (hyes.out _ _ _ _ _ (new_fin ?_ (Blk.new (by simp)) (by omega) hM (fun e => by have := hs _ e; omega)) ?_)
        · exact own_mono (((own_far (own_far o1 (fun g hg => by have := hs g hg; simp; omega) _) (fun g hg => by have := hs g hg; simp; omega) _)).alloc _) (by simp; omega)
        · exact b_alloc (((((b_alloc (b_alloc (Below.refl _ _) _) _).drew).trans (b1.mono (by simp; omega))).setCell (by simp) _).setCell (by simp) _) _
      · have hs : ∀ g, (Value.slice A1 N c1).ownBlock = some g → w.heap.size + 3 ≤ g ∧ g < w1.heap.size := fun g hg => by have := o1.lt g hg; simp at this; omega
        have hzb : Blk w1 (w.heap.size + 1 + 1) 3 (madeCells #[Value.int .i64 0] M) := blk_below b1 ((Blk.new (by simp)).drew) (by simp)
        refine bodyPost_ret (v := .agg #[.slice A1 N c1, .slice (some ⟨w.heap.size + 1 + 1, 0, none⟩) M M]) (by simp [results, Try.results18, go_sem, y0, y1]) rfl (hyes.out _ _ _ _ _ (new_fin ?_ ((hzb.far (by show w.heap.size + 1 + 1 ≠ w.heap.size; omega) _).far (by show w.heap.size + 1 + 1 ≠ w.heap.size; omega) _) (by omega) hM (fun e => by have := hs _ e; omega)) ?_)
        · exact own_mono (own_far (own_far o1 (fun g hg => by have := hs g hg; simp; omega) _) (fun g hg => by have := hs g hg; simp; omega) _) (by simp; omega)
        · exact (((((b_alloc (b_alloc (b_alloc (Below.refl _ _) _) _) _).drew).trans (b1.mono (by simp; omega))).setCell (by simp) _).setCell (by simp) _)
      · have hs : ∀ g, (Value.slice A1 N c1).ownBlock = some g → w.heap.size + 3 ≤ g ∧ g < w1.heap.size := fun g hg => by have := o1.lt g hg; simp at this; omega
        have hzb : Blk w1 (w.heap.size + 1) 3 (madeCells #[Value.int .i64 0] M) := blk_below b1 (((Blk.new (by simp)).alloc _).drew) (by simp)
        refine bodyPost_ret (v := .agg #[.slice A1 N c1, .slice (some ⟨w.heap.size + 1, 0, none⟩) M M]) (by simp [results, Try.results18, go_sem, y0, y1]) rfl (hyes.out _ _ _ _ _ (new_fin ?_ ((hzb.far (by simp) _).far (by simp) _) (by omega) hM (fun e => by have := hs _ e; omega)) ?_)
        · exact own_mono (own_far (own_far o1 (fun g hg => by have := hs g hg; simp; omega) _) (fun g hg => by have := hs g hg; simp; omega) _) (by simp; omega)
        · exact (((((b_alloc (b_alloc (b_alloc (Below.refl _ _) _) _) _).drew).trans (b1.mono (by simp; omega))).setCell (by simp) _).setCell (by simp) _)

set_option maxHeartbeats 2000000 in
theorem specNew_any (n p : Int) (w : World) :
    Calls Try.prog 17 #[.int .i64 n, .int .i64 p] w (OwnThin (newW n p) (newP n p) w) := by
  cases h1 : inB n 0 64
  · have hno := Lib.hid (fun w' (hb : Below w.heap.size w w') => show OwnThin (newW n p) (newP n p) w (.returned (.agg #[.slice none 0 0, .slice none 0 0])) w' from ⟨_, rfl, by simp only [newW, newP, h1, Bool.false_and]; exact thin_nil _ _ _, hb⟩)
    go_enter Try.func17, Try.ntmps17
    go_wp2_with (go_at_call 39; refine (l1In_any _ _ _ _).mono ?_; rintro e w' ⟨rfl, rfl⟩)
    exact bodyPost_ret (v := .agg #[.slice none 0 0, .slice none 0 0]) (by simp [results, Try.results17, go_sem]) rfl (hno.out _ (by
      first
        | exact (((b_alloc (b_alloc (Below.refl _ _) _) _).setCell (Nat.le_refl _) _).setCell (Nat.le_refl _) _)
        | exact b_alloc (b_alloc (Below.refl _ _) _) _))
  · cases h2 : inB p 0 64
    · have hno := Lib.hid (fun w' (hb : Below w.heap.size w w') => show OwnThin (newW n p) (newP n p) w (.returned (.agg #[.slice none 0 0, .slice none 0 0])) w' from ⟨_, rfl, by simp only [newW, newP, h2, Bool.and_false]; exact thin_nil _ _ _, hb⟩)
      go_enter Try.func17, Try.ntmps17
      go_wp2_with (go_at_call 39; refine (l1In_any _ _ _ _).mono ?_; rintro e w' ⟨rfl, rfl⟩)
      exact bodyPost_ret (v := .agg #[.slice none 0 0, .slice none 0 0]) (by simp [results, Try.results17, go_sem]) rfl (hno.out _ (by
        first
          | exact (((b_alloc (b_alloc (Below.refl _ _) _) _).setCell (Nat.le_refl _) _).setCell (Nat.le_refl _) _)
          | exact b_alloc (b_alloc (Below.refl _ _) _) _))
    · obtain ⟨n0, n1⟩ := inB_iff.1 h1
      obtain ⟨p0, p1⟩ := inB_iff.1 h2
      obtain ⟨N, rfl⟩ := Int.eq_ofNat_of_zero_le n0
      obtain ⟨M, rfl⟩ := Int.eq_ofNat_of_zero_le p0
      have hyes := Lib.hid (fun (A B : Option Addr) c d w' (ho : ThinO w.heap.size w'.heap.size w' (.agg #[.slice A N c, .slice B M d]) (List.replicate N (-1)) (List.replicate M 0)) (hb : Below w.heap.size w w') => show OwnThin (newW N M) (newP N M) w (.returned (.agg #[.slice A N c, .slice B M d])) w' from ⟨_, rfl, by simp only [newW, newP, h1, h2, Bool.and_true, if_true, Int.toNat_natCast]; exact ho, hb⟩)
      have hmk := make_rows (P := Try.prog) 22 3 (.int .i64 0) 1 8 Try.underlying22 (by kernel_rfl) M (by omega) (by omega)
      obtain ⟨i0, hi0, hz0, hz1, hz2⟩ := info_parts rowinfo_int
      have hN : N ≤ 64 := by omega
      have hM : M ≤ 64 := by omega
      go_enter Try.func17, Try.ntmps17
      go_wp2_with (go_at_call 39; refine (l1In_any _ _ _ _).mono ?_; rintro e w' ⟨rfl, rfl⟩)
      go_loopw [6] (fun y wr => ∃ (k : Nat) (A : Option Addr) (cp : Nat), k ≤ N ∧ y = .int .i64 k ∧ Hid (wr.ownsRow (w.heap.size + 2) 3 1 (.slice A k cp) k ((List.replicate k (-1 : Int)).map (Value.int .i64))) ∧ Hid (Blk wr (w.heap.size + 1) 27 #[.slice A k cp, .slice none 0 0]) ∧ Hid (Blk wr w.heap.size 27 #[.slice none 0 0, .slice none 0 0]) ∧ Hid (Below w.heap.size w wr)) (fun y _ => N - (intOf y).toNat)
      case atStart => exact ⟨0, none, 0, Nat.zero_le _, rfl, World.ownsRow_nil _ _ _ _, Blk.new (by simp), (Blk.new rfl).alloc _, b_alloc (b_alloc (Below.refl _ _) _) _⟩
      case round =>
        obtain ⟨k, A, cp, hk, rfl, ho, hB1, hB0, hb⟩ := hrel
        obtain ⟨x0, x1, f0, f1⟩ := hB1.out.two
        have hlt1 := hB1.out.lt
        have hlt0 : w.heap.size < wr.heap.size := by omega
        by_cases hlt : k < N
        · have H3 := Lib.hid (show World.ownsRow _ _ _ _ _ _ _ from ho.out.alloc (.cells #[.int .i64 (-1)] 3))
          have hnw := Lib.hid (news_at (w := wr) (T := 3) (cs := #[.int .i64 (-1)]))
          have KA := Lib.hid (hB1.out.alloc (.cells #[.int .i64 (-1)] 3))
          have KB := Lib.hid (hB0.out.alloc (.cells #[.int .i64 (-1)] 3))
          have hbs := ho.out.lt
          have HBS := Lib.hid hbs
          clear ho hB1 hB0 hbs
          go_wp2_with (at_builtin; refine wpList_append_own _ rfl (.tmp 23) (.tmp 24) 22 rfl (w.heap.size + 2) 3 i0 (.int .i64 0) 1 8 Try.underlying22 hi0 hz0 hz1 hz2 rfl (by decide) _ k ((List.replicate k (-1 : Int)).map (Value.int .i64)) rfl H3.out ⟨wr.heap.size, 0, none⟩ 1 1 [.int .i64 (-1)] rfl rfl hnw.out (by intro u hu; simp at hu; subst hu; rfl) (by simp only [maxLen]; omega) (by omega) (by simp; omega) ?_; intro v4 w4 hown4 hg4 hnil4; obtain ⟨g4, cap4, rfl⟩ := own_shape hown4; obtain ⟨y0, y1, e0, e1⟩ := (blk_grown hg4 KA.out (fun e => by have := (HBS.out _ e.symm).1; omega)).two)
          have K1 := Lib.hid (show Blk _ (w.heap.size + 1) 27 #[.slice (some ⟨g4, 0, none⟩) (k + 1) cap4, .slice none 0 0] from (blk_grown hg4 KA.out (fun e => by have := (HBS.out _ e.symm).1; omega)).set 0 _)
          have K0 := Lib.hid ((blk_grown hg4 KB.out (fun e => by have := (HBS.out _ e.symm).1; omega)).far (p := ⟨w.heap.size + 1, 0, none⟩) (by simp) (.slice (some ⟨g4, 0, none⟩) (k + 1) cap4))
          have C4 := Lib.hid (((b_alloc hb.out (.cells #[.int .i64 (-1)] 3)).grown hg4 (by have := hb.out.size; simp; omega) (fun g hg => by have := (HBS.out g hg).1; omega)).setCell (p := ⟨w.heap.size + 1, 0, none⟩) (by simp) (.slice (some ⟨g4, 0, none⟩) (k + 1) cap4))
          have O4 := Lib.hid (show World.ownsRow _ (w.heap.size + 2) 3 1 (.slice (some ⟨g4, 0, none⟩) (k + 1) cap4) (k + 1) ((List.replicate (k + 1) (-1 : Int)).map (Value.int .i64)) from own_far (p := ⟨w.heap.size + 1, 0, none⟩) (by rw [List.replicate_succ', List.map_append]; exact hown4) (fun g hg => by have := (hown4.lt g hg).1; show g ≠ w.heap.size + 1; omega) (.slice (some ⟨g4, 0, none⟩) (k + 1) cap4))
          clear hown4 hg4 hnil4 hnw KA KB H3 hb HBS hi0 hz0 hz1 hz2 hmk
          go_roundw
          case rel => exact ⟨k + 1, _, _, by omega, by go_num, O4, K1, K0, C4⟩
          case measure => simp [intOf]; omega
        · obtain rfl : k = N := by omega
          obtain ⟨z0, z1, g0, g1⟩ := hB0.out.two
          have hs := Lib.hid (fun g hg => ho.out.lt g hg)
          clear hi0 hz0 hz1 hz2
          go_wp2
          refine bodyPost_ret (v := .agg #[.slice A k cp, .slice (some ⟨wr.heap.size, 0, none⟩) M M]) (by simp [results, Try.results17, go_sem, *]) rfl (hyes.out _ _ _ _ _ (new_fin ?_ (Blk.new (by simp)) (by omega) hM (fun e => by have := hs.out _ e; omega)) ?_)
          · exact own_mono ((own_far (own_far (own_far ho.out (fun g hg => by have := hs.out g hg; simp; omega) _) (fun g hg => by have := hs.out g hg; simp; omega) _) (fun g hg => by have := hs.out g hg; simp; omega) _).alloc _) (by omega)
          · exact b_alloc (((hb.out.setCell (by simp) _).setCell (by simp) _).setCell (by simp) _) _
end Go.Proofs.Ytjkbooflbfnbiaa
