/- Contracts of ReplayJournal, the program's and the reference's. -/
import Derived.Test.YthghngphamimgaaRecC
import Derived.Test.YthghngphamimgaaCloneI
import Derived.Test.YthghngphamimgaaAppR
namespace Go.Proofs.Ythghngphamimgaa
open Go.RowKit
set_option linter.unusedVariables false

theorem replay_split (d : List Int) (l : List Rc) : (replayV d l = [] ∧ (diskB d && jrB l d.length) = false) ∨ (diskB d = true ∧ jrB l d.length = true ∧ replayV d l = replayN (commN l) l d) := by
  unfold replayV
  cases h : (diskB d && jrB l d.length)
  · exact .inl ⟨by simp, rfl⟩
  · simp only [Bool.and_eq_true] at h
    exact .inr ⟨h.1, h.2, by simp⟩
theorem ints_one' (l : List Int) : ∀ u ∈ l.map (Value.int .i64), u.oneCell' = true := by
  intro u hu
  simp only [List.mem_map] at hu
  obtain ⟨x, _, rfl⟩ := hu
  rfl
/-- The row of the call's own that has a cell at least is written out. -/
theorem own_pos {w : World} {base : Nat} {e : TypeId} {size n : Nat} {A : Option Addr} {c : Nat} {xs : List Value} (h : w.ownsRow base e size (.slice A n c) n xs) (hn : 0 < n) : ∃ g, A = some ⟨g, 0, none⟩ ∧ base ≤ g ∧ g < w.heap.size := by
  rcases own_cases h with ⟨_, h0⟩ | ⟨g, cap, hv, hb, hg⟩
  · omega
  · injection hv with e1
    exact ⟨g, e1, hb, hg⟩

def RPost (d : List Int) (l : List Rc) (w : World) (e : Ending) (w' : World) : Prop := OwnIs (replayV d l) w e w'

set_option maxHeartbeats 4000000 in
theorem implReplay_any (A B : Option Addr) (ca cb : Nat) (d : List Int) (l : List Rc) (w : World) (hd : ReadC w A (d.map (Value.int .i64))) (h : RecsIn w B l) (hdl : d.length ≤ 1000000000) (hl : l.length ≤ 1000000000) (hc1 : l.length ≤ cb) (hc2 : cb ≤ 9223372036854775807) :
    Calls Try.prog 32 #[.slice A d.length ca, .slice B l.length cb] w (RPost d l w) := by
  rcases replay_split d l with ⟨hr, hv⟩ | ⟨hv1, hv2, hr⟩
  · have hno := Lib.hid (fun w' (hb : Below w.heap.size w w') => show RPost d l w (.returned (.slice none 0 0)) w' from by unfold RPost; rw [hr]; exact ⟨none, 0, rfl, World.ownsRow_nil _ _ _ _, hb⟩)
    clear hr
    cases hv1 : diskB d
    · go_enter Try.func32, Try.ntmps32
      go_wp2_with (go_at_call 49; refine (diskValid_any _ _ d _ (IntsIn.of hd) (by omega)).mono ?_; rintro e w' ⟨rfl, rfl⟩; rw [hv1])
      go_ret
      exact hno.out _ (Below.refl _ _)
    · have hv2 : jrB l d.length = false := by rw [hv1] at hv; simpa using hv
      clear hv
      go_enter Try.func32, Try.ntmps32
      go_wp2_with (go_at_call 49; refine (diskValid_any _ _ d _ (IntsIn.of hd) (by omega)).mono ?_; rintro e w' ⟨rfl, rfl⟩; rw [hv1])
      refine (implJr_any B cb l d.length w h hl hc1 hc2).mono ?_
      rintro e w1 ⟨rfl, b1⟩
      rw [hv2]
      go_wp2
      go_ret
      exact hno.out _ b1
  · have hyes := Lib.hid (fun A c R w' (hR : replayN (commN l) l d = R) (ho : w'.ownsRow w.heap.size 3 1 (.slice A d.length c) d.length (R.map (Value.int .i64))) (hb : Below w.heap.size w w') => show RPost d l w (.returned (.slice A d.length c)) w' from by
      have e : R.length = d.length := by rw [← hR, replayN_len]
      unfold RPost; rw [hr, hR]; exact ⟨A, c, by rw [e], by rw [e]; exact ho, hb⟩)
    obtain ⟨_, _, dl, hup⟩ := jr_parts hv2
    have hall := Lib.hid (upB_all hup)
    clear hr hup
    have HD := Lib.hid hd
    have HR := Lib.hid h
    go_enter Try.func32, Try.ntmps32
    go_wp2_with (go_at_call 49; refine (diskValid_any _ _ d _ (IntsIn.of hd) (by omega)).mono ?_; rintro e w' ⟨rfl, rfl⟩; rw [hv1])
    refine (implJr_any B cb l d.length w h hl hc1 hc2).mono ?_
    rintro e w1 ⟨rfl, b1⟩
    rw [hv2]
    clear hv1 hv2 hd h
    have B1 := Lib.hid b1
    clear b1
    go_wp2_with fail
    refine (clone_ints A d.length ca _ w1 (HD.out.below B1.out) (by simp) (ints_one' d) (by omega)).mono ?_
    rintro e w2 ⟨v2, rfl, o2, b2⟩
    obtain ⟨A2, c2, rfl⟩ := own_slice o2
    have O2 := Lib.hid (own_mono o2 B1.out.size)
    have B2 := Lib.hid (B1.out.trans (b2.mono B1.out.size))
    clear o2 b2 B1
    go_wp2_with fail
    refine (committedIn_any B cb l w2 (HR.out.below B2.out) hl).mono ?_
    obtain ⟨N, hN⟩ : ∃ N, N = commN l := ⟨_, rfl⟩
    have hNl := commN_len l
    rw [← hN] at hNl ⊢
    rw [← hN] at hyes
    clear hN
    rintro e w3 ⟨A3, c3, rfl, o3, b3⟩
    have O3 := Lib.hid (own_below O2.out b3 (Nat.le_refl _))
    have N3 := Lib.hid o3
    have B3 := Lib.hid (B2.out.trans (b3.mono B2.out.size))
    have G2 := Lib.hid O2.out.lt
    have Z2 := Lib.hid B2.out.size
    clear o3 b3 O2 B2
    go_wp2
    go_loopw [25] (fun y wr => ∃ (i : Nat), i ≤ N.length ∧ y = .int .i64 i ∧ Hid (wr.ownsRow w.heap.size 3 1 (.slice A2 d.length c2) d.length ((replayN (N.take i) l d).map (Value.int .i64))) ∧ Hid (wr.ownsRow w2.heap.size 3 1 (.slice A3 N.length c3) N.length (N.map (Value.int .i64))) ∧ Hid (Below w.heap.size w wr)) (fun y _ => N.length - (intOf y).toNat)
    case atStart => exact ⟨0, Nat.zero_le _, rfl, by simpa [replayN] using O3, N3, B3⟩
    case round =>
      obtain ⟨i, hi, rfl, ho, hn, hb⟩ := hrel
      by_cases hlt : i < N.length
      · obtain ⟨g3, rfl, _⟩ := own_pos hn.out (by omega)
        have c1 := hn.out.cellAt i (by omega)
        rw [List.getElem?_map, List.getElem?_eq_getElem hlt] at c1
        have hst := Lib.hid (replayN_step (l := l) (d := d) hlt)
        obtain ⟨t, ht⟩ : ∃ t, t = N[i] := ⟨_, rfl⟩
        rw [← ht] at c1 hst
        simp only [Option.map_some] at c1
        clear ht
        obtain ⟨D, hD⟩ : ∃ D, D = replayN (N.take i) l d := ⟨_, rfl⟩
        have hDl : D.length = d.length := by rw [hD, replayN_len]
        rw [← hD] at hst ho
        clear hD
        go_wp2
        clear c1
        go_loopw [31] (fun y wr => ∃ (k : Nat), k ≤ l.length ∧ y = .int .i64 k ∧ Hid (wr.ownsRow w.heap.size 3 1 (.slice A2 d.length c2) d.length ((replay1 t (l.take k) D).map (Value.int .i64))) ∧ Hid (wr.ownsRow w2.heap.size 3 1 (.slice (some ⟨g3, 0, none⟩) N.length c3) N.length (N.map (Value.int .i64))) ∧ Hid (Below w.heap.size w wr)) (fun y _ => l.length - (intOf y).toNat)
        case atStart => exact ⟨0, Nat.zero_le _, rfl, by simpa [replay1] using ho, hn, hb⟩
        case round =>
          obtain ⟨k, hk, rfl, ho, hn, hb⟩ := hrel
          by_cases hkl : k < l.length
          · obtain ⟨b, off, rfl, hc⟩ := HR.out.below hb.out (by omega)
            obtain ⟨c1, c2', c3', c4⟩ := hc k hkl
            have hs1 := Lib.hid (replay1_step (t := t) (d := D) hkl)
            have hrec := isRec_parts (hall.out _ (List.getElem_mem hkl))
            clear hc
            obtain ⟨⟨f, o, q, z⟩, hfn⟩ : ∃ p : Rc, p = l[k] := ⟨_, rfl⟩
            rw [← hfn] at c1 c2' c3' c4 hs1 hrec
            simp only at c1 c2' c3' c4 hs1 hrec
            clear hfn
            obtain ⟨-, -, -, hq⟩ := hrec
            have HQ := Lib.hid hq
            clear hq
            have X := Lib.hid (show Blk (wr.alloc (.cells #[.int .i64 f, .bool o, .int .i64 q, .int .i64 z] 33)) wr.heap.size 33 #[.int .i64 f, .bool o, .int .i64 q, .int .i64 z] from Blk.new rfl)
            have HB := Lib.hid (b_alloc hb.out (.cells #[.int .i64 f, .bool o, .int .i64 q, .int .i64 z] 33))
            have HO := Lib.hid (ho.out.alloc (.cells #[.int .i64 f, .bool o, .int .i64 q, .int .i64 z] 33))
            have HN := Lib.hid (hn.out.alloc (.cells #[.int .i64 f, .bool o, .int .i64 q, .int .i64 z] 33))
            have hlt2 := Lib.hid ho.out.lt
            have ho' := Lib.hid ho
            have hn' := Lib.hid hn
            have hb' := Lib.hid hb
            clear ho hn hb
            cases hft : (f == t)
            · have Hs := Lib.hid (show replay1 t (l.take (k + 1)) D = replay1 t (l.take k) D from by rw [hs1.out, if_neg]; rintro ⟨e, _⟩; rw [e] at hft; simp at hft)
              clear hs1 X
              go_wp2
              go_roundw
              case rel => exact ⟨k + 1, by omega, by go_num, by rw [Hs.out]; exact HO, HN, HB⟩
              case measure => simp [intOf]; omega
            · cases o
              · obtain ⟨q0, q1, _, _⟩ := HQ.out rfl
                have Hs := Lib.hid (show replay1 t (l.take (k + 1)) D = (replay1 t (l.take k) D).set q.toNat z from by rw [hs1.out, if_pos ⟨by simpa using hft, rfl⟩])
                obtain ⟨qn, rfl⟩ := Int.eq_ofNat_of_zero_le q0
                obtain ⟨g2, rfl, hg0, hgl⟩ := own_pos ho'.out.out (by omega)
                have hgw : g2 < w2.heap.size := (G2.out g2 rfl).2
                have hst := ho'.out.out.stored qn (.int .i64 z)
                have hcell := ho'.out.out.cellAt qn (by omega)
                have hfr := ho'.out.out.frozenAt qn
                rw [List.getElem?_eq_getElem (by rw [List.length_map, replay1_len]; omega)] at hcell
                have HO2 := Lib.hid (show World.ownsRow _ w.heap.size 3 1 (.slice (some ⟨g2, 0, none⟩) d.length c2) d.length ((replay1 t (l.take (k + 1)) D).map (Value.int .i64)) from (show World.ownsRow (wr.setCell ⟨g2, qn, none⟩ (.int .i64 z)) w.heap.size 3 1 (.slice (some ⟨g2, 0, none⟩) d.length c2) d.length ((replay1 t (l.take (k + 1)) D).map (Value.int .i64)) by rw [Hs.out, List.map_set]; exact hst.1).alloc (.cells #[.int .i64 f, .bool false, .int .i64 qn, .int .i64 z] 33))
                have HN2 := Lib.hid ((own_far (p := ⟨g2, qn, none⟩) hn'.out.out (fun g hg => by have := (hn'.out.out.lt g hg).1; show g ≠ g2; omega) (.int .i64 z)).alloc (.cells #[.int .i64 f, .bool false, .int .i64 qn, .int .i64 z] 33))
                have HB2 := Lib.hid (b_alloc (hb'.out.out.setCell (p := ⟨g2, qn, none⟩) hg0 (.int .i64 z)) (.cells #[.int .i64 f, .bool false, .int .i64 qn, .int .i64 z] 33))
                obtain ⟨u0, hu0⟩ : ∃ u, u = ((replay1 t (l.take k) D).map (Value.int .i64))[qn]'(by rw [List.length_map, replay1_len]; omega) := ⟨_, rfl⟩
                rw [← hu0] at hcell
                clear hu0 hst hs1 HO HN HB X HQ Hs hlt2 ho' hn' hb'
                go_wp2
                go_roundw
                case rel => exact ⟨k + 1, by omega, by go_num, HO2, HN2, HB2⟩
                case measure => simp [intOf]; omega
              · have Hs := Lib.hid (show replay1 t (l.take (k + 1)) D = replay1 t (l.take k) D from by rw [hs1.out, if_neg]; rintro ⟨_, e⟩; cases e)
                clear hs1 X
                go_wp2
                go_roundw
                case rel => exact ⟨k + 1, by omega, by go_num, by rw [Hs.out]; exact HO, HN, HB⟩
                case measure => simp [intOf]; omega
          · have ho2 := Lib.hid (show wr.ownsRow w.heap.size 3 1 (.slice A2 d.length c2) d.length ((replayN (N.take (i + 1)) l d).map (Value.int .i64)) by have := ho.out; rw [List.take_of_length_le (by omega)] at this; rw [hst.out]; exact this)
            clear ho
            go_wp2
            go_roundw
            case rel => exact ⟨i + 1, by omega, by go_num, ho2, hn, hb⟩
            case measure => simp [intOf]; omega
      · have hfin := Lib.hid (hyes.out A2 c2 _ wr rfl (by have := ho.out; rwa [List.take_of_length_le (by omega)] at this) hb.out)
        clear hyes ho hn hb
        go_wp2
        go_ret
        exact hfin.out

set_option maxHeartbeats 4000000 in
theorem specReplay_any (A B : Option Addr) (ca cb : Nat) (d : List Int) (l : List Rc) (w : World) (hd : ReadC w A (d.map (Value.int .i64))) (h : RecsIn w B l) (hdl : d.length ≤ 1000000000) (hl : l.length ≤ 1000000000) :
    Calls Try.prog 31 #[.slice A d.length ca, .slice B l.length cb] w (RPost d l w) := by
  rcases replay_split d l with ⟨hr, hv⟩ | ⟨hv1, hv2, hr⟩
  · have hno := Lib.hid (fun w' (hb : Below w.heap.size w w') => show RPost d l w (.returned (.slice (some ⟨w'.heap.size, 0, none⟩) 0 0)) (w'.alloc (.cells #[] 3)) from by
      unfold RPost; rw [hr]
      exact ⟨_, 0, rfl, World.ownsRow_lit (e := 3) (size := 1) (base := w.heap.size) w' #[] 0 hb.size (by simp [maxLen]) (by simp), b_alloc hb _⟩)
    clear hr
    cases hv1 : diskB d
    · go_enter Try.func31, Try.ntmps31
      go_wp2_with (go_at_call 48; refine (specDisk_any _ _ d _ (IntsIn.of hd) (by omega)).mono ?_; rintro e w' ⟨rfl, rfl⟩; rw [hv1])
      go_ret
      exact hno.out _ (Below.refl _ _)
    · have hv2 : jrB l d.length = false := by rw [hv1] at hv; simpa using hv
      clear hv
      go_enter Try.func31, Try.ntmps31
      go_wp2_with (go_at_call 48; refine (specDisk_any _ _ d _ (IntsIn.of hd) (by omega)).mono ?_; rintro e w' ⟨rfl, rfl⟩; rw [hv1])
      refine (specJr_any B cb l d.length w h hl).mono ?_
      rintro e w1 ⟨rfl, b1⟩
      rw [hv2]
      go_wp2
      go_ret
      exact hno.out _ b1
  · have hyes := Lib.hid (fun A c R w' (hR : replayN (commN l) l d = R) (ho : w'.ownsRow w.heap.size 3 1 (.slice A d.length c) d.length (R.map (Value.int .i64))) (hb : Below w.heap.size w w') => show RPost d l w (.returned (.slice A d.length c)) w' from by
      have e : R.length = d.length := by rw [← hR, replayN_len]
      unfold RPost; rw [hr, hR]; exact ⟨A, c, by rw [e], by rw [e]; exact ho, hb⟩)
    obtain ⟨_, _, dl, hup⟩ := jr_parts hv2
    have hcv : commV l = commN l := by
      unfold commV
      rw [if_pos (jr_mono hv2 dl (by omega))]
    have HCV := Lib.hid hcv
    have hall := Lib.hid (upB_all hup)
    clear hr hup hcv
    obtain ⟨i0, hi0, hz0, hz1, hz2⟩ := info_parts rowinfo_i
    have HD := Lib.hid hd
    have HR := Lib.hid h
    go_enter Try.func31, Try.ntmps31
    go_wp2_with (go_at_call 48; refine (specDisk_any _ _ d _ (IntsIn.of hd) (by omega)).mono ?_; rintro e w' ⟨rfl, rfl⟩; rw [hv1])
    refine (specJr_any B cb l d.length w h hl).mono ?_
    rintro e w1 ⟨rfl, b1⟩
    rw [hv2]
    clear hv1 hv2 hd h
    have B1 := Lib.hid b1
    clear b1
    have L1 := Lib.hid (World.ownsRow_lit (e := 3) (size := 1) (base := w.heap.size) w1 #[] 0 B1.out.size (by simp [maxLen]) (by simp))
    have D1 := Lib.hid ((HD.out.below B1.out).alloc (.cells #[] 3))
    go_wp2_with (at_builtin; refine wpList_append_r _ rfl (.tmp 20) (.tmp 21) 36 rfl w.heap.size 3 i0 (.int .i64 0) 1 8 Try.underlying36 hi0 hz0 hz1 hz2 rfl (by decide) _ 0 [] L1.out rfl A d.length ca (d.map (Value.int .i64)) D1.out rfl (by simp) (ints_one' d) (by simp only [maxLen]; omega) (by omega) (by have := B1.out.size; simp; omega) ?_; intro v2 w2 o2 g2 n2; rw [Nat.zero_add] at o2; obtain ⟨A2, c2, rfl⟩ := own_slice o2)
    have O2 := Lib.hid (show w2.ownsRow w.heap.size 3 1 (.slice A2 d.length c2) d.length (d.map (Value.int .i64)) by simpa using o2)
    have B2 := Lib.hid ((b_alloc B1.out (.cells #[] 3)).grown g2 (by have := B1.out.size; simp; omega) (fun g hg => by have := B1.out.size; simp [Value.ownBlock] at hg; omega))
    clear o2 g2 n2 B1 L1 D1 hi0 hz0 hz1 hz2
    go_wp2_with fail
    refine (specComm_any B cb l w2 (HR.out.below B2.out) hl).mono ?_
    rw [HCV.out]
    obtain ⟨N, hN⟩ : ∃ N, N = commN l := ⟨_, rfl⟩
    have hNl := commN_len l
    rw [← hN] at hNl ⊢
    rw [← hN] at hyes
    clear hN HCV
    rintro e w3 ⟨A3, c3, rfl, o3, b3⟩
    have O3 := Lib.hid (own_below O2.out b3 (Nat.le_refl _))
    have N3 := Lib.hid o3
    have B3 := Lib.hid (B2.out.trans (b3.mono B2.out.size))
    have G2 := Lib.hid O2.out.lt
    have Z2 := Lib.hid B2.out.size
    clear o3 b3 O2 B2
    go_wp2
    go_loopw [7] (fun y wr => ∃ (i : Nat), i ≤ N.length ∧ y = .int .i64 i ∧ Hid (wr.ownsRow w.heap.size 3 1 (.slice A2 d.length c2) d.length ((replayN (N.take i) l d).map (Value.int .i64))) ∧ Hid (wr.ownsRow w2.heap.size 3 1 (.slice A3 N.length c3) N.length (N.map (Value.int .i64))) ∧ Hid (Below w.heap.size w wr)) (fun y _ => N.length - (intOf y).toNat)
    case atStart => exact ⟨0, Nat.zero_le _, rfl, by simpa [replayN] using O3, N3, B3⟩
    case round =>
      obtain ⟨i, hi, rfl, ho, hn, hb⟩ := hrel
      by_cases hlt : i < N.length
      · obtain ⟨g3, rfl, _⟩ := own_pos hn.out (by omega)
        have hst := Lib.hid (replayN_step (l := l) (d := d) hlt)
        obtain ⟨t, ht⟩ : ∃ t, t = N[i] := ⟨_, rfl⟩
        rw [← ht] at hst
        have HT := Lib.hid ht
        clear ht
        obtain ⟨D, hD⟩ : ∃ D, D = replayN (N.take i) l d := ⟨_, rfl⟩
        have hDl : D.length = d.length := by rw [hD, replayN_len]
        rw [← hD] at hst ho
        clear hD
        go_wp2
        go_loopw [8] (fun y wr => ∃ (k : Nat), k ≤ l.length ∧ y = .int .i64 k ∧ Hid (wr.ownsRow w.heap.size 3 1 (.slice A2 d.length c2) d.length ((replay1 t (l.take k) D).map (Value.int .i64))) ∧ Hid (wr.ownsRow w2.heap.size 3 1 (.slice (some ⟨g3, 0, none⟩) N.length c3) N.length (N.map (Value.int .i64))) ∧ Hid (Below w.heap.size w wr)) (fun y _ => l.length - (intOf y).toNat)
        case atStart => exact ⟨0, Nat.zero_le _, rfl, by simpa [replay1] using ho, hn, hb⟩
        case round =>
          obtain ⟨k, hk, rfl, ho, hn, hb⟩ := hrel
          by_cases hkl : k < l.length
          · obtain ⟨b, off, rfl, hc⟩ := HR.out.below hb.out (by omega)
            obtain ⟨c1, c2', c3', c4⟩ := hc k hkl
            have cn := hn.out.cellAt i (by omega)
            rw [List.getElem?_map, List.getElem?_eq_getElem hlt, ← HT.out] at cn
            simp only [Option.map_some] at cn
            have hs1 := Lib.hid (replay1_step (t := t) (d := D) hkl)
            have hrec := isRec_parts (hall.out _ (List.getElem_mem hkl))
            clear hc
            obtain ⟨⟨f, o, q, z⟩, hfn⟩ : ∃ p : Rc, p = l[k] := ⟨_, rfl⟩
            rw [← hfn] at c1 c2' c3' c4 hs1 hrec
            simp only at c1 c2' c3' c4 hs1 hrec
            have HF := Lib.hid hfn
            clear hfn
            obtain ⟨-, -, -, hq⟩ := hrec
            have HQ := Lib.hid hq
            clear hq
            have ho' := Lib.hid (fun m => show (wr.drewN m).ownsRow w.heap.size 3 1 (.slice A2 d.length c2) d.length ((replay1 t (l.take k) D).map (Value.int .i64)) from ho.out)
            have hn' := Lib.hid (fun m => show (wr.drewN m).ownsRow w2.heap.size 3 1 (.slice (some ⟨g3, 0, none⟩) N.length c3) N.length (N.map (Value.int .i64)) from hn.out)
            have hb' := Lib.hid (fun m => belowN hb.out m)
            clear ho hn hb
            cases hft : (f == t)
            · have Hs := Lib.hid (show replay1 t (l.take (k + 1)) D = replay1 t (l.take k) D from by rw [hs1.out, if_neg]; rintro ⟨e, _⟩; rw [e] at hft; simp at hft)
              clear hs1
              go_wp2
              go_quiet (fail)
              go_wp2
              go_roundw
              case rel => exact ⟨k + 1, by omega, by go_num, by rw [Hs.out]; exact ho'.out _, hn'.out _, hb'.out _⟩
              case measure => simp [intOf]; omega
            · cases o
              · obtain ⟨q0, q1, _, _⟩ := HQ.out rfl
                have Hs := Lib.hid (show replay1 t (l.take (k + 1)) D = (replay1 t (l.take k) D).set q.toNat z from by rw [hs1.out, if_pos ⟨by simpa using hft, rfl⟩])
                obtain ⟨qn, rfl⟩ := Int.eq_ofNat_of_zero_le q0
                go_wp2
                go_quiet (fail)
                go_wp2
                have ho2 := ho'.out nq
                have hn2 := Lib.hid (hn'.out nq)
                have hb2 := Lib.hid (hb'.out nq)
                clear ho' hn' hb' c1 c2' c3' c4 cn
                generalize wr.drewN nq = w5 at *
                obtain ⟨b', off', hbo, hc⟩ := HR.out.below hb2.out (by omega)
                obtain ⟨rfl, rfl⟩ : b = b' ∧ off = off' := by injection hbo with hbo; injection hbo with h1 h2; exact ⟨h1, h2⟩
                obtain ⟨-, -, c3', c4⟩ := hc k hkl
                rw [← HF.out] at c3' c4
                simp only at c3' c4
                clear hbo hc
                obtain ⟨g2, rfl, hg0, hgl⟩ := own_pos ho2 (by omega)
                have hgw : g2 < w2.heap.size := (G2.out g2 rfl).2
                have hst2 := ho2.stored qn (.int .i64 z)
                have hcell := ho2.cellAt qn (by omega)
                have hfr := ho2.frozenAt qn
                rw [List.getElem?_eq_getElem (by rw [List.length_map, replay1_len]; omega)] at hcell
                obtain ⟨u0, hu0⟩ : ∃ u, u = ((replay1 t (l.take k) D).map (Value.int .i64))[qn]'(by rw [List.length_map, replay1_len]; omega) := ⟨_, rfl⟩
                rw [← hu0] at hcell
                have HO2 := Lib.hid (show (w5.setCell ⟨g2, qn, none⟩ (.int .i64 z)).ownsRow w.heap.size 3 1 (.slice (some ⟨g2, 0, none⟩) d.length c2) d.length ((replay1 t (l.take (k + 1)) D).map (Value.int .i64)) by rw [Hs.out, List.map_set]; exact hst2.1)
                have HN2 := Lib.hid (own_far (p := ⟨g2, qn, none⟩) hn2.out (fun g hg => by have := (hn2.out.lt g hg).1; show g ≠ g2; omega) (.int .i64 z))
                have HB2 := Lib.hid (hb2.out.setCell (p := ⟨g2, qn, none⟩) hg0 (.int .i64 z))
                have HB2D := Lib.hid ((b_drew hb2.out).setCell (p := ⟨g2, qn, none⟩) hg0 (.int .i64 z))
                clear hst2 ho2 hn2 hb2 hu0 hs1 Hs HQ
                go_region
                all_goals
                  go_wp2
                  go_roundw
                  case rel => exact ⟨k + 1, by omega, by go_num, HO2, HN2, HB2D⟩
                  case measure => simp [intOf]; omega
              · have Hs := Lib.hid (show replay1 t (l.take (k + 1)) D = replay1 t (l.take k) D from by rw [hs1.out, if_neg]; rintro ⟨_, e⟩; cases e)
                clear hs1
                go_wp2
                go_quiet (fail)
                go_wp2
                go_roundw
                case rel => exact ⟨k + 1, by omega, by go_num, by rw [Hs.out]; exact ho'.out _, hn'.out _, hb'.out _⟩
                case measure => simp [intOf]; omega
          · have ho2 := Lib.hid (show wr.ownsRow w.heap.size 3 1 (.slice A2 d.length c2) d.length ((replayN (N.take (i + 1)) l d).map (Value.int .i64)) by have := ho.out; rw [List.take_of_length_le (by omega)] at this; rw [hst.out]; exact this)
            clear ho
            go_wp2
            go_roundw
            case rel => exact ⟨i + 1, by omega, by go_num, ho2, hn, hb⟩
            case measure => simp [intOf]; omega
      · have hfin := Lib.hid (hyes.out A2 c2 _ wr rfl (by have := ho.out; rwa [List.take_of_length_le (by omega)] at this) hb.out)
        clear hyes ho hn hb
        go_wp2
        go_ret
        exact hfin.out
end Go.Proofs.Ythghngphamimgaa
