/- Proves Rows.FnThinFreeSaid: for every input the law FnThinFree returns true and leaves its arguments as they were. Conditions: none. -/
import Derived.Test.YtjkbooflbfnbiaaOpen
import Derived.Test.YtjkbooflbfnbiaaDrV
import Derived.Test.YtjkbooflbfnbiaaThinF
namespace Go.Proofs.Ytjkbooflbfnbiaa.fnThinFree
open Go.ChangeShapes Go.WideShapes Go.ChangeAt Go.RowKit
set_option linter.unusedVariables false
theorem pigeon (N : Nat) : ∀ l : List Int, l.Nodup → (∀ x ∈ l, 0 ≤ x ∧ x < N) → l.length ≤ N := by
  induction N with
  | zero =>
    intro l _ h
    cases l with
    | nil => simp
    | cons x r => have := h x (by simp); omega
  | succ N ih =>
    intro l hn h
    by_cases hm : (N : Int) ∈ l
    · have h1 := ih (l.erase (N : Int)) (hn.erase _) (fun x hx => by
        obtain ⟨h2, h3⟩ := (List.Nodup.mem_erase_iff hn).1 hx
        have := h x h3
        omega)
      rw [List.length_erase_of_mem hm] at h1
      omega
    · have h1 := ih l hn (fun x hx => by
        have h2 := h x hx
        have : x ≠ (N : Int) := fun e => hm (e ▸ hx)
        omega)
      omega
theorem used_nodup {W : List Int} (h : oneB W = true) (k : Nat) (hk : k ≤ W.length) : ((W.take k).filter fun p => decide (0 ≤ p)).Nodup := by
  induction k with
  | zero => simp
  | succ k ih =>
    have hlt : k < W.length := by omega
    rw [List.take_succ_eq_append_getElem hlt, List.filter_append]
    have h1 := ih (by omega)
    by_cases h0 : 0 ≤ W[k]
    · have h2 : ([W[k]].filter fun p => decide (0 ≤ p)) = [W[k]] := by simp [h0]
      have h3 : W[k] ∉ W.take k := by
        have := of_decide_eq_true h k hlt
        rw [List.getD_eq_getElem?_getD, List.getElem?_eq_getElem hlt] at this
        exact this h0
      rw [h2]
      refine List.nodup_append.2 ⟨h1, by simp, ?_⟩
      intro a ha b hb
      simp only [List.mem_singleton] at hb
      subst hb
      intro e
      exact h3 (e ▸ (List.mem_filter.1 ha).1)
    · have h2 : ([W[k]].filter fun p => decide (0 ≤ p)) = [] := by simp [h0]
      rw [h2, List.append_nil]
      exact h1
theorem thin_used {W P : List Int} (h : thinB W P = true) : usedN W ≤ P.length := by
  simp only [thinB, Bool.and_eq_true, allB, List.all_eq_true] at h
  have h1 := used_nodup h.2 W.length (Nat.le_refl _)
  rw [List.take_of_length_le (Nat.le_refl _)] at h1
  refine pigeon P.length _ h1 (fun x hx => ?_)
  obtain ⟨h2, h3⟩ := List.mem_filter.1 hx
  have := inB_iff.1 (h.1.2 x h2)
  have := of_decide_eq_true h3
  omega
set_option maxHeartbeats 4000000 in
theorem walk (A : Option Addr) (m cp : Nat) (w : World) (hb : BytesIn w A m) (hmc : m ≤ cp) (hcp : cp ≤ 9223372036854775807) :
    Calls Try.prog 11 #[.slice A m cp] w fun e w' => e = .returned (.bool true) ∧ Below w.heap.size w w' := by
  by_cases hbig : 1048576 < m
  · go_enter Try.func11, Try.ntmps11
    go_wp2
    go_ret
    exact ⟨rfl, Below.refl _ _⟩
  · go_enter Try.func11, Try.ntmps11
    go_wp2_with fail
    refine (drawThinFree_any A m cp w hb hmc hcp).mono ?_
    rintro e w1 ⟨v, W, P, rfl, ht, lW, lP, b1⟩
    have T1 := Lib.hid ht
    have C1 := Lib.hid b1
    clear b1 hb
    obtain ⟨A1, c1, B1, d1, rfl, _⟩ := ht
    have X1 := Lib.hid (show Blk (w1.alloc (.cells #[.slice A1 W.length c1, .slice B1 P.length d1] 27)) w1.heap.size 27 #[.slice A1 W.length c1, .slice B1 P.length d1] from Blk.new rfl)
    go_wp2_with fail
    refine (implFree_any _ W P _ (T1.out.alloc _) (by omega) (by omega)).mono ?_
    rintro e w2 ⟨rfl, b2⟩
    have X2 := Lib.hid (blk_below b2 X1.out X1.out.lt)
    have T2 := Lib.hid ((T1.out.alloc _).below b2)
    have C2 := Lib.hid ((b_alloc C1.out _).trans (b2.mono (by have := C1.out.size; simp; omega)))
    clear b2 X1 T1 C1
    obtain ⟨x0, x1, f0, f1⟩ := X2.out.two
    go_wp2_with fail
    refine (specFree_any _ W P _ T2.out (by omega) (by omega)).mono ?_
    rintro e w3 ⟨rfl, b3⟩
    have X3 := Lib.hid (blk_below b3 X2.out X2.out.lt)
    have T3 := Lib.hid (T2.out.below b3)
    have C3 := Lib.hid (C2.out.trans (b3.mono C2.out.size))
    clear b3 X2 T2 C2 x0 x1 f0 f1
    obtain ⟨x0, x1, f0, f1⟩ := X3.out.two
    obtain ⟨A', c', B', d', he, hA, _⟩ := T3.out
    simp at he
    obtain ⟨⟨rfl, rfl⟩, rfl, rfl⟩ := he
    have hu := used_le W
    cases hv : thinB W P
    · have hn : freeV W P = -1 := by simp [freeV, hv]
      rw [hn]
      clear hn hv hA
      go_wp2_with (go_at_call 29; refine (alive_any _).mono ?_; rintro e w5 ⟨rfl, hb5⟩)
      go_ret
      exact ⟨rfl, C3.out.trans (hb5.mono C3.out.size)⟩
    · have hw : usedN W ≤ P.length := thin_used hv
      have hn : freeV W P = (P.length : Int) - usedN W := by simp [freeV, hv]
      rw [hn]
      clear hn hv
      go_wp2
      go_loop [5, 6] (fun x y => ∃ k : Nat, k ≤ W.length ∧ x = .int .i64 (usedN (W.take k)) ∧ y = .int .i64 k) (fun _ y => W.length - (intOf y).toNat)
      case atStart => exact ⟨0, Nat.zero_le _, by simp [usedN], rfl⟩
      case round =>
        obtain ⟨k, hk, rfl, rfl⟩ := hrel
        have hu2 := used_le (W.take k)
        rw [List.length_take] at hu2
        by_cases hlt : k < W.length
        · obtain ⟨b, off, rfl, hc⟩ := hA (by omega)
          have c1 := hc k hlt
          have hs := Lib.hid (used_step hlt)
          clear hc hA
          obtain ⟨n, hn⟩ : ∃ n, n = usedN (W.take k) := ⟨_, rfl⟩
          rw [← hn] at hu2 hs ⊢
          clear hn
          by_cases h0 : 0 ≤ W[k]
          · go_wp2
            go_round
            case rel => exact ⟨k + 1, by omega, by rw [hs.out, if_pos h0]; go_num, by go_num⟩
            case measure => simp [intOf]; omega
          · go_wp2
            go_round
            case rel => exact ⟨k + 1, by omega, by rw [hs.out, if_neg h0]; go_num, by go_num⟩
            case measure => simp [intOf]; omega
        · have hfin : usedN (W.take k) = usedN W := by rw [List.take_of_length_le (by omega)]
          rw [hfin]
          clear hfin hu2
          go_wp2
          go_ret
          exact ⟨rfl, C3.out⟩

set_option maxRecDepth 100000 in
theorem lifted (os : Os) (started : os.Started) (H : Type) (enc : TypeId × Value → H) :
    ReturnsInHanded {} Try.checked os 11 .any (Rows.fnThinFreeSpec.pre6 enc Try.prog Try.f11 Rows.fnThinFreeRow.domain false) (Rows.fnThinFreeSpec.post enc Try.prog Try.f11 false true false false) := by
  refine returnsInHanded_of_change (C := Try.checked) own started (by kernel_rfl) Try.func11
    (ChangeSpec.witness6 (enc := enc) (C := Try.checked) false ⟨#[], #[.slice none 0 0], []⟩ 8 (by kernel_rfl) (by kernel_rfl) (by kernel_rfl) (by kernel_rfl)) ?_
  intro W base args ds gs before hval0 hW hcnd _
  have hval : ∀ (j : Nat) t v, Try.f11.params[j]? = some t → args[j]? = some v → Value.okWide Try.prog W .any base t v := hval0
  have hW' := hW
  obtain ⟨p, q, hA0, hV, rfl, hfz, hnd⟩ := hW
  have hA : DataW.TrodAll enc Try.prog W 0 (fun _ => true) true Try.f11.params.toList args.toList ds p := hA0
  rw [Try.params11] at hA hval
  obtain ⟨v0, vs0, d0, ds0, p0, q0, hargs, rfl, rfl, h0, r0⟩ := trodAll_cons hA
  obtain ⟨rfl, rfl, rfl⟩ := trodAll_nil r0
  obtain rfl : args = #[v0] := by cases args; simp_all
  obtain ⟨rfl, rfl⟩ := trodVars_none hV
  have k0 := h0
  have lt0 : ∀ x ∈ p0, x.block < W.heap.size := by obtain ⟨m, hm⟩ := k0; exact DataW.trod_lt m _ _ _ hm
  obtain ⟨a0, n0, c0, rfl, ok0, le0, cl0⟩ := open_bytes (hval 0 38 v0 rfl rfl) h0
  clear hA0 hval0
  refine (walk a0 n0 c0 W ok0 le0 cl0).mono fun e W' ⟨he, bel⟩ => ?_
  subst he
  exact ⟨_, rfl, _, _, _, [], _, [], hW', trodAll_mk1 (shut_bool Try.underlying4 _), (trodAll_cons_mk (Below.trod laidOut (by kernel_rfl) (of_decide_eq_true (by kernel_rfl)) k0 bel lt0) trodAll_mk0), rfl, bel.frame _, fun h => by cases h⟩

theorem proved : Rows.FnThinFreeSaid :=
  OpenClaim.holds_of_wide 11 Try.f11 rfl rfl rfl rfl rfl rfl rfl ⟨rfl, rfl, rfl, rfl, rfl⟩ rfl rfl rfl rfl rfl (by kernel_rfl) Try.func11 (by kernel_rfl)
    (of_decide_eq_true (by kernel_rfl)) (by unfold Func.isWrapper; first | (rw [if_pos (by decide +kernel)]; kernel_rfl) | (rw [if_neg (by decide +kernel)]; exact ⟨rfl, rfl⟩))
    (fun os started H enc _ => lifted os started H enc)
#print axioms proved
end Go.Proofs.Ytjkbooflbfnbiaa.fnThinFree
