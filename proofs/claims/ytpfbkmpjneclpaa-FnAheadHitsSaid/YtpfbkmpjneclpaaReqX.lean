/- Contracts of the exact laws' own functions over lists of requests: szRequestS, toRequest, toRequestS, eqRequest, eqRequestS. -/
import Derived.Test.YtpfbkmpjneclpaaReqIn
import Derived.Test.YtpfbkmpjneclpaaOwn
import Derived.StillTailTactics
namespace Go.Proofs.Ytpfbkmpjneclpaa
open Go.RowKit
set_option linter.unusedVariables false

theorem szReq_any (A : Option Addr) (n c : Nat) (left : Int) (w : World) (hn : n ≤ 9223372036854775807) (hl : 0 ≤ left ∧ left ≤ 4000000000000000000) :
    Calls Try.prog 33 #[.slice A n c, .int .i64 left] w fun e w' => e = .returned (.int .i64 (if left - n < 0 then -1 else left - n)) ∧ w = w' := by
  by_cases h : left - n < 0
  · go_enter Try.func33, Try.ntmps33
    go_wp2
    go_ret
    exact ⟨ret_int rfl, rfl⟩
  · go_enter Try.func33, Try.ntmps33
    go_wp2
    go_ret
    exact ⟨ret_int rfl, rfl⟩

theorem toReq_any (f : Int) (q : Int) (o : Bool) (w : World) :
    Calls Try.prog 56 #[.agg #[.int .i64 f, .int .i64 q, .bool o]] w fun e w' => e = .returned (.agg #[.int .i64 f, .int .i64 q, .bool o]) ∧ Below w.heap.size w w' := by
  go_enter Try.func56, Try.ntmps56
  go_wp2
  refine bodyPost_ret (v := .agg #[.int .i64 f, .int .i64 q, .bool o]) (by simp [results, Try.results56, go_sem]) rfl ⟨rfl, ?_⟩
  exact b_alloc (b_alloc (b_alloc (Below.refl _ _) _) _) _

theorem info_req : (Try.prog.info? 62).map (fun i => (i.zero, i.size, i.bytes)) = some (some (.agg #[.int .i64 0, .int .i64 0, .bool false]), 3, 24) := by kernel_rfl
theorem reqC_take {l : List Rq} {k : Nat} (h : k < l.length) : reqC (l.take (k + 1)) = reqC (l.take k) ++ [.int .i64 l[k].1] ++ [.int .i64 l[k].2.1] ++ [.bool l[k].2.2] := by
  rw [List.take_succ_eq_append_getElem h]
  simp only [reqC, List.flatMap_append, List.flatMap_cons, List.flatMap_nil, List.append_nil, List.append_assoc]
  rfl
theorem fill_row_req {w : World} {g : Nat} {T : TypeId} {n sz m : Nat} {xs : List Value} (h : Fill w g T m xs) (hm : m = n * sz) (hx : xs.length = m) (hn : n ≤ maxLen) {base : Nat} (hb : base ≤ g) : w.ownsRow base T sz (.slice (some ⟨g, 0, none⟩) n n) n xs := by
  obtain ⟨cur, hh, hs, ht, hl⟩ := h
  subst hm
  exact ⟨hx, .inr ⟨g, n, cur, rfl, hb, hh, Nat.le_refl _, hn, hs, by rw [← hx]; exact ht⟩⟩

def ToReqsPost (l : List Rq) (W : World) (e : Ending) (w' : World) : Prop :=
  ∃ A c, e = .returned (.slice A l.length c) ∧ w'.ownsRow W.heap.size 62 3 (.slice A l.length c) l.length (reqC l) ∧ Below W.heap.size W w'

set_option maxHeartbeats 1000000 in
theorem toReqs_any (A : Option Addr) (c : Nat) (l : List Rq) (w : World) (h : ReqsIn w A l) (hl : l.length ≤ 1048576) :
    Calls Try.prog 35 #[.slice A l.length c] w (ToReqsPost l w) := by
  have hmk := make_rows (P := Try.prog) 52 62 (.agg #[.int .i64 0, .int .i64 0, .bool false]) 3 24 Try.underlying52 info_req l.length (by omega) (by omega)
  go_enter Try.func35, Try.ntmps35
  go_wp2
  go_loopw [4] (fun x wr => ∃ k : Nat, k ≤ l.length ∧ x = .int .i64 k ∧ Fill wr w.heap.size 62 (l.length * 3) (reqC (l.take k)) ∧ Below w.heap.size w wr) (fun x _ => l.length - (intOf x).toNat)
  case atStart => exact ⟨0, Nat.zero_le _, rfl, by have := Fill.new w 62 (madeCells (Value.agg #[.int .i64 0, .int .i64 0, .bool false]).cells (l.length * 3)); rw [size_madeCells] at this; exact this, b_alloc (Below.refl _ _) _⟩
  case round =>
    obtain ⟨k, hk, rfl, hf, hb⟩ := hrel
    by_cases hlt : k < l.length
    · obtain ⟨b, off, rfl, hc⟩ := h.below hb (by omega)
      obtain ⟨c1, c2, c3⟩ := hc k hlt
      have hs := reqC_take hlt
      clear hc h hmk
      obtain ⟨⟨f, q, o⟩, e1⟩ : ∃ p : Rq, p = l[k] := ⟨_, rfl⟩
      rw [← e1] at c1 c2 c3 hs
      simp only at c1 c2 c3 hs
      have HS := Lib.hid hs
      clear hs e1
      go_wp2_with (go_at_call 56; refine (toReq_any _ _ _ _).mono ?_; rintro e w3 ⟨rfl, hb3⟩; have hf3 := hf.below hb3; have hbb := hb.trans (hb3.mono hb.size); obtain ⟨u1, hu1⟩ := hf3.cell (k * 3) (by omega); obtain ⟨u2, hu2⟩ := hf3.cell (k * 3 + 1) (by omega); obtain ⟨u3, hu3⟩ := hf3.cell (k * 3 + 2) (by omega); have z1 := hf3.free (k * 3); have z2 := hf3.free (k * 3 + 1); have z3 := hf3.free (k * 3 + 2))
      have hlen : (reqC (l.take k)).length = 3 * k := by rw [reqC_length, List.length_take]; omega
      have hf4 := (((hf3.push (.int .i64 f) (k * 3) (by omega) (by omega)).push (.int .i64 q) (k * 3 + 1) (by simp only [List.length_append, hlen, List.length_cons, List.length_nil]; omega) (by omega)).push (.bool o) (k * 3 + 2) (by simp only [List.length_append, hlen, List.length_cons, List.length_nil]; omega) (by omega))
      rw [← HS.out] at hf4
      have hb4 := (((hbb.setCell (p := ⟨w.heap.size, k * 3, none⟩) (Nat.le_refl _) (.int .i64 f)).setCell (p := ⟨w.heap.size, k * 3 + 1, none⟩) (Nat.le_refl _) (.int .i64 q)).setCell (p := ⟨w.heap.size, k * 3 + 2, none⟩) (Nat.le_refl _) (.bool o))
      go_roundw
      case rel => exact ⟨k + 1, by omega, by go_num, hf4, hb4⟩
      case measure => simp [intOf]; omega
    · rw [List.take_of_length_le (by omega)] at hf
      have ho := Lib.hid (fill_row_req hf rfl (by rw [reqC_length]; omega) (by simp only [maxLen]; omega) (Nat.le_refl w.heap.size))
      clear hf
      go_wp2
      go_ret
      exact ⟨_, _, rfl, ho.out, hb⟩

theorem eqReq_same (f : Int) (q : Int) (o : Bool) (w : World) :
    Calls Try.prog 58 #[.agg #[.int .i64 f, .int .i64 q, .bool o], .agg #[.int .i64 f, .int .i64 q, .bool o]] w fun e w' => e = .returned (.bool true) ∧ Below w.heap.size w w' := by
  have hf : (f != f) = false := by simp
  have hq : (q != q) = false := by simp
  have ho : (o != o) = false := by simp
  go_enter Try.func58, Try.ntmps58
  go_wp2
  go_ret
  exact ⟨rfl, b_alloc (b_alloc (Below.refl _ _) _) _⟩

set_option maxHeartbeats 1000000 in
theorem eqReqs_same (A B : Option Addr) (c d : Nat) (l : List Rq) (w : World) (h1 : ReqsIn w A l) (h2 : ReqsIn w B l) (hl : l.length ≤ 1000000000000) :
    Calls Try.prog 37 #[.slice A l.length c, .slice B l.length d] w fun e w' => e = .returned (.bool true) ∧ Below w.heap.size w w' := by
  have hb : ((l.length : Int) != l.length) = false := by simp
  go_enter Try.func37, Try.ntmps37
  go_wp2
  go_loopw [5] (fun x wr => ∃ i : Nat, i ≤ l.length ∧ x = .int .i64 i ∧ Below w.heap.size w wr) (fun x _ => l.length - (intOf x).toNat)
  case atStart => exact ⟨0, Nat.zero_le _, rfl, Below.refl _ _⟩
  case round =>
    obtain ⟨i, hi, rfl, hbl⟩ := hrel
    by_cases hlt : i < l.length
    · obtain ⟨b1, o1, rfl, c1⟩ := h1.below hbl (by omega)
      obtain ⟨b2, o2, rfl, c2⟩ := h2.below hbl (by omega)
      obtain ⟨x0, x1, x2⟩ := c1 i hlt
      obtain ⟨y0, y1, y2⟩ := c2 i hlt
      clear c1 c2 h1 h2
      obtain ⟨⟨f, q, o⟩, e1⟩ : ∃ p : Rq, p = l[i] := ⟨_, rfl⟩
      rw [← e1] at x0 x1 x2 y0 y1 y2
      simp only at x0 x1 x2 y0 y1 y2
      have Hb := Lib.hid hbl
      clear e1 hbl
      go_wp2
      go_still_tail 8, (by kernel_rfl)
      change wpList _ _ _ _ _ wr.drew
      generalize hwd : wr.drew = w2
      have hb2 : Below w.heap.size w w2 := by rw [← hwd]; exact Hb.out.drew
      clear hwd x0 x1 x2 y0 y1 y2
      go_wp2_with (go_at_call 58; refine (eqReq_same _ _ _ _).mono ?_; rintro e w3 ⟨rfl, hb3⟩)
      go_roundw
      case rel => exact ⟨i + 1, by omega, by go_num, hb2.trans (hb3.mono hb2.size)⟩
      case measure => simp [intOf]; omega
    · go_wp2
      go_ret
      exact ⟨rfl, hbl⟩
end Go.Proofs.Ytpfbkmpjneclpaa
