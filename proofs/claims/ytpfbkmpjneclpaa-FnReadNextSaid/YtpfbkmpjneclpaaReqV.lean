/- Contracts of RequestsValid, the program's and the reference's. -/
import Derived.Test.YtpfbkmpjneclpaaReqIn
import Derived.Deep.QuietTactic
import Derived.BigQuiet
namespace Go.Proofs.Ytpfbkmpjneclpaa
open Go.RowKit
set_option linter.unusedVariables false

def isRq (q : Rq) : Bool := inB q.1 0 100000 && inB q.2.1 1 200
def reqsB (l : List Rq) : Bool := decide ((l.length : Int) ≤ 30) && l.all isRq

theorem isRequest_any (a c : Int) (b : Bool) (w : World) :
    Calls Try.prog 64 #[.agg #[.int .i64 a, .int .i64 c, .bool b]] w fun e w' => e = .returned (.bool (isRq (a, c, b))) ∧ Below w.heap.size w w' := by
  cases h1 : inB a 0 100000
  · go_enter Try.func64, Try.ntmps64
    go_wp2_with (go_at_call 44; refine (within_any _ _ _ _).mono ?_; rintro e w' ⟨rfl, rfl⟩)
    go_ret
    exact ⟨ret_bool (by simp [isRq, h1]), b_alloc (Below.refl _ _) _⟩
  · go_enter Try.func64, Try.ntmps64
    go_wp2_with (go_at_call 44; refine (within_any _ _ _ _).mono ?_; rintro e w' ⟨rfl, rfl⟩)
    go_ret
    exact ⟨ret_bool (by simp [isRq, h1]), b_alloc (Below.refl _ _) _⟩

theorem notRq_any (a c : Int) (b v : Bool) (w : World) (h : isRq (a, c, b) = v) :
    Calls Try.prog 63 #[.agg #[.int .i64 a, .int .i64 c, .bool b]] w fun e w' => e = .returned (.bool (!v)) ∧ Below w.heap.size w w' := by
  subst h
  go_enter Try.func63, Try.ntmps63
  go_wp2_with (go_at_call 64; refine (isRequest_any _ _ _ _).mono ?_; rintro e w' ⟨rfl, hb⟩)
  go_ret
  exact ⟨rfl, (b_alloc (Below.refl _ _) _).trans (hb.mono (by simp))⟩

def IdxPost (l : List Rq) (W : World) (e : Ending) (w' : World) : Prop := ∃ n : Int, e = .returned (.int .i64 n) ∧ decide (0 ≤ n) = (!(l.all isRq)) ∧ Below W.heap.size W w'

theorem all_take_succ {l : List Rq} {k : Nat} (h : k < l.length) (h1 : (l.take k).all isRq = true) (h2 : isRq l[k] = true) : (l.take (k + 1)).all isRq = true := by
  rw [List.take_succ_eq_append_getElem h, List.all_append, h1]
  simp [h2]

set_option maxHeartbeats 1000000 in
theorem indexReq_any (A : Option Addr) (c : Nat) (l : List Rq) (w : World) (h : ReqsIn w A l) (hl : l.length ≤ 1000000000000) :
    Calls Try.prog 66 #[.slice A l.length c, .func (.func 63) #[] #[]] w (IdxPost l w) := by
  go_enter Try.func66, Try.ntmps66
  go_wp2
  go_loopw [8] (fun y wr => ∃ k : Nat, k ≤ l.length ∧ y = .int .i64 k ∧ Hid ((l.take k).all isRq = true) ∧ Below w.heap.size w wr) (fun y _ => l.length - (intOf y).toNat)
  case atStart => exact ⟨0, Nat.zero_le _, rfl, by show (l.take 0).all isRq = true; simp, Below.refl _ _⟩
  case round =>
    obtain ⟨k, hk, rfl, ha, hb⟩ := hrel
    by_cases hlt : k < l.length
    · obtain ⟨b, off, rfl, hc⟩ := h.below hb (by omega)
      obtain ⟨c1, c2, c3⟩ := hc k hlt
      have hstep := Lib.hid (fun h2 => all_take_succ hlt ha.out h2)
      have hmem := Lib.hid (List.getElem_mem hlt)
      clear hc h
      obtain ⟨⟨f, n, o⟩, hfn⟩ : ∃ p : Rq, p = l[k] := ⟨_, rfl⟩
      rw [← hfn] at c1 c2 c3 hstep hmem
      simp only at c1 c2 c3
      clear hfn
      have hb1 := Lib.hid hb
      clear hb
      cases hq : isRq (f, n, o)
      · have hno := Lib.hid (show IdxPost l w (.returned (.int .i64 k)) = IdxPost l w (.returned (.int .i64 k)) from rfl)
        have hfalse := Lib.hid (show l.all isRq = false by rw [List.all_eq_false]; exact ⟨_, hmem.out, by simp [hq]⟩)
        have Hq := Lib.hid hq
        clear hq hstep hmem ha
        go_wp2_with fail
        refine (notRq_any _ _ _ _ _ Hq.out).mono ?_
        rintro e w2 ⟨rfl, hb2⟩
        go_wp2
        go_ret
        exact ⟨k, rfl, by rw [hfalse.out]; simp, hb1.out.trans (hb2.mono hb1.out.size)⟩
      · have hs := Lib.hid (hstep.out hq)
        have Hq := Lib.hid hq
        clear hq hstep hmem ha
        go_wp2_with fail
        refine (notRq_any _ _ _ _ _ Hq.out).mono ?_
        rintro e w2 ⟨rfl, hb2⟩
        go_wp2
        go_roundw
        case rel => exact ⟨k + 1, by omega, by go_num, hs, hb1.out.trans (hb2.mono hb1.out.size)⟩
        case measure => simp [intOf]; omega
    · have ht := Lib.hid (show l.all isRq = true by have := ha.out; rwa [List.take_of_length_le (by omega)] at this)
      clear ha
      go_wp2
      go_ret
      exact ⟨-1, rfl, by rw [ht.out]; rfl, hb⟩

def RVPost (l : List Rq) (W : World) (e : Ending) (w' : World) : Prop := e = .returned (.bool (reqsB l)) ∧ Below W.heap.size W w'

theorem containsReq_any (A : Option Addr) (c : Nat) (l : List Rq) (w : World) (h : ReqsIn w A l) (hl : l.length ≤ 1000000000000) :
    Calls Try.prog 62 #[.slice A l.length c, .func (.func 63) #[] #[]] w fun e w' => e = .returned (.bool (!(l.all isRq))) ∧ Below w.heap.size w w' := by
  go_enter Try.func62, Try.ntmps62
  go_wp2_with fail
  refine (indexReq_any A c l w h hl).mono ?_
  rintro e w2 ⟨n, rfl, hn, hb2⟩
  have Hn := Lib.hid hn
  clear hn
  go_wp2
  go_ret
  exact ⟨ret_bool Hn.out, hb2⟩

theorem implReqs_any (A : Option Addr) (c : Nat) (l : List Rq) (w : World) (h : ReqsIn w A l) (hl : l.length ≤ 1000000000000) :
    Calls Try.prog 57 #[.slice A l.length c] w (RVPost l w) := by
  by_cases h1 : (l.length : Int) ≤ 30
  · have hyes := Lib.hid (fun w' (hb : Below w.heap.size w w') => show RVPost l w (.returned (.bool (!!(l.all isRq)))) w' from ⟨ret_bool (by simp [reqsB, h1]), hb⟩)
    go_enter Try.func57, Try.ntmps57
    go_wp2_with fail
    refine (containsReq_any A c l w h hl).mono ?_
    rintro e w2 ⟨rfl, hb2⟩
    cases hall : l.all isRq
    all_goals
      rw [hall] at hyes
      clear hall
      go_wp2
      go_ret
      exact hyes.out _ hb2
  · have hno := Lib.hid (show RVPost l w (.returned (.bool false)) w from ⟨ret_bool (by simp [reqsB]; omega), Below.refl _ _⟩)
    go_enter Try.func57, Try.ntmps57
    go_wp2
    go_ret
    exact hno.out

set_option maxHeartbeats 1000000 in
theorem specReqs_any (A : Option Addr) (c : Nat) (l : List Rq) (w : World) (h : ReqsIn w A l) (hl : l.length ≤ 1000000000000) :
    Calls Try.prog 55 #[.slice A l.length c] w (RVPost l w) := by
  go_enter Try.func55, Try.ntmps55
  go_wp2
  go_loopw [3] (fun y wr => ∃ k : Nat, k ≤ l.length ∧ y = .int .i64 k ∧ Hid ((l.take k).all isRq = true) ∧ Below w.heap.size w wr) (fun y _ => l.length - (intOf y).toNat)
  case atStart => exact ⟨0, Nat.zero_le _, rfl, by show (l.take 0).all isRq = true; simp, Below.refl _ _⟩
  case round =>
    obtain ⟨k, hk, rfl, ha, hb⟩ := hrel
    by_cases hlt : k < l.length
    · obtain ⟨b, off, rfl, hc⟩ := h.below hb (by omega)
      obtain ⟨c1, c2, c3⟩ := hc k hlt
      have hstep := Lib.hid (fun h2 => all_take_succ hlt ha.out h2)
      have hmem := Lib.hid (List.getElem_mem hlt)
      clear hc h
      obtain ⟨⟨f, n, o⟩, hfn⟩ : ∃ p : Rq, p = l[k] := ⟨_, rfl⟩
      rw [← hfn] at c1 c2 c3 hstep hmem
      simp only at c1 c2 c3
      clear hfn
      have hfal := Lib.hid (fun (hq : isRq (f, n, o) = false) => show RVPost l w (.returned (.bool false)) wr from ⟨ret_bool (by
        have : l.all isRq = false := by rw [List.all_eq_false]; exact ⟨_, hmem.out, by simp [hq]⟩
        simp [reqsB, this]), hb⟩)
      have hb1 := Lib.hid hb
      clear hb ha hmem
      cases g1 : inB f 0 100000
      · have hno := Lib.hid (hfal.out (by simp [isRq, g1]))
        clear hfal hstep
        go_wp2_with (go_at_call 42; refine (l1In_is g1 _).mono ?_; rintro e w' ⟨rfl, rfl⟩)
        go_ret
        exact hno.out
      · cases g2 : inB n 1 200
        · have hno := Lib.hid (hfal.out (by simp [isRq, g2]))
          clear hfal hstep
          go_wp2_with (go_at_call 42; refine (l1In_any _ _ _ _).mono ?_; rintro e w' ⟨rfl, rfl⟩)
          go_ret
          exact hno.out
        · have hs := Lib.hid (hstep.out (by simp [isRq, g1, g2]))
          clear hfal hstep
          go_wp2_with (go_at_call 42; refine (l1In_any _ _ _ _).mono ?_; rintro e w' ⟨rfl, rfl⟩)
          go_roundw
          case rel => exact ⟨k + 1, by omega, by go_num, hs, hb1.out⟩
          case measure => simp [intOf]; omega
    · have ht := Lib.hid (show RVPost l w (.returned (.bool (decide ((l.length : Int) ≤ 30)))) wr from ⟨ret_bool (by
        have h3 := ha.out
        rw [List.take_of_length_le (by omega)] at h3
        simp [reqsB, h3]), hb⟩)
      clear ha hb
      go_wp2
      go_ret
      exact ht.out
end Go.Proofs.Ytpfbkmpjneclpaa
