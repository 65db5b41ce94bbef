/- Contracts of the draws of partitions. -/
import Derived.Test.YtpfbkmpjneclpaaDrawP
namespace Go.Proofs.Ytpfbkmpjneclpaa
open Go.RowKit
set_option linter.unusedVariables false

def DP2 (W : World) (e : Ending) (w' : World) : Prop :=
  ∃ (A : Option Addr) (c : Nat) (l : List (Int × Int)) (size : Int), e = .returned (.tuple #[.slice A l.length c, .int .i64 size]) ∧ ReadC w' A (partsC l) ∧ l.length ≤ 6 ∧ -1 ≤ size ∧ size ≤ 100001 ∧ Below W.heap.size W w'
def DP2s (W : World) (e : Ending) (w' : World) : Prop :=
  ∃ (ad : Addr) (c : Nat) (l : List (Int × Int)) (size : Int), e = .returned (.tuple #[.slice (some ad) l.length c, .int .i64 size]) ∧ ReadC w' (some ad) (partsC l) ∧ l.length ≤ 6 ∧ -1 ≤ size ∧ size ≤ 100001 ∧ Below W.heap.size W w'
def DP3 (W : World) (e : Ending) (w' : World) : Prop :=
  ∃ (A : Option Addr) (c : Nat) (l : List (Int × Int)) (size a : Int), e = .returned (.tuple #[.slice A l.length c, .int .i64 size, .int .i64 a]) ∧ ReadC w' A (partsC l) ∧ l.length ≤ 6 ∧ -1 ≤ size ∧ size ≤ 100001 ∧ -1000 ≤ a ∧ a ≤ 1000 ∧ Below W.heap.size W w'
def DP4 (W : World) (e : Ending) (w' : World) : Prop :=
  ∃ (A : Option Addr) (c : Nat) (l : List (Int × Int)) (size n a : Int), e = .returned (.tuple #[.slice A l.length c, .int .i64 size, .int .i64 n, .int .i64 a]) ∧ ReadC w' A (partsC l) ∧ l.length ≤ 6 ∧ -1 ≤ size ∧ size ≤ 100001 ∧ -1000 ≤ n ∧ n ≤ 1000 ∧ -1000 ≤ a ∧ a ≤ 1000 ∧ Below W.heap.size W w'

theorem results_tmp4 {fn : Func} {t u v x : Tmp} (h : fn.results = #[.tmp t, .tmp u, .tmp v, .tmp x]) (tmps : Array Value) (P : Program) (w : World) :
    (results fn tmps).run P w = .ok (.tuple #[tmps.getD t undef, tmps.getD u undef, tmps.getD v undef, tmps.getD x undef]) w := by simp [results, h]

theorem own_pick {lo hi rb : Nat} {w w' : World} {T : TypeId} {A : Option Addr} {xs : List Value} (h : OwnC lo hi w T A xs) (hg : w.grownBy w' (some rb)) (hr : rb < lo) : OwnC lo hi w' T A xs :=
  h.keep fun k h1 _ hk => hg.block k hk (fun e => by injection e with e; omega)

theorem drawPartsValid_s (A : Option Addr) (m c : Nat) (W : World) (hb : BytesIn W A m) (hmc : m ≤ c) (hc : c ≤ 9223372036854775807) :
    Calls Try.prog 30 #[.slice A m c] W (DP2s W) := by
  go_enter Try.func30, Try.ntmps30
  go_wp2_with fail
  refine (open_any A m c W hb hmc hc).mono ?_
  rintro e w1 ⟨rfl, hr, hb1, hs1⟩
  go_wp2_with fail
  refine (parts_drawn W.heap.size 0 _ _ hr (by omega) (by omega)).mono ?_
  rintro e w2 ⟨B, d, l, size, rfl, hown, hl, s0, s1, hr2, hg2, ad, rfl, hcc⟩
  have hb2 := bgrown hb1 hg2 (Nat.le_refl _)
  go_wp2
  go_ret2
  exact ⟨_, _, _, _, rfl, hown.read, hl, s0, s1, hb2⟩

def DP2c (W : World) (e : Ending) (w' : World) : Prop :=
  ∃ (ad : Addr) (c : Nat) (l : List (Int × Int)) (size : Int), e = .returned (.tuple #[.slice (some ad) l.length c, .int .i64 size]) ∧ ReadC w' (some ad) (partsC l) ∧ l.length ≤ 6 ∧ -1 ≤ size ∧ size ≤ 100001 ∧ Below W.heap.size W w' ∧ l.length ≤ c ∧ c ≤ 9223372036854775807
theorem drawPartsValid_c (A : Option Addr) (m c : Nat) (W : World) (hb : BytesIn W A m) (hmc : m ≤ c) (hc : c ≤ 9223372036854775807) :
    Calls Try.prog 30 #[.slice A m c] W (DP2c W) := by
  go_enter Try.func30, Try.ntmps30
  go_wp2_with fail
  refine (open_any A m c W hb hmc hc).mono ?_
  rintro e w1 ⟨rfl, hr, hb1, hs1⟩
  go_wp2_with fail
  refine (parts_drawn W.heap.size 0 _ _ hr (by omega) (by omega)).mono ?_
  rintro e w2 ⟨B, d, l, size, rfl, hown, hl, s0, s1, hr2, hg2, ad, rfl, hcc⟩
  have hb2 := bgrown hb1 hg2 (Nat.le_refl _)
  go_wp2
  go_ret2
  exact ⟨_, _, _, _, rfl, hown.read, hl, s0, s1, hb2, hcc⟩

theorem drawLargestGap_s (A : Option Addr) (m c : Nat) (W : World) (hb : BytesIn W A m) (hmc : m ≤ c) (hc : c ≤ 9223372036854775807) :
    Calls Try.prog 41 #[.slice A m c] W (DP2s W) := by
  go_enter Try.func41, Try.ntmps41
  go_wp2_with fail
  refine (open_any A m c W hb hmc hc).mono ?_
  rintro e w1 ⟨rfl, hr, hb1, hs1⟩
  go_wp2_with fail
  refine (parts_drawn W.heap.size 0 _ _ hr (by omega) (by omega)).mono ?_
  rintro e w2 ⟨B, d, l, size, rfl, hown, hl, s0, s1, hr2, hg2, ad, rfl, hcc⟩
  have hb2 := bgrown hb1 hg2 (Nat.le_refl _)
  go_wp2
  go_ret2
  exact ⟨_, _, _, _, rfl, hown.read, hl, s0, s1, hb2⟩

theorem drawPartsValid_any (A : Option Addr) (m c : Nat) (W : World) (hb : BytesIn W A m) (hmc : m ≤ c) (hc : c ≤ 9223372036854775807) :
    Calls Try.prog 30 #[.slice A m c] W (DP2 W) :=
  (drawPartsValid_s A m c W hb hmc hc).mono fun _ _ ⟨ad, c, l, size, h⟩ => ⟨some ad, c, l, size, h⟩

theorem drawFromDisk_any (A : Option Addr) (m c : Nat) (W : World) (hb : BytesIn W A m) (hmc : m ≤ c) (hc : c ≤ 9223372036854775807) :
    Calls Try.prog 39 #[.slice A m c] W (DP3 W) := by
  go_enter Try.func39, Try.ntmps39
  go_wp2_with fail
  refine (open_any A m c W hb hmc hc).mono ?_
  rintro e w1 ⟨rfl, hr, hb1, hs1⟩
  go_wp2_with fail
  refine (parts_drawn W.heap.size 0 _ _ hr (by omega) (by omega)).mono ?_
  rintro e w2 ⟨B, d, l, size, rfl, hown, hl, s0, s1, hr2, hg2, ad, rfl, hcc⟩
  have hb2 := bgrown hb1 hg2 (Nat.le_refl _)
  have hlt : W.heap.size < w1.heap.size := by omega
  clear hr hg2 hs1
  go_wp2_with fail
  refine (pick_in W.heap.size _ _ _ hr2 (by omega) (by omega)).mono ?_
  rintro e w3 ⟨x, rfl, x0, x1, hr3, hg3, hs3⟩
  have hb3 := bgrown hb2 hg3 (Nat.le_refl _)
  have hown3 := (own_pick hown hg3 hlt).read
  clear hr2 hr3 hg3 hown hb2 hb1
  go_wp2
  go_ret3
  exact ⟨_, _, _, _, _, rfl, hown3, hl, s0, s1, by omega, by omega, hb3⟩

theorem drawToDisk_any (A : Option Addr) (m c : Nat) (W : World) (hb : BytesIn W A m) (hmc : m ≤ c) (hc : c ≤ 9223372036854775807) :
    Calls Try.prog 38 #[.slice A m c] W (DP4 W) := by
  go_enter Try.func38, Try.ntmps38
  go_wp2_with fail
  refine (open_any A m c W hb hmc hc).mono ?_
  rintro e w1 ⟨rfl, hr, hb1, hs1⟩
  go_wp2_with fail
  refine (parts_drawn W.heap.size 0 _ _ hr (by omega) (by omega)).mono ?_
  rintro e w2 ⟨B, d, l, size, rfl, hown, hl, s0, s1, hr2, hg2, ad, rfl, hcc⟩
  have hb2 := bgrown hb1 hg2 (Nat.le_refl _)
  have hlt : W.heap.size < w1.heap.size := by omega
  clear hr hg2 hs1 hb1
  go_wp2_with (go_at_call 49; refine (pick_in W.heap.size _ _ _ (by assumption) (by omega) (by omega)).mono ?_; rintro e w3 ⟨x, rfl, x0, x1, hr, hg, hs⟩)
  all_goals refine bodyPost_ret (results_tmp4 rfl _ _ _) rfl ?_
  all_goals exact ⟨_, _, _, _, _, _, rfl, OwnC.read (lo := w1.heap.size) (hi := w2.heap.size) (T := 47) (by repeat' (first | assumption | refine own_pick ?_ (by assumption) hlt)), hl, s0, s1, by omega, by omega, by omega, by omega, by repeat' (first | assumption | refine bgrown ?_ (by assumption) (by omega))⟩
end Go.Proofs.Ytpfbkmpjneclpaa
