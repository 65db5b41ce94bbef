/- The draw of FnReplayJournal, with the numbers of its records. -/
import Derived.Test.YthghngphamimgaaDrJ
import Derived.Test.YthghngphamimgaaDrD
namespace Go.Proofs.Ythghngphamimgaa
open Go.RowKit
set_option linter.unusedVariables false

def DR2Post (W : World) (e : Ending) (w' : World) : Prop :=
  ∃ (A : Option Addr) (c : Nat) (d : List Int) (B : Option Addr) (cb : Nat) (l : List Rc), e = .returned (.tuple #[.slice A d.length c, .slice B l.length cb]) ∧ w'.ownsRow W.heap.size 3 1 (.slice A d.length c) d.length (d.map (Value.int .i64)) ∧ RowR w' W.heap.size B cb l ∧ d.length ≤ 65 ∧ l.length ≤ 41 ∧ (∀ r ∈ l, numOk r) ∧ Below W.heap.size W w'
set_option maxHeartbeats 1000000 in
theorem drawRJ2_any (A : Option Addr) (m c : Nat) (W : World) (hb : BytesIn W A m) (hmc : m ≤ c) (hc : c ≤ 9223372036854775807) :
    Calls Try.prog 33 #[.slice A m c] W (DR2Post W) := by
  go_enter Try.func33, Try.ntmps33
  go_wp2_with fail
  refine (open_any A m c W hb hmc hc).mono ?_
  rintro e w1 ⟨rfl, hr, hb1, -⟩
  have hz1 := hb1.size
  have hrl := hr.lt
  go_wp2_with fail
  refine (l20Disk_any W.heap.size 0 12 16 _ hr (by omega) (by omega) (by omega)).mono ?_
  rintro e w2 ⟨A2, c2, d, rfl, o2, hd, hg2, Q, hr2, hQ⟩
  have B2 := Lib.hid (bgrown hb1 hg2 (Nat.le_refl _))
  have O2 := Lib.hid o2
  have HR2 := Lib.hid hr2
  have hz2 := hg2.size
  clear hb1 hg2 hr o2 hr2
  have hcase : d.length ≤ 20 ∨ 20 < d.length := by omega
  have key : ∀ s : Int, 0 ≤ s ∧ s ≤ 64 → Calls Try.prog 45 #[.pointer (some ⟨W.heap.size, 0, none⟩), .int .i64 s, .int .i64 12] w2 (fun e w3 => ∃ (B : Option Addr) (cb : Nat) (l : List Rc), e = .returned (.slice B l.length cb) ∧ DR2Post W (.returned (.tuple #[.slice A2 d.length c2, .slice B l.length cb])) w3) := by
    intro s hs
    refine (l20Journal_any W.heap.size Q s 12 _ HR2.out (by omega) hs (by omega)).mono ?_
    rintro e w3 ⟨B3, c3, l, rfl, hrow, hl, hnum, hg3, _⟩
    refine ⟨B3, c3, l, rfl, A2, c2, d, B3, c3, l, rfl, ?_, own_mono hrow (by omega), hd, hl, hnum, bgrown B2.out hg3 (Nat.le_refl _)⟩
    exact own_mono (own_block O2.out (fun g hq => hg3.block g (O2.out.lt g hq).2 (fun e => by injection e with e; have := (O2.out.lt g hq).1; omega))) hz1
  have KEY := Lib.hid key
  clear key B2 O2 HR2
  rcases hcase with hcase | hcase
  all_goals
    go_wp2_with fail
    refine (KEY.out _ (by omega)).mono ?_
    rintro e w3 ⟨B3, c3, l, rfl, hp⟩
    have HP := Lib.hid hp
    clear hp
    go_wp2
    go_ret2
    exact HP.out
end Go.Proofs.Ythghngphamimgaa
