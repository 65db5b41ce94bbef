/- Contracts of the reader of the draws (l20Open, pick, odd): what pick returns lies in its range, and it writes nothing but the reader's own block. -/
import Derived.Test.YtpfbkmpjneclpaaBase
import Derived.Deep.QuietTactic
import Derived.BigQuiet
import Derived.Lib.Hide
import Derived.Laws.BitsLemmas
namespace Go.Proofs.Ytpfbkmpjneclpaa
open Go.RowKit

/-- A slice of bytes that can be read. -/
def BytesIn (w : World) (A : Option Addr) (n : Nat) : Prop :=
  0 < n → ∃ b off, A = some ⟨b, off, none⟩ ∧ ∀ i, i < n → ∃ u : Int, 0 ≤ u ∧ u ≤ 255 ∧ w.cell? ⟨b, off + i, none⟩ = some (.int .u8 u)

/-- The reader lies whole in block rb: at most P numbers have been picked. -/
def RdAt (w : World) (rb : Nat) (P : Nat) : Prop :=
  ∃ (A : Option Addr) (n c p : Nat), w.heap[rb]? = some (.cells #[.slice A n c, .int .i64 p] 83 (0, 0)) ∧ p ≤ P ∧ n ≤ 2000 ∧
    (0 < n → ∃ b off, A = some ⟨b, off, none⟩ ∧ b < rb ∧ ∀ i, i < n → ∃ u : Int, 0 ≤ u ∧ u ≤ 255 ∧ w.cell? ⟨b, off + i, none⟩ = some (.int .u8 u))

theorem xor_nonneg (x : Int) (h0 : 0 ≤ x) (h1 : x ≤ 4611686018427387904) : 0 ≤ bits BinOp.xor IntKind.i64 x (x / 64) := by
  obtain ⟨a, rfl⟩ := Int.eq_ofNat_of_zero_le h0
  have ha : a < 2 ^ 63 := by omega
  have hb : a / 64 < 2 ^ 63 := by omega
  have e : ((a : Int) / 64) = ((a / 64 : Nat) : Int) := by omega
  rw [e]
  have hx : a ^^^ (a / 64) < 2 ^ 63 := Nat.xor_lt_two_pow ha hb
  show 0 ≤ IntKind.i64.wrap ((BitVec.ofInt 64 (a : Int) ^^^ BitVec.ofInt 64 ((a / 64 : Nat) : Int)).toNat : Int)
  have e1 : ∀ q : Nat, q < 2 ^ 63 → (BitVec.ofInt 64 (q : Int)).toNat = q := fun q hq => by
    rw [BitVec.ofInt_natCast, BitVec.toNat_ofNat]; exact Nat.mod_eq_of_lt (by omega)
  rw [BitVec.toNat_xor, e1 a ha, e1 _ hb, IntKind.wrap_i64]
  omega

theorem blk_setCell_other {w : World} {b k : Nat} (i : Nat) (v : Value) (h : k ≠ b) : (w.setCell ⟨b, i, none⟩ v).heap[k]? = w.heap[k]? := Below.heap_setCell w _ v k h

/-- What a store into the reader's own block and draws leave. -/
theorem rd_after {W : World} {rb n c p P q : Nat} {A : Option Addr} (hb : W.heap[rb]? = some (.cells #[.slice A n c, .int .i64 p] 83 (0, 0))) (hp : p ≤ P) (hn : n ≤ 2000)
    (hA : 0 < n → ∃ b off, A = some ⟨b, off, none⟩ ∧ b < rb ∧ ∀ i, i < n → ∃ u : Int, 0 ≤ u ∧ u ≤ 255 ∧ W.cell? ⟨b, off + i, none⟩ = some (.int .u8 u)) :
    RdAt ((W.setCell ⟨rb, 1, none⟩ (.int .i64 (p + 1))).drewN q) rb (P + 1) ∧ W.grownBy ((W.setCell ⟨rb, 1, none⟩ (.int .i64 (p + 1))).drewN q) (some rb) ∧ ((W.setCell ⟨rb, 1, none⟩ (.int .i64 (p + 1))).drewN q).heap.size = W.heap.size := by
  refine ⟨⟨A, n, c, p + 1, ?_, by omega, hn, fun h0 => ?_⟩, ⟨rfl, rfl, rfl, by simp [World.setCell, World.drewN], fun k _ hk => ?_⟩, by simp [World.setCell, World.drewN]⟩
  · show (W.setCell ⟨rb, 1, none⟩ (.int .i64 (p + 1))).heap[rb]? = _
    rw [heap_setCell_same W rb 1 _ _ _ hb]
    simp
  · obtain ⟨b, off, e, hne, hc⟩ := hA h0
    refine ⟨b, off, e, hne, fun i hi => ?_⟩
    obtain ⟨u, h1, h2, h3⟩ := hc i hi
    refine ⟨u, h1, h2, ?_⟩
    rw [← h3]
    exact World.cell?_of_block (blk_setCell_other (w := W) 1 _ (Nat.ne_of_lt hne))
  · exact blk_setCell_other (w := W) 1 _ (fun e => hk (by rw [e]))

theorem rd_after0 {W : World} {rb n c p P : Nat} {A : Option Addr} (hb : W.heap[rb]? = some (.cells #[.slice A n c, .int .i64 p] 83 (0, 0))) (hp : p ≤ P) (hn : n ≤ 2000)
    (hA : 0 < n → ∃ b off, A = some ⟨b, off, none⟩ ∧ b < rb ∧ ∀ i, i < n → ∃ u : Int, 0 ≤ u ∧ u ≤ 255 ∧ W.cell? ⟨b, off + i, none⟩ = some (.int .u8 u)) :
    RdAt (W.setCell ⟨rb, 1, none⟩ (.int .i64 (p + 1))) rb (P + 1) ∧ W.grownBy (W.setCell ⟨rb, 1, none⟩ (.int .i64 (p + 1))) (some rb) ∧ (W.setCell ⟨rb, 1, none⟩ (.int .i64 (p + 1))).heap.size = W.heap.size := rd_after (q := 0) hb hp hn hA

def PickPost (n : Int) (rb P : Nat) (W : World) (e : Ending) (w' : World) : Prop :=
  ∃ x : Int, e = .returned (.int .i64 x) ∧ 0 ≤ x ∧ (1 ≤ n → x < n) ∧ (n < 1 → x = 0) ∧ RdAt w' rb (P + 1) ∧ W.grownBy w' (some rb) ∧ w'.heap.size = W.heap.size

set_option maxHeartbeats 1000000 in
theorem pick_any (rb P : Nat) (n : Int) (W : World) (h : RdAt W rb P) (hP : P ≤ 1000000000000) (hn : -9000000000000000000 ≤ n ∧ n ≤ 9000000000000000000) :
    Calls Try.prog 49 #[.pointer (some ⟨rb, 0, none⟩), .int .i64 n] W (PickPost n rb P W) := by
  obtain ⟨A, m, c, p, hb, hp, hm, hA⟩ := h
  obtain ⟨r1, r2⟩ := rd_after0 hb hp hm hA
  have hc0 : W.cell? ⟨rb, 0, none⟩ = some (.slice A m c) := by rw [cell_of_row _ _ _ _ _ _ hb]; rfl
  have hc1 : W.cell? ⟨rb, 1, none⟩ = some (.int .i64 p) := by rw [cell_of_row _ _ _ _ _ _ hb]; rfl
  have hf1 : W.frozen? ⟨rb, 1, none⟩ = false := frozen_of_row _ _ _ _ _ hb
  by_cases n1 : n < 1
  · go_enter Try.func49, Try.ntmps49
    go_wp2
    go_ret
    exact ⟨0, rfl, by omega, by omega, fun _ => rfl, r1, r2⟩
  · rcases Nat.eq_zero_or_pos m with rfl | m0
    · go_enter Try.func49, Try.ntmps49
      go_wp2
      go_ret
      exact ⟨0, rfl, by omega, by omega, fun _ => rfl, r1, r2⟩
    · obtain ⟨b, off, rfl, hlt, hc⟩ := hA m0
      have hne : b ≠ rb := Nat.ne_of_lt hlt
      have hm0 : ((m : Int) == 0) = false := by simp; omega
      by_cases hpm : p < m
      · obtain ⟨u, u1, u2, hu⟩ := hc p hpm
        go_enter Try.func49, Try.ntmps49
        go_wp2
        go_ret
        exact ⟨_, rfl, Int.emod_nonneg _ (by omega), fun _ => Int.emod_lt_of_pos _ (by omega), fun h => by omega, r1, r2⟩
      · obtain ⟨u, u1, u2, hu⟩ := hc (p % m) (Nat.mod_lt _ m0)
        obtain ⟨v, v1, v2, hv⟩ := hc ((p * 7 + 3) % m) (Nat.mod_lt _ m0)
        have b1 : (0 : Int) ≤ (p : Int) % m := Int.emod_nonneg _ (by omega)
        have b2 : (p : Int) % m < m := Int.emod_lt_of_pos _ (by omega)
        have b3 : (0 : Int) ≤ ((p : Int) * 7 + 3) % m := Int.emod_nonneg _ (by omega)
        have b4 : ((p : Int) * 7 + 3) % m < m := Int.emod_lt_of_pos _ (by omega)
        have b5 : (0 : Int) ≤ (p : Int) / m := Int.ediv_nonneg (by omega) (by omega)
        have b6 : (p : Int) / m ≤ p := Int.ediv_le_self _ (by omega)
        go_enter Try.func49, Try.ntmps49
        go_wp2
        go_quiet (fail)
        go_wp2
        go_ret
        have x0 := xor_nonneg (u * 131 + v * 1117 + (p : Int) * 29 + (p : Int) / m * 53) (by omega) (by omega)
        obtain ⟨r3, r4⟩ := rd_after (q := nq) hb hp hm hA
        refine ⟨_, rfl, Int.tmod_nonneg _ x0, fun _ => ?_, fun h => by omega, r3, r4⟩
        rw [Int.tmod_eq_emod_of_nonneg x0]
        exact Int.emod_lt_of_pos _ (by omega)

/-- pick at a range that is not empty. -/
def PickIn (n : Int) (rb P : Nat) (W : World) (e : Ending) (w' : World) : Prop :=
  ∃ x : Int, e = .returned (.int .i64 x) ∧ 0 ≤ x ∧ x < n ∧ RdAt w' rb (P + 1) ∧ W.grownBy w' (some rb) ∧ w'.heap.size = W.heap.size
theorem pick_in (rb P : Nat) (n : Int) (W : World) (h : RdAt W rb P) (hP : P ≤ 1000000000000) (hn : 1 ≤ n ∧ n ≤ 9000000000000000000) :
    Calls Try.prog 49 #[.pointer (some ⟨rb, 0, none⟩), .int .i64 n] W (PickIn n rb P W) :=
  (pick_any rb P n W h hP (by omega)).mono fun _ _ ⟨x, e, x0, x1, _, hr, hg⟩ => ⟨x, e, x0, x1 hn.1, hr, hg⟩

/-- odd: whatever it says, it writes the reader's own block alone. -/
def OddPost (rb P : Nat) (W : World) (e : Ending) (w' : World) : Prop :=
  ∃ x : Bool, e = .returned (.bool x) ∧ RdAt w' rb (P + 1) ∧ W.grownBy w' (some rb) ∧ w'.heap.size = W.heap.size

theorem RdAt.mono {w : World} {rb P Q : Nat} (h : RdAt w rb P) (hPQ : P ≤ Q) : RdAt w rb Q := by
  obtain ⟨A, n, c, p, h1, h2, h3⟩ := h
  exact ⟨A, n, c, p, h1, by omega, h3⟩

theorem RdAt.lt {w : World} {rb P : Nat} (h : RdAt w rb P) : rb < w.heap.size := by
  obtain ⟨A, n, c, p, h1, _⟩ := h
  exact (Array.getElem?_eq_some_iff.1 h1).1

/-- The reader is as it was where no block up to its own has turned. -/
theorem RdAt.keep {w w' : World} {rb P : Nat} (h : RdAt w rb P) (hk : ∀ k, k ≤ rb → w'.heap[k]? = w.heap[k]?) : RdAt w' rb P := by
  obtain ⟨A, n, c, p, h1, h2, h3, h4⟩ := h
  refine ⟨A, n, c, p, (hk rb (Nat.le_refl _)).trans h1, h2, h3, fun h0 => ?_⟩
  obtain ⟨b, off, e, hlt, hc⟩ := h4 h0
  refine ⟨b, off, e, hlt, fun i hi => ?_⟩
  obtain ⟨u, u1, u2, hu⟩ := hc i hi
  exact ⟨u, u1, u2, (World.cell?_of_block (hk b (Nat.le_of_lt hlt))).trans hu⟩
theorem RdAt.alloc {w : World} {rb P : Nat} (h : RdAt w rb P) (o : Obj) : RdAt (w.alloc o) rb P :=
  h.keep fun k hk => Below.heap_alloc w o k (Nat.lt_of_le_of_lt hk h.lt)
theorem RdAt.drew {w : World} {rb P : Nat} (h : RdAt w rb P) : RdAt w.drew rb P := h
theorem RdAt.below {w w' : World} {B rb P : Nat} (h : RdAt w rb P) (hb : Below B w w') (hB : rb < B) : RdAt w' rb P :=
  h.keep fun k hk => hb.block k (by omega)
theorem RdAt.setCell {w : World} {rb P : Nat} (h : RdAt w rb P) {a : Addr} (ha : rb < a.block) (v : Value) : RdAt (w.setCell a v) rb P :=
  h.keep fun k hk => Below.heap_setCell w a v k (by omega)
theorem RdAt.grown {w w' : World} {rb P : Nat} {row : Option Nat} (h : RdAt w rb P) (hg : w.grownBy w' row) (hr : ∀ k, row = some k → rb < k) : RdAt w' rb P :=
  h.keep fun k hk => hg.block k (by have := h.lt; omega) (fun e => by have := hr k e.symm; omega)

theorem odd_any (rb P : Nat) (n : Int) (W : World) (h : RdAt W rb P) (hP : P ≤ 1000000000000) (hn : 0 ≤ n ∧ n ≤ 9000000000000000000) :
    Calls Try.prog 60 #[.pointer (some ⟨rb, 0, none⟩), .int .i64 n] W (OddPost rb P W) := by
  by_cases h0 : 0 < n
  · go_enter Try.func60, Try.ntmps60
    go_wp2_with (go_at_call 49; refine (pick_any rb P n _ h hP (by omega)).mono ?_; rintro e w1 ⟨x, rfl, x0, x1, x2, hr, hg⟩)
    go_ret
    exact ⟨_, rfl, hr, hg⟩
  · go_enter Try.func60, Try.ntmps60
    go_wp2
    go_ret
    exact ⟨_, rfl, h.mono (by omega), World.grownBy.refl _ _, rfl⟩

/-- l20Open: the reader lies in the first new block; nothing else is made or written. -/
def OpenPost (W : World) (e : Ending) (w' : World) : Prop :=
  e = .returned (.pointer (some ⟨W.heap.size, 0, none⟩)) ∧ RdAt w' W.heap.size 0 ∧ Below W.heap.size W w' ∧ w'.heap.size = W.heap.size + 1

theorem open_any (A : Option Addr) (n c : Nat) (W : World) (h : BytesIn W A n) (hnc : n ≤ c) (hc : c ≤ 9223372036854775807) :
    Calls Try.prog 47 #[.slice A n c] W (OpenPost W) := by
  have key : ∀ (A' : Option Addr) (n' c' : Nat), n' ≤ 2000 → BytesIn W A' n' →
      OpenPost W (.returned (.pointer (some ⟨W.heap.size, 0, none⟩))) (W.alloc (.cells #[.slice A' n' c', .int .i64 0] 83)) := by
    intro A' n' c' hn' hb
    refine ⟨rfl, ⟨A', n', c', 0, heap_alloc_new W _, Nat.le_refl _, hn', fun h0 => ?_⟩, (Below.refl _ _).alloc (Nat.le_refl _) _, by simp⟩
    obtain ⟨b, off, e, hcell⟩ := hb h0
    refine ⟨b, off, e, ?_, fun i hi => ?_⟩
    · obtain ⟨u, _, _, hu⟩ := hcell 0 h0
      exact block_lt_of_cell hu
    · obtain ⟨u, h1, h2, hu⟩ := hcell i hi
      exact ⟨u, h1, h2, by rw [World.cell?_alloc_lt _ _ _ (block_lt_of_cell hu)]; exact hu⟩
  by_cases hn : 2000 < n
  · obtain ⟨b, off, rfl, hcell⟩ := h (by omega)
    have hcut : BytesIn W (some ⟨b, off, none⟩) 2000 := fun _ => ⟨b, off, rfl, fun i hi => hcell i (by omega)⟩
    have k := Lib.hid (key _ 2000 c (by omega) hcut)
    clear key hcell h hcut
    go_enter Try.func47, Try.ntmps47
    go_wp2
    go_ret
    exact k.out
  · have k := Lib.hid (key A n c (by omega) h)
    clear key h
    go_enter Try.func47, Try.ntmps47
    go_wp2
    go_ret
    exact k.out

theorem gtrans {a b c : World} {row : Option Nat} (h : a.grownBy b row) (k : b.grownBy c row) : a.grownBy c row :=
  ⟨k.os.trans h.os, k.tape.trans h.tape, k.output.trans h.output, Nat.le_trans h.size k.size, fun i hi hn => (k.block i (Nat.lt_of_lt_of_le hi h.size) hn).trans (h.block i hi hn)⟩
theorem galloc {a b : World} {row : Option Nat} (h : a.grownBy b row) (o : Obj) : a.grownBy (b.alloc o) row := gtrans h (World.grownBy_alloc b o row)
theorem gdrew {a b : World} {row : Option Nat} (h : a.grownBy b row) : a.grownBy b.drew row := ⟨h.os, h.tape, h.output, h.size, h.block⟩

theorem bgrown {W a b : World} {rb : Nat} (h : Below W.heap.size W a) (k : a.grownBy b (some rb)) (hr : W.heap.size ≤ rb) : Below W.heap.size W b :=
  h.grown k h.size (fun k' e => by injection e with e; omega)

/-- An element of a written list of integers, at a drawn place: some number of the list. -/
theorem sel (l : List Int) (lo hi : Int) (hl : ∀ a ∈ l, lo ≤ a ∧ a ≤ hi) (x : Int) (h0 : 0 ≤ x) (h1 : x < l.length) :
    ∃ v : Int, lo ≤ v ∧ v ≤ hi ∧ ∀ h, (l.map (Value.int .i64))[x.toNat]'h = .int .i64 v := by
  have hx : x.toNat < l.length := by omega
  exact ⟨l[x.toNat], (hl _ (List.getElem_mem hx)).1, (hl _ (List.getElem_mem hx)).2, fun h => by simp⟩

/-- A cell of a block that is not the reader's reads behind a pick as ahead of it. -/
theorem keepc {X w : World} {rb g : Nat} (i : Nat) (hg : X.grownBy w (some rb)) (hlt : g < X.heap.size) (hne : g ≠ rb) : w.cell? ⟨g, i, none⟩ = X.cell? ⟨g, i, none⟩ :=
  World.cell?_of_block (a := ⟨g, i, none⟩) (hg.block g hlt (fun e => hne (by injection e)))

/-- The cells of a block that is not the reader's, known whole ahead of a pick. -/
theorem keepr {X w : World} {rb g : Nat} {cs : Array Value} {T : TypeId} {fr : Nat × Nat} (hg : X.grownBy w (some rb)) (h : X.heap[g]? = some (.cells cs T fr)) (hne : g ≠ rb) (i : Nat) : w.cell? ⟨g, i, none⟩ = cs[i]? :=
  cell_of_row _ _ _ _ _ _ ((hg.block g (Array.getElem?_eq_some_iff.1 h).1 (fun e => hne (by injection e))).trans h)

/-- sel, with the reading by place besides. -/
theorem selq (l : List Int) (lo hi : Int) (hl : ∀ a ∈ l, lo ≤ a ∧ a ≤ hi) (x : Int) (h0 : 0 ≤ x) (h1 : x < l.length) :
    ∃ v : Int, lo ≤ v ∧ v ≤ hi ∧ (l.map (Value.int .i64))[x.toNat]? = some (.int .i64 v) ∧ ∀ h, (l.map (Value.int .i64))[x.toNat]'h = .int .i64 v := by
  obtain ⟨v, a, b, h⟩ := sel l lo hi hl x h0 h1
  have hx : x.toNat < (l.map (Value.int .i64)).length := by rw [List.length_map]; omega
  exact ⟨v, a, b, by rw [List.getElem?_eq_getElem hx, h hx], h⟩
end Go.Proofs.Ytpfbkmpjneclpaa
