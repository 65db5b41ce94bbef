/- Proves Rows.FnParityTurnSaid: for every input the law FnParityTurn returns true and leaves its arguments as they were. Conditions: none. -/
import Derived.Test.YtfjnagaphfemfaaOpen
import Derived.Test.YtfjnagaphfemfaaPar
import Derived.Test.YtfjnagaphfemfaaDrawPar
import Derived.Test.YtfjnagaphfemfaaInts
namespace Go.Proofs.Ytfjnagaphfemfaa.fnParityTurn
open Go.ChangeShapes Go.WideShapes Go.ChangeAt Go.RowKit
set_option linter.unusedVariables false
/-- How many of the first j rows from row on have their parity on disk d. -/
def cntT (row disks d : Int) : Nat → Int
  | 0 => 0
  | j + 1 => cntT row disks d j + (if (parD (row + j) disks == d) = true then 1 else 0)
theorem cntT_bd (row disks d : Int) (j : Nat) : 0 ≤ cntT row disks d j ∧ cntT row disks d j ≤ j := by
  induction j with
  | zero => simp [cntT]
  | succ j ih => unfold cntT; split <;> omega
theorem cntT_all : ∀ row : Fin 15, ∀ disks : Fin 7, ∀ d : Fin 7, 2 ≤ disks.val → row.val + disks.val ≤ 16 → d.val < disks.val → cntT row.val disks.val d.val disks.val = 1 := by
  decide +kernel
theorem cntT_one {row disks d : Int} (h0 : 0 ≤ row) (h1 : 2 ≤ disks) (h2 : disks ≤ 6) (h3 : row + disks ≤ 16) (h4 : 0 ≤ d) (h5 : d < disks) : cntT row disks d disks.toNat = 1 := by
  have := cntT_all ⟨row.toNat, by omega⟩ ⟨disks.toNat, by omega⟩ ⟨d.toNat, by omega⟩ (by simp; omega) (by simp; omega) (by simp; omega)
  simp only at this
  rw [show ((row.toNat : Nat) : Int) = row by omega, show ((disks.toNat : Nat) : Int) = disks by omega, show ((d.toNat : Nat) : Int) = d by omega] at this
  exact this

set_option maxHeartbeats 1000000 in
theorem walk (A : Option Addr) (m c : Nat) (w : World) (hb : BytesIn w A m) (hmc : m ≤ c) (hc : c ≤ 9223372036854775807) :
    Calls Try.prog 8 #[.slice A m c] w fun e w' => e = .returned (.bool true) ∧ Below w.heap.size w w' := by
  by_cases hbig : 1048576 < m
  · go_enter Try.func8, Try.ntmps8
    go_wp2
    go_ret
    exact ⟨rfl, Below.refl _ _⟩
  · go_enter Try.func8, Try.ntmps8
    go_wp2_with fail
    refine (drawParity_any A m c w hb hmc hc).mono ?_
    rintro e w1 ⟨r, d, rfl, r0, r1, d0, d1, hb1⟩
    by_cases hv : 0 ≤ r ∧ 2 ≤ d ∧ d ≤ 6 ∧ r + d ≤ 16
    · obtain ⟨v0, v1, v2, v3⟩ := hv
      go_wp2_with (first
        | (go_at_call 14; refine (implParity_any r d _).mono ?_; rintro e w' ⟨rfl, rfl⟩)
        | (go_at_call 13; refine (specParity_any r d _).mono ?_; rintro e w' ⟨rfl, rfl⟩))
      go_loop [5] (fun x => ∃ k : Int, 0 ≤ k ∧ k ≤ d ∧ x = .int .i64 k) (fun x => (d - intOf x).toNat)
      case atStart => exact ⟨0, by omega, by omega, rfl⟩
      case round =>
        obtain ⟨k, hk0, hk1, rfl⟩ := hrel
        by_cases hlt : k < d
        · have hone := Lib.hid (cntT_one v0 v1 v2 v3 hk0 hlt)
          go_wp2
          go_loop [6, 7] (fun x y => ∃ j : Nat, (j : Int) ≤ d ∧ x = .int .i64 (cntT r d k j) ∧ y = .int .i64 (r + j)) (fun _ y => (r + d - intOf y).toNat)
          case atStart => exact ⟨0, by omega, rfl, by go_num⟩
          case round =>
            obtain ⟨j, hj, rfl, rfl⟩ := hrel
            have hcb := cntT_bd r d k j
            by_cases hjl : (j : Int) < d
            · have hs : Hid (cntT r d k (j + 1) = cntT r d k j + (if (parD (r + j) d == k) = true then 1 else 0)) := rfl
              cases hp : (parD (r + j) d == k)
              · go_wp2_with (go_at_call 14; refine (implParity_any _ _ _).mono ?_; rintro e w' ⟨rfl, rfl⟩)
                go_round
                case rel => exact ⟨j + 1, by omega, by rw [hs.out, hp]; simp, by go_num⟩
                case measure => simp [intOf]; omega
              · go_wp2_with (go_at_call 14; refine (implParity_any _ _ _).mono ?_; rintro e w' ⟨rfl, rfl⟩)
                go_round
                case rel => exact ⟨j + 1, by omega, by rw [hs.out, hp]; simp, by go_num⟩
                case measure => simp [intOf]; omega
            · obtain rfl : j = d.toNat := by omega
              have h1 : (cntT r d k d.toNat != 1) = false := by rw [hone.out]; rfl
              clear hone
              go_wp2
              go_round
              case rel => exact ⟨k + 1, by omega, by omega, rfl⟩
              case measure => simp [intOf]; omega
        · go_wp2
          go_ret
          exact ⟨rfl, hb1⟩
    · rcases (show r < 0 ∨ (0 ≤ r ∧ d < 2) ∨ (0 ≤ r ∧ 2 ≤ d ∧ 6 < d) ∨ (0 ≤ r ∧ 2 ≤ d ∧ d ≤ 6 ∧ 16 < r + d) by omega) with h | ⟨h1, h⟩ | ⟨h1, h2, h⟩ | ⟨h1, h2, h3, h⟩
      all_goals
        clear hv
        go_wp2_with (first
          | (go_at_call 14; refine (implParity_any r d _).mono ?_; rintro e w' ⟨rfl, rfl⟩)
          | (go_at_call 13; refine (specParity_any r d _).mono ?_; rintro e w' ⟨rfl, rfl⟩)
          | (go_at_call 25; refine (alive_any _).mono ?_; rintro e w2 ⟨rfl, hb2⟩))
        go_ret
        exact ⟨rfl, hb1.trans (hb2.mono hb1.size)⟩

set_option maxRecDepth 100000 in
theorem lifted (os : Os) (started : os.Started) (H : Type) (enc : TypeId × Value → H) :
    ReturnsInHanded {} Try.checked os 8 .any (Rows.fnParityTurnSpec.pre6 enc Try.prog Try.f8 Rows.fnParityTurnRow.domain false) (Rows.fnParityTurnSpec.post enc Try.prog Try.f8 false true false false) := by
  refine returnsInHanded_of_change (C := Try.checked) own started (by kernel_rfl) Try.func8
    (ChangeSpec.witness6 (enc := enc) (C := Try.checked) false ⟨#[], #[.slice none 0 0], []⟩ 8 (by kernel_rfl) (by kernel_rfl) (by kernel_rfl) (by kernel_rfl)) ?_
  intro W base args ds gs before hval0 hW hcnd _
  have hval : ∀ (j : Nat) t v, Try.f8.params[j]? = some t → args[j]? = some v → Value.okWide Try.prog W .any base t v := hval0
  have hW' := hW
  obtain ⟨p, q, hA0, hV, rfl, hfz, hnd⟩ := hW
  have hA : DataW.TrodAll enc Try.prog W 0 (fun _ => true) true Try.f8.params.toList args.toList ds p := hA0
  rw [Try.params8] at hA hval
  obtain ⟨v0, vs0, d0, ds0, p0, q0, hargs, rfl, rfl, h0, r0⟩ := trodAll_cons hA
  obtain ⟨rfl, rfl, rfl⟩ := trodAll_nil r0
  obtain rfl : args = #[v0] := by cases args; simp_all
  obtain ⟨rfl, rfl⟩ := trodVars_none hV
  have k0 := h0
  have lt0 : ∀ x ∈ p0, x.block < W.heap.size := by obtain ⟨m, hm⟩ := k0; exact DataW.trod_lt m _ _ _ hm
  obtain ⟨a0, n0, c0, rfl, ok0, le0, cl0⟩ := open_bytes (hval 0 33 v0 rfl rfl) h0
  clear hA0 hval0
  refine (walk a0 n0 c0 W ok0 le0 cl0).mono fun e W' ⟨he, bel⟩ => ?_
  subst he
  exact ⟨_, rfl, _, _, _, [], _, [], hW', trodAll_mk1 (shut_bool Try.underlying4 _), (trodAll_cons_mk (Below.trod laidOut (by kernel_rfl) (of_decide_eq_true (by kernel_rfl)) k0 bel lt0) trodAll_mk0), rfl, bel.frame _, fun h => by cases h⟩

theorem proved : Rows.FnParityTurnSaid :=
  OpenClaim.holds_of_wide 8 Try.f8 rfl rfl rfl rfl rfl rfl rfl ⟨rfl, rfl, rfl, rfl, rfl⟩ rfl rfl rfl rfl rfl (by kernel_rfl) Try.func8 (by kernel_rfl)
    (of_decide_eq_true (by kernel_rfl)) (by unfold Func.isWrapper; first | (rw [if_pos (by decide +kernel)]; kernel_rfl) | (rw [if_neg (by decide +kernel)]; exact ⟨rfl, rfl⟩))
    (fun os started H enc _ => lifted os started H enc)
#print axioms proved
end Go.Proofs.Ytfjnagaphfemfaa.fnParityTurn
