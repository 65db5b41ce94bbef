/- A region that draws its order, by an invariant: each operation is carried out once, whatever has gone before it, so the proof grows with the operations and not with the orders. No program in sight. -/
import Derived.Test.YtpfbkmpjneclpaaRegZ
namespace Go.Proofs.Ytpfbkmpjneclpaa
open Go.RowKit
set_option linter.unusedVariables false
section
variable {P : Program} {ops : Array Oper} {Q : Exit → Act → World → Prop} {md : Region.Mode} {J : Nat → Array Bool → Act → World → Prop}

/-- Every operation waits for earlier ones only. -/
def downB (md : Region.Mode) (ops : Array Oper) : Bool := (List.range ops.size).all fun i => match ops[i]? with
  | some o => o.after.all fun e => !Region.binds md e || decide (e.on < i)
  | none => true
theorem all_listed {listed : Array Bool} (hd : downB md ops = true) (hr : Region.ready md ops listed = []) : ∀ i, i < ops.size → listed.getD i true = true := by
  intro i
  induction i using Nat.strongRecOn with
  | ind i ih =>
    intro hi
    cases hl : listed.getD i true with
    | true => rfl
    | false =>
      exfalso
      unfold downB at hd
      rw [List.all_eq_true] at hd
      have h1 := hd i (List.mem_range.2 hi)
      rw [Array.getElem?_eq_getElem hi] at h1
      simp only [Array.all_eq_true, Bool.or_eq_true, Bool.not_eq_true', decide_eq_true_eq] at h1
      have : i ∈ Region.ready md ops listed := mem_ready.2 ⟨hl, ops[i], Array.getElem?_eq_getElem hi, fun e he hb => by
        obtain ⟨j, hj, rfl⟩ := Array.mem_iff_getElem.1 he
        have h2 := (h1 j hj).resolve_left (by rw [hb]; simp)
        have h3 := ih _ h2 (by omega)
        have hsz : i < listed.size := by
          rcases Nat.lt_or_ge i listed.size with h' | h'
          · exact h'
          · simp [Array.getElem?_eq_none h'] at hl
        have h4 : ops[i].after[j].on < listed.size := by omega
        simpa [h4] using h3⟩
      rw [hr] at this
      cases this

/-- How many operations are left. -/
def unl (l : Array Bool) : Nat := l.toList.count false
theorem unl_set {l : Array Bool} {i : Nat} (h : l.getD i true = false) : unl (l.setIfInBounds i true) + 1 = unl l := by
  have hi : i < l.size := by
    rcases Nat.lt_or_ge i l.size with h' | h'
    · exact h'
    · simp [Array.getElem?_eq_none h'] at h
  have he : l.toList[i]'(by simpa using hi) = false := by simpa [hi] using h
  have hp : 0 < l.toList.count false := List.count_pos_iff.2 (by rw [← he]; exact List.getElem_mem _)
  have h2 := List.count_set (a := true) (b := false) (l := l.toList) (i := i) (by simpa using hi)
  rw [he] at h2
  simp only [beq_self_eq_true, if_true, show (true == false) = false from rfl, Bool.false_eq_true, if_false, Nat.add_zero] at h2
  unfold unl
  rw [Array.toList_setIfInBounds, h2]
  omega

/-- What has to be shown of operation number i. -/
def StepJ (P : Program) (md : Region.Mode) (ops : Array Oper) (Q : Exit → Act → World → Prop) (J : Nat → Array Bool → Act → World → Prop) (i : Nat) (o : Oper) : Prop :=
  ∀ fuel listed a w, J (fuel + 1) listed a w → (∀ e ∈ o.after, Region.binds md e = true → listed.getD e.on false = true) →
    ∀ K : Act → World → Prop, Shut (∀ a' w', J fuel (listed.setIfInBounds i true) a' w' → K a' w') →
      if Region.wanted o (yielded ops a.tmps) = true then Oper.wp P o a w K Q else K (a.put o.dst undef) w
def StepsJ (P : Program) (md : Region.Mode) (ops : Array Oper) (Q : Exit → Act → World → Prop) (J : Nat → Array Bool → Act → World → Prop) : Nat → List Oper → Prop
  | _, [] => True
  | i, o :: r => StepJ P md ops Q J i o ∧ StepsJ P md ops Q J (i + 1) r
theorem StepsJ.at {l : List Oper} : ∀ {s : Nat}, StepsJ P md ops Q J s l → ∀ (i : Nat) (o : Oper), l[i]? = some o → StepJ P md ops Q J (s + i) o := by
  induction l with
  | nil => intro s _ i o h; simp at h
  | cons p r ih =>
    intro s h i o ho
    cases i with
    | zero => simp at ho; subst ho; exact h.1
    | succ i =>
      have := ih h.2 i o (by simpa using ho)
      rwa [show s + (i + 1) = s + 1 + i by omega]
theorem wpAny_of_J (hd : downB md ops = true) (hs : StepsJ P md ops Q J 0 ops.toList) (he : ∀ fuel listed a w, J fuel listed a w → (∀ i, i < ops.size → listed.getD i false = true) → Q .normal a w) :
    ∀ (fuel : Nat) (listed : Array Bool) (a : Act) (w : World), listed.size = ops.size → unl listed ≤ fuel → J fuel listed a w → wpAny P md ops Q fuel listed a w := by
  have lf : ∀ listed : Array Bool, listed.size = ops.size → Region.ready md ops listed = [] → ∀ i, i < ops.size → listed.getD i false = true := fun listed hz hr i hi => by
    have h1 := all_listed hd hr i hi
    have h2 : i < listed.size := by omega
    simpa [h2] using h1
  intro fuel
  induction fuel with
  | zero =>
    intro listed a w hz hu hJ
    have hr : Region.ready md ops listed = [] := by
      rcases List.eq_nil_or_concat (Region.ready md ops listed) with h | ⟨xs, x, h⟩
      · exact h
      · exfalso
        have hx : x ∈ Region.ready md ops listed := by rw [h]; simp
        have := unl_set (mem_ready.1 hx).1
        omega
    exact ⟨hr, he 0 listed a w hJ (lf listed hz hr)⟩
  | succ fuel ih =>
    intro listed a w hz hu hJ
    refine ⟨fun hr => he _ listed a w hJ (lf listed hz hr), fun i hi => ?_⟩
    obtain ⟨hl, o, ho, hall⟩ := mem_ready.1 hi
    have h1 := hs.at i o (by simpa using ho)
    rw [Nat.zero_add] at h1
    exact wpOp_step ho fun K' hK => h1 fuel listed a w hJ hall K' fun a' w' hJ' => hK a' w' (ih _ a' w' (by simpa using hz) (by have := unl_set hl; omega) hJ')
theorem wp_region_J {id : Nat} {a : Act} {w : World} (J : Nat → Array Bool → Act → World → Prop) (hm : P.follows .mixedOrders = true) (hd : downB .any ops = true) (h0 : J ops.size (Array.replicate ops.size false) a w.drew)
    (hs : StepsJ P .any ops Q J 0 ops.toList) (he : ∀ fuel listed a w, J fuel listed a w → (∀ i, i < ops.size → listed.getD i false = true) → Q .normal a w) : (Code.region id ops true).wp P Q a w :=
  wp_region_any hm (wpAny_of_J hd hs he _ _ _ _ (by simp) (by
    unfold unl
    simp) h0)
end
/-- A fact that stands behind number j, behind number i too. -/
theorem gk {F F' : Prop} {l : Array Bool} {i j : Nat} (hij : i ≠ j) (h : l.getD j false = true → F) (m : F → F') : (l.setIfInBounds i true).getD j false = true → F' := by
  rw [getD_set_ne false hij]
  exact fun x => m (h x)
end Go.Proofs.Ytpfbkmpjneclpaa
