/-
  A region that draws its order, by an invariant: what holds ahead of it and is kept by every operation that may come up holds behind it, in whatever order. Conditions: those of the law.
-/
import Derived.Orders
import Derived.WalkKit
set_option linter.unusedVariables false
set_option linter.unusedSimpArgs false
namespace Go.Proofs.YticdmepplfgdiaaGreatDoor
open Go.RowKit
/-- how many operations have not come up yet -/
def pending (listed : Array Bool) : Nat := (listed.toList.filter (!·)).length
theorem pending_set {listed : Array Bool} {i : Nat} (h : listed.getD i true = false) : pending (listed.setIfInBounds i true) < pending listed := by
  obtain ⟨l⟩ := listed
  have hi : i < l.length := by
    rcases Nat.lt_or_ge i l.length with h' | h'
    · exact h'
    · simp [Array.getD_eq_getD_getElem?, List.getElem?_eq_none h'] at h
  have hv : l[i] = false := by simpa [Array.getD_eq_getD_getElem?, List.getElem?_eq_getElem hi] using h
  simp only [pending, List.setIfInBounds_toArray]
  clear h
  induction l generalizing i with
  | nil => exact absurd hi (Nat.not_lt_zero _)
  | cons b r ih =>
    cases i with
    | zero => simp at hv; subst hv; simp
    | succ i =>
      simp at hi hv
      have := ih hi hv
      cases b <;> simpa using this
theorem ready_none {md : Region.Mode} {ops : Array Oper} {listed : Array Bool} (h : pending listed = 0) : Region.ready md ops listed = [] := by
  obtain ⟨l⟩ := listed
  unfold Region.ready
  rw [List.filter_eq_nil_iff]
  intro i _
  have hl : ∀ b ∈ l, b = true := by
    have h2 : (l.filter (!·)).length = 0 := h
    rw [List.length_eq_zero_iff, List.filter_eq_nil_iff] at h2
    intro b hb
    have := h2 b hb
    simpa using this
  have hg : (l.toArray).getD i true = true := by
    rcases Nat.lt_or_ge i l.length with h' | h'
    · simp [Array.getD_eq_getD_getElem?, List.getElem?_eq_getElem h', hl _ (List.getElem_mem h')]
    · simp [Array.getD_eq_getD_getElem?, List.getElem?_eq_none h']
  simp [hg]
theorem wpAny_inv {P : Program} {md : Region.Mode} {ops : Array Oper} {Q : Exit → Act → World → Prop} (I : Array Bool → Act → World → Prop)
    (hstep : ∀ listed a w i, I listed a w → i ∈ Region.ready md ops listed → wpOp P ops Q i (fun a' w' => I (listed.setIfInBounds i true) a' w') a w)
    (hfin : ∀ listed a w, I listed a w → Region.ready md ops listed = [] → Q .normal a w)
    (hmono : ∀ i a w (K K' : Act → World → Prop), (∀ a w, K a w → K' a w) → wpOp P ops Q i K a w → wpOp P ops Q i K' a w) :
    ∀ (fuel : Nat) (listed : Array Bool) (a : Act) (w : World), pending listed ≤ fuel → I listed a w → wpAny P md ops Q fuel listed a w := by
  intro fuel
  induction fuel with
  | zero =>
    intro listed a w hp h
    have hr := ready_none (md := md) (ops := ops) (Nat.le_zero.1 hp)
    exact ⟨hr, hfin _ _ _ h hr⟩
  | succ fuel ih =>
    intro listed a w hp h
    refine ⟨hfin _ _ _ h, fun i hi => ?_⟩
    have hf : listed.getD i true = false := by
      unfold Region.ready at hi
      rw [List.mem_filter] at hi
      have := hi.2
      simp only [Bool.and_eq_true, Bool.not_eq_true'] at this
      exact this.1
    exact hmono i a w _ _ (fun a' w' h' => ih _ a' w' (by have := pending_set hf; omega) h') (hstep _ _ _ _ h hi)
end Go.Proofs.YticdmepplfgdiaaGreatDoor
