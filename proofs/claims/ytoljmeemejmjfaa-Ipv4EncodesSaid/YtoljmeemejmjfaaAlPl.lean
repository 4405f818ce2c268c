/-
  The options of an IPv4 packet that ask each router to look, as a plain function of bytes. Conditions: none.
-/
namespace Go.Proofs.Ytoljmeemejmjfaa.Al

/-- what is told of options, when this has been found already -/
def tell (l : List UInt8) (f : Bool) : Bool × Int :=
  match l with
  | [] => (f, 0)
  | k :: r => if k = 0 then (f, 0) else if k = 1 then tell r f else
    if 2 ≤ (r.headD 0).toNat ∧ (r.headD 0).toNat ≤ r.length + 1 then tell ((k :: r).drop (r.headD 0).toNat) (f || (k :: r).take (r.headD 0).toNat == [148, 4, 0, 0]) else (false, 3)
termination_by l.length
decreasing_by
  all_goals simp only [List.length_cons, List.length_drop]
  all_goals omega

theorem cases (l : List UInt8) (f v : Bool) (c : Int) (h : tell l f = (v, c)) :
    (l = [] ∧ f = v ∧ c = 0) ∨ (∃ k r, l = k :: r ∧ k.toNat = 0 ∧ f = v ∧ c = 0) ∨ (∃ k r, l = k :: r ∧ k.toNat = 1 ∧ tell r f = (v, c)) ∨
    (∃ k r, l = k :: r ∧ 2 ≤ k.toNat ∧ ((r.headD 0).toNat < 2 ∨ r.length + 1 < (r.headD 0).toNat) ∧ v = false ∧ c = 3) ∨
    (∃ k r, l = k :: r ∧ 2 ≤ k.toNat ∧ 2 ≤ (r.headD 0).toNat ∧ (r.headD 0).toNat ≤ r.length + 1 ∧ tell (l.drop (r.headD 0).toNat) (f || l.take (r.headD 0).toNat == [148, 4, 0, 0]) = (v, c)) := by
  rw [tell.eq_def] at h
  rcases l with _ | ⟨k, r⟩
  · exact .inl ⟨rfl, congrArg Prod.fst h, (congrArg Prod.snd h).symm⟩
  · dsimp only at h
    by_cases h0 : k = 0
    · rw [if_pos h0] at h
      exact .inr (.inl ⟨k, r, rfl, by rw [h0]; rfl, congrArg Prod.fst h, (congrArg Prod.snd h).symm⟩)
    · rw [if_neg h0] at h
      by_cases h1 : k = 1
      · rw [if_pos h1] at h
        exact .inr (.inr (.inl ⟨k, r, rfl, by rw [h1]; rfl, h⟩))
      · rw [if_neg h1] at h
        have hk : 2 ≤ k.toNat := by
          have e0 : k.toNat ≠ 0 := fun e => h0 (UInt8.toNat_inj.1 e)
          have e1 : k.toNat ≠ 1 := fun e => h1 (UInt8.toNat_inj.1 e)
          omega
        by_cases h2 : 2 ≤ (r.headD 0).toNat ∧ (r.headD 0).toNat ≤ r.length + 1
        · rw [if_pos h2] at h
          exact .inr (.inr (.inr (.inr ⟨k, r, rfl, hk, h2.1, h2.2, h⟩)))
        · rw [if_neg h2] at h
          exact .inr (.inr (.inr (.inl ⟨k, r, rfl, hk, by omega, (congrArg Prod.fst h).symm, (congrArg Prod.snd h).symm⟩)))
end Go.Proofs.Ytoljmeemejmjfaa.Al
