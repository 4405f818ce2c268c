/-
  Frames with a row of their slots named, and the steps of a region's operations on them. Conditions: those of each.
-/
import Derived.Great.Frames
import Derived.Test.YticdmepplfgdiaaGreatDoorQ01
import Derived.Test.YticdmepplfgdiaaGreatDoorQ03
set_option linter.unusedVariables false
set_option linter.unusedSimpArgs false
namespace Go.Proofs.YticdmepplfgdiaaGreatDoor
open Go.RowKit
/-- a frame some of whose slots, one behind the other, hold these values -/
def chain (a : Act) : Nat → List Value → Act
  | _, [] => a
  | b, z :: zs => (chain a (b + 1) zs).put (some b) z
theorem chain_size (a : Act) (b : Nat) (zs : List Value) : (chain a b zs).tmps.size = a.tmps.size := by
  induction zs generalizing b with
  | nil => rfl
  | cons z zs ih => simp [chain, Act.put, ih]
theorem chain_low {a : Act} {b k : Nat} (zs : List Value) (h : k < b) : (chain a b zs).eval (.tmp k) = a.eval (.tmp k) := by
  induction zs generalizing b with
  | nil => rfl
  | cons z zs ih => rw [chain, Act.eval_put_ne _ _ _ _ (Nat.ne_of_gt h), ih (Nat.lt_succ_of_lt h)]
theorem chain_eval {a : Act} {b j : Nat} {zs : List Value} (h : b + zs.length ≤ a.tmps.size) (hj : j < zs.length) : (chain a b zs).eval (.tmp (b + j)) = zs.getD j undef := by
  induction zs generalizing b j with
  | nil => exact absurd hj (Nat.not_lt_zero _)
  | cons z zs ih =>
    rw [List.length_cons] at h hj
    cases j with
    | zero =>
      show ((chain a (b + 1) zs).put (some b) z).eval (.tmp b) = z
      exact Act.eval_put_same _ _ _ (by rw [chain_size]; omega)
    | succ j =>
      rw [chain, Act.eval_put_ne _ _ _ _ (by omega), show b + (j + 1) = (b + 1) + j by omega, ih (by omega) (by omega)]
      rfl
theorem put_twice (a : Act) (d : Nat) (u v : Value) : (a.put (some d) u).put (some d) v = a.put (some d) v := by
  simp [Act.put]
theorem chain_put (a : Act) (b j : Nat) (zs : List Value) (v : Value) (hj : j < zs.length) : (chain a b zs).put (some (b + j)) v = chain a b (zs.set j v) := by
  induction zs generalizing b j with
  | nil => exact absurd hj (Nat.not_lt_zero _)
  | cons z zs ih =>
    cases j with
    | zero =>
      show ((chain a (b + 1) zs).put (some b) z).put (some b) v = (chain a (b + 1) zs).put (some b) v
      exact put_twice _ _ _ _
    | succ j =>
      rw [List.set_cons_succ, chain, chain, Act.put_comm _ _ _ (fun d e => by cases e; simp), show b + (j + 1) = (b + 1) + j by omega, ih (b + 1) j (by simpa using hj)]
theorem put_self (a : Act) (d : Nat) : a.put (some d) (a.eval (.tmp d)) = a := by
  obtain ⟨t, ds⟩ := a
  show ({ tmps := t.setIfInBounds d (t.getD d undef), defers := ds } : Act) = { tmps := t, defers := ds }
  congr 1
  apply Array.ext
  · simp
  · intro i h1 h2
    rw [Array.getElem_setIfInBounds (by simpa using h2)]
    split
    · next h => subst h; simp [Array.getD, h2]
    · rfl
/-- an operation that yields a value -/
theorem wpOp_value {P : Program} {ops : Array Oper} {Q : Exit → Act → World → Prop} {i : Nat} {K : Act → World → Prop} {a : Act} {w W : World} {o : Oper} {v : Value} (ho : ops[i]? = some o) (hg : o.guard = none) (hr : (execOp a.eval o).run P w = .ok (.value v) W) (h : K (a.put o.dst v) W) : wpOp P ops Q i K a w := by
  unfold wpOp
  rw [ho]
  simp only [Region.wanted, hg]
  refine .inl ?_
  unfold Oper.wp
  rw [hr]
  exact h
/-- one that yields none -/
theorem wpOp_skip {P : Program} {ops : Array Oper} {Q : Exit → Act → World → Prop} {i : Nat} {K : Act → World → Prop} {a : Act} {w W : World} {o : Oper} (ho : ops[i]? = some o) (hg : o.guard = none) (hd : o.dst = none) (hr : (execOp a.eval o).run P w = .ok .skip W) (h : K a W) : wpOp P ops Q i K a w := by
  unfold wpOp
  rw [ho]
  simp only [Region.wanted, hg]
  refine .inl ?_
  unfold Oper.wp
  rw [hr, Oper.upon_skip, hd]
  exact h
theorem frame_named {P : Program} {c : Code} {Q : Exit → Act → World → Prop} {a : Act} {w : World} (h : ∀ a0, a0 = a → c.wp P Q a0 w) : c.wp P Q a w := h a rfl
/-- what each kind of operation comes to -/
theorem run_move {P : Program} {a : Act} {w : World} {o : Oper} {x : Operand} {v : Value} (ho : o.op = .move x) (hx : a.eval x = v) : (execOp a.eval o).run P w = .ok (.value v) w := by
  simp [execOp, ho, hx]
theorem run_nilCheck {P : Program} {a : Act} {w : World} {o : Oper} {x : Operand} {p : Addr} (ho : o.op = .nilCheck x) (hx : a.eval x = .pointer (some p)) : (execOp a.eval o).run P w = .ok (.value (.pointer (some p))) w := by
  simp [execOp, ho, hx]
theorem run_fieldAddr {P : Program} {a : Act} {w : World} {o : Oper} {x : Operand} {s : TypeId} {f : Nat} {u v : Value} (ho : o.op = .fieldAddr s x f) (hx : a.eval x = u) (hr : (Instr.fieldAt s u f).run P w = .ok v w) : (execOp a.eval o).run P w = .ok (.value v) w := by
  simp [execOp, ho, hx, hr, Result.andThen]
theorem run_load {P : Program} {a : Act} {w : World} {o : Oper} {x : Operand} {t : TypeId} {u v : Value} (ho : o.op = .load t x) (hx : a.eval x = u) (hr : (Instr.loadAt t u).run P w = .ok v w) : (execOp a.eval o).run P w = .ok (.value v) w := by
  simp [execOp, ho, hx, hr, Result.andThen]
theorem run_store {P : Program} {a : Act} {w W : World} {o : Oper} {x y : Operand} {t : TypeId} {u v : Value} (ho : o.op = .store t x y) (hx : a.eval x = u) (hy : a.eval y = v) (hr : (Instr.storeAt t u v).run P w = .ok () W) : (execOp a.eval o).run P w = .ok .skip W := by
  simp [execOp, ho, hx, hy, hr, Result.andThen]
theorem run_row1 {P : Program} {a : Act} {w W : World} {o : Oper} {x : Operand} {t : TypeId} {u v : Value} (ho : o.op = .buildSlice t 1 #[(0, x)]) (hx : a.eval x = u) (hr : (Instr.buildSlice t 1 #[(0, u)]).run P w = .ok v W) : (execOp a.eval o).run P w = .ok (.value v) W := by
  simp [execOp, ho, hx, hr, Result.andThen]
theorem run_append {P : Program} {a : Act} {w W : World} {o : Oper} {x y : Operand} {t : TypeId} {u v r : Value} (ho : o.op = .call { callee := .builtin .append, args := #[x, y], argTypes := #[t, t] }) (hx : a.eval x = u) (hy : a.eval y = v) (hr : (Builtin.append_ #[t, t] o.type #[u, v]).run P w = .ok r W) : (execOp a.eval o).run P w = .ok (.value r) W := by
  simp [execOp, ho, resolve, invoke, builtin, hx, hy, hr, Result.andThen]
end Go.Proofs.YticdmepplfgdiaaGreatDoor
