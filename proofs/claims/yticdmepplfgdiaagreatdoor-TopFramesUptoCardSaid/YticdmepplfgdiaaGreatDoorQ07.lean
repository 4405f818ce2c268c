/-
  A walk of one goroutine that goes through communications too: the code's weakest precondition for frames that are no early ones, with a law for a region that begins with a select of one case and a default. No function of the program is walked here. Conditions: those of each.
-/
import Derived.Scope
import Derived.Conc.LoneSelect
import Derived.Test.YticdmepplfgdiaaGreatDoorQ03
set_option linter.unusedVariables false
set_option linter.unusedSimpArgs false
namespace Go.Proofs.YticdmepplfgdiaaGreatDoor
open Go.RowKit Go.Conc
section
variable {P : Program} {Q : Exit → Act → World → Prop} {a : Act} {w : World}
/-- what code comes to, in a frame that is no early one -/
def wpN (P : Program) (c : Code) (Q : Exit → Act → World → Prop) (a : Act) (w : World) : Prop :=
  ∀ (b : Frame) (k : List Item) (cs : List Frame), b.kind ≠ .early → ∃ e a' w', Q e a' w' ∧ Arrives P (lone (b.at a (.code c :: k)) cs w) b k cs e a' w'
theorem wpN_of_wp {c : Code} (h : c.wp P Q a w) : wpN P c Q a w := fun b k cs _ => h b k cs
theorem wpN_seq {x y : Code} (h : wpN P x (Exit.then (wpN P y Q) Q) a w) : wpN P (.seq x y) Q a w := by
  intro b k cs hb
  obtain ⟨e, a₁, w₁, hq, harr⟩ := h b (.code y :: k) cs hb
  have away : e ≠ .normal → Arrives P (lone (b.at a (.code (.seq x y) :: k)) cs w) b k cs e a₁ w₁ := fun hn => .of_steps (.one step_seq) (.pass (x := .code y) rfl (fun _ _ => .inl hn) harr)
  cases e with
  | normal =>
    obtain ⟨e₂, a₂, w₂, hq₂, harr₂⟩ := hq b k cs hb
    exact ⟨e₂, a₂, w₂, hq₂, .of_steps (.head step_seq harr) harr₂⟩
  | exit id => exact ⟨_, a₁, w₁, hq, away (by simp)⟩
  | goto l => exact ⟨_, a₁, w₁, hq, away (by simp)⟩
  | ret => exact ⟨_, a₁, w₁, hq, away (by simp)⟩
  | panic ch => exact ⟨_, a₁, w₁, hq, away (by simp)⟩
  | outgrown => exact ⟨_, a₁, w₁, hq, away (by simp)⟩
theorem wpN_block {id : Nat} {c : Code} (h : wpN P c (Exit.inBlock id Q) a w) : wpN P (.block id c) Q a w := by
  intro b k cs hb
  obtain ⟨e, a₁, w₁, hq, harr⟩ := h b (.inBlock id :: k) cs hb
  cases e with
  | normal => exact ⟨.normal, a₁, w₁, hq, .head step_block (Steps.trans harr (.one step_inBlock))⟩
  | exit i =>
    by_cases hi : i = id
    · simp only [Exit.inBlock, hi, if_true] at hq
      exact ⟨.normal, a₁, w₁, hq, .head step_block (harr k (by simp [exitTo, hi]))⟩
    · simp only [Exit.inBlock, hi, if_false] at hq
      refine ⟨.exit i, a₁, w₁, hq, fun k' hk => .head step_block (harr k' ?_)⟩
      have h2 : (id == i) = false := beq_eq_false_iff_ne.2 (fun e => hi e.symm)
      simp [exitTo, h2, hk]
  | goto l => exact ⟨_, a₁, w₁, hq, fun k' hk => .head step_block (harr k' (by simp [gotoIn, hk]))⟩
  | ret => exact ⟨_, a₁, w₁, hq, .of_steps (.one step_block) harr⟩
  | panic ch => exact ⟨_, a₁, w₁, hq, .of_steps (.one step_block) harr⟩
  | outgrown => exact ⟨_, a₁, w₁, hq, .of_steps (b := b) (k := k) (cs := cs) (e := .outgrown) (.one step_block) harr⟩
theorem wpN_scope {c : Code} (h : wpN P c (Exit.noGoto Q) a w) : wpN P (.scope c) Q a w := by
  intro b k cs hb
  obtain ⟨e, a₁, w₁, hq, harr⟩ := h b (.inScope c :: k) cs hb
  cases e with
  | normal => exact ⟨.normal, a₁, w₁, hq, .head step_scope (Steps.trans harr (.one step_inScope))⟩
  | exit id => exact ⟨.exit id, a₁, w₁, hq, fun k' hk => .head step_scope (harr k' (by simp [exitTo, hk]))⟩
  | goto l => exact hq.elim
  | ret => exact ⟨_, a₁, w₁, hq, .of_steps (.one step_scope) harr⟩
  | panic ch => exact ⟨_, a₁, w₁, hq, .of_steps (.one step_scope) harr⟩
  | outgrown => exact ⟨_, a₁, w₁, hq, .of_steps (b := b) (k := k) (cs := cs) (e := .outgrown) (.one step_scope) harr⟩
theorem wpN_loopI {c : Code} (I : Nat → Act → World → Prop) {k : Nat} (h₀ : I k a w)
    (round : ∀ k a w, I k a w → wpN P c (Exit.then (fun a' w' => ∃ k', k' < k ∧ I k' a' w') Q) a w) : wpN P (.loop c) Q a w := by
  intro b kk cs hb
  have key : ∀ n a w, I n a w → ∃ e a' w', Q e a' w' ∧ Arrives P (lone (b.at a (.code c :: .inLoop c :: kk)) cs w) b kk cs e a' w' := by
    intro n
    induction n using Nat.strongRecOn with
    | _ n ih =>
      intro a w hI
      obtain ⟨e, a₁, w₁, hq, harr⟩ := round n a w hI b (.inLoop c :: kk) cs hb
      have away : e ≠ .normal → Arrives P (lone (b.at a (.code c :: .inLoop c :: kk)) cs w) b kk cs e a₁ w₁ := fun hn => .pass (x := .inLoop c) rfl (fun _ _ => .inl hn) harr
      cases e with
      | normal =>
        obtain ⟨k', hlt, hI₁⟩ := hq
        obtain ⟨e₂, a₂, w₂, hq₂, harr₂⟩ := ih k' hlt a₁ w₁ hI₁
        exact ⟨e₂, a₂, w₂, hq₂, .of_steps (Steps.trans harr (.one step_inLoop)) harr₂⟩
      | exit id => exact ⟨_, a₁, w₁, hq, away (by simp)⟩
      | goto l => exact ⟨_, a₁, w₁, hq, away (by simp)⟩
      | ret => exact ⟨_, a₁, w₁, hq, away (by simp)⟩
      | panic ch => exact ⟨_, a₁, w₁, hq, away (by simp)⟩
      | outgrown => exact ⟨_, a₁, w₁, hq, away (by simp)⟩
  obtain ⟨e, a', w', hq, harr⟩ := key _ a w h₀
  exact ⟨e, a', w', hq, .of_steps (.one step_loop) harr⟩
/-- a region that begins with a communication: the communication is one step of the machine's; what stands behind it in the region is walked as everywhere -/
theorem wpN_comm {id : Nat} {ops : Array Oper} {rest : List Nat} {o : Oper} {v : Value} {w' : World} (h0 : ops[0]? = some o) (hr : List.range ops.size = 0 :: rest)
    (hs : ∀ (b : Frame) (k : List Item) (cs : List Frame), b.kind ≠ .early → step P (solo (G (b.at a (.inRegion ops (0 :: rest) :: k)) cs) w) = .next (solo (G ((b.at a (.inRegion ops (0 :: rest) :: k)).finish v) cs) w'))
    (h : wpOps P ops Q rest (a.put o.dst v) w') : wpN P (.region id ops false) Q a w := by
  intro b k cs hb
  obtain ⟨e, a', w'', q, r⟩ := wp_ops rest _ _ h b k cs
  have h1 : step P (lone (b.at a (.code (.region id ops false) :: k)) cs w) = .next (lone (b.at a (.inRegion ops (List.range ops.size) :: k)) cs w) := step_region
  rw [hr] at h1
  have h2 := hs b k cs hb
  rw [Frame.finish_at, h0] at h2
  exact ⟨e, a', w'', q, .of_steps (.head h1 (.one h2)) r⟩
section
variable {id : Nat} {o : Oper} {l : List Oper} {c cap s r : Nat} {buf : Array Value} {v z : Value} {tm closed : Bool}
theorem range_cons (o : Oper) (l : List Oper) : List.range (o :: l).toArray.size = 0 :: List.range' 1 l.length := by
  simp [List.range_eq_range', List.range'_succ]
theorem ops_tail (o : Oper) (l : List Oper) : wpOps P (o :: l).toArray Q (List.range' 1 l.length) = wpList P (o :: l).toArray Q l :=
  wpOps_eq_wpList l 1 (fun j => by rw [Nat.add_comm]; simp)
/-- a select of one send, with room, and a default -/
theorem wpN_sel_send (hw : Region.wanted o (yielded (o :: l).toArray a.tmps) = true) (hx : (execOp a.eval o).run P w = .ok (.comm #[scase c v z] false .select) w) (hc : w.heap[c]? = some (.chan cap buf false s r tm)) (hroom : buf.size < cap)
    (h : wpList P (o :: l).toArray Q l (a.put o.dst (.tuple #[goInt 0, .bool false])) (w.setChan c cap (buf.push v) false (s + 1) r tm)) : wpN P (.region id (o :: l).toArray false) Q a w :=
  wpN_comm (o := o) (by simp) (range_cons o l) (fun b k cs hb => step_lone_select_send_room (stepG_comm (i := 0) (o := o) (by simp) hw hb hx) hc hroom) (by rw [ops_tail]; exact h)
/-- a select of one receive, where something waits, and a default -/
theorem wpN_sel_recv (hw : Region.wanted o (yielded (o :: l).toArray a.tmps) = true) (hx : (execOp a.eval o).run P w = .ok (.comm #[rcase c z] false .select) w) (hc : w.heap[c]? = some (.chan cap buf closed s r tm)) (hsome : 0 < buf.size)
    (h : wpList P (o :: l).toArray Q l (a.put o.dst (.tuple #[goInt 0, .bool true, buf.getD 0 undef])) (w.setChan c cap (buf.extract 1 buf.size) closed s (r + 1) tm)) : wpN P (.region id (o :: l).toArray false) Q a w :=
  wpN_comm (o := o) (by simp) (range_cons o l) (fun b k cs hb => step_lone_select_recv_buf (stepG_comm (i := 0) (o := o) (by simp) hw hb hx) hc hsome) (by rw [ops_tail]; exact h)
/-- a select of one receive, where nothing waits, and a default -/
theorem wpN_sel_none (hw : Region.wanted o (yielded (o :: l).toArray a.tmps) = true) (hx : (execOp a.eval o).run P w = .ok (.comm #[rcase c z] false .select) w) (hc : w.heap[c]? = some (.chan cap #[] false s r tm))
    (h : wpList P (o :: l).toArray Q l (a.put o.dst (.tuple #[goInt (-1), .bool false, z])) w) : wpN P (.region id (o :: l).toArray false) Q a w :=
  wpN_comm (o := o) (by simp) (range_cons o l) (fun b k cs hb => step_lone_select_default (stepG_comm (i := 0) (o := o) (by simp) hw hb hx) hc) (by rw [ops_tail]; exact h)
end
theorem callsN {f : FuncId} {fn : Func} {c : Code} {args : Array Value} {R : Ending → World → Prop} (hf : P.funcs[f]? = some fn) (hb : fn.body = some c)
    (h : wpN P c (bodyPost P fn R) { tmps := args ++ Array.replicate (fn.ntmps - args.size) undef, defers := [] } w) : Calls P f args w R := by
  intro cs
  obtain ⟨b, hbb⟩ : ∃ b : Frame, b = { (default : Frame) with fn := f, kind := .normal } := ⟨_, rfl⟩
  have henter : Frame.enter P f args .normal = b.at { tmps := args ++ Array.replicate (fn.ntmps - args.size) undef, defers := [] } [.code c] := by
    simp [Frame.enter, Frame.at, hf, hb, hbb]
  obtain ⟨e, a', w', hq, harr⟩ := h b [] cs (by simp [hbb])
  rw [← henter] at harr
  have hfn : b.fn = f := by rw [hbb]
  have hkd : b.kind = .normal := by rw [hbb]
  cases e with
  | normal =>
    obtain ⟨hd, v, hr, hR⟩ := hq
    exact ⟨.returned v, w', _, hR, Steps.trans harr (.one step_end), hfn, rfl, hd, hkd, fn, hfn.symm ▸ hf, hr⟩
  | ret =>
    obtain ⟨hd, v, hr, hR⟩ := hq
    obtain ⟨todo, hs⟩ := harr
    exact ⟨.returned v, w', _, hR, hs, hfn, rfl, hd, hkd, fn, hfn.symm ▸ hf, hr⟩
  | panic chain =>
    obtain ⟨hd, hR⟩ := hq
    obtain ⟨todo, hs⟩ := harr
    exact ⟨.panicked chain, w', _, hR, hs, hfn, rfl, hd, fn, hfn.symm ▸ hf⟩
  | exit id => exact hq.elim
  | goto l => exact hq.elim
  | outgrown => exact ⟨.outgrown, w', b, hq, harr.resolve_left (by simp [hkd]), hfn, trivial⟩
end
end Go.Proofs.YticdmepplfgdiaaGreatDoor
