/-
  Rows of deliveries as slices that may begin anywhere in their block: read, cut from the front, appended to. Conditions: those of each.
-/
import Derived.Deep.Upon
import Derived.Test.YticdmepplfgdiaaGreatDoorQ03
set_option linter.unusedVariables false
set_option linter.unusedSimpArgs false
namespace Go.Proofs.YticdmepplfgdiaaGreatDoor
open Go.RowKit
/-- a delivery: a switch, a port, bytes -/
abbrev Dv := Nat × Nat × ByteArray
def dval (d : Dv) : Value := .agg #[.int .i64 d.1, .int .i64 d.2.1, .string d.2.2]
def dcell (d : Dv) : List Value := [.int .i64 d.1, .int .i64 d.2.1, .string d.2.2]
def dcells (l : List Dv) : List Value := l.flatMap dcell
theorem dcells_cons (d : Dv) (l : List Dv) : dcells (d :: l) = [.int .i64 d.1, .int .i64 d.2.1, .string d.2.2] ++ dcells l := rfl
theorem dcells_push (l : List Dv) (d : Dv) : dcells (l ++ [d]) = dcells l ++ dcell d := by simp [dcells]
theorem dcells_len (l : List Dv) : (dcells l).length = l.length * 3 := by
  induction l with
  | nil => rfl
  | cons x l ih =>
    rw [dcells_cons, List.length_append, ih]
    simp
    omega
theorem dcells_one (l : List Dv) : ∀ u ∈ dcells l, u.oneCell' = true := by
  intro u hu
  simp only [dcells, List.mem_flatMap, dcell, List.mem_cons, List.not_mem_nil, or_false] at hu
  obtain ⟨d, _, rfl | rfl | rfl⟩ := hu <;> rfl
theorem tinfo81 : (Tryz.prog.info? 81).map (fun i => (i.zero, i.size, i.bytes)) = some (some (.agg #[.int .i64 0, .int .i64 0, .string ⟨#[]⟩]), 3, 32) := by kernel_rfl
/-- a row of deliveries, wherever in its block it begins; what is behind it there may be written -/
def RowC (W : World) (v : Value) (b : Nat) (q : List Dv) : Prop :=
  ∃ ao off cap, v = .slice ao q.length cap ∧ Came W 3 ao b off q.length cap (dcells q) ∧ cap ≤ maxLen
theorem came_block {W W' : World} {s b off len cap : Nat} {ao : Option Addr} {olds : List Value} (h : Came W s ao b off len cap olds) (hs : W.heap.size ≤ W'.heap.size) (hb : 0 < cap → W'.heap[b]? = W.heap[b]?) : Came W' s ao b off len cap olds := by
  refine ⟨h.le, h.addr, fun hc => Nat.lt_of_lt_of_le (h.lt hc) hs, h.oldsLen, fun j u hj => ?_, fun j hj => ?_⟩
  · have hc : 0 < cap := by
      have h1 := (List.getElem?_eq_some_iff.1 hj).1
      have h2 := h.oldsLen
      have h3 := h.le
      rcases Nat.eq_zero_or_pos cap with e | e
      · subst e
        have : len = 0 := by omega
        subst this
        simp at h2
        rw [h2] at h1
        exact absurd h1 (Nat.not_lt_zero _)
      · exact e
    exact (World.cell?_of_block (a := ⟨b, off + j, none⟩) (hb hc)).trans (h.olds j u hj)
  · have hc : 0 < cap := by
      rcases Nat.eq_zero_or_pos cap with e | e
      · subst e; simp at hj
      · exact e
    obtain ⟨h1, h2⟩ := h.spare j hj
    exact ⟨by rw [World.cell?_of_block (a := ⟨b, off + len * s + j, none⟩) (hb hc)]; exact h1, by rw [World.frozen?_of_block (a := ⟨b, off + len * s + j, none⟩) (hb hc)]; exact h2⟩
theorem RowC.block {W W' : World} {v : Value} {b : Nat} {q : List Dv} (h : RowC W v b q) (hs : W.heap.size ≤ W'.heap.size) (hb : b < W.heap.size → W'.heap[b]? = W.heap[b]?) : RowC W' v b q := by
  obtain ⟨ao, off, cap, rfl, hc, hm⟩ := h
  exact ⟨ao, off, cap, rfl, came_block hc hs (fun h0 => hb (hc.lt h0)), hm⟩
theorem RowC.below {W W' : World} {v : Value} {b : Nat} {q : List Dv} (h : RowC W v b q) (g : Below W.heap.size W W') : RowC W' v b q := h.block g.size (fun hb => g.block b hb)
theorem RowC.beside {W W' : World} {v : Value} {b : Nat} {q : List Dv} {S : List Nat} (h : RowC W v b q) (g : Beside S W W') (hS : b ∉ S) : RowC W' v b q := h.block g.size (fun hb => g.block b hb hS)
def capOf : Value → Nat
  | .slice _ _ c => c
  | _ => 0
/-- its first thing -/
theorem RowC.head {W : World} {v : Value} {b : Nat} {d : Dv} {q : List Dv} (h : RowC W v b (d :: q)) : ∃ off cap, v = .slice (some ⟨b, off, none⟩) (q.length + 1) cap ∧ W.cell? ⟨b, off, none⟩ = some (.int .i64 d.1) ∧ W.cell? ⟨b, off + 1, none⟩ = some (.int .i64 d.2.1) ∧ W.cell? ⟨b, off + 2, none⟩ = some (.string d.2.2) := by
  obtain ⟨ao, off, cap, rfl, hc, hm⟩ := h
  have h0 : 0 < cap := by have := hc.le; simp at this; omega
  obtain rfl := hc.addr h0
  exact ⟨off, cap, rfl, hc.olds 0 _ rfl, hc.olds 1 _ rfl, hc.olds 2 _ rfl⟩
/-- cut by its first thing -/
theorem RowC.cut {W : World} {b off cap : Nat} {d : Dv} {q : List Dv} (h : RowC W (.slice (some ⟨b, off, none⟩) (q.length + 1) cap) b (d :: q)) : ∃ ao, (∀ w : World, (Instr.slice 78 (.slice (some ⟨b, off, none⟩) (q.length + 1) cap) (some (.int .i64 1)) none none).run Tryz.prog w = .ok (.slice ao q.length (cap - 1)) w) ∧ RowC W (.slice ao q.length (cap - 1)) b q := by
  obtain ⟨ao, off', cap', hv, hc, hm⟩ := h
  obtain ⟨rfl, -, rfl⟩ := Value.slice.inj hv
  have hle := hc.le
  simp only [List.length_cons] at hle
  have h0 : 0 < cap := by omega
  have e := hc.addr h0
  simp only [Option.some.injEq, Addr.mk.injEq, true_and, and_true] at e
  subst e
  refine ⟨if cap = 1 then some ⟨b, off, none⟩ else some ⟨b, off + 3, none⟩, fun w => ?_, ?_⟩
  · obtain ⟨i, hi, -, hz, -⟩ := info_parts tinfo81
    simp [Instr.slice, run_underlying Tryz.underlying78, Instr.sliceBounds, run_sliceBound_if, sizeOf, typeInfo, hi, hz, Result.andThen]
    rw [if_pos (by omega)]
    rfl
  · have hl := dcells_len q
    refine ⟨_, off + 3, cap - 1, rfl, ⟨by omega, fun h1 => by rw [if_neg (by omega)], fun _ => hc.lt h0, hl, fun j u hj => ?_, fun j hj => ?_⟩, by omega⟩
    · have := hc.olds (3 + j) u (by rw [dcells_cons, List.getElem?_append_right (by simp)]; simpa using hj)
      rwa [show off + (3 + j) = off + 3 + j by omega] at this
    · have := hc.spare j (by simp only [List.length_cons]; rw [show cap - (q.length + 1) = cap - 1 - q.length by omega]; exact hj)
      simp only [List.length_cons] at this
      rwa [show off + (q.length + 1) * 3 + j = off + 3 + q.length * 3 + j by omega] at this
/-- a row of one's own is such a row -/
theorem own_rowC {W : World} {B : Nat} {v : Value} {q : List Dv} (h : W.ownsRow B 81 3 v q.length (dcells q)) : ∃ b, RowC W v b q ∧ (b < W.heap.size → B ≤ b) := by
  have hh := h
  rcases h.2 with ⟨rfl, h0⟩ | ⟨g, cap, cur, rfl, hb, hg, hle, hmax, hsz, hx⟩
  · exact ⟨W.heap.size, ⟨none, 0, 0, by rw [h0], ⟨by omega, fun h => absurd h (Nat.lt_irrefl _), fun h => absurd h (Nat.lt_irrefl _), dcells_len q, fun j u hj => by have := (List.getElem?_eq_some_iff.1 hj).1; rw [dcells_len] at this; omega, fun j hj => by simp at hj⟩, Nat.zero_le _⟩, fun h => absurd h (Nat.lt_irrefl _)⟩
  · refine ⟨g, ⟨_, 0, cap, rfl, ⟨hle, fun _ => rfl, fun _ => (hh.lt g rfl).2, dcells_len q, fun j u hj => ?_, fun j hj => ?_⟩, hmax⟩, fun _ => hb⟩
    · have hj2 := (List.getElem?_eq_some_iff.1 hj).1
      rw [dcells_len] at hj2
      rw [Nat.zero_add, hh.cellAt j hj2]
      exact hj
    · have hq : q.length * 3 + j < cap * 3 := by omega
      rw [Nat.zero_add]
      refine ⟨?_, hh.frozenAt _⟩
      have e : W.cell? ⟨g, q.length * 3 + j, none⟩ = cur[q.length * 3 + j]? := by simp [World.cell?, hg]
      rw [e, Array.getElem?_eq_getElem (by omega)]
      rfl
/-- such a row as the source of an append -/
theorem RowC.src {W : World} {v : Value} {b : Nat} {q : List Dv} (h : RowC W v b q) : Src Tryz.prog 3 78 v q.length (dcells q) W := by
  obtain ⟨ao, off, cap, rfl, hc, hm⟩ := h
  rcases ao with _ | a
  · have h0 : cap = 0 := by
      rcases Nat.eq_zero_or_pos cap with e | e
      · exact e
      · exact absurd (hc.addr e) (by simp)
    have hq : q.length = 0 := by have := hc.le; omega
    obtain rfl : q = [] := List.length_eq_zero_iff.1 hq
    exact Src.ofNil W Tryz.underlying78 cap
  · refine Src.ofSlice W Tryz.underlying78 a _ _ _ (dcells_len q) (fun j u hj => ?_) (dcells_one q)
    have h0 : 0 < cap := by
      have h1 := (List.getElem?_eq_some_iff.1 hj).1
      rw [dcells_len] at h1
      have := hc.le
      omega
    have e := hc.addr h0
    cases e
    have := hc.olds j u hj
    have e2 : (⟨b, off, none⟩ : Addr).add j = ⟨b, off + j, none⟩ := by simp [Addr.add]
    rw [e2]
    exact this
theorem src_none (W : World) (a : Option Addr) (c : Nat) : Src Tryz.prog 3 78 (.slice a 0 c) 0 [] W := by
  rcases a with _ | a
  · exact Src.ofNil W Tryz.underlying78 c
  · exact Src.ofSlice W Tryz.underlying78 a _ _ _ rfl (fun j u hj => by simp at hj) (fun u hu => by simp at hu)
/-- nothing is appended -/
theorem push_none {ops : Array Oper} {rest : List Oper} {o : Oper} {a : Act} {w : World} {Q : Exit → Act → World → Prop} (hgd : o.guard = none) (s x : Operand)
    (ho : o.op = .call { callee := .builtin .append, args := #[s, x], argTypes := #[78, 78] }) (v : Value) (ax : Option Addr) (cx b : Nat) (q : List Dv) (hs : a.eval s = v) (hx : a.eval x = .slice ax 0 cx) (hv : RowC w v b q)
    (h : wpList Tryz.prog ops Q rest (a.put o.dst v) w) : wpList Tryz.prog ops Q (o :: rest) a w := by
  refine wpList_plain hgd fun K hK' => ?_
  obtain ⟨i, hi, hz, hsz, hby⟩ := info_parts tinfo81
  obtain ⟨ao, off, cap, rfl, hc, hm⟩ := hv
  have hrun := run_append_nothing (P := Tryz.prog) w 78 78 o.type 81 i Tryz.underlying78 hi ao q.length cap hc.le (.slice ax 0 cx) (by rw [hsz]; exact src_none w ax cx)
  unfold Oper.wp
  simp [execOp, ho, resolve, invoke, builtin, hs, hx, hrun, Result.andThen]
  exact hK' _ _ h
theorem beside_setCells (b : Nat) : ∀ (vs : List Value) (o : Nat) (w : World), Beside [b] w (w.setCells b o vs)
  | [], _, _ => Beside.refl _ _
  | v :: r, o, w => ((Beside.refl [b] w).setCell (p := ⟨b, o, none⟩) (.inl (List.mem_singleton.2 rfl)) v).trans (beside_setCells b r (o + 1) _)
/-- a row is appended to an empty one -/
theorem push_rows {ops : Array Oper} {rest : List Oper} {o : Oper} {a : Act} {w : World} {Q : Exit → Act → World → Prop} (hgd : o.guard = none) (s x : Operand)
    (ho : o.op = .call { callee := .builtin .append, args := #[s, x], argTypes := #[78, 78] }) (v xv : Value) (b c : Nat) (q : List Dv) (hs : a.eval s = v) (hx : a.eval x = xv) (hv : RowC w v b []) (hxv : RowC w xv c q) (hq : q.length ≤ 100000)
    (h : ∀ v' w' b', RowC w' v' b' q → ((0 < capOf v ∧ b' = b ∧ Beside [b] w w') ∨ ((0 < capOf v' → w.heap.size ≤ b') ∧ Beside [] w w')) → wpList Tryz.prog ops Q rest (a.put o.dst v') w') : wpList Tryz.prog ops Q (o :: rest) a w := by
  refine wpList_plain hgd fun K hK' => ?_
  obtain ⟨i, hi, hz, hsz, hby⟩ := info_parts tinfo81
  obtain ⟨ao, off, cap, rfl, hc, hm⟩ := hv
  have hsrc := hxv.src
  rw [← hsz] at hsrc
  have hnl := dcells_len q
  by_cases hfit : 0 + q.length ≤ cap
  · by_cases h0 : cap = 0
    · have hq0 : q = [] := List.length_eq_zero_iff.1 (by omega)
      subst hq0
      have hrun := run_append_nothing (P := Tryz.prog) w 78 78 o.type 81 i Tryz.underlying78 hi ao 0 cap hc.le xv hsrc
      unfold Oper.wp
      simp [execOp, ho, resolve, invoke, builtin, hs, hx, hrun, Result.andThen]
      exact hK' _ _ (h _ _ b ⟨ao, off, cap, rfl, hc, hm⟩ (.inr ⟨fun e => absurd e (by simp only [capOf]; omega), Beside.refl _ _⟩))
    · have hp : 0 < cap := Nat.pos_of_ne_zero h0
      obtain rfl := hc.addr hp
      have hsp : ∀ j, j < (dcells q).length → (w.cell? ⟨b, off + 0 * i.size + j, none⟩).isSome = true ∧ w.frozen? ⟨b, off + 0 * i.size + j, none⟩ = false := by
        intro j hj
        rw [hnl] at hj
        have := hc.spare j (by simp only [List.length_nil]; omega)
        simp only [List.length_nil, Nat.zero_mul, Nat.add_zero] at this ⊢
        exact this
      have hrun := run_append_room_src (P := Tryz.prog) w 78 78 o.type 81 i Tryz.underlying78 hi b off 0 cap xv q.length (dcells q) hsrc hfit (fun j hj => (hsp j hj).1) (fun j hj => (hsp j hj).2)
      unfold Oper.wp
      simp [execOp, ho, resolve, invoke, builtin, hs, hx, hrun, Result.andThen]
      have hB := beside_setCells b (dcells q) off w
      refine hK' _ _ (h _ _ b ⟨_, off, cap, rfl, ⟨by omega, fun _ => rfl, fun h1 => Nat.lt_of_lt_of_le (hc.lt h1) hB.size, hnl, fun j u hj => ?_, fun j hj => ?_⟩, hm⟩ (.inl ⟨hp, rfl, hB⟩))
      · have hj2 := (List.getElem?_eq_some_iff.1 hj).1
        have hin := World.cell?_setCells_in b (dcells q) off w (fun k hk => by have := (hsp k hk).1; simpa using this) j hj2
        rw [hin]
        exact (List.getElem?_eq_getElem hj2).symm.trans hj
      · have hout := World.cell?_setCells_out b (dcells q) off w ⟨b, off + q.length * 3 + j, none⟩ (fun _ _ => .inr (by rw [hnl]; show off + q.length * 3 ≤ off + q.length * 3 + j; omega))
        have := hc.spare (q.length * 3 + j) (by simp only [List.length_nil]; omega)
        simp only [List.length_nil, Nat.zero_mul, Nat.add_zero] at this
        rw [show off + (q.length * 3 + j) = off + q.length * 3 + j by omega] at this
        exact ⟨by rw [hout]; exact this.1, by rw [World.frozen?_setCells]; exact this.2⟩
  · have hold : (Builtin.firstCells i.size 0 (.slice ao 0 cap)).run Tryz.prog w.drew = .ok ([] : List Value).toArray w.drew := by
      rcases ao with _ | ad
      · rfl
      · exact run_firstCells_some w.drew i.size 0 ad 0 cap [] (by simp) (fun j u hj => by simp at hj)
    have hrun := run_append_grow_src (P := Tryz.prog) w 78 78 o.type 81 i _ Tryz.underlying78 hi hz ao 0 cap [] hold xv q.length (dcells q) hsrc (by omega) (by omega) (growslice_fits (by omega) (by rw [hby]; omega))
    unfold Oper.wp
    have hge := grownCap_ge w (0 + q.length) cap 81
    have hcm := grownCap_le_maxLen w (0 + q.length) cap 81 (by unfold maxLen; omega)
    generalize hG : grownCap w (0 + q.length) cap 81 = gc at hrun hge hcm
    obtain ⟨oc, hoc⟩ : ∃ y, y = Obj.cells (([] ++ dcells q : List Value).toArray ++ Builtin.zeroCells (Value.agg #[.int .i64 0, .int .i64 0, .string ⟨#[]⟩]).cells (gc - (0 + q.length))) 81 := ⟨_, rfl⟩
    rw [← hoc] at hrun
    simp [execOp, ho, resolve, invoke, builtin, hs, hx, hrun, Result.andThen]
    have hB : Beside [] w (w.drew.alloc oc) := (Beside.refl [] w).drew.alloc oc
    have hsz2 : (([] ++ dcells q : List Value).toArray ++ Builtin.zeroCells (Value.agg #[.int .i64 0, .int .i64 0, .string ⟨#[]⟩]).cells (gc - (0 + q.length))).size = gc * 3 := by
      rw [Array.size_append, List.size_toArray, List.nil_append, hnl, size_zeroCells]
      show q.length * 3 + (gc - (0 + q.length)) * 3 = gc * 3
      omega
    have hcell : ∀ j, (w.drew.alloc oc).cell? ⟨w.heap.size, j, none⟩ = (([] ++ dcells q : List Value).toArray ++ Builtin.zeroCells (Value.agg #[.int .i64 0, .int .i64 0, .string ⟨#[]⟩]).cells (gc - (0 + q.length)))[j]? := by
      intro j
      rw [hoc]
      exact World.cell?_alloc_new w.drew _ _ j
    refine hK' _ _ (h _ _ w.heap.size ⟨_, 0, gc, rfl, ⟨by omega, fun _ => rfl, fun _ => by rw [World.size_alloc, World.size_drew]; exact Nat.lt_succ_self _, hnl, fun j u hj => ?_, fun j hj => ⟨?_, ?_⟩⟩, hcm⟩ (.inr ⟨fun _ => Nat.le_refl _, hB⟩))
    · have hj2 := (List.getElem?_eq_some_iff.1 hj).1
      rw [Nat.zero_add, hcell, Array.getElem?_append_left (by simpa using hj2)]
      simpa using hj
    · rw [Nat.zero_add, hcell, Array.getElem?_eq_getElem (by rw [hsz2]; omega)]
      rfl
    · rw [hoc]
      exact World.frozen?_alloc_new w.drew _ _ _
end Go.Proofs.YticdmepplfgdiaaGreatDoor
