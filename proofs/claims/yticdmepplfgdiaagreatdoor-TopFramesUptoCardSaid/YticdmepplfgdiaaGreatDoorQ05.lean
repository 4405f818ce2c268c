/-
  (*strings.Builder) at this program: what its methods do. The laying of 'String' was written by the kit's own tool (lay-plain.mjs); 'copyCheck' and 'WriteString' are walked here. Conditions: those of each. igmp's writer, a strings.Builder with a flag behind it: what the builder's methods do there. Conditions: those of each. The text that a writer holds. Conditions: none.
-/
import Derived.Shelf.Strings.Builder1
import Derived.Test.YticdmepplfgdiaaGreatDoorQ03
set_option linter.unusedVariables false
set_option linter.unusedSimpArgs false
section
namespace Go.Proofs.YticdmepplfgdiaaGreatDoor
open Go.Shelf Go.RowKit
def lays169_ren : Go.Shelf.Ren := ⟨fun | 169 => 65 | n => n, fun | 70 => 146 | 9 => 9 | 0 => 0 | 72 => 149 | 37 => 147 | 127 => 283 | 3 => 3 | 5 => 5 | n => n, fun | n => n⟩
theorem lays169 : Go.Proofs.Lays.n169 Tryz.prog lays169_ren := {
  mixed := by kernel_rfl
  f169 := Tryz.func65.trans (congrArg some (by kernel_rfl))
  t0 := Tryz.underlying0
  a0 := Tryz.isAgg0
  z0 := Tryz.sizeOf0
  v0 := Tryz.zeroValue0
  t3 := Tryz.underlying3
  a3 := Tryz.isAgg3
  z3 := Tryz.sizeOf3
  v3 := Tryz.zeroValue3
  t9 := Tryz.underlying9
  a9 := Tryz.isAgg9
  z9 := Tryz.sizeOf9
  v9 := Tryz.zeroValue9
  t37 := Tryz.underlying147
  a37 := Tryz.isAgg147
  z37 := Tryz.sizeOf147
  v37 := Tryz.zeroValue147
  t70 := Tryz.underlying146
  a70 := Tryz.isAgg146
  z70 := Tryz.sizeOf146
  v70 := Tryz.zeroValue146
  t72 := Tryz.underlying149
  a72 := Tryz.isAgg149
  z72 := Tryz.sizeOf149
  v72 := Tryz.zeroValue149
  t127 := Tryz.underlying283
  a127 := Tryz.isAgg283
  z127 := Tryz.sizeOf283
  v127 := Tryz.zeroValue283 }
theorem builder_Extra : Builder.Extra Tryz.prog lays169_ren := {
  sizeBuilder := by kernel_rfl
  liesBuilder := by kernel_rfl
  t5 := Tryz.underlying5
  a5 := Tryz.isAgg5
  z5 := Tryz.sizeOf5
  v5 := Tryz.zeroValue5
  infoByte := by kernel_rfl
  cellsByte := by kernel_rfl
  sizeByte := by kernel_rfl
  neB5 := by decide }
theorem builder_String_any (B b : Nat) (l : List UInt8) (w : World) (h : Lib.IsBuilder 149 5 B b (Lib.byteCells l) w) (hBw : B ≤ w.heap.size) :
    Calls Tryz.prog 65 #[.pointer (some ⟨b, 0, none⟩)] w fun e w' => e = .returned (.string ⟨l.toArray⟩) ∧ Below B w w' := Any.Builder_String_any lays169 builder_Extra B b l w h hBw
theorem sizeB : (Tryz.prog.info? 149).map (·.size) = some 2 := by kernel_rfl
set_option maxRecDepth 100000 in
set_option maxHeartbeats 1000000 in
theorem copyCheck_used (b : Nat) (w : World) (h0 : w.cell? ⟨b, 0, none⟩ = some (.pointer (some ⟨b, 0, none⟩))) :
    Calls Tryz.prog 147 #[.pointer (some ⟨b, 0, none⟩)] w fun e w' => e = .returned (.tuple #[]) ∧ w' = w := by
  obtain ⟨j, hj, _⟩ := Option.map_eq_some_iff.1 sizeB
  go_enter Tryz.func147, Tryz.ntmps147
  go_wp2
  rw [Lib.run_neq_ptr_same w _ Tryz.underlying146 hj]
  go_wp2
  go_end0
  exact ⟨rfl, rfl⟩
set_option maxRecDepth 100000 in
set_option maxHeartbeats 1000000 in
theorem copyCheck_fresh (b : Nat) (w : World) (h0 : w.cell? ⟨b, 0, none⟩ = some (.pointer none)) (hsh : w.shape? b = some (149, 2)) (hfz : w.frozen? ⟨b, 0, none⟩ = false) :
    Calls Tryz.prog 147 #[.pointer (some ⟨b, 0, none⟩)] w fun e w' => e = .returned (.tuple #[]) ∧ w' = w.setCell ⟨b, 0, none⟩ (.pointer (some ⟨b, 0, none⟩)) := by
  obtain ⟨j, hj, hjs⟩ := Option.map_eq_some_iff.1 sizeB
  go_enter Tryz.func147, Tryz.ntmps147
  go_wp2
  rw [Lib.run_to_unsafe w ⟨b, 0, none⟩ Tryz.underlying146 Tryz.underlying360 hj (by rw [hjs]; decide) hsh (Nat.zero_lt_succ 1)]
  simp only [Result.andThen]
  rw [Oper.upon_value]
  go_wp2
  rw [run_callFunc_extern Tryz.func213 (by kernel_rfl) (by kernel_rfl) (by kernel_rfl) (e := Extern.AbiNoEscape.same) (by kernel_rfl)]
  rw [Lib.run_noEscape]
  simp only [Result.andThen]
  rw [Oper.upon_value]
  go_wp2
  rw [Lib.run_from_unsafe w ⟨b, 0, none⟩ Tryz.underlying360 Tryz.underlying146 hj hsh (by kernel_rfl)]
  simp only [Result.andThen]
  rw [Oper.upon_value]
  go_wp2
  go_end0
  exact ⟨rfl, rfl⟩
/-- a builder of the call's own that holds these bytes -/
def Holding (B b : Nat) (l : List UInt8) (w : World) : Prop := Lib.IsBuilder 149 5 B b (Lib.byteCells l) w
theorem copyCheck_any (B b : Nat) (bs : List Value) (w : World) (h : Lib.IsBuilder 149 5 B b bs w) :
    Calls Tryz.prog 147 #[.pointer (some ⟨b, 0, none⟩)] w fun e w' => e = .returned (.tuple #[]) ∧ Lib.BuilderAt 149 5 B b (.pointer (some ⟨b, 0, none⟩)) bs w' ∧ Below B w w' ∧ (∀ k, k ≠ b → w'.heap[k]? = w.heap[k]?) := by
  rcases h with h | h
  · refine (copyCheck_fresh b w h.cell0 h.shape h.frozen0).mono ?_
    rintro e w' ⟨rfl, rfl⟩
    exact ⟨rfl, h.used _, (Below.refl B w).setCell (p := ⟨b, 0, none⟩) h.1 _, fun k hk => Below.heap_setCell _ _ _ _ hk⟩
  · refine (copyCheck_used b w h.cell0).mono ?_
    rintro e w' ⟨rfl, rfl⟩
    exact ⟨rfl, h, Below.refl B _, fun _ _ => rfl⟩
set_option maxRecDepth 100000 in
set_option maxHeartbeats 2000000 in
theorem writeString_any (B b : Nat) (bs : List Value) (s : ByteArray) (w : World) (h : Lib.IsBuilder 149 5 B b bs w) (hlen : bs.length + s.size ≤ 140737488355328) (hBw : B ≤ w.heap.size) :
    Calls Tryz.prog 70 #[.pointer (some ⟨b, 0, none⟩), .string s] w fun e w' => e = .returned (.tuple #[.int .i64 s.size, .nilIface]) ∧ Lib.IsBuilder 149 5 B b (bs ++ Lib.strCells s) w' ∧ Below B w w' := by
  obtain ⟨i0, hi, hz0, hz1, hz2⟩ := info_parts info5
  go_enter Tryz.func70, Tryz.ntmps70
  go_wp2_with (with_reducible refine (copyCheck_any B b bs _ h).mono ?_)
  rintro e w1 ⟨rfl, h1, hb1, _⟩
  obtain ⟨hB, v, hbk, hown, hne⟩ := h1
  have c0 : w1.cell? ⟨b, 0, none⟩ = some (.pointer (some ⟨b, 0, none⟩)) := by rw [Lib.cell_of_heap hbk]; rfl
  have c1 : w1.cell? ⟨b, 1, none⟩ = some v := by rw [Lib.cell_of_heap hbk]; rfl
  go_wp2_with (at_builtin; refine Lib.wpList_append_own_string _ rfl _ _ 147 9 rfl B 5 i0 Tryz.underlying147 Tryz.underlying9 hi hz0 hz1 hz2 _ _ _ rfl hown s rfl ?c3 ?c4 ?c5 ?_)
  case c3 => unfold maxLen; omega
  case c4 => omega
  case c5 => have := hb1.size; omega
  intro v' w2 hown' hgrow _
  have hlt : b < w1.heap.size := by
    rcases Nat.lt_or_ge b w1.heap.size with h' | h'
    · exact h'
    · simp [Array.getElem?_eq_none h'] at hbk
  have hb2 : w2.heap[b]? = some (.cells #[.pointer (some ⟨b, 0, none⟩), v] 149 (0, 0)) := by
    rw [hgrow.block b hlt (fun e => hne e.symm)]
    exact hbk
  have d0 : w2.cell? ⟨b, 0, none⟩ = some (.pointer (some ⟨b, 0, none⟩)) := by rw [Lib.cell_of_heap hb2]; rfl
  have d1 : w2.cell? ⟨b, 1, none⟩ = some v := by rw [Lib.cell_of_heap hb2]; rfl
  have f1 : w2.frozen? ⟨b, 1, none⟩ = false := Lib.frozen_of_heap hb2 1
  obtain ⟨ao, n', cap, rfl⟩ : ∃ ao n' cap, v' = .slice ao n' cap := by
    rcases hown'.2 with ⟨hv, _⟩ | ⟨g, cap, cur, hv, _⟩
    · exact ⟨_, _, _, hv⟩
    · exact ⟨_, _, _, hv⟩
  go_wp2
  go_ret2
  refine ⟨rfl, ?_, ?_⟩
  · exact .inr (Lib.BuilderAt.put (T := 149) (e := 5) hB hb2 (bs' := bs ++ Lib.strCells s) (by simpa [Lib.strCells_length] using hown') (by decide))
  · exact (hb1.grown hgrow (by have := hb1.size; omega) (fun k hk => (hown.lt k hk).1)).setCell (p := ⟨b, 1, none⟩) hB _
theorem strCells_is (s : ByteArray) : Lib.strCells s = Lib.byteCells s.data.toList := rfl
theorem byteCells_append (l m : List UInt8) : Lib.byteCells (l ++ m) = Lib.byteCells l ++ Lib.byteCells m := by simp [Lib.byteCells]
theorem byteCells_length (l : List UInt8) : (Lib.byteCells l).length = l.length := by simp [Lib.byteCells]
theorem holding_new (w : World) : Holding w.heap.size w.heap.size [] (w.alloc (.cells #[.pointer none, .slice none 0 0] 149)) := by
  refine .inl ⟨Nat.le_refl _, .slice none 0 0, ?_, ?_, ?_⟩
  · show (w.heap.push _)[w.heap.size]? = _
    simp
  · exact World.ownsRow_nil _ _ _ _
  · simp [Value.ownBlock]
theorem holding_below {B b : Nat} {l : List UInt8} {w w' : World} (h : Holding B b l w) (g : Below w.heap.size w w') : Holding B b l w' := by
  have hg : w.grownBy w' none := ⟨g.os, g.tape, g.output, g.size, fun k hk _ => g.block k hk⟩
  have key : ∀ p, Lib.BuilderAt 149 5 B b p (Lib.byteCells l) w → Lib.BuilderAt 149 5 B b p (Lib.byteCells l) w' := by
    intro p hp
    have hlt := hp.lt
    obtain ⟨hB, v, hb, hown, hne⟩ := hp
    exact ⟨hB, v, (g.block _ hlt).trans hb, hown.kept hg (Classical.em _), hne⟩
  rcases h with h | h
  · exact .inl (key _ h)
  · exact .inr (key _ h)
theorem holding_write (B b : Nat) (l : List UInt8) (s : ByteArray) (w : World) (h : Holding B b l w) (hlen : l.length + s.size ≤ 140737488355328) (hBw : B ≤ w.heap.size) :
    Calls Tryz.prog 70 #[.pointer (some ⟨b, 0, none⟩), .string s] w fun e w' => e = .returned (.tuple #[.int .i64 s.size, .nilIface]) ∧ Holding B b (l ++ s.data.toList) w' ∧ Below B w w' := by
  refine (writeString_any B b (Lib.byteCells l) s w h (by rw [byteCells_length]; exact hlen) hBw).mono ?_
  rintro e w' ⟨rfl, h1, h2⟩
  refine ⟨rfl, ?_, h2⟩
  unfold Holding
  rw [byteCells_append, ← strCells_is]
  exact h1
theorem holding_string (B b : Nat) (l : List UInt8) (w : World) (h : Holding B b l w) (hBw : B ≤ w.heap.size) :
    Calls Tryz.prog 65 #[.pointer (some ⟨b, 0, none⟩)] w fun e w' => e = .returned (.string ⟨l.toArray⟩) ∧ Below B w w' := builder_String_any B b l w h hBw
end Go.Proofs.YticdmepplfgdiaaGreatDoor
end
section
namespace Go.Proofs.YticdmepplfgdiaaGreatDoor
open Go.Shelf Go.RowKit
/-- what lies below a number, and what is no row of bytes, is as it was, but for one block -/
structure Past (R b : Nat) (w w' : World) : Prop where
  os : w'.os = w.os
  tape : w'.tape = w.tape
  output : w'.output = w.output
  size : w.heap.size ≤ w'.heap.size
  block : ∀ k, k < R → k ≠ b → w'.heap[k]? = w.heap[k]?
  tag : ∀ k, k < w.heap.size → k ≠ b → (∀ cs fr, w.heap[k]? ≠ some (.cells cs 5 fr)) → w'.heap[k]? = w.heap[k]?
theorem Past.refl (R b : Nat) (w : World) : Past R b w w := ⟨rfl, rfl, rfl, Nat.le_refl _, fun _ _ _ => rfl, fun _ _ _ _ => rfl⟩
theorem Past.trans {R b : Nat} {u v w : World} (h : Past R b u v) (k : Past R b v w) : Past R b u w :=
  ⟨k.os.trans h.os, k.tape.trans h.tape, k.output.trans h.output, Nat.le_trans h.size k.size, fun i hi hb => (k.block i hi hb).trans (h.block i hi hb), fun i hi hb ht => (k.tag i (Nat.lt_of_lt_of_le hi h.size) hb (fun cs fr e => ht cs fr ((h.tag i hi hb ht).symm.trans e))).trans (h.tag i hi hb ht)⟩
theorem Past.of_below {R b : Nat} {u v : World} (h : Below u.heap.size u v) (hn : R ≤ u.heap.size) : Past R b u v := ⟨h.os, h.tape, h.output, h.size, fun k hk _ => h.block k (Nat.lt_of_lt_of_le hk hn), fun k hk _ _ => h.block k hk⟩
theorem Past.to_below {R b n : Nat} {u v : World} (h : Past R b u v) (h1 : n ≤ R) (h2 : n ≤ b) : Below n u v := ⟨h.os, h.tape, h.output, h.size, fun k hk => h.block k (Nat.lt_of_lt_of_le hk h1) (fun e => by omega)⟩
theorem Past.mono {R T b : Nat} {u v : World} (h : Past R b u v) (hn : T ≤ R) : Past T b u v := ⟨h.os, h.tape, h.output, h.size, fun k hk hb => h.block k (Nat.lt_of_lt_of_le hk hn) hb, h.tag⟩
theorem Past.setCell {R b : Nat} {u v : World} (h : Past R b u v) {p : Addr} (hp : p.block = b) (x : Value) : Past R b u (v.setCell p x) := by
  have g : Below p.block v (v.setCell p x) := (Below.refl _ _).setCell (Nat.le_refl _) x
  exact ⟨g.os.trans h.os, g.tape.trans h.tape, g.output.trans h.output, Nat.le_trans h.size g.size, fun k hk hb => (Below.heap_setCell v p x k (fun e => hb (e.trans hp))).trans (h.block k hk hb), fun k hk hb ht => (Below.heap_setCell v p x k (fun e => hb (e.trans hp))).trans (h.tag k hk hb ht)⟩
theorem Past.grown {R b B n : Nat} {u v w : World} {x : Value} {l : List Value} (h : Past R b u v) (g : v.grownBy w x.ownBlock) (hs : R ≤ v.heap.size) (ho : v.ownsRow B 5 1 x n l) (hB : R ≤ B) : Past R b u w := by
  refine ⟨g.os.trans h.os, g.tape.trans h.tape, g.output.trans h.output, Nat.le_trans h.size g.size, fun k hk hb => (g.block k (Nat.lt_of_lt_of_le hk hs) (fun e => by have := (ho.lt k e.symm).1; omega)).trans (h.block k hk hb), fun k hk hb ht => (g.block k (Nat.lt_of_lt_of_le hk h.size) (fun e => ?_)).trans (h.tag k hk hb ht)⟩
  rcases ho.2 with ⟨rfl, _⟩ | ⟨q, cap, cur, rfl, _, hq, _⟩
  · simp [Value.ownBlock] at e
  · simp only [Value.ownBlock, Option.some.injEq] at e
    subst e
    exact ht _ _ ((h.tag _ hk hb ht).symm.trans hq)
theorem Past.alloc {R b : Nat} {u v : World} (h : Past R b u v) (hs : R ≤ v.heap.size) (o : Obj) : Past R b u (v.alloc o) := h.trans (.of_below (bbox1 _ _) hs)
/-- a block's cells, and of what type they are -/
def Bt (W : World) (x : Nat) (vs : List Value) (t : TypeId) : Prop := W.heap[x]? = some (.cells vs.toArray t (0, 0))
theorem Bt.new (W : World) (vs : List Value) (t : TypeId) : Bt (W.alloc (.cells vs.toArray t)) W.heap.size vs t := by
  show (W.heap.push _)[W.heap.size]? = _
  simp
theorem Bt.lt {W : World} {x : Nat} {vs : List Value} {t : TypeId} (h : Bt W x vs t) : x < W.heap.size := by
  rcases Nat.lt_or_ge x W.heap.size with h' | h'
  · exact h'
  · unfold Bt at h
    simp [Array.getElem?_eq_none h'] at h
theorem Bt.get {W : World} {x : Nat} {vs : List Value} {t : TypeId} (h : Bt W x vs t) (i : Nat) (v : Value) (hv : vs[i]? = some v) : W.cell? ⟨x, i, none⟩ = some v := by
  rw [Lib.cell_of_heap h]
  simpa using hv
theorem Bt.below {W W' : World} {x : Nat} {vs : List Value} {t : TypeId} (h : Bt W x vs t) (g : Below W.heap.size W W') : Bt W' x vs t := (g.block _ h.lt).trans h
theorem Bt.past {R b : Nat} {W W' : World} {x : Nat} {vs : List Value} {t : TypeId} (h : Bt W x vs t) (g : Past R b W W') (hx : x ≠ b) (ht : t ≠ 5) : Bt W' x vs t :=
  (g.tag x h.lt hx (fun cs fr e => by rw [h] at e; simp only [Option.some.injEq, Obj.cells.injEq] at e; exact ht e.2.1)).trans h
theorem Bx.past {R b x : Nat} {W W' : World} {vs : List Value} (h : Bx W x vs) (g : Past R b W W') (h1 : x < R) (h2 : x ≠ b) : Bx W' x vs := by
  have e := g.block x h1 h2
  refine ⟨Nat.lt_of_lt_of_le h.1 g.size, fun i v hv => ?_, fun o => ?_⟩
  · have := h.2.1 i v hv
    simpa [World.cell?, e] using this
  · have := h.2.2 o
    simpa [World.frozen?, e] using this
/-- a writer; its buffer lies from a number on -/
def WrAt (B b : Nat) (p : Value) (bs : List Value) (bad : Bool) (w : World) : Prop :=
  ∃ v, w.heap[b]? = some (.cells #[p, v, .bool bad] 151 (0, 0)) ∧ w.ownsRow B 5 1 v bs.length bs ∧ v.ownBlock ≠ some b
def WrOf (B b : Nat) (bs : List Value) (bad : Bool) (w : World) : Prop := WrAt B b (.pointer none) bs bad w ∨ WrAt B b (.pointer (some ⟨b, 0, none⟩)) bs bad w
/-- a writer that holds these bytes -/
def Wr (B b : Nat) (l : List UInt8) (bad : Bool) (w : World) : Prop := WrOf B b (Lib.byteCells l) bad w
theorem WrAt.lt {B b : Nat} {p : Value} {bs : List Value} {bad : Bool} {w : World} (h : WrAt B b p bs bad w) : b < w.heap.size := by
  obtain ⟨v, hb, _⟩ := h
  rcases Nat.lt_or_ge b w.heap.size with h' | h'
  · exact h'
  · simp [Array.getElem?_eq_none h'] at hb
theorem WrAt.cell0 {B b : Nat} {p : Value} {bs : List Value} {bad : Bool} {w : World} (h : WrAt B b p bs bad w) : w.cell? ⟨b, 0, none⟩ = some p := by
  obtain ⟨v, hb, _⟩ := h
  simp [World.cell?, hb]
theorem WrAt.cell2 {B b : Nat} {p : Value} {bs : List Value} {bad : Bool} {w : World} (h : WrAt B b p bs bad w) : w.cell? ⟨b, 2, none⟩ = some (.bool bad) := by
  obtain ⟨v, hb, _⟩ := h
  simp [World.cell?, hb]
theorem WrAt.frozen {B b : Nat} {p : Value} {bs : List Value} {bad : Bool} {w : World} (h : WrAt B b p bs bad w) (o : Nat) : w.frozen? ⟨b, o, none⟩ = false := by
  obtain ⟨v, hb, _⟩ := h
  simp [World.frozen?, hb]
theorem WrAt.shape {B b : Nat} {p : Value} {bs : List Value} {bad : Bool} {w : World} (h : WrAt B b p bs bad w) : w.shape? b = some (151, 3) := by
  obtain ⟨v, hb, _⟩ := h
  simp [World.shape?, hb]
theorem WrAt.used {B b : Nat} {p : Value} {bs : List Value} {bad : Bool} {w : World} (h : WrAt B b p bs bad w) (q : Value) : WrAt B b q bs bad (w.setCell ⟨b, 0, none⟩ q) := by
  obtain ⟨v, hb, hown, hne⟩ := h
  refine ⟨v, ?_, ?_, hne⟩
  · simp [World.setCell, Array.getElem?_modify, hb]
  · exact hown.kept (row := some b) ⟨rfl, rfl, rfl, by simp [World.setCell], fun k _ hk => Below.heap_setCell _ _ _ _ (fun e => hk (by simp [e]))⟩ (Or.inr hne)
theorem WrAt.mark {B b : Nat} {p : Value} {bs : List Value} {bad : Bool} {w : World} (h : WrAt B b p bs bad w) (x : Bool) : WrAt B b p bs x (w.setCell ⟨b, 2, none⟩ (.bool x)) := by
  obtain ⟨v, hb, hown, hne⟩ := h
  refine ⟨v, ?_, ?_, hne⟩
  · simp [World.setCell, Array.getElem?_modify, hb]
  · exact hown.kept (row := some b) ⟨rfl, rfl, rfl, by simp [World.setCell], fun k _ hk => Below.heap_setCell _ _ _ _ (fun e => hk (by simp [e]))⟩ (Or.inr hne)
theorem WrAt.put {B b : Nat} {p v v' : Value} {bs' : List Value} {bad : Bool} {w : World} (hb : w.heap[b]? = some (.cells #[p, v, .bool bad] 151 (0, 0))) (hown : w.ownsRow B 5 1 v' bs'.length bs') :
    WrAt B b p bs' bad (w.setCell ⟨b, 1, none⟩ v') := by
  have hne := Lib.ownBlock_ne hown hb (by decide)
  refine ⟨v', ?_, ?_, hne⟩
  · simp [World.setCell, Array.getElem?_modify, hb]
  · exact hown.kept (row := some b) ⟨rfl, rfl, rfl, by simp [World.setCell], fun k _ hk => Below.heap_setCell _ _ _ _ (fun e => hk (by simp [e]))⟩ (Or.inr hne)
theorem WrAt.below {B b : Nat} {p : Value} {bs : List Value} {bad : Bool} {w w' : World} (h : WrAt B b p bs bad w) (g : Below w.heap.size w w') : WrAt B b p bs bad w' := by
  have hlt := h.lt
  obtain ⟨v, hb, hown, hne⟩ := h
  exact ⟨v, (g.block _ hlt).trans hb, hown.kept (w' := w') (row := none) ⟨g.os, g.tape, g.output, g.size, fun k hk _ => g.block k hk⟩ (Classical.em _), hne⟩
theorem Wr.below {B b : Nat} {l : List UInt8} {bad : Bool} {w w' : World} (h : Wr B b l bad w) (g : Below w.heap.size w w') : Wr B b l bad w' := by
  rcases h with h | h
  · exact .inl (h.below g)
  · exact .inr (h.below g)
theorem Wr.drew {B b : Nat} {l : List UInt8} {bad : Bool} {w : World} (h : Wr B b l bad w) : Wr B b l bad w.drew := h.below (Below.refl _ _).drew
theorem Wr.lt {B b : Nat} {l : List UInt8} {bad : Bool} {w : World} (h : Wr B b l bad w) : b < w.heap.size := by
  rcases h with h | h <;> exact h.lt
theorem Wr.cell2 {B b : Nat} {l : List UInt8} {bad : Bool} {w : World} (h : Wr B b l bad w) : w.cell? ⟨b, 2, none⟩ = some (.bool bad) := by
  rcases h with h | h <;> exact h.cell2
theorem Wr.frozen {B b : Nat} {l : List UInt8} {bad : Bool} {w : World} (h : Wr B b l bad w) (o : Nat) : w.frozen? ⟨b, o, none⟩ = false := by
  rcases h with h | h <;> exact h.frozen o
theorem Wr.mark {B b : Nat} {l : List UInt8} {bad : Bool} {w : World} (h : Wr B b l bad w) (x : Bool) : Wr B b l x (w.setCell ⟨b, 2, none⟩ (.bool x)) := by
  rcases h with h | h
  · exact .inl (h.mark x)
  · exact .inr (h.mark x)
/-- nothing is written yet -/
def Wr0 (b : Nat) (w : World) : Prop := w.heap[b]? = some (.cells #[.pointer none, .slice none 0 0, .bool false] 151 (0, 0))
theorem Wr0.wr {b : Nat} {w : World} (h : Wr0 b w) (R : Nat) : Wr R b [] false w := .inl ⟨_, h, World.ownsRow_nil _ _ _ _, by simp [Value.ownBlock]⟩
theorem Wr0.lt {b : Nat} {w : World} (h : Wr0 b w) : b < w.heap.size := (h.wr 0).lt
theorem Wr0.below {b : Nat} {w w' : World} (h : Wr0 b w) (g : Below w.heap.size w w') : Wr0 b w' := (g.block _ h.lt).trans h
theorem wr0_new (w : World) : Wr0 w.heap.size (w.alloc (.cells #[.pointer none, .slice none 0 0, .bool false] 151)) := by
  show (w.heap.push _)[w.heap.size]? = _
  simp
set_option maxRecDepth 100000 in
set_option maxHeartbeats 1000000 in
theorem copyCheckW_fresh (b : Nat) (w : World) (h0 : w.cell? ⟨b, 0, none⟩ = some (.pointer none)) (hsh : w.shape? b = some (151, 3)) (hfz : w.frozen? ⟨b, 0, none⟩ = false) :
    Calls Tryz.prog 147 #[.pointer (some ⟨b, 0, none⟩)] w fun e w' => e = .returned (.tuple #[]) ∧ w' = w.setCell ⟨b, 0, none⟩ (.pointer (some ⟨b, 0, none⟩)) := by
  obtain ⟨j, hj, hjs⟩ := Option.map_eq_some_iff.1 sizeB
  go_enter Tryz.func147, Tryz.ntmps147
  go_wp2
  rw [Lib.run_to_unsafe w ⟨b, 0, none⟩ Tryz.underlying146 Tryz.underlying360 hj (by rw [hjs]; decide) hsh (Nat.zero_lt_succ 2)]
  simp only [Result.andThen]
  rw [Oper.upon_value]
  go_wp2
  rw [run_callFunc_extern Tryz.func213 (by kernel_rfl) (by kernel_rfl) (by kernel_rfl) (e := Extern.AbiNoEscape.same) (by kernel_rfl)]
  rw [Lib.run_noEscape]
  simp only [Result.andThen]
  rw [Oper.upon_value]
  go_wp2
  rw [Lib.run_from_unsafe w ⟨b, 0, none⟩ Tryz.underlying360 Tryz.underlying146 hj hsh (by kernel_rfl)]
  simp only [Result.andThen]
  rw [Oper.upon_value]
  go_wp2
  go_end0
  exact ⟨rfl, rfl⟩
theorem copyCheckW_any (B b : Nat) (bs : List Value) (bad : Bool) (w : World) (h : WrOf B b bs bad w) :
    Calls Tryz.prog 147 #[.pointer (some ⟨b, 0, none⟩)] w fun e w' => e = .returned (.tuple #[]) ∧ WrAt B b (.pointer (some ⟨b, 0, none⟩)) bs bad w' ∧ Past B b w w' := by
  rcases h with h | h
  · refine (copyCheckW_fresh b w h.cell0 h.shape (h.frozen 0)).mono ?_
    rintro e w' ⟨rfl, rfl⟩
    exact ⟨rfl, h.used _, (Past.refl B b w).setCell (p := ⟨b, 0, none⟩) rfl _⟩
  · refine (copyCheck_used b w h.cell0).mono ?_
    rintro e w' ⟨rfl, rfl⟩
    exact ⟨rfl, h, Past.refl B b _⟩
set_option maxRecDepth 100000 in
set_option maxHeartbeats 2000000 in
theorem writeStringW_any (B b : Nat) (bs : List Value) (bad : Bool) (s : ByteArray) (w : World) (h : WrOf B b bs bad w) (hlen : bs.length + s.size ≤ 140737488355328) (hBw : B ≤ w.heap.size) :
    Calls Tryz.prog 70 #[.pointer (some ⟨b, 0, none⟩), .string s] w fun e w' => e = .returned (.tuple #[.int .i64 s.size, .nilIface]) ∧ WrOf B b (bs ++ Lib.strCells s) bad w' ∧ Past B b w w' := by
  obtain ⟨i0, hi, hz0, hz1, hz2⟩ := info_parts info5
  go_enter Tryz.func70, Tryz.ntmps70
  go_wp2_with (with_reducible refine (copyCheckW_any B b bs bad _ h).mono ?_)
  rintro e w1 ⟨rfl, h1, hb1⟩
  obtain ⟨v, hbk, hown, hne⟩ := h1
  have c0 : w1.cell? ⟨b, 0, none⟩ = some (.pointer (some ⟨b, 0, none⟩)) := by rw [Lib.cell_of_heap hbk]; rfl
  have c1 : w1.cell? ⟨b, 1, none⟩ = some v := by rw [Lib.cell_of_heap hbk]; rfl
  go_wp2_with (at_builtin; refine Lib.wpList_append_own_string _ rfl _ _ 147 9 rfl B 5 i0 Tryz.underlying147 Tryz.underlying9 hi hz0 hz1 hz2 _ _ _ rfl hown s rfl ?c3 ?c4 ?c5 ?_)
  case c3 => unfold maxLen; omega
  case c4 => omega
  case c5 => have := hb1.size; omega
  intro v' w2 hown' hgrow _
  have hlt : b < w1.heap.size := by
    rcases Nat.lt_or_ge b w1.heap.size with h' | h'
    · exact h'
    · simp [Array.getElem?_eq_none h'] at hbk
  have hb2 : w2.heap[b]? = some (.cells #[.pointer (some ⟨b, 0, none⟩), v, .bool bad] 151 (0, 0)) := by
    rw [hgrow.block b hlt (fun e => hne e.symm)]
    exact hbk
  have d0 : w2.cell? ⟨b, 0, none⟩ = some (.pointer (some ⟨b, 0, none⟩)) := by rw [Lib.cell_of_heap hb2]; rfl
  have d1 : w2.cell? ⟨b, 1, none⟩ = some v := by rw [Lib.cell_of_heap hb2]; rfl
  have f1 : w2.frozen? ⟨b, 1, none⟩ = false := Lib.frozen_of_heap hb2 1
  obtain ⟨ao, n', cap, rfl⟩ : ∃ ao n' cap, v' = .slice ao n' cap := by
    rcases hown'.2 with ⟨hv, _⟩ | ⟨g, cap, cur, hv, _⟩
    · exact ⟨_, _, _, hv⟩
    · exact ⟨_, _, _, hv⟩
  go_wp2
  go_ret2
  refine ⟨rfl, ?_, ?_⟩
  · exact .inr (WrAt.put hb2 (bs' := bs ++ Lib.strCells s) (by simpa [Lib.strCells_length] using hown'))
  · exact (hb1.grown hgrow (by have := hb1.size; omega) hown (Nat.le_refl _)).setCell (p := ⟨b, 1, none⟩) rfl _
/-- a text is written -/
theorem wr_write (B b : Nat) (l : List UInt8) (bad : Bool) (s : ByteArray) (w : World) (h : Wr B b l bad w) (hlen : l.length + s.size ≤ 140737488355328) (hBw : B ≤ w.heap.size) :
    Calls Tryz.prog 70 #[.pointer (some ⟨b, 0, none⟩), .string s] w fun e w' => e = .returned (.tuple #[.int .i64 s.size, .nilIface]) ∧ Wr B b (l ++ s.data.toList) bad w' ∧ Past B b w w' := by
  refine (writeStringW_any B b (Lib.byteCells l) bad s w h (by rw [byteCells_length]; exact hlen) hBw).mono ?_
  rintro e w' ⟨rfl, h1, h2⟩
  refine ⟨rfl, ?_, h2⟩
  unfold Wr
  rw [byteCells_append, ← strCells_is]
  exact h1
set_option maxRecDepth 100000 in
set_option maxHeartbeats 2000000 in
theorem wr_string_some (B b : Nat) (l : List UInt8) (bad : Bool) (w : World) (h : Wr B b l bad w) (h0 : l ≠ []) :
    Calls Tryz.prog 65 #[.pointer (some ⟨b, 0, none⟩)] w fun e w' => e = .returned (.string ⟨l.toArray⟩) ∧ Below B w w' := by
  obtain ⟨p, v, hbk, hown, hne⟩ : ∃ p, WrAt B b p (Lib.byteCells l) bad w := by
    rcases h with h | h
    · exact ⟨_, h⟩
    · exact ⟨_, h⟩
  have hl0 : l.length ≠ 0 := by simpa using h0
  rw [Lib.byteCells_length] at hown
  obtain ⟨g, cap, cur, rfl, hbg, hg, hnc, hcm, hcs, htake⟩ : ∃ g cap cur, v = .slice (some ⟨g, 0, none⟩) l.length cap ∧ B ≤ g ∧ w.heap[g]? = some (.cells cur 5 (0, 0)) ∧ l.length ≤ cap ∧ cap ≤ maxLen ∧ cur.size = cap * 1 ∧ cur.toList.take (l.length * 1) = Lib.byteCells l := by
    rcases hown.2 with ⟨_, hz⟩ | ⟨g, cap, cur, hv, r⟩
    · exact absurd hz hl0
    · exact ⟨g, cap, cur, hv, r⟩
  have c1 : w.drew.cell? ⟨b, 1, none⟩ = some (.slice (some ⟨g, 0, none⟩) l.length cap) := by
    have : w.drew.heap[b]? = some (.cells #[p, .slice (some ⟨g, 0, none⟩) l.length cap, .bool bad] 151 (0, 0)) := hbk
    rw [Lib.cell_of_heap this]; rfl
  have hSD : (Builtin.unsafeSliceData_ #[147] 283 #[.slice (some ⟨g, 0, none⟩) l.length cap]).run Tryz.prog w.drew = .ok (.pointer (some ⟨g, 0, none⟩)) w.drew :=
    Lib.run_unsafeSliceData_row _ _ _ _ _ _ (by omega)
  have hUS : (Builtin.unsafeString_ #[283, 3] 9 #[.pointer (some ⟨g, 0, none⟩), .int .i64 l.length]).run Tryz.prog w.drew = .ok (.string ⟨l.toArray⟩) (w.drew.freeze ⟨g, 0, none⟩ l.length) := by
    refine Lib.run_unsafeString_row w.drew 283 3 9 5 Tryz.underlying283 builder_Extra.cellsByte g cur.size (by have hg' : w.drew.heap[g]? = some (.cells cur 5 (0, 0)) := hg; simp [World.shape?, hg']) l h0 (by omega) (by unfold maxLen at hcm; omega) ?_
    intro j x hx
    have := hown.cells (g := g) rfl j (.int .u8 x.toNat) (by simp [Lib.byteCells, hx])
    exact this
  clear h hbk hown hg htake
  go_enter Tryz.func65, Tryz.ntmps65
  go_wp2
  go_region
  all_goals (go_wp2; go_ret; exact ⟨rfl, Lib.below_freeze (Below.drew (Below.refl B w)) (p := ⟨g, 0, none⟩) hbg _⟩)
set_option maxRecDepth 100000 in
set_option maxHeartbeats 2000000 in
theorem wr_string_none (B b : Nat) (p : Value) (bad : Bool) (w : World) (hbk : w.heap[b]? = some (.cells #[p, .slice none 0 0, .bool bad] 151 (0, 0))) :
    Calls Tryz.prog 65 #[.pointer (some ⟨b, 0, none⟩)] w fun e w' => e = .returned (.string ⟨#[]⟩) ∧ Below B w w' := by
  have hUS : (Builtin.unsafeString_ #[283, 3] 9 #[.pointer none, .int .i64 0]).run Tryz.prog w.drew = .ok (.string .empty) w.drew := Lib.run_unsafeString_none _ _ _ _ _
  have c1 : w.drew.cell? ⟨b, 1, none⟩ = some (.slice none 0 0) := by
    have : w.drew.heap[b]? = some (.cells #[p, .slice none 0 0, .bool bad] 151 (0, 0)) := hbk
    rw [Lib.cell_of_heap this]; rfl
  have hSD : (Builtin.unsafeSliceData_ #[147] 283 #[.slice none 0 0]).run Tryz.prog w.drew = .ok (.pointer none) w.drew := rfl
  clear hbk
  go_enter Tryz.func65, Tryz.ntmps65
  go_wp2
  go_region
  all_goals (go_wp2; go_ret; exact ⟨rfl, Below.drew (Below.refl B w)⟩)
end Go.Proofs.YticdmepplfgdiaaGreatDoor
end
section
namespace Go.Proofs.YticdmepplfgdiaaGreatDoor
open Go.Shelf Go.RowKit
set_option maxRecDepth 100000 in
set_option maxHeartbeats 2000000 in
theorem wr_string_room (B b g cap : Nat) (p : Value) (bad : Bool) (w : World) (hc0 : cap ≠ 0) (hbk : w.heap[b]? = some (.cells #[p, .slice (some ⟨g, 0, none⟩) 0 cap, .bool bad] 151 (0, 0))) :
    Calls Tryz.prog 65 #[.pointer (some ⟨b, 0, none⟩)] w fun e w' => e = .returned (.string ⟨#[]⟩) ∧ Below B w w' := by
  have hUS : (Builtin.unsafeString_ #[283, 3] 9 #[.pointer (some ⟨g, 0, none⟩), .int .i64 0]).run Tryz.prog w.drew = .ok (.string .empty) w.drew := Lib.run_unsafeString_none _ _ _ _ _
  have c1 : w.drew.cell? ⟨b, 1, none⟩ = some (.slice (some ⟨g, 0, none⟩) 0 cap) := by
    have : w.drew.heap[b]? = some (.cells #[p, .slice (some ⟨g, 0, none⟩) 0 cap, .bool bad] 151 (0, 0)) := hbk
    rw [Lib.cell_of_heap this]; rfl
  have hSD : (Builtin.unsafeSliceData_ #[147] 283 #[.slice (some ⟨g, 0, none⟩) 0 cap]).run Tryz.prog w.drew = .ok (.pointer (some ⟨g, 0, none⟩)) w.drew :=
    Lib.run_unsafeSliceData_row _ _ _ _ _ _ hc0
  clear hbk hc0
  go_enter Tryz.func65, Tryz.ntmps65
  go_wp2
  go_region
  all_goals (go_wp2; go_ret; exact ⟨rfl, Below.drew (Below.refl B w)⟩)
set_option maxRecDepth 100000 in
set_option maxHeartbeats 2000000 in
theorem wr_string_noroom (B b g : Nat) (p : Value) (bad : Bool) (cur : Array Value) (w : World) (hBw : B ≤ w.heap.size) (hbk : w.heap[b]? = some (.cells #[p, .slice (some ⟨g, 0, none⟩) 0 0, .bool bad] 151 (0, 0))) (hg : w.heap[g]? = some (.cells cur 5 (0, 0))) :
    Calls Tryz.prog 65 #[.pointer (some ⟨b, 0, none⟩)] w fun e w' => e = .returned (.string ⟨#[]⟩) ∧ Below B w w' := by
  have hlt : b < w.heap.size := by
    rcases Nat.lt_or_ge b w.heap.size with h' | h'
    · exact h'
    · simp [Array.getElem?_eq_none h'] at hbk
  have c1 : w.drew.cell? ⟨b, 1, none⟩ = some (.slice (some ⟨g, 0, none⟩) 0 0) := by
    have : w.drew.heap[b]? = some (.cells #[p, .slice (some ⟨g, 0, none⟩) 0 0, .bool bad] 151 (0, 0)) := hbk
    rw [Lib.cell_of_heap this]; rfl
  have hSD : (Builtin.unsafeSliceData_ #[147] 283 #[.slice (some ⟨g, 0, none⟩) 0 0]).run Tryz.prog w.drew = .ok (.pointer (some ⟨w.drew.heap.size, 0, none⟩)) (w.drew.alloc (.view ⟨g, 0, none⟩ 5)) :=
    Lib.run_unsafeSliceData_zero w.drew _ _ 5 Tryz.underlying283 ⟨g, 0, none⟩ 0 (5, cur.size) (by have hg' : w.drew.heap[g]? = some (.cells cur 5 (0, 0)) := hg; simp [World.shape?, hg'])
  have c2 : (w.drew.alloc (.view ⟨g, 0, none⟩ 5)).cell? ⟨b, 1, none⟩ = some (.slice (some ⟨g, 0, none⟩) 0 0) := by
    have : (w.drew.alloc (.view ⟨g, 0, none⟩ 5)).heap[b]? = _ := (Lib.alloc_old w.drew _ b hlt).trans hbk
    rw [Lib.cell_of_heap this]; rfl
  have c3 : (w.alloc (.view ⟨g, 0, none⟩ 5)).drew.cell? ⟨b, 1, none⟩ = some (.slice (some ⟨g, 0, none⟩) 0 0) := c2
  have c4 : (w.alloc (.view ⟨g, 0, none⟩ 5)).cell? ⟨b, 1, none⟩ = some (.slice (some ⟨g, 0, none⟩) 0 0) := c2
  have c0 : w.cell? ⟨b, 1, none⟩ = some (.slice (some ⟨g, 0, none⟩) 0 0) := c1
  have hUS := fun (W : World) (q : Option Addr) => (show (Builtin.unsafeString_ #[283, 3] 9 #[.pointer q, .int .i64 0]).run Tryz.prog W = .ok (.string .empty) W from Lib.run_unsafeString_none _ _ _ _ _)
  clear hbk hg hlt
  go_enter Tryz.func65, Tryz.ntmps65
  go_wp2
  go_region
  all_goals (go_wp2; go_ret; exact ⟨rfl, (Below.drew (Below.refl B w)).alloc hBw _⟩)
theorem wr_string (B b : Nat) (l : List UInt8) (bad : Bool) (w : World) (h : Wr B b l bad w) (hB : B ≤ w.heap.size) :
    Calls Tryz.prog 65 #[.pointer (some ⟨b, 0, none⟩)] w fun e w' => e = .returned (.string ⟨l.toArray⟩) ∧ Below B w w' := by
  by_cases h0 : l = []
  · subst h0
    have key : ∀ p, WrAt B b p [] bad w → Calls Tryz.prog 65 #[.pointer (some ⟨b, 0, none⟩)] w fun e w' => e = .returned (.string ⟨#[]⟩) ∧ Below B w w' := by
      intro p hp
      obtain ⟨v, hb, ho, _⟩ := hp
      rcases ho.2 with ⟨rfl, _⟩ | ⟨g, cap, cur, rfl, _, hc, _⟩
      · exact wr_string_none B b p bad w hb
      · by_cases h0 : cap = 0
        · subst h0
          exact wr_string_noroom B b g p bad cur w hB hb hc
        · exact wr_string_room B b g cap p bad w h0 hb
    rcases h with h | h
    · exact key _ h
    · exact key _ h
  · exact wr_string_some B b l bad w h h0
end Go.Proofs.YticdmepplfgdiaaGreatDoor
end
