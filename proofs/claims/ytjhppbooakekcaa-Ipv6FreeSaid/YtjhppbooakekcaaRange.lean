/-
  A range over an iterator that keeps its state in one box of its own and writes it between two rounds: the iterator's promise and the loop's law. No function of the program is walked here. Conditions: those of each.
-/
import Derived.Test.YtjhppbooakekcaaBase
import Derived.RangeFuncNested
import Derived.RangeFuncBound
import Derived.RangeFuncCalls
import Derived.RangeFuncLeaves
import Derived.Shelf.Abstract
import Derived.Shelf.RegionOpen
import Derived.OwnWalkIn
import Derived.TacticsInMore
import Derived.LoopNIn
import Derived.LoopIn
namespace Go.Proofs.Ytjhppbooakekcaa
open Go.RowKit Go.Shelf

/-- what lay below B, but for block b, lies as it lay -/
structure Spared (B b : Nat) (W W' : World) : Prop where
  new : Below 0 W W'
  same : ∀ k, k < B → k ≠ b → W'.heap[k]? = W.heap[k]?
theorem Spared.refl (B b : Nat) (W : World) : Spared B b W W := ⟨Below.refl _ _, fun _ _ _ => rfl⟩
theorem Spared.trans {B b : Nat} {X Y Z : World} (h : Spared B b X Y) (k : Spared B b Y Z) : Spared B b X Z := ⟨h.new.trans k.new, fun i h1 h2 => (k.same i h1 h2).trans (h.same i h1 h2)⟩
theorem Spared.of_below {B b n : Nat} {W W' : World} (h : Below n W W') (hn : B ≤ n) : Spared B b W W' := ⟨h.mono (Nat.zero_le _), fun k h1 _ => h.block k (by omega)⟩
theorem Spared.put (B b : Nat) (W : World) (o : Nat) (v : Value) : Spared B b W (W.setCell ⟨b, o, none⟩ v) := ⟨(Below.refl 0 W).setCell (Nat.zero_le _) _, fun k _ h2 => Below.heap_setCell W ⟨b, o, none⟩ v k h2⟩
theorem Spared.obj {B b : Nat} (W : World) {l : Nat} (o : Obj) (hl : B ≤ l) : Spared B b W (W.putObj l o) :=
  ⟨(Below.refl 0 W).grown (grownBy_putObj' W l o) (Nat.zero_le _) (fun _ _ => Nat.zero_le _), fun k h1 _ => World.putObj_heap_other (by omega)⟩
theorem Spared.cell {B b : Nat} {W W' : World} (h : Spared B b W W') {k o : Nat} (h1 : k < B) (h2 : k ≠ b) : W'.cell? ⟨k, o, none⟩ = W.cell? ⟨k, o, none⟩ := World.cell?_of_block (w := W) (a := ⟨k, o, none⟩) (h.same k h1 h2)
theorem Spared.frozen {B b : Nat} {W W' : World} (h : Spared B b W W') {k o : Nat} (h1 : k < B) (h2 : k ≠ b) : W'.frozen? ⟨k, o, none⟩ = W.frozen? ⟨k, o, none⟩ := World.frozen?_of_block (w := W) (a := ⟨k, o, none⟩) (h.same k h1 h2)

theorem Spared.below {B b n : Nat} {W W' : World} (h : Spared B b W W') (h1 : n ≤ B) (h2 : n ≤ b) : Below n W W' := ⟨h.new.os, h.new.tape, h.new.output, h.new.size, fun k hk => h.same k (by omega) (by omega)⟩

/-- a caller's word on the world that bears the iterator's own steps -/
structure Bears {β : Type} (b : Nat) (J : β → World → Prop) : Prop where
  new : ∀ s W W', J s W → Below W.heap.size W W' → J s W'
  put : ∀ s W v, J s W → J s (W.setCell ⟨b, 0, none⟩ v)

/-- the iterator's box stays as it is -/
def KeptBox (b : Nat) (W W' : World) : Prop := W'.heap[b]? = W.heap[b]?

/-- THE ITERATOR's PROMISE: begun with the text t in its box it hands over xs, one by one -/
def Gives {α : Type} (F : Fence) (n gf b : Nat) (lb : Array Value) (enc : α → Value) (xs : List α) (t : ByteArray) : Prop :=
  ∀ (l : Nat) (J : List α → World → Prop) (Jx : World → Prop) (W : World), Bears b J →
    (∀ pre x W1, J pre W1 → pre ++ [x] <+: xs → YieldAt F (n - 1) Try.prog l #[enc x] W1 fun e W' => (e = .returned (.bool true) ∧ J (pre ++ [x]) W' ∧ KeptBox b W1 W') ∨ (e = .returned (.bool false) ∧ Jx W')) →
    W.cell? ⟨b, 0, none⟩ = some (.string t) → W.frozen? ⟨b, 0, none⟩ = false → J [] W →
    CallsIn F n Try.prog gf (#[.func (.yield l) #[] #[]] ++ lb) W fun e W' => (∃ v, e = .returned v) ∧ (J xs W' ∨ Jx W')

/-- how a round's body may be left: on to the next round, or out of the function -/
def roundEnd (B b : Nat) (I : World → Prop) (Ix : World → Prop) (W : World) : Exit → Act → World → Prop
  | .normal, _, W' => (∀ k, k = b ∨ k = B ∨ k = B + 1 → W'.heap[k]? = W.heap[k]?) ∧ I W'
  | .ret, _, W' => (∀ k, k = B ∨ k = B + 1 → W'.heap[k]? = W.heap[k]?) ∧ Ix W'
  | _, _, _ => False

/-- THE LOOP's LAW -/
theorem wp_range_box {α : Type} {F : Fence} {n : Nat} {g : Operand} {p : Tmp} {assign body : Code} {Q : Exit → Act → World → Prop} {a : Act} {w : World}
    (hro : F.round = none) (h1 : 1 ≤ n) {gf b : Nat} {lb : Array Value} (hg : a.eval g = .func (.func gf) #[] lb) (hFg : F.fn gf) (eg : ∀ args w, (callFunc gf args).run Try.prog w = .ok (.enter gf args) w)
    {enc : α → Value} {xs : List α} {t : ByteArray} (hG : Gives F (n - 1) gf b lb enc xs t) (hbw : b < w.heap.size) (hc : w.cell? ⟨b, 0, none⟩ = some (.string t)) (hf : w.frozen? ⟨b, 0, none⟩ = false)
    (I : List α → World → Prop) (Ix : World → Prop) (hI : ∀ s W W', I s W → Spared w.heap.size b W W' → I s W') (hIx : ∀ W W', Ix W → Spared w.heap.size b W W' → Ix W') (h0 : I [] w) (a₁ : α → Act)
    (hassign : ∀ (l : Nat) (x : α) (W : World) (K : Act → World → Prop), K (a₁ x) W →
      assign.wpIn (F.inRound l) (n - 1 - 1) Try.prog (Exit.then K (fun _ _ _ => False)) { tmps := a.tmps.setIfInBounds p (enc x), defers := [] } W)
    (hbody : ∀ (l : Nat) (pre : List α) (x : α) (W : World), w.heap.size ≤ W.heap.size → I pre W → pre ++ [x] <+: xs → body.wpIn (F.inRound l) (n - 1 - 1) Try.prog (roundEnd w.heap.size b (I (pre ++ [x])) Ix W) (a₁ x) W)
    (hdone : ∀ (W : World), I xs W → W.heap[w.heap.size]? = some (.deferred (some [])) → Q .normal { a with defers := { target := .collected w.heap.size, args := #[] } :: a.defers } W)
    (hstop : ∀ (W : World), Ix W → W.heap[w.heap.size]? = some (.deferred (some [])) → Code.ret.wpIn F n Try.prog Q { a with defers := { target := .collected w.heap.size, args := #[] } :: a.defers } W) :
    (Code.rangeFunc g #[p] assign body).wpIn F n Try.prog Q a w := by
  refine wpIn_rangeFunc fun fn hfn => ?_
  rw [hro]
  -- the loop's record, in its states
  let R : LoopState → Option Code → Obj := fun st j => .loop { state := st, pending := j, fn, tmps := a.tmps, params := #[p], assign, body, defers := w.heap.size }
  let W0 : World := (w.alloc (.deferred (some []))).alloc (R .ready none)
  have hD0 : W0.heap[w.heap.size]? = some (.deferred (some [])) := (Below.heap_alloc _ _ _ (by simp)).trans (World.alloc_heap_new w _)
  have hL0 : W0.heap[w.heap.size + 1]? = some (R .ready none) := by
    have h := World.alloc_heap_new (w.alloc (.deferred (some []))) (R .ready none)
    rwa [World.size_alloc] at h
  have hB0 : Below w.heap.size w W0 := ((Below.refl _ w).alloc (Nat.le_refl _) _).alloc (by simp) _
  have hI0 : I [] W0 := hI _ _ _ h0 (.of_below hB0 (Nat.le_refl _))
  refine ⟨w.heap.size + 1, [{ target := .collected w.heap.size, args := #[] }], W0, { target := .fn (.func gf) lb, args := #[.func (.yield (w.heap.size + 1)) #[] #[]] }, W0, gf,
    #[.func (.yield (w.heap.size + 1)) #[] #[]] ++ lb, W0, run_enterLoop_outer _ _ _ _ _, ?_, ?_, ?_, fun _ => h1, ?_⟩
  · simp only [resolve, hg]
    simp [go_sem]
  · intro f' hf'
    simp only [Target.leads, Option.some.injEq] at hf'
    exact hf' ▸ hFg
  · simp [invoke, go_sem, eg]
  -- the iterator, at the caller's word with the record and the block for deferred calls beside it
  refine (hG (w.heap.size + 1) (fun s W => I s W ∧ w.heap.size + 1 < W.heap.size ∧ W.heap[w.heap.size + 1]? = some (R .ready none) ∧ W.heap[w.heap.size]? = some (.deferred (some [])))
    (fun W => Ix W ∧ W.heap[w.heap.size + 1]? = some (R .done (some .ret)) ∧ W.heap[w.heap.size]? = some (.deferred (some []))) W0 ⟨?_, ?_⟩ ?_ ((hB0.cell hbw).trans hc) ((hB0.frozen hbw).trans hf) ⟨hI0, by simp [W0], hL0, hD0⟩).mono ?_
  · rintro s W W' ⟨k1, k2, k3, k4⟩ hb
    exact ⟨hI _ _ _ k1 (.of_below hb (by omega)), Nat.lt_of_lt_of_le k2 hb.size, (hb.block _ k2).trans k3, (hb.block _ (by omega)).trans k4⟩
  · rintro s W v ⟨k1, k2, k3, k4⟩
    have hs := Spared.put (w.heap.size + 1 + 1) b W 0 v
    exact ⟨hI _ _ _ k1 (.put _ _ _ _ _), Nat.lt_of_lt_of_le k2 hs.new.size, (hs.same _ (by omega) (by omega)).trans k3, (hs.same _ (by omega) (by omega)).trans k4⟩
  · -- one round
    rintro pre x W ⟨k1, k2, k3, k4⟩ hpre
    have hy := run_yield (P := Try.prog) (args := #[enc x]) k3 rfl
    have hz : (#[p].zip #[enc x]).foldl (fun t (q, v) => t.setIfInBounds q v) a.tmps = a.tmps.setIfInBounds p (enc x) := by simp
    have hy2 : (Instr.yield (w.heap.size + 1) #[enc x]).run Try.prog W = .ok (.round (w.heap.size + 1) fn (a.tmps.setIfInBounds p (enc x)) assign body) W := by rw [← hz]; exact hy
    refine ⟨fn, _, assign, body, hy2, roundIn_of_wpIn hfn ?_⟩
    refine hassign _ x W _ ⟨_, run_beginRound k3 rfl, ?_⟩
    have s1 : Spared w.heap.size b W (W.putObj (w.heap.size + 1) (R .busy none)) := .obj W _ (by omega)
    have e1 : (W.putObj (w.heap.size + 1) (R .busy none)).heap[w.heap.size + 1]? = some (R .busy none) := World.putObj_heap_same k2
    have e2 : (W.putObj (w.heap.size + 1) (R .busy none)).heap[w.heap.size]? = some (.deferred (some [])) := (World.putObj_heap_other (by omega)).trans k4
    refine wpIn_mono (hbody _ pre x _ (by rw [World.putObj_size]; omega) (hI _ _ _ k1 s1) hpre) ?_
    intro e a' W' hp
    match e, hp with
    | .normal, ⟨hk, hi⟩ =>
      have q1 := (hk _ (.inr (.inr rfl))).trans e1
      have q2 := (hk _ (.inr (.inl rfl))).trans e2
      have ql : w.heap.size + 1 < W'.heap.size := (Array.getElem?_eq_some_iff.1 q1).1
      refine ⟨_, _, run_endRound none q1, .inl ⟨rfl, ⟨hI _ _ _ hi (.obj W' _ (by omega)), by rw [World.putObj_size]; exact ql, World.putObj_heap_same ql, (World.putObj_heap_other (by omega)).trans q2⟩, ?_⟩⟩
      exact (World.putObj_heap_other (by omega)).trans ((hk b (.inl rfl)).trans (World.putObj_heap_other (by omega)))
    | .ret, ⟨hk, hi⟩ =>
      have q1 := (hk _ (.inr rfl)).trans e1
      have q2 := (hk _ (.inl rfl)).trans e2
      have ql : w.heap.size + 1 < W'.heap.size := (Array.getElem?_eq_some_iff.1 q1).1
      exact ⟨_, _, run_endRound (some .ret) q1, .inr ⟨rfl, hIx _ _ hi (.obj W' _ (by omega)), World.putObj_heap_same ql, (World.putObj_heap_other (by omega)).trans q2⟩⟩
  · -- behind the iterator
    rintro e W ⟨⟨v, rfl⟩, ⟨k1, k2, k3, k4⟩ | ⟨k1, k3, k4⟩⟩
    · exact ⟨none, _, run_endLoop k3 (by simp), hdone _ (hI _ _ _ k1 (.obj W _ (by omega))) ((World.putObj_heap_other (by omega)).trans k4)⟩
    · exact ⟨some .ret, _, run_endLoop k3 (by simp), hstop _ (hIx _ _ k1 (.obj W _ (by omega))) ((World.putObj_heap_other (by omega)).trans k4)⟩
end Go.Proofs.Ytjhppbooakekcaa
