/-
  A map of three entries that a call lays and ranges over, keyed by ints: how it is filled. Conditions: those of each law.
-/
import Derived.Laws.IdiomRangeMap
import Derived.Maps.RangeRun
import Derived.Test.YticdmepplfgdiaaGreatDoorQ03
set_option linter.unusedVariables false
set_option linter.unusedSimpArgs false
namespace Go.Proofs.YticdmepplfgdiaaGreatDoor
open Go.RowKit
theorem set_last (u : World) (es es' : Array MapEntry) (c c' : Nat) : (setObj u.heap.size (.map es' c')).run Tryz.prog (u.alloc (.map es c)) = .ok () (u.alloc (.map es' c')) := by
  let o : Obj := .map es c
  let o' : Obj := .map es' c'
  have hp : (u.heap.push o).setIfInBounds u.heap.size o' = u.heap.push o' := by
    apply Array.toList_inj.1
    simp
  simp only [setObj, Sem.run]
  rw [heap_alloc_new]
  show Result.ok () ({ u.alloc o with heap := (u.heap.push o).setIfInBounds u.heap.size o' } : World) = _
  rw [hp]
  rfl
theorem get_last (u : World) (es : Array MapEntry) (c : Nat) : (getObj u.heap.size).run Tryz.prog (u.alloc (.map es c)) = .ok (.map es c) (u.alloc (.map es c)) := by
  simp only [getObj, Sem.run]
  rw [heap_alloc_new]
theorem run_insert (u : World) (es : Array MapEntry) (clock : Nat) (k : Int) (v : Value) (hf : Instr.findNow (.int .i64) (.int .i64 k) es.toList 0 = some none) :
    (Instr.mapUpdate 268 (.map (some u.heap.size)) (.int .i64 k) v).run Tryz.prog (u.alloc (.map es clock)) = .ok () (u.alloc (.map (es.push { key := .int .i64 k, val := v, born := clock }) (clock + 1))) := by
  have h1 := MapKept.run_findKey (P := Tryz.prog) (w := u.alloc (.map es clock)) Tryz.underlying3 hf
  have h2 : (Instr.checkKey false 10000 3 (.int .i64 k)).run Tryz.prog (u.alloc (.map es clock)) = .ok () (u.alloc (.map es clock)) := by
    unfold Instr.checkKey
    simp only [Sem.run_bind, run_underlying Tryz.underlying3, Result.andThen]
    rfl
  unfold Instr.mapUpdate
  simp only [Sem.run_bind, run_underlying Tryz.underlying268, get_last, h2, h1, set_last, Result.andThen]
/-- one step of a range over a map: nothing is left, or one entry comes, whichever; the iterator alone has turned -/
theorem next_step (w : World) (r bm c : Nat) (seen : Array Nat) (es : Array MapEntry) (hr : w.heap[r]? = some (.mapIter (some bm) c seen c)) (hb : w.heap[bm]? = some (.map es c)) (hbr : bm < r)
    (hold : ∀ x ∈ es.toList, x.born < c) (hn : (es.toList.map (·.born)).Nodup) :
    ((leftOf es seen).size = 0 ∧ ∀ ty, (Instr.next (.pointer (some ⟨r, 0, none⟩)) false ty).run Tryz.prog w = .ok (.tuple #[.bool false]) w) ∨
    ∃ e ∈ (leftOf es seen).toList, ∃ w2 : World, (∀ ty, (Instr.next (.pointer (some ⟨r, 0, none⟩)) false ty).run Tryz.prog w = .ok (.tuple #[.bool true, e.key, e.val]) w2) ∧
      (Instr.entry (.pointer (some ⟨r, 0, none⟩))).run Tryz.prog w2 = .ok (.tuple #[e.key, e.val]) w2 ∧ w2.heap[r]? = some (.mapIter (some bm) c (seen.push e.born) c) ∧ Below r w w2 := by
  have hrl : r < w.heap.size := (Array.getElem?_eq_some_iff.1 hr).1
  rcases run_next_at (P := Tryz.prog) w 0 r bm c c seen es c hr hb hold (Nat.le_refl _) with ⟨h0, hrun⟩ | ⟨e, he, w1, hal, hrun⟩
  · exact .inl ⟨h0, fun _ => hrun⟩
  · have hh : w1.heap = w.heap := by rcases hal with rfl | rfl <;> rfl
    have hos : w1.os = w.os ∧ w1.tape = w.tape ∧ w1.output = w.output := by rcases hal with rfl | rfl <;> exact ⟨rfl, rfl, rfl⟩
    have h1 : (Go.ChangeMaps.setBlock w1 r (.mapIter (some bm) c (seen.push e.born) c)).heap[r]? = some (.mapIter (some bm) c (seen.push e.born) c) := by
      simp [Go.ChangeMaps.setBlock, hh, hrl]
    have hB : Below r w (Go.ChangeMaps.setBlock w1 r (.mapIter (some bm) c (seen.push e.born) c)) :=
      ⟨hos.1, hos.2.1, hos.2.2, by simp [Go.ChangeMaps.setBlock, hh], fun k hk => by
        have : r ≠ k := by omega
        simp [Go.ChangeMaps.setBlock, hh, this]⟩
    refine .inr ⟨e, he, _, fun _ => hrun, ?_, h1, hB⟩
    exact run_entry_at (P := Tryz.prog) _ r bm c seen es c e h1 ((hB.block bm hbr).trans hb) (mem_left he).1 hn
end Go.Proofs.YticdmepplfgdiaaGreatDoor
