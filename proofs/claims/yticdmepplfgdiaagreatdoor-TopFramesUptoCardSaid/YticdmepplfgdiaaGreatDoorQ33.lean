/-
  slices.Sort and slices.Compact of two numbers that are the same; slices.Clone of one number and of none. Conditions: just that.
-/
import Derived.Deep.RegionWith
import Derived.Test.YticdmepplfgdiaaGreatDoorQ04
import Derived.Test.YticdmepplfgdiaaGreatDoorQ03
set_option linter.unusedVariables false
set_option linter.unusedSimpArgs false
namespace Go.Proofs.YticdmepplfgdiaaGreatDoor
open Go.RowKit
set_option maxRecDepth 100000 in
set_option maxHeartbeats 1000000 in
theorem less_same (n : Int) (w : World) : Calls Tryz.prog 225 #[.int .i64 n, .int .i64 n] w fun e w' => e = .returned (.bool false) ∧ w' = w := by
  go_enter Tryz.func225, Tryz.ntmps225
  go_wp2
  go_ret
  exact ⟨rfl, rfl⟩
set_option maxRecDepth 100000 in
set_option maxHeartbeats 2000000 in
theorem insertion_same (g c : Nat) (n : Int) (w : World) (h0 : w.cell? ⟨g, 0, none⟩ = some (.int .i64 n)) (h1 : w.cell? ⟨g, 1, none⟩ = some (.int .i64 n)) : Calls Tryz.prog 219 #[.slice (some ⟨g, 0, none⟩) 2 c, .int .i64 0, .int .i64 2] w fun e w' => e = .returned (.tuple #[]) ∧ Below w.heap.size w w' := by
  have HL := Lib.hid (fun W => less_same n W)
  go_enter Tryz.func219, Tryz.ntmps219
  go_wp2
  go_loopw [6, 7] (fun i _ wr => ∃ k : Nat, (k = 1 ∨ k = 2) ∧ i = .int .i64 k ∧ Below w.heap.size w wr ∧ wr.cell? ⟨g, 0, none⟩ = some (.int .i64 n) ∧ wr.cell? ⟨g, 1, none⟩ = some (.int .i64 n)) (fun i _ _ => 3 - (intOf i).toNat)
  case atStart => exact ⟨1, .inl rfl, by go_num, Below.refl _ _, h0, h1⟩
  case round =>
    obtain ⟨k, hk, rfl, bel, c0, c1⟩ := hrel
    have HB := Lib.hid bel
    clear bel h0 h1
    rcases hk with rfl | rfl
    · go_wp2
      go_loopw [7] (fun j wr => j = .int .i64 1 ∧ Below w.heap.size w wr ∧ wr.cell? ⟨g, 0, none⟩ = some (.int .i64 n) ∧ wr.cell? ⟨g, 1, none⟩ = some (.int .i64 n)) (fun _ _ => 0)
      case atStart => exact ⟨rfl, HB.out, c0, c1⟩
      case round =>
        obtain ⟨rfl, bel, d0, d1⟩ := hrel
        have HB2 := Lib.hid bel
        clear bel
        go_wp2
        go_quiet ((go_at_call 225; refine Calls.quiet_of_same (HL.out _)))
        go_wp2
        exact ⟨⟨2, .inr rfl, rfl, bdrew HB2.out nq, d0, d1⟩, by simp [intOf]⟩
    · go_wp2
      go_end0
      exact ⟨rfl, HB.out⟩
set_option maxRecDepth 100000 in
set_option maxHeartbeats 1000000 in
theorem pdq_same (g c : Nat) (n l : Int) (w : World) (h0 : w.cell? ⟨g, 0, none⟩ = some (.int .i64 n)) (h1 : w.cell? ⟨g, 1, none⟩ = some (.int .i64 n)) : Calls Tryz.prog 158 #[.slice (some ⟨g, 0, none⟩) 2 c, .int .i64 0, .int .i64 2, .int .i64 l] w fun e w' => e = .returned (.tuple #[]) ∧ Below w.heap.size w w' := by
  have HI := Lib.hid (insertion_same g c n w h0 h1)
  clear h0 h1
  go_enter Tryz.func158, Tryz.ntmps158
  go_wp2
  go_loopw [1, 2, 3] (fun x y _ wr => x = .int .i64 0 ∧ y = .int .i64 2 ∧ wr = w) (fun _ _ _ _ => 0)
  case atStart => exact ⟨rfl, rfl, rfl⟩
  case round =>
    obtain ⟨rfl, rfl, rfl⟩ := hrel
    go_wp2_with (go_at_call 219; (with_reducible refine HI.out.mono ?_); rintro e w1 ⟨rfl, g1⟩)
    exact bodyPost_ret (results_none rfl _ _ _) rfl ⟨rfl, g1⟩
set_option maxRecDepth 100000 in
theorem sort_same (g c : Nat) (n : Int) (w : World) (h0 : w.cell? ⟨g, 0, none⟩ = some (.int .i64 n)) (h1 : w.cell? ⟨g, 1, none⟩ = some (.int .i64 n)) : Calls Tryz.prog 87 #[.slice (some ⟨g, 0, none⟩) 2 c] w fun e w' => e = .returned (.tuple #[]) ∧ Below w.heap.size w w' := by
  have HL := Lib.hid bitlen_two
  have HP := Lib.hid (fun l => pdq_same g c n l w h0 h1)
  clear h0 h1
  go_enter Tryz.func87, Tryz.ntmps87
  go_wp2_with (first | (go_at_call 159; (with_reducible refine (HL.out _).mono ?_); rintro e w1 ⟨rfl, hq⟩; subst hq) | (go_at_call 158; refine (HP.out _).mono ?_; rintro e w2 ⟨rfl, g2⟩))
  go_end0
  exact ⟨rfl, g2⟩
set_option maxRecDepth 100000 in
set_option maxHeartbeats 2000000 in
theorem compact_same (g c : Nat) (hc : 2 ≤ c) (n : Int) (w : World) (h : Bx w g [.int .i64 n, .int .i64 n]) : Calls Tryz.prog 88 #[.slice (some ⟨g, 0, none⟩) 2 c] w fun e w' => e = .returned (.slice (some ⟨g, 0, none⟩) 1 c) ∧ Bx w' g [.int .i64 n, .int .i64 0] ∧ Beside [g] w w' := by
  have h0 := h.get 0 _ rfl
  have h1 := h.get 1 _ rfl
  have HX := Lib.hid h
  clear h
  go_enter Tryz.func88, Tryz.ntmps88
  go_wp2
  go_loopw [3, 4, 5] (fun i _ _ wr => i = .int .i64 1 ∧ wr = w) (fun _ _ _ _ => 0)
  case atStart => exact ⟨by go_num, rfl⟩
  case round =>
    obtain ⟨rfl, rfl⟩ := hrel
    go_wp2
    go_quiet (fail)
    have X5 : Bx (wr.drewN nq) g [.int .i64 n, .int .i64 n] := HX.out.drewN nq
    have E5 : Beside [g] wr (wr.drewN nq) := (Beside.refl _ _).below (bdrew (Below.refl _ _) nq)
    generalize wr.drewN nq = w5 at X5 E5 ⊢
    go_wp2
    clear h0 h1
    have HX5 := Lib.hid X5
    have HE5 := Lib.hid E5
    have h1 := X5.get 1 _ rfl
    have hf := X5.fz
    clear X5 E5
    have hc1 : (c - 1 : Nat) ≠ 0 := by omega
    go_loopw [3, 5] (fun i j wr => i = .int .i64 1 ∧ j = .int .i64 1 ∧ wr = w5) (fun _ _ _ => 0)
    case atStart => exact ⟨rfl, rfl, rfl⟩
    case round =>
      obtain ⟨rfl, rfl, rfl⟩ := hrel
      have hcl : ∀ ty, (Builtin.clear_ #[23] ty #[.slice (some ⟨g, 1, none⟩) 1 (c - 1)]).run Tryz.prog wr = .ok (.tuple #[]) (wr.setCell ⟨g, 1, none⟩ (.int .i64 0)) := fun ty => by
        simp [Builtin.clear_, run_underlying Tryz.underlying23, Tryz.zeroValue3, Result.andThen, Builtin.zeroCells, storeCells, go_sem, Value.cells, h1, hf]
      go_wp2
      go_ret
      exact ⟨rfl, HX5.out.set (i := 1) (by simp), HE5.out.setCell (.inl (List.mem_singleton.2 rfl)) _⟩
set_option maxRecDepth 100000 in
theorem clone_none (w : World) : Calls Tryz.prog 26 #[.slice none 0 0] w fun e w' => e = .returned (.slice none 0 0) ∧ w' = w := by
  have he := fun W => @Lib.run_eql_slice_nil Tryz.prog W
  go_enter Tryz.func26, Tryz.ntmps26
  go_wp2
  go_ret
  exact ⟨rfl, rfl⟩
/-- a row is appended to a row of one's own, whatever its things' size -/
theorem push_from {ops : Array Oper} {rest : List Oper} {o : Oper} {a : Act} {w : World} {Q : Exit → Act → World → Prop} (hgd : o.guard = none) (s x : Operand) (st et : TypeId)
    (ho : o.op = .call { callee := .builtin .append, args := #[s, x], argTypes := #[st, st] }) (B : Nat) {z : Value} {size bytes : Nat} (hu : Tryz.prog.underlying st = some (.slice et)) (ht : (Tryz.prog.info? et).map (fun i => (i.zero, i.size, i.bytes)) = some (some z, size, bytes)) (hz : z.cells.size = size) (hp : 0 < size)
    (v : Value) (k : Nat) (l : List Value) (news : List Value) (b m c : Nat) (hs : a.eval s = v)
    (hown : w.ownsRow B et size v k l) (hx : a.eval x = .slice (some ⟨b, 0, none⟩) m c) (hc : Bx w b news) (hn : news.length = m * size) (h1 : ∀ u ∈ news, u.oneCell' = true) (hl : k + m ≤ 100000) (hy : bytes ≤ 1000) (hb : B ≤ w.heap.size)
    (h : ∀ v' w', w'.ownsRow B et size v' (k + m) (l ++ news) → w.grownBy w' v.ownBlock → Below B w w' → B ≤ w'.heap.size → wpList Tryz.prog ops Q rest (a.put o.dst v') w') : wpList Tryz.prog ops Q (o :: rest) a w := by
  obtain ⟨i0, hi, hz0, hz1, hz2⟩ := info_parts ht
  refine wpList_append_own _ hgd s x st ho B et i0 z size bytes hu hi hz0 hz1 hz2 hz hp v _ _ hs hown ⟨b, 0, none⟩ m c news hx hn ?_ h1 ?_ ?_ hb ?_
  · intro j u hj
    have e : (⟨b, 0, none⟩ : Addr).add j = ⟨b, j, none⟩ := by simp [Addr.add]; omega
    rw [e]
    exact hc.get j u hj
  · unfold maxLen; omega
  · have h3 : (k + m) * bytes ≤ 100000 * 1000 := Nat.mul_le_mul hl hy
    omega
  · intro v' w' h1 h2 _
    exact h v' w' h1 h2 (grown_below hown h2 hb) (Nat.le_trans hb h2.size)
theorem own_empty (W : World) (t : TypeId) (s : Nat) : (W.alloc (.cells #[] t)).ownsRow W.heap.size t s (.slice (some ⟨W.heap.size, 0, none⟩) 0 0) 0 [] := by
  refine ⟨by simp, .inr ⟨W.heap.size, 0, #[], rfl, Nat.le_refl _, Array.getElem?_push_size, Nat.le_refl _, Nat.zero_le _, by simp, by simp⟩⟩
set_option maxRecDepth 100000 in
set_option maxHeartbeats 1000000 in
theorem clone_one (g c : Nat) (n : Int) (w : World) (h : Bx w g [.int .i64 n]) : Calls Tryz.prog 26 #[.slice (some ⟨g, 0, none⟩) 1 c] w fun e w' => ∃ b d, e = .returned (.slice (some ⟨b, 0, none⟩) 1 d) ∧ w.heap.size ≤ b ∧ Bx w' b [.int .i64 n] ∧ Below w.heap.size w w' := by
  have HX := Lib.hid h
  clear h
  have he := fun W => @Lib.run_eql_slice_nil Tryz.prog W
  go_enter Tryz.func26, Tryz.ntmps26
  go_wp2_with (at_builtin; refine push_from rfl _ _ _ 3 rfl w.heap.size Tryz.underlying23 tinfo3 rfl (by decide) _ 0 [] [.int .i64 n] g 1 c rfl (own_empty w _ 1) rfl (HX.out.alloc _) rfl (by simp [Value.oneCell']) (by omega) (by decide) (by rw [World.size_alloc]; omega) ?_; intro v' w9 hown' hgr hB hs9; obtain ⟨b, d, rfl, hb, hx9⟩ := row_bx hown' (by decide) rfl; have HX9 := Lib.hid hx9; have HB9 := Lib.hid ((bbox1 w (.cells #[] 3)).trans hB); clear hown' hgr hB hx9)
  go_ret
  exact ⟨b, d, rfl, hb, HX9.out, HB9.out⟩
end Go.Proofs.YticdmepplfgdiaaGreatDoor
