/-
  What forward.Flood computes where two ports are open and members: the other one. Conditions: just that.
-/
import Derived.Test.YticdmepplfgdiaaGreatDoorQ04
import Derived.Test.YticdmepplfgdiaaGreatDoorQ18
import Derived.Test.YticdmepplfgdiaaGreatDoorQ03
import Derived.Test.YticdmepplfgdiaaGreatDoorQ22
set_option linter.unusedVariables false
set_option linter.unusedSimpArgs false
namespace Go.Proofs.YticdmepplfgdiaaGreatDoor
open Go.RowKit
set_option maxRecDepth 100000 in
set_option maxHeartbeats 1000000 in
theorem mayflood (nb : Nat) (k p : Int) (mv : Value) (hp : (0 : Int) = p ∨ 1 = p) (w : World) (hv : Ints w mv [0, 1]) (c0 : w.cell? ⟨nb, 0, none⟩ = some (.int .i64 k)) (c1 : w.cell? ⟨nb, 1, none⟩ = some mv) (x : Bool) (hx : (p != k) = x) :
    Calls Tryz.prog 186 #[.int .i64 p, .pointer (some ⟨nb, 0, none⟩)] w fun e w' => e = .returned (.bool x) ∧ w' = w := by
  have HC := Lib.hid (contains_any mv [0, 1] p true (iff_of_true rfl (by rcases hp with rfl | rfl <;> simp)) (by decide) w hv)
  clear hv hp
  rcases x with _ | _
  all_goals
    go_enter Tryz.func186, Tryz.ntmps186
    go_wp2_with (go_at_call 93; (with_reducible refine HC.out.mono ?_); rintro e w1 ⟨rfl, hq⟩; subst hq)
    go_ret
    exact ⟨rfl, rfl⟩
/-- what is known of where a frame may go, where no router is known -/
def caseV (k : Int) (mv ov rv : Value) : List Value := [.int .i64 k, mv, ov, rv, .slice none 0 0, .bool false, .bool false, .bool false, .bool false, .bool false]
def seenE (k : Int) : Array MapEntry := #[{ key := .int .i64 k, val := .bool true, born := 0 }]
theorem int_key (W : World) (v : Int) (b : Bool) : (Instr.checkKey b 10000 3 (.int .i64 v)).run Tryz.prog W = .ok () W := by kernel_rfl
theorem seen_10 (W : World) : (Instr.findKey 3 (.int .i64 1) (seenE 0).toList).run Tryz.prog W = .ok none W := by kernel_rfl
theorem seen_no (W : World) (p : Int) : (Instr.findKey 3 (.int .i64 p) (#[] : Array MapEntry).toList).run Tryz.prog W = .ok none W := by kernel_rfl
set_option maxRecDepth 100000 in
set_option maxHeartbeats 4000000 in
theorem which_0 (nb ob oc : Nat) (mv rv : Value) (w : World) (ho : Bx w ob [.int .i64 0, .int .i64 1]) (hv : Ints w mv [0, 1]) (hc : Bx w nb (caseV 0 mv (.slice (some ⟨ob, 0, none⟩) 2 oc) rv)) :
    Calls Tryz.prog 185 #[.slice (some ⟨ob, 0, none⟩) 2 oc, .func (.func 186) #[] #[.pointer (some ⟨nb, 0, none⟩)]] w fun e w' => ∃ v, e = .returned v ∧ w'.ownsRow (w.heap.size + 1) 3 1 v 1 [.int .i64 1] ∧ Below w.heap.size w w' := by
  have hmm := @run_makeMap Tryz.prog
  have HF0 := Lib.hid (fun (W : World) (g : Below w.heap.size w W) => mayflood nb 0 0 mv (.inl rfl) W (hv.below g) ((hc.below g).get 0 _ rfl) ((hc.below g).get 1 _ rfl) false (by decide))
  have HF1 := Lib.hid (fun (W : World) (g : Below w.heap.size w W) => mayflood nb 0 1 mv (.inr rfl) W (hv.below g) ((hc.below g).get 0 _ rfl) ((hc.below g).get 1 _ rfl) true (by decide))
  have HO := Lib.hid ho
  clear ho hv hc
  go_enter Tryz.func185, Tryz.ntmps185
  go_upto_region 4 with fail
  have G1 := Lib.hid (bbox1 w (.map #[] 0))
  have M1 : (w.alloc (.map #[] 0)).heap[w.heap.size]? = some (.map #[] 0) := Array.getElem?_push_size
  have hs1 : (w.alloc (.map #[] 0)).heap.size = w.heap.size + 1 := World.size_alloc ..
  obtain ⟨w1, hw1⟩ : ∃ W, w.alloc (.map #[] 0) = W := ⟨_, rfl⟩
  change Code.wp _ _ _ _ (w.alloc (.map #[] 0))
  rw [hw1] at G1 M1 hs1 ⊢
  obtain ⟨n0, hn0⟩ : ∃ n, w.heap.size = n := ⟨_, rfl⟩
  rw [hn0] at M1 hs1 ⊢
  clear hw1
  go_loopw [6, 8, 12] (fun l _ i wr => ∃ j : Nat, j ≤ 2 ∧ i = .int .i64 j ∧ Below w.heap.size w wr ∧ n0 + 1 ≤ wr.heap.size ∧ (j ≤ 1 → wr.heap[n0]? = some (.map #[] 0) ∧ l = .slice none 0 0) ∧ (1 < j → wr.heap[n0]? = some (.map (seenE 1) 1) ∧ wr.ownsRow (n0 + 1) 3 1 l 1 [.int .i64 1])) (fun _ _ i _ => 3 - (intOf i).toNat)
  case atStart => exact ⟨0, Nat.zero_le _, rfl, G1.out, by omega, fun _ => ⟨M1, rfl⟩, fun h => absurd h (by omega)⟩
  case round =>
    obtain ⟨j, hj, rfl, bel, hsz, hA, hB⟩ := hrel
    have HO1 := HO.out.below bel
    have o0 := HO1.get 0 _ rfl
    have o1 := HO1.get 1 _ rfl
    have HBl := Lib.hid bel
    clear HO1 bel
    rcases (by omega : j = 0 ∨ j = 1 ∨ j = 2) with rfl | rfl | rfl
    · obtain ⟨m, rfl⟩ := hA (by omega)
      have lk : (Instr.lookup 268 (.map (some n0)) (.int .i64 0) false).run Tryz.prog wr = .ok (.bool false) wr := lookup_miss Tryz.underlying268 m (int_key wr 0) (seen_no wr 0) (Tryz.zeroValue4 wr)
      have HF := Lib.hid (HF0.out wr HBl.out)
      have HM := Lib.hid m
      clear m hA hB
      go_wp2_with (go_at_call 186; (with_reducible refine HF.out.mono ?_); rintro e w3 ⟨rfl, hq⟩; subst hq)
      refine ⟨⟨1, by omega, by go_num, HBl.out, hsz, fun _ => ⟨HM.out, rfl⟩, fun h => absurd h (by omega)⟩, ?_⟩
      simp [intOf]
    · obtain ⟨m, rfl⟩ := hA (by omega)
      have lk : (Instr.lookup 268 (.map (some n0)) (.int .i64 1) false).run Tryz.prog wr = .ok (.bool false) wr := lookup_miss Tryz.underlying268 m (int_key wr 1) (seen_no wr 1) (Tryz.zeroValue4 wr)
      have HF := Lib.hid (HF1.out wr HBl.out)
      have up : (Instr.mapUpdate 268 (.map (some n0)) (.int .i64 1) (.bool true)).run Tryz.prog wr = .ok () (World.laid wr n0 (.map (seenE 1) 1)) := update_new Tryz.underlying268 m (int_key wr 1) (seen_no wr 1) _
      have LB := Lib.hid (laid_beside wr n0 (.map (seenE 1) 1))
      have LS := Lib.hid (laid_same (W := wr) (r := n0) (o := .map (seenE 1) 1) (by omega))
      have hsl := Lib.hid (show (World.laid wr n0 (.map (seenE 1) 1)).heap.size = wr.heap.size by show (wr.heap.setIfInBounds _ _).size = _; simp)
      clear m hA hB
      go_wp2_with (first
        | (go_at_call 186; (with_reducible refine HF.out.mono ?_); rintro e w3 ⟨rfl, hq⟩; subst hq)
        | (at_builtin; refine push_any rfl _ _ _ 3 rfl (n0 + 1) Tryz.underlying23 tinfo3 rfl (by decide) (.slice none 0 0) 0 [] [.int .i64 1] _ rfl (World.ownsRow_nil _ _ _ _) rfl (Bx.new _ _ _) rfl (by simp [Value.oneCell']) (by omega) (by decide) (by rw [World.size_alloc, hsl.out]; omega) ?_; intro v4 w4 hown4 hgr4 hB4 hs4))
      have h5 : Below w.heap.size w (World.laid w3 n0 (.map (seenE 1) 1)) := HBl.out.trans (LB.out.to_below (by omega) (fun x hx => by rw [List.mem_singleton.1 hx]; omega))
      have h6 : Below w.heap.size w ((World.laid w3 n0 (.map (seenE 1) 1)).alloc (.cells #[.int .i64 1] 3)) := ball1 h5 _
      refine ⟨⟨2, by omega, by go_num, h6.trans (hB4.mono (by omega)), hs4, fun h => absurd h (by omega), fun _ => ⟨(hB4.block n0 (by omega)).trans (((bbox1 _ _).block n0 (by rw [hsl.out]; omega)).trans LS.out), hown4⟩⟩, ?_⟩
      simp [intOf]
    · obtain ⟨m, own⟩ := hB (by omega)
      obtain ⟨a, cp, rfl⟩ : ∃ a cp, _ = Value.slice a 1 cp := by
        obtain ⟨g, cp, hv, -, -⟩ := row_bx own (by decide) rfl
        exact ⟨_, cp, hv⟩
      have HW := Lib.hid own
      have HS := Lib.hid (sort_one a cp wr)
      clear m own hA hB
      go_wp2_with (go_at_call 87; (with_reducible refine HS.out.mono ?_); rintro e w3 ⟨rfl, hq⟩; subst hq)
      go_ret
      exact ⟨_, rfl, by rw [hn0]; exact HW.out, HBl.out⟩
set_option maxRecDepth 100000 in
set_option maxHeartbeats 4000000 in
theorem which_1 (nb ob oc : Nat) (mv rv : Value) (w : World) (ho : Bx w ob [.int .i64 0, .int .i64 1]) (hv : Ints w mv [0, 1]) (hc : Bx w nb (caseV 1 mv (.slice (some ⟨ob, 0, none⟩) 2 oc) rv)) :
    Calls Tryz.prog 185 #[.slice (some ⟨ob, 0, none⟩) 2 oc, .func (.func 186) #[] #[.pointer (some ⟨nb, 0, none⟩)]] w fun e w' => ∃ v, e = .returned v ∧ w'.ownsRow (w.heap.size + 1) 3 1 v 1 [.int .i64 0] ∧ Below w.heap.size w w' := by
  have hmm := @run_makeMap Tryz.prog
  have HF0 := Lib.hid (fun (W : World) (g : Below w.heap.size w W) => mayflood nb 1 0 mv (.inl rfl) W (hv.below g) ((hc.below g).get 0 _ rfl) ((hc.below g).get 1 _ rfl) true (by decide))
  have HF1 := Lib.hid (fun (W : World) (g : Below w.heap.size w W) => mayflood nb 1 1 mv (.inr rfl) W (hv.below g) ((hc.below g).get 0 _ rfl) ((hc.below g).get 1 _ rfl) false (by decide))
  have HO := Lib.hid ho
  clear ho hv hc
  go_enter Tryz.func185, Tryz.ntmps185
  go_upto_region 4 with fail
  have G1 := Lib.hid (bbox1 w (.map #[] 0))
  have M1 : (w.alloc (.map #[] 0)).heap[w.heap.size]? = some (.map #[] 0) := Array.getElem?_push_size
  have hs1 : (w.alloc (.map #[] 0)).heap.size = w.heap.size + 1 := World.size_alloc ..
  obtain ⟨w1, hw1⟩ : ∃ W, w.alloc (.map #[] 0) = W := ⟨_, rfl⟩
  change Code.wp _ _ _ _ (w.alloc (.map #[] 0))
  rw [hw1] at G1 M1 hs1 ⊢
  obtain ⟨n0, hn0⟩ : ∃ n, w.heap.size = n := ⟨_, rfl⟩
  rw [hn0] at M1 hs1 ⊢
  clear hw1
  go_loopw [6, 8, 12] (fun l _ i wr => ∃ j : Nat, j ≤ 2 ∧ i = .int .i64 j ∧ Below w.heap.size w wr ∧ n0 + 1 ≤ wr.heap.size ∧ (j ≤ 0 → wr.heap[n0]? = some (.map #[] 0) ∧ l = .slice none 0 0) ∧ (0 < j → wr.heap[n0]? = some (.map (seenE 0) 1) ∧ wr.ownsRow (n0 + 1) 3 1 l 1 [.int .i64 0])) (fun _ _ i _ => 3 - (intOf i).toNat)
  case atStart => exact ⟨0, Nat.zero_le _, rfl, G1.out, by omega, fun _ => ⟨M1, rfl⟩, fun h => absurd h (by omega)⟩
  case round =>
    obtain ⟨j, hj, rfl, bel, hsz, hA, hB⟩ := hrel
    have HO1 := HO.out.below bel
    have o0 := HO1.get 0 _ rfl
    have o1 := HO1.get 1 _ rfl
    have HBl := Lib.hid bel
    clear HO1 bel
    rcases (by omega : j = 0 ∨ j = 1 ∨ j = 2) with rfl | rfl | rfl
    · obtain ⟨m, rfl⟩ := hA (by omega)
      have lk : (Instr.lookup 268 (.map (some n0)) (.int .i64 0) false).run Tryz.prog wr = .ok (.bool false) wr := lookup_miss Tryz.underlying268 m (int_key wr 0) (seen_no wr 0) (Tryz.zeroValue4 wr)
      have HF := Lib.hid (HF0.out wr HBl.out)
      have up : (Instr.mapUpdate 268 (.map (some n0)) (.int .i64 0) (.bool true)).run Tryz.prog wr = .ok () (World.laid wr n0 (.map (seenE 0) 1)) := update_new Tryz.underlying268 m (int_key wr 0) (seen_no wr 0) _
      have LB := Lib.hid (laid_beside wr n0 (.map (seenE 0) 1))
      have LS := Lib.hid (laid_same (W := wr) (r := n0) (o := .map (seenE 0) 1) (by omega))
      have hsl := Lib.hid (show (World.laid wr n0 (.map (seenE 0) 1)).heap.size = wr.heap.size by show (wr.heap.setIfInBounds _ _).size = _; simp)
      clear m hA hB
      go_wp2_with (first
        | (go_at_call 186; (with_reducible refine HF.out.mono ?_); rintro e w3 ⟨rfl, hq⟩; subst hq)
        | (at_builtin; refine push_any rfl _ _ _ 3 rfl (n0 + 1) Tryz.underlying23 tinfo3 rfl (by decide) (.slice none 0 0) 0 [] [.int .i64 0] _ rfl (World.ownsRow_nil _ _ _ _) rfl (Bx.new _ _ _) rfl (by simp [Value.oneCell']) (by omega) (by decide) (by rw [World.size_alloc, hsl.out]; omega) ?_; intro v4 w4 hown4 hgr4 hB4 hs4))
      have h5 : Below w.heap.size w (World.laid w3 n0 (.map (seenE 0) 1)) := HBl.out.trans (LB.out.to_below (by omega) (fun x hx => by rw [List.mem_singleton.1 hx]; omega))
      have h6 : Below w.heap.size w ((World.laid w3 n0 (.map (seenE 0) 1)).alloc (.cells #[.int .i64 0] 3)) := ball1 h5 _
      refine ⟨⟨1, by omega, by go_num, h6.trans (hB4.mono (by omega)), hs4, fun h => absurd h (by omega), fun _ => ⟨(hB4.block n0 (by omega)).trans (((bbox1 _ _).block n0 (by rw [hsl.out]; omega)).trans LS.out), hown4⟩⟩, ?_⟩
      simp [intOf]
    · obtain ⟨m, own⟩ := hB (by omega)
      have lk : (Instr.lookup 268 (.map (some n0)) (.int .i64 1) false).run Tryz.prog wr = .ok (.bool false) wr := lookup_miss Tryz.underlying268 m (int_key wr 1) (seen_10 wr) (Tryz.zeroValue4 wr)
      have HF := Lib.hid (HF1.out wr HBl.out)
      have HM := Lib.hid m
      have HW := Lib.hid own
      clear m own hA hB
      go_wp2_with (go_at_call 186; (with_reducible refine HF.out.mono ?_); rintro e w3 ⟨rfl, hq⟩; subst hq)
      refine ⟨⟨2, by omega, by go_num, HBl.out, hsz, fun h => absurd h (by omega), fun _ => ⟨HM.out, HW.out⟩⟩, ?_⟩
      simp [intOf]
    · obtain ⟨m, own⟩ := hB (by omega)
      obtain ⟨a, cp, rfl⟩ : ∃ a cp, _ = Value.slice a 1 cp := by
        obtain ⟨g, cp, hv, -, -⟩ := row_bx own (by decide) rfl
        exact ⟨_, cp, hv⟩
      have HW := Lib.hid own
      have HS := Lib.hid (sort_one a cp wr)
      clear m own hA hB
      go_wp2_with (go_at_call 87; (with_reducible refine HS.out.mono ?_); rintro e w3 ⟨rfl, hq⟩; subst hq)
      go_ret
      exact ⟨_, rfl, by rw [hn0]; exact HW.out, HBl.out⟩
end Go.Proofs.YticdmepplfgdiaaGreatDoor
