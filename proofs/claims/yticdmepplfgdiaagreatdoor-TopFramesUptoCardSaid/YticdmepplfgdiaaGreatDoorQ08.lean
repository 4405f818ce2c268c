/-
  What the comparisons of prio compute: cmp.Compare of two numbers, prio.first of four, prio.Compare. Conditions: none.
-/
import Derived.Deep.RegionHeld3
import Derived.Test.YticdmepplfgdiaaGreatDoorQ03
set_option linter.unusedVariables false
set_option linter.unusedSimpArgs false
namespace Go.Proofs.YticdmepplfgdiaaGreatDoor
open Go.RowKit
/-- which of two numbers is less -/
def cmpI (x y : Int) : Int := if x < y then -1 else if y < x then 1 else 0
/-- the first one that is not 0 -/
def first4 (a b c d : Int) : Int := if a ≠ 0 then a else if b ≠ 0 then b else if c ≠ 0 then c else d
/-- what a bridge tells: api.Vector -/
structure Vec where
  root : Int
  cost : Int
  bridge : Int
  port : Int
  deriving DecidableEq
def Vec.val (v : Vec) : Value := .agg #[.int .u64 v.root, .int .i64 v.cost, .int .u64 v.bridge, .int .i64 v.port]
def vcmp (a b : Vec) : Int := first4 (cmpI a.root b.root) (cmpI a.cost b.cost) (cmpI a.bridge b.bridge) (cmpI a.port b.port)
set_option maxRecDepth 100000 in
set_option maxHeartbeats 1000000 in
theorem cmp_u64 (x y : Int) (w : World) : Calls Tryz.prog 170 #[.int .u64 x, .int .u64 y] w fun e w' => e = .returned (.int .i64 (cmpI x y)) ∧ w' = w := by
  have HN : ∀ (z : Int) (W : World), Calls Tryz.prog 235 #[.int .u64 z] W fun e w' => e = .returned (.bool false) ∧ w' = W := by
    intro z W
    go_enter Tryz.func235, Tryz.ntmps235
    go_wp2
    go_ret
    exact ⟨by simp, rfl⟩
  have HN := Lib.hid HN
  have hc : (decide (x < y) = true ∧ cmpI x y = -1) ∨ (decide (x < y) = false ∧ decide (y < x) = true ∧ cmpI x y = 1) ∨ (decide (x < y) = false ∧ decide (y < x) = false ∧ cmpI x y = 0) := by
    unfold cmpI
    by_cases h1 : x < y
    · exact .inl ⟨decide_eq_true h1, by rw [if_pos h1]⟩
    · by_cases h2 : y < x
      · exact .inr (.inl ⟨decide_eq_false h1, decide_eq_true h2, by rw [if_neg h1, if_pos h2]⟩)
      · exact .inr (.inr ⟨decide_eq_false h1, decide_eq_false h2, by rw [if_neg h1, if_neg h2]⟩)
  go_enter Tryz.func170, Tryz.ntmps170
  rcases hc with ⟨c1, e⟩ | ⟨c1, c2, e⟩ | ⟨c1, c2, e⟩
  all_goals
    rw [e]
    clear e
    go_wp2_with ((with_reducible refine (HN.out _ _).mono ?_); rintro e w1 ⟨rfl, rfl⟩)
    go_ret
    exact ⟨rfl, rfl⟩
set_option maxRecDepth 100000 in
set_option maxHeartbeats 1000000 in
theorem cmp_int (x y : Int) (w : World) : Calls Tryz.prog 171 #[.int .i64 x, .int .i64 y] w fun e w' => e = .returned (.int .i64 (cmpI x y)) ∧ w' = w := by
  have HN : ∀ (z : Int) (W : World), Calls Tryz.prog 236 #[.int .i64 z] W fun e w' => e = .returned (.bool false) ∧ w' = W := by
    intro z W
    go_enter Tryz.func236, Tryz.ntmps236
    go_wp2
    go_ret
    exact ⟨by simp, rfl⟩
  have HN := Lib.hid HN
  have hc : (decide (x < y) = true ∧ cmpI x y = -1) ∨ (decide (x < y) = false ∧ decide (y < x) = true ∧ cmpI x y = 1) ∨ (decide (x < y) = false ∧ decide (y < x) = false ∧ cmpI x y = 0) := by
    unfold cmpI
    by_cases h1 : x < y
    · exact .inl ⟨decide_eq_true h1, by rw [if_pos h1]⟩
    · by_cases h2 : y < x
      · exact .inr (.inl ⟨decide_eq_false h1, decide_eq_true h2, by rw [if_neg h1, if_pos h2]⟩)
      · exact .inr (.inr ⟨decide_eq_false h1, decide_eq_false h2, by rw [if_neg h1, if_neg h2]⟩)
  go_enter Tryz.func171, Tryz.ntmps171
  rcases hc with ⟨c1, e⟩ | ⟨c1, c2, e⟩ | ⟨c1, c2, e⟩
  all_goals
    rw [e]
    clear e
    go_wp2_with ((with_reducible refine (HN.out _ _).mono ?_); rintro e w1 ⟨rfl, rfl⟩)
    go_ret
    exact ⟨rfl, rfl⟩
theorem four_cells {w : World} {g : Nat} {a b c d : Int} (h0 : w.cell? ⟨g, 0, none⟩ = some (.int .i64 a)) (h1 : w.cell? ⟨g, 1, none⟩ = some (.int .i64 b)) (h2 : w.cell? ⟨g, 2, none⟩ = some (.int .i64 c)) (h3 : w.cell? ⟨g, 3, none⟩ = some (.int .i64 d)) (k : Nat) (hk : k < 4) :
    w.cell? ⟨g, k, none⟩ = some (.int .i64 (([a, b, c, d] : List Int).getD k 0)) := by
  rcases (by omega : k = 0 ∨ k = 1 ∨ k = 2 ∨ k = 3) with rfl | rfl | rfl | rfl
  · exact h0
  · exact h1
  · exact h2
  · exact h3
theorem first4_at {a b c d : Int} {k : Nat} (hk : k < 4) (h : ∀ j, j < k → ([a, b, c, d] : List Int).getD j 0 = 0) (hn : ([a, b, c, d] : List Int).getD k 0 ≠ 0) : first4 a b c d = ([a, b, c, d] : List Int).getD k 0 := by
  unfold first4
  rcases (by omega : k = 0 ∨ k = 1 ∨ k = 2 ∨ k = 3) with rfl | rfl | rfl | rfl
  · have e : a ≠ 0 := hn
    rw [if_pos e]; rfl
  · have e0 : a = 0 := h 0 (by omega)
    have e : b ≠ 0 := hn
    rw [if_neg (not_not_intro e0), if_pos e]; rfl
  · have e0 : a = 0 := h 0 (by omega)
    have e1 : b = 0 := h 1 (by omega)
    have e : c ≠ 0 := hn
    rw [if_neg (not_not_intro e0), if_neg (not_not_intro e1), if_pos e]; rfl
  · have e0 : a = 0 := h 0 (by omega)
    have e1 : b = 0 := h 1 (by omega)
    have e2 : c = 0 := h 2 (by omega)
    rw [if_neg (not_not_intro e0), if_neg (not_not_intro e1), if_neg (not_not_intro e2)]; rfl
theorem first4_none {a b c d : Int} (h : ∀ j, j < 4 → ([a, b, c, d] : List Int).getD j 0 = 0) : first4 a b c d = 0 := by
  have e0 : a = 0 := h 0 (by omega)
  have e1 : b = 0 := h 1 (by omega)
  have e2 : c = 0 := h 2 (by omega)
  have e3 : d = 0 := h 3 (by omega)
  unfold first4
  rw [if_neg (not_not_intro e0), if_neg (not_not_intro e1), if_neg (not_not_intro e2), e3]
set_option maxRecDepth 100000 in
set_option maxHeartbeats 1000000 in
theorem first_any (a b c d r : Int) (hr : first4 a b c d = r) (g : Nat) (w : World) (h0 : w.cell? ⟨g, 0, none⟩ = some (.int .i64 a)) (h1 : w.cell? ⟨g, 1, none⟩ = some (.int .i64 b)) (h2 : w.cell? ⟨g, 2, none⟩ = some (.int .i64 c)) (h3 : w.cell? ⟨g, 3, none⟩ = some (.int .i64 d)) :
    Calls Tryz.prog 169 #[.slice (some ⟨g, 0, none⟩) 4 4] w fun e w' => e = .returned (.int .i64 r) ∧ w' = w := by
  have HC := Lib.hid (four_cells h0 h1 h2 h3)
  have HR := Lib.hid hr
  clear h0 h1 h2 h3 hr
  go_enter Tryz.func169, Tryz.ntmps169
  go_wp2
  go_loopw [2, 5, 8] (fun z _ i wr => ∃ k : Nat, k ≤ 4 ∧ z = .int .i64 0 ∧ i = .int .i64 k ∧ Hid (∀ j, j < k → ([a, b, c, d] : List Int).getD j 0 = 0) ∧ wr = w) (fun _ _ i _ => 5 - (intOf i).toNat)
  case atStart => exact ⟨0, Nat.zero_le _, rfl, rfl, fun j hj => absurd hj (Nat.not_lt_zero _), rfl⟩
  case round =>
    obtain ⟨k, hk, rfl, rfl, hno, rfl⟩ := hrel
    by_cases hlt : k < 4
    · have hck := HC.out k hlt
      obtain ⟨x, ex⟩ : ∃ x, x = ([a, b, c, d] : List Int).getD k 0 := ⟨_, rfl⟩
      rw [← ex] at hck
      rcases hq : (x != 0) with _ | _
      · have hx : x = 0 := by simpa using hq
        have hne : ∀ j, j < k + 1 → ([a, b, c, d] : List Int).getD j 0 = 0 := fun j hj => by
          rcases Nat.lt_succ_iff_lt_or_eq.1 hj with h2 | rfl
          · exact hno.out j h2
          · rw [← ex]; exact hx
        have HN := Lib.hid hne
        clear hne ex hx
        go_wp2
        refine ⟨⟨k + 1, by omega, rfl, by go_num, HN, trivial⟩, ?_⟩
        simp [intOf]; omega
      · have hx : x ≠ 0 := by simpa using hq
        have hf : x = r := by rw [← HR.out, first4_at hlt hno.out (by rw [← ex]; exact hx), ex]
        have HF := Lib.hid hf
        clear ex hx hf
        go_wp2
        go_ret
        exact ⟨ret_int HF.out, rfl⟩
    · have e4 : k = 4 := by omega
      subst e4
      have hf : (0 : Int) = r := by rw [← HR.out, first4_none hno.out]
      have HF := Lib.hid hf
      clear hf
      go_wp2
      go_ret
      exact ⟨ret_int HF.out, rfl⟩
theorem b2 (w : World) (o o2 : Obj) : Below w.heap.size w ((w.alloc o).alloc o2).drew := ((bbox1 _ _).alloc (bbox1 _ _).size _).drew
theorem b3 (w : World) (o o2 o3 : Obj) : Below w.heap.size w (((w.alloc o).alloc o2).alloc o3).drew := (((bbox1 _ _).alloc (bbox1 _ _).size _).alloc ((bbox1 _ _).alloc (bbox1 _ _).size _).size _).drew
set_option maxRecDepth 100000 in
set_option maxHeartbeats 1000000 in
theorem compare_any (a b : Vec) (r : Int) (hr : vcmp a b = r) (w : World) : Calls Tryz.prog 106 #[.agg #[.int .u64 a.root, .int .i64 a.cost, .int .u64 a.bridge, .int .i64 a.port], .agg #[.int .u64 b.root, .int .i64 b.cost, .int .u64 b.bridge, .int .i64 b.port]] w fun e w' => e = .returned (.int .i64 r) ∧ Below w.heap.size w w' := by
  have HU := Lib.hid cmp_u64
  have HI := Lib.hid cmp_int
  have hr : first4 (cmpI a.root b.root) (cmpI a.cost b.cost) (cmpI a.bridge b.bridge) (cmpI a.port b.port) = r := hr
  have HR := Lib.hid hr
  clear hr
  go_enter Tryz.func106, Tryz.ntmps106
  go_upto_region 1 with fail
  go_region_held3 (fun w' => w'.cell? ⟨w.heap.size, 0, none⟩ = some (.int .u64 a.root) ∧ w'.cell? ⟨w.heap.size, 1, none⟩ = some (.int .i64 a.cost) ∧ w'.cell? ⟨w.heap.size, 2, none⟩ = some (.int .u64 a.bridge) ∧ w'.cell? ⟨w.heap.size, 3, none⟩ = some (.int .i64 a.port) ∧ w'.cell? ⟨w.heap.size + 1, 0, none⟩ = some (.int .u64 b.root) ∧ w'.cell? ⟨w.heap.size + 1, 1, none⟩ = some (.int .i64 b.cost) ∧ w'.cell? ⟨w.heap.size + 1, 2, none⟩ = some (.int .u64 b.bridge) ∧ w'.cell? ⟨w.heap.size + 1, 3, none⟩ = some (.int .i64 b.port) ∧ Below w.heap.size w w') (exact ⟨by go_simp, by go_simp, by go_simp, by go_simp, by go_simp, by go_simp, by go_simp, by go_simp, by first | exact b2 _ _ _ | exact b3 _ _ _ _⟩) (first | (go_at_call 170; (with_reducible refine (HU.out _ _ _).mono ?_); rintro e w1 ⟨rfl, rfl⟩) | (go_at_call 171; (with_reducible refine (HI.out _ _ _).mono ?_); rintro e w2 ⟨rfl, rfl⟩) | (go_at_call 169; (with_reducible refine (first_any _ _ _ _ r HR.out _ _ ?_ ?_ ?_ ?_).mono ?_); (· go_simp); (· go_simp); (· go_simp); (· go_simp); rintro e w3 ⟨rfl, rfl⟩))
  go_wp2
  go_ret
  exact ⟨rfl, by first | exact b3 _ _ _ _ | exact (b3 _ _ _ _).drew | skip⟩
end Go.Proofs.YticdmepplfgdiaaGreatDoor
