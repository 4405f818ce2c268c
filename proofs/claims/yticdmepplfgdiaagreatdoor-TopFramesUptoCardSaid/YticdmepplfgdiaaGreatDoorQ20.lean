/-
  A tree's part in memory; what rstp's at, active and drop compute, of two ports. Conditions: none. What rstp's Role, Learns, Forwards, Changed and Link compute, of two ports. Conditions: the port is there. What rstp.New computes, of two ports that cost 10. Conditions: just that. What the switch's settle computes, where no station is known. Conditions: two ports. A switch's parts in memory, of two ports in one VLAN, where nothing is known of groups and stations. Conditions: none.
-/
import Derived.BigRegion
import Derived.Test.YticdmepplfgdiaaGreatDoorQ17
import Derived.Test.YticdmepplfgdiaaGreatDoorQ03
set_option linter.unusedVariables false
set_option linter.unusedSimpArgs false
section
namespace Go.Proofs.YticdmepplfgdiaaGreatDoor
open Go.RowKit
/-- what is known of a port -/
structure Prt where
  cost : Int
  role : Int
  since : Int
  up : Bool
  keeps : Bool
  fwd : Bool
  kept : Vec
  age : Int
  chg : Bool
  lrn : Bool
  kfwd : Bool
  at_ : Int
  deriving DecidableEq
def Prt.cells (p : Prt) : List Value := [.int .i64 p.cost, .int .i64 p.role, .int .i64 p.since, .bool p.up, .bool p.keeps, .bool p.fwd, .int .u64 p.kept.root, .int .i64 p.kept.cost, .int .u64 p.kept.bridge, .int .i64 p.kept.port, .int .i64 p.age, .bool p.chg, .bool p.lrn, .bool p.kfwd, .int .i64 p.at_]
/-- a bridge's part in a tree, of two ports -/
structure Tre where
  bridge : Int
  p0 : Prt
  p1 : Prt
  now : Int
  root : Int
  change : Int
  best : Vec
  deriving DecidableEq
def Tre.cells (T : Tre) (p cap : Nat) : List Value := [.int .u64 T.bridge, .slice (some ⟨p, 0, none⟩) 2 cap, .int .i64 T.now, .int .i64 T.root, .int .i64 T.change, .int .u64 T.best.root, .int .i64 T.best.cost, .int .u64 T.best.bridge, .int .i64 T.best.port]
def TreeAt (W : World) (t p cap : Nat) (T : Tre) : Prop := Bx W t (T.cells p cap) ∧ Bx W p (T.p0.cells ++ T.p1.cells) ∧ t ≠ p
theorem TreeAt.beside {S : List Nat} {W W' : World} {t p cap : Nat} {T : Tre} (h : TreeAt W t p cap T) (g : Beside S W W') (ht : t ∉ S) (hp : p ∉ S) : TreeAt W' t p cap T := ⟨h.1.beside g ht, h.2.1.beside g hp, h.2.2⟩
theorem TreeAt.below {W W' : World} {t p cap : Nat} {T : Tre} (h : TreeAt W t p cap T) (g : Below W.heap.size W W') : TreeAt W' t p cap T := ⟨h.1.below g, h.2.1.below g, h.2.2⟩
/-- where a port is found: the first cell, or nothing -/
def atOf (p : Nat) (i now : Int) : Value :=
  if now < 0 ∨ 1099511627776 < now ∨ i < 0 ∨ 2 ≤ i then .pointer none else .pointer (some ⟨p, i.toNat * 15, none⟩)
set_option maxRecDepth 100000 in
set_option maxHeartbeats 1000000 in
theorem at_any (t p cap : Nat) (T : Tre) (i now : Int) (w : World) (h : TreeAt w t p cap T) :
    Calls Tryz.prog 94 #[.pointer (some ⟨t, 0, none⟩), .int .i64 i, .int .i64 now] w fun e w' => e = .returned (atOf p i now) ∧ w' = w := by
  have c1 := h.1.get 1 _ rfl
  clear h
  have hc : (decide (now < 0) = true ∧ atOf p i now = .pointer none) ∨ (decide (now < 0) = false ∧ decide (1099511627776 < now) = true ∧ atOf p i now = .pointer none) ∨ (decide (now < 0) = false ∧ decide (1099511627776 < now) = false ∧ decide (i < 0) = true ∧ atOf p i now = .pointer none) ∨
      (decide (now < 0) = false ∧ decide (1099511627776 < now) = false ∧ decide (i < 0) = false ∧ decide (2 ≤ i) = true ∧ atOf p i now = .pointer none) ∨
      (decide (now < 0) = false ∧ decide (1099511627776 < now) = false ∧ decide (i < 0) = false ∧ decide (2 ≤ i) = false ∧ ∃ k : Nat, k < 2 ∧ i = k ∧ atOf p i now = .pointer (some ⟨p, k * 15, none⟩)) := by
    unfold atOf
    simp only [decide_eq_true_eq, decide_eq_false_iff_not]
    by_cases h : now < 0 ∨ 1099511627776 < now ∨ i < 0 ∨ 2 ≤ i
    · rw [if_pos h]; simp only [and_true]
      omega
    · rw [if_neg h]
      simp only [not_or] at h
      obtain ⟨k, rfl⟩ := Int.eq_ofNat_of_zero_le (Int.not_lt.1 h.2.2.1)
      exact .inr (.inr (.inr (.inr ⟨h.1, h.2.1, h.2.2.1, h.2.2.2, k, by omega, rfl, rfl⟩)))
  rcases hc with ⟨q1, e⟩ | ⟨q1, q2, e⟩ | ⟨q1, q2, q3, e⟩ | ⟨q1, q2, q3, q4, e⟩ | ⟨q1, q2, q3, q4, k, hk, rfl, e⟩
  all_goals
    rw [e]
    clear e
    go_enter Tryz.func94, Tryz.ntmps94
    go_wp2
    go_ret
    exact ⟨rfl, rfl⟩
/-- does a port take part? -/
def isActive (r : Int) : Bool := r == 1 || r == 2
set_option maxRecDepth 100000 in
set_option maxHeartbeats 1000000 in
theorem active_any (b o : Nat) (r : Int) (x : Bool) (hx : isActive r = x) (w : World) (h : w.cell? ⟨b, o + 1, none⟩ = some (.int .i64 r)) :
    Calls Tryz.prog 163 #[.pointer (some ⟨b, o, none⟩)] w fun e w' => e = .returned (.bool x) ∧ w' = w := by
  subst hx
  have hc : ((r == 1) = true ∧ isActive r = true) ∨ ((r == 1) = false ∧ isActive r = (r == 2)) := by
    unfold isActive
    rcases h : (r == 1) with _ | _
    · exact .inr ⟨rfl, rfl⟩
    · exact .inl ⟨rfl, rfl⟩
  rcases hc with ⟨q1, e⟩ | ⟨q1, e⟩
  all_goals
    rw [e]
    clear e
    go_enter Tryz.func163, Tryz.ntmps163
    go_wp2
    go_ret
    exact ⟨rfl, rfl⟩
/-- a port by its number -/
def Tre.prt (T : Tre) : Nat → Prt
  | 0 => T.p0
  | _ => T.p1
/-- a tree with another port there -/
def Tre.setP (T : Tre) : Nat → Prt → Tre
  | 0, q => { T with p0 := q }
  | _, q => { T with p1 := q }
theorem TreeAt.prt {W : World} {t p cap : Nat} {T : Tre} (h : TreeAt W t p cap T) (k : Nat) (hk : k < 2) :
      W.cell? ⟨p, k * 15, none⟩ = some (.int .i64 (T.prt k).cost) ∧
      W.cell? ⟨p, k * 15 + 1, none⟩ = some (.int .i64 (T.prt k).role) ∧
      W.cell? ⟨p, k * 15 + 2, none⟩ = some (.int .i64 (T.prt k).since) ∧
      W.cell? ⟨p, k * 15 + 3, none⟩ = some (.bool (T.prt k).up) ∧
      W.cell? ⟨p, k * 15 + 4, none⟩ = some (.bool (T.prt k).keeps) ∧
      W.cell? ⟨p, k * 15 + 5, none⟩ = some (.bool (T.prt k).fwd) ∧
      W.cell? ⟨p, k * 15 + 6, none⟩ = some (.int .u64 (T.prt k).kept.root) ∧
      W.cell? ⟨p, k * 15 + 7, none⟩ = some (.int .i64 (T.prt k).kept.cost) ∧
      W.cell? ⟨p, k * 15 + 8, none⟩ = some (.int .u64 (T.prt k).kept.bridge) ∧
      W.cell? ⟨p, k * 15 + 9, none⟩ = some (.int .i64 (T.prt k).kept.port) ∧
      W.cell? ⟨p, k * 15 + 10, none⟩ = some (.int .i64 (T.prt k).age) ∧
      W.cell? ⟨p, k * 15 + 11, none⟩ = some (.bool (T.prt k).chg) ∧
      W.cell? ⟨p, k * 15 + 12, none⟩ = some (.bool (T.prt k).lrn) ∧
      W.cell? ⟨p, k * 15 + 13, none⟩ = some (.bool (T.prt k).kfwd) ∧
      W.cell? ⟨p, k * 15 + 14, none⟩ = some (.int .i64 (T.prt k).at_) ∧ ∀ o, W.frozen? ⟨p, o, none⟩ = false := by
  rcases (by omega : k = 0 ∨ k = 1) with rfl | rfl
  · exact ⟨h.2.1.get 0 _ rfl, h.2.1.get 1 _ rfl, h.2.1.get 2 _ rfl, h.2.1.get 3 _ rfl, h.2.1.get 4 _ rfl, h.2.1.get 5 _ rfl, h.2.1.get 6 _ rfl, h.2.1.get 7 _ rfl, h.2.1.get 8 _ rfl, h.2.1.get 9 _ rfl, h.2.1.get 10 _ rfl, h.2.1.get 11 _ rfl, h.2.1.get 12 _ rfl, h.2.1.get 13 _ rfl, h.2.1.get 14 _ rfl, h.2.1.fz⟩
  · exact ⟨h.2.1.get 15 _ rfl, h.2.1.get 16 _ rfl, h.2.1.get 17 _ rfl, h.2.1.get 18 _ rfl, h.2.1.get 19 _ rfl, h.2.1.get 20 _ rfl, h.2.1.get 21 _ rfl, h.2.1.get 22 _ rfl, h.2.1.get 23 _ rfl, h.2.1.get 24 _ rfl, h.2.1.get 25 _ rfl, h.2.1.get 26 _ rfl, h.2.1.get 27 _ rfl, h.2.1.get 28 _ rfl, h.2.1.get 29 _ rfl, h.2.1.fz⟩
theorem Prt.cells_length (q : Prt) : q.cells.length = 15 := rfl
/-- a store into a port -/
theorem TreeAt.setP {W : World} {t p cap k j : Nat} {T : Tre} {q : Prt} {x : Value} (h : TreeAt W t p cap T) (hk : k < 2) (hj : j < 15) (hq : q.cells = (T.prt k).cells.set j x) : TreeAt (W.setCell ⟨p, k * 15 + j, none⟩ x) t p cap (T.setP k q) := by
  rcases (by omega : k = 0 ∨ k = 1) with rfl | rfl
  · refine ⟨h.1.put h.2.2, ?_, h.2.2⟩
    have h2 := h.2.1.set (i := 0 * 15 + j) (x := x) (by rw [List.length_append, Prt.cells_length, Prt.cells_length]; omega)
    rw [List.set_append_left _ _ (by rw [Prt.cells_length]; omega)] at h2
    have e : (0 * 15 + j) = j := by omega
    have hq : q.cells = T.p0.cells.set (0 * 15 + j) x := by rw [e]; exact hq
    show Bx _ p (q.cells ++ T.p1.cells)
    rw [hq]
    exact h2
  · refine ⟨h.1.put h.2.2, ?_, h.2.2⟩
    have h2 := h.2.1.set (i := 1 * 15 + j) (x := x) (by rw [List.length_append, Prt.cells_length, Prt.cells_length]; omega)
    rw [List.set_append_right _ _ (by rw [Prt.cells_length]; omega), Prt.cells_length] at h2
    have e : 1 * 15 + j - 15 = j := by omega
    rw [e] at h2
    have hq : q.cells = T.p1.cells.set j x := hq
    show Bx _ p (T.p0.cells ++ q.cells)
    rw [hq]
    exact h2
theorem TreeAt.drew {W : World} {t p cap : Nat} {T : Tre} (h : TreeAt W t p cap T) : TreeAt W.drew t p cap T := h
theorem TreeAt.tree {W : World} {t p cap : Nat} {T : Tre} (h : TreeAt W t p cap T) : W.cell? ⟨t, 0, none⟩ = some (.int .u64 T.bridge) ∧ W.cell? ⟨t, 1, none⟩ = some (.slice (some ⟨p, 0, none⟩) 2 cap) ∧ W.cell? ⟨t, 2, none⟩ = some (.int .i64 T.now) ∧ W.cell? ⟨t, 3, none⟩ = some (.int .i64 T.root) ∧ W.cell? ⟨t, 4, none⟩ = some (.int .i64 T.change) ∧
      W.cell? ⟨t, 5, none⟩ = some (.int .u64 T.best.root) ∧ W.cell? ⟨t, 6, none⟩ = some (.int .i64 T.best.cost) ∧ W.cell? ⟨t, 7, none⟩ = some (.int .u64 T.best.bridge) ∧ W.cell? ⟨t, 8, none⟩ = some (.int .i64 T.best.port) ∧ ∀ o, W.frozen? ⟨t, o, none⟩ = false :=
  ⟨h.1.get 0 _ rfl, h.1.get 1 _ rfl, h.1.get 2 _ rfl, h.1.get 3 _ rfl, h.1.get 4 _ rfl, h.1.get 5 _ rfl, h.1.get 6 _ rfl, h.1.get 7 _ rfl, h.1.get 8 _ rfl, h.1.fz⟩
/-- a store into the tree -/
theorem TreeAt.setT {W : World} {t p cap j : Nat} {T U : Tre} {x : Value} (h : TreeAt W t p cap T) (hj : j < 9) (hq : U.cells p cap = (T.cells p cap).set j x) (h0 : U.p0 = T.p0) (h1 : U.p1 = T.p1) : TreeAt (W.setCell ⟨t, j, none⟩ x) t p cap U := by
  refine ⟨?_, ?_, h.2.2⟩
  · rw [hq]; exact h.1.set hj
  · rw [h0, h1]; exact h.2.1.put (Ne.symm h.2.2)
/-- old messages go -/
def Prt.dropped (now : Int) (q : Prt) : Prt := { q with keeps := q.keeps && decide (now < wrap64 (q.at_ + 6)) && decide (q.age < 20) }
def Tre.dropped (T : Tre) : Tre := { T with p0 := T.p0.dropped T.now, p1 := T.p1.dropped T.now }
def dropAt (T : Tre) : Nat → Tre
  | 0 => T
  | 1 => T.setP 0 (T.p0.dropped T.now)
  | _ => T.dropped
theorem dropAt_succ (T : Tre) (k : Nat) (hk : k < 2) : dropAt T (k + 1) = (dropAt T k).setP k (((dropAt T k).prt k).dropped (dropAt T k).now) := by
  rcases (by omega : k = 0 ∨ k = 1) with rfl | rfl <;> rfl
set_option maxRecDepth 100000 in
set_option maxHeartbeats 4000000 in
theorem drop_any (t p cap : Nat) (T : Tre) (w : World) (h : TreeAt w t p cap T) :
    Calls Tryz.prog 105 #[.pointer (some ⟨t, 0, none⟩)] w fun e w' => e = .returned (.tuple #[]) ∧ TreeAt w' t p cap T.dropped ∧ Beside [p] w w' := by
  obtain ⟨-, t1, -⟩ := h.tree
  have HT := Lib.hid h
  clear h
  go_enter Tryz.func105, Tryz.ntmps105
  go_wp2
  clear t1
  go_loopw [9] (fun i wr => ∃ k : Nat, k ≤ 2 ∧ i = .int .i64 k ∧ TreeAt wr t p cap (dropAt T k) ∧ Beside [p] w wr) (fun i _ => 3 - (intOf i).toNat)
  case atStart => exact ⟨0, Nat.zero_le _, rfl, HT.out, Beside.refl _ _⟩
  case round =>
    obtain ⟨k, hk, rfl, ht, bes⟩ := hrel
    by_cases hlt : k < 2
    · have hs := dropAt_succ T k hlt
      generalize dropAt T k = U at ht hs
      obtain ⟨t0, t1, t2, -⟩ := ht.tree
      obtain ⟨c0, c1, c2, c3, c4, c5, c6, c7, c8, c9, c10, c11, c12, c13, c14, cf⟩ := ht.prt k hlt
      have HQ := Lib.hid ht
      have HS := Lib.hid hs
      have HB := Lib.hid bes
      obtain ⟨kp, hkp⟩ : ∃ x, (U.prt k).keeps = x := ⟨_, rfl⟩
      obtain ⟨q1, hq1⟩ : ∃ x, decide (U.now < wrap64 ((U.prt k).at_ + 6)) = x := ⟨_, rfl⟩
      obtain ⟨q2, hq2⟩ : ∃ x, decide ((U.prt k).age < 20) = x := ⟨_, rfl⟩
      rw [hkp] at c4
      have HK := Lib.hid hkp
      have hv : ((U.prt k).dropped U.now).cells = (U.prt k).cells.set 4 (.bool (kp && q1 && q2)) := by
        unfold Prt.dropped
        rw [hkp, hq1, hq2]
        rfl
      have HV := Lib.hid hv
      clear ht hs bes hkp hv
      rcases kp with _ | _ <;> rcases q1 with _ | _ <;> rcases q2 with _ | _
      all_goals
        go_upto_region 4 with fail
        go_region
        go_wp2
        refine ⟨⟨k + 1, by omega, by go_num, by rw [HS.out]; exact (HQ.out.setP (j := 4) hlt (by decide) HV.out).drew, (HB.out.setCell (p := ⟨p, k * 15 + 4, none⟩) (.inl (List.mem_singleton.2 rfl)) _).drew⟩, ?_⟩
        simp [intOf]; omega
    · have e2 : k = 2 := by omega
      subst e2
      have HQ := Lib.hid ht
      have HB := Lib.hid bes
      clear ht bes
      go_wp2
      go_end0
      exact ⟨rfl, HQ.out, HB.out⟩
end Go.Proofs.YticdmepplfgdiaaGreatDoor
end
section
namespace Go.Proofs.YticdmepplfgdiaaGreatDoor
open Go.RowKit
theorem at_in {t p cap : Nat} {T : Tre} {k : Nat} {now : Int} (hk : k < 2) (h0 : 0 ≤ now) (h1 : now ≤ 1099511627776) (w : World) (h : TreeAt w t p cap T) :
    Calls Tryz.prog 94 #[.pointer (some ⟨t, 0, none⟩), .int .i64 k, .int .i64 now] w fun e w' => e = .returned (.pointer (some ⟨p, k * 15, none⟩)) ∧ w' = w := by
  have h2 := at_any t p cap T k now w h
  have e : atOf p (k : Int) now = .pointer (some ⟨p, k * 15, none⟩) := by
    unfold atOf
    rw [if_neg (by omega)]
    rfl
  rwa [e] at h2
set_option maxRecDepth 100000 in
set_option maxHeartbeats 1000000 in
theorem role_any {t p cap : Nat} {T : Tre} {k : Nat} (hk : k < 2) (w : World) (h : TreeAt w t p cap T) :
    Calls Tryz.prog 40 #[.pointer (some ⟨t, 0, none⟩), .int .i64 k] w fun e w' => e = .returned (.int .i64 (T.prt k).role) ∧ w' = w := by
  have HA := Lib.hid (at_in hk (Int.le_refl 0) (by decide) w h)
  obtain ⟨-, c1, -⟩ := h.prt k hk
  clear h
  go_enter Tryz.func40, Tryz.ntmps40
  go_wp2_with ((with_reducible refine HA.out.mono ?_); rintro e w1 ⟨rfl, rfl⟩)
  go_ret
  exact ⟨rfl, rfl⟩
set_option maxRecDepth 100000 in
set_option maxHeartbeats 1000000 in
theorem forwards_any {t p cap : Nat} {T : Tre} {k : Nat} (hk : k < 2) (w : World) (h : TreeAt w t p cap T) :
    Calls Tryz.prog 47 #[.pointer (some ⟨t, 0, none⟩), .int .i64 k] w fun e w' => e = .returned (.bool (T.prt k).fwd) ∧ w' = w := by
  have HA := Lib.hid (at_in hk (Int.le_refl 0) (by decide) w h)
  obtain ⟨-, -, -, -, -, c5, -⟩ := h.prt k hk
  clear h
  go_enter Tryz.func47, Tryz.ntmps47
  go_wp2_with ((with_reducible refine HA.out.mono ?_); rintro e w1 ⟨rfl, rfl⟩)
  go_ret
  exact ⟨rfl, rfl⟩
set_option maxRecDepth 100000 in
set_option maxHeartbeats 1000000 in
theorem changed_any {t p cap : Nat} {T : Tre} (w : World) (h : TreeAt w t p cap T) :
    Calls Tryz.prog 96 #[.pointer (some ⟨t, 0, none⟩)] w fun e w' => e = .returned (.int .i64 T.change) ∧ w' = w := by
  obtain ⟨-, -, -, -, t4, -⟩ := h.tree
  clear h
  go_enter Tryz.func96, Tryz.ntmps96
  go_wp2
  go_ret
  exact ⟨rfl, rfl⟩
/-- does a port learn? -/
def Tre.learns (T : Tre) (k : Nat) : Bool := ((T.prt k).since != -1) && decide (15 ≤ wrap64 (T.now - (T.prt k).since))
set_option maxRecDepth 100000 in
set_option maxHeartbeats 2000000 in
theorem learns_any {t p cap : Nat} {T : Tre} {k : Nat} (hk : k < 2) (r : Bool) (hr : T.learns k = r) (w : World) (h : TreeAt w t p cap T) :
    Calls Tryz.prog 45 #[.pointer (some ⟨t, 0, none⟩), .int .i64 k] w fun e w' => e = .returned (.bool r) ∧ Below w.heap.size w w' := by
  have HA := Lib.hid (at_in hk (Int.le_refl 0) (by decide) w h)
  obtain ⟨-, -, t2, -⟩ := h.tree
  obtain ⟨-, -, c2, -⟩ := h.prt k hk
  clear h
  unfold Tre.learns at hr
  subst hr
  obtain ⟨s1, hs1⟩ : ∃ x, ((T.prt k).since != -1) = x := ⟨_, rfl⟩
  rw [hs1]
  rcases s1 with _ | _
  · go_enter Tryz.func45, Tryz.ntmps45
    go_wp2_with ((with_reducible refine HA.out.mono ?_); rintro e w1 ⟨rfl, rfl⟩)
    go_quiet (fail)
    go_wp2
    go_ret
    exact ⟨rfl, bdrew (Below.refl _ _) _⟩
  · go_enter Tryz.func45, Tryz.ntmps45
    go_wp2_with ((with_reducible refine HA.out.mono ?_); rintro e w1 ⟨rfl, rfl⟩)
    go_quiet (fail)
    go_wp2
    go_ret
    exact ⟨rfl, bdrew (Below.refl _ _) _⟩
end Go.Proofs.YticdmepplfgdiaaGreatDoor
end
section
namespace Go.Proofs.YticdmepplfgdiaaGreatDoor
open Go.RowKit
theorem tinfo196 : (Tryz.prog.info? 196).map (fun i => (i.zero, i.size, i.bytes)) = some (some (.agg #[.int .i64 0, .int .i64 0, .int .i64 0, .bool false, .bool false, .bool false, .int .u64 0, .int .i64 0, .int .u64 0, .int .i64 0, .int .i64 0, .bool false, .bool false, .bool false, .int .i64 0]), 15, 88) := by kernel_rfl
/-- a port of which nothing is known -/
def freshP : Prt := ⟨10, 0, -1, false, false, false, zeroV, 0, false, false, false, 0⟩
def freshT (id : Int) : Tre := ⟨id, freshP, freshP, 0, -1, -1, ownV id⟩
def freshAt : Nat → List Value
  | 0 => []
  | 1 => freshP.cells
  | _ => freshP.cells ++ freshP.cells
theorem freshAt_succ (k : Nat) (hk : k < 2) : freshAt (k + 1) = freshAt k ++ freshP.cells := by
  rcases (by omega : k = 0 ∨ k = 1) with rfl | rfl <;> rfl
theorem freshP_one : ∀ u ∈ freshP.cells, u.oneCell' = true := by decide
def halfT (id : Int) (v : Value) : List Value := [.int .u64 id, v, .int .i64 0, .int .i64 (-1), .int .i64 (-1), .int .u64 id, .int .i64 0, .int .u64 id, .int .i64 0]
set_option maxRecDepth 100000 in
set_option maxHeartbeats 4000000 in
theorem rstp_new (id : Int) {b c : Nat} (w : World) (hc : Bx w b [.int .i64 10, .int .i64 10]) :
    Calls Tryz.prog 28 #[.int .u64 id, .slice (some ⟨b, 0, none⟩) 2 c] w fun e w' => ∃ t p cap, e = .returned (.tuple #[.pointer (some ⟨t, 0, none⟩), .int .i64 0]) ∧ TreeAt w' t p cap (freshT id) ∧ w.heap.size ≤ t ∧ w.heap.size ≤ p ∧ Below w.heap.size w w' := by
  have HO := Lib.hid own_any
  have HC := Lib.hid hc
  clear hc
  go_enter Tryz.func28, Tryz.ntmps28
  go_upto_region 5 with (go_at_call 89; (with_reducible refine (HO.out _ _).mono ?_); rintro e w1 ⟨rfl, g1⟩)
  have N := Lib.hid (Bx.new w1 (halfT id (.slice none 0 0)) 194)
  have s1 := g1.size
  have HB1 := Lib.hid (ball1 g1 (.cells (halfT id (.slice none 0 0)).toArray 194))
  obtain ⟨w2, hw2⟩ : ∃ x : World, x = w1.alloc (.cells (halfT id (.slice none 0 0)).toArray 194) := ⟨_, rfl⟩
  have hs2 : w2.heap.size = w1.heap.size + 1 := by rw [hw2]; exact World.size_alloc ..
  rw [← hw2] at N HB1
  change Code.wp _ _ _ _ (w1.alloc (.cells (halfT id (.slice none 0 0)).toArray 194))
  rw [← hw2]
  clear hw2
  generalize hT : w1.heap.size = t at N s1 hs2 ⊢
  clear hT g1
  go_loopw [8, 24] (fun _ i wr => ∃ k : Nat, k ≤ 2 ∧ i = .int .i64 k ∧ ∃ v, Bx wr t (halfT id v) ∧ wr.ownsRow (t + 1) 196 15 v k (freshAt k) ∧ Below w.heap.size w wr) (fun _ i _ => 3 - (intOf i).toNat)
  case atStart => exact ⟨0, Nat.zero_le _, rfl, .slice none 0 0, N.out, World.ownsRow_nil _ _ _ _, HB1.out⟩
  case round =>
    obtain ⟨k, hk, rfl, v, nb, own, bel⟩ := hrel
    by_cases hlt : k < 2
    · have hs := Lib.hid (freshAt_succ k hlt)
      have hcc := (HC.out.below bel).get k (.int .i64 10) (by rcases (by omega : k = 0 ∨ k = 1) with rfl | rfl <;> rfl)
      have n1 := nb.get 1 _ rfl
      have nf := nb.fz
      have htl := nb.1
      have HN := Lib.hid nb
      have HOw := Lib.hid own
      have HBl := Lib.hid bel
      clear nb own bel
      go_wp2_with (at_builtin; refine push_any rfl _ _ _ 196 rfl (t + 1) Tryz.underlying192 tinfo196 rfl (by decide) v k _ freshP.cells wr.heap.size rfl (HOw.out.alloc _) rfl (Bx.new _ _ _) rfl freshP_one (by omega) (by decide) (by simp; omega) ?_; intro v' w3 hown' hg hB hs3; obtain ⟨gq, cq, rfl, hgq, bxq⟩ := row_bx hown' (Nat.succ_ne_zero k) (by rcases (by omega : k = 0 ∨ k = 1) with rfl | rfl <;> rfl); have hbl := Lib.hid ((ball1 HBl.out _).trans (hB.mono (by omega))); have hn3 := Lib.hid ((HN.out.alloc _).under hB (by omega)); have m1 := hn3.out.get 1 _ rfl; have mf := hn3.out.fz)
      refine ⟨⟨k + 1, by omega, by go_num, _, hn3.out.set (i := 1) (by simp [halfT]), own_set (by rw [hs.out]; exact hown') (Nat.lt_succ_self t) _, hbl.out.setCell s1 _⟩, ?_⟩
      simp [intOf]; omega
    · have he : k = 2 := by omega
      subst he
      obtain ⟨g, cp, rfl, hg, bx⟩ := row_bx own (by decide) rfl
      clear own hk hlt
      have HN := Lib.hid nb
      have HX := Lib.hid bx
      have HBl := Lib.hid bel
      clear nb bx bel
      go_wp2
      exact bodyPost_ret (v := .tuple #[.pointer (some ⟨t, 0, none⟩), .int .i64 0]) (by simp [results, Tryz.results28, go_sem]) rfl ⟨t, g, cp, rfl, ⟨HN.out, HX.out, by omega⟩, s1, by omega, HBl.out⟩
end Go.Proofs.YticdmepplfgdiaaGreatDoor
end
section
namespace Go.Proofs.YticdmepplfgdiaaGreatDoor
open Go.RowKit
/-- a switch's cells: its config, its parts, when its tree changed -/
def brCells (id : Int) (costs ports vl : Value) (t st gr ro aq q : Nat) (ch : Int) : List Value :=
  [.int .u64 id, costs, ports, .string ⟨#[]⟩, .string ⟨#[]⟩, .int .i64 20, .int .i64 2, .int .i64 60, .int .i64 2, .int .i64 100, .int .i64 50, .bool false, .bool false, .pointer (some ⟨t, 0, none⟩), .pointer (some ⟨st, 0, none⟩), .pointer (some ⟨gr, 0, none⟩), .pointer (some ⟨ro, 0, none⟩), .pointer (some ⟨aq, 0, none⟩), vl, .map (some q), .int .i64 ch]
theorem brCells_set (id : Int) (costs ports vl : Value) (t st gr ro aq q : Nat) (ch c : Int) : brCells id costs ports vl t st gr ro aq q c = (brCells id costs ports vl t st gr ro aq q ch).set 20 (.int .i64 c) := rfl
theorem NoneAt.beside {S : List Nat} {W W' : World} {b mb : Nat} {room age : Int} (h : NoneAt W b mb room age) (g : Beside S W W') (hb : b ∉ S) (hm : mb ∉ S) : NoneAt W' b mb room age := ⟨h.1.beside g hb, h.2.beside g hm⟩
set_option maxRecDepth 100000 in
set_option maxHeartbeats 2000000 in
theorem brsettle_any (b t p cap st smb gr ro aq q pp pc : Nat) (id ch : Int) (costs vl : Value) (T : Tre) (w : World) (hb : Bx w b (brCells id costs (.slice (some ⟨pp, 0, none⟩) 2 pc) vl t st gr ro aq q ch)) (hT : TreeAt w t p cap T) (hS : NoneAt w st smb 50 100) (n1 : st ≠ b) (n2 : smb ≠ b) :
    Calls Tryz.prog 36 #[.pointer (some ⟨b, 0, none⟩)] w fun e w' => e = .returned (.tuple #[]) ∧ Bx w' b (brCells id costs (.slice (some ⟨pp, 0, none⟩) 2 pc) vl t st gr ro aq q T.change) ∧ Beside [b] w w' := by
  have HC := Lib.hid (changed_any w hT)
  have HF := Lib.hid (fun (port : Int) (W : World) (h : NoneAt W st smb 50 100) => none_flush st smb 50 100 port W h)
  have HS := Lib.hid hS
  have HX := Lib.hid hb
  have b2 := hb.get 2 _ rfl
  have b13 := hb.get 13 _ rfl
  have b14 := hb.get 14 _ rfl
  have b20 := hb.get 20 _ rfl
  have bf := hb.fz
  clear hT hS hb
  obtain ⟨x, hx⟩ : ∃ x, (T.change != ch) = x := ⟨_, rfl⟩
  rcases x with _ | _
  · have e : T.change = ch := by simpa using hx
    go_enter Tryz.func36, Tryz.ntmps36
    go_wp2_with (go_at_call 96; (with_reducible refine HC.out.mono ?_); rintro e w1 ⟨rfl, rfl⟩)
    go_end0
    exact ⟨rfl, by rw [e]; exact HX.out, Beside.refl _ _⟩
  · have hbm : b ∈ [b] := List.mem_singleton.2 rfl
    go_enter Tryz.func36, Tryz.ntmps36
    go_wp2_with (go_at_call 96; (with_reducible refine HC.out.mono ?_); rintro e w1 ⟨rfl, rfl⟩)
    have HN : Bx (w1.setCell ⟨b, 20, none⟩ (.int .i64 T.change)) b (brCells id costs (.slice (some ⟨pp, 0, none⟩) 2 pc) vl t st gr ro aq q T.change) := by
      rw [brCells_set id costs (.slice (some ⟨pp, 0, none⟩) 2 pc) vl t st gr ro aq q ch T.change]
      exact HX.out.set (by simp [brCells])
    have HB := (Beside.refl [b] w1).setCell (p := ⟨b, 20, none⟩) (.inl hbm) (.int .i64 T.change)
    clear b2 b13 b14 b20 bf
    go_loopw [25] (fun i wr => ∃ k : Nat, k ≤ 2 ∧ i = .int .i64 k ∧ Bx wr b (brCells id costs (.slice (some ⟨pp, 0, none⟩) 2 pc) vl t st gr ro aq q T.change) ∧ Beside [b] w1 wr) (fun i _ => 3 - (intOf i).toNat)
    case atStart => exact ⟨0, Nat.zero_le _, rfl, HN, HB⟩
    case round =>
      obtain ⟨k, hk, rfl, bx, bes⟩ := hrel
      have b14 := bx.get 14 _ rfl
      have HK := Lib.hid bx
      have HE := Lib.hid bes
      have HS2 := Lib.hid (HS.out.beside bes (fun e => n1 (List.mem_singleton.1 e)) (fun e => n2 (List.mem_singleton.1 e)))
      clear bx bes HN HB
      by_cases hlt : k < 2
      · go_wp2_with (go_at_call 37; (with_reducible refine (HF.out _ _ HS2.out).mono ?_); rintro e w2 ⟨rfl, g2⟩)
        refine ⟨⟨k + 1, by omega, by go_num, HK.out.below g2, HE.out.below g2⟩, ?_⟩
        simp [intOf]; omega
      · have e2 : k = 2 := by omega
        subst e2
        go_wp2
        go_end0
        exact ⟨rfl, HK.out, HE.out⟩
end Go.Proofs.YticdmepplfgdiaaGreatDoor
end
section
namespace Go.Proofs.YticdmepplfgdiaaGreatDoor
open Go.RowKit
/-- where a switch's parts lie -/
structure Brs where
  id : Nat
  b : Nat
  t : Nat
  p : Nat
  cap : Nat
  q4 : Nat
  q16 : Nat
  st : Nat
  smb : Nat
  gr : Nat
  gsm : Nat
  gom : Nat
  ro : Nat
  rfm : Nat
  rhm : Nat
  aq : Nat
  wq : Nat
  wmb : Nat
  qb : Nat
  q : Nat
  pp : Nat
  pc : Nat
  pl0 : Nat
  pl1 : Nat
  c0 : Nat
  c1 : Nat
  vb : Nat
  vc : Nat
  costs : Value
def Brs.muts (B : Brs) : List Nat := [B.b, B.t, B.p, B.q4, B.q16]
def Brs.still (B : Brs) : List Nat := [B.st, B.smb, B.gr, B.gsm, B.gom, B.ro, B.rfm, B.rhm, B.aq, B.wq, B.wmb, B.qb, B.q, B.pp, B.pl0, B.pl1, B.vb]
def Brs.all (B : Brs) : List Nat := B.muts ++ B.still
def Brs.cells (B : Brs) (ch : Int) : List Value := brCells B.id B.costs (.slice (some ⟨B.pp, 0, none⟩) 2 B.pc) (.slice (some ⟨B.vb, 0, none⟩) 1 B.vc) B.t B.st B.gr B.ro B.aq B.q ch
/-- the two ports: their default VLAN, none tagged, one plain -/
def Brs.cfg (B : Brs) : List Value := [.int .i64 10, .slice none 0 0, .slice (some ⟨B.pl0, 0, none⟩) 1 B.c0, .int .i64 10, .slice none 0 0, .slice (some ⟨B.pl1, 0, none⟩) 1 B.c1]
theorem BareAt.beside {S : List Nat} {W W' : World} {b sm om : Nat} {room member last : Int} (h : BareAt W b sm om room member last) (g : Beside S W W') (n1 : b ∉ S) (n2 : sm ∉ S) (n3 : om ∉ S) : BareAt W' b sm om room member last := ⟨h.1.beside g n1, h.2.1.beside g n2, h.2.2.beside g n3⟩
theorem PortsAt.beside {S : List Nat} {W W' : World} {b fm hm : Nat} {age : Int} (h : PortsAt W b fm hm age) (g : Beside S W W') (n1 : b ∉ S) (n2 : fm ∉ S) (n3 : hm ∉ S) : PortsAt W' b fm hm age := ⟨h.1.beside g n1, h.2.1.beside g n2, h.2.2.beside g n3⟩
theorem AsksAt.beside {S : List Nat} {W W' : World} {a b mb qb : Nat} {count gap turn room wt : Int} (h : AsksAt W a b mb qb count gap turn room wt) (g : Beside S W W') (n1 : a ∉ S) (n2 : b ∉ S) (n3 : mb ∉ S) : AsksAt W' a b mb qb count gap turn room wt := ⟨h.1.beside g n1, h.2.1.beside g n2, h.2.2.beside g n3⟩
theorem QuietAt.beside {S : List Nat} {W W' : World} {b : Nat} {every robust u : Int} (h : QuietAt W b every robust u) (g : Beside S W W') (n1 : b ∉ S) : QuietAt W' b every robust u := by
  obtain ⟨x, y, h⟩ := h
  exact ⟨x, y, h.beside g n1⟩
theorem AskMap.lt {W : World} {r q4 q16 : Nat} (h : AskMap W r q4 q16) : r < W.heap.size := by
  rcases Nat.lt_or_ge r W.heap.size with h' | h'
  · exact h'
  · unfold AskMap at h
    simp [Array.getElem?_eq_none h'] at h
theorem AskMap.beside {S : List Nat} {W W' : World} {r q4 q16 : Nat} (h : AskMap W r q4 q16) (g : Beside S W W') (n1 : r ∉ S) : AskMap W' r q4 q16 := (g.block r h.lt n1).trans h
/-- a switch, its tree and when its tree changed -/
structure BrAt (W : World) (B : Brs) (T : Tre) (ch : Int) : Prop where
  cells : Bx W B.b (B.cells ch)
  tree : TreeAt W B.t B.p B.cap T
  dark : NoneAt W B.st B.smb 50 100
  bare : BareAt W B.gr B.gsm B.gom 50 60 2
  ports : PortsAt W B.ro B.rfm B.rhm 100
  asks : AsksAt W B.aq B.wq B.wmb B.qb 2 2 0 200 0
  vl : Bx W B.vb [.int .i64 10]
  map : AskMap W B.q B.q4 B.q16
  k4 : QuietAt W B.q4 20 2 0
  k16 : QuietAt W B.q16 20 2 0
  cfg : Bx W B.pp B.cfg
  l0 : Bx W B.pl0 [.int .i64 10]
  l1 : Bx W B.pl1 [.int .i64 10]
  nd : B.all.Nodup
theorem Brs.apart {B : Brs} (h : B.all.Nodup) {x : Nat} (hx : x ∈ B.still) : x ∉ B.muts := fun e => (List.nodup_append.1 h).2.2 x e x hx rfl
theorem Brs.far {B : Brs} (h : B.all.Nodup) {x : Nat} (hx : x ∈ B.still) {S : List Nat} (hs : ∀ y, y ∈ S → y ∈ B.muts) : x ∉ S := fun e => B.apart h hx (hs x e)
/-- some of what may change has changed; what it is now is shown -/
theorem BrAt.turned {W W' : World} {B : Brs} {T T' : Tre} {ch ch' : Int} (h : BrAt W B T ch) {S : List Nat} (g : Beside S W W') (hs : ∀ y, y ∈ S → y ∈ B.muts) (h1 : Bx W' B.b (B.cells ch')) (h2 : TreeAt W' B.t B.p B.cap T') (h3 : QuietAt W' B.q4 20 2 0) (h4 : QuietAt W' B.q16 20 2 0) : BrAt W' B T' ch' := by
  have n : ∀ x, x ∈ B.still → x ∉ S := fun x hx => B.far h.nd hx hs
  simp only [Brs.still, List.mem_cons, List.not_mem_nil, or_false] at n
  exact ⟨h1, h2, h.dark.beside g (n _ (by simp)) (n _ (by simp)), h.bare.beside g (n _ (by simp)) (n _ (by simp)) (n _ (by simp)), h.ports.beside g (n _ (by simp)) (n _ (by simp)) (n _ (by simp)), h.asks.beside g (n _ (by simp)) (n _ (by simp)) (n _ (by simp)), h.vl.beside g (n _ (by simp)), h.map.beside g (n _ (by simp)), h3, h4, h.cfg.beside g (n _ (by simp)), h.l0.beside g (n _ (by simp)), h.l1.beside g (n _ (by simp)), h.nd⟩
theorem BrAt.beside {W W' : World} {B : Brs} {T : Tre} {ch : Int} (h : BrAt W B T ch) {S : List Nat} (g : Beside S W W') (hs : ∀ y, y ∈ S → y ∉ B.all) : BrAt W' B T ch := by
  have n : ∀ x, x ∈ B.all → x ∉ S := fun x hx e => hs x e hx
  simp only [Brs.all, Brs.muts, Brs.still, List.mem_append, List.mem_cons, List.not_mem_nil, or_false] at n
  exact ⟨h.cells.beside g (n _ (by simp)), h.tree.beside g (n _ (by simp)) (n _ (by simp)), h.dark.beside g (n _ (by simp)) (n _ (by simp)), h.bare.beside g (n _ (by simp)) (n _ (by simp)) (n _ (by simp)), h.ports.beside g (n _ (by simp)) (n _ (by simp)) (n _ (by simp)), h.asks.beside g (n _ (by simp)) (n _ (by simp)) (n _ (by simp)), h.vl.beside g (n _ (by simp)), h.map.beside g (n _ (by simp)), h.k4.beside g (n _ (by simp)), h.k16.beside g (n _ (by simp)), h.cfg.beside g (n _ (by simp)), h.l0.beside g (n _ (by simp)), h.l1.beside g (n _ (by simp)), h.nd⟩
theorem BrAt.below {W W' : World} {B : Brs} {T : Tre} {ch : Int} (h : BrAt W B T ch) (g : Below W.heap.size W W') : BrAt W' B T ch := h.beside (S := []) (.of_below g) (fun _ e => absurd e (List.not_mem_nil))
/-- what may change lies apart -/
theorem BrAt.ne {W : World} {B : Brs} {T : Tre} {ch : Int} (h : BrAt W B T ch) : B.b ≠ B.t ∧ B.b ≠ B.p ∧ B.b ≠ B.q4 ∧ B.b ≠ B.q16 ∧ B.t ≠ B.p ∧ B.t ≠ B.q4 ∧ B.t ≠ B.q16 ∧ B.p ≠ B.q4 ∧ B.p ≠ B.q16 ∧ B.q4 ≠ B.q16 := by
  have k := (List.nodup_append.1 h.nd).1
  simp only [Brs.muts, List.nodup_cons, List.mem_cons, List.not_mem_nil, or_false, not_or] at k
  obtain ⟨⟨k1, k2, k3, k4⟩, ⟨k5, k6, k7⟩, ⟨k8, k9⟩, k10, -⟩ := k
  exact ⟨k1, k2, k3, k4, k5, k6, k7, k8, k9, k10⟩
theorem BrAt.treed {W W' : World} {B : Brs} {T T' : Tre} {ch : Int} (h : BrAt W B T ch) (g : Beside [B.t, B.p] W W') (h2 : TreeAt W' B.t B.p B.cap T') : BrAt W' B T' ch := by
  obtain ⟨k1, k2, k3, k4, k5, k6, k7, k8, k9, k10⟩ := h.ne
  refine h.turned g ?_ (h.cells.beside g ?_) h2 (h.k4.beside g ?_) (h.k16.beside g ?_)
  · intro y hy
    simp only [List.mem_cons, List.not_mem_nil, or_false] at hy
    rcases hy with rfl | rfl <;> simp [Brs.muts]
  all_goals simp only [List.mem_cons, List.not_mem_nil, or_false, not_or]
  · exact ⟨k1, k2⟩
  · exact ⟨Ne.symm k6, Ne.symm k8⟩
  · exact ⟨Ne.symm k7, Ne.symm k9⟩
theorem BrAt.marked {W W' : World} {B : Brs} {T : Tre} {ch ch' : Int} (h : BrAt W B T ch) (g : Beside [B.b] W W') (h1 : Bx W' B.b (B.cells ch')) : BrAt W' B T ch' := by
  obtain ⟨k1, k2, k3, k4, k5, k6, k7, k8, k9, k10⟩ := h.ne
  refine h.turned g ?_ h1 (h.tree.beside g ?_ ?_) (h.k4.beside g ?_) (h.k16.beside g ?_)
  · intro y hy
    rw [List.mem_singleton.1 hy]
    simp [Brs.muts]
  all_goals rw [List.mem_singleton]
  · exact Ne.symm k1
  · exact Ne.symm k2
  · exact Ne.symm k3
  · exact Ne.symm k4
theorem BrAt.hushed4 {W W' : World} {B : Brs} {T : Tre} {ch : Int} (h : BrAt W B T ch) (g : Beside [B.q4] W W') (h1 : QuietAt W' B.q4 20 2 0) : BrAt W' B T ch := by
  obtain ⟨k1, k2, k3, k4, k5, k6, k7, k8, k9, k10⟩ := h.ne
  refine h.turned g ?_ (h.cells.beside g ?_) (h.tree.beside g ?_ ?_) h1 (h.k16.beside g ?_)
  · intro y hy
    rw [List.mem_singleton.1 hy]
    simp [Brs.muts]
  all_goals rw [List.mem_singleton]
  · exact k3
  · exact k6
  · exact k8
  · exact Ne.symm k10
theorem BrAt.hushed16 {W W' : World} {B : Brs} {T : Tre} {ch : Int} (h : BrAt W B T ch) (g : Beside [B.q16] W W') (h1 : QuietAt W' B.q16 20 2 0) : BrAt W' B T ch := by
  obtain ⟨k1, k2, k3, k4, k5, k6, k7, k8, k9, k10⟩ := h.ne
  refine h.turned g ?_ (h.cells.beside g ?_) (h.tree.beside g ?_ ?_) (h.k4.beside g ?_) h1
  · intro y hy
    rw [List.mem_singleton.1 hy]
    simp [Brs.muts]
  all_goals rw [List.mem_singleton]
  · exact k4
  · exact k7
  · exact k9
  · exact k10
/-- the switch's settle -/
theorem BrAt.settles {W : World} {B : Brs} {T : Tre} {ch : Int} (h : BrAt W B T ch) : Calls Tryz.prog 36 #[.pointer (some ⟨B.b, 0, none⟩)] W fun e w' => e = .returned (.tuple #[]) ∧ BrAt w' B T T.change ∧ Beside [B.b] W w' := by
  have nb : ∀ y, y ∈ [B.b] → y ∈ B.muts := fun y hy => by rw [List.mem_singleton.1 hy]; simp [Brs.muts]
  refine (brsettle_any B.b B.t B.p B.cap B.st B.smb B.gr B.ro B.aq B.q B.pp B.pc B.id ch B.costs _ T W h.cells h.tree h.dark ?_ ?_).mono ?_
  · exact fun e => B.far h.nd (x := B.st) (by simp [Brs.still]) nb (List.mem_singleton.2 e)
  · exact fun e => B.far h.nd (x := B.smb) (by simp [Brs.still]) nb (List.mem_singleton.2 e)
  · rintro e w' ⟨rfl, h1, g⟩
    exact ⟨rfl, h.marked g h1, g⟩
end Go.Proofs.YticdmepplfgdiaaGreatDoor
end
