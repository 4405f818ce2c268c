/-
  What vlan.Check, the document's own Check (siphonref12) and 'few' compute. Conditions: lists' lengths lie well within an int. What the document's own Check (siphonref12) computes. Conditions: lists' lengths lie well within an int. What vlan.Members and the document's own Members (siphonref12) compute, and SameInts. Conditions: at most 20 ports.
-/
import Derived.Deep.RegionWith
import Derived.Test.YticdmepplfgdiaaGreatDoorQ03
set_option linter.unusedVariables false
set_option linter.unusedSimpArgs false
section
namespace Go.Proofs.YticdmepplfgdiaaGreatDoor
open Go.RowKit
/-- a port: its Default, its lists, and the slices that hold them -/
structure Pt where
  d : Int
  t : List Int
  p : List Int
  ta : Option Addr
  tc : Nat
  pa : Option Addr
  pc : Nat
def Pt.Lies (W : World) (x : Pt) : Prop := Ints W (.slice x.ta x.t.length x.tc) x.t ∧ Ints W (.slice x.pa x.p.length x.pc) x.p ∧ x.t.length ≤ 9223372036854775807 ∧ x.p.length ≤ 9223372036854775807
theorem Pt.Lies.below {W W' : World} {x : Pt} (h : x.Lies W) (g : Below W.heap.size W W') : x.Lies W' := ⟨h.1.below g, h.2.1.below g, h.2.2⟩
/-- the row of ports -/
def PRow (W : World) (b o : Nat) (ps : List Pt) : Prop :=
  ∀ i (x : Pt), ps[i]? = some x → W.cell? ⟨b, o + i * 3, none⟩ = some (.int .i64 x.d) ∧ W.cell? ⟨b, o + i * 3 + 1, none⟩ = some (.slice x.ta x.t.length x.tc) ∧ W.cell? ⟨b, o + i * 3 + 2, none⟩ = some (.slice x.pa x.p.length x.pc)
def Ports (W : World) (v : Value) (ps : List Pt) : Prop :=
  ∃ (a : Option Addr) (cap : Nat), v = .slice a ps.length cap ∧ ps.length ≤ 9223372036854775807 ∧ (∀ x ∈ ps, x.Lies W) ∧ (ps = [] ∨ ∃ b o, a = some ⟨b, o, none⟩ ∧ b < W.heap.size ∧ PRow W b o ps)
theorem Ports.below {W W' : World} {v : Value} {ps : List Pt} (h : Ports W v ps) (g : Below W.heap.size W W') : Ports W' v ps := by
  obtain ⟨a, cap, rfl, hz, hx, h⟩ := h
  refine ⟨a, cap, rfl, hz, fun x q => (hx x q).below g, ?_⟩
  rcases h with h | ⟨b, o, rfl, hb, hc⟩
  · exact .inl h
  · exact .inr ⟨b, o, rfl, Nat.lt_of_lt_of_le hb g.size, fun i x q => ⟨(g.cell hb).trans (hc i x q).1, (g.cell hb).trans (hc i x q).2.1, (g.cell hb).trans (hc i x q).2.2⟩⟩
/-- the port where one is asked for -/
theorem Ports.at {W : World} {a : Option Addr} {ps : List Pt} {k : Nat} (h : ps = [] ∨ ∃ b o, a = some ⟨b, o, none⟩ ∧ b < W.heap.size ∧ PRow W b o ps) (hk : k < ps.length) :
    ∃ b o x, a = some ⟨b, o, none⟩ ∧ b < W.heap.size ∧ ps[k]? = some x ∧ x ∈ ps ∧ W.cell? ⟨b, o + k * 3, none⟩ = some (.int .i64 x.d) ∧ W.cell? ⟨b, o + k * 3 + 1, none⟩ = some (.slice x.ta x.t.length x.tc) ∧ W.cell? ⟨b, o + k * 3 + 2, none⟩ = some (.slice x.pa x.p.length x.pc) := by
  obtain ⟨b, o, ha, hb, hr⟩ := h.resolve_left (by rintro rfl; exact absurd hk (Nat.not_lt_zero _))
  have hx := List.getElem?_eq_getElem hk
  exact ⟨b, o, _, ha, hb, hx, List.getElem_mem hk, hr k _ hx⟩
/-- may ports be so? -/
def OkPorts (ps : List Pt) : Prop := 1 ≤ ps.length ∧ ps.length ≤ 16 ∧ ∀ x ∈ ps, Fine x.d x.t x.p
set_option maxRecDepth 100000 in
set_option maxHeartbeats 1000000 in
theorem check_any (v : Value) (ps : List Pt) (c : Int) (hc : (c = 0 ∧ OkPorts ps) ∨ (c = 3 ∧ ¬ OkPorts ps)) (w : World) (hv : Ports w v ps) :
    Calls Tryz.prog 85 #[v] w fun e w' => e = .returned (.int .i64 c) ∧ Below w.heap.size w w' := by
  obtain ⟨a, cap, rfl, hz, hx, h⟩ := hv
  have HC := Lib.hid hc
  have HX := Lib.hid hx
  clear hc hx
  by_cases h16 : ps.length < 1 ∨ 16 < ps.length
  · have HF := Lib.hid (show c = 3 by rcases HC.out with ⟨_, q⟩ | ⟨q, _⟩; (have := q.1; have := q.2.1; omega); exact q)
    have hq : decide ((ps.length : Int) < 1) = true ∨ (decide ((ps.length : Int) < 1) = false ∧ decide (16 < (ps.length : Int)) = true) := by
      simp only [decide_eq_true_eq, decide_eq_false_iff_not]; omega
    clear h h16
    rcases hq with q1 | ⟨q1, q2⟩
    all_goals
      go_enter Tryz.func85, Tryz.ntmps85
      go_wp2
      go_ret
      exact ⟨ret_int HF.out.symm, Below.refl _ _⟩
  · have q1 : decide ((ps.length : Int) < 1) = false := decide_eq_false (by omega)
    have q2 : decide (16 < (ps.length : Int)) = false := decide_eq_false (by omega)
    go_enter Tryz.func85, Tryz.ntmps85
    go_wp2
    go_loopw [4, 15] (fun _ i wr => ∃ k : Nat, k ≤ ps.length ∧ i = .int .i64 k ∧ Hid (∀ j x, j < k → ps[j]? = some x → Fine x.d x.t x.p) ∧ Below w.heap.size w wr) (fun _ i _ => ps.length + 1 - (intOf i).toNat)
    case atStart => exact ⟨0, Nat.zero_le _, rfl, fun j x hj => absurd hj (Nat.not_lt_zero _), Below.refl _ _⟩
    case round =>
      obtain ⟨k, hk, rfl, hno, hbw⟩ := hrel
      by_cases hlt : k < ps.length
      · obtain ⟨b, o, x, rfl, hb, hxk, hxm, c0, c1, c2⟩ := Ports.at h hlt
        have d0 := (hbw.cell (p := ⟨b, o + k * 3, none⟩) hb).trans c0
        have d1 := (hbw.cell (p := ⟨b, o + k * 3 + 1, none⟩) hb).trans c1
        have d2 := (hbw.cell (p := ⟨b, o + k * 3 + 2, none⟩) hb).trans c2
        have hl := ((HX.out x hxm).below hbw).below (bbox1 wr (.cells #[.int .i64 x.d, (.slice x.ta x.t.length x.tc), (.slice x.pa x.p.length x.pc)] 69))
        have hxi : ∀ j y, j < k + 1 → ps[j]? = some y → j < k ∨ y = x := fun j y hj hy => by
          rcases Nat.lt_succ_iff_lt_or_eq.1 hj with h2 | rfl
          · exact .inl h2
          · rw [hxk] at hy; exact .inr (Option.some.inj hy).symm
        have hlt2 : (k : Int) < (ps.length : Int) := by omega
        by_cases hf : Fine x.d x.t x.p
        · have HM := Lib.hid (vfine_any x.d (.slice x.ta x.t.length x.tc) (.slice x.pa x.p.length x.pc) x.t x.p true (iff_of_true rfl hf) hl.2.2.1 hl.2.2.2 _ hl.1 hl.2.1)
          have hne : ∀ j y, j < k + 1 → ps[j]? = some y → Fine y.d y.t y.p := fun j y hj hy => by
            rcases hxi j y hj hy with h2 | rfl
            · exact hno.out j y h2 hy
            · exact hf
          have HN := Lib.hid hne
          clear h c0 c1 c2 hl hxi hf hne
          go_wp2_with ((with_reducible refine HM.out.mono ?_); rintro e w1 ⟨rfl, g1⟩)
          refine ⟨⟨k + 1, by omega, by go_num, HN, hbw.trans ((bstep (bbox1 _ _) g1).mono hbw.size)⟩, ?_⟩
          simp [intOf]; omega
        · have HM := Lib.hid (vfine_any x.d (.slice x.ta x.t.length x.tc) (.slice x.pa x.p.length x.pc) x.t x.p false (iff_of_false (by decide) hf) hl.2.2.1 hl.2.2.2 _ hl.1 hl.2.1)
          have HF := Lib.hid (show c = 3 by rcases HC.out with ⟨_, q⟩ | ⟨q, _⟩; exact absurd (q.2.2 x hxm) hf; exact q)
          clear h c0 c1 c2 hl hxi hf
          go_wp2_with ((with_reducible refine HM.out.mono ?_); rintro e w1 ⟨rfl, g1⟩)
          go_ret
          exact ⟨ret_int HF.out.symm, hbw.trans ((bstep (bbox1 _ _) g1).mono hbw.size)⟩
      · have HF := Lib.hid (show c = 0 by
          rcases HC.out with ⟨q, _⟩ | ⟨_, q⟩
          · exact q
          · exact absurd ⟨by omega, by omega, fun x hx => by
              obtain ⟨j, hj, rfl⟩ := List.getElem_of_mem hx
              exact hno.out j _ (by omega) (List.getElem?_eq_getElem hj)⟩ q)
        have hle : ps.length ≤ k := by omega
        clear h
        go_wp2
        go_ret
        exact ⟨ret_int HF.out.symm, hbw⟩
end Go.Proofs.YticdmepplfgdiaaGreatDoor
end
section
namespace Go.Proofs.YticdmepplfgdiaaGreatDoor
open Go.RowKit
/-- a box of three cells -/
def Box3 (W : World) (b : Nat) (v0 v1 v2 : Value) : Prop :=
  b < W.heap.size ∧ W.cell? ⟨b, 0, none⟩ = some v0 ∧ W.cell? ⟨b, 1, none⟩ = some v1 ∧ W.cell? ⟨b, 2, none⟩ = some v2 ∧ ∀ o, W.frozen? ⟨b, o, none⟩ = false
theorem Box3.new (W : World) (v0 v1 v2 : Value) (t : TypeId) : Box3 (W.alloc (.cells #[v0, v1, v2] t)) W.heap.size v0 v1 v2 := by
  refine ⟨by simp, ?_, ?_, ?_, ?_⟩
  all_goals first | (intro o; simp [go_sem]; done) | simp [go_sem]
theorem Box3.below {W W' : World} {b : Nat} {v0 v1 v2 : Value} (h : Box3 W b v0 v1 v2) (g : Below W.heap.size W W') : Box3 W' b v0 v1 v2 := by
  obtain ⟨z, c0, c1, c2, cf⟩ := h
  exact ⟨Nat.lt_of_lt_of_le z g.size, (g.cell z).trans c0, (g.cell z).trans c1, (g.cell z).trans c2, fun o => (g.frozen z).trans (cf o)⟩
end Go.Proofs.YticdmepplfgdiaaGreatDoor
end
section
namespace Go.Proofs.YticdmepplfgdiaaGreatDoor
open Go.RowKit
theorem info3 : (Tryz.prog.info? 3).map (fun i => (i.zero, i.size, i.bytes)) = some (some (.int .i64 0), 1, 8) := by kernel_rfl
/-- is the port there a member? -/
def isM (ps : List Pt) (n : Int) (j : Nat) : Bool := match ps[j]? with | some x => x.t.contains n || x.p.contains n | none => false
/-- the members among so many ports -/
def Ms (ps : List Pt) (n : Int) (k : Nat) : List Int := ((List.range k).filter (isM ps n)).map fun j : Nat => (j : Int)
theorem Ms_hit {ps : List Pt} {n : Int} {k : Nat} (h : isM ps n k = true) : Ms ps n (k + 1) = Ms ps n k ++ [(k : Int)] := by simp [Ms, List.range_succ, List.filter_append, h]
theorem Ms_miss {ps : List Pt} {n : Int} {k : Nat} (h : isM ps n k = false) : Ms ps n (k + 1) = Ms ps n k := by simp [Ms, List.range_succ, List.filter_append, h]
theorem Ms_le (ps : List Pt) (n : Int) (k : Nat) : (Ms ps n k).length ≤ k := by
  rw [Ms, List.length_map]
  exact Nat.le_trans (List.length_filter_le _ _) (by simp)
/-- the row gathered so far, behind a callee -/
theorem row_below {W W' : World} {B : Nat} {v : Value} {m : Nat} {xs : List Value} (h : W.ownsRow B 3 1 v m xs) (g : Below W.heap.size W W') : W'.ownsRow B 3 1 v m xs :=
  h.kept (w' := W') (row := none) ⟨g.os, g.tape, g.output, g.size, fun k hk _ => g.block k hk⟩ (Classical.em _)
set_option maxRecDepth 100000 in
set_option maxHeartbeats 2000000 in
theorem members_any (v : Value) (ps : List Pt) (n : Int) (h20 : ps.length ≤ 20) (w : World) (hv : Ports w v ps) :
    Calls Tryz.prog 187 #[v, .int .i64 n] w fun e w' => (∃ u, e = .returned u ∧ w'.ownsRow w.heap.size 3 1 u (Ms ps n ps.length).length ((Ms ps n ps.length).map (Value.int .i64))) ∧ Below w.heap.size w w' := by
  obtain ⟨i0, hi, hz0, hz1, hz2⟩ := info_parts info3
  obtain ⟨a, cap, rfl, hzl, hx, h⟩ := hv
  have HX := Lib.hid hx
  clear hx
  go_enter Tryz.func187, Tryz.ntmps187
  go_wp2
  go_loopw [5, 6, 7, 10] (fun u _ _ i wr => ∃ k : Nat, k ≤ ps.length ∧ i = .int .i64 k ∧ wr.ownsRow w.heap.size 3 1 u (Ms ps n k).length ((Ms ps n k).map (Value.int .i64)) ∧ Below w.heap.size w wr) (fun _ _ _ i _ => ps.length + 1 - (intOf i).toNat)
  case atStart => exact ⟨0, Nat.zero_le _, rfl, World.ownsRow_nil _ _ _ _, Below.refl _ _⟩
  case round =>
    obtain ⟨k, hk, rfl, hown, hbw⟩ := hrel
    by_cases hlt : k < ps.length
    · obtain ⟨b, o, x, rfl, hb, hxk, hxm, c0, c1, c2⟩ := Ports.at h hlt
      have d0 := (hbw.cell (p := ⟨b, o + k * 3, none⟩) hb).trans c0
      have d1 := (hbw.cell (p := ⟨b, o + k * 3 + 1, none⟩) hb).trans c1
      have d2 := (hbw.cell (p := ⟨b, o + k * 3 + 2, none⟩) hb).trans c2
      have hl := ((HX.out x hxm).below hbw).below (bbox1 wr (.cells #[.int .i64 x.d, (.slice x.ta x.t.length x.tc), (.slice x.pa x.p.length x.pc)] 69))
      have hM : isM ps n k = true ↔ n ∈ x.t ∨ n ∈ x.p := by
        unfold isM
        rw [hxk]
        simp
      have hlt2 : (k : Int) < (ps.length : Int) := by omega
      have hle := Ms_le ps n k
      rcases hm : isM ps n k with _ | _
      · have HM := Lib.hid (member_any x.d (.slice x.ta x.t.length x.tc) (.slice x.pa x.p.length x.pc) x.t x.p n false (by rw [← hM, hm]) hl.2.2.1 hl.2.2.2 _ hl.1 hl.2.1)
        have hms := Ms_miss hm
        have HS := Lib.hid hms
        have HO := Lib.hid hown
        clear h c0 c1 c2 hl hM hm hms hown
        go_wp2_with ((with_reducible refine HM.out.mono ?_); rintro e w1 ⟨rfl, g1⟩)
        refine ⟨⟨k + 1, by omega, by go_num, by rw [HS.out]; exact row_below (HO.out.alloc _) g1, hbw.trans ((bstep (bbox1 _ _) g1).mono hbw.size)⟩, ?_⟩
        simp [intOf]; omega
      · have HM := Lib.hid (member_any x.d (.slice x.ta x.t.length x.tc) (.slice x.pa x.p.length x.pc) x.t x.p n true (by rw [← hM, hm]) hl.2.2.1 hl.2.2.2 _ hl.1 hl.2.1)
        have hms := Ms_hit hm
        have HS := Lib.hid hms
        have HO := Lib.hid hown
        clear h c0 c1 c2 hl hM hm hms hown
        go_wp2_with (first
          | ((with_reducible refine HM.out.mono ?_); rintro e w1 ⟨rfl, g1⟩; have b1 := hbw.trans ((bstep (bbox1 wr _) g1).mono hbw.size); have R1 := Lib.hid (row_below (HO.out.alloc _) g1))
          | (at_builtin; refine wpList_append_own _ rfl _ _ 23 rfl w.heap.size 3 i0 (.int .i64 0) 1 8 Tryz.underlying23 hi hz0 hz1 hz2 rfl (by decide) _ _ _ rfl (R1.out.alloc _) ⟨w1.heap.size, 0, none⟩ 1 1 [.int .i64 k] rfl rfl ?c1 ?c2 ?c3 ?c4 ?c5 ?_))
        case c1 =>
          intro j u hj
          match j, hj with
          | 0, hj => simp at hj; subst hj; simp [Addr.add, go_sem]
        case c2 => intro u hu; simp at hu; subst hu; rfl
        case c3 => unfold maxLen; omega
        case c4 => omega
        case c5 => have := b1.size; simp; omega
        · intro v' w2 hown' hgrow _
          have hb2 := (b1.alloc b1.size (.cells #[.int .i64 (k : Int)] 3)).grown hgrow (by have := b1.size; simp; omega) (fun j hj => ((R1.out.alloc (.cells #[.int .i64 (k : Int)] 3)).lt j hj).1)
          have HW := Lib.hid hown'
          clear hgrow hown'
          go_wp2
          refine ⟨⟨k + 1, by omega, by go_num, ?_, hb2⟩, ?_⟩
          · have h2 := HW.out
            rw [HS.out]
            simpa using h2
          · simp [intOf]; omega
    · have hle : ps.length ≤ k := by omega
      obtain rfl : k = ps.length := by omega
      have HI := Lib.hid hown
      clear h hown
      go_wp2
      go_ret
      exact ⟨⟨_, rfl, HI.out⟩, hbw⟩
end Go.Proofs.YticdmepplfgdiaaGreatDoor
end
