/-
  What vlan.Check, the document's own Check (siphonref12) and 'few' compute. Conditions: lists' lengths lie well within an int.
-/
import Derived.Test.YtpninodcjglboaaVFine
import Derived.Deep.RegionWith
namespace Go.Proofs.Ytpninodcjglboaa
open Go.RowKit

/-- a port: its Default, its lists, and the slices that hold them -/
structure Pt where
  d : Int
  t : List Int
  p : List Int
  ta : Option Addr
  tc : Nat
  pa : Option Addr
  pc : Nat
def Pt.Lies (W : World) (x : Pt) : Prop := Ints W (.slice x.ta x.t.length x.tc) x.t ∧ Ints W (.slice x.pa x.p.length x.pc) x.p ∧ x.t.length ≤ 9223372036854775807 ∧ x.p.length ≤ 9223372036854775807
theorem Pt.Lies.below {W W' : World} {x : Pt} (h : x.Lies W) (g : Below W.heap.size W W') : x.Lies W' := ⟨h.1.below g, h.2.1.below g, h.2.2⟩
/-- the row of ports -/
def PRow (W : World) (b o : Nat) (ps : List Pt) : Prop :=
  ∀ i (x : Pt), ps[i]? = some x → W.cell? ⟨b, o + i * 3, none⟩ = some (.int .i64 x.d) ∧ W.cell? ⟨b, o + i * 3 + 1, none⟩ = some (.slice x.ta x.t.length x.tc) ∧ W.cell? ⟨b, o + i * 3 + 2, none⟩ = some (.slice x.pa x.p.length x.pc)
def Ports (W : World) (v : Value) (ps : List Pt) : Prop :=
  ∃ (a : Option Addr) (cap : Nat), v = .slice a ps.length cap ∧ ps.length ≤ 9223372036854775807 ∧ (∀ x ∈ ps, x.Lies W) ∧ (ps = [] ∨ ∃ b o, a = some ⟨b, o, none⟩ ∧ b < W.heap.size ∧ PRow W b o ps)
theorem Ports.below {W W' : World} {v : Value} {ps : List Pt} (h : Ports W v ps) (g : Below W.heap.size W W') : Ports W' v ps := by
  obtain ⟨a, cap, rfl, hz, hx, h⟩ := h
  refine ⟨a, cap, rfl, hz, fun x q => (hx x q).below g, ?_⟩
  rcases h with h | ⟨b, o, rfl, hb, hc⟩
  · exact .inl h
  · exact .inr ⟨b, o, rfl, Nat.lt_of_lt_of_le hb g.size, fun i x q => ⟨(g.cell hb).trans (hc i x q).1, (g.cell hb).trans (hc i x q).2.1, (g.cell hb).trans (hc i x q).2.2⟩⟩
/-- the port where one is asked for -/
theorem Ports.at {W : World} {a : Option Addr} {ps : List Pt} {k : Nat} (h : ps = [] ∨ ∃ b o, a = some ⟨b, o, none⟩ ∧ b < W.heap.size ∧ PRow W b o ps) (hk : k < ps.length) :
    ∃ b o x, a = some ⟨b, o, none⟩ ∧ b < W.heap.size ∧ ps[k]? = some x ∧ x ∈ ps ∧ W.cell? ⟨b, o + k * 3, none⟩ = some (.int .i64 x.d) ∧ W.cell? ⟨b, o + k * 3 + 1, none⟩ = some (.slice x.ta x.t.length x.tc) ∧ W.cell? ⟨b, o + k * 3 + 2, none⟩ = some (.slice x.pa x.p.length x.pc) := by
  obtain ⟨b, o, ha, hb, hr⟩ := h.resolve_left (by rintro rfl; exact absurd hk (Nat.not_lt_zero _))
  have hx := List.getElem?_eq_getElem hk
  exact ⟨b, o, _, ha, hb, hx, List.getElem_mem hk, hr k _ hx⟩

def Few (ps : List Pt) : Prop := ps.length ≤ 20 ∧ ∀ x ∈ ps, x.t.length ≤ 60 ∧ x.p.length ≤ 60

set_option maxRecDepth 100000 in
set_option maxHeartbeats 1000000 in
theorem few_any (v : Value) (ps : List Pt) (r : Bool) (hr : r = true ↔ Few ps) (w : World) (hv : Ports w v ps) :
    Calls Try.prog 8 #[v] w fun e w' => e = .returned (.bool r) ∧ w = w' := by
  obtain ⟨a, cap, rfl, hz, hx, h⟩ := hv
  have HR := Lib.hid hr
  have HX := Lib.hid hx
  clear hr hx
  by_cases h20 : 20 < ps.length
  · have HF := Lib.hid (show r = false by rcases r with _ | _; rfl; exact absurd (HR.out.1 rfl).1 (by omega))
    have q1 : decide (20 < (ps.length : Int)) = true := decide_eq_true (by omega)
    clear h
    go_enter Try.func8, Try.ntmps8
    go_wp2
    go_ret
    exact ⟨ret_bool HF.out.symm, rfl⟩
  · have q1 : decide (20 < (ps.length : Int)) = false := decide_eq_false (by omega)
    go_enter Try.func8, Try.ntmps8
    go_wp2
    go_loopw [3] (fun i wr => ∃ k : Nat, k ≤ ps.length ∧ i = .int .i64 k ∧ Hid (∀ j x, j < k → ps[j]? = some x → x.t.length ≤ 60 ∧ x.p.length ≤ 60) ∧ wr = w) (fun i _ => ps.length + 1 - (intOf i).toNat)
    case atStart => exact ⟨0, Nat.zero_le _, rfl, fun j x hj => absurd hj (Nat.not_lt_zero _), rfl⟩
    case round =>
      obtain ⟨k, hk, rfl, hno, rfl⟩ := hrel
      by_cases hlt : k < ps.length
      · obtain ⟨b, o, x, rfl, hb, hxk, hxm, c0, c1, c2⟩ := Ports.at h hlt
        have hxi : ∀ j y, j < k + 1 → ps[j]? = some y → j < k ∨ y = x := fun j y hj hy => by
          rcases Nat.lt_succ_iff_lt_or_eq.1 hj with h2 | rfl
          · exact .inl h2
          · rw [hxk] at hy; exact .inr (Option.some.inj hy).symm
        have hlt2 : (k : Int) < (ps.length : Int) := by omega
        by_cases c3 : 60 < x.t.length
        · have HF := Lib.hid (show r = false by rcases r with _ | _; rfl; have := ((HR.out.1 rfl).2 x hxm).1; omega)
          have q3 : decide (60 < (x.t.length : Int)) = true := decide_eq_true (by omega)
          clear h hxi c3
          go_wp2
          go_ret
          exact ⟨ret_bool HF.out.symm, rfl⟩
        · have q3 : decide (60 < (x.t.length : Int)) = false := decide_eq_false (by omega)
          by_cases c4 : 60 < x.p.length
          · have HF := Lib.hid (show r = false by rcases r with _ | _; rfl; have := ((HR.out.1 rfl).2 x hxm).2; omega)
            have q4 : decide (60 < (x.p.length : Int)) = true := decide_eq_true (by omega)
            clear h hxi c3 c4
            go_wp2
            go_ret
            exact ⟨ret_bool HF.out.symm, rfl⟩
          · have q4 : decide (60 < (x.p.length : Int)) = false := decide_eq_false (by omega)
            have hne : ∀ j y, j < k + 1 → ps[j]? = some y → y.t.length ≤ 60 ∧ y.p.length ≤ 60 := fun j y hj hy => by
              rcases hxi j y hj hy with h2 | rfl
              · exact hno.out j y h2 hy
              · exact ⟨by omega, by omega⟩
            have HN := Lib.hid hne
            clear h hxi c3 c4 hne
            go_wp2
            refine ⟨⟨k + 1, by omega, by go_num, HN, trivial⟩, ?_⟩
            simp [intOf]; omega
      · have HF := Lib.hid (show r = true from HR.out.2 ⟨by omega, fun x hx => by
          obtain ⟨j, hj, rfl⟩ := List.getElem_of_mem hx
          exact hno.out j _ (by omega) (List.getElem?_eq_getElem hj)⟩)
        have hle : ps.length ≤ k := by omega
        clear h
        go_wp2
        go_ret
        exact ⟨ret_bool HF.out.symm, rfl⟩

/-- may ports be so? -/
def OkPorts (ps : List Pt) : Prop := 1 ≤ ps.length ∧ ps.length ≤ 16 ∧ ∀ x ∈ ps, Fine x.d x.t x.p

set_option maxRecDepth 100000 in
set_option maxHeartbeats 1000000 in
theorem check_any (v : Value) (ps : List Pt) (c : Int) (hc : (c = 0 ∧ OkPorts ps) ∨ (c = 3 ∧ ¬ OkPorts ps)) (w : World) (hv : Ports w v ps) :
    Calls Try.prog 15 #[v] w fun e w' => e = .returned (.int .i64 c) ∧ Below w.heap.size w w' := by
  obtain ⟨a, cap, rfl, hz, hx, h⟩ := hv
  have HC := Lib.hid hc
  have HX := Lib.hid hx
  clear hc hx
  by_cases h16 : ps.length < 1 ∨ 16 < ps.length
  · have HF := Lib.hid (show c = 3 by rcases HC.out with ⟨_, q⟩ | ⟨q, _⟩; (have := q.1; have := q.2.1; omega); exact q)
    have hq : decide ((ps.length : Int) < 1) = true ∨ (decide ((ps.length : Int) < 1) = false ∧ decide (16 < (ps.length : Int)) = true) := by
      simp only [decide_eq_true_eq, decide_eq_false_iff_not]; omega
    clear h h16
    rcases hq with q1 | ⟨q1, q2⟩
    all_goals
      go_enter Try.func15, Try.ntmps15
      go_wp2
      go_ret
      exact ⟨ret_int HF.out.symm, Below.refl _ _⟩
  · have q1 : decide ((ps.length : Int) < 1) = false := decide_eq_false (by omega)
    have q2 : decide (16 < (ps.length : Int)) = false := decide_eq_false (by omega)
    go_enter Try.func15, Try.ntmps15
    go_wp2
    go_loopw [4, 15] (fun _ i wr => ∃ k : Nat, k ≤ ps.length ∧ i = .int .i64 k ∧ Hid (∀ j x, j < k → ps[j]? = some x → Fine x.d x.t x.p) ∧ Below w.heap.size w wr) (fun _ i _ => ps.length + 1 - (intOf i).toNat)
    case atStart => exact ⟨0, Nat.zero_le _, rfl, fun j x hj => absurd hj (Nat.not_lt_zero _), Below.refl _ _⟩
    case round =>
      obtain ⟨k, hk, rfl, hno, hbw⟩ := hrel
      by_cases hlt : k < ps.length
      · obtain ⟨b, o, x, rfl, hb, hxk, hxm, c0, c1, c2⟩ := Ports.at h hlt
        have d0 := (hbw.cell (p := ⟨b, o + k * 3, none⟩) hb).trans c0
        have d1 := (hbw.cell (p := ⟨b, o + k * 3 + 1, none⟩) hb).trans c1
        have d2 := (hbw.cell (p := ⟨b, o + k * 3 + 2, none⟩) hb).trans c2
        have hl := ((HX.out x hxm).below hbw).below (bbox1 wr (.cells #[.int .i64 x.d, (.slice x.ta x.t.length x.tc), (.slice x.pa x.p.length x.pc)] 34))
        have hxi : ∀ j y, j < k + 1 → ps[j]? = some y → j < k ∨ y = x := fun j y hj hy => by
          rcases Nat.lt_succ_iff_lt_or_eq.1 hj with h2 | rfl
          · exact .inl h2
          · rw [hxk] at hy; exact .inr (Option.some.inj hy).symm
        have hlt2 : (k : Int) < (ps.length : Int) := by omega
        by_cases hf : Fine x.d x.t x.p
        · have HM := Lib.hid (vfine_any x.d (.slice x.ta x.t.length x.tc) (.slice x.pa x.p.length x.pc) x.t x.p true (iff_of_true rfl hf) hl.2.2.1 hl.2.2.2 _ hl.1 hl.2.1)
          have hne : ∀ j y, j < k + 1 → ps[j]? = some y → Fine y.d y.t y.p := fun j y hj hy => by
            rcases hxi j y hj hy with h2 | rfl
            · exact hno.out j y h2 hy
            · exact hf
          have HN := Lib.hid hne
          clear h c0 c1 c2 hl hxi hf hne
          go_wp2_with ((with_reducible refine HM.out.mono ?_); rintro e w1 ⟨rfl, g1⟩)
          refine ⟨⟨k + 1, by omega, by go_num, HN, hbw.trans ((bstep (bbox1 _ _) g1).mono hbw.size)⟩, ?_⟩
          simp [intOf]; omega
        · have HM := Lib.hid (vfine_any x.d (.slice x.ta x.t.length x.tc) (.slice x.pa x.p.length x.pc) x.t x.p false (iff_of_false (by decide) hf) hl.2.2.1 hl.2.2.2 _ hl.1 hl.2.1)
          have HF := Lib.hid (show c = 3 by rcases HC.out with ⟨_, q⟩ | ⟨q, _⟩; exact absurd (q.2.2 x hxm) hf; exact q)
          clear h c0 c1 c2 hl hxi hf
          go_wp2_with ((with_reducible refine HM.out.mono ?_); rintro e w1 ⟨rfl, g1⟩)
          go_ret
          exact ⟨ret_int HF.out.symm, hbw.trans ((bstep (bbox1 _ _) g1).mono hbw.size)⟩
      · have HF := Lib.hid (show c = 0 by
          rcases HC.out with ⟨q, _⟩ | ⟨_, q⟩
          · exact q
          · exact absurd ⟨by omega, by omega, fun x hx => by
              obtain ⟨j, hj, rfl⟩ := List.getElem_of_mem hx
              exact hno.out j _ (by omega) (List.getElem?_eq_getElem hj)⟩ q)
        have hle : ps.length ≤ k := by omega
        clear h
        go_wp2
        go_ret
        exact ⟨ret_int HF.out.symm, hbw⟩
end Go.Proofs.Ytpninodcjglboaa
