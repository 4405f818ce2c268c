/-
  What vlan.Members and the document's own Members (siphonref12) compute, and SameInts. Conditions: at most 20 ports.
-/
import Derived.Test.YtpninodcjglboaaVRCheck
namespace Go.Proofs.Ytpninodcjglboaa
open Go.RowKit

theorem info3 : (Try.prog.info? 3).map (fun i => (i.zero, i.size, i.bytes)) = some (some (.int .i64 0), 1, 8) := by kernel_rfl

/-- is the port there a member? -/
def isM (ps : List Pt) (n : Int) (j : Nat) : Bool := match ps[j]? with | some x => x.t.contains n || x.p.contains n | none => false
/-- the members among so many ports -/
def Ms (ps : List Pt) (n : Int) (k : Nat) : List Int := ((List.range k).filter (isM ps n)).map fun j : Nat => (j : Int)
theorem Ms_zero (ps : List Pt) (n : Int) : Ms ps n 0 = [] := rfl
theorem Ms_hit {ps : List Pt} {n : Int} {k : Nat} (h : isM ps n k = true) : Ms ps n (k + 1) = Ms ps n k ++ [(k : Int)] := by simp [Ms, List.range_succ, List.filter_append, h]
theorem Ms_miss {ps : List Pt} {n : Int} {k : Nat} (h : isM ps n k = false) : Ms ps n (k + 1) = Ms ps n k := by simp [Ms, List.range_succ, List.filter_append, h]
theorem Ms_le (ps : List Pt) (n : Int) (k : Nat) : (Ms ps n k).length ≤ k := by
  rw [Ms, List.length_map]
  exact Nat.le_trans (List.length_filter_le _ _) (by simp)
theorem Ms_mem (ps : List Pt) (n : Int) (k j : Nat) : (j : Int) ∈ Ms ps n k ↔ j < k ∧ isM ps n j = true := by
  simp only [Ms, List.mem_map, List.mem_filter, List.mem_range]
  constructor
  · rintro ⟨i, ⟨h1, h2⟩, h3⟩
    have : i = j := by omega
    subst this
    exact ⟨h1, h2⟩
  · intro h
    exact ⟨j, h, rfl⟩

theorem ints_of_row {W : World} {B : Nat} {v : Value} {l : List Int} (h : W.ownsRow B 3 1 v l.length (l.map (Value.int .i64))) : Ints W v l := by
  have hh := h
  rcases h.2 with ⟨rfl, h0⟩ | ⟨g, cap, cur, rfl, hb, hg, _⟩
  · have : l = [] := List.length_eq_zero_iff.1 h0
    subst this
    exact ⟨none, 0, rfl, .inl rfl⟩
  · refine ⟨_, cap, rfl, .inr ⟨g, 0, rfl, ?_, fun i hi => ?_⟩⟩
    · rcases Nat.lt_or_ge g W.heap.size with h' | h'
      · exact h'
      · simp [Array.getElem?_eq_none h'] at hg
    · rw [Nat.zero_add, hh.cellAt i (by omega), List.getElem?_map, List.getD_eq_getElem?_getD, List.getElem?_eq_getElem hi]
      rfl

/-- the row gathered so far, behind a callee -/
theorem row_below {W W' : World} {B : Nat} {v : Value} {m : Nat} {xs : List Value} (h : W.ownsRow B 3 1 v m xs) (g : Below W.heap.size W W') : W'.ownsRow B 3 1 v m xs :=
  h.kept (w' := W') (row := none) ⟨g.os, g.tape, g.output, g.size, fun k hk _ => g.block k hk⟩ (Classical.em _)

set_option maxRecDepth 100000 in
set_option maxHeartbeats 2000000 in
theorem members_any (v : Value) (ps : List Pt) (n : Int) (h20 : ps.length ≤ 20) (w : World) (hv : Ports w v ps) :
    Calls Try.prog 14 #[v, .int .i64 n] w fun e w' => (∃ u, e = .returned u ∧ Ints w' u (Ms ps n ps.length)) ∧ Below w.heap.size w w' := by
  obtain ⟨i0, hi, hz0, hz1, hz2⟩ := info_parts info3
  obtain ⟨a, cap, rfl, hzl, hx, h⟩ := hv
  have HX := Lib.hid hx
  clear hx
  go_enter Try.func14, Try.ntmps14
  go_wp2
  go_loopw [5, 6, 7, 10] (fun u _ _ i wr => ∃ k : Nat, k ≤ ps.length ∧ i = .int .i64 k ∧ wr.ownsRow w.heap.size 3 1 u (Ms ps n k).length ((Ms ps n k).map (Value.int .i64)) ∧ Below w.heap.size w wr) (fun _ _ _ i _ => ps.length + 1 - (intOf i).toNat)
  case atStart => exact ⟨0, Nat.zero_le _, rfl, World.ownsRow_nil _ _ _ _, Below.refl _ _⟩
  case round =>
    obtain ⟨k, hk, rfl, hown, hbw⟩ := hrel
    by_cases hlt : k < ps.length
    · obtain ⟨b, o, x, rfl, hb, hxk, hxm, c0, c1, c2⟩ := Ports.at h hlt
      have d0 := (hbw.cell (p := ⟨b, o + k * 3, none⟩) hb).trans c0
      have d1 := (hbw.cell (p := ⟨b, o + k * 3 + 1, none⟩) hb).trans c1
      have d2 := (hbw.cell (p := ⟨b, o + k * 3 + 2, none⟩) hb).trans c2
      have hl := ((HX.out x hxm).below hbw).below (bbox1 wr (.cells #[.int .i64 x.d, (.slice x.ta x.t.length x.tc), (.slice x.pa x.p.length x.pc)] 34))
      have hM : isM ps n k = true ↔ n ∈ x.t ∨ n ∈ x.p := by
        unfold isM
        rw [hxk]
        simp
      have hlt2 : (k : Int) < (ps.length : Int) := by omega
      have hle := Ms_le ps n k
      rcases hm : isM ps n k with _ | _
      · have HM := Lib.hid (member_any x.d (.slice x.ta x.t.length x.tc) (.slice x.pa x.p.length x.pc) x.t x.p n false (by rw [← hM, hm]) hl.2.2.1 hl.2.2.2 _ hl.1 hl.2.1)
        have hms := Ms_miss hm
        have HS := Lib.hid hms
        have HO := Lib.hid hown
        clear h c0 c1 c2 hl hM hm hms hown
        go_wp2_with ((with_reducible refine HM.out.mono ?_); rintro e w1 ⟨rfl, g1⟩)
        refine ⟨⟨k + 1, by omega, by go_num, by rw [HS.out]; exact row_below (HO.out.alloc _) g1, hbw.trans ((bstep (bbox1 _ _) g1).mono hbw.size)⟩, ?_⟩
        simp [intOf]; omega
      · have HM := Lib.hid (member_any x.d (.slice x.ta x.t.length x.tc) (.slice x.pa x.p.length x.pc) x.t x.p n true (by rw [← hM, hm]) hl.2.2.1 hl.2.2.2 _ hl.1 hl.2.1)
        have hms := Ms_hit hm
        have HS := Lib.hid hms
        have HO := Lib.hid hown
        clear h c0 c1 c2 hl hM hm hms hown
        go_wp2_with (first
          | ((with_reducible refine HM.out.mono ?_); rintro e w1 ⟨rfl, g1⟩; have b1 := hbw.trans ((bstep (bbox1 wr _) g1).mono hbw.size); have R1 := Lib.hid (row_below (HO.out.alloc _) g1))
          | (at_builtin; refine wpList_append_own _ rfl _ _ 32 rfl w.heap.size 3 i0 (.int .i64 0) 1 8 Try.underlying32 hi hz0 hz1 hz2 rfl (by decide) _ _ _ rfl (R1.out.alloc _) ⟨w1.heap.size, 0, none⟩ 1 1 [.int .i64 k] rfl rfl ?c1 ?c2 ?c3 ?c4 ?c5 ?_))
        case c1 =>
          intro j u hj
          match j, hj with
          | 0, hj => simp at hj; subst hj; simp [Addr.add, go_sem]
        case c2 => intro u hu; simp at hu; subst hu; rfl
        case c3 => unfold maxLen; omega
        case c4 => omega
        case c5 => have := b1.size; simp; omega
        · intro v' w2 hown' hgrow _
          have hb2 := (b1.alloc b1.size (.cells #[.int .i64 (k : Int)] 3)).grown hgrow (by have := b1.size; simp; omega) (fun j hj => ((R1.out.alloc (.cells #[.int .i64 (k : Int)] 3)).lt j hj).1)
          have HW := Lib.hid hown'
          clear hgrow hown'
          go_wp2
          refine ⟨⟨k + 1, by omega, by go_num, ?_, hb2⟩, ?_⟩
          · have h2 := HW.out
            rw [HS.out]
            simpa using h2
          · simp [intOf]; omega
    · have hle : ps.length ≤ k := by omega
      have HI := Lib.hid (ints_of_row hown)
      obtain rfl : k = ps.length := by omega
      clear h hown
      go_wp2
      go_ret
      exact ⟨⟨_, rfl, HI.out⟩, hbw⟩
end Go.Proofs.Ytpninodcjglboaa
