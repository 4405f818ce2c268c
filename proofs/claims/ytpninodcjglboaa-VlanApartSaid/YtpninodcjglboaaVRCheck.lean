/-
  What the document's own Check (siphonref12) computes. Conditions: lists' lengths lie well within an int.
-/
import Derived.Test.YtpninodcjglboaaVCheck
import Derived.Deep.RegionWith
namespace Go.Proofs.Ytpninodcjglboaa
open Go.RowKit

/-- a box of three cells -/
def Box3 (W : World) (b : Nat) (v0 v1 v2 : Value) : Prop :=
  b < W.heap.size ∧ W.cell? ⟨b, 0, none⟩ = some v0 ∧ W.cell? ⟨b, 1, none⟩ = some v1 ∧ W.cell? ⟨b, 2, none⟩ = some v2 ∧ ∀ o, W.frozen? ⟨b, o, none⟩ = false
theorem Box3.new (W : World) (v0 v1 v2 : Value) (t : TypeId) : Box3 (W.alloc (.cells #[v0, v1, v2] t)) W.heap.size v0 v1 v2 := by
  refine ⟨by simp, ?_, ?_, ?_, ?_⟩
  all_goals first | (intro o; simp [go_sem]; done) | simp [go_sem]
theorem Box3.below {W W' : World} {b : Nat} {v0 v1 v2 : Value} (h : Box3 W b v0 v1 v2) (g : Below W.heap.size W W') : Box3 W' b v0 v1 v2 := by
  obtain ⟨z, c0, c1, c2, cf⟩ := h
  exact ⟨Nat.lt_of_lt_of_le z g.size, (g.cell z).trans c0, (g.cell z).trans c1, (g.cell z).trans c2, fun o => (g.frozen z).trans (cf o)⟩

set_option maxRecDepth 100000 in
set_option maxHeartbeats 2000000 in
theorem rcheck_any (v : Value) (ps : List Pt) (c : Int) (hc : (c = 0 ∧ OkPorts ps) ∨ (c = 3 ∧ ¬ OkPorts ps)) (w : World) (hv : Ports w v ps) :
    Calls Try.prog 16 #[v] w fun e w' => e = .returned (.int .i64 c) ∧ Below w.heap.size w w' := by
  obtain ⟨a, cap, rfl, hz, hx, h⟩ := hv
  have HC := Lib.hid hc
  have HX := Lib.hid hx
  clear hc hx
  by_cases h16 : ps.length < 1 ∨ 16 < ps.length
  · have HF := Lib.hid (show c = 3 by rcases HC.out with ⟨_, q⟩ | ⟨q, _⟩; (have := q.1; have := q.2.1; omega); exact q)
    have hq : decide ((ps.length : Int) < 1) = true ∨ (decide ((ps.length : Int) < 1) = false ∧ decide (16 < (ps.length : Int)) = true) := by
      simp only [decide_eq_true_eq, decide_eq_false_iff_not]; omega
    clear h h16
    rcases hq with q1 | ⟨q1, q2⟩
    all_goals
      go_enter Try.func16, Try.ntmps16
      go_wp2
      go_ret
      exact ⟨ret_int HF.out.symm, Below.refl _ _⟩
  · have q1 : decide ((ps.length : Int) < 1) = false := decide_eq_false (by omega)
    have q2 : decide (16 < (ps.length : Int)) = false := decide_eq_false (by omega)
    go_enter Try.func16, Try.ntmps16
    go_wp2
    go_loopw [3, 4, 5] (fun i _ _ wr => ∃ k : Nat, k ≤ ps.length ∧ i = .int .i64 k ∧ Hid (∀ j x, j < k → ps[j]? = some x → Fine x.d x.t x.p) ∧ Below w.heap.size w wr) (fun i _ _ _ => ps.length + 1 - (intOf i).toNat)
    case atStart => exact ⟨0, Nat.zero_le _, rfl, fun j x hj => absurd hj (Nat.not_lt_zero _), Below.refl _ _⟩
    case round =>
      obtain ⟨k, hk, rfl, hno, hbw⟩ := hrel
      by_cases hlt : k < ps.length
      · obtain ⟨b, o, x, rfl, hb, hxk, hxm, c0, c1, c2⟩ := Ports.at h hlt
        have d0 := (hbw.cell (p := ⟨b, o + k * 3, none⟩) hb).trans c0
        have d1 := (hbw.cell (p := ⟨b, o + k * 3 + 1, none⟩) hb).trans c1
        have d2 := (hbw.cell (p := ⟨b, o + k * 3 + 2, none⟩) hb).trans c2
        have L0 := ((HX.out x hxm).below hbw).below (bbox1 wr (.cells #[.int .i64 x.d, (.slice x.ta x.t.length x.tc), (.slice x.pa x.p.length x.pc)] 34))
        have B0 := Box3.new wr (.int .i64 x.d) (.slice x.ta x.t.length x.tc) (.slice x.pa x.p.length x.pc) 34
        have LL := L0
        obtain ⟨-, -, n1, n2⟩ := LL
        have hlt2 : (k : Int) < (ps.length : Int) := by omega
        obtain ⟨f1, e1⟩ := tell (Rises x.t)
        obtain ⟨f2, e2⟩ := tell (Rises x.p)
        obtain ⟨f5, e5⟩ := tell (x.d ∈ x.t ∨ x.d ∈ x.p)
        obtain ⟨f4, e4⟩ : ∃ b, b = (x.d != 0) := ⟨_, rfl⟩
        have f4' := e4.symm
        have R1 := Lib.hid (fun (W : World) (q : Pt.Lies W x) => rrises_any (.slice x.ta x.t.length x.tc) x.t f1 e1 n1 W q.1)
        have R2 := Lib.hid (fun (W : World) (q : Pt.Lies W x) => rrises_any (.slice x.pa x.p.length x.pc) x.p f2 e2 n2 W q.2.1)
        have R5 := Lib.hid (fun (W : World) (q : Pt.Lies W x) => rmember_any x.d (.slice x.ta x.t.length x.tc) (.slice x.pa x.p.length x.pc) x.t x.p x.d f5 e5 n1 n2 W q.1 q.2.1)
        have hbad : ¬ Fine x.d x.t x.p → c = 3 := fun hf => by rcases HC.out with ⟨_, q⟩ | ⟨q, _⟩; exact absurd (q.2.2 x hxm) hf; exact q
        have hgo : Fine x.d x.t x.p → ∀ j y, j < k + 1 → ps[j]? = some y → Fine y.d y.t y.p := fun hf j y hj hy => by
          rcases Nat.lt_succ_iff_lt_or_eq.1 hj with h2 | rfl
          · exact hno.out j y h2 hy
          · rw [hxk] at hy; rw [← Option.some.inj hy]; exact hf
        have HBAD := Lib.hid hbad
        have HGO := Lib.hid hgo
        have E1 := Lib.hid e1
        have E2 := Lib.hid e2
        have E5 := Lib.hid e5
        have E4 := Lib.hid e4
        clear h c0 c1 c2 hbad hgo e1 e2 e5 e4
        rcases f1 with _ | _
        · have HF := Lib.hid (HBAD.out (by rintro ⟨q1, _⟩; exact absurd (E1.out.2 q1) (by decide)))
          go_wp2_with (first | ((with_reducible refine (R1.out _ L0).mono ?_); rintro e w1 ⟨rfl, g1⟩; have L1 := L0.below g1; have B1 := B0.below g1; obtain ⟨-, m10, m11, m12, -⟩ := B1))
          go_ret
          exact ⟨ret_int HF.out.symm, hbw.trans ((bstep (bbox1 _ _) g1).mono hbw.size)⟩
        · have tok1 : True := trivial
          rcases f2 with _ | _
          · have HF := Lib.hid (HBAD.out (by rintro ⟨_, q1, _⟩; exact absurd (E2.out.2 q1) (by decide)))
            go_wp2_with (first | ((with_reducible refine (R1.out _ L0).mono ?_); rintro e w1 ⟨rfl, g1⟩; have L1 := L0.below g1; have B1 := B0.below g1; obtain ⟨-, m10, m11, m12, -⟩ := B1) | ((with_reducible refine (R2.out _ L1).mono ?_); rintro e w2 ⟨rfl, g2⟩; have L2 := L1.below g2; have B2 := (B0.below g1).below g2; obtain ⟨-, m20, m21, m22, -⟩ := B2))
            go_ret
            exact ⟨ret_int HF.out.symm, hbw.trans ((bstep (bstep (bbox1 _ _) g1) g2).mono hbw.size)⟩
          · have tok2 : True := trivial
            rcases f4 with _ | _
            · have HD := Lib.hid (show x.d = 0 ∨ (x.d ∈ x.t ∨ x.d ∈ x.p) from .inl (by simpa using f4'))
              go_wp2_with (first | ((with_reducible refine (R1.out _ L0).mono ?_); rintro e w1 ⟨rfl, g1⟩; have L1 := L0.below g1; have B1 := B0.below g1; obtain ⟨-, m10, m11, m12, -⟩ := B1) | ((with_reducible refine (R2.out _ L1).mono ?_); rintro e w2 ⟨rfl, g2⟩; have L2 := L1.below g2; have B2 := (B0.below g1).below g2; obtain ⟨-, m20, m21, m22, -⟩ := B2))
              have bz := bstep (bstep (bbox1 _ _) g1) g2
              have Bz : Box3 w2 wr.heap.size _ _ _ := ⟨Nat.lt_of_lt_of_le B0.1 (by have := g1.size; have := g2.size; omega), m20, m21, m22, ((B0.below g1).below g2).2.2.2.2⟩
              clear m10 m11 m12 m20 m21 m22
              go_loopw [5] (fun i wq => ∃ q : Nat, q ≤ x.t.length ∧ i = .int .i64 q ∧ Hid (∀ n, n ∈ x.t.take q → n ∉ x.p) ∧ Below w2.heap.size w2 wq) (fun i _ => x.t.length + 1 - (intOf i).toNat)
              case atStart => exact ⟨0, Nat.zero_le _, rfl, by show ∀ n, n ∈ x.t.take 0 → n ∉ x.p; simp, Below.refl _ _⟩
              case round =>
                obtain ⟨q, hq, rfl, hnq, hbq⟩ := hrel
                obtain ⟨-, a0, a1, a2, -⟩ := Bz.below hbq
                have Lq := L2.below hbq
                by_cases hqt : q < x.t.length
                · obtain ⟨⟨ra, rc, re, rr⟩, -, -, -⟩ := Lq
                  cases re
                  obtain ⟨rb, ro, rta, rlt, rcs⟩ := Ints.row rr hqt
                  have hcq := rcs q hqt
                  rw [rta] at a1
                  clear rta
                  obtain ⟨y, ey⟩ : ∃ y, y = x.t.getD q 0 := ⟨_, rfl⟩
                  rw [← ey] at hcq
                  have hqt2 : (q : Int) < (x.t.length : Int) := by omega
                  have hmem : y ∈ x.t := getD_contains hqt ey.symm
                  have htk : ∀ n, n ∈ x.t.take (q + 1) → n ∈ x.t.take q ∨ n = y := fun n hn => by
                    rw [List.take_succ_eq_append_getElem hqt, List.mem_append, List.mem_singleton] at hn
                    rcases hn with hn | hn
                    · exact .inl hn
                    · exact .inr (by rw [hn, ey, List.getD_eq_getElem?_getD, List.getElem?_eq_getElem hqt]; rfl)
                  have IP := (L2.below hbq).2.1
                  by_cases hyp : y ∈ x.p
                  · have HH := Lib.hid (has_any (.slice x.pa x.p.length x.pc) x.p y true (iff_of_true rfl hyp) n2 wr.drew IP)
                    have HF := Lib.hid (HBAD.out (by rintro ⟨_, _, q3, _⟩; exact q3 ⟨y, hmem, hyp⟩))
                    clear rcs rr htk hmem hyp ey
                    go_wp2
                    go_region_with ((with_reducible refine HH.out.mono ?_); rintro e w7 ⟨rfl, rfl⟩)
                    all_goals
                      go_wp2
                      go_ret
                      exact ⟨ret_int HF.out.symm, hbw.trans ((bz.trans ((hbq.mono bz.size).drew)).mono hbw.size)⟩
                  · have HH := Lib.hid (has_any (.slice x.pa x.p.length x.pc) x.p y false (iff_of_false (by decide) hyp) n2 wr.drew IP)
                    have hne : ∀ n, n ∈ x.t.take (q + 1) → n ∉ x.p := fun n hn => by
                      rcases htk n hn with h1 | rfl
                      · exact hnq.out n h1
                      · exact hyp
                    have HN := Lib.hid hne
                    clear rcs rr htk hmem hyp ey hne
                    go_wp2
                    go_region_with ((with_reducible refine HH.out.mono ?_); rintro e w7 ⟨rfl, rfl⟩)
                    all_goals
                      go_wp2
                      go_roundw
                      case rel => exact ⟨q + 1, by omega, by go_num, HN, hbq.drew⟩
                      case measure => simp [intOf]; omega
                · have hle : x.t.length ≤ q := by omega
                  have hne : ¬ ∃ n, n ∈ x.t ∧ n ∈ x.p := by
                    rintro ⟨n, h1, h2⟩
                    have h3 := hnq.out n
                    rw [List.take_of_length_le hle] at h3
                    exact h3 h1 h2
                  have HN := Lib.hid (HGO.out ⟨E1.out.1 trivial, E2.out.1 trivial, hne, HD.out⟩)
                  clear Lq hne
                  go_wp2
                  refine ⟨⟨k + 1, by omega, by go_num, HN, hbw.trans ((bz.trans (hbq.mono bz.size)).mono hbw.size)⟩, ?_⟩
                  simp [intOf]; omega
            · have tok4 : True := trivial
              rcases f5 with _ | _
              · have HF := Lib.hid (HBAD.out (by rintro ⟨_, _, _, q1 | q1⟩; (rw [q1] at f4'; exact absurd f4' (by decide)); exact absurd (E5.out.2 q1) (by decide)))
                go_wp2_with (first | ((with_reducible refine (R1.out _ L0).mono ?_); rintro e w1 ⟨rfl, g1⟩; have L1 := L0.below g1; have B1 := B0.below g1; obtain ⟨-, m10, m11, m12, -⟩ := B1) | ((with_reducible refine (R2.out _ L1).mono ?_); rintro e w2 ⟨rfl, g2⟩; have L2 := L1.below g2; have B2 := (B0.below g1).below g2; obtain ⟨-, m20, m21, m22, -⟩ := B2) | ((with_reducible refine (R5.out _ L2).mono ?_); rintro e w5 ⟨rfl, g5⟩; have L5 := L2.below g5; have B5 := ((B0.below g1).below g2).below g5; obtain ⟨-, m50, m51, m52, -⟩ := B5))
                go_ret
                exact ⟨ret_int HF.out.symm, hbw.trans ((bstep (bstep (bstep (bbox1 _ _) g1) g2) g5).mono hbw.size)⟩
              · have HD := Lib.hid (show x.d = 0 ∨ (x.d ∈ x.t ∨ x.d ∈ x.p) from .inr (E5.out.1 rfl))
                go_wp2_with (first | ((with_reducible refine (R1.out _ L0).mono ?_); rintro e w1 ⟨rfl, g1⟩; have L1 := L0.below g1; have B1 := B0.below g1; obtain ⟨-, m10, m11, m12, -⟩ := B1) | ((with_reducible refine (R2.out _ L1).mono ?_); rintro e w2 ⟨rfl, g2⟩; have L2 := L1.below g2; have B2 := (B0.below g1).below g2; obtain ⟨-, m20, m21, m22, -⟩ := B2) | ((with_reducible refine (R5.out _ L2).mono ?_); rintro e w5 ⟨rfl, g5⟩; have L5 := L2.below g5; have B5 := ((B0.below g1).below g2).below g5; obtain ⟨-, m50, m51, m52, -⟩ := B5))
                have bz := bstep (bstep (bstep (bbox1 _ _) g1) g2) g5
                have Bz : Box3 w5 wr.heap.size _ _ _ := ⟨Nat.lt_of_lt_of_le B0.1 (by have := g1.size; have := g2.size; have := g5.size; omega), m50, m51, m52, (((B0.below g1).below g2).below g5).2.2.2.2⟩
                clear m10 m11 m12 m20 m21 m22 m50 m51 m52
                go_loopw [5] (fun i wq => ∃ q : Nat, q ≤ x.t.length ∧ i = .int .i64 q ∧ Hid (∀ n, n ∈ x.t.take q → n ∉ x.p) ∧ Below w5.heap.size w5 wq) (fun i _ => x.t.length + 1 - (intOf i).toNat)
                case atStart => exact ⟨0, Nat.zero_le _, rfl, by show ∀ n, n ∈ x.t.take 0 → n ∉ x.p; simp, Below.refl _ _⟩
                case round =>
                  obtain ⟨q, hq, rfl, hnq, hbq⟩ := hrel
                  obtain ⟨-, a0, a1, a2, -⟩ := Bz.below hbq
                  have Lq := L5.below hbq
                  by_cases hqt : q < x.t.length
                  · obtain ⟨⟨ra, rc, re, rr⟩, -, -, -⟩ := Lq
                    cases re
                    obtain ⟨rb, ro, rta, rlt, rcs⟩ := Ints.row rr hqt
                    have hcq := rcs q hqt
                    rw [rta] at a1
                    clear rta
                    obtain ⟨y, ey⟩ : ∃ y, y = x.t.getD q 0 := ⟨_, rfl⟩
                    rw [← ey] at hcq
                    have hqt2 : (q : Int) < (x.t.length : Int) := by omega
                    have hmem : y ∈ x.t := getD_contains hqt ey.symm
                    have htk : ∀ n, n ∈ x.t.take (q + 1) → n ∈ x.t.take q ∨ n = y := fun n hn => by
                      rw [List.take_succ_eq_append_getElem hqt, List.mem_append, List.mem_singleton] at hn
                      rcases hn with hn | hn
                      · exact .inl hn
                      · exact .inr (by rw [hn, ey, List.getD_eq_getElem?_getD, List.getElem?_eq_getElem hqt]; rfl)
                    have IP := (L5.below hbq).2.1
                    by_cases hyp : y ∈ x.p
                    · have HH := Lib.hid (has_any (.slice x.pa x.p.length x.pc) x.p y true (iff_of_true rfl hyp) n2 wr.drew IP)
                      have HF := Lib.hid (HBAD.out (by rintro ⟨_, _, q3, _⟩; exact q3 ⟨y, hmem, hyp⟩))
                      clear rcs rr htk hmem hyp ey
                      go_wp2
                      go_region_with ((with_reducible refine HH.out.mono ?_); rintro e w7 ⟨rfl, rfl⟩)
                      all_goals
                        go_wp2
                        go_ret
                        exact ⟨ret_int HF.out.symm, hbw.trans ((bz.trans ((hbq.mono bz.size).drew)).mono hbw.size)⟩
                    · have HH := Lib.hid (has_any (.slice x.pa x.p.length x.pc) x.p y false (iff_of_false (by decide) hyp) n2 wr.drew IP)
                      have hne : ∀ n, n ∈ x.t.take (q + 1) → n ∉ x.p := fun n hn => by
                        rcases htk n hn with h1 | rfl
                        · exact hnq.out n h1
                        · exact hyp
                      have HN := Lib.hid hne
                      clear rcs rr htk hmem hyp ey hne
                      go_wp2
                      go_region_with ((with_reducible refine HH.out.mono ?_); rintro e w7 ⟨rfl, rfl⟩)
                      all_goals
                        go_wp2
                        go_roundw
                        case rel => exact ⟨q + 1, by omega, by go_num, HN, hbq.drew⟩
                        case measure => simp [intOf]; omega
                  · have hle : x.t.length ≤ q := by omega
                    have hne : ¬ ∃ n, n ∈ x.t ∧ n ∈ x.p := by
                      rintro ⟨n, h1, h2⟩
                      have h3 := hnq.out n
                      rw [List.take_of_length_le hle] at h3
                      exact h3 h1 h2
                    have HN := Lib.hid (HGO.out ⟨E1.out.1 trivial, E2.out.1 trivial, hne, HD.out⟩)
                    clear Lq hne
                    go_wp2
                    refine ⟨⟨k + 1, by omega, by go_num, HN, hbw.trans ((bz.trans (hbq.mono bz.size)).mono hbw.size)⟩, ?_⟩
                    simp [intOf]; omega
      · have HF := Lib.hid (show c = 0 by
          rcases HC.out with ⟨q, _⟩ | ⟨_, q⟩
          · exact q
          · exact absurd ⟨by omega, by omega, fun x hx => by
              obtain ⟨j, hj, rfl⟩ := List.getElem_of_mem hx
              exact hno.out j _ (by omega) (List.getElem?_eq_getElem hj)⟩ q)
        have hle : ps.length ≤ k := by omega
        clear h
        go_wp2
        go_ret
        exact ⟨ret_int HF.out.symm, hbw⟩
end Go.Proofs.Ytpninodcjglboaa
