/-
  What the program's ipv4.Alert tells. Condition: a text's length lies well within an int.
-/
import Derived.Test.YtoljmeemejmjfaaAlPl
import Derived.Test.YtoljmeemejmjfaaBox7
import Derived.Test.YtoljmeemejmjfaaGet
import Derived.Lib.Strings
import Derived.WalkMore
namespace Go.Proofs.Ytoljmeemejmjfaa
open Go.RowKit

/-- how long a text is -/
def strLen : Value → Nat | .string s => s.size | _ => 0

set_option maxRecDepth 100000 in
set_option maxHeartbeats 2000000 in
theorem alert_any (s : ByteArray) (hs : s.size ≤ 281474976710656) (v : Bool) (c : Int) (hR : Al.tell s.data.toList false = (v, c)) (w : World) :
    Calls Try.prog 15 #[.string s] w fun e w' => e = .returned (.tuple #[.bool v, .int .i64 c]) ∧ Below w.heap.size w w' := by
  go_enter Try.func15, Try.ntmps15
  go_wp2
  go_step3
  go_wp2
  go_step3
  go_wp2
  go_loopw [0, 2, 4, 5] (fun S F _ _ wr => ∃ (x : ByteArray) (f : Bool), S = .string x ∧ F = .bool f ∧ Hid (Al.tell x.data.toList f = (v, c)) ∧ x.size ≤ 281474976710656 ∧ Below w.heap.size w wr)
    (fun S _ _ _ _ => strLen S)
  case atStart => exact ⟨s, false, rfl, rfl, hR, hs, Below.refl _ _⟩
  case round =>
    obtain ⟨x, f, rfl, rfl, hx, hz, hb⟩ := hrel
    clear hs hR
    have hbt := PlainAid.get_bt x
    have ex := size_toList x
    have e0 := bt_at x 0
    rcases Al.cases _ _ _ _ hx.out with ⟨hl, rfl, rfl⟩ | ⟨k, r, hl, hk, rfl, rfl⟩ | ⟨k, r, hl, hk, ht⟩ | ⟨k, r, hl, hk, hn, rfl, rfl⟩ | ⟨k, r, hl, hk, hn, hn2, ht⟩
    · have h0 : x.size = 0 := by rw [← ex, hl]; rfl
      clear hl ex e0 hx
      go_wp2
      (try rw [Exit.noGoto_ret])
      go_ret2
      exact ⟨rfl, hb⟩
    all_goals
      rw [hl, List.length_cons] at ex
      rw [hl, List.getD_cons_zero] at e0
      have hpos : 0 < x.size := by omega
    · rw [hk] at e0
      have q0 : (PlainAid.bt x 0 == 0) = true := by rw [e0]; rfl
      clear hl ex e0 hx
      go_wp2
      (try rw [Exit.noGoto_ret])
      go_ret2
      exact ⟨rfl, hb⟩
    · rw [hk] at e0
      have q0 : (PlainAid.bt x 0 == 0) = false := by rw [e0]; rfl
      have q1 : (PlainAid.bt x 0 == 1) = true := by rw [e0]; rfl
      have k1 := slice_from x 1 (by omega) 1 rfl
      obtain ⟨y, ey⟩ : ∃ y, x.extract 1 x.size = y := ⟨_, rfl⟩
      have dy : y.data.toList = r := by rw [← ey, from_data, hl]; rfl
      have ht2 : Hid (Al.tell y.data.toList f = (v, c)) := by show _ = _; rw [dy]; exact ht
      have hy : y.size < x.size := by rw [← ey, ByteArray.size_extract]; omega
      rw [ey] at k1
      clear hl ex e0 hx ht dy
      go_wp2
      go_roundw
      case rel => exact ⟨y, f, rfl, rfl, ht2, by omega, hb⟩
      case measure => simp only [strLen]; omega
    · have q0 : (PlainAid.bt x 0 == 0) = false := by rw [e0, beq_eq_false_iff_ne]; omega
      have q1 : (PlainAid.bt x 0 == 1) = false := by rw [e0, beq_eq_false_iff_ne]; omega
      rcases r with _ | ⟨n, r2⟩
      · have hG : Gets x 1 1 0 2 := gets_cut x 1 1 (by omega) (by decide) (by decide) (by decide) (by rw [List.length_nil] at ex; omega)
        clear hl ex e0 hx hk hn
        go_wp2_with ((with_reducible refine (hG.to _).mono ?_); rintro e w1 ⟨rfl, g1⟩)
        (try rw [Exit.noGoto_ret])
        go_ret2
        exact ⟨rfl, hb.trans (g1.mono hb.size)⟩
      · rw [List.length_cons] at ex
        simp only [List.headD_cons, List.length_cons] at hn
        have hnl := n.toNat_lt
        have hG : Gets x 1 1 (n.toNat : Nat) 0 := by
          have h := gets_ok x 1 1 (by omega) (by decide) (by decide) (by omega)
          have e : (x.data.toList.drop 1).take 1 = [n] := by rw [hl]; rfl
          rw [e, Pl.num_one] at h
          exact h
        have hn' : decide ((n.toNat : Int) < 2) = true ∨ (decide ((n.toNat : Int) < 2) = false ∧ decide (x.size < n.toNat) = true) := by
          simp only [decide_eq_true_eq, decide_eq_false_iff_not]; omega
        obtain ⟨N, eN⟩ : ∃ N, N = n.toNat := ⟨_, rfl⟩
        rw [← eN] at hG hn'
        clear hl ex e0 hx hk hn hnl eN
        rcases hn' with a1 | ⟨a1, a2⟩
        all_goals
          go_wp2_with ((with_reducible refine (hG.to _).mono ?_); rintro e w1 ⟨rfl, g1⟩)
          (try rw [Exit.noGoto_ret])
          go_ret2
          exact ⟨rfl, hb.trans (g1.mono hb.size)⟩
    · have q0 : (PlainAid.bt x 0 == 0) = false := by rw [e0, beq_eq_false_iff_ne]; omega
      have q1 : (PlainAid.bt x 0 == 1) = false := by rw [e0, beq_eq_false_iff_ne]; omega
      rcases r with _ | ⟨n, r2⟩
      · exact absurd hn (by decide)
      · rw [List.length_cons] at ex
        simp only [List.headD_cons, List.length_cons] at hn hn2 ht
        have hnl := n.toNat_lt
        have hG : Gets x 1 1 (n.toNat : Nat) 0 := by
          have h := gets_ok x 1 1 (by omega) (by decide) (by decide) (by omega)
          have e : (x.data.toList.drop 1).take 1 = [n] := by rw [hl]; rfl
          rw [e, Pl.num_one] at h
          exact h
        obtain ⟨N, eN⟩ : ∃ N, N = n.toNat := ⟨_, rfl⟩
        rw [← eN] at hG hn hn2 ht hnl
        have a1 : decide ((N : Int) < 2) = false := decide_eq_false (by omega)
        have a2 : decide (x.size < N) = false := decide_eq_false (by omega)
        have k1 := slice_from x N (by omega) (N : Int) rfl
        have k2 := slice_to x N (by omega) (N : Int) rfl
        obtain ⟨y, ey⟩ : ∃ y, x.extract N x.size = y := ⟨_, rfl⟩
        obtain ⟨z, ez⟩ : ∃ z, x.extract 0 N = z := ⟨_, rfl⟩
        have dy : y.data.toList = x.data.toList.drop N := by rw [← ey, from_data]
        have dz : z.data.toList = x.data.toList.take N := by rw [← ez, data_extract]; rfl
        have hy : y.size < x.size := by rw [← ey, ByteArray.size_extract]; omega
        obtain ⟨q, eq⟩ : ∃ q, q = (z.data.toList == [148, 4, 0, 0]) := ⟨_, rfl⟩
        have hq : (z.toList == [148, 4, 0, 0]) = q := by rw [Lib.toList_data, eq]
        have ht2 : Hid (Al.tell y.data.toList (f || q) = (v, c)) := by show _ = _; rw [dy, eq, dz]; exact ht
        rw [ey] at k1
        rw [ez] at k2
        clear hl ex e0 hx hk hn hn2 hnl eN ht dy dz eq
        rcases f with _ | _ <;> rcases q with _ | _
        all_goals
          go_wp2_with ((with_reducible refine (hG.to _).mono ?_); rintro e w1 ⟨rfl, g1⟩)
          go_roundw
          case rel => exact ⟨y, _, rfl, rfl, ht2, by omega, hb.trans (g1.mono hb.size)⟩
          case measure => simp only [strLen]; omega

def Alerts (s : ByteArray) (v : Bool) (x : Int) : Prop :=
  ∀ w : World, Calls Try.prog 15 #[.string s] w fun e w' => e = .returned (.tuple #[.bool v, .int .i64 x]) ∧ Below w.heap.size w w'
theorem Alerts.to {s : ByteArray} {v : Bool} {x : Int} (h : Alerts s v x) (w : World) : Calls Try.prog 15 #[.string s] w fun e w' => e = .returned (.tuple #[.bool v, .int .i64 x]) ∧ Below w.heap.size w w' := h w
end Go.Proofs.Ytoljmeemejmjfaa
