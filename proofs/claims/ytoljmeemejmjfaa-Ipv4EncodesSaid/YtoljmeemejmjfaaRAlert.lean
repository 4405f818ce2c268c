/-
  What the document's own Alert (siphonref04) tells. Condition: a text's length lies well within an int.
-/
import Derived.Test.YtoljmeemejmjfaaAlert
namespace Go.Proofs.Ytoljmeemejmjfaa
open Go.RowKit

set_option maxRecDepth 100000 in
set_option maxHeartbeats 2000000 in
theorem ralert_any (s : ByteArray) (hs : s.size ≤ 281474976710656) (v : Bool) (c : Int) (hR : Al.tell s.data.toList false = (v, c)) (w : World) :
    Calls Try.prog 16 #[.string s] w fun e w' => e = .returned (.tuple #[.bool v, .int .i64 c]) ∧ Below w.heap.size w w' := by
  have hbt := PlainAid.get_bt s
  go_enter Try.func16, Try.ntmps16
  go_wp2
  go_loopw [4, 5, 6] (fun F A _ wr => ∃ (a : Nat) (f : Bool), A = .int .i64 a ∧ F = .bool f ∧ Hid (Al.tell (s.data.toList.drop a) f = (v, c)) ∧ a ≤ s.size ∧ wr = w)
    (fun _ A _ _ => s.size + 1 - (intOf A).toNat)
  case atStart => exact ⟨0, false, rfl, rfl, hR, Nat.zero_le _, rfl⟩
  case round =>
    obtain ⟨a, f, rfl, rfl, hx, ha, rfl⟩ := hrel
    clear hR
    have ex : (s.data.toList.drop a).length = s.size - a := by rw [List.length_drop, size_toList]
    have e0 := bt_at s a
    have e1 := bt_at s (a + 1)
    rcases Al.cases _ _ _ _ hx.out with ⟨hl, rfl, rfl⟩ | ⟨k, r, hl, hk, rfl, rfl⟩ | ⟨k, r, hl, hk, ht⟩ | ⟨k, r, hl, hk, hn, rfl, rfl⟩ | ⟨k, r, hl, hk, hn, hn2, ht⟩
    · rw [hl, List.length_nil] at ex
      have d0 : decide (a < s.size) = false := decide_eq_false (by omega)
      clear hl ex e0 e1 hx ha
      go_wp2
      go_ret2
      exact ⟨rfl, Below.refl _ _⟩
    all_goals
      have g0 : s.data.toList.getD a 0 = k := by
        rw [List.getD_eq_getElem?_getD, ← Nat.add_zero a, ← List.getElem?_drop, hl]; rfl
      have g1 : s.data.toList.getD (a + 1) 0 = r.headD 0 := by
        rw [List.getD_eq_getElem?_getD, ← List.getElem?_drop, hl]
        cases r <;> rfl
      rw [g0] at e0
      rw [g1] at e1
      rw [hl, List.length_cons] at ex
      have hlt : a < s.size := by omega
      have d0 : decide (a < s.size) = true := decide_eq_true hlt
    · rw [hk] at e0
      have q0 : (PlainAid.bt s a != 0) = false := by rw [e0]; rfl
      clear hl ex e0 e1 hx g0 g1
      go_wp2
      go_ret2
      exact ⟨rfl, Below.refl _ _⟩
    · rw [hk] at e0
      have q0 : (PlainAid.bt s a != 0) = true := by rw [e0]; rfl
      have q1 : (PlainAid.bt s a == 1) = true := by rw [e0]; rfl
      have ht2 : Hid (Al.tell (s.data.toList.drop (a + 1)) f = (v, c)) := by
        show _ = _
        rw [← List.drop_drop, hl]; exact ht
      clear hl ex e0 e1 hx g0 g1 ht
      go_wp2
      go_roundw
      case rel => exact ⟨a + 1, f, by go_num, rfl, ht2, by omega, trivial⟩
      case measure => simp only [intOf]; omega
    · have q0 : (PlainAid.bt s a != 0) = true := by rw [e0, bne_iff_ne]; omega
      have q1 : (PlainAid.bt s a == 1) = false := by rw [e0, beq_eq_false_iff_ne]; omega
      rcases r with _ | ⟨n, r2⟩
      · rw [List.length_nil] at ex
        have d1 : decide ((s.size : Int) ≤ (a : Int) + 1) = true := decide_eq_true (by omega)
        clear hl ex e0 e1 hx g0 g1 hk hn
        go_wp2
        go_ret2
        exact ⟨rfl, Below.refl _ _⟩
      · rw [List.length_cons] at ex
        simp only [List.headD_cons, List.length_cons] at hn e1
        have d1 : decide ((s.size : Int) ≤ (a : Int) + 1) = false := decide_eq_false (by omega)
        have hnl := n.toNat_lt
        obtain ⟨N, eN⟩ : ∃ N, N = n.toNat := ⟨_, rfl⟩
        rw [← eN] at hn e1 hnl
        have w1 : IntKind.i64.wrap (N : Int) = (N : Int) := IntWalk.i64_in _ ⟨by omega, by omega⟩
        have hn' : decide ((N : Int) < 2) = true ∨ (decide ((N : Int) < 2) = false ∧ decide ((s.size : Int) - (a : Int) < (N : Int)) = true) := by
          simp only [decide_eq_true_eq, decide_eq_false_iff_not]; omega
        have hp1 : (a : Int) + 1 < (s.size : Int) := by omega
        clear hl ex e0 hx g0 g1 hk hn eN
        rcases hn' with a1 | ⟨a1, a2⟩
        all_goals
          go_wp2
          go_ret2
          exact ⟨rfl, Below.refl _ _⟩
    · have q0 : (PlainAid.bt s a != 0) = true := by rw [e0, bne_iff_ne]; omega
      have q1 : (PlainAid.bt s a == 1) = false := by rw [e0, beq_eq_false_iff_ne]; omega
      rcases r with _ | ⟨n, r2⟩
      · exact absurd hn (by decide)
      · rw [List.length_cons] at ex
        simp only [List.headD_cons, List.length_cons] at hn hn2 ht e1
        have d1 : decide ((s.size : Int) ≤ (a : Int) + 1) = false := decide_eq_false (by omega)
        have hnl := n.toNat_lt
        obtain ⟨N, eN⟩ : ∃ N, N = n.toNat := ⟨_, rfl⟩
        rw [← eN] at hn hn2 ht e1 hnl
        have w1 : IntKind.i64.wrap (N : Int) = (N : Int) := IntWalk.i64_in _ ⟨by omega, by omega⟩
        have a1 : decide ((N : Int) < 2) = false := decide_eq_false (by omega)
        have a2 : decide ((s.size : Int) - (a : Int) < (N : Int)) = false := decide_eq_false (by omega)
        have hp1 : (a : Int) + 1 < (s.size : Int) := by omega
        have hle : a + N ≤ s.size := by omega
        have w2 : IntKind.i64.wrap ((a : Int) + (N : Int)) = (a : Int) + (N : Int) := IntWalk.i64_in _ ⟨by omega, by omega⟩
        have k2 := slice_mid s a (a + N) (by omega) hle (a : Int) ((a : Int) + (N : Int)) rfl (by omega)
        obtain ⟨z, ez⟩ : ∃ z, s.extract a (a + N) = z := ⟨_, rfl⟩
        have dz : z.data.toList = (s.data.toList.drop a).take N := by rw [← ez, data_extract, Nat.add_sub_cancel_left]
        obtain ⟨q, eq⟩ : ∃ q, q = (z.data.toList == [148, 4, 0, 0]) := ⟨_, rfl⟩
        have hq : (z.toList == [148, 4, 0, 0]) = q := by rw [Lib.toList_data, eq]
        have ht2 : Hid (Al.tell (s.data.toList.drop (a + N)) (f || q) = (v, c)) := by
          show _ = _
          rw [← List.drop_drop, eq, dz]; exact ht
        rw [ez] at k2
        have hm : s.size + 1 - (a + N) < s.size + 1 - a := by omega
        clear hl ex e0 hx g0 g1 hk hn hn2 eN ht dz eq
        rcases f with _ | _ <;> rcases q with _ | _
        all_goals
          go_wp2
          go_roundw
          case rel => exact ⟨a + N, _, by go_num, rfl, ht2, hle, trivial⟩
          case measure => simp only [intOf]; omega

def RAlerts (s : ByteArray) (v : Bool) (x : Int) : Prop :=
  ∀ w : World, Calls Try.prog 16 #[.string s] w fun e w' => e = .returned (.tuple #[.bool v, .int .i64 x]) ∧ Below w.heap.size w w'
theorem RAlerts.to {s : ByteArray} {v : Bool} {x : Int} (h : RAlerts s v x) (w : World) : Calls Try.prog 16 #[.string s] w fun e w' => e = .returned (.tuple #[.bool v, .int .i64 x]) ∧ Below w.heap.size w w' := h w
end Go.Proofs.Ytoljmeemejmjfaa
