/-
  What the reference's Plus, Total and Sum (siphonref02) compute: the same as the program's. Condition: a text's length lies well within an int.
-/
import Derived.Test.YtoljmeemejmjfaaBase
import Derived.Test.YtoljmeemejmjfaaCsPl
namespace Go.Proofs.Ytoljmeemejmjfaa
open Go.RowKit

set_option maxRecDepth 100000 in
theorem rplus_any (a b : Nat) (ha : a ≤ 65535) (hb : b ≤ 65535) (w : World) :
    Calls Try.prog 35 #[.int .i64 a, .int .i64 b] w fun e w' => e = .returned (.int .i64 (Cs.plus a b)) ∧ w = w' := by
  by_cases h : 65536 ≤ a + b
  · have e : (a : Int) + (b : Int) - 65535 = (Cs.plus a b : Int) := by unfold Cs.plus; rw [if_pos h]; omega
    have E := Lib.hid e
    have h' : (65536 : Int) ≤ (a : Int) + (b : Int) := by omega
    clear e h
    go_enter Try.func35, Try.ntmps35
    go_wp2
    go_ret
    exact ⟨ret_int E.out, rfl⟩
  · have e : (a : Int) + (b : Int) = (Cs.plus a b : Int) := by unfold Cs.plus; rw [if_neg h]; omega
    have E := Lib.hid e
    have h' : decide ((65536 : Int) ≤ (a : Int) + (b : Int)) = false := decide_eq_false (by omega)
    clear e h
    go_enter Try.func35, Try.ntmps35
    go_wp2
    go_ret
    exact ⟨ret_int E.out, rfl⟩

theorem rtot_le (l : List Nat) (h : ∀ x ∈ l, x ≤ 65535) : Cs.tot l ≤ 65535 := by
  unfold Cs.tot
  suffices g : ∀ (l : List Nat) (a : Nat), a ≤ 65535 → (∀ x ∈ l, x ≤ 65535) → l.foldl Cs.plus a ≤ 65535 from g l 0 (by omega) h
  intro l
  induction l with
  | nil => intro a ha _; exact ha
  | cons x r ih => intro a ha hx; exact ih _ (Cs.plus_le ha (hx x (by simp))) (fun y hy => hx y (by simp [hy]))
theorem upto_le (l : List UInt8) (k : Nat) : Cs.tot (Cs.upto l k) ≤ 65535 := rtot_le _ (by
  intro x hx
  simp only [Cs.upto, List.mem_map] at hx
  obtain ⟨y, _, rfl⟩ := hx
  exact Cs.wordAt_le _ _)

theorem rgetD_byte (s : ByteArray) (k : Nat) (h : k < s.size) : s.data.toList.getD k 0 = s[k]'h := by
  have e := size_toList s
  rw [List.getD_eq_getElem?_getD, List.getElem?_eq_getElem (by omega)]
  rfl
theorem rgetD_end (s : ByteArray) (k : Nat) (h : s.size ≤ k) : s.data.toList.getD k 0 = 0 := by
  have e := size_toList s
  rw [List.getD_eq_getElem?_getD, List.getElem?_eq_none (by omega)]
  rfl
theorem rwrap64_u8 (b : UInt8) : wrap64 (b.toNat : Int) = (b.toNat : Int) := IntWalk.wrap64_in _ (by have := b.toNat_lt; omega)

theorem rword_two (s : ByteArray) (k : Nat) (h : 2 * k + 1 < s.size) :
    wrap64 (wrap64 (256 * wrap64 ((s[2 * k]'(by omega)).toNat : Int)) + wrap64 ((s[2 * k + 1]'h).toNat : Int)) = (Cs.wordAt s.data.toList k : Int) := by
  have h1 := (s[2 * k]'(by omega)).toNat_lt
  have h2 := (s[2 * k + 1]'h).toNat_lt
  rw [rwrap64_u8, rwrap64_u8, IntWalk.wrap64_in (256 * _) ⟨by omega, by omega⟩, IntWalk.wrap64_in _ ⟨by omega, by omega⟩, Cs.wordAt, rgetD_byte s _ (by omega), rgetD_byte s _ h]
  omega

theorem rword_one (s : ByteArray) (k : Nat) (h : 2 * k < s.size) (h1 : s.size ≤ 2 * k + 1) :
    wrap64 (256 * wrap64 ((s[2 * k]'h).toNat : Int)) = (Cs.wordAt s.data.toList k : Int) := by
  have h2 := (s[2 * k]'h).toNat_lt
  rw [rwrap64_u8, IntWalk.wrap64_in _ ⟨by omega, by omega⟩, Cs.wordAt, rgetD_byte s _ h, rgetD_end s _ h1]
  show _ = ((256 * _ + 0 : Nat) : Int)
  omega

set_option maxHeartbeats 1000000 in
theorem rtotal_any (s : ByteArray) (hs : s.size ≤ 281474976710656) (w : World) :
    Calls Try.prog 29 #[.string s] w fun e w' => e = .returned (.int .i64 (Cs.tot (Cs.upto s.data.toList (Cs.cnt s.data.toList)))) ∧ w = w' := by
  go_enter Try.func29, Try.ntmps29
  go_wp2
  go_loop [3, 4] (fun q i => ∃ k z : Nat, k ≤ Cs.cnt s.data.toList ∧ i = .int .i64 ((2 * k : Nat) : Int) ∧ q = .int .i64 z ∧ Hid (z = Cs.tot (Cs.upto s.data.toList k))) (fun _ i => s.size + 2 - (intOf i).toNat)
  case atStart => exact ⟨0, 0, Nat.zero_le _, rfl, rfl, rfl⟩
  case round =>
    obtain ⟨k, z, hk, rfl, rfl, hz⟩ := hrel
    have hzl : z ≤ 65535 := by rw [hz.out]; exact upto_le _ _
    by_cases hlt : k < Cs.cnt s.data.toList
    · have hk2 : 2 * k < s.size := by rw [← size_toList]; unfold Cs.cnt at hlt; omega
      have hwl := Cs.wordAt_le s.data.toList k
      have hst : Cs.plus z (Cs.wordAt s.data.toList k) = Cs.tot (Cs.upto s.data.toList (k + 1)) := by rw [Cs.upto_succ, Cs.tot_snoc, hz.out]
      have HS := Lib.hid hst
      clear hst
      by_cases hodd : 2 * k + 1 < s.size
      · have hw := rword_two s k hodd
        go_wp2_with ((with_reducible refine (rplus_any z (Cs.wordAt s.data.toList k) hzl hwl _).mono ?_); rintro e w' ⟨rfl, rfl⟩)
        exact ⟨⟨k + 1, _, by omega, by go_num, rfl, HS.out⟩, by simp [intOf]; omega⟩
      · have hw := rword_one s k hk2 (by omega)
        go_wp2_with ((with_reducible refine (rplus_any z (Cs.wordAt s.data.toList k) hzl hwl _).mono ?_); rintro e w' ⟨rfl, rfl⟩)
        exact ⟨⟨k + 1, _, by omega, by go_num, rfl, HS.out⟩, by simp [intOf]; omega⟩
    · have hk2 : s.size ≤ 2 * k := by rw [← size_toList]; unfold Cs.cnt at hlt; omega
      go_wp2
      go_ret
      exact ⟨ret_int (by rw [hz.out, show k = Cs.cnt s.data.toList from by omega]), rfl⟩

theorem rsum_any (s : ByteArray) (hs : s.size ≤ 281474976710656) (w : World) :
    Calls Try.prog 20 #[.string s] w fun e w' => e = .returned (.int .i64 (Cs.sum s.data.toList)) ∧ w = w' := by
  have hl := upto_le s.data.toList (Cs.cnt s.data.toList)
  have h : (65535 : Int) - (Cs.tot (Cs.upto s.data.toList (Cs.cnt s.data.toList)) : Int) = (Cs.sum s.data.toList : Int) := by rw [Cs.sum_of]; omega
  have H := Lib.hid h
  clear h
  go_enter Try.func20, Try.ntmps20
  go_wp2_with ((with_reducible refine (rtotal_any s hs _).mono ?_); rintro e w' ⟨rfl, rfl⟩)
  go_ret
  exact ⟨ret_int H.out, rfl⟩
end Go.Proofs.Ytoljmeemejmjfaa
