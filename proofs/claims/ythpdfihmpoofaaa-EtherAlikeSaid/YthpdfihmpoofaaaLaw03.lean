/-
  The walks of chapter 03's 'live', 'EtherDecodes', 'EtherEncodes' and 'EtherGroups': each returns true and leaves what was there alone. Conditions: a text's length lies within the form's own reach.
-/
import Derived.Test.YthpdfihmpoofaaaREthEnc
import Derived.Test.YthpdfihmpoofaaaREthDec
import Derived.Test.YthpdfihmpoofaaaGroup
namespace Go.Proofs.Ythpdfihmpoofaaa
open Go.RowKit

theorem group_e4 (s m : ByteArray) (hs : s.size = 4) (h0 : (s.data.toList.getD 0 0).toNat / 16 = 14) (hm : m.data.toList = [1, 0, 94, UInt8.ofNat ((s.data.toList.getD 1 0).toNat % 128)] ++ s.data.toList.drop 2) : GroupE s m 0 := fun w => group_4 s hs h0 m hm w
theorem group_e16 (s m : ByteArray) (hs : s.size = 16) (h0 : (s.data.toList.getD 0 0).toNat = 255) (hm : m.data.toList = [51, 51] ++ s.data.toList.drop 12) : GroupE s m 0 := fun w => group_16 s hs h0 m hm w
theorem group_en (s : ByteArray) (h4 : ¬ (s.size = 4 ∧ (s.data.toList.getD 0 0).toNat / 16 = 14)) (h16 : ¬ (s.size = 16 ∧ (s.data.toList.getD 0 0).toNat = 255)) : GroupE s ⟨#[]⟩ 1 := fun w => group_no s h4 h16 w

set_option maxRecDepth 100000 in
set_option maxHeartbeats 1000000 in
theorem live03 (w : World) : Calls Try.prog 12 #[] w fun e w' => e = .returned (.bool true) ∧ Below w.heap.size w w' := by
  have hG1 : GroupE ⟨#[239, 129, 2, 3]⟩ ⟨#[1, 0, 94, 1, 2, 3]⟩ 0 := group_e4 _ _ rfl (by decide) (by decide)
  have hG2 : GroupE ⟨#[97, 98, 99, 100]⟩ ⟨#[]⟩ 1 := group_en _ (by decide) (by decide)
  have hD : DecE ⟨#[115, 104, 111, 114, 116]⟩ zeroF 2 := fun w => ethdec_cut _ (by decide) w
  have hE : EncE ⟨#[]⟩ ⟨#[]⟩ false 0 0 0 ⟨#[]⟩ ⟨#[]⟩ 1 := ence_arg _ _ _ _ _ _ _ (by decide) (by intro h; exact absurd h.1 (by decide))
  unfold zeroF at hD
  go_enter Try.func12, Try.ntmps12
  go_wp2_with (first | ((with_reducible refine (hG1.to _).mono ?_); rintro e w1 ⟨rfl, g1⟩) | ((with_reducible refine (hG2.to _).mono ?_); rintro e w2 ⟨rfl, g2⟩) | ((with_reducible refine (hD.to _).mono ?_); rintro e w4 ⟨rfl, g4⟩) | ((with_reducible refine (hE.to _).mono ?_); rintro e w3 ⟨rfl, g3⟩))
  go_ret
  exact ⟨rfl, bstep (ball (bstep (bstep g1 g2) g4) _) g3⟩

/-- the frame of any bytes: the program and the document say one thing -/
theorem frcase_total (s dst src : ByteArray) : ∃ d' s' tg vl pr ty data x, FrCase s dst src (fr d' s' tg vl pr ty data) x := by
  by_cases hk : at2 s 12 = 33024
  · by_cases h18 : s.size < 18
    · exact ⟨⟨#[]⟩, ⟨#[]⟩, false, 0, 0, 0, ⟨#[]⟩, 2, .inr (.inr (.inl ⟨hk, h18, rfl, rfl⟩))⟩
    · by_cases hb : at2 s 14 / 4096 % 2 = 1 ∨ at2 s 14 % 4096 = 4095
      · exact ⟨⟨#[]⟩, ⟨#[]⟩, false, 0, 0, 0, ⟨#[]⟩, 3, .inr (.inr (.inr (.inl ⟨hk, by omega, hb, rfl, rfl⟩)))⟩
      · by_cases hz : 2018 < s.size
        · exact ⟨⟨#[]⟩, ⟨#[]⟩, false, 0, 0, 0, ⟨#[]⟩, 3, .inr (.inr (.inr (.inr (.inl ⟨hk, by omega, by omega, by omega, hz, rfl, rfl⟩))))⟩
        · exact ⟨_, _, _, _, _, _, _, _, .inr (.inr (.inr (.inr (.inr ⟨hk, by omega, by omega, by omega, by omega, _, rfl, rfl, rfl⟩))))⟩
  · by_cases hz : 2014 < s.size
    · exact ⟨⟨#[]⟩, ⟨#[]⟩, false, 0, 0, 0, ⟨#[]⟩, 3, .inr (.inl ⟨hk, hz, rfl, rfl⟩)⟩
    · exact ⟨_, _, _, _, _, _, _, _, .inl ⟨hk, by omega, _, rfl, rfl, rfl⟩⟩
theorem both3 (s : ByteArray) (hl : s.size ≤ 140737488351232) : ∃ d' s' tg vl pr ty data x, DecE s (fr d' s' tg vl pr ty data) x ∧ RDecE s (fr d' s' tg vl pr ty data) x := by
  by_cases hs : s.size < 14
  · exact ⟨⟨#[]⟩, ⟨#[]⟩, false, 0, 0, 0, ⟨#[]⟩, 2, fun w => ethdec_cut s hs w, fun w => rethdec_cut s hs w⟩
  · obtain ⟨d', s', tg, vl, pr, ty, data, x, h⟩ := frcase_total s (s.extract 0 6) (s.extract 6 12)
    exact ⟨d', s', tg, vl, pr, ty, data, x, fun w => ethdec_in s _ _ _ _ (by omega) (by omega) rfl rfl h w, fun w => rethdec_in s _ _ _ _ (by omega) (by omega) rfl rfl h w⟩

set_option maxRecDepth 100000 in
set_option maxHeartbeats 1000000 in
theorem ethdecodes_walk (s : ByteArray) (hs : s.size ≤ 140737488351232) (w : World) :
    Calls Try.prog 3 #[.string s] w fun e w' => e = .returned (.bool true) ∧ Below w.heap.size w w' := by
  obtain ⟨d', s', tg, vl, pr, ty, data, x, hD, hR⟩ := both3 s hs
  unfold fr at hD hR
  have HL := Lib.hid live03
  clear hs
  go_enter Try.func3, Try.ntmps3
  go_wp2_with (first | ((with_reducible refine (hD.to _).mono ?_); rintro e w2 ⟨rfl, g2⟩) | ((with_reducible refine (hR.to _).mono ?_); rintro e w3 ⟨rfl, g3⟩; obtain ⟨y1, c0, c1, c2, c3, c4, c5, c6, cf⟩ := (Box7.new _ _ _ _ _ _ _ _ _).below g3) | ((with_reducible refine (HL.out _).mono ?_); rintro e w4 ⟨rfl, g4⟩))
  go_ret
  exact ⟨rfl, bstep (ball (bstep (ball g2 _) g3) _) g4⟩

theorem good3_nat {dst src : ByteArray} {tg : Bool} {vl pr ty : Int} {data : ByteArray} (h : Good3 dst src tg vl pr ty data) : ∃ a b c : Nat, vl = a ∧ pr = b ∧ ty = c := by
  obtain ⟨k1, k2, k3, k4, k5, k6, k7, k8, k9, k10⟩ := h
  obtain ⟨a, ha⟩ := Int.eq_ofNat_of_zero_le k4
  obtain ⟨b, hb⟩ := Int.eq_ofNat_of_zero_le k6
  obtain ⟨c, hc⟩ := Int.eq_ofNat_of_zero_le k8
  exact ⟨a, b, c, ha, hb, hc⟩
theorem enc3_both (dst src : ByteArray) (tg : Bool) (vl pr ty : Int) (data : ByteArray) (z : data.size ≤ 140737488351232) : ∃ s x, EncE dst src tg vl pr ty data s x ∧ REncE dst src tg vl pr ty data s x := by
  by_cases hg : Good3 dst src tg vl pr ty data
  · obtain ⟨a, b, c, rfl, rfl, rfl⟩ := good3_nat hg
    exact ⟨_, _, ence_ok dst src data tg a b c hg, rence_ok dst src data tg a b c hg⟩
  · exact ⟨_, _, ence_arg dst src data tg vl pr ty (by omega) hg, fun w => rethenc_arg dst src data tg vl pr ty (by omega) hg w⟩

set_option maxRecDepth 100000 in
set_option maxHeartbeats 1000000 in
theorem ethencodes_walk (dst src : ByteArray) (tg : Bool) (vl pr ty : Int) (data : ByteArray) (z : data.size ≤ 140737488351232) (w : World) :
    Calls Try.prog 4 #[.agg #[.string dst, .string src, .bool tg, .int .i64 vl, .int .i64 pr, .int .i64 ty, .string data]] w fun e w' => e = .returned (.bool true) ∧ Below w.heap.size w w' := by
  obtain ⟨s, x, hE, hR⟩ := enc3_both dst src tg vl pr ty data z
  have HL := Lib.hid live03
  clear z
  go_enter Try.func4, Try.ntmps4
  go_wp2_with (first | ((with_reducible refine (hE.to _).mono ?_); rintro e w2 ⟨rfl, g2⟩; obtain ⟨y1, c0, c1, c2, c3, c4, c5, c6, cf⟩ := (Box7.new _ _ _ _ _ _ _ _ _).below g2) | ((with_reducible refine (hR.to _).mono ?_); rintro e w3 ⟨rfl, g3⟩) | ((with_reducible refine (HL.out _).mono ?_); rintro e w4 ⟨rfl, g4⟩))
  go_ret
  exact ⟨rfl, bstep (bstep (bstep (bbox1 _ _) g2) g3) g4⟩

/-- which one a group goes to -/
theorem group_total (a : ByteArray) : ∃ m x, GroupE a m x ∧ RGroupE a m x ∧ (x = 1 ∨ (x = 0 ∧ many m.data.toList = true)) := by
  by_cases h4 : a.size = 4 ∧ (a.data.toList.getD 0 0).toNat / 16 = 14
  · refine ⟨⟨([1, 0, 94, UInt8.ofNat ((a.data.toList.getD 1 0).toNat % 128)] ++ a.data.toList.drop 2).toArray⟩, 0, group_e4 a _ h4.1 h4.2 rfl, fun w => rgroup_4 a h4.1 h4.2 _ rfl w, .inr ⟨rfl, ?_⟩⟩
    have e := size_toList a
    unfold many
    have : (([1, 0, 94, UInt8.ofNat ((a.data.toList.getD 1 0).toNat % 128)] ++ a.data.toList.drop 2).length == 6) = true := by rw [beq_iff_eq, List.length_append, List.length_drop]; show 4 + _ = 6; omega
    show (_ && _) = true
    rw [this]; rfl
  · by_cases h16 : a.size = 16 ∧ (a.data.toList.getD 0 0).toNat = 255
    · refine ⟨⟨([51, 51] ++ a.data.toList.drop 12).toArray⟩, 0, group_e16 a _ h16.1 h16.2 rfl, fun w => rgroup_16 a h16.1 h16.2 _ rfl w, .inr ⟨rfl, ?_⟩⟩
      have e := size_toList a
      unfold many
      have : (([51, 51] ++ a.data.toList.drop 12).length == 6) = true := by rw [beq_iff_eq, List.length_append, List.length_drop]; show 2 + _ = 6; omega
      show (_ && _) = true
      rw [this]
      show (true && ((51 : UInt8).toNat % 2 == 1)) = true
      decide
    · exact ⟨_, _, group_en a h4 h16, fun w => rgroup_no a h4 h16 w, .inl rfl⟩

set_option maxRecDepth 100000 in
set_option maxHeartbeats 1000000 in
theorem ethgroups_walk (m a : ByteArray) (w : World) :
    Calls Try.prog 9 #[.string m, .string a] w fun e w' => e = .returned (.bool true) ∧ Below w.heap.size w w' := by
  obtain ⟨x, q, hG, hR, hc⟩ := group_total a
  have hm1 := fun w => many_is m w
  have hm2 := fun w => rmany_is m w
  have hm3 := fun w => many_is x w
  generalize many m.data.toList = b at hm1 hm2
  have HL := Lib.hid live03
  rcases hc with rfl | ⟨rfl, hx⟩
  · clear hm3
    go_enter Try.func9, Try.ntmps9
    go_wp2_with (first | ((with_reducible refine (hG.to _).mono ?_); rintro e w2 ⟨rfl, g2⟩) | ((with_reducible refine (hR.to _).mono ?_); rintro e w3 ⟨rfl, g3⟩) | ((with_reducible refine (hm1 _).mono ?_); rintro e w5 ⟨rfl, rfl⟩) | ((with_reducible refine (hm2 _).mono ?_); rintro e w6 ⟨rfl, rfl⟩) | ((with_reducible refine (HL.out _).mono ?_); rintro e w4 ⟨rfl, g4⟩))
    go_ret
    exact ⟨rfl, bstep (bstep g2 g3) g4⟩
  · rw [hx] at hm3
    go_enter Try.func9, Try.ntmps9
    go_wp2_with (first | ((with_reducible refine (hG.to _).mono ?_); rintro e w2 ⟨rfl, g2⟩) | ((with_reducible refine (hR.to _).mono ?_); rintro e w3 ⟨rfl, g3⟩) | ((with_reducible refine (hm1 _).mono ?_); rintro e w5 ⟨rfl, rfl⟩) | ((with_reducible refine (hm2 _).mono ?_); rintro e w6 ⟨rfl, rfl⟩) | ((with_reducible refine (hm3 _).mono ?_); rintro e w6 ⟨rfl, rfl⟩) | ((with_reducible refine (HL.out _).mono ?_); rintro e w4 ⟨rfl, g4⟩))
    go_ret
    exact ⟨rfl, bstep (bstep g2 g3) g4⟩
end Go.Proofs.Ythpdfihmpoofaaa
