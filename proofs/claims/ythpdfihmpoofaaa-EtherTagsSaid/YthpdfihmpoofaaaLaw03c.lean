/-
  The walk of 'EtherTags': it returns true and leaves what was there alone. Conditions: a text's length lies within the form's own reach.
-/
import Derived.Test.YthpdfihmpoofaaaLaw03
import Derived.Test.YthpdfihmpoofaaaEthLaw
namespace Go.Proofs.Ythpdfihmpoofaaa
open Go.RowKit

theorem Box7.bare {W : World} {b : Nat} {v0 v1 v2 v3 v4 v5 v6 x2 x3 x4 : Value} (h : Box7 W b v0 v1 v2 v3 v4 v5 v6) :
    Box7 (((W.setCell ⟨b, 2, none⟩ x2).setCell ⟨b, 3, none⟩ x3).setCell ⟨b, 4, none⟩ x4) b v0 v1 x2 x3 x4 v5 v6 := by
  obtain ⟨z, c0, c1, c2, c3, c4, c5, c6, cf⟩ := h
  refine ⟨by simpa using z, ?_, ?_, ?_, ?_, ?_, ?_, ?_, fun k => by simpa using cf k⟩
  · exact cell_far (by decide) (cell_far (by decide) (cell_far (by decide) c0))
  · exact cell_far (by decide) (cell_far (by decide) (cell_far (by decide) c1))
  · exact cell_far (by decide) (cell_far (by decide) (cell_same c2))
  · exact cell_far (by decide) (cell_same (cell_far (by decide) c3))
  · exact cell_same (cell_far (by decide) (cell_far (by decide) c4))
  · exact cell_far (by decide) (cell_far (by decide) (cell_far (by decide) c5))
  · exact cell_far (by decide) (cell_far (by decide) (cell_far (by decide) c6))

theorem enc3_any (dst src : ByteArray) (tg : Bool) (vl pr ty : Int) (data : ByteArray) (z : data.size ≤ 140737488351232) :
    (∃ s, EncE dst src tg vl pr ty data s 1) ∨ (∃ s, EncE dst src tg vl pr ty data s 0 ∧ ∃ a b c : Nat, vl = a ∧ pr = b ∧ ty = c ∧ dst.size = 6 ∧ src.size = 6 ∧ data.size ≤ 2000 ∧ s = ⟨(Et.enc dst.data.toList src.data.toList tg a b c data.data.toList).toArray⟩) := by
  by_cases hg : Good3 dst src tg vl pr ty data
  · obtain ⟨a, b, c, rfl, rfl, rfl⟩ := good3_nat hg
    exact .inr ⟨_, ence_ok dst src data tg a b c hg, a, b, c, rfl, rfl, rfl, hg.1, hg.2.1, hg.2.2.1, rfl⟩
  · exact .inl ⟨_, ence_arg dst src data tg vl pr ty (by omega) hg⟩

set_option maxRecDepth 100000 in
set_option maxHeartbeats 1000000 in
theorem ethtags_not (dst src : ByteArray) (tg : Bool) (vl pr ty : Int) (data : ByteArray) (prio vlan : Int) (s t : ByteArray) (x y : Int) (hE : EncE dst src false 0 0 ty data s x) (hF : EncE dst src true vlan prio ty data t y)
    (hc : (x = 1) ∨ (x = 0 ∧ y = 1)) (w : World) :
    Calls Try.prog 7 #[.agg #[.string dst, .string src, .bool tg, .int .i64 vl, .int .i64 pr, .int .i64 ty, .string data], .int .i64 prio, .int .i64 vlan] w fun e w' => e = .returned (.bool true) ∧ Below w.heap.size w w' := by
  have HL := Lib.hid live03
  rcases hc with rfl | ⟨rfl, rfl⟩
  all_goals
    go_enter Try.func7, Try.ntmps7
    go_wp2_with (first | ((with_reducible refine (hE.to _).mono ?_); rintro e w3 ⟨rfl, g3⟩; obtain ⟨y1, c0, c1, c2, c3, c4, c5, c6, cf⟩ := (Box7.new _ _ _ _ _ _ _ _ _).below g3) | ((with_reducible refine (hF.to _).mono ?_); rintro e w5 ⟨rfl, g5⟩) | ((with_reducible refine (HL.out _).mono ?_); rintro e w4 ⟨rfl, g4⟩))
    go_ret
    exact ⟨rfl, bstep (bstep (ball (bstep (bbox1 _ _) g3) _) g5) g4⟩

set_option maxRecDepth 100000 in
set_option maxHeartbeats 1000000 in
theorem ethtags_in (dst src : ByteArray) (tg : Bool) (vl pr ty : Int) (data : ByteArray) (prio vlan : Int) (s t p q : ByteArray) (hE : EncE dst src false 0 0 ty data s 0) (hF : EncE dst src true vlan prio ty data t 0)
    (hz : t.size = s.size + 4) (h14 : 14 ≤ s.size) (hs : s.size ≤ 2018) (p1 : t.extract 0 12 = p) (p2 : s.extract 0 12 = p) (p3 : t.extract 16 t.size = q) (p4 : s.extract 12 s.size = q) (w : World) :
    Calls Try.prog 7 #[.agg #[.string dst, .string src, .bool tg, .int .i64 vl, .int .i64 pr, .int .i64 ty, .string data], .int .i64 prio, .int .i64 vlan] w fun e w' => e = .returned (.bool true) ∧ Below w.heap.size w w' := by
  have HL := Lib.hid live03
  have k1 := slice_to t 12 (by omega) 12 rfl
  have k2 := slice_to s 12 (by omega) 12 rfl
  have k3 := slice_from t 16 (by omega) 16 rfl
  have k4 := slice_from s 12 (by omega) 12 rfl
  rw [p1] at k1
  rw [p2] at k2
  rw [p3] at k3
  rw [p4] at k4
  have t1 : ((t.size : Int) == (s.size : Int) + 4) = true := by rw [beq_iff_eq]; omega
  have t2 : decide (14 ≤ (s.size : Int)) = true := decide_eq_true (by omega)
  have hw : IntKind.i64.wrap ((s.size : Int) + 4) = (s.size : Int) + 4 := IntWalk.i64_in _ ⟨by omega, by omega⟩
  clear hz p1 p2 p3 p4
  go_enter Try.func7, Try.ntmps7
  go_wp2_with (first | ((with_reducible refine (hE.to _).mono ?_); rintro e w3 ⟨rfl, g3⟩; obtain ⟨y1, c0, c1, c2, c3, c4, c5, c6, cf⟩ := (Box7.new _ _ _ _ _ _ _ _ _).below g3) | ((with_reducible refine (hF.to _).mono ?_); rintro e w5 ⟨rfl, g5⟩))
  have b5 := bstep (ball (bstep (bbox1 w _) g3) _) g5
  clear c0 c1 c2 c3 c4 c5 c6 cf hE hF
  go_region_held3 (fun _ => True) (trivial) (first | ((with_reducible refine (HL.out _).mono ?_); rintro e w6 ⟨rfl, g6⟩))

  go_wp2
  go_ret
  exact ⟨rfl, bstep b5.drew g6⟩

theorem ethtags_walk (dst src : ByteArray) (tg : Bool) (vl pr ty : Int) (data : ByteArray) (z : data.size ≤ 140737488351232) (prio vlan : Int) (w : World) :
    Calls Try.prog 7 #[.agg #[.string dst, .string src, .bool tg, .int .i64 vl, .int .i64 pr, .int .i64 ty, .string data], .int .i64 prio, .int .i64 vlan] w fun e w' => e = .returned (.bool true) ∧ Below w.heap.size w w' := by
  rcases enc3_any dst src false 0 0 ty data z with ⟨s, hE⟩ | ⟨s, hE, a, b, c, ha, hb, hc, z1, z2, z3, hs⟩
  · obtain ⟨t, y, hF, _⟩ := enc3_both dst src true vlan prio ty data z
    exact ethtags_not dst src tg vl pr ty data prio vlan s t 1 y hE hF (.inl rfl) w
  · rcases enc3_any dst src true vlan prio ty data z with ⟨t, hF⟩ | ⟨t, hF, a', b', c', ha', hb', hc', _, _, _, ht⟩
    · exact ethtags_not dst src tg vl pr ty data prio vlan s t 0 1 hE hF (.inr ⟨rfl, rfl⟩) w
    · have l1 := size_toList dst
      have l2 := size_toList src
      have l3 := size_toList data
      have ec : c' = c := by omega
      have hd : s.data.toList = Et.enc dst.data.toList src.data.toList false a b c data.data.toList := by rw [hs]
      have hdt : t.data.toList = Et.enc dst.data.toList src.data.toList true a' b' c data.data.toList := by rw [ht, ec]
      have hz : s.size = 14 + data.size := by rw [hs, size_mk, Et.enc_length _ _ _ _ _ _ _ (by omega) (by omega), l3]; rfl
      have hzt : t.size = 18 + data.size := by rw [ht, size_mk, Et.enc_length _ _ _ _ _ _ _ (by omega) (by omega), l3]; simp only [if_true]
      have e1 : s.data.toList.drop 12 = Pl.be 2 c ++ data.data.toList := by rw [hd, enc_tail _ _ _ _ _ _ _ (by omega) (by omega)]; rfl
      have e2 : t.data.toList.drop 16 = Pl.be 2 c ++ data.data.toList := by
        rw [show 16 = 12 + 4 from rfl, ← List.drop_drop, hdt, enc_tail _ _ _ _ _ _ _ (by omega) (by omega)]
        exact List.drop_left' (Et.tag_length _ _ _)
      refine ethtags_in dst src tg vl pr ty data prio vlan s t _ _ hE hF (by omega) (by omega) (by omega) ?_ rfl ?_ rfl w
      · apply ba_eq
        rw [data_extract, data_extract, hd, hdt]
        unfold Et.enc
        simp only [List.drop_zero, List.append_assoc]
        rw [← List.append_assoc, ← List.append_assoc dst.data.toList, List.take_left' (by rw [List.length_append]; omega), List.take_left' (by rw [List.length_append]; omega)]
      · apply ba_eq
        rw [from_data, from_data, e1, e2]
end Go.Proofs.Ythpdfihmpoofaaa
