/-
  What ether.Many and ether.Group, and the document's own (siphonref03), tell. Conditions: those of each case.
-/
import Derived.Test.YthpdfihmpoofaaaEthDec
import Derived.Test.YthpdfihmpoofaaaBa
import Derived.Deep.RegionHeld3
namespace Go.Proofs.Ythpdfihmpoofaaa
open Go.RowKit

theorem bt_at (s : ByteArray) (k : Nat) : PlainAid.bt s k = ((s.data.toList.getD k 0).toNat : Int) := by
  have e := size_toList s
  unfold PlainAid.bt
  by_cases h : k < s.size
  · rw [dif_pos h, List.getD_eq_getElem?_getD, List.getElem?_eq_getElem (by omega)]
    rfl
  · rw [dif_neg h, List.getD_eq_getElem?_getD, List.getElem?_eq_none (by omega)]
    rfl

/-- is an address one of many? -/
def many (l : List UInt8) : Bool := l.length == 6 && (l.getD 0 0).toNat % 2 == 1

set_option maxRecDepth 100000 in
theorem many_is (s : ByteArray) (w : World) : Calls Try.prog 17 #[.string s] w fun e w' => e = .returned (.bool (many s.data.toList)) ∧ w = w' := by
  have hbt := PlainAid.get_bt s
  have e := size_toList s
  by_cases h6 : s.size = 6
  · have a1 : ((s.size : Int) == 6) = true := by rw [h6]; rfl
    have hpos : 0 < s.size := by omega
    have hb := bt_at s 0
    have hx := (s.data.toList.getD 0 0).toNat_lt
    have hm : (bits BinOp.and IntKind.u8 (PlainAid.bt s 0) 1 == 1) = many s.data.toList := by
      rw [hb, show (1 : Int) = ((1 : Nat) : Int) from rfl, u8_and_nat _ _ hx (by decide), Nat.and_one_is_mod]
      unfold many
      rw [e, h6, Bool.eq_iff_iff]
      simp
      omega
    have HM := Lib.hid hm
    clear hm hb hx e h6
    go_enter Try.func17, Try.ntmps17
    go_wp2
    go_ret
    exact ⟨ret_bool (by rw [← HM.out]), rfl⟩
  · have a1 : ((s.size : Int) == 6) = false := by rw [beq_eq_false_iff_ne]; omega
    have hm : many s.data.toList = false := by unfold many; rw [e]; simp [h6]
    have HM := Lib.hid hm
    clear hm e h6
    go_enter Try.func17, Try.ntmps17
    go_wp2
    go_ret
    exact ⟨by rw [HM.out]; rfl, rfl⟩

set_option maxRecDepth 100000 in
theorem rmany_is (s : ByteArray) (w : World) : Calls Try.prog 18 #[.string s] w fun e w' => e = .returned (.bool (many s.data.toList)) ∧ w = w' := by
  have hbt := PlainAid.get_bt s
  have e := size_toList s
  by_cases h6 : s.size = 6
  · have a1 : ((s.size : Int) == 6) = true := by rw [h6]; rfl
    have hpos : 0 < s.size := by omega
    have hb := bt_at s 0
    have hm : (PlainAid.bt s 0 % 2 == 1) = many s.data.toList := by
      rw [hb]
      unfold many
      rw [e, h6, Bool.eq_iff_iff]
      simp
      omega
    have HM := Lib.hid hm
    have b0 := PlainAid.bt_nonneg s 0
    clear hm hb e h6
    go_enter Try.func18, Try.ntmps18
    go_wp2
    go_ret
    exact ⟨ret_bool (by rw [← HM.out]), rfl⟩
  · have a1 : ((s.size : Int) == 6) = false := by rw [beq_eq_false_iff_ne]; omega
    have hm : many s.data.toList = false := by unfold many; rw [e]; simp [h6]
    have HM := Lib.hid hm
    clear hm e h6
    go_enter Try.func18, Try.ntmps18
    go_wp2
    go_ret
    exact ⟨by rw [HM.out]; rfl, rfl⟩

theorem slice_fromA (s : ByteArray) (a : Nat) (h : a ≤ s.size) (x : Int) (hx : x = a) (w : World) : (Instr.slice 40 (.string s) (some (.int .i64 x)) none none).run Try.prog w = .ok (.string (s.extract a s.size)) w := by
  subst hx
  rw [run_slice_string_from_if (P := Try.prog) w 40 s .i64 (a : Int) Try.underlying40, if_pos ⟨by omega, by omega⟩]
  rfl
theorem one_string2 (W : World) (b : UInt8) : (convert 41 9 (.slice (some ⟨W.heap.size, 0, none⟩) 1 1)).run Try.prog (W.alloc (.cells #[.int .u8 b.toNat] 5)).drew = .ok (.string ⟨#[b]⟩) (W.alloc (.cells #[.int .u8 b.toNat] 5)).drew := by
  have hb : BytesAt (W.alloc (.cells #[.int .u8 b.toNat] 5)) W.heap.size [b] := by
    intro j hj
    simp only [List.length_cons, List.length_nil] at hj
    obtain rfl : j = 0 := by omega
    constructor <;> simp [go_sem]
  exact (hb.drewN 1).string 1 1 rfl

attribute [local go_sem ↓] Go.wp_at_zero Go.wp_at_succ
set_option maxRecDepth 100000 in
set_option maxHeartbeats 2000000 in
theorem group_4 (s : ByteArray) (hs : s.size = 4) (h0 : (s.data.toList.getD 0 0).toNat / 16 = 14) (m : ByteArray) (hm : m.data.toList = [1, 0, 94, UInt8.ofNat ((s.data.toList.getD 1 0).toNat % 128)] ++ s.data.toList.drop 2) (w : World) :
    Calls Try.prog 15 #[.string s] w fun e w' => e = .returned (.tuple #[.string m, .int .i64 0]) ∧ Below w.heap.size w w' := by
  have hbt := PlainAid.get_bt s
  have a1 : ((s.size : Int) == 4) = true := by rw [hs]; rfl
  have hb0 := bt_at s 0
  have hb1 := bt_at s 1
  have hx := (s.data.toList.getD 1 0).toNat_lt
  have a2 : (PlainAid.bt s 0 / 16 == 14) = true := by rw [beq_iff_eq, hb0]; omega
  obtain ⟨g, hg⟩ : ∃ g, g = UInt8.ofNat ((s.data.toList.getD 1 0).toNat % 128) := ⟨_, rfl⟩
  have hgn : g.toNat = (s.data.toList.getD 1 0).toNat % 128 := by rw [hg, UInt8.toNat_ofNat', Nat.mod_eq_of_lt (by omega)]
  have hand : bits BinOp.and IntKind.u8 (PlainAid.bt s 1) 127 = (g.toNat : Int) := by
    rw [hb1, show (127 : Int) = ((127 : Nat) : Int) from rfl, u8_and_nat _ _ hx (by decide), hgn]
    congr 1
    exact Nat.and_two_pow_sub_one_eq_mod _ 7
  rw [← hg] at hm
  have hone := fun W => one_string2 W g
  obtain ⟨x1, hx1⟩ : ∃ x : ByteArray, x = ⟨#[1, 0, 94]⟩ ++ ⟨#[g]⟩ := ⟨_, rfl⟩
  obtain ⟨x2, hx2⟩ : ∃ x, x = s.extract 2 s.size := ⟨_, rfl⟩
  have hpos : 2 ≤ s.size := by omega
  have k2 := slice_fromA s 2 (by omega) 2 rfl
  rw [← hx2] at k2
  have j1 := join2 ⟨#[1, 0, 94]⟩ ⟨#[g]⟩ (by show 3 + 1 ≤ _; decide)
  rw [← hx1] at j1
  have j2 := join2 x1 x2 (by rw [hx1, hx2, size_add, ByteArray.size_extract]; show 3 + 1 + _ ≤ _; omega)
  have hres : x1 ++ x2 = m := by
    apply ba_eq
    rw [data_add, hm, hx1, hx2, data_add, data_extract, List.take_of_length_le (by rw [List.length_drop, size_toList]; omega)]
    rfl
  rw [hres] at j2
  clear hs h0 hm hb0 hb1 hx hg hgn hx1 hx2 hres
  go_enter Try.func15, Try.ntmps15
  go_wp2_with fail
  go_region_with (fail)
  all_goals
    go_wp2
    go_ret2
    exact ⟨rfl, Below.drew (bbox1 _ _)⟩

set_option maxRecDepth 100000 in
set_option maxHeartbeats 2000000 in
theorem group_16 (s : ByteArray) (hs : s.size = 16) (h0 : (s.data.toList.getD 0 0).toNat = 255) (m : ByteArray) (hm : m.data.toList = [51, 51] ++ s.data.toList.drop 12) (w : World) :
    Calls Try.prog 15 #[.string s] w fun e w' => e = .returned (.tuple #[.string m, .int .i64 0]) ∧ Below w.heap.size w w' := by
  have hbt := PlainAid.get_bt s
  have a1 : ((s.size : Int) == 4) = false := by rw [hs]; rfl
  have a3 : ((s.size : Int) == 16) = true := by rw [hs]; rfl
  have hb0 := bt_at s 0
  have a2 : (PlainAid.bt s 0 == 255) = true := by rw [beq_iff_eq, hb0]; omega
  obtain ⟨x2, hx2⟩ : ∃ x, x = s.extract 12 s.size := ⟨_, rfl⟩
  have hpos : 12 ≤ s.size := by omega
  have k2 := slice_fromA s 12 (by omega) 12 rfl
  rw [← hx2] at k2
  have j1 := join2 ⟨#[51, 51]⟩ x2 (by rw [hx2, ByteArray.size_extract]; show 2 + _ ≤ _; omega)
  have hres : (⟨#[51, 51]⟩ : ByteArray) ++ x2 = m := by
    apply ba_eq
    rw [data_add, hm, hx2, data_extract, List.take_of_length_le (by rw [List.length_drop, size_toList]; omega)]
  rw [hres] at j1
  have hx3 := hx2.symm
  clear hs h0 hm hb0 hx2 hres
  go_enter Try.func15, Try.ntmps15
  go_wp2
  go_ret2
  exact ⟨rfl, Below.refl _ _⟩

set_option maxRecDepth 100000 in
set_option maxHeartbeats 2000000 in
theorem group_no (s : ByteArray) (h4 : ¬ (s.size = 4 ∧ (s.data.toList.getD 0 0).toNat / 16 = 14)) (h16 : ¬ (s.size = 16 ∧ (s.data.toList.getD 0 0).toNat = 255)) (w : World) :
    Calls Try.prog 15 #[.string s] w fun e w' => e = .returned (.tuple #[.string ⟨#[]⟩, .int .i64 1]) ∧ Below w.heap.size w w' := by
  have hbt := PlainAid.get_bt s
  have hb0 := bt_at s 0
  have hc : (0 < s.size ∧ ((s.size : Int) == 4) = true ∧ (PlainAid.bt s 0 / 16 == 14) = false ∧ ((s.size : Int) == 16) = false) ∨ (0 < s.size ∧ ((s.size : Int) == 4) = false ∧ ((s.size : Int) == 16) = true ∧ (PlainAid.bt s 0 == 255) = false) ∨ (((s.size : Int) == 4) = false ∧ ((s.size : Int) == 16) = false) := by
    rw [hb0]
    simp only [beq_iff_eq, beq_eq_false_iff_ne]
    omega
  clear h4 h16 hb0
  rcases hc with ⟨hp, a1, a2, a3⟩ | ⟨hp, a1, a2, a3⟩ | ⟨a1, a2⟩
  all_goals
    go_enter Try.func15, Try.ntmps15
    go_wp2
    go_ret2
    exact ⟨rfl, Below.refl _ _⟩

set_option maxRecDepth 100000 in
set_option maxHeartbeats 2000000 in
theorem isgroup_yes (s : ByteArray) (h : (s.size = 4 ∧ (s.data.toList.getD 0 0).toNat / 16 = 14) ∨ (s.size = 16 ∧ (s.data.toList.getD 0 0).toNat = 255)) (w : World) :
    Calls Try.prog 28 #[.string s] w fun e w' => e = .returned (.bool true) ∧ w = w' := by
  have hbt := PlainAid.get_bt s
  have hb0 := bt_at s 0
  have hc : (0 < s.size ∧ ((s.size : Int) == 4) = true ∧ decide (224 ≤ PlainAid.bt s 0) = true ∧ decide (PlainAid.bt s 0 ≤ 239) = true) ∨ (0 < s.size ∧ ((s.size : Int) == 4) = false ∧ ((s.size : Int) == 16) = true ∧ (PlainAid.bt s 0 == 255) = true) := by
    rw [hb0]
    simp only [beq_iff_eq, beq_eq_false_iff_ne, decide_eq_true_eq]
    omega
  clear h hb0
  rcases hc with ⟨hp, a1, a2, a3⟩ | ⟨hp, a1, a2, a3⟩
  all_goals
    go_enter Try.func28, Try.ntmps28
    go_wp2
    go_ret
    exact ⟨rfl, rfl⟩

set_option maxRecDepth 100000 in
set_option maxHeartbeats 2000000 in
theorem isgroup_no (s : ByteArray) (h4 : ¬ (s.size = 4 ∧ (s.data.toList.getD 0 0).toNat / 16 = 14)) (h16 : ¬ (s.size = 16 ∧ (s.data.toList.getD 0 0).toNat = 255)) (w : World) :
    Calls Try.prog 28 #[.string s] w fun e w' => e = .returned (.bool false) ∧ w = w' := by
  have hbt := PlainAid.get_bt s
  have hb0 := bt_at s 0
  have hx := (s.data.toList.getD 0 0).toNat_lt
  have hc : (0 < s.size ∧ ((s.size : Int) == 4) = true ∧ decide (224 ≤ PlainAid.bt s 0) = false) ∨ (0 < s.size ∧ ((s.size : Int) == 4) = true ∧ decide (224 ≤ PlainAid.bt s 0) = true ∧ decide (PlainAid.bt s 0 ≤ 239) = false) ∨ (0 < s.size ∧ ((s.size : Int) == 4) = false ∧ ((s.size : Int) == 16) = true ∧ (PlainAid.bt s 0 == 255) = false) ∨ (((s.size : Int) == 4) = false ∧ ((s.size : Int) == 16) = false) := by
    rw [hb0]
    simp only [beq_iff_eq, beq_eq_false_iff_ne, decide_eq_true_eq, decide_eq_false_iff_not]
    omega
  clear h4 h16 hb0 hx
  rcases hc with ⟨hp, a1, a2⟩ | ⟨hp, a1, a2, a3⟩ | ⟨hp, a1, a2, a3⟩ | ⟨a1, a2⟩
  all_goals
    go_enter Try.func28, Try.ntmps28
    go_wp2
    go_ret
    exact ⟨rfl, rfl⟩

set_option maxRecDepth 100000 in
set_option maxHeartbeats 2000000 in
theorem rgroup_4 (s : ByteArray) (hs : s.size = 4) (h0 : (s.data.toList.getD 0 0).toNat / 16 = 14) (m : ByteArray) (hm : m.data.toList = [1, 0, 94, UInt8.ofNat ((s.data.toList.getD 1 0).toNat % 128)] ++ s.data.toList.drop 2) (w : World) :
    Calls Try.prog 16 #[.string s] w fun e w' => e = .returned (.tuple #[.string m, .int .i64 0]) ∧ Below w.heap.size w w' := by
  have hG := fun w => isgroup_yes s (.inl ⟨hs, h0⟩) w
  have hbt := PlainAid.get_bt s
  have a1 : ((s.size : Int) == 4) = true := by rw [hs]; rfl
  have hb1 := bt_at s 1
  have hx := (s.data.toList.getD 1 0).toNat_lt
  obtain ⟨g, hg⟩ : ∃ g, g = UInt8.ofNat ((s.data.toList.getD 1 0).toNat % 128) := ⟨_, rfl⟩
  have hgn : g.toNat = (s.data.toList.getD 1 0).toNat % 128 := by rw [hg, UInt8.toNat_ofNat', Nat.mod_eq_of_lt (by omega)]
  have hand : PlainAid.bt s 1 % 128 = (g.toNat : Int) := by rw [hb1, hgn]; omega
  have b1 := PlainAid.bt_nonneg s 1
  have hand2 : (PlainAid.bt s 1).tmod 128 = (g.toNat : Int) := by rw [Int.tmod_eq_emod_of_nonneg b1]; exact hand
  rw [← hg] at hm
  have hone := fun W => one_string2 W g
  obtain ⟨x1, hx1⟩ : ∃ x : ByteArray, x = ⟨#[1, 0, 94]⟩ ++ ⟨#[g]⟩ := ⟨_, rfl⟩
  obtain ⟨x2, hx2⟩ : ∃ x, x = s.extract 2 s.size := ⟨_, rfl⟩
  have hpos : 2 ≤ s.size := by omega
  have k2 := slice_fromA s 2 (by omega) 2 rfl
  rw [← hx2] at k2
  have j1 := join2 ⟨#[1, 0, 94]⟩ ⟨#[g]⟩ (by show 3 + 1 ≤ _; decide)
  rw [← hx1] at j1
  have j2 := join2 x1 x2 (by rw [hx1, hx2, size_add, ByteArray.size_extract]; show 3 + 1 + _ ≤ _; omega)
  have hres : x1 ++ x2 = m := by
    apply ba_eq
    rw [data_add, hm, hx1, hx2, data_add, data_extract, List.take_of_length_le (by rw [List.length_drop, size_toList]; omega)]
    rfl
  rw [hres] at j2
  have HG := Lib.hid hG
  clear hs h0 hm hb1 hx hg hgn hx1 hx2 hres hG
  go_enter Try.func16, Try.ntmps16
  go_wp2_with ((with_reducible refine (HG.out _).mono ?_); rintro e w1 ⟨rfl, rfl⟩)
  go_region_with (fail)
  all_goals
    go_wp2
    go_ret2
    exact ⟨rfl, Below.drew (bbox1 _ _)⟩

set_option maxRecDepth 100000 in
set_option maxHeartbeats 2000000 in
theorem rgroup_16 (s : ByteArray) (hs : s.size = 16) (h0 : (s.data.toList.getD 0 0).toNat = 255) (m : ByteArray) (hm : m.data.toList = [51, 51] ++ s.data.toList.drop 12) (w : World) :
    Calls Try.prog 16 #[.string s] w fun e w' => e = .returned (.tuple #[.string m, .int .i64 0]) ∧ Below w.heap.size w w' := by
  have hG := fun w => isgroup_yes s (.inr ⟨hs, h0⟩) w
  have a1 : ((s.size : Int) == 4) = false := by rw [hs]; rfl
  obtain ⟨x2, hx2⟩ : ∃ x, x = s.extract 12 s.size := ⟨_, rfl⟩
  have hpos : 12 ≤ s.size := by omega
  have k2 := slice_fromA s 12 (by omega) 12 rfl
  rw [← hx2] at k2
  have j1 := join2 ⟨#[51, 51]⟩ x2 (by rw [hx2, ByteArray.size_extract]; show 2 + _ ≤ _; omega)
  have hres : (⟨#[51, 51]⟩ : ByteArray) ++ x2 = m := by
    apply ba_eq
    rw [data_add, hm, hx2, data_extract, List.take_of_length_le (by rw [List.length_drop, size_toList]; omega)]
  rw [hres] at j1
  have hx3 := hx2.symm
  have HG := Lib.hid hG
  clear hs h0 hm hx2 hres hG
  go_enter Try.func16, Try.ntmps16
  go_wp2_with ((with_reducible refine (HG.out _).mono ?_); rintro e w1 ⟨rfl, rfl⟩)
  go_ret2
  exact ⟨rfl, Below.refl _ _⟩

set_option maxRecDepth 100000 in
set_option maxHeartbeats 2000000 in
theorem rgroup_no (s : ByteArray) (h4 : ¬ (s.size = 4 ∧ (s.data.toList.getD 0 0).toNat / 16 = 14)) (h16 : ¬ (s.size = 16 ∧ (s.data.toList.getD 0 0).toNat = 255)) (w : World) :
    Calls Try.prog 16 #[.string s] w fun e w' => e = .returned (.tuple #[.string ⟨#[]⟩, .int .i64 1]) ∧ Below w.heap.size w w' := by
  have hG := fun w => isgroup_no s h4 h16 w
  have HG := Lib.hid hG
  clear h4 h16 hG
  go_enter Try.func16, Try.ntmps16
  go_wp2_with ((with_reducible refine (HG.out _).mono ?_); rintro e w1 ⟨rfl, rfl⟩)
  go_ret2
  exact ⟨rfl, Below.refl _ _⟩

def GroupE (s m : ByteArray) (x : Int) : Prop :=
  ∀ w : World, Calls Try.prog 15 #[.string s] w fun e w' => e = .returned (.tuple #[.string m, .int .i64 x]) ∧ Below w.heap.size w w'
theorem GroupE.to {s m : ByteArray} {x : Int} (h : GroupE s m x) (w : World) : Calls Try.prog 15 #[.string s] w fun e w' => e = .returned (.tuple #[.string m, .int .i64 x]) ∧ Below w.heap.size w w' := h w
def RGroupE (s m : ByteArray) (x : Int) : Prop :=
  ∀ w : World, Calls Try.prog 16 #[.string s] w fun e w' => e = .returned (.tuple #[.string m, .int .i64 x]) ∧ Below w.heap.size w w'
theorem RGroupE.to {s m : ByteArray} {x : Int} (h : RGroupE s m x) (w : World) : Calls Try.prog 16 #[.string s] w fun e w' => e = .returned (.tuple #[.string m, .int .i64 x]) ∧ Below w.heap.size w w' := h w
end Go.Proofs.Ythpdfihmpoofaaa
