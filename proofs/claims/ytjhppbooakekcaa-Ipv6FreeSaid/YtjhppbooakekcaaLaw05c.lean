/-
  The walks of 'Ipv6Back' and 'Ipv6Short': each returns true and leaves what was there alone. Conditions: a text's length lies within the form's own reach, the numbers are of their kind.
-/
import Derived.Test.YtjhppbooakekcaaLaw05b
namespace Go.Proofs.Ytjhppbooakekcaa
open Go.RowKit

theorem enc6_size (h n : Nat) (src dst data : ByteArray) (f : Bool) (z1 : src.size = 16) (z2 : dst.size = 16) (z3 : data.size ≤ 65527) :
    40 ≤ (⟨(V6.enc h n src.data.toList dst.data.toList f data.data.toList).toArray⟩ : ByteArray).size ∧ (⟨(V6.enc h n src.data.toList dst.data.toList f data.data.toList).toArray⟩ : ByteArray).size ≤ 65575 := by
  have e1 := size_toList src
  have e2 := size_toList dst
  rw [size_mk, V6.enc_length _ _ _ _ _ _ (by omega) (by omega), V6.body_length, size_toList]
  cases f <;> simp <;> omega

set_option maxRecDepth 100000 in
set_option maxHeartbeats 1000000 in
theorem v6back_not (h n : Int) (src dst data v : ByteArray) (f : Bool) (hE : Enc6 h n src dst f data ⟨#[]⟩ 1) (w : World) :
    Calls Try.prog 6 #[.agg #[.int .i64 h, .int .i64 n, .string src, .string dst, .bool f, .string data], .string v] w fun e w' => e = .returned (.bool true) ∧ Below w.heap.size w w' := by
  have HL := Lib.hid live05
  go_enter Try.func6, Try.ntmps6
  go_wp2_with (first | ((with_reducible refine (hE.to _).mono ?_); rintro e w3 ⟨rfl, g3⟩) | ((with_reducible refine (HL.out _).mono ?_); rintro e w4 ⟨rfl, g4⟩))
  go_ret
  exact ⟨rfl, bstep (bstep (bbox1 _ _) g3) g4⟩

set_option maxRecDepth 100000 in
set_option maxHeartbeats 1000000 in
theorem v6back_in (h n : Int) (src dst data v t u : ByteArray) (f : Bool) (hE : Enc6 h n src dst f data t 0) (hu : t ++ v = u) (ht : t.size ≤ 65575) (hv : v.size ≤ 140737488351232) (hF : Dec6 u (v6 h n src dst f data) 0) (w : World) :
    Calls Try.prog 6 #[.agg #[.int .i64 h, .int .i64 n, .string src, .string dst, .bool f, .string data], .string v] w fun e w' => e = .returned (.bool true) ∧ Below w.heap.size w w' := by
  have HL := Lib.hid live05
  have j1 := join2 t v (by omega)
  rw [hu] at j1
  unfold v6 at hF
  clear hu ht hv
  go_enter Try.func6, Try.ntmps6
  go_wp2_with (first | ((with_reducible refine (hE.to _).mono ?_); rintro e w3 ⟨rfl, g3⟩; have B1 := (Box6.new _ _ _ _ _ _ _ _).below g3) | ((with_reducible refine (hF.to _).mono ?_); rintro e w5 ⟨rfl, g5⟩; obtain ⟨y1, c0, c1, c2, c3, c4, c5, cf⟩ := B1.below g5) | ((with_reducible refine (HL.out _).mono ?_); rintro e w4 ⟨rfl, g4⟩))
  go_ret
  exact ⟨rfl, bstep (ball (bstep (bstep (bbox1 _ _) g3) g5) _) g4⟩

theorem v6back_walk (h n : Int) (src dst data v : ByteArray) (f : Bool) (hh : h ≤ 9223372036854775807) (hn : n ≤ 9223372036854775807) (z3 : data.size ≤ 140737488351232) (hv : v.size ≤ 140737488351232) (w : World) :
    Calls Try.prog 6 #[.agg #[.int .i64 h, .int .i64 n, .string src, .string dst, .bool f, .string data], .string v] w fun e w' => e = .returned (.bool true) ∧ Below w.heap.size w w' := by
  by_cases hb : Bad6 h n src dst data
  · exact v6back_not h n src dst data v f (enc6_arg h n src dst data f hh hn z3 hb) w
  · unfold Bad6 at hb
    obtain ⟨h, rfl⟩ := Int.eq_ofNat_of_zero_le (show 0 ≤ h by omega)
    obtain ⟨n, rfl⟩ := Int.eq_ofNat_of_zero_le (show 0 ≤ n by omega)
    have hz := enc6_size h n src dst data f (by omega) (by omega) (by omega)
    refine v6back_in h n src dst data v _ _ f (enc6_ok h n src dst data f (by omega) (by omega) (by omega) (by omega) (by omega) (by omega)) rfl hz.2 hv ?_ w
    refine dec6_enc _ src dst data h n f 96 0 0 0 v.data.toList (by decide) (by omega) (by omega) (by omega) (by omega) (by omega) (by omega) ?_ ?_
    · rw [data_add]; rfl
    · rw [size_add]; omega

/-- a packet that is cut off is none -/
theorem dec6_short (src dst data : ByteArray) (h n : Nat) (f : Bool) (k : Nat) (z1 : src.size = 16) (z2 : dst.size = 16) (z3 : data.size ≤ 65527)
    (hk : k < (⟨(V6.enc h n src.data.toList dst.data.toList f data.data.toList).toArray⟩ : ByteArray).size) :
    Dec6 ((⟨(V6.enc h n src.data.toList dst.data.toList f data.data.toList).toArray⟩ : ByteArray).extract 0 k) zeroV6 2 := by
  have hz := enc6_size h n src dst data f z1 z2 z3
  have e1 := size_toList src
  have e2 := size_toList dst
  have lE := V6.enc_length h n src.data.toList dst.data.toList f data.data.toList (by omega) (by omega)
  rw [size_mk] at hk hz
  have hs : ((⟨(V6.enc h n src.data.toList dst.data.toList f data.data.toList).toArray⟩ : ByteArray).extract 0 k).size = k := by
    rw [ByteArray.size_extract, size_mk]; omega
  by_cases h40 : k < 40
  · exact dec6_cut _ (by omega)
  · obtain ⟨a0, a1, ha⟩ := V6.len2 (Pl.be 2 (V6.body n f data.data.toList).length) (Pl.be_length _ _)
    have lB := V6.body_length n f data.data.toList
    rw [size_toList] at lB
    have ea : Pl.num [a0, a1] = (V6.body n f data.data.toList).length := by rw [← ha]; exact Pl.num_be_of_lt (by rw [lB]; cases f <;> simp <;> omega)
    have hd : ((⟨(V6.enc h n src.data.toList dst.data.toList f data.data.toList).toArray⟩ : ByteArray).extract 0 k).data.toList = (V6.enc h n src.data.toList dst.data.toList f data.data.toList).take k := by
      rw [data_extract, List.drop_zero, Nat.sub_zero]
    obtain ⟨r, hr⟩ : ∃ r, V6.enc h n src.data.toList dst.data.toList f data.data.toList = 96 :: 0 :: 0 :: 0 :: a0 :: a1 :: r := by
      rw [V6.enc, V6.tail, ha]; exact ⟨_, rfl⟩
    obtain ⟨j, hj⟩ : ∃ j, k = j + 6 := ⟨k - 6, by omega⟩
    have hL : ((⟨(V6.enc h n src.data.toList dst.data.toList f data.data.toList).toArray⟩ : ByteArray).extract 0 k).data.toList = 96 :: 0 :: 0 :: 0 :: a0 :: a1 :: r.take j := by
      rw [hd, hr, hj]; rfl
    intro w
    refine v6dec_short _ (V6.body n f data.data.toList).length (by omega) (by omega) ?_ ?_ (by omega) w
    · have kg := gets_ok ((⟨(V6.enc h n src.data.toList dst.data.toList f data.data.toList).toArray⟩ : ByteArray).extract 0 k) 4 2 (by omega) (by decide) (by decide) (by omega)
      have kd : (((⟨(V6.enc h n src.data.toList dst.data.toList f data.data.toList).toArray⟩ : ByteArray).extract 0 k).data.toList.drop 4).take 2 = [a0, a1] := by rw [hL]; rfl
      rw [kd, ea] at kg
      exact kg
    · rw [bt_at, hL]
      show (((96 : UInt8).toNat : Int) / 16 != 6) = false
      decide

set_option maxRecDepth 100000 in
set_option maxHeartbeats 1000000 in
theorem v6short_not (h n : Int) (src dst data : ByteArray) (f : Bool) (q : Int) (hE : Enc6 h n src dst f data ⟨#[]⟩ 1) (w : World) :
    Calls Try.prog 7 #[.agg #[.int .i64 h, .int .i64 n, .string src, .string dst, .bool f, .string data], .int .i64 q] w fun e w' => e = .returned (.bool true) ∧ Below w.heap.size w w' := by
  have HL := Lib.hid live05
  go_enter Try.func7, Try.ntmps7
  go_wp2_with (first | ((with_reducible refine (hE.to _).mono ?_); rintro e w3 ⟨rfl, g3⟩) | ((with_reducible refine (HL.out _).mono ?_); rintro e w4 ⟨rfl, g4⟩))
  go_ret
  exact ⟨rfl, bstep (bstep (bbox1 _ _) g3) g4⟩

set_option maxRecDepth 100000 in
set_option maxHeartbeats 1000000 in
theorem v6short_in (h n : Int) (src dst data s x : ByteArray) (f : Bool) (q : Int) (qn k : Nat) (hE : Enc6 h n src dst f data s 0) (hs : 40 ≤ s.size) (hs2 : s.size ≤ 65575) (hk : k = qn % s.size) (hx : s.extract 0 k = x) (hX : Dec6 x zeroV6 2)
    (hsel : (0 ≤ q ∧ q = qn) ∨ (q < 0 ∧ -(q + 1) = qn)) (hlo : -9223372036854775808 ≤ q) (hhi : q ≤ 9223372036854775807) (w : World) :
    Calls Try.prog 7 #[.agg #[.int .i64 h, .int .i64 n, .string src, .string dst, .bool f, .string data], .int .i64 q] w fun e w' => e = .returned (.bool true) ∧ Below w.heap.size w w' := by
  have HL := Lib.hid live05
  have hkl : k < s.size := by rw [hk]; exact Nat.mod_lt _ (by omega)
  have c1 := slice_to s k (by omega) k rfl
  rw [hx] at c1
  have em : (qn : Int) % (s.size : Int) = (k : Int) := by rw [hk]; omega
  have hkl2 : (k : Int) ≤ (s.size : Int) := by omega
  unfold zeroV6 at hX
  clear hk hkl
  rcases hsel with ⟨hA, rfl⟩ | ⟨hA, hB⟩
  all_goals
    go_enter Try.func7, Try.ntmps7
    go_wp2_with (first | ((with_reducible refine (hE.to _).mono ?_); rintro e w3 ⟨rfl, g3⟩) | ((with_reducible refine (hX.to _).mono ?_); rintro e w5 ⟨rfl, g5⟩) | ((with_reducible refine (HL.out _).mono ?_); rintro e w4 ⟨rfl, g4⟩))
    go_ret
    exact ⟨rfl, bstep (ball (bstep (bstep (bbox1 _ _) g3) g5) _) g4⟩

theorem v6short_walk (h n : Int) (src dst data : ByteArray) (f : Bool) (q : Int) (hh : h ≤ 9223372036854775807) (hn : n ≤ 9223372036854775807) (z3 : data.size ≤ 140737488351232) (hlo : -9223372036854775808 ≤ q) (hhi : q ≤ 9223372036854775807) (w : World) :
    Calls Try.prog 7 #[.agg #[.int .i64 h, .int .i64 n, .string src, .string dst, .bool f, .string data], .int .i64 q] w fun e w' => e = .returned (.bool true) ∧ Below w.heap.size w w' := by
  by_cases hb : Bad6 h n src dst data
  · exact v6short_not h n src dst data f q (enc6_arg h n src dst data f hh hn z3 hb) w
  · unfold Bad6 at hb
    obtain ⟨h, rfl⟩ := Int.eq_ofNat_of_zero_le (show 0 ≤ h by omega)
    obtain ⟨n, rfl⟩ := Int.eq_ofNat_of_zero_le (show 0 ≤ n by omega)
    have hz := enc6_size h n src dst data f (by omega) (by omega) (by omega)
    obtain ⟨qn, hsel⟩ : ∃ qn : Nat, (0 ≤ q ∧ q = qn) ∨ (q < 0 ∧ -(q + 1) = qn) := by
      by_cases h1 : 0 ≤ q
      · obtain ⟨m, hm⟩ := Int.eq_ofNat_of_zero_le h1
        exact ⟨m, .inl ⟨h1, hm⟩⟩
      · obtain ⟨m, hm⟩ := Int.eq_ofNat_of_zero_le (show 0 ≤ -(q + 1) by omega)
        exact ⟨m, .inr ⟨by omega, hm⟩⟩
    exact v6short_in h n src dst data _ _ f q qn _ (enc6_ok h n src dst data f (by omega) (by omega) (by omega) (by omega) (by omega) (by omega)) hz.1 hz.2 rfl rfl
      (dec6_short src dst data h n f _ (by omega) (by omega) (by omega) (Nat.mod_lt _ (by omega))) hsel hlo hhi w
end Go.Proofs.Ytjhppbooakekcaa
