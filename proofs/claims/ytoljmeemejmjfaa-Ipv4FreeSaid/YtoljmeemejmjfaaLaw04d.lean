/-
  The walk of 'Ipv4Free': it returns true and leaves what was there alone. Conditions: a text's length lies within the form's own reach, the numbers are of their kind.
-/
import Derived.Test.YtoljmeemejmjfaaLaw04b
import Derived.Test.YtoljmeemejmjfaaRFill
import Derived.Deep.RegionWith
namespace Go.Proofs.Ytoljmeemejmjfaa
open Go.RowKit

def RFillz (p s : ByteArray) (a : Int) (v : ByteArray) (x : Int) : Prop :=
  ∀ w : World, Calls Try.prog 17 #[.string p, .string s, .int .i64 a] w fun e w' => e = .returned (.tuple #[.string v, .int .i64 x]) ∧ Below w.heap.size w w'
theorem RFillz.to {p s : ByteArray} {a : Int} {v : ByteArray} {x : Int} (h : RFillz p s a v x) (w : World) : Calls Try.prog 17 #[.string p, .string s, .int .i64 a] w fun e w' => e = .returned (.tuple #[.string v, .int .i64 x]) ∧ Below w.heap.size w w' := h w

set_option maxRecDepth 100000 in
set_option maxHeartbeats 1000000 in
theorem v4free_not (id ttl pr : Int) (src dst opts data : ByteArray) (y : UInt8) (hE : Enc4 id ttl pr src dst opts data ⟨#[]⟩ 1) (w : World) :
    Calls Try.prog 9 #[.agg #[.int .i64 id, .int .i64 ttl, .int .i64 pr, .string src, .string dst, .string opts, .string data], .int .u8 y.toNat] w fun e w' => e = .returned (.bool true) ∧ Below w.heap.size w w' := by
  have HL := Lib.hid live04
  go_enter Try.func9, Try.ntmps9
  go_wp2_with (first | ((with_reducible refine (hE.to _).mono ?_); rintro e w3 ⟨rfl, g3⟩) | ((with_reducible refine (HL.out _).mono ?_); rintro e w4 ⟨rfl, g4⟩))
  go_ret
  exact ⟨rfl, bstep (bstep (bbox1 _ _) g3) g4⟩

set_option maxRecDepth 100000 in
set_option maxHeartbeats 4000000 in
theorem v4free_in (id ttl pr : Int) (src dst opts data s a b c u f g x : ByteArray) (y : UInt8) (hE : Enc4 id ttl pr src dst opts data s 0) (z3 : opts.size ≤ 40) (hs : 20 + opts.size ≤ s.size) (hs2 : (s.size : Int) ≤ 65535)
    (k1 : s.extract 0 1 = a) (k2 : a ++ ⟨#[y]⟩ = b) (k3 : s.extract 2 (20 + opts.size) = c) (k4 : b ++ c = u) (hF : RFillz ⟨#[]⟩ u 10 f 0) (fz : f.size ≤ 80) (k5 : s.extract (20 + opts.size) s.size = g) (k6 : f ++ g = x) (hX : Dec4 x (v4 id ttl pr src dst opts data) 0) (w : World) :
    Calls Try.prog 9 #[.agg #[.int .i64 id, .int .i64 ttl, .int .i64 pr, .string src, .string dst, .string opts, .string data], .int .u8 y.toNat] w fun e w' => e = .returned (.bool true) ∧ Below w.heap.size w w' := by
  have HL := Lib.hid live04
  have r1 := slice_to s 1 (by omega) 1 rfl
  have r3 := slice_mid s 2 (20 + opts.size) (by omega) hs 2 (20 + (opts.size : Int)) rfl (by omega)
  have r5 := slice_from s (20 + opts.size) hs (20 + (opts.size : Int)) (by omega)
  have za : a.size = 1 := by rw [← k1, ByteArray.size_extract]; omega
  have zb : b.size = 2 := by rw [← k2, size_add, za]; rfl
  have zc : c.size ≤ 60 := by rw [← k3, ByteArray.size_extract]; omega
  have zg : (g.size : Int) ≤ 65535 := by rw [← k5, ByteArray.size_extract]; omega
  have j2 := join2 a ⟨#[y]⟩ (by rw [za]; show 1 + 1 ≤ _; decide)
  have j4 := join2 b c (by omega)
  have j6 := join2 f g (by omega)
  rw [k1] at r1
  rw [k3] at r3
  rw [k5] at r5
  rw [k2] at j2
  rw [k4] at j4
  rw [k6] at j6
  have d20 : decide ((s.size : Int) < 20) = false := decide_eq_false (by omega)
  have z3i : (opts.size : Int) ≤ 40 := by omega
  have hone := fun W => one_string2 W y
  unfold v4 at hX
  clear k1 k2 k3 k4 k5 k6 za zb zc zg z3 fz
  go_enter Try.func9, Try.ntmps9
  go_wp2_with ((with_reducible refine (hE.to _).mono ?_); rintro e w3 ⟨rfl, g3⟩; have B1 := (Box7.new _ _ _ _ _ _ _ _ _).below g3; have B0 := B1; obtain ⟨y1, c0, c1, c2, c3, c4, c5, c6, cf⟩ := B0)
  have b3 := bstep (bbox1 w _) g3
  clear c0 c1 c2 c3 c4 c5 c6 cf g3
  go_region_with (first | ((with_reducible refine (hF.to _).mono ?_); rintro e w4 ⟨rfl, g4⟩; have B2 := ((B1.below (bbox1 _ _)).drew).below g4))
  all_goals
    go_wp2_with (first | ((with_reducible refine (hX.to _).mono ?_); rintro e w5 ⟨rfl, g5⟩; obtain ⟨y2, d0, d1, d2, d3, d4, d5, d6, df⟩ := B2.below g5) | ((with_reducible refine (HL.out _).mono ?_); rintro e w6 ⟨rfl, g6⟩))
    go_ret
    exact ⟨rfl, bstep (ball (bstep (bstep (Below.drew (ball b3 _)) g4) g5) _) g6⟩

theorem v4free_walk (id ttl pr : Int) (src dst opts data : ByteArray) (y : UInt8) (hi : id ≤ 9223372036854775807) (ht : ttl ≤ 9223372036854775807) (hp : pr ≤ 9223372036854775807) (ho : opts.size ≤ 140737488351232) (w : World) :
    Calls Try.prog 9 #[.agg #[.int .i64 id, .int .i64 ttl, .int .i64 pr, .string src, .string dst, .string opts, .string data], .int .u8 y.toNat] w fun e w' => e = .returned (.bool true) ∧ Below w.heap.size w w' := by
  rcases enc4_case id ttl pr src dst opts data hi ht hp ho with hE | ⟨i, t, p, d0, d1, s, rfl, rfl, rfl, z1, z2, z3, z4, i1, t1, p1, m, hE, dS, zS, hsum⟩
  · exact v4free_not id ttl pr src dst opts data y hE w
  · have hs20 : 20 + opts.size ≤ s.size := by rw [zS]; exact Nat.le_add_right _ _
    have hsi : (s.size : Int) ≤ 65535 := Int.ofNat_le.2 (by rw [zS]; exact m)
    have e1 := size_toList src
    have e2 := size_toList dst
    have e3 := size_toList opts
    have e4 := size_toList data
    obtain ⟨H, eH⟩ : ∃ H, H = V4.pre 0 i t p d0 d1 src.data.toList dst.data.toList opts.data.toList data.size := ⟨_, rfl⟩
    have lp : H.length = 20 + opts.size := by rw [eH, V4.pre_length _ _ _ _ _ _ _ _ _ _ (by omega) (by omega), e3]
    obtain ⟨hb, l0, l1, i0, i1', tt, pp, hh, hll, hi', ht', hp', hpre⟩ := V4.pre_bytes i t p src.data.toList dst.data.toList opts.data.toList data.size (by omega) i1 t1 p1 (by rw [e3]; exact m)
    have hH : H = hb :: 0 :: l0 :: l1 :: i0 :: i1' :: 0 :: 0 :: tt :: pp :: d0 :: d1 :: (src.data.toList ++ (dst.data.toList ++ opts.data.toList)) := by rw [eH, hpre]
    rw [← eH] at dS hsum
    obtain ⟨c0, c1, hf, hsum2⟩ := V4.filled_pre y i t p d0 d1 src.data.toList dst.data.toList opts.data.toList data.size (by omega) (by omega)
    have hu : (s.extract 0 1 ++ ⟨#[y]⟩ : ByteArray) ++ s.extract 2 (20 + opts.size) = ⟨(V4.pre y i t p d0 d1 src.data.toList dst.data.toList opts.data.toList data.size).toArray⟩ := by
      apply ba_eq
      rw [data_add, data_add, data_extract, data_extract, dS, hpre]
      have q1 : ((H ++ data.data.toList).drop 2).take (20 + opts.size - 2) = H.drop 2 := by
        rw [List.drop_append_of_le_length (by omega), List.take_left' (by rw [List.length_drop, lp])]
      rw [q1, hH]
      rfl
    have lz : (⟨(V4.pre y i t p d0 d1 src.data.toList dst.data.toList opts.data.toList data.size).toArray⟩ : ByteArray).size = 20 + opts.size := by
      rw [size_mk, V4.pre_length _ _ _ _ _ _ _ _ _ _ (by omega) (by omega), e3]
    have hF : RFillz ⟨#[]⟩ ⟨(V4.pre y i t p d0 d1 src.data.toList dst.data.toList opts.data.toList data.size).toArray⟩ 10 ⟨(V4.pre y i t p c0 c1 src.data.toList dst.data.toList opts.data.toList data.size).toArray⟩ 0 := fun w => by
      have h := rfill_ok ⟨#[]⟩ ⟨(V4.pre y i t p d0 d1 src.data.toList dst.data.toList opts.data.toList data.size).toArray⟩ 10 (by decide) (by rw [lz]; omega) (by rw [lz]; omega) (by decide) (by decide) w
      rw [hf] at h
      exact h
    have lf : (⟨(V4.pre y i t p c0 c1 src.data.toList dst.data.toList opts.data.toList data.size).toArray⟩ : ByteArray).size = 20 + opts.size := by
      rw [size_mk, V4.pre_length _ _ _ _ _ _ _ _ _ _ (by omega) (by omega), e3]
    have hg : (s.extract (20 + opts.size) s.size).data.toList = data.data.toList := by
      rw [from_data, dS]; exact List.drop_left' lp
    refine v4free_in i t p src dst opts data s _ _ _ _ _ _ _ y hE z3 hs20 hsi rfl rfl rfl hu hF (by rw [lf]; omega) rfl rfl ?_ w
    refine dec4_enc _ src dst opts data y c0 c1 i t p [] z1 z2 z3 z4 i1 t1 p1 m ?_ hsum2 ?_
    · rw [data_add, hg, List.append_nil]
    · have hzg : (s.extract (20 + opts.size) s.size).size = data.size := by rw [← size_toList, hg, e4]
      rw [size_add, lf, hzg]
      exact Nat.le_trans m (by decide)

theorem v4free_any (id ttl pr : Int) (src dst opts data : ByteArray) (y : Int) (hi : id ≤ 9223372036854775807) (ht : ttl ≤ 9223372036854775807) (hp : pr ≤ 9223372036854775807) (ho : opts.size ≤ 140737488351232) (h0 : 0 ≤ y) (h1 : y ≤ 255) (w : World) :
    Calls Try.prog 9 #[.agg #[.int .i64 id, .int .i64 ttl, .int .i64 pr, .string src, .string dst, .string opts, .string data], .int .u8 y] w fun e w' => e = .returned (.bool true) ∧ Below w.heap.size w w' := by
  obtain ⟨n, rfl⟩ := Int.eq_ofNat_of_zero_le h0
  have h := v4free_walk id ttl pr src dst opts data (UInt8.ofNat n) hi ht hp ho w
  rw [UInt8.toNat_ofNat', Nat.mod_eq_of_lt (by omega)] at h
  exact h
end Go.Proofs.Ytoljmeemejmjfaa
