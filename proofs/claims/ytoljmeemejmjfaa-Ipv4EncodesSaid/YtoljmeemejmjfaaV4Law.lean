/-
  IPv4 packets in bytes, and what Decode, Encode and Alert answer on them, as facts for the laws' walks. Conditions: those of each.
-/
import Derived.Test.YtoljmeemejmjfaaV4Enc
import Derived.Test.YtoljmeemejmjfaaRAlert
namespace Go.Proofs.Ytoljmeemejmjfaa
open Go.RowKit

namespace V4
/-- the head's bytes; y: the second one; c0, c1: its sum; n: how many bytes of data follow -/
def pre (y : UInt8) (id ttl pr : Nat) (c0 c1 : UInt8) (src dst opts : List UInt8) (n : Nat) : List UInt8 :=
  (Pl.be 1 (64 + (20 + opts.length) / 4) ++ [y] ++ Pl.be 2 (20 + opts.length + n) ++ Pl.be 2 id ++ [0, 0] ++ Pl.be 1 ttl ++ Pl.be 1 pr) ++ [c0, c1] ++ (src ++ dst ++ opts)
theorem len1 : ∀ l : List UInt8, l.length = 1 → ∃ x0, l = [x0]
  | [x0], _ => ⟨x0, rfl⟩
theorem len2 : ∀ l : List UInt8, l.length = 2 → ∃ x0 x1, l = [x0, x1]
  | [x0, x1], _ => ⟨x0, x1, rfl⟩
theorem pre_length (y : UInt8) (id ttl pr : Nat) (c0 c1 : UInt8) (src dst opts : List UInt8) (n : Nat) (z1 : src.length = 4) (z2 : dst.length = 4) : (pre y id ttl pr c0 c1 src dst opts n).length = 20 + opts.length := by
  simp [pre, Pl.be_length, z1, z2]; omega
/-- the head, byte by byte -/
theorem pre_bytes (id ttl pr : Nat) (src dst opts : List UInt8) (n : Nat) (o : opts.length ≤ 40) (i : id ≤ 65535) (t : ttl ≤ 255) (p : pr ≤ 255) (m : 20 + opts.length + n ≤ 65535) :
    ∃ h l0 l1 i0 i1 tt pp : UInt8, h.toNat = 64 + (20 + opts.length) / 4 ∧ Pl.num [l0, l1] = 20 + opts.length + n ∧ Pl.num [i0, i1] = id ∧ tt.toNat = ttl ∧ pp.toNat = pr ∧
      ∀ (y : UInt8) (c0 c1 : UInt8), pre y id ttl pr c0 c1 src dst opts n = h :: y :: l0 :: l1 :: i0 :: i1 :: 0 :: 0 :: tt :: pp :: c0 :: c1 :: (src ++ (dst ++ opts)) := by
  obtain ⟨h, hh⟩ := len1 (Pl.be 1 (64 + (20 + opts.length) / 4)) (Pl.be_length _ _)
  obtain ⟨l0, l1, hl⟩ := len2 (Pl.be 2 (20 + opts.length + n)) (Pl.be_length _ _)
  obtain ⟨i0, i1, hi⟩ := len2 (Pl.be 2 id) (Pl.be_length _ _)
  obtain ⟨tt, ht⟩ := len1 (Pl.be 1 ttl) (Pl.be_length _ _)
  obtain ⟨pp, hp⟩ := len1 (Pl.be 1 pr) (Pl.be_length _ _)
  refine ⟨h, l0, l1, i0, i1, tt, pp, ?_, ?_, ?_, ?_, ?_, ?_⟩
  · have k := congrArg Pl.num hh
    rw [Pl.num_one, Pl.num_be_of_lt (by omega)] at k
    exact k.symm
  · rw [← hl]; exact Pl.num_be_of_lt (Nat.lt_of_le_of_lt m (by decide))
  · rw [← hi]; exact Pl.num_be_of_lt (Nat.lt_of_le_of_lt i (by decide))
  · have k := congrArg Pl.num ht
    rw [Pl.num_one, Pl.num_be_of_lt (by omega)] at k
    exact k.symm
  · have k := congrArg Pl.num hp
    rw [Pl.num_one, Pl.num_be_of_lt (by omega)] at k
    exact k.symm
  · intro y c0 c1
    rw [pre, hh, hl, hi, ht, hp]
    simp

theorem bytes (l : List UInt8) : (⟨l.toArray⟩ : ByteArray).data.toList = l := rfl
/-- a head with its sum put in: the same head with two other bytes there, and its sum is 0 -/
theorem filled_pre (y : UInt8) (id ttl pr : Nat) (c0 c1 : UInt8) (src dst opts : List UInt8) (n : Nat) (z1 : src.length = 4) (z2 : dst.length = 4) :
    ∃ d0 d1, Cs.filled ⟨#[]⟩ ⟨(pre y id ttl pr c0 c1 src dst opts n).toArray⟩ 10 = ⟨(pre y id ttl pr d0 d1 src dst opts n).toArray⟩ ∧ Cs.sum (pre y id ttl pr d0 d1 src dst opts n) = 0 := by
  obtain ⟨d0, d1, hd⟩ := len2 (Pl.be 2 (Cs.sum (Cs.gap ⟨#[]⟩ ⟨(pre y id ttl pr c0 c1 src dst opts n).toArray⟩ 10).data.toList)) (Pl.be_length _ _)
  have lf : (Pl.be 1 (64 + (20 + opts.length) / 4) ++ [y] ++ Pl.be 2 (20 + opts.length + n) ++ Pl.be 2 id ++ [0, 0] ++ Pl.be 1 ttl ++ Pl.be 1 pr).length = 10 := by simp [Pl.be_length]
  have e : Cs.filled ⟨#[]⟩ ⟨(pre y id ttl pr c0 c1 src dst opts n).toArray⟩ 10 = ⟨(pre y id ttl pr d0 d1 src dst opts n).toArray⟩ := by
    apply ba_eq
    unfold Cs.filled
    rw [hd, data_add, data_add, data_extract, data_extract, bytes, bytes, bytes, List.drop_zero, Nat.sub_zero]
    unfold pre
    rw [List.append_assoc _ [c0, c1], List.take_left' lf, show 10 + 2 = 12 from rfl]
    have e2 : ((Pl.be 1 (64 + (20 + opts.length) / 4) ++ [y] ++ Pl.be 2 (20 + opts.length + n) ++ Pl.be 2 id ++ [0, 0] ++ Pl.be 1 ttl ++ Pl.be 1 pr) ++ ([c0, c1] ++ (src ++ dst ++ opts))).drop 12 = src ++ dst ++ opts := by
      rw [← List.append_assoc]
      exact List.drop_left' (by rw [List.length_append, lf]; rfl)
    rw [e2, List.take_of_length_le (by rw [size_mk]; simp [Pl.be_length, z1, z2]; omega)]
  refine ⟨d0, d1, e, ?_⟩
  have h := Cs.filled_right ⟨#[]⟩ ⟨(pre y id ttl pr c0 c1 src dst opts n).toArray⟩ 10 (by decide) (by decide) (by rw [size_mk, pre_length _ _ _ _ _ _ _ _ _ _ z1 z2]; omega)
  rw [e] at h
  have e3 : ((⟨#[]⟩ : ByteArray) ++ ⟨(pre y id ttl pr d0 d1 src dst opts n).toArray⟩).data.toList = pre y id ttl pr d0 d1 src dst opts n := by rw [data_add]; rfl
  rw [e3] at h
  exact h
end V4

def Dec4 (s : ByteArray) (v : Value) (x : Int) : Prop :=
  ∀ w : World, Calls Try.prog 10 #[.string s] w fun e w' => e = .returned (.tuple #[v, .int .i64 x]) ∧ Below w.heap.size w w'
theorem Dec4.to {s : ByteArray} {v : Value} {x : Int} (h : Dec4 s v x) (w : World) : Calls Try.prog 10 #[.string s] w fun e w' => e = .returned (.tuple #[v, .int .i64 x]) ∧ Below w.heap.size w w' := h w
def Enc4 (id ttl pr : Int) (src dst opts data s : ByteArray) (x : Int) : Prop :=
  ∀ w : World, Calls Try.prog 13 #[.agg #[.int .i64 id, .int .i64 ttl, .int .i64 pr, .string src, .string dst, .string opts, .string data]] w fun e w' => e = .returned (.tuple #[.string s, .int .i64 x]) ∧ Below w.heap.size w w'
theorem Enc4.to {id ttl pr : Int} {src dst opts data s : ByteArray} {x : Int} (h : Enc4 id ttl pr src dst opts data s x) (w : World) :
  Calls Try.prog 13 #[.agg #[.int .i64 id, .int .i64 ttl, .int .i64 pr, .string src, .string dst, .string opts, .string data]] w fun e w' => e = .returned (.tuple #[.string s, .int .i64 x]) ∧ Below w.heap.size w w' := h w

theorem dec4_cut (s : ByteArray) (h : s.size < 20) : Dec4 s zeroV4 2 := fun w => v4dec_cut s h w

/-- WHAT WAS ENCODED IS DECODED, whatever the second byte is, and whatever stands behind -/
theorem dec4_enc (S src dst opts data : ByteArray) (y d0 d1 : UInt8) (id ttl pr : Nat) (t : List UInt8) (z1 : src.size = 4) (z2 : dst.size = 4) (z3 : opts.size ≤ 40) (z4 : opts.size % 4 = 0) (i : id ≤ 65535) (tl : ttl ≤ 255) (p : pr ≤ 255) (m : 20 + opts.size + data.size ≤ 65535)
    (hS : S.data.toList = V4.pre y id ttl pr d0 d1 src.data.toList dst.data.toList opts.data.toList data.size ++ data.data.toList ++ t) (hsum : Cs.sum (V4.pre y id ttl pr d0 d1 src.data.toList dst.data.toList opts.data.toList data.size) = 0) (hl : S.size ≤ 281474976710656) : Dec4 S (v4 id ttl pr src dst opts data) 0 := by
  have e1 := size_toList src
  have e2 := size_toList dst
  have e3 := size_toList opts
  have e4 := size_toList data
  obtain ⟨h, l0, l1, i0, i1, tt, pp, hh, hll, hi, ht, hp, hpre⟩ := V4.pre_bytes id ttl pr src.data.toList dst.data.toList opts.data.toList data.size (by omega) i tl p (by rw [e3]; exact m)
  have lp := V4.pre_length y id ttl pr d0 d1 src.data.toList dst.data.toList opts.data.toList data.size (by omega) (by omega)
  have hL : S.data.toList = h :: y :: l0 :: l1 :: i0 :: i1 :: 0 :: 0 :: tt :: pp :: d0 :: d1 :: (src.data.toList ++ (dst.data.toList ++ (opts.data.toList ++ (data.data.toList ++ t)))) := by
    rw [hS, hpre]; simp
  rw [e3] at hh hll lp
  have hz : S.size = 20 + opts.size + data.size + t.length := by
    rw [← size_toList, hS, List.length_append, List.length_append, lp, e4]
  have k0 : b1 S 0 = 64 + (20 + opts.size) / 4 := by unfold b1; rw [hL]; exact hh
  have k8 : b1 S 8 = ttl := by unfold b1; rw [hL]; exact ht
  have k9 : b1 S 9 = pr := by unfold b1; rw [hL]; exact hp
  have w2' : w2 S 2 = 20 + opts.size + data.size := by unfold w2; rw [hL]; exact hll
  have w4' : w2 S 4 = id := by unfold w2; rw [hL]; exact hi
  have w6' : w2 S 6 = 0 := by unfold w2; rw [hL]; rfl
  have q4 : 4 * ((20 + opts.size) / 4) = 20 + opts.size := by omega
  have q15 : (20 + opts.size) / 4 ≤ 15 := by omega
  have q5 : 5 ≤ (20 + opts.size) / 4 := by omega
  have dr : S.data.toList.drop (20 + opts.size) = data.data.toList ++ t := by rw [hS, List.append_assoc]; exact List.drop_left' lp
  have d12 : S.data.toList.drop 12 = src.data.toList ++ (dst.data.toList ++ (opts.data.toList ++ (data.data.toList ++ t))) := by rw [hL]; rfl
  have d16 : S.data.toList.drop 16 = dst.data.toList ++ (opts.data.toList ++ (data.data.toList ++ t)) := by
    rw [show 16 = 12 + 4 from rfl, ← List.drop_drop, d12, List.drop_left' (by omega)]
  have d20 : S.data.toList.drop 20 = opts.data.toList ++ (data.data.toList ++ t) := by
    rw [show 20 = 16 + 4 from rfl, ← List.drop_drop, d16, List.drop_left' (by omega)]
  intro w
  refine v4dec_in S ((20 + opts.size) / 4) _ 0 (by omega) hl (by rw [k0]; omega) ?_ w
  refine .inr (.inr ⟨by rw [k0]; omega, by omega, by omega, _, rfl, .inr ⟨?_, .inr (.inr (.inr ⟨?_, ?_, .inl w6', src, dst, opts, data, ?_, ?_, ?_, ?_, ?_, rfl⟩))⟩⟩)
  · rw [data_extract, List.drop_zero, Nat.sub_zero, q4, hS, List.append_assoc, List.take_left' lp]; exact hsum
  · rw [w2', q4]; exact Nat.le_add_right _ _
  · rw [w2', hz]; exact Nat.le_add_right _ _
  · apply ba_eq; rw [data_extract, d12, List.take_left' (by omega)]
  · apply ba_eq; rw [data_extract, d16, List.take_left' (by omega)]
  · apply ba_eq; rw [data_extract, d20, q4, List.take_left' (by omega)]
  · apply ba_eq; rw [data_extract, q4, dr, w2', List.take_left' (by rw [e4]; exact (Nat.add_sub_cancel_left _ _).symm)]
  · rw [w4', k8, k9]

/-- a head whose sum is not right -/
theorem dec4_sum (S : ByteArray) (q : Nat) (h : b1 S 0 = 64 + q) (h5 : 5 ≤ q) (h15 : q ≤ 15) (hz : 4 * q ≤ S.size) (hl : S.size ≤ 281474976710656) (hs : Cs.sum (S.data.toList.take (4 * q)) ≠ 0) : Dec4 S zeroV4 4 := by
  intro w
  refine v4dec_in S q _ 4 (by omega) hl (by rw [h]; omega) ?_ w
  refine .inr (.inr ⟨by rw [h]; omega, by omega, hz, _, rfl, .inl ⟨?_, rfl, rfl⟩⟩)
  rw [data_extract, List.drop_zero, Nat.sub_zero]; exact hs

/-- a packet that is cut off is none -/
theorem dec4_short (S src dst opts data : ByteArray) (d0 d1 : UInt8) (id ttl pr k : Nat) (z1 : src.size = 4) (z2 : dst.size = 4) (z3 : opts.size ≤ 40) (z4 : opts.size % 4 = 0) (i : id ≤ 65535) (tl : ttl ≤ 255) (p : pr ≤ 255) (m : 20 + opts.size + data.size ≤ 65535)
    (hS : S.data.toList = (V4.pre 0 id ttl pr d0 d1 src.data.toList dst.data.toList opts.data.toList data.size ++ data.data.toList).take k) (hk : k < 20 + opts.size + data.size) (hsum : Cs.sum (V4.pre 0 id ttl pr d0 d1 src.data.toList dst.data.toList opts.data.toList data.size) = 0) : Dec4 S zeroV4 2 := by
  have e1 := size_toList src
  have e2 := size_toList dst
  have e3 := size_toList opts
  have e4 := size_toList data
  obtain ⟨h, l0, l1, i0, i1, tt, pp, hh, hll, hi, ht, hp, hpre⟩ := V4.pre_bytes id ttl pr src.data.toList dst.data.toList opts.data.toList data.size (by omega) i tl p (by rw [e3]; exact m)
  have lp := V4.pre_length 0 id ttl pr d0 d1 src.data.toList dst.data.toList opts.data.toList data.size (by omega) (by omega)
  rw [e3] at hh hll lp
  have hz : S.size = k := by
    rw [← size_toList, hS, List.length_take, List.length_append, lp, e4]; exact Nat.min_eq_left (Nat.le_of_lt hk)
  by_cases h20 : k < 20
  · exact dec4_cut S (by omega)
  · obtain ⟨j, hj⟩ : ∃ j, k = j + 12 := ⟨k - 12, by omega⟩
    have hL : S.data.toList = h :: 0 :: l0 :: l1 :: i0 :: i1 :: 0 :: 0 :: tt :: pp :: d0 :: d1 :: ((src.data.toList ++ (dst.data.toList ++ opts.data.toList) ++ data.data.toList).take j) := by
      rw [hS, hpre, hj]; rfl
    have k0 : b1 S 0 = 64 + (20 + opts.size) / 4 := by unfold b1; rw [hL]; exact hh
    have w2' : w2 S 2 = 20 + opts.size + data.size := by unfold w2; rw [hL]; exact hll
    have q4 : 4 * ((20 + opts.size) / 4) = 20 + opts.size := by omega
    have q15 : (20 + opts.size) / 4 ≤ 15 := by omega
    have q5 : 5 ≤ (20 + opts.size) / 4 := by omega
    have hkm : k ≤ 65535 := Nat.le_trans (Nat.le_of_lt hk) m
    intro w
    refine v4dec_in S ((20 + opts.size) / 4) _ 2 (by omega) (by rw [hz]; exact Nat.le_trans hkm (by decide)) (by rw [k0]; omega) ?_ w
    by_cases hh2 : k < 20 + opts.size
    · exact .inr (.inl ⟨by rw [k0]; omega, by omega, by omega, rfl, rfl⟩)
    · refine .inr (.inr ⟨by rw [k0]; omega, by omega, by omega, _, rfl, .inr ⟨?_, .inr (.inl ⟨?_, ?_, rfl, rfl⟩)⟩⟩)
      · rw [data_extract, List.drop_zero, Nat.sub_zero, q4, hS, List.take_take, Nat.min_eq_left (by omega), List.take_left' lp]; exact hsum
      · rw [w2', q4]; exact Nat.le_add_right _ _
      · rw [w2', hz]; exact hk

theorem puts_case (n : Int) (m : Nat) (hn : n ≤ 9223372036854775807) (h1 : 1 ≤ m) (h4 : m ≤ 4) : (∃ v, Puts n m v 1 ∧ v.size ≤ 4 ∧ (n < 0 ∨ (256 : Int) ^ m ≤ n)) ∨ (∃ v, Puts n m v 0 ∧ v.size ≤ 4 ∧ 0 ≤ n ∧ n < (256 : Int) ^ m) := by
  by_cases h : n < 0 ∨ (256 : Int) ^ m ≤ n
  · exact .inl ⟨_, puts_bad n m hn h1 h4 h, by decide, h⟩
  · obtain ⟨x, rfl⟩ := Int.eq_ofNat_of_zero_le (show 0 ≤ n by omega)
    refine .inr ⟨_, puts_good x m (by omega) h1 h4 ?_, by rw [size_mk, Pl.be_length]; exact h4, by omega, by omega⟩
    have h2 : (x : Int) < (256 : Int) ^ m := by omega
    have h3 : ((256 ^ m : Nat) : Int) = (256 : Int) ^ m := by simp
    rw [← h3] at h2
    exact Int.ofNat_lt.1 h2

theorem be_zero1 : Pl.be 1 0 = [0] := by decide
theorem be_zero2 : Pl.be 2 0 = [0, 0] := by decide

/-- the bytes of a packet that may be -/
theorem enc4_ok (id ttl pr : Nat) (src dst opts data : ByteArray) (z1 : src.size = 4) (z2 : dst.size = 4) (z3 : opts.size ≤ 40) (z4 : opts.size % 4 = 0) (i : id ≤ 65535) (tl : ttl ≤ 255) (p : pr ≤ 255) (m : 20 + opts.size + data.size ≤ 65535) :
    Enc4 id ttl pr src dst opts data (Cs.filled ⟨#[]⟩ ⟨(V4.pre 0 id ttl pr 0 0 src.data.toList dst.data.toList opts.data.toList data.size).toArray⟩ 10 ++ data) 0 := by
  have e1 := size_toList src
  have e2 := size_toList dst
  have e3 := size_toList opts
  have e4 := size_toList data
  have lp := V4.pre_length 0 id ttl pr 0 0 src.data.toList dst.data.toList opts.data.toList data.size (by omega) (by omega)
  have hdm : data.size ≤ 65535 := Nat.le_trans (Nat.le_add_left _ _) m
  have p1 : Puts (64 + (((20 + opts.size) / 4 : Nat) : Int)) 1 ⟨(Pl.be 1 (64 + (20 + opts.size) / 4)).toArray⟩ 0 := by
    have h := puts_good (64 + (20 + opts.size) / 4) 1 (by omega) (by decide) (by decide) (by omega)
    rw [Int.natCast_add] at h
    exact h
  have p3 : Puts (20 + (opts.size : Int) + (data.size : Int)) 2 ⟨(Pl.be 2 (20 + opts.size + data.size)).toArray⟩ 0 := by
    have h := puts_good (20 + opts.size + data.size) 2 (Nat.le_trans m (by decide)) (by decide) (by decide) (Nat.lt_of_le_of_lt m (by decide))
    rw [Int.natCast_add, Int.natCast_add] at h
    exact h
  have p2 : Puts ((0 : Nat) : Int) 1 ⟨(Pl.be 1 0).toArray⟩ 0 := puts_good 0 1 (by decide) (by decide) (by decide) (by decide)
  have p5 : Puts ((0 : Nat) : Int) 2 ⟨(Pl.be 2 0).toArray⟩ 0 := puts_good 0 2 (by decide) (by decide) (by decide) (by decide)
  have p4 : Puts id 2 ⟨(Pl.be 2 id).toArray⟩ 0 := puts_good id 2 (Nat.le_trans i (by decide)) (by decide) (by decide) (Nat.lt_of_le_of_lt i (by decide))
  have p6 : Puts ttl 1 ⟨(Pl.be 1 ttl).toArray⟩ 0 := puts_good ttl 1 (Nat.le_trans tl (by decide)) (by decide) (by decide) (Nat.lt_of_le_of_lt tl (by decide))
  have p7 : Puts pr 1 ⟨(Pl.be 1 pr).toArray⟩ 0 := puts_good pr 1 (Nat.le_trans p (by decide)) (by decide) (by decide) (Nat.lt_of_le_of_lt p (by decide))
  intro w
  refine v4enc_in id ttl pr 0 0 0 0 src dst opts data _ _ _ _ _ _ _ ⟨(V4.pre 0 id ttl pr 0 0 src.data.toList dst.data.toList opts.data.toList data.size).toArray⟩ _ ((20 + opts.size) / 4) false false false z1 z2 z3 z4 hdm rfl p1 p2 p3 p4 p5 p6 p7 rfl rfl rfl rfl ?_ ?_ ?_ ?_ ?_ ?_ ?_ ?_ (by rw [size_mk, lp]; omega) rfl w
  all_goals first | (rw [size_mk, Pl.be_length]; decide) | skip
  apply ba_eq
  rw [be_zero1, be_zero2]
  simp [V4.pre, e3]

theorem enc4_arg (id ttl pr : Int) (src dst opts data : ByteArray) (hi : id ≤ 9223372036854775807) (ht : ttl ≤ 9223372036854775807) (hp : pr ≤ 9223372036854775807) (ho : opts.size ≤ 140737488351232) (hnot : BadS src dst opts data ∨ 65535 < 20 + (opts.size : Int) + (data.size : Int) ∨ id < 0 ∨ 65535 < id ∨ ttl < 0 ∨ 255 < ttl ∨ pr < 0 ∨ 255 < pr) :
    Enc4 id ttl pr src dst opts data ⟨#[]⟩ 1 := by
  intro w
  by_cases hb : BadS src dst opts data
  · exact v4enc_form id ttl pr src dst opts data ho hb w
  · unfold BadS at hb
    have g1 : src.size = 4 := by omega
    have g2 : dst.size = 4 := by omega
    have g3 : opts.size ≤ 40 := by omega
    have g4 : opts.size % 4 = 0 := by omega
    have g5 : (data.size : Int) ≤ 65535 := by omega
    have hn : 65535 < 20 + (opts.size : Int) + (data.size : Int) ∨ id < 0 ∨ 65535 < id ∨ ttl < 0 ∨ 255 < ttl ∨ pr < 0 ∨ 255 < pr := hnot.resolve_left hb
    clear hb hnot
    have p1 : Puts (64 + (((20 + opts.size) / 4 : Nat) : Int)) 1 ⟨(Pl.be 1 (64 + (20 + opts.size) / 4)).toArray⟩ 0 := by
      have h := puts_good (64 + (20 + opts.size) / 4) 1 (by omega) (by decide) (by decide) (by omega)
      rw [Int.natCast_add] at h
      exact h
    have p2 : Puts ((0 : Nat) : Int) 1 ⟨(Pl.be 1 0).toArray⟩ 0 := puts_good 0 1 (by decide) (by decide) (by decide) (by decide)
    have p5 : Puts ((0 : Nat) : Int) 2 ⟨(Pl.be 2 0).toArray⟩ 0 := puts_good 0 2 (by decide) (by decide) (by decide) (by decide)
    have go : ∀ (c3 c4 c6 c7 : Int) (x3 x4 x6 x7 : ByteArray), Puts (20 + (opts.size : Int) + (data.size : Int)) 2 x3 c3 → Puts id 2 x4 c4 → Puts ttl 1 x6 c6 → Puts pr 1 x7 c7 → x3.size ≤ 4 → x4.size ≤ 4 → x6.size ≤ 4 → x7.size ≤ 4 →
        ((((false || (c3 != 0)) || (c4 != 0)) || (c6 != 0)) || (c7 != 0)) = true → Calls Try.prog 13 #[.agg #[.int .i64 id, .int .i64 ttl, .int .i64 pr, .string src, .string dst, .string opts, .string data]] w fun e w' => e = .returned (.tuple #[.string ⟨#[]⟩, .int .i64 1]) ∧ Below w.heap.size w w' := by
      intro c3 c4 c6 c7 x3 x4 x6 x7 q3 q4 q6 q7 s3 s4 s6 s7 hbad
      exact v4enc_bad id ttl pr c3 c4 c6 c7 src dst opts data _ _ x3 x4 _ x6 x7 ((20 + opts.size) / 4) _ _ _ g1 g2 g3 g4 (Int.ofNat_le.1 g5) rfl p1 p2 q3 q4 p5 q6 q7 rfl rfl rfl hbad (by rw [size_mk, Pl.be_length]; decide) (by rw [size_mk, Pl.be_length]; decide) s3 s4 (by rw [size_mk, Pl.be_length]; decide) s6 s7 w
    rcases puts_case (20 + (opts.size : Int) + (data.size : Int)) 2 (by omega) (by decide) (by decide) with ⟨x3, q3, s3, r3⟩ | ⟨x3, q3, s3, r3⟩ <;>
    rcases puts_case id 2 hi (by decide) (by decide) with ⟨x4, q4, s4, r4⟩ | ⟨x4, q4, s4, r4⟩ <;>
    rcases puts_case ttl 1 ht (by decide) (by decide) with ⟨x6, q6, s6, r6⟩ | ⟨x6, q6, s6, r6⟩ <;>
    rcases puts_case pr 1 hp (by decide) (by decide) with ⟨x7, q7, s7, r7⟩ | ⟨x7, q7, s7, r7⟩
    all_goals first | exact go _ _ _ _ _ _ _ _ q3 q4 q6 q7 s3 s4 s6 s7 rfl | skip
    exfalso
    omega
end Go.Proofs.Ytoljmeemejmjfaa
