/-
  IPv6 packets in bytes, and what Decode, Encode and Options answer on them, as facts for the laws' walks. Conditions: those of each.
-/
import Derived.Test.YtjhppbooakekcaaV6Ok
import Derived.Test.YtjhppbooakekcaaV6Enc
namespace Go.Proofs.Ytjhppbooakekcaa
open Go.RowKit

namespace V6
def body (n : Nat) (f : Bool) (data : List UInt8) : List UInt8 := if f then Pl.be 1 n ++ [0, 5, 2, 0, 0, 1, 0] ++ data else data
/-- all but the first four bytes -/
def tail (h n : Nat) (src dst : List UInt8) (f : Bool) (data : List UInt8) : List UInt8 :=
  Pl.be 2 (body n f data).length ++ Pl.be 1 (if f then 0 else n) ++ Pl.be 1 h ++ src ++ dst ++ body n f data
def enc (h n : Nat) (src dst : List UInt8) (f : Bool) (data : List UInt8) : List UInt8 := [96, 0, 0, 0] ++ tail h n src dst f data
theorem len1 : ∀ l : List UInt8, l.length = 1 → ∃ x0, l = [x0]
  | [x0], _ => ⟨x0, rfl⟩
theorem len2 : ∀ l : List UInt8, l.length = 2 → ∃ x0 x1, l = [x0, x1]
  | [x0, x1], _ => ⟨x0, x1, rfl⟩
theorem body_length (n : Nat) (f : Bool) (data : List UInt8) : (body n f data).length = (if f then 8 else 0) + data.length := by
  cases f <;> simp [body, Pl.be_length]; omega
theorem tail_length (h n : Nat) (src dst : List UInt8) (f : Bool) (data : List UInt8) (z1 : src.length = 16) (z2 : dst.length = 16) : (tail h n src dst f data).length = 36 + (body n f data).length := by
  simp [tail, Pl.be_length, z1, z2]; omega
theorem enc_length (h n : Nat) (src dst : List UInt8) (f : Bool) (data : List UInt8) (z1 : src.length = 16) (z2 : dst.length = 16) : (enc h n src dst f data).length = 40 + (body n f data).length := by
  rw [enc, List.length_append, tail_length _ _ _ _ _ _ z1 z2]; simp; omega

theorem items_look : Op6.items [5, 2, 0, 0, 1, 0] = [[5, 2, 0, 0], [1, 0]] := by
  rw [Op6.items_next (by decide) (by decide)]
  show _ :: Op6.items [1, 0] = _
  rw [Op6.items_next (by decide) (by decide)]
  show _ :: _ :: Op6.items [] = _
  rw [Op6.items_nil]
  rfl
theorem good_look : Op6.good [5, 2, 0, 0, 1, 0] = true := by unfold Op6.good; rw [items_look]; rfl
theorem found_look : Op6.found [5, 2, 0, 0, 1, 0] = true := by unfold Op6.found; rw [items_look]; rfl
end V6

theorem bt_at (s : ByteArray) (k : Nat) : PlainAid.bt s k = ((s.data.toList.getD k 0).toNat : Int) := by
  have e := size_toList s
  unfold PlainAid.bt
  by_cases h : k < s.size
  · rw [dif_pos h, List.getD_eq_getElem?_getD, List.getElem?_eq_getElem (by omega)]
    rfl
  · rw [dif_neg h, List.getD_eq_getElem?_getD, List.getElem?_eq_none (by omega)]
    rfl

def Dec6 (s : ByteArray) (v : Value) (x : Int) : Prop :=
  ∀ w : World, Calls Try.prog 10 #[.string s] w fun e w' => e = .returned (.tuple #[v, .int .i64 x]) ∧ Below w.heap.size w w'
theorem Dec6.to {s : ByteArray} {v : Value} {x : Int} (h : Dec6 s v x) (w : World) : Calls Try.prog 10 #[.string s] w fun e w' => e = .returned (.tuple #[v, .int .i64 x]) ∧ Below w.heap.size w w' := h w
def Enc6 (h n : Int) (src dst : ByteArray) (f : Bool) (data s : ByteArray) (x : Int) : Prop :=
  ∀ w : World, Calls Try.prog 13 #[.agg #[.int .i64 h, .int .i64 n, .string src, .string dst, .bool f, .string data]] w fun e w' => e = .returned (.tuple #[.string s, .int .i64 x]) ∧ Below w.heap.size w w'
theorem Enc6.to {h n : Int} {src dst : ByteArray} {f : Bool} {data s : ByteArray} {x : Int} (k : Enc6 h n src dst f data s x) (w : World) :
  Calls Try.prog 13 #[.agg #[.int .i64 h, .int .i64 n, .string src, .string dst, .bool f, .string data]] w fun e w' => e = .returned (.tuple #[.string s, .int .i64 x]) ∧ Below w.heap.size w w' := k w

theorem dec6_cut (s : ByteArray) (h : s.size < 40) : Dec6 s zeroV6 2 := fun w => v6dec_cut s h w

/-- WHAT WAS ENCODED IS DECODED, whatever the first four bytes' free bits are, and whatever stands behind -/
theorem dec6_enc (S src dst data : ByteArray) (h n : Nat) (f : Bool) (g0 g1 g2 g3 : UInt8) (t : List UInt8) (hg : g0.toNat / 16 = 6) (z1 : src.size = 16) (z2 : dst.size = 16) (z3 : data.size ≤ 65527) (h1 : h ≤ 255) (n0 : 1 ≤ n) (n1 : n ≤ 255)
    (hS : S.data.toList = [g0, g1, g2, g3] ++ V6.tail h n src.data.toList dst.data.toList f data.data.toList ++ t) (hl : S.size ≤ 281474976710656) : Dec6 S (v6 h n src dst f data) 0 := by
  obtain ⟨B, hB⟩ : ∃ B, B = V6.body n f data.data.toList := ⟨_, rfl⟩
  have lB : B.length = (if f then 8 else 0) + data.size := by rw [hB, V6.body_length, size_toList]
  have lB2 : B.length ≤ 65535 := by rw [lB]; cases f <;> simp <;> omega
  obtain ⟨a0, a1, ha⟩ := V6.len2 (Pl.be 2 B.length) (Pl.be_length _ _)
  obtain ⟨x0, hx⟩ := V6.len1 (Pl.be 1 (if f then 0 else n)) (Pl.be_length _ _)
  obtain ⟨q0, hq⟩ := V6.len1 (Pl.be 1 h) (Pl.be_length _ _)
  have ea : Pl.num [a0, a1] = B.length := by rw [← ha]; exact Pl.num_be_of_lt (by omega)
  have ex : x0.toNat = if f then 0 else n := by
    have k := congrArg Pl.num hx
    rw [Pl.num_one, Pl.num_be_of_lt (by cases f <;> simp <;> omega)] at k
    exact k.symm
  have eq : q0.toNat = h := by
    have k := congrArg Pl.num hq
    rw [Pl.num_one, Pl.num_be_of_lt (by omega)] at k
    exact k.symm
  have e1 := size_toList src
  have e2 := size_toList dst
  have hL : S.data.toList = g0 :: g1 :: g2 :: g3 :: a0 :: a1 :: x0 :: q0 :: (src.data.toList ++ (dst.data.toList ++ (B ++ t))) := by
    rw [hS, V6.tail, ← hB, ha, hx, hq]
    simp
  have hz : S.size = 40 + B.length + t.length := by
    rw [← size_toList, hL]
    simp
    omega
  have d8 : S.data.toList.drop 8 = src.data.toList ++ (dst.data.toList ++ (B ++ t)) := by rw [hL]; rfl
  have d24 : S.data.toList.drop 24 = dst.data.toList ++ (B ++ t) := by
    rw [show 24 = 8 + 16 from rfl, ← List.drop_drop, d8, List.drop_left' (by omega)]
  have d40 : S.data.toList.drop 40 = B ++ t := by
    rw [show 40 = 24 + 16 from rfl, ← List.drop_drop, d24, List.drop_left' (by omega)]
  have x1 : S.extract 8 24 = src := by apply ba_eq; rw [data_extract, d8, List.take_left' (by omega)]
  have x2 : S.extract 24 40 = dst := by apply ba_eq; rw [data_extract, d24, List.take_left' (by omega)]
  have x3 : S.extract 40 (40 + B.length) = ⟨B.toArray⟩ := by apply ba_eq; rw [data_extract, d40, List.take_left' (by omega)]
  have b0 : PlainAid.bt S 0 = (g0.toNat : Int) := by rw [bt_at, hL]; rfl
  have b6 : PlainAid.bt S 6 = (x0.toNat : Int) := by rw [bt_at, hL]; rfl
  have b7 : PlainAid.bt S 7 = (h : Int) := by rw [bt_at, hL, ← eq]; rfl
  have hG : Gets S 4 2 (B.length : Nat) 0 := by
    have k := gets_ok S 4 2 (by omega) (by decide) (by decide) (by omega)
    have kd : (S.data.toList.drop 4).take 2 = [a0, a1] := by rw [hL]; rfl
    rw [kd, ea] at k
    exact k
  intro w
  refine v6dec_in S src dst ⟨B.toArray⟩ B.length h (x0.toNat : Nat) _ 0 (by omega) hl hG ?_ (by omega) x1 x2 x3 b7 b6 ?_ w
  · rw [b0]
    have : (g0.toNat : Int) / 16 = 6 := by omega
    rw [this]; rfl
  · cases f with
    | false =>
      refine .inl ⟨?_, ?_, rfl⟩
      · rw [ex]; rw [bne_iff_ne]; simp; omega
      · have e : (⟨B.toArray⟩ : ByteArray) = data := by apply ba_eq; rw [hB]; rfl
        rw [e, ex]; rfl
    | true =>
      have x00 : x0.toNat = 0 := by rw [ex]; rfl
      obtain ⟨c0, hc⟩ := V6.len1 (Pl.be 1 n) (Pl.be_length _ _)
      have ec : c0.toNat = n := by
        have k := congrArg Pl.num hc
        rw [Pl.num_one, Pl.num_be_of_lt (by omega)] at k
        exact k.symm
      have hB2 : B = c0 :: 0 :: 5 :: 2 :: 0 :: 0 :: 1 :: 0 :: data.data.toList := by rw [hB, V6.body, if_pos rfl, hc]; rfl
      have zB : (⟨B.toArray⟩ : ByteArray).size = 8 + data.size := by rw [size_mk, lB]; rfl
      refine .inr (.inr (.inr ⟨0, ?_, by omega, by decide, ?_, by omega, .inr (.inr ⟨?_, ?_, true, data, ?_, ?_, ?_, rfl⟩)⟩))
      · rw [x00]; rfl
      · rw [bt_at, hB2]; rfl
      · have e : ((⟨B.toArray⟩ : ByteArray).extract 2 8).data.toList = [5, 2, 0, 0, 1, 0] := by rw [data_extract, hB2]; rfl
        show Op6.good ((⟨B.toArray⟩ : ByteArray).extract 2 8).data.toList = true
        rw [e]; exact V6.good_look
      · rw [bt_at, hB2]
        show (1 : Int) ≤ (c0.toNat : Int)
        omega
      · have e : ((⟨B.toArray⟩ : ByteArray).extract 2 8).data.toList = [5, 2, 0, 0, 1, 0] := by rw [data_extract, hB2]; rfl
        show true = Op6.found ((⟨B.toArray⟩ : ByteArray).extract 2 8).data.toList
        rw [e]; exact V6.found_look.symm
      · apply ba_eq
        show _ = ((⟨B.toArray⟩ : ByteArray).extract 8 _).data.toList
        rw [data_extract, zB, hB2]
        show _ = data.data.toList.take _
        rw [List.take_of_length_le (by rw [size_toList]; omega)]
      · rw [bt_at, hB2, ← ec]; rfl

theorem enc6_arg (h n : Int) (src dst data : ByteArray) (f : Bool) (hh : h ≤ 9223372036854775807) (hn : n ≤ 9223372036854775807) (z3 : data.size ≤ 140737488351232)
    (hnot : h < 0 ∨ 255 < h ∨ n < 1 ∨ 255 < n ∨ src.size ≠ 16 ∨ dst.size ≠ 16 ∨ 65527 < data.size) : Enc6 h n src dst f data ⟨#[]⟩ 1 := fun w => v6enc_arg h n src dst data f hh hn z3 hnot w
theorem enc6_ok (h n : Nat) (src dst data : ByteArray) (f : Bool) (z1 : src.size = 16) (z2 : dst.size = 16) (z3 : data.size ≤ 65527) (h1 : h ≤ 255) (n0 : 1 ≤ n) (n1 : n ≤ 255) :
    Enc6 h n src dst f data ⟨(V6.enc h n src.data.toList dst.data.toList f data.data.toList).toArray⟩ 0 := by
  intro w
  have lB := V6.body_length n f data.data.toList
  rw [size_toList] at lB
  have lB2 : (V6.body n f data.data.toList).length ≤ 65535 := by rw [lB]; cases f <;> simp <;> omega
  have kN : Puts n 1 ⟨(Pl.be 1 n).toArray⟩ 0 := puts_good n 1 (by omega) (by decide) (by decide) (by omega)
  have kH : Puts h 1 ⟨(Pl.be 1 h).toArray⟩ 0 := puts_good h 1 (by omega) (by decide) (by decide) (by omega)
  have kZ : Puts ((⟨(V6.body n f data.data.toList).toArray⟩ : ByteArray).size : Nat) 2 ⟨(Pl.be 2 (V6.body n f data.data.toList).length).toArray⟩ 0 := by
    rw [size_mk]; exact puts_good _ 2 (by omega) (by decide) (by decide) (by omega)
  refine v6enc_in h n src dst data _ _ ⟨(V6.body n f data.data.toList).toArray⟩ ⟨(Pl.be 1 (if f then 0 else n)).toArray⟩ _ _ f z1 z2 z3 (by omega) (by rw [size_mk, Pl.be_length]) (by rw [size_mk, Pl.be_length]) (by rw [size_mk, Pl.be_length]) kN kH kZ ?_ ?_ w
  · cases f with
    | false => exact .inl ⟨rfl, ba_eq rfl, rfl⟩
    | true =>
      refine .inr ⟨rfl, ?_, rfl⟩
      apply ba_eq
      simp [V6.body]
  · apply ba_eq
    simp [V6.enc, V6.tail]
end Go.Proofs.Ytjhppbooakekcaa
