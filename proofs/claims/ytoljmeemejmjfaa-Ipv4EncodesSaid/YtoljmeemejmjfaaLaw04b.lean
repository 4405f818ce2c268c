/-
  The walks of 'Ipv4Back' and 'Ipv4Short': each returns true and leaves what was there alone. Conditions: a text's length lies within the form's own reach, the numbers are of their kind.
-/
import Derived.Test.YtoljmeemejmjfaaLaw04
import Derived.Test.YtoljmeemejmjfaaOpV4
namespace Go.Proofs.Ytoljmeemejmjfaa
open Go.RowKit

/-- no packet may be so -/
def Bad4 (id ttl pr : Int) (src dst opts data : ByteArray) : Prop := BadS src dst opts data ∨ 65535 < 20 + (opts.size : Int) + (data.size : Int) ∨ id < 0 ∨ 65535 < id ∨ ttl < 0 ∨ 255 < ttl ∨ pr < 0 ∨ 255 < pr

/-- a packet is none, or its bytes are these -/
theorem enc4_case (id ttl pr : Int) (src dst opts data : ByteArray) (hi : id ≤ 9223372036854775807) (ht : ttl ≤ 9223372036854775807) (hp : pr ≤ 9223372036854775807) (ho : opts.size ≤ 140737488351232) :
    Enc4 id ttl pr src dst opts data ⟨#[]⟩ 1 ∨
    ∃ (i t p : Nat) (d0 d1 : UInt8) (s : ByteArray), id = i ∧ ttl = t ∧ pr = p ∧ src.size = 4 ∧ dst.size = 4 ∧ opts.size ≤ 40 ∧ opts.size % 4 = 0 ∧ i ≤ 65535 ∧ t ≤ 255 ∧ p ≤ 255 ∧ 20 + opts.size + data.size ≤ 65535 ∧ Enc4 i t p src dst opts data s 0 ∧
      s.data.toList = V4.pre 0 i t p d0 d1 src.data.toList dst.data.toList opts.data.toList data.size ++ data.data.toList ∧ s.size = 20 + opts.size + data.size ∧ Cs.sum (V4.pre 0 i t p d0 d1 src.data.toList dst.data.toList opts.data.toList data.size) = 0 := by
  by_cases hb : Bad4 id ttl pr src dst opts data
  · exact .inl (enc4_arg id ttl pr src dst opts data hi ht hp ho hb)
  · unfold Bad4 BadS at hb
    obtain ⟨i, rfl⟩ := Int.eq_ofNat_of_zero_le (show 0 ≤ id by omega)
    obtain ⟨t, rfl⟩ := Int.eq_ofNat_of_zero_le (show 0 ≤ ttl by omega)
    obtain ⟨p, rfl⟩ := Int.eq_ofNat_of_zero_le (show 0 ≤ pr by omega)
    have z1 : src.size = 4 := by omega
    have z2 : dst.size = 4 := by omega
    have z3 : opts.size ≤ 40 := by omega
    have z4 : opts.size % 4 = 0 := by omega
    have mi : (20 + (opts.size : Int) + (data.size : Int)) ≤ 65535 := by omega
    have ii : (i : Int) ≤ 65535 := by omega
    have t1 : t ≤ 255 := by omega
    have p1 : p ≤ 255 := by omega
    clear hb hi ht hp
    have i1 : i ≤ 65535 := Int.ofNat_le.1 ii
    have m : 20 + opts.size + data.size ≤ 65535 := Int.ofNat_le.1 mi
    clear mi ii
    have e1 := size_toList src
    have e2 := size_toList dst
    obtain ⟨d0, d1, hf, hsum⟩ := V4.filled_pre 0 i t p 0 0 src.data.toList dst.data.toList opts.data.toList data.size (by omega) (by omega)
    have hE := enc4_ok i t p src dst opts data z1 z2 z3 z4 i1 t1 p1 m
    rw [hf] at hE
    refine .inr ⟨i, t, p, d0, d1, _, rfl, rfl, rfl, z1, z2, z3, z4, i1, t1, p1, m, hE, ?_, ?_, hsum⟩
    · rw [data_add]
    · rw [size_add, size_mk, V4.pre_length _ _ _ _ _ _ _ _ _ _ (by omega) (by omega), size_toList]

set_option maxRecDepth 100000 in
set_option maxHeartbeats 1000000 in
theorem v4back_not (id ttl pr : Int) (src dst opts data v : ByteArray) (hE : Enc4 id ttl pr src dst opts data ⟨#[]⟩ 1) (w : World) :
    Calls Try.prog 6 #[.agg #[.int .i64 id, .int .i64 ttl, .int .i64 pr, .string src, .string dst, .string opts, .string data], .string v] w fun e w' => e = .returned (.bool true) ∧ Below w.heap.size w w' := by
  have HL := Lib.hid live04
  go_enter Try.func6, Try.ntmps6
  go_wp2_with (first | ((with_reducible refine (hE.to _).mono ?_); rintro e w3 ⟨rfl, g3⟩) | ((with_reducible refine (HL.out _).mono ?_); rintro e w4 ⟨rfl, g4⟩))
  go_ret
  exact ⟨rfl, bstep (bstep (bbox1 _ _) g3) g4⟩

set_option maxRecDepth 100000 in
set_option maxHeartbeats 1000000 in
theorem v4back_in (id ttl pr : Int) (src dst opts data v t u : ByteArray) (hE : Enc4 id ttl pr src dst opts data t 0) (hu : t ++ v = u) (ht : t.size + v.size ≤ 9223372036854775807) (hF : Dec4 u (v4 id ttl pr src dst opts data) 0) (w : World) :
    Calls Try.prog 6 #[.agg #[.int .i64 id, .int .i64 ttl, .int .i64 pr, .string src, .string dst, .string opts, .string data], .string v] w fun e w' => e = .returned (.bool true) ∧ Below w.heap.size w w' := by
  have HL := Lib.hid live04
  have j1 := join2 t v ht
  rw [hu] at j1
  unfold v4 at hF
  clear hu ht
  go_enter Try.func6, Try.ntmps6
  go_wp2_with (first | ((with_reducible refine (hE.to _).mono ?_); rintro e w3 ⟨rfl, g3⟩; have B1 := (Box7.new _ _ _ _ _ _ _ _ _).below g3) | ((with_reducible refine (hF.to _).mono ?_); rintro e w5 ⟨rfl, g5⟩; obtain ⟨y1, c0, c1, c2, c3, c4, c5, c6, cf⟩ := B1.below g5) | ((with_reducible refine (HL.out _).mono ?_); rintro e w4 ⟨rfl, g4⟩))
  go_ret
  exact ⟨rfl, bstep (ball (bstep (bstep (bbox1 _ _) g3) g5) _) g4⟩

theorem v4back_walk (id ttl pr : Int) (src dst opts data v : ByteArray) (hi : id ≤ 9223372036854775807) (ht : ttl ≤ 9223372036854775807) (hp : pr ≤ 9223372036854775807) (ho : opts.size ≤ 140737488351232) (hv : v.size ≤ 140737488351232) (w : World) :
    Calls Try.prog 6 #[.agg #[.int .i64 id, .int .i64 ttl, .int .i64 pr, .string src, .string dst, .string opts, .string data], .string v] w fun e w' => e = .returned (.bool true) ∧ Below w.heap.size w w' := by
  rcases enc4_case id ttl pr src dst opts data hi ht hp ho with hE | ⟨i, t, p, d0, d1, s, rfl, rfl, rfl, z1, z2, z3, z4, i1, t1, p1, m, hE, dS, zS, hsum⟩
  · exact v4back_not id ttl pr src dst opts data v hE w
  · have zb : s.size ≤ 65535 := by rw [zS]; exact m
    have zc : s.size + v.size ≤ 65535 + 140737488351232 := Nat.add_le_add zb hv
    refine v4back_in i t p src dst opts data v s _ hE rfl (Nat.le_trans zc (by decide)) ?_ w
    exact dec4_enc _ src dst opts data 0 d0 d1 i t p v.data.toList z1 z2 z3 z4 i1 t1 p1 m (by rw [data_add, dS]) hsum (by rw [size_add]; exact Nat.le_trans zc (by decide))

set_option maxRecDepth 100000 in
set_option maxHeartbeats 1000000 in
theorem v4short_not (id ttl pr : Int) (src dst opts data : ByteArray) (q : Int) (hE : Enc4 id ttl pr src dst opts data ⟨#[]⟩ 1) (w : World) :
    Calls Try.prog 8 #[.agg #[.int .i64 id, .int .i64 ttl, .int .i64 pr, .string src, .string dst, .string opts, .string data], .int .i64 q] w fun e w' => e = .returned (.bool true) ∧ Below w.heap.size w w' := by
  have HL := Lib.hid live04
  go_enter Try.func8, Try.ntmps8
  go_wp2_with (first | ((with_reducible refine (hE.to _).mono ?_); rintro e w3 ⟨rfl, g3⟩) | ((with_reducible refine (HL.out _).mono ?_); rintro e w4 ⟨rfl, g4⟩))
  go_ret
  exact ⟨rfl, bstep (bstep (bbox1 _ _) g3) g4⟩

set_option maxRecDepth 100000 in
set_option maxHeartbeats 1000000 in
theorem v4short_in (id ttl pr : Int) (src dst opts data s x : ByteArray) (q : Int) (qn k : Nat) (hE : Enc4 id ttl pr src dst opts data s 0) (hs : 20 ≤ s.size) (hs2 : (s.size : Int) ≤ 65535) (hk : k = qn % s.size) (hx : s.extract 0 k = x) (hX : Dec4 x zeroV4 2)
    (hsel : (0 ≤ q ∧ q = qn) ∨ (q < 0 ∧ -(q + 1) = qn)) (hlo : -9223372036854775808 ≤ q) (hhi : q ≤ 9223372036854775807) (w : World) :
    Calls Try.prog 8 #[.agg #[.int .i64 id, .int .i64 ttl, .int .i64 pr, .string src, .string dst, .string opts, .string data], .int .i64 q] w fun e w' => e = .returned (.bool true) ∧ Below w.heap.size w w' := by
  have HL := Lib.hid live04
  have hkl : k < s.size := by rw [hk]; exact Nat.mod_lt _ (by omega)
  have c1 := slice_to s k (by omega) k rfl
  rw [hx] at c1
  have em : (qn : Int) % (s.size : Int) = (k : Int) := by rw [hk]; omega
  have hkl2 : (k : Int) ≤ (s.size : Int) := by omega
  unfold zeroV4 at hX
  clear hk hkl
  rcases hsel with ⟨hA, rfl⟩ | ⟨hA, hB⟩
  all_goals
    go_enter Try.func8, Try.ntmps8
    go_wp2_with (first | ((with_reducible refine (hE.to _).mono ?_); rintro e w3 ⟨rfl, g3⟩) | ((with_reducible refine (hX.to _).mono ?_); rintro e w5 ⟨rfl, g5⟩) | ((with_reducible refine (HL.out _).mono ?_); rintro e w4 ⟨rfl, g4⟩))
    go_ret
    exact ⟨rfl, bstep (ball (bstep (bstep (bbox1 _ _) g3) g5) _) g4⟩

theorem v4short_walk (id ttl pr : Int) (src dst opts data : ByteArray) (q : Int) (hi : id ≤ 9223372036854775807) (ht : ttl ≤ 9223372036854775807) (hp : pr ≤ 9223372036854775807) (ho : opts.size ≤ 140737488351232) (hlo : -9223372036854775808 ≤ q) (hhi : q ≤ 9223372036854775807) (w : World) :
    Calls Try.prog 8 #[.agg #[.int .i64 id, .int .i64 ttl, .int .i64 pr, .string src, .string dst, .string opts, .string data], .int .i64 q] w fun e w' => e = .returned (.bool true) ∧ Below w.heap.size w w' := by
  rcases enc4_case id ttl pr src dst opts data hi ht hp ho with hE | ⟨i, t, p, d0, d1, s, rfl, rfl, rfl, z1, z2, z3, z4, i1, t1, p1, m, hE, dS, zS, hsum⟩
  · exact v4short_not id ttl pr src dst opts data q hE w
  · obtain ⟨qn, hsel⟩ : ∃ qn : Nat, (0 ≤ q ∧ q = qn) ∨ (q < 0 ∧ -(q + 1) = qn) := by
      by_cases h1 : 0 ≤ q
      · obtain ⟨m, hm⟩ := Int.eq_ofNat_of_zero_le h1
        exact ⟨m, .inl ⟨h1, hm⟩⟩
      · obtain ⟨m, hm⟩ := Int.eq_ofNat_of_zero_le (show 0 ≤ -(q + 1) by omega)
        exact ⟨m, .inr ⟨by omega, hm⟩⟩
    have hs20 : 20 ≤ s.size := by rw [zS, Nat.add_assoc]; exact Nat.le_add_right _ _
    have hlt : qn % s.size < s.size := Nat.mod_lt _ (by omega)
    refine v4short_in i t p src dst opts data s _ q qn _ hE hs20 (Int.ofNat_le.2 (by rw [zS]; exact m)) rfl rfl ?_ hsel hlo hhi w
    refine dec4_short _ src dst opts data d0 d1 i t p (qn % s.size) z1 z2 z3 z4 i1 t1 p1 m ?_ (by rw [← zS]; exact hlt) hsum
    rw [data_extract, List.drop_zero, Nat.sub_zero, dS]
end Go.Proofs.Ytoljmeemejmjfaa
