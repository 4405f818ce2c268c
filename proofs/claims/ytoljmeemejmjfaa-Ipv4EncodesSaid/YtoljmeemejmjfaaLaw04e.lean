/-
  The walk of 'Ipv4Encodes': it returns true and leaves what was there alone. Conditions: a text's length lies within the form's own reach, the numbers are of their kind.
-/
import Derived.Test.YtoljmeemejmjfaaLaw04b
import Derived.Test.YtoljmeemejmjfaaRV4Enc
namespace Go.Proofs.Ytoljmeemejmjfaa
open Go.RowKit

theorem renc4_ok (id ttl pr : Nat) (src dst opts data : ByteArray) (z1 : src.size = 4) (z2 : dst.size = 4) (z3 : opts.size ≤ 40) (z4 : opts.size % 4 = 0) (i : id ≤ 65535) (tl : ttl ≤ 255) (p : pr ≤ 255) (m : 20 + opts.size + data.size ≤ 65535) :
    REnc4 id ttl pr src dst opts data (Cs.filled ⟨#[]⟩ ⟨(V4.pre 0 id ttl pr 0 0 src.data.toList dst.data.toList opts.data.toList data.size).toArray⟩ 10 ++ data) 0 := by
  have e1 := size_toList src
  have e2 := size_toList dst
  have e3 := size_toList opts
  have lp := V4.pre_length 0 id ttl pr 0 0 src.data.toList dst.data.toList opts.data.toList data.size (by omega) (by omega)
  have q4 : 4 * (5 + opts.size / 4) = 20 + opts.size := by omega
  have q5 : 64 + (20 + opts.size) / 4 = 64 + (5 + opts.size / 4) := by omega
  have hg : Good4 id ttl pr src dst opts data := ⟨Int.natCast_nonneg _, Int.ofNat_le.2 i, Int.natCast_nonneg _, Int.ofNat_le.2 tl, Int.natCast_nonneg _, Int.ofNat_le.2 p, z1, z2, z3, z4, by
    have h : ((20 + opts.size + data.size : Nat) : Int) ≤ ((65535 : Nat) : Int) := Int.ofNat_le.2 m
    rw [Int.natCast_add, Int.natCast_add] at h
    have h2 : (20 : Int) + (opts.size : Int) + (data.size : Int) ≤ 65535 := h
    omega⟩
  have p1 : ROfs (64 + (5 + ((opts.size / 4 : Nat) : Int))) 1 ⟨(Pl.be 1 (64 + (20 + opts.size) / 4)).toArray⟩ := by
    have h := rofs1 (64 + (20 + opts.size) / 4) (by omega)
    rw [q5, Int.natCast_add, Int.natCast_add] at h
    rw [q5]
    exact h
  have p3 : ROfs (4 * (5 + ((opts.size / 4 : Nat) : Int)) + (data.size : Int)) 2 ⟨(Pl.be 2 (20 + opts.size + data.size)).toArray⟩ := by
    have h := rofs2 (20 + opts.size + data.size) (Nat.lt_of_le_of_lt m (by decide))
    rw [← q4, Int.natCast_add, Int.natCast_mul, Int.natCast_add] at h
    rw [← q4]
    exact h
  intro w
  refine rv4enc_in id ttl pr src dst opts data _ _ _ _ _ ⟨(V4.pre 0 id ttl pr 0 0 src.data.toList dst.data.toList opts.data.toList data.size).toArray⟩ _ (opts.size / 4) hg rfl p1 p3 (rofs2 id (Nat.lt_of_le_of_lt i (by decide))) (rofs1 ttl (Nat.lt_of_le_of_lt tl (by decide))) (rofs1 pr (Nat.lt_of_le_of_lt p (by decide))) ?_ ?_ ?_ ?_ ?_ ?_ (by rw [size_mk, lp]; omega) rfl w
  all_goals first | (rw [size_mk, Pl.be_length]; decide) | skip
  apply ba_eq
  simp [V4.pre, e3]

theorem good4_not {id ttl pr : Int} {src dst opts data : ByteArray} (h : Bad4 id ttl pr src dst opts data) : ¬ Good4 id ttl pr src dst opts data := by
  rintro ⟨k1, k2, k3, k4, k5, k6, k7, k8, k9, k10, k11⟩
  rcases h with (h | h | h | h | h) | h | h | h | h | h | h | h
  · exact h k7
  · exact h k8
  · exact absurd k9 (Nat.not_le.2 h)
  · exact h k10
  all_goals clear k10; omega

theorem enc4_both (id ttl pr : Int) (src dst opts data : ByteArray) (hi : id ≤ 9223372036854775807) (ht : ttl ≤ 9223372036854775807) (hp : pr ≤ 9223372036854775807) (ho : opts.size ≤ 140737488351232) (hz : data.size ≤ 140737488351232) :
    ∃ s x, Enc4 id ttl pr src dst opts data s x ∧ REnc4 id ttl pr src dst opts data s x := by
  by_cases hb : Bad4 id ttl pr src dst opts data
  · exact ⟨_, _, enc4_arg id ttl pr src dst opts data hi ht hp ho hb, fun w => rv4enc_arg id ttl pr src dst opts data hz ho (good4_not hb) w⟩
  · unfold Bad4 BadS at hb
    obtain ⟨i, rfl⟩ := Int.eq_ofNat_of_zero_le (show 0 ≤ id by omega)
    obtain ⟨t, rfl⟩ := Int.eq_ofNat_of_zero_le (show 0 ≤ ttl by omega)
    obtain ⟨p, rfl⟩ := Int.eq_ofNat_of_zero_le (show 0 ≤ pr by omega)
    have z1 : src.size = 4 := by omega
    have z2 : dst.size = 4 := by omega
    have z3 : opts.size ≤ 40 := by omega
    have z4 : opts.size % 4 = 0 := by omega
    have mi : (20 + (opts.size : Int) + (data.size : Int)) ≤ 65535 := by omega
    have ii : (i : Int) ≤ 65535 := by omega
    have t1 : t ≤ 255 := by omega
    have p1 : p ≤ 255 := by omega
    have i1 : i ≤ 65535 := Int.ofNat_le.1 ii
    have m : 20 + opts.size + data.size ≤ 65535 := Int.ofNat_le.1 mi
    exact ⟨_, _, enc4_ok i t p src dst opts data z1 z2 z3 z4 i1 t1 p1 m, renc4_ok i t p src dst opts data z1 z2 z3 z4 i1 t1 p1 m⟩

set_option maxRecDepth 100000 in
set_option maxHeartbeats 1000000 in
theorem v4encodes_walk (id ttl pr : Int) (src dst opts data : ByteArray) (hi : id ≤ 9223372036854775807) (ht : ttl ≤ 9223372036854775807) (hp : pr ≤ 9223372036854775807) (ho : opts.size ≤ 140737488351232) (hz : data.size ≤ 140737488351232) (w : World) :
    Calls Try.prog 4 #[.agg #[.int .i64 id, .int .i64 ttl, .int .i64 pr, .string src, .string dst, .string opts, .string data]] w fun e w' => e = .returned (.bool true) ∧ Below w.heap.size w w' := by
  obtain ⟨s, x, hE, hR⟩ := enc4_both id ttl pr src dst opts data hi ht hp ho hz
  have HL := Lib.hid live04
  clear hi ht hp ho hz
  go_enter Try.func4, Try.ntmps4
  go_wp2_with (first | ((with_reducible refine (hE.to _).mono ?_); rintro e w2 ⟨rfl, g2⟩; obtain ⟨y1, c0, c1, c2, c3, c4, c5, c6, cf⟩ := (Box7.new _ _ _ _ _ _ _ _ _).below g2) | ((with_reducible refine (hR.to _).mono ?_); rintro e w3 ⟨rfl, g3⟩) | ((with_reducible refine (HL.out _).mono ?_); rintro e w4 ⟨rfl, g4⟩))
  go_ret
  exact ⟨rfl, bstep (bstep (bstep (bbox1 _ _) g2) g3) g4⟩
end Go.Proofs.Ytoljmeemejmjfaa
