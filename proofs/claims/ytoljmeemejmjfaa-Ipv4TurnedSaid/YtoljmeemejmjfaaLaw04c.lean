/-
  The walk of 'Ipv4Turned': it returns true and leaves what was there alone. Conditions: a text's length lies within the form's own reach, the numbers are of their kind.
-/
import Derived.Test.YtoljmeemejmjfaaLaw04b
namespace Go.Proofs.Ytoljmeemejmjfaa
open Go.RowKit

theorem xor_val (x : UInt8) (j : Nat) (hj : j < 8) : bits BinOp.xor IntKind.u8 (x.toNat : Int) ((2 : Int) ^ j % 256) = ((UInt8.ofNat (x.toNat ^^^ 2 ^ j)).toNat : Int) := by
  have h1 : (2 : Nat) ^ j ≤ 2 ^ 7 := Nat.pow_le_pow_right (by decide) (by omega)
  have h2 : (2 : Int) ^ j % 256 = ((2 ^ j : Nat) : Int) := by
    rw [Int.natCast_pow]
    have : ((2 ^ j : Nat) : Int) < 256 := by omega
    rw [Int.natCast_pow] at this
    have h0 : (0 : Int) ≤ 2 ^ j := Int.le_of_lt (Int.pow_pos (by decide))
    exact Int.emod_eq_of_lt h0 this
  have h3 := (Cs.xor_bit x.toNat j hj x.toNat_lt).2
  rw [h2, u8_xor_nat _ _ x.toNat_lt (by omega), UInt8.toNat_ofNat']
  omega

/-- a text's bytes laid into memory, one of them written -/
theorem bytes_turn (w3 : World) (s : ByteArray) (j : Nat) (x v : UInt8) (hj : j < s.size) (hx : x = s.data.toList.getD j 0) :
    ∃ wb, (convert 9 36 (.string s)).run Try.prog w3 = .ok (.slice (some ⟨w3.heap.size, 0, none⟩) s.size (grownCap w3 s.size 0 5)) wb ∧ Below w3.heap.size w3 wb ∧
      wb.cell? ⟨w3.heap.size, j, none⟩ = some (.int .u8 (x.toNat : Int)) ∧ wb.frozen? ⟨w3.heap.size, j, none⟩ = false ∧
      (∀ cap, (convert 36 9 (.slice (some ⟨w3.heap.size, 0, none⟩) s.size cap)).run Try.prog (wb.setCell ⟨w3.heap.size, j, none⟩ (.int .u8 v.toNat)) = .ok (.string ⟨(s.data.toList.set j v).toArray⟩) (wb.setCell ⟨w3.heap.size, j, none⟩ (.int .u8 v.toNat))) := by
  have el := size_toList s
  have h1 := conv_bytes w3 s
  have h4 := BytesAt.of_string w3 s
  obtain ⟨h5, h6⟩ := h4 j (by omega)
  rw [← hx] at h5
  exact ⟨_, h1, below_bytes w3 s, h5, h6, fun cap => (h4.store j v).string s.size cap (by rw [List.length_set, el])⟩

set_option maxRecDepth 100000 in
set_option maxHeartbeats 1000000 in
theorem v4turned_not (id ttl pr : Int) (src dst opts data : ByteArray) (q : Int) (hE : Enc4 id ttl pr src dst opts data ⟨#[]⟩ 1) (w : World) :
    Calls Try.prog 7 #[.agg #[.int .i64 id, .int .i64 ttl, .int .i64 pr, .string src, .string dst, .string opts, .string data], .int .i64 q] w fun e w' => e = .returned (.bool true) ∧ Below w.heap.size w w' := by
  have HL := Lib.hid live04
  go_enter Try.func7, Try.ntmps7
  go_wp2_with (first | ((with_reducible refine (hE.to _).mono ?_); rintro e w3 ⟨rfl, g3⟩) | ((with_reducible refine (HL.out _).mono ?_); rintro e w4 ⟨rfl, g4⟩))
  go_ret
  exact ⟨rfl, bstep (bstep (bbox1 _ _) g3) g4⟩

set_option maxRecDepth 100000 in
set_option maxHeartbeats 1000000 in
theorem v4turned_in (id ttl pr : Int) (src dst opts data s t : ByteArray) (q : Int) (qn r m : Nat) (x v : UInt8) (hE : Enc4 id ttl pr src dst opts data s 0) (z3 : opts.size ≤ 40) (hs : 20 + opts.size ≤ s.size) (hs2 : (s.size : Int) ≤ 65535)
    (er : r = qn % (8 * (20 + opts.size) - 8)) (em : m = 8 + r) (hx : x = s.data.toList.getD (m / 8) 0) (hv : v = UInt8.ofNat (x.toNat ^^^ 2 ^ (m % 8))) (ht : t = ⟨(s.data.toList.set (m / 8) v).toArray⟩) (hX : Dec4 t zeroV4 4)
    (hsel : (0 ≤ q ∧ q = qn) ∨ (q < 0 ∧ -(q + 1) = qn)) (hlo : -9223372036854775808 ≤ q) (hhi : q ≤ 9223372036854775807) (w : World) :
    Calls Try.prog 7 #[.agg #[.int .i64 id, .int .i64 ttl, .int .i64 pr, .string src, .string dst, .string opts, .string data], .int .i64 q] w fun e w' => e = .returned (.bool true) ∧ Below w.heap.size w w' := by
  have HL := Lib.hid live04
  have hrl : r < 8 * (20 + opts.size) - 8 := by rw [er]; exact Nat.mod_lt _ (by omega)
  have hm480 : m < 480 := by omega
  have hms : m / 8 < s.size := by omega
  have hxor := xor_val x (m % 8) (by omega)
  rw [← hv] at hxor
  have ec : ((8 * (20 + opts.size) - 8 : Nat) : Int) = 8 * (20 + (opts.size : Int)) - 8 := by omega
  have em1 : (qn : Int) % (8 * (20 + (opts.size : Int)) - 8) = (r : Int) := by rw [er, ← ec]; exact (Int.natCast_emod qn _).symm
  have em2 : 8 + (r : Int) = (m : Int) := by omega
  have hd : decide ((s.size : Int) < 20 + (opts.size : Int)) = false := decide_eq_false (by omega)
  have z3i : (opts.size : Int) ≤ 40 := by omega
  have zn : 0 < 8 * (20 + (opts.size : Int)) - 8 := by omega
  have hrl2 : (r : Int) < 480 := by omega
  have hmi : (m : Int) < 480 := by omega
  have hms2 : (m : Int) / 8 < (s.size : Int) := by omega
  have HX := Lib.hid hx
  have HT := Lib.hid ht
  have HM := Lib.hid hms
  unfold zeroV4 at hX
  clear er em ec hx hv ht hms hrl hm480 z3 hs
  rcases hsel with ⟨hA, rfl⟩ | ⟨hA, hB⟩
  all_goals
    go_enter Try.func7, Try.ntmps7
    go_wp2_with (first | ((with_reducible refine (hE.to _).mono ?_); rintro e w3 ⟨rfl, g3⟩; obtain ⟨y1, c0, c1, c2, c3, c4, c5, c6, cf⟩ := (Box7.new _ _ _ _ _ _ _ _ _).below g3; obtain ⟨wb, k1, k2, k3, k4, k5⟩ := bytes_turn w3 s (m / 8) x v HM.out HX.out; rw [← HT.out] at k5; have k6 := k2.size) | ((with_reducible refine (hX.to _).mono ?_); rintro e w5 ⟨rfl, g5⟩) | ((with_reducible refine (HL.out _).mono ?_); rintro e w4 ⟨rfl, g4⟩))
    go_ret
    exact ⟨rfl, bstep (ball (bstep ((bstep (bstep (bbox1 _ _) g3) k2).setCell (by have := g3.size; simp at this ⊢; omega) _) g5) _) g4⟩

theorem v4turned_walk (id ttl pr : Int) (src dst opts data : ByteArray) (q : Int) (hi : id ≤ 9223372036854775807) (ht : ttl ≤ 9223372036854775807) (hp : pr ≤ 9223372036854775807) (ho : opts.size ≤ 140737488351232) (hlo : -9223372036854775808 ≤ q) (hhi : q ≤ 9223372036854775807) (w : World) :
    Calls Try.prog 7 #[.agg #[.int .i64 id, .int .i64 ttl, .int .i64 pr, .string src, .string dst, .string opts, .string data], .int .i64 q] w fun e w' => e = .returned (.bool true) ∧ Below w.heap.size w w' := by
  rcases enc4_case id ttl pr src dst opts data hi ht hp ho with hE | ⟨i, t, p, d0, d1, s, rfl, rfl, rfl, z1, z2, z3, z4, i1, t1, p1, m, hE, dS, zS, hsum⟩
  · exact v4turned_not id ttl pr src dst opts data q hE w
  · obtain ⟨qn, hsel⟩ : ∃ qn : Nat, (0 ≤ q ∧ q = qn) ∨ (q < 0 ∧ -(q + 1) = qn) := by
      by_cases h1 : 0 ≤ q
      · obtain ⟨m, hm⟩ := Int.eq_ofNat_of_zero_le h1
        exact ⟨m, .inl ⟨h1, hm⟩⟩
      · obtain ⟨m, hm⟩ := Int.eq_ofNat_of_zero_le (show 0 ≤ -(q + 1) by omega)
        exact ⟨m, .inr ⟨by omega, hm⟩⟩
    have hs20 : 20 + opts.size ≤ s.size := by rw [zS]; exact Nat.le_add_right _ _
    have hsi : (s.size : Int) ≤ 65535 := Int.ofNat_le.2 (by rw [zS]; exact m)
    obtain ⟨r, er⟩ : ∃ r, r = qn % (8 * (20 + opts.size) - 8) := ⟨_, rfl⟩
    obtain ⟨k, ek⟩ : ∃ k, k = 8 + r := ⟨_, rfl⟩
    obtain ⟨x, ex⟩ : ∃ x, x = s.data.toList.getD (k / 8) 0 := ⟨_, rfl⟩
    have hrl : r < 8 * (20 + opts.size) - 8 := by rw [er]; exact Nat.mod_lt _ (by omega)
    have hj1 : 1 ≤ k / 8 := by omega
    have hj2 : k / 8 < 20 + opts.size := by omega
    have e1 := size_toList src
    have e2 := size_toList dst
    have e3 := size_toList opts
    obtain ⟨H, eH⟩ : ∃ H, H = V4.pre 0 i t p d0 d1 src.data.toList dst.data.toList opts.data.toList data.size := ⟨_, rfl⟩
    have lp : H.length = 20 + opts.size := by rw [eH, V4.pre_length _ _ _ _ _ _ _ _ _ _ (by omega) (by omega), e3]
    obtain ⟨hb, l0, l1, i0, i1', tt, pp, hh, hll, hi', ht', hp', hpre⟩ := V4.pre_bytes i t p src.data.toList dst.data.toList opts.data.toList data.size (by omega) i1 t1 p1 (by rw [e3]; exact m)
    have hH : H = hb :: 0 :: l0 :: l1 :: i0 :: i1' :: 0 :: 0 :: tt :: pp :: d0 :: d1 :: (src.data.toList ++ (dst.data.toList ++ opts.data.toList)) := by rw [eH, hpre]
    rw [← eH] at dS hsum
    refine v4turned_in i t p src dst opts data s _ q qn r k x _ hE z3 hs20 hsi er ek ex rfl rfl ?_ hsel hlo hhi w
    have hset : s.data.toList.set (k / 8) (UInt8.ofNat (x.toNat ^^^ 2 ^ (k % 8))) = H.set (k / 8) (UInt8.ofNat (x.toNat ^^^ 2 ^ (k % 8))) ++ data.data.toList := by
      rw [dS, List.set_append_left _ _ (by omega)]
    rw [hset]
    have hxH : x = H.getD (k / 8) 0 := by
      rw [ex, dS, List.getD_eq_getElem?_getD, List.getD_eq_getElem?_getD, List.getElem?_append_left (by omega)]
    have hvn : (UInt8.ofNat (x.toNat ^^^ 2 ^ (k % 8))).toNat = (H.getD (k / 8) 0).toNat ^^^ 2 ^ (k % 8) := by
      rw [UInt8.toNat_ofNat', ← hxH]
      exact Nat.mod_eq_of_lt (Cs.xor_bit x.toNat (k % 8) (by omega) x.toNat_lt).2
    have hturn := Cs.sum_turned H (k / 8) (k % 8) (UInt8.ofNat (x.toNat ^^^ 2 ^ (k % 8))) (by omega) (by omega) hvn
    rw [hsum] at hturn
    have lz : (⟨(H.set (k / 8) (UInt8.ofNat (x.toNat ^^^ 2 ^ (k % 8))) ++ data.data.toList).toArray⟩ : ByteArray).size = s.size := by
      rw [size_mk, List.length_append, List.length_set, lp, size_toList, zS]
    rw [e3] at hh
    refine dec4_sum _ ((20 + opts.size) / 4) ?_ (by omega) (by omega) (by rw [lz]; omega) (by rw [lz]; omega) ?_
    · unfold b1
      have h0 : (H.set (k / 8) (UInt8.ofNat (x.toNat ^^^ 2 ^ (k % 8))) ++ data.data.toList).getD 0 0 = hb := by
        obtain ⟨j, ej⟩ : ∃ j, k / 8 = j + 1 := ⟨k / 8 - 1, by omega⟩
        rw [hH, ej]; rfl
      show ((H.set (k / 8) (UInt8.ofNat (x.toNat ^^^ 2 ^ (k % 8))) ++ data.data.toList).getD 0 0).toNat = _
      rw [h0, hh]
    · show Cs.sum ((H.set (k / 8) (UInt8.ofNat (x.toNat ^^^ 2 ^ (k % 8))) ++ data.data.toList).take _) ≠ 0
      rw [List.take_left' (by rw [List.length_set, lp]; omega)]
      intro h
      rw [h] at hturn
      exact hturn rfl
end Go.Proofs.Ytoljmeemejmjfaa
