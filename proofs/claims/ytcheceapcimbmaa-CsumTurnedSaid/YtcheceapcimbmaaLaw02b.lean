/-
  The walk of 'CsumTurned': it returns true and leaves what was there alone. Conditions: the text's length lies within the form's own reach, the number is of its kind.
-/
import Derived.Test.YtcheceapcimbmaaLaw02
import Derived.Test.YtcheceapcimbmaaBa
import Derived.Deep.RegionWith
namespace Go.Proofs.Ytcheceapcimbmaa
open Go.RowKit

theorem xor_val (x : UInt8) (j : Nat) (hj : j < 8) : bits BinOp.xor IntKind.u8 (x.toNat : Int) ((2 : Int) ^ j % 256) = ((UInt8.ofNat (x.toNat ^^^ 2 ^ j)).toNat : Int) := by
  have h1 : (2 : Nat) ^ j ≤ 2 ^ 7 := Nat.pow_le_pow_right (by decide) (by omega)
  have h2 : (2 : Int) ^ j % 256 = ((2 ^ j : Nat) : Int) := by
    rw [Int.natCast_pow]
    have : ((2 ^ j : Nat) : Int) < 256 := by omega
    rw [Int.natCast_pow] at this
    have h0 : (0 : Int) ≤ 2 ^ j := Int.le_of_lt (Int.pow_pos (by decide))
    exact Int.emod_eq_of_lt h0 this
  have h3 := (Cs.xor_bit x.toNat j hj x.toNat_lt).2
  rw [h2, u8_xor_nat _ _ x.toNat_lt (by omega), UInt8.toNat_ofNat']
  omega

set_option maxRecDepth 100000 in
set_option maxHeartbeats 1000000 in
theorem turned_in (s : ByteArray) (a0 : Int) (a : Nat) (hs : s.size ≤ 140737488351232) (h0 : 0 < s.size) (hsel : (0 ≤ a0 ∧ a0 = a) ∨ (a0 < 0 ∧ -(a0 + 1) = a)) (hlo : -9223372036854775808 ≤ a0) (hhi : a0 ≤ 9223372036854775807) (w : World) :
    Calls Try.prog 7 #[.string s, .int .i64 a0] w fun e w' => e = .returned (.bool true) ∧ Below w.heap.size w w' := by
  have hconv := conv_bytes w s
  have hba := BytesAt.of_string w s
  have hbel := below_bytes w s
  have el := size_toList s
  obtain ⟨wb, ewb⟩ : ∃ wb, wb = Lib.bytesWorld w 5 s := ⟨_, rfl⟩
  have hbs : wb.heap.size = w.heap.size + 1 := by rw [ewb]; exact Lib.bytesWorld_size w 5 s
  rw [← ewb] at hconv hba hbel
  obtain ⟨m, em⟩ : ∃ m, m = a % (8 * s.size) := ⟨_, rfl⟩
  have hm2 : m < 8 * s.size := by rw [em]; exact Nat.mod_lt _ (by omega)
  have hm : m / 8 < s.size := by omega
  obtain ⟨x, hx⟩ : ∃ x, x = s.data.toList.getD (m / 8) 0 := ⟨_, rfl⟩
  obtain ⟨v, hv⟩ : ∃ v, v = UInt8.ofNat (x.toNat ^^^ 2 ^ (m % 8)) := ⟨_, rfl⟩
  have hxor := xor_val x (m % 8) (by omega)
  rw [← hv] at hxor
  have hvn : v.toNat = (s.data.toList.getD (m / 8) 0).toNat ^^^ 2 ^ (m % 8) := by
    rw [hv, UInt8.toNat_ofNat', ← hx]
    exact Nat.mod_eq_of_lt (Cs.xor_bit x.toNat (m % 8) (by omega) x.toNat_lt).2
  have hturn := Cs.sum_turned s.data.toList (m / 8) (m % 8) v (by omega) (by omega) hvn
  obtain ⟨hcell, hfz⟩ := hba (m / 8) (by omega)
  rw [← hx] at hcell
  obtain ⟨t, ht⟩ : ∃ t : ByteArray, t = ⟨(s.data.toList.set (m / 8) v).toArray⟩ := ⟨_, rfl⟩
  have st : t.size = s.size := by rw [ht, size_mk, List.length_set, el]
  obtain ⟨n1, hn1⟩ : ∃ n, n = Cs.sum s.data.toList := ⟨_, rfl⟩
  obtain ⟨n2, hn2⟩ : ∃ n, n = Cs.sum t.data.toList := ⟨_, rfl⟩
  have hS1 : Sums s n1 := fun w => hn1 ▸ sum_any s (by omega) w
  have hS2 : Sums t n2 := fun w => hn2 ▸ sum_any t (by omega) w
  have hne : n1 % 65535 ≠ n2 % 65535 := by rw [hn1, hn2, ht]; exact fun h => hturn h.symm
  obtain ⟨m1, hm1⟩ : ∃ m, m = n1 % 65535 := ⟨_, rfl⟩
  obtain ⟨m2', hm2'⟩ : ∃ m, m = n2 % 65535 := ⟨_, rfl⟩
  rw [← hm1, ← hm2'] at hne
  have q1 : (n1 : Int).tmod 65535 = (m1 : Int) := by rw [Int.tmod_eq_emod_of_nonneg (by omega), hm1]; rfl
  have q2 : (n2 : Int).tmod 65535 = (m2' : Int) := by rw [Int.tmod_eq_emod_of_nonneg (by omega), hm2']; rfl
  have hne2 : ((m1 : Int) != (m2' : Int)) = true := bne_iff_ne.2 (by omega)
  have hcvt : ∀ W : World, BytesAt W w.heap.size (s.data.toList.set (m / 8) v) → (convert 34 9 (.slice (some ⟨w.heap.size, 0, none⟩) s.size (grownCap w s.size 0 5))).run Try.prog W = .ok (.string t) W := by
    intro W hW
    rw [ht]
    exact hW.string s.size _ (by rw [List.length_set, el])
  have HC := Lib.hid hcvt
  have hst := hba.store (m / 8) v
  have HB := Lib.hid hst
  have em2 : (a : Int) % (8 * (s.size : Int)) = (m : Int) := by rw [em]; norm_cast
  clear hba hst ewb em hx hv hvn hturn ht hn1 hn2 hm1 hm2' hne hcvt
  have hz : ((s.size : Int) == 0) = false := beq_eq_false_iff_ne.2 (by omega)
  rcases hsel with ⟨hA, rfl⟩ | ⟨hA, hB⟩
  all_goals
    go_enter Try.func7, Try.ntmps7
    go_wp2_with fail
    obtain ⟨W0, hW0⟩ : ∃ W0, wb.setCell ⟨w.heap.size, m / 8, none⟩ (.int .u8 v.toNat) = W0 := ⟨_, rfl⟩
    have HB0 : Hid (BytesAt W0 w.heap.size (s.data.toList.set (m / 8) v)) := hW0 ▸ HB.out
    have hb0 : Below w.heap.size w W0 := hW0 ▸ hbel.setCell (Nat.le_refl _) _
    have hsz0 : W0.heap.size = w.heap.size + 1 := by rw [← hW0]; simpa [World.setCell] using hbs
    rw [hW0]
    have HB1 : Hid (BytesAt W0.drew w.heap.size (s.data.toList.set (m / 8) v)) := HB0
    have hlt : w.heap.size < W0.drew.heap.size := by show _ < W0.heap.size; omega
    have hcv0 := HC.out W0.drew HB1.out
    have HLT := Lib.hid hlt
    clear hW0 hconv hcell hfz hlt
    go_region_with (first | ((with_reducible refine (hS1.to _).mono ?_); rintro e w1 ⟨rfl, h1⟩; have hcv1 := HC.out w1 (BytesAt.below HB1.out h1 HLT.out)) | ((with_reducible refine (hS2.to _).mono ?_); rintro e w2 ⟨rfl, h2⟩) | ((with_reducible refine (live_any _).mono ?_); rintro e w3 ⟨rfl, h3⟩))
    all_goals
      go_wp2
      go_ret
      exact ⟨rfl, bstep (bstep (bstep (Below.drew hb0) h1) h2) h3⟩

set_option maxHeartbeats 1000000 in
theorem csumTurned_walk (s : ByteArray) (a : Int) (hs : s.size ≤ 140737488351232) (hlo : -9223372036854775808 ≤ a) (hhi : a ≤ 9223372036854775807) (w : World) :
    Calls Try.prog 7 #[.string s, .int .i64 a] w fun e w' => e = .returned (.bool true) ∧ Below w.heap.size w w' := by
  by_cases h0 : s.size = 0
  · go_enter Try.func7, Try.ntmps7
    go_wp2_with ((with_reducible refine (live_any _).mono ?_); rintro e w3 ⟨rfl, h3⟩)
    go_ret
    exact ⟨rfl, h3⟩
  · by_cases h1 : 0 ≤ a
    · obtain ⟨n, rfl⟩ := Int.eq_ofNat_of_zero_le h1
      exact turned_in s n n hs (by omega) (.inl ⟨h1, rfl⟩) hlo hhi w
    · obtain ⟨n, hn⟩ := Int.eq_ofNat_of_zero_le (show 0 ≤ -(a + 1) by omega)
      exact turned_in s a n hs (by omega) (.inr ⟨by omega, hn⟩) hlo hhi w
end Go.Proofs.Ytcheceapcimbmaa
