/-
  The walk of 'BpduShort': it returns true and leaves what was there alone. Conditions: the numbers are of their kind.
-/
import Derived.Test.YthleobklagjlbaaLaw06b
import Derived.Test.YthleobklagjlbaaBa
import Derived.Test.YthleobklagjlbaaOpBp
import Derived.Deep.RegionWith
namespace Go.Proofs.Ythleobklagjlbaa
open Go.RowKit

/-- ANOTHER BYTE in the first seven: no message -/
theorem bad_set (l : List UInt8) (hl : l.take 7 = Bp.front) (j : Nat) (hj : j < 7) (v : UInt8) (hv : v ≠ Bp.front.getD j 0) : Bp.good (l.set j v) = false := by
  have h : Bp.pre (l.set j v) = false := by
    unfold Bp.pre
    rw [List.take_set, hl, beq_eq_false_iff_ne]
    intro e
    apply hv
    have h2 := congrArg (fun x => x.getD j 0) e
    have h2 : ((Bp.front.set j v).getD j 0) = Bp.front.getD j 0 := h2
    rw [← h2, List.getD_eq_getElem?_getD, List.getElem?_set_self (by simpa [Bp.front] using hj)]
    rfl
  unfold Bp.good
  rw [h]
  rfl

theorem enc_front (r c b p a : Nat) (x y z : Bool) : (Bp.enc r c b p a x y z).take 7 = Bp.front := by
  unfold Bp.enc
  rfl
theorem xor_ne (x d : Nat) (hx : x < 256) (hd : d < 256) (h : d ≠ 0) : UInt8.ofNat (x ^^^ d) ≠ UInt8.ofNat x := by
  intro e
  have h2 : (UInt8.ofNat (x ^^^ d)).toNat = (UInt8.ofNat x).toNat := by rw [e]
  rw [UInt8.toNat_ofNat', UInt8.toNat_ofNat', Nat.mod_eq_of_lt (Nat.xor_lt_two_pow (n := 8) hx hd), Nat.mod_eq_of_lt hx] at h2
  have h3 : x ^^^ (x ^^^ d) = x ^^^ x := by rw [h2]
  rw [← Nat.xor_assoc, Nat.xor_self, Nat.zero_xor] at h3
  exact h h3

set_option maxRecDepth 100000 in
set_option maxHeartbeats 1000000 in
theorem short_not (r c b p a q d : Int) (x y z : Bool) (hE : Encs r c b p a x y z ⟨#[]⟩ 1) (w : World) :
    Calls Try.prog 7 #[.agg #[.int .u64 r, .int .i64 c, .int .u64 b, .int .i64 p, .int .i64 a, .bool x, .bool y, .bool z], .int .i64 q, .int .u8 d] w fun e w' => e = .returned (.bool true) ∧ Below w.heap.size w w' := by
  have hl := live06
  have HL := Lib.hid hl
  clear hl
  go_enter Try.func7, Try.ntmps7
  go_wp2_with (first | ((with_reducible refine (hE.to _).mono ?_); rintro e w3 ⟨rfl, g3⟩) | ((with_reducible refine (HL.out _).mono ?_); rintro e w4 ⟨rfl, g4⟩))
  go_ret
  exact ⟨rfl, bstep (bstep (bbox1 _ _) g3) g4⟩

/-- a text's bytes laid behind a box, one of them written, and read as a text again -/
theorem bytes_pack (w5 : World) (o : Obj) (s u : ByteArray) (n j xb : Nat) (v : UInt8) (hn : s.size = n) (hj : j < n) (hxb : (s.data.toList.getD j 0).toNat = xb) (hu : u = ⟨(s.data.toList.set j v).toArray⟩) :
    ∃ wb, (convert 9 36 (.string s)).run Try.prog (w5.alloc o) = .ok (.slice (some ⟨w5.heap.size + 1, 0, none⟩) n (grownCap (w5.alloc o) n 0 5)) wb ∧ Below (w5.alloc o).heap.size (w5.alloc o) wb ∧ wb.heap.size = w5.heap.size + 1 + 1 ∧
      wb.cell? ⟨w5.heap.size + 1, j, none⟩ = some (.int .u8 (xb : Int)) ∧ wb.frozen? ⟨w5.heap.size + 1, j, none⟩ = false ∧
      ∀ cap, (convert 36 9 (.slice (some ⟨w5.heap.size + 1, 0, none⟩) n cap)).run Try.prog (wb.setCell ⟨w5.heap.size + 1, j, none⟩ (.int .u8 v.toNat)) = .ok (.string u) (wb.setCell ⟨w5.heap.size + 1, j, none⟩ (.int .u8 v.toNat)) := by
  have el := size_toList s
  have hz : (w5.alloc o).heap.size = w5.heap.size + 1 := by simp
  have h1 := conv_bytes (w5.alloc o) s
  have h2 := below_bytes (w5.alloc o) s
  have h3 := Lib.bytesWorld_size (w5.alloc o) 5 s
  have h4 := BytesAt.of_string (w5.alloc o) s
  rw [hz, hn] at h1
  rw [hz] at h3 h4
  obtain ⟨h5, h6⟩ := h4 j (by omega)
  rw [hxb] at h5
  refine ⟨_, h1, h2, h3, h5, h6, fun cap => ?_⟩
  rw [hu]
  exact (h4.store j v).string n cap (by rw [List.length_set]; omega)

set_option maxRecDepth 100000 in
set_option maxHeartbeats 1000000 in
theorem short_in (s x : ByteArray) (r c b p a q : Int) (x1 y1 z1 : Bool) (qn k d : Nat) (hE : Encs r c b p a x1 y1 z1 s 0) (hs : s.size = 39) (hk : k = qn % 39) (hx : s.extract 0 k = x) (hX : Decs x 0 0 0 0 0 false false false 2)
    (hsel : (0 ≤ q ∧ q = qn) ∨ (q < 0 ∧ -(q + 1) = qn)) (hlo : -9223372036854775808 ≤ q) (hhi : q ≤ 9223372036854775807)
    (v : UInt8) (xb : Nat) (hxb : (s.data.toList.getD (qn % 7) 0).toNat = xb) (hv : bits BinOp.xor IntKind.u8 (xb : Int) (d : Int) = (v.toNat : Int)) (u : ByteArray) (hu : u = ⟨(s.data.toList.set (qn % 7) v).toArray⟩) (hU : d ≠ 0 → Decs u 0 0 0 0 0 false false false 3) (w : World) :
    Calls Try.prog 7 #[.agg #[.int .u64 r, .int .i64 c, .int .u64 b, .int .i64 p, .int .i64 a, .bool x1, .bool y1, .bool z1], .int .i64 q, .int .u8 d] w fun e w' => e = .returned (.bool true) ∧ Below w.heap.size w w' := by
  have hl := live06
  have HL := Lib.hid hl
  have c1 := cut_to s k (by omega)
  rw [hx] at c1
  have em : (qn : Int) % 39 = (k : Int) := by omega
  obtain ⟨j, hj⟩ : ∃ j, j = qn % 7 := ⟨_, rfl⟩
  have em7 : (qn : Int) % 7 = (j : Int) := by omega
  have hj7 : j < 7 := by omega
  rw [← hj] at hxb hu
  clear hl hk hj hx
  by_cases h0 : d = 0
  · have hz : ((d : Int) == 0) = true := by rw [h0]; rfl
    clear hU hv hu hxb
    rcases hsel with ⟨hA, rfl⟩ | ⟨hA, hB⟩
    all_goals
      go_enter Try.func7, Try.ntmps7
      go_wp2_with (first | ((with_reducible refine (hE.to _).mono ?_); rintro e w3 ⟨rfl, g3⟩) | ((with_reducible refine (hX.to _).mono ?_); rintro e w5 ⟨rfl, g5⟩) | ((with_reducible refine (HL.out _).mono ?_); rintro e w4 ⟨rfl, g4⟩))
      go_ret
      exact ⟨rfl, bstep (ball (bstep (bstep (bbox1 _ _) g3) g5) _) g4⟩
  · have hz : ((d : Int) == 0) = false := beq_eq_false_iff_ne.2 (by omega)
    have hD := hU h0
    have HU := Lib.hid hu
    have HX := Lib.hid hxb
    clear hu hxb hU
    rcases hsel with ⟨hA, rfl⟩ | ⟨hA, hB⟩
    all_goals
      go_enter Try.func7, Try.ntmps7
      go_wp2_with (first | ((with_reducible refine (hE.to _).mono ?_); rintro e w3 ⟨rfl, g3⟩) | ((with_reducible refine (hX.to _).mono ?_); rintro e w5 ⟨rfl, g5⟩; obtain ⟨wb, k1, k2, k3, k4, k5, k6⟩ := bytes_pack w5 (.cells #[.int .u64 0, .int .i64 0, .int .u64 0, .int .i64 0, .int .i64 0, .bool false, .bool false, .bool false] 26) s u 39 j xb v hs (by omega) HX.out HU.out) | ((with_reducible refine (hD.to _).mono ?_); rintro e w6 ⟨rfl, g6⟩) | ((with_reducible refine (HL.out _).mono ?_); rintro e w4 ⟨rfl, g4⟩))
      go_ret
      exact ⟨rfl, bstep (ball (bstep ((bstep (ball (bstep (bstep (bbox1 _ _) g3) g5) _) k2).setCell (by have := g3.size; have := g5.size; simp at *; omega) _) g6) _) g4⟩

theorem front_get (l : List UInt8) (hl : l.take 7 = Bp.front) (j : Nat) (hj : j < 7) : l.getD j 0 = Bp.front.getD j 0 := by
  rw [← hl, List.getD_eq_getElem?_getD, List.getD_eq_getElem?_getD, List.getElem?_take_of_lt hj]

theorem short_walk (r c b p a : Int) (x y z : Bool) (q d : Int) (hr0 : 0 ≤ r) (hr : r ≤ 18446744073709551615) (hc : c ≤ 9223372036854775807) (hb0 : 0 ≤ b) (hb : b ≤ 18446744073709551615) (hp : p ≤ 9223372036854775807) (ha : a ≤ 9223372036854775807)
    (hlo : -9223372036854775808 ≤ q) (hhi : q ≤ 9223372036854775807) (hd0 : 0 ≤ d) (hd : d ≤ 255) (w : World) :
    Calls Try.prog 7 #[.agg #[.int .u64 r, .int .i64 c, .int .u64 b, .int .i64 p, .int .i64 a, .bool x, .bool y, .bool z], .int .i64 q, .int .u8 d] w fun e w' => e = .returned (.bool true) ∧ Below w.heap.size w w' := by
  by_cases h : c < 0 ∨ 4294967296 ≤ c ∨ p < 0 ∨ 65536 ≤ p ∨ a < 0 ∨ 256 ≤ a
  · exact short_not r c b p a q d x y z (encs_arg x y z hc hp ha h) w
  · obtain ⟨r, rfl⟩ := Int.eq_ofNat_of_zero_le hr0
    obtain ⟨b, rfl⟩ := Int.eq_ofNat_of_zero_le hb0
    obtain ⟨c, rfl⟩ := Int.eq_ofNat_of_zero_le (show 0 ≤ c by omega)
    obtain ⟨p, rfl⟩ := Int.eq_ofNat_of_zero_le (show 0 ≤ p by omega)
    obtain ⟨a, rfl⟩ := Int.eq_ofNat_of_zero_le (show 0 ≤ a by omega)
    obtain ⟨d, rfl⟩ := Int.eq_ofNat_of_zero_le hd0
    obtain ⟨qn, hsel⟩ : ∃ qn : Nat, (0 ≤ q ∧ q = qn) ∨ (q < 0 ∧ -(q + 1) = qn) := by
      by_cases h1 : 0 ≤ q
      · obtain ⟨n, hn⟩ := Int.eq_ofNat_of_zero_le h1
        exact ⟨n, .inl ⟨h1, hn⟩⟩
      · obtain ⟨n, hn⟩ := Int.eq_ofNat_of_zero_le (show 0 ≤ -(q + 1) by omega)
        exact ⟨n, .inr ⟨by omega, hn⟩⟩
    have hs := enc_size r c b p a x y z
    have hj : qn % 7 < 7 := Nat.mod_lt _ (by decide)
    obtain ⟨L, hL⟩ : ∃ L, L = Bp.enc r c b p a x y z := ⟨_, rfl⟩
    have hf : L.take 7 = Bp.front := by rw [hL]; exact enc_front r c b p a x y z
    have hlen : L.length = 39 := by rw [hL]; exact Bp.enc_length r c b p a x y z
    have hE : Encs r c b p a x y z ⟨L.toArray⟩ 0 := by rw [hL]; exact encs_ok x y z (by omega) (by omega) (by omega)
    rw [← hL] at hs
    have hxor : bits BinOp.xor IntKind.u8 (((L.getD (qn % 7) 0).toNat : Nat) : Int) (d : Int) = ((UInt8.ofNat ((L.getD (qn % 7) 0).toNat ^^^ d)).toNat : Int) := by
      have hx := (L.getD (qn % 7) 0).toNat_lt
      rw [u8_xor_nat _ _ hx (by omega), UInt8.toNat_ofNat', Nat.mod_eq_of_lt (Nat.xor_lt_two_pow (n := 8) hx (by omega))]
    refine short_in ⟨L.toArray⟩ _ r c b p a q x y z qn (qn % 39) d hE hs rfl rfl (decs_cut _ ?_) hsel hlo hhi _ _ rfl hxor _ rfl (fun h0 => decs_form _ ?_ ?_ ?_) w
    · rw [ByteArray.size_extract, hs]; omega
    · rw [size_mk, List.length_set]; exact Nat.le_of_eq hlen.symm
    · rw [size_mk, List.length_set]; show L.length ≤ _; omega
    · refine bad_set L hf _ hj _ ?_
      rw [← front_get L hf _ hj]
      have hx := xor_ne (L.getD (qn % 7) 0).toNat d (L.getD (qn % 7) 0).toNat_lt (by omega) h0
      rw [UInt8.ofNat_toNat] at hx
      exact hx
end Go.Proofs.Ythleobklagjlbaa
