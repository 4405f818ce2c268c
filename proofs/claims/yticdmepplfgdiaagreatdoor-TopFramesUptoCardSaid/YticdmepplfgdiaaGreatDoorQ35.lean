/-
  A message between switches as bytes, and back. Condition: its numbers fit.
-/
import Derived.Test.YticdmepplfgdiaaGreatDoorQ25
import Derived.Test.YticdmepplfgdiaaGreatDoorQ14
import Derived.Test.YticdmepplfgdiaaGreatDoorQ00
import Derived.Test.YticdmepplfgdiaaGreatDoorQ13
import Derived.Test.YticdmepplfgdiaaGreatDoorQ12
set_option linter.unusedVariables false
set_option linter.unusedSimpArgs false
namespace Go.Proofs.YticdmepplfgdiaaGreatDoor
open Go.RowKit
def Msg.fits (m : Msg) : Bool := decide (0 ≤ m.v.root ∧ m.v.root < 18446744073709551616 ∧ 0 ≤ m.v.cost ∧ m.v.cost < 4294967296 ∧ 0 ≤ m.v.bridge ∧ m.v.bridge < 18446744073709551616 ∧ 0 ≤ m.v.port ∧ m.v.port < 65536 ∧ 0 ≤ m.age ∧ m.age < 20)
def Msg.bytes (m : Msg) : List UInt8 := Bp.enc m.v.root.toNat m.v.cost.toNat m.v.bridge.toNat m.v.port.toNat m.age.toNat m.chg m.lrn m.fwd
/-- a switch's own address -/
def macL (id : Nat) : List UInt8 := 2 :: (Pl.be 8 id).drop 3
def macB (id : Nat) : ByteArray := ⟨(macL id).toArray⟩
def toB : ByteArray := ⟨#[1, 128, 194, 0, 0, 0]⟩
def Msg.wire (id : Nat) (m : Msg) : ByteArray := ⟨(Et.enc [1, 128, 194, 0, 0, 0] (macL id) false 0 0 39 m.bytes).toArray⟩
theorem macL_length (id : Nat) : (macL id).length = 6 := by simp [macL, Pl.be_length]
theorem Msg.nats {m : Msg} (h : m.fits = true) : ∃ r c b p a : Nat, m = ⟨⟨r, c, b, p⟩, a, m.chg, m.lrn, m.fwd⟩ ∧ r < 18446744073709551616 ∧ c < 4294967296 ∧ b < 18446744073709551616 ∧ p < 65536 ∧ a < 20 := by
  obtain ⟨⟨r, c, b, p⟩, a, x, y, z⟩ := m
  have h := of_decide_eq_true h
  dsimp only at h
  refine ⟨r.toNat, c.toNat, b.toNat, p.toNat, a.toNat, ?_, by omega, by omega, by omega, by omega, by omega⟩
  rw [Int.toNat_of_nonneg h.1, Int.toNat_of_nonneg h.2.2.1, Int.toNat_of_nonneg h.2.2.2.2.1, Int.toNat_of_nonneg h.2.2.2.2.2.2.1, Int.toNat_of_nonneg h.2.2.2.2.2.2.2.2.1]
theorem bytes_length (m : Msg) : m.bytes.length = 39 := Bp.enc_length ..
theorem wire_good (id : Nat) (m : Msg) : Good3 toB (macB id) false (0 : Nat) (0 : Nat) (39 : Nat) ⟨m.bytes.toArray⟩ := by
  refine ⟨rfl, ?_, ?_, by decide, by decide, by decide, by decide, by decide, by decide, .inr ⟨rfl, rfl, by decide⟩⟩
  · rw [← size_toList]; exact macL_length id
  · rw [← size_toList]; show m.bytes.length ≤ 2000; rw [bytes_length]; decide
theorem bpenc_msg {m : Msg} (h : m.fits = true) (w : World) :
    Calls Tryz.prog 56 #[.agg #[.int .u64 m.v.root, .int .i64 m.v.cost, .int .u64 m.v.bridge, .int .i64 m.v.port, .int .i64 m.age, .bool m.chg, .bool m.lrn, .bool m.fwd]] w fun e w' => e = .returned (.tuple #[.string ⟨m.bytes.toArray⟩, .int .i64 0]) ∧ Below w.heap.size w w' := by
  obtain ⟨r, c, b, p, a, e, h1, h2, h3, h4, h5⟩ := m.nats h
  rw [e]
  exact bpenc_ok r b c p a m.chg m.lrn m.fwd h2 h4 (by omega) w
theorem ence_msg (id : Nat) (m : Msg) : EncE toB (macB id) false 0 0 39 ⟨m.bytes.toArray⟩ (m.wire id) 0 := ence_ok toB (macB id) ⟨m.bytes.toArray⟩ false 0 0 39 (wire_good id m)
theorem dece_msg (id : Nat) (m : Msg) : DecE (m.wire id) (fr toB (macB id) false 0 0 39 ⟨m.bytes.toArray⟩) 0 := dec_enc toB (macB id) ⟨m.bytes.toArray⟩ false 0 0 39 (wire_good id m)
theorem bpdec_msg {m : Msg} (h : m.fits = true) (w : World) :
    Calls Tryz.prog 42 #[.string ⟨m.bytes.toArray⟩] w fun e w' => e = .returned (.tuple #[.agg #[.int .u64 m.v.root, .int .i64 m.v.cost, .int .u64 m.v.bridge, .int .i64 m.v.port, .int .i64 m.age, .bool m.chg, .bool m.lrn, .bool m.fwd], .int .i64 0]) ∧ Below w.heap.size w w' := by
  obtain ⟨r, c, b, p, a, e, h1, h2, h3, h4, h5⟩ := m.nats h
  have hz : (⟨m.bytes.toArray⟩ : ByteArray).size = 39 := by rw [← size_toList]; exact bytes_length m
  obtain ⟨k1, k2, k3, k4, k5, k6, k7, k8, k9⟩ := Bp.reads_back r c b p a m.chg m.lrn m.fwd h1 h2 h3 h4 (by omega) []
  have hb : m.bytes = Bp.enc r c b p a m.chg m.lrn m.fwd ++ [] := by rw [List.append_nil, e]; rfl
  have h := bpdec_ok ⟨m.bytes.toArray⟩ (by omega) (by omega) (by show Bp.good m.bytes = true; rw [hb]; exact k1) w
  have hd : (⟨m.bytes.toArray⟩ : ByteArray).data.toList = Bp.enc r c b p a m.chg m.lrn m.fwd ++ [] := hb
  rw [hd, k2, k3, k4, k5, k6, k7, k8, k9] at h
  have e2 : (Value.agg #[.int .u64 m.v.root, .int .i64 m.v.cost, .int .u64 m.v.bridge, .int .i64 m.v.port, .int .i64 m.age, .bool m.chg, .bool m.lrn, .bool m.fwd]) = .agg #[.int .u64 r, .int .i64 c, .int .u64 b, .int .i64 p, .int .i64 a, .bool m.chg, .bool m.lrn, .bool m.fwd] := by rw [e]
  rw [e2]
  exact h
/-- the switch's own address -/
theorem slice_3 (s : ByteArray) (h : 3 ≤ s.size) (w : World) : (Instr.slice 9 (.string s) (some (.int .i64 3)) none none).run Tryz.prog w = .ok (.string (s.extract 3 s.size)) w := by
  rw [run_slice_string_from_if (P := Tryz.prog) w 9 s .i64 3 Tryz.underlying9, if_pos ⟨by omega, by omega⟩]
  rfl
theorem own_made (b : Nat) (id : Nat) (w : World) (hc : w.cell? ⟨b, 0, none⟩ = some (.int .u64 id)) :
    Calls Tryz.prog 57 #[.pointer (some ⟨b, 0, none⟩)] w fun e w' => e = .returned (.string (macB id)) ∧ Below w.heap.size w w' := by
  obtain ⟨s, hs⟩ : ∃ s : ByteArray, s = ⟨(Pl.be 8 id).toArray⟩ := ⟨_, rfl⟩
  have HE := Lib.hid (eight_any id)
  rw [← hs] at HE
  have hz : s.size = 8 := by rw [hs, ← size_toList]; exact Pl.be_length _ _
  have h3 := slice_3 s (by omega)
  have hm : (⟨#[2]⟩ : ByteArray) ++ s.extract 3 s.size = macB id := by
    apply ba_eq
    rw [show ((⟨#[2]⟩ : ByteArray) ++ s.extract 3 s.size).data.toList = [2] ++ (s.extract 3 s.size).data.toList by simp, data_extract, hs]
    show 2 :: ((Pl.be 8 id).drop 3).take _ = 2 :: (Pl.be 8 id).drop 3
    rw [List.take_of_length_le]
    rw [List.length_drop, Pl.be_length, ← size_toList]
    simp [Pl.be_length]
  rw [hz] at hm
  have HM := Lib.hid hm
  clear hm hs
  go_enter Tryz.func57, Tryz.ntmps57
  go_wp2_with (go_at_call 132; (with_reducible refine (HE.out _).mono ?_); rintro e w1 ⟨rfl, g1⟩)
  go_ret
  exact ⟨by rw [← HM.out]; rfl, g1⟩
end Go.Proofs.YticdmepplfgdiaaGreatDoor
