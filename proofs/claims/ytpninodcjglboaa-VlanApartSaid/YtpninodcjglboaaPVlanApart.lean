/-
  'siphonlaw12.VlanApart' returns true for every input, and leaves its arguments as they were: the given statement 'VlanApartSaid'. Conditions: none beyond the statement's own.
-/
import Derived.Test.YtpninodcjglboaaRows
import Derived.Test.YtpninodcjglboaaLaw12d
import Derived.WalkKit
import Derived.ProofKit
import Derived.OpenShut
import Derived.ShutString
import Derived.ChangeOld
import Derived.Below
import Derived.SizedLaws
import Derived.Lib.SmallJoins
namespace Go.Proofs.Ytpninodcjglboaa.vlanApart
open Go.ChangeShapes Go.WideShapes Go.ChangeAt Go.RowKit Go.Joins
open Go.ChangeMaps (open_string shut_string)
set_option linter.unusedVariables false

theorem own : ownKnob Try.prog.godebug = none := by kernel_rfl
theorem laidOut : laidOutB Try.prog = true := by kernel_rfl

set_option maxRecDepth 100000 in
theorem lifted (os : Os) (started : os.Started) (H : Type) (enc : TypeId × Value → H) :
    ReturnsInHanded {} Try.checked os 7 .any (Rows.vlanApartSpec.pre6 enc Try.prog Try.f7 Rows.vlanApartRow.domain false) (Rows.vlanApartSpec.post enc Try.prog Try.f7 false true false false) := by
  refine returnsInHanded_of_change_sized (C := Try.checked) own started (by kernel_rfl) Try.func7
    (ChangeSpec.witness6 (enc := enc) (C := Try.checked) false ⟨#[], #[.slice none 0 0, .int .i64 0, .agg #[.string ByteArray.empty, .string ByteArray.empty, .bool false, .int .i64 0, .int .i64 0, .int .i64 0, .string ByteArray.empty]], []⟩ 8 (by kernel_rfl) (by kernel_rfl) (by kernel_rfl) (by kernel_rfl)) ?_
  intro W base args ds gs before hval0 hW hcnd hsz0 _
  have hval : ∀ (j : Nat) t v, Try.f7.params[j]? = some t → args[j]? = some v → Value.okWide Try.prog W .any base t v := hval0
  have hsz : (DataW.weightsEach Try.prog (Try.f7.params.toList ++ Rows.vlanApartSpec.plain.varTypes Try.prog) (ds ++ gs)).all (· ≤ reachBytes) = true := hsz0
  have hW' := hW
  obtain ⟨p, q, hA0, hV, rfl, hfz, hnd⟩ := hW
  have hA : DataW.TrodAll enc Try.prog W 0 (fun _ => true) true Try.f7.params.toList args.toList ds p := hA0
  rw [Try.params7] at hA hval hsz
  obtain ⟨v0, vs0, d0, ds0, p0, q0, hargs, rfl, rfl, h0, r0⟩ := trodAll_cons hA
  obtain ⟨v1, vs1, d1, ds1, p1, q1, rfl, rfl, rfl, h1, r1⟩ := trodAll_cons r0
  obtain ⟨v2, vs2, d2, ds2, p2, q2, rfl, rfl, rfl, h2, r2⟩ := trodAll_cons r1
  obtain ⟨rfl, rfl, rfl⟩ := trodAll_nil r2
  obtain rfl : args = #[v0, v1, v2] := by cases args; simp_all
  obtain ⟨rfl, rfl⟩ := trodVars_none hV
  have k0 := h0
  have lt0 : ∀ x ∈ p0, x.block < W.heap.size := by obtain ⟨m, hm⟩ := k0; exact DataW.trod_lt m _ _ _ hm
  have k1 := h1
  have lt1 : ∀ x ∈ p1, x.block < W.heap.size := by obtain ⟨m, hm⟩ := k1; exact DataW.trod_lt m _ _ _ hm
  have k2 := h2
  have lt2 : ∀ x ∈ p2, x.block < W.heap.size := by obtain ⟨m, hm⟩ := k2; exact DataW.trod_lt m _ _ _ hm
  obtain ⟨ps0, hP0⟩ := open_ports (hval 0 22 v0 rfl rfl) h0
  obtain ⟨a0, rfl, rfl, rfl, w0⟩ := open_int Try.underlying3 (hval 1 3 v1 rfl rfl) h1
  obtain ⟨a1, a2, a3, a4, a5, a6, a7, rfl, rfl, w4, w5, w6⟩ := open_frame (hval 2 25 v2 rfl rfl) h2
  clear hA0 hval0
  have hz : (DataW.weightsEach Try.prog [22, 3, 25] [(d0 : DataW H), .lit (.int .i64 a0), .agg [.lit (.string a1.data.toList), .lit (.string a2.data.toList), .lit (.bool a3), .lit (.int .i64 a4), .lit (.int .i64 a5), .lit (.int .i64 a6), .lit (.string a7.data.toList)]]).all (fun x => decide (x ≤ reachBytes)) = true := hsz
  have s1 : a1.size ≤ 140737488351232 := by
    have h := of_decide_eq_true (List.all_eq_true.1 hz a1.data.toList.length (by simp [DataW.weightsEach, DataW.weights, Try.underlying25]))
    have e : a1.data.toList.length = a1.size := by rw [Array.length_toList]; rfl
    unfold reachBytes at h
    omega
  have s2 : a2.size ≤ 140737488351232 := by
    have h := of_decide_eq_true (List.all_eq_true.1 hz a2.data.toList.length (by simp [DataW.weightsEach, DataW.weights, Try.underlying25]))
    have e : a2.data.toList.length = a2.size := by rw [Array.length_toList]; rfl
    unfold reachBytes at h
    omega
  have s7 : a7.size ≤ 140737488351232 := by
    have h := of_decide_eq_true (List.all_eq_true.1 hz a7.data.toList.length (by simp [DataW.weightsEach, DataW.weights, Try.underlying25]))
    have e : a7.data.toList.length = a7.size := by rw [Array.length_toList]; rfl
    unfold reachBytes at h
    omega
  obtain ⟨l0, u0⟩ := Go.bounds_i64 w0
  obtain ⟨l4, u4⟩ := Go.bounds_i64 w4
  obtain ⟨l5, u5⟩ := Go.bounds_i64 w5
  obtain ⟨l6, u6⟩ := Go.bounds_i64 w6
  refine (vlanapart_walk v0 ps0 a0 a1 a2 a3 a4 a5 a6 a7 s7 W hP0).mono fun e W' ⟨he, bel⟩ => ?_
  subst he
  exact ⟨_, rfl, _, _, _, [], _, [], hW', trodAll_mk1 (shut_bool Try.underlying4 _), (trodAll_cons_mk (Below.trod laidOut (by kernel_rfl) (of_decide_eq_true (by kernel_rfl)) k0 bel lt0) (trodAll_cons_mk (Below.trod laidOut (by kernel_rfl) (of_decide_eq_true (by kernel_rfl)) k1 bel lt1) (trodAll_cons_mk (Below.trod laidOut (by kernel_rfl) (of_decide_eq_true (by kernel_rfl)) k2 bel lt2) trodAll_mk0))), rfl, bel.frame _, fun h => by cases h⟩

theorem over : Rows.vlanApartRow.holds Try.pinned (OpenSpec.ofChange Rows.vlanApartSpec) :=
  OpenClaim.holds_of_wide 7 Try.f7 rfl rfl rfl rfl rfl rfl rfl ⟨rfl, rfl, rfl, rfl, rfl⟩ rfl rfl rfl rfl rfl (by kernel_rfl) Try.func7 (by kernel_rfl)
    (of_decide_eq_true (by kernel_rfl)) (by unfold Func.isWrapper; first | (rw [if_pos (by decide +kernel)]; kernel_rfl) | (rw [if_neg (by decide +kernel)]; exact ⟨rfl, rfl⟩))
    (fun os started H enc _ => lifted os started H enc)

theorem proved : Rows.VlanApartSaid := over
end Go.Proofs.Ytpninodcjglboaa.vlanApart
