/-
  'siphonlaw04.Ipv4Encodes' returns true for every input, and leaves its arguments as they were: the given statement 'Ipv4EncodesSaid'. Conditions: none beyond the statement's own.
-/
import Derived.Test.YtoljmeemejmjfaaRows
import Derived.Test.YtoljmeemejmjfaaLaw04e
import Derived.WalkKit
import Derived.ProofKit
import Derived.OpenShut
import Derived.ShutString
import Derived.ChangeOld
import Derived.Below
import Derived.SizedLaws
import Derived.Lib.SmallJoins
namespace Go.Proofs.Ytoljmeemejmjfaa.ipv4Encodes
open Go.ChangeShapes Go.WideShapes Go.ChangeAt Go.RowKit Go.Joins
open Go.ChangeMaps (open_string shut_string)
set_option linter.unusedVariables false

theorem own : ownKnob Try.prog.godebug = none := by kernel_rfl
theorem laidOut : laidOutB Try.prog = true := by kernel_rfl

set_option maxRecDepth 100000 in
theorem lifted (os : Os) (started : os.Started) (H : Type) (enc : TypeId × Value → H) :
    ReturnsInHanded {} Try.checked os 4 .any (Rows.ipv4EncodesSpec.pre6 enc Try.prog Try.f4 Rows.ipv4EncodesRow.domain false) (Rows.ipv4EncodesSpec.post enc Try.prog Try.f4 false true false false) := by
  refine returnsInHanded_of_change_sized (C := Try.checked) own started (by kernel_rfl) Try.func4
    (ChangeSpec.witness6 (enc := enc) (C := Try.checked) false ⟨#[], #[.agg #[.int .i64 0, .int .i64 0, .int .i64 0, .string ByteArray.empty, .string ByteArray.empty, .string ByteArray.empty, .string ByteArray.empty]], []⟩ 8 (by kernel_rfl) (by kernel_rfl) (by kernel_rfl) (by kernel_rfl)) ?_
  intro W base args ds gs before hval0 hW hcnd hsz0 _
  have hval : ∀ (j : Nat) t v, Try.f4.params[j]? = some t → args[j]? = some v → Value.okWide Try.prog W .any base t v := hval0
  have hsz : (DataW.weightsEach Try.prog (Try.f4.params.toList ++ Rows.ipv4EncodesSpec.plain.varTypes Try.prog) (ds ++ gs)).all (· ≤ reachBytes) = true := hsz0
  have hW' := hW
  obtain ⟨p, q, hA0, hV, rfl, hfz, hnd⟩ := hW
  have hA : DataW.TrodAll enc Try.prog W 0 (fun _ => true) true Try.f4.params.toList args.toList ds p := hA0
  rw [Try.params4] at hA hval hsz
  obtain ⟨v0, vs0, d0, ds0, p0, q0, hargs, rfl, rfl, h0, r0⟩ := trodAll_cons hA
  obtain ⟨rfl, rfl, rfl⟩ := trodAll_nil r0
  obtain rfl : args = #[v0] := by cases args; simp_all
  obtain ⟨rfl, rfl⟩ := trodVars_none hV
  have k0 := h0
  have lt0 : ∀ x ∈ p0, x.block < W.heap.size := by obtain ⟨m, hm⟩ := k0; exact DataW.trod_lt m _ _ _ hm
  obtain ⟨a0, a1, a2, a3, a4, a5, a6, rfl, rfl, w0, w1, w2⟩ := open_v4 (hval 0 24 v0 rfl rfl) h0
  clear hA0 hval0
  have hz : (DataW.weightsEach Try.prog [24] [(.agg [.lit (.int .i64 a0), .lit (.int .i64 a1), .lit (.int .i64 a2), .lit (.string a3.data.toList), .lit (.string a4.data.toList), .lit (.string a5.data.toList), .lit (.string a6.data.toList)] : DataW H)]).all (fun x => decide (x ≤ reachBytes)) = true := hsz
  have s3 : a3.size ≤ 140737488351232 := by
    have h := of_decide_eq_true (List.all_eq_true.1 hz a3.data.toList.length (by simp [DataW.weightsEach, DataW.weights, Try.underlying24]))
    have e : a3.data.toList.length = a3.size := by rw [Array.length_toList]; rfl
    unfold reachBytes at h
    omega
  have s4 : a4.size ≤ 140737488351232 := by
    have h := of_decide_eq_true (List.all_eq_true.1 hz a4.data.toList.length (by simp [DataW.weightsEach, DataW.weights, Try.underlying24]))
    have e : a4.data.toList.length = a4.size := by rw [Array.length_toList]; rfl
    unfold reachBytes at h
    omega
  have s5 : a5.size ≤ 140737488351232 := by
    have h := of_decide_eq_true (List.all_eq_true.1 hz a5.data.toList.length (by simp [DataW.weightsEach, DataW.weights, Try.underlying24]))
    have e : a5.data.toList.length = a5.size := by rw [Array.length_toList]; rfl
    unfold reachBytes at h
    omega
  have s6 : a6.size ≤ 140737488351232 := by
    have h := of_decide_eq_true (List.all_eq_true.1 hz a6.data.toList.length (by simp [DataW.weightsEach, DataW.weights, Try.underlying24]))
    have e : a6.data.toList.length = a6.size := by rw [Array.length_toList]; rfl
    unfold reachBytes at h
    omega
  obtain ⟨l0, u0⟩ := Go.bounds_i64 w0
  obtain ⟨l1, u1⟩ := Go.bounds_i64 w1
  obtain ⟨l2, u2⟩ := Go.bounds_i64 w2
  refine (v4encodes_walk a0 a1 a2 a3 a4 a5 a6 u0 u1 u2 s5 s6 W).mono fun e W' ⟨he, bel⟩ => ?_
  subst he
  exact ⟨_, rfl, _, _, _, [], _, [], hW', trodAll_mk1 (shut_bool Try.underlying4 _), (trodAll_cons_mk (Below.trod laidOut (by kernel_rfl) (of_decide_eq_true (by kernel_rfl)) k0 bel lt0) trodAll_mk0), rfl, bel.frame _, fun h => by cases h⟩

theorem over : Rows.ipv4EncodesRow.holds Try.pinned (OpenSpec.ofChange Rows.ipv4EncodesSpec) :=
  OpenClaim.holds_of_wide 4 Try.f4 rfl rfl rfl rfl rfl rfl rfl ⟨rfl, rfl, rfl, rfl, rfl⟩ rfl rfl rfl rfl rfl (by kernel_rfl) Try.func4 (by kernel_rfl)
    (of_decide_eq_true (by kernel_rfl)) (by unfold Func.isWrapper; first | (rw [if_pos (by decide +kernel)]; kernel_rfl) | (rw [if_neg (by decide +kernel)]; exact ⟨rfl, rfl⟩))
    (fun os started H enc _ => lifted os started H enc)

theorem proved : Rows.Ipv4EncodesSaid := over
end Go.Proofs.Ytoljmeemejmjfaa.ipv4Encodes
