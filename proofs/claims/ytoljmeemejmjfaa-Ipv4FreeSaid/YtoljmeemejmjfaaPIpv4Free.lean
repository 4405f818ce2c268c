/-
  'siphonlaw04.Ipv4Free' returns true for every input, and leaves its arguments as they were: the given statement 'Ipv4FreeSaid'. Conditions: none beyond the statement's own.
-/
import Derived.Test.YtoljmeemejmjfaaRows
import Derived.Test.YtoljmeemejmjfaaLaw04d
import Derived.WalkKit
import Derived.ProofKit
import Derived.OpenShut
import Derived.ShutString
import Derived.ChangeOld
import Derived.Below
import Derived.SizedLaws
import Derived.Lib.SmallJoins
namespace Go.Proofs.Ytoljmeemejmjfaa.ipv4Free
open Go.ChangeShapes Go.WideShapes Go.ChangeAt Go.RowKit Go.Joins
open Go.ChangeMaps (open_string shut_string)
set_option linter.unusedVariables false

theorem own : ownKnob Try.prog.godebug = none := by kernel_rfl
theorem laidOut : laidOutB Try.prog = true := by kernel_rfl

set_option maxRecDepth 100000 in
theorem lifted (os : Os) (started : os.Started) (H : Type) (enc : TypeId × Value → H) :
    ReturnsInHanded {} Try.checked os 9 .any (Rows.ipv4FreeSpec.pre6 enc Try.prog Try.f9 Rows.ipv4FreeRow.domain false) (Rows.ipv4FreeSpec.post enc Try.prog Try.f9 false true false false) := by
  refine returnsInHanded_of_change_sized (C := Try.checked) own started (by kernel_rfl) Try.func9
    (ChangeSpec.witness6 (enc := enc) (C := Try.checked) false ⟨#[], #[.agg #[.int .i64 0, .int .i64 0, .int .i64 0, .string ByteArray.empty, .string ByteArray.empty, .string ByteArray.empty, .string ByteArray.empty], .int .u8 0], []⟩ 8 (by kernel_rfl) (by kernel_rfl) (by kernel_rfl) (by kernel_rfl)) ?_
  intro W base args ds gs before hval0 hW hcnd hsz0 _
  have hval : ∀ (j : Nat) t v, Try.f9.params[j]? = some t → args[j]? = some v → Value.okWide Try.prog W .any base t v := hval0
  have hsz : (DataW.weightsEach Try.prog (Try.f9.params.toList ++ Rows.ipv4FreeSpec.plain.varTypes Try.prog) (ds ++ gs)).all (· ≤ reachBytes) = true := hsz0
  have hW' := hW
  obtain ⟨p, q, hA0, hV, rfl, hfz, hnd⟩ := hW
  have hA : DataW.TrodAll enc Try.prog W 0 (fun _ => true) true Try.f9.params.toList args.toList ds p := hA0
  rw [Try.params9] at hA hval hsz
  obtain ⟨v0, vs0, d0, ds0, p0, q0, hargs, rfl, rfl, h0, r0⟩ := trodAll_cons hA
  obtain ⟨v1, vs1, d1, ds1, p1, q1, rfl, rfl, rfl, h1, r1⟩ := trodAll_cons r0
  obtain ⟨rfl, rfl, rfl⟩ := trodAll_nil r1
  obtain rfl : args = #[v0, v1] := by cases args; simp_all
  obtain ⟨rfl, rfl⟩ := trodVars_none hV
  have k0 := h0
  have lt0 : ∀ x ∈ p0, x.block < W.heap.size := by obtain ⟨m, hm⟩ := k0; exact DataW.trod_lt m _ _ _ hm
  have k1 := h1
  have lt1 : ∀ x ∈ p1, x.block < W.heap.size := by obtain ⟨m, hm⟩ := k1; exact DataW.trod_lt m _ _ _ hm
  obtain ⟨a0, a1, a2, a3, a4, a5, a6, rfl, rfl, w0, w1, w2⟩ := open_v4 (hval 0 24 v0 rfl rfl) h0
  obtain ⟨a7, rfl, rfl, rfl, w7⟩ := open_int Try.underlying5 (hval 1 5 v1 rfl rfl) h1
  clear hA0 hval0
  have hz : (DataW.weightsEach Try.prog [24, 5] [(.agg [.lit (.int .i64 a0), .lit (.int .i64 a1), .lit (.int .i64 a2), .lit (.string a3.data.toList), .lit (.string a4.data.toList), .lit (.string a5.data.toList), .lit (.string a6.data.toList)] : DataW H), .lit (.int .u8 a7)]).all (fun x => decide (x ≤ reachBytes)) = true := hsz
  have s3 : a3.size ≤ 140737488351232 := by
    have h := of_decide_eq_true (List.all_eq_true.1 hz a3.data.toList.length (by simp [DataW.weightsEach, DataW.weights, Try.underlying24]))
    have e : a3.data.toList.length = a3.size := by rw [Array.length_toList]; rfl
    unfold reachBytes at h
    omega
  have s4 : a4.size ≤ 140737488351232 := by
    have h := of_decide_eq_true (List.all_eq_true.1 hz a4.data.toList.length (by simp [DataW.weightsEach, DataW.weights, Try.underlying24]))
    have e : a4.data.toList.length = a4.size := by rw [Array.length_toList]; rfl
    unfold reachBytes at h
    omega
  have s5 : a5.size ≤ 140737488351232 := by
    have h := of_decide_eq_true (List.all_eq_true.1 hz a5.data.toList.length (by simp [DataW.weightsEach, DataW.weights, Try.underlying24]))
    have e : a5.data.toList.length = a5.size := by rw [Array.length_toList]; rfl
    unfold reachBytes at h
    omega
  have s6 : a6.size ≤ 140737488351232 := by
    have h := of_decide_eq_true (List.all_eq_true.1 hz a6.data.toList.length (by simp [DataW.weightsEach, DataW.weights, Try.underlying24]))
    have e : a6.data.toList.length = a6.size := by rw [Array.length_toList]; rfl
    unfold reachBytes at h
    omega
  obtain ⟨l0, u0⟩ := Go.bounds_i64 w0
  obtain ⟨l1, u1⟩ := Go.bounds_i64 w1
  obtain ⟨l2, u2⟩ := Go.bounds_i64 w2
  obtain ⟨l7, u7⟩ := Go.bounds_u8 w7
  refine (v4free_any a0 a1 a2 a3 a4 a5 a6 a7 u0 u1 u2 s5 l7 u7 W).mono fun e W' ⟨he, bel⟩ => ?_
  subst he
  exact ⟨_, rfl, _, _, _, [], _, [], hW', trodAll_mk1 (shut_bool Try.underlying4 _), (trodAll_cons_mk (Below.trod laidOut (by kernel_rfl) (of_decide_eq_true (by kernel_rfl)) k0 bel lt0) (trodAll_cons_mk (Below.trod laidOut (by kernel_rfl) (of_decide_eq_true (by kernel_rfl)) k1 bel lt1) trodAll_mk0)), rfl, bel.frame _, fun h => by cases h⟩

theorem over : Rows.ipv4FreeRow.holds Try.pinned (OpenSpec.ofChange Rows.ipv4FreeSpec) :=
  OpenClaim.holds_of_wide 9 Try.f9 rfl rfl rfl rfl rfl rfl rfl ⟨rfl, rfl, rfl, rfl, rfl⟩ rfl rfl rfl rfl rfl (by kernel_rfl) Try.func9 (by kernel_rfl)
    (of_decide_eq_true (by kernel_rfl)) (by unfold Func.isWrapper; first | (rw [if_pos (by decide +kernel)]; kernel_rfl) | (rw [if_neg (by decide +kernel)]; exact ⟨rfl, rfl⟩))
    (fun os started H enc _ => lifted os started H enc)

theorem proved : Rows.Ipv4FreeSaid := over
end Go.Proofs.Ytoljmeemejmjfaa.ipv4Free
