/-
  'siphonlaw02.CsumPseudo' returns true for every input, and leaves its arguments as they were: the given statement 'CsumPseudoSaid'. Conditions: none beyond the statement's own.
-/
import Derived.Test.YtcheceapcimbmaaRows
import Derived.Test.YtcheceapcimbmaaLaw02
import Derived.WalkKit
import Derived.ProofKit
import Derived.OpenShut
import Derived.ShutString
import Derived.ChangeOld
import Derived.Below
import Derived.SizedLaws
import Derived.Lib.SmallJoins
namespace Go.Proofs.Ytcheceapcimbmaa.csumPseudo
open Go.ChangeShapes Go.WideShapes Go.ChangeAt Go.RowKit Go.Joins
open Go.ChangeMaps (open_string shut_string)
set_option linter.unusedVariables false

theorem own : ownKnob Try.prog.godebug = none := by kernel_rfl
theorem laidOut : laidOutB Try.prog = true := by kernel_rfl

set_option maxRecDepth 100000 in
theorem lifted (os : Os) (started : os.Started) (H : Type) (enc : TypeId × Value → H) :
    ReturnsInHanded {} Try.checked os 4 .any (Rows.csumPseudoSpec.pre6 enc Try.prog Try.f4 Rows.csumPseudoRow.domain false) (Rows.csumPseudoSpec.post enc Try.prog Try.f4 false true false false) := by
  refine returnsInHanded_of_change_sized (C := Try.checked) own started (by kernel_rfl) Try.func4
    (ChangeSpec.witness6 (enc := enc) (C := Try.checked) false ⟨#[], #[.agg #[.string ByteArray.empty, .string ByteArray.empty, .int .i64 0, .int .i64 0]], []⟩ 8 (by kernel_rfl) (by kernel_rfl) (by kernel_rfl) (by kernel_rfl)) ?_
  intro W base args ds gs before hval0 hW hcnd hsz0 _
  have hval : ∀ (j : Nat) t v, Try.f4.params[j]? = some t → args[j]? = some v → Value.okWide Try.prog W .any base t v := hval0
  have hsz : (DataW.weightsEach Try.prog (Try.f4.params.toList ++ Rows.csumPseudoSpec.plain.varTypes Try.prog) (ds ++ gs)).all (· ≤ reachBytes) = true := hsz0
  have hW' := hW
  obtain ⟨p, q, hA0, hV, rfl, hfz, hnd⟩ := hW
  have hA : DataW.TrodAll enc Try.prog W 0 (fun _ => true) true Try.f4.params.toList args.toList ds p := hA0
  rw [Try.params4] at hA hval hsz
  obtain ⟨v0, vs0, d0, ds0, p0, q0, hargs, rfl, rfl, h0, r0⟩ := trodAll_cons hA
  obtain ⟨rfl, rfl, rfl⟩ := trodAll_nil r0
  obtain rfl : args = #[v0] := by cases args; simp_all
  obtain ⟨rfl, rfl⟩ := trodVars_none hV
  have k0 := h0
  have lt0 : ∀ x ∈ p0, x.block < W.heap.size := by obtain ⟨m, hm⟩ := k0; exact DataW.trod_lt m _ _ _ hm
  obtain ⟨c0, c1, c2, c3, y0, y1, y2, y3, m0, rfl, rfl, rfl, hy0, hy1, hy2, hy3⟩ := open_agg4 Try.underlying27 (by kernel_rfl) (show Try.prog.cellsOf 27 = 4 by kernel_rfl) (hval 0 27 v0 rfl rfl) h0
  obtain ⟨a0, e0, rfl, w0⟩ := DataW.trod_string (by kernel_rfl) hy0
  obtain rfl := List.head_eq_of_cons_eq e0
  clear e0
  obtain ⟨a1, e1, rfl, w1⟩ := DataW.trod_string (by kernel_rfl) hy1
  obtain rfl := List.head_eq_of_cons_eq e1
  clear e1
  obtain ⟨a2, e2, rfl, w2⟩ := DataW.trod_int (k := .i64) (by kernel_rfl) hy2
  obtain rfl := List.head_eq_of_cons_eq e2
  clear e2
  obtain ⟨a3, e3, rfl, w3⟩ := DataW.trod_int (k := .i64) (by kernel_rfl) hy3
  obtain rfl := List.head_eq_of_cons_eq e3
  clear e3
  clear hA0 hval0
  have hz : (DataW.weightsEach Try.prog [27] [(.agg [.lit (.string a0.data.toList), .lit (.string a1.data.toList), .lit (.int .i64 a2), .lit (.int .i64 a3)] : DataW H)]).all (fun x => decide (x ≤ reachBytes)) = true := hsz
  have s0 : a0.size ≤ 140737488351232 := by
    have h := of_decide_eq_true (List.all_eq_true.1 hz a0.data.toList.length (by simp [DataW.weightsEach, DataW.weights, Try.underlying27]))
    have e : a0.data.toList.length = a0.size := by rw [Array.length_toList]; rfl
    unfold reachBytes at h
    omega
  have s1 : a1.size ≤ 140737488351232 := by
    have h := of_decide_eq_true (List.all_eq_true.1 hz a1.data.toList.length (by simp [DataW.weightsEach, DataW.weights, Try.underlying27]))
    have e : a1.data.toList.length = a1.size := by rw [Array.length_toList]; rfl
    unfold reachBytes at h
    omega
  obtain ⟨l2, u2⟩ := Go.bounds_i64 w2
  obtain ⟨l3, u3⟩ := Go.bounds_i64 w3
  refine (csumPseudo_walk a0 a1 a2 a3 (by omega) (by omega) (by omega) (by omega) W).mono fun e W' ⟨he, bel⟩ => ?_
  subst he
  exact ⟨_, rfl, _, _, _, [], _, [], hW', trodAll_mk1 (shut_bool Try.underlying4 _), (trodAll_cons_mk (Below.trod laidOut (by kernel_rfl) (of_decide_eq_true (by kernel_rfl)) k0 bel lt0) trodAll_mk0), rfl, bel.frame _, fun h => by cases h⟩

theorem over : Rows.csumPseudoRow.holds Try.pinned (OpenSpec.ofChange Rows.csumPseudoSpec) :=
  OpenClaim.holds_of_wide 4 Try.f4 rfl rfl rfl rfl rfl rfl rfl ⟨rfl, rfl, rfl, rfl, rfl⟩ rfl rfl rfl rfl rfl (by kernel_rfl) Try.func4 (by kernel_rfl)
    (of_decide_eq_true (by kernel_rfl)) (by unfold Func.isWrapper; first | (rw [if_pos (by decide +kernel)]; kernel_rfl) | (rw [if_neg (by decide +kernel)]; exact ⟨rfl, rfl⟩))
    (fun os started H enc _ => lifted os started H enc)

theorem proved : Rows.CsumPseudoSaid := over
end Go.Proofs.Ytcheceapcimbmaa.csumPseudo
