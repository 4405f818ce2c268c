/-
  What the document's own May (siphonref03) and vlan.encodes tell of a frame. Conditions: those of each case.
-/
import Derived.Test.YtpninodcjglboaaEthEnc
namespace Go.Proofs.Ytpninodcjglboaa
open Go.RowKit

set_option maxRecDepth 100000 in
set_option maxHeartbeats 8000000 in
theorem rmay_is (dst src data : ByteArray) (tg : Bool) (vl pr ty : Int) (r : Bool) (hz : data.size ≤ 140737488351232) (hr : r = true ↔ Good3 dst src tg vl pr ty data) (w : World) :
    Calls Try.prog 22 #[.agg #[.string dst, .string src, .bool tg, .int .i64 vl, .int .i64 pr, .int .i64 ty, .string data]] w fun e w' => e = .returned (.bool r) ∧ Below w.heap.size w w' := by
  obtain ⟨b1, e1⟩ : ∃ b, b = ((dst.size : Int) != 6) := ⟨_, rfl⟩
  obtain ⟨b2, e2⟩ : ∃ b, b = ((src.size : Int) != 6) := ⟨_, rfl⟩
  obtain ⟨b3, e3⟩ : ∃ b, b = decide (vl < 0) := ⟨_, rfl⟩
  obtain ⟨b4, e4⟩ : ∃ b, b = decide (4094 < vl) := ⟨_, rfl⟩
  obtain ⟨b5, e5⟩ : ∃ b, b = decide (pr < 0) := ⟨_, rfl⟩
  obtain ⟨b6, e6⟩ : ∃ b, b = decide (7 < pr) := ⟨_, rfl⟩
  obtain ⟨b7, e7⟩ : ∃ b, b = decide (ty < 0) := ⟨_, rfl⟩
  obtain ⟨b8, e8⟩ : ∃ b, b = decide (65535 < ty) := ⟨_, rfl⟩
  obtain ⟨b9, e9⟩ : ∃ b, b = decide (2000 < (data.size : Int)) := ⟨_, rfl⟩
  obtain ⟨b10, e10⟩ : ∃ b, b = (vl == 0) := ⟨_, rfl⟩
  obtain ⟨b11, e11⟩ : ∃ b, b = (pr == 0) := ⟨_, rfl⟩
  obtain ⟨b12, e12⟩ : ∃ b, b = (ty != 33024) := ⟨_, rfl⟩
  have hR : r = (!b1 && (!b2 && (!b3 && (!b4 && (!b5 && (!b6 && (!b7 && (!b8 && (!b9 && (tg || (b10 && (b11 && b12)))))))))))) := by
    rw [Bool.eq_iff_iff, hr, e1, e2, e3, e4, e5, e6, e7, e8, e9, e10, e11, e12  ]
    cases tg
    all_goals
      simp only [Good3, Bool.and_eq_true, Bool.or_eq_true, Bool.not_eq_true', decide_eq_false_iff_not, beq_iff_eq, bne_iff_ne, bne_eq_false_iff_eq, ne_eq, Bool.false_eq_true, false_or, true_or, and_true]
      omega
  have HR := Lib.hid hR
  have f1 := e1.symm
  have f2 := e2.symm
  have f3 := e3.symm
  have f4 := e4.symm
  have f5 := e5.symm
  have f6 := e6.symm
  have f7 := e7.symm
  have f8 := e8.symm
  have f9 := e9.symm
  have f10 := e10.symm
  have f11 := e11.symm
  have f12 := e12.symm
  clear hR hr hz e1 e2 e3 e4 e5 e6 e7 e8 e9 e10 e11 e12
  rcases b1 with _ | _
  · have tok1 : True := trivial
    rcases b2 with _ | _
    · have tok2 : True := trivial
      rcases b3 with _ | _
      · have tok3 : True := trivial
        rcases b4 with _ | _
        · have tok4 : True := trivial
          rcases b5 with _ | _
          · have tok5 : True := trivial
            rcases b6 with _ | _
            · have tok6 : True := trivial
              rcases b7 with _ | _
              · have tok7 : True := trivial
                rcases b8 with _ | _
                · have tok8 : True := trivial
                  rcases b9 with _ | _
                  · have tok9 : True := trivial
                    rcases tg with _ | _ <;> rcases b10 with _ | _ <;> rcases b11 with _ | _
                    all_goals
                      go_enter Try.func22, Try.ntmps22
                      go_wp2
                      go_ret
                      exact ⟨by rw [HR.out]; rfl, bbox1 _ _⟩
                  · go_enter Try.func22, Try.ntmps22
                    go_wp2
                    go_ret
                    exact ⟨by rw [HR.out]; rfl, bbox1 _ _⟩
                · go_enter Try.func22, Try.ntmps22
                  go_wp2
                  go_ret
                  exact ⟨by rw [HR.out]; rfl, bbox1 _ _⟩
              · go_enter Try.func22, Try.ntmps22
                go_wp2
                go_ret
                exact ⟨by rw [HR.out]; rfl, bbox1 _ _⟩
            · go_enter Try.func22, Try.ntmps22
              go_wp2
              go_ret
              exact ⟨by rw [HR.out]; rfl, bbox1 _ _⟩
          · go_enter Try.func22, Try.ntmps22
            go_wp2
            go_ret
            exact ⟨by rw [HR.out]; rfl, bbox1 _ _⟩
        · go_enter Try.func22, Try.ntmps22
          go_wp2
          go_ret
          exact ⟨by rw [HR.out]; rfl, bbox1 _ _⟩
      · go_enter Try.func22, Try.ntmps22
        go_wp2
        go_ret
        exact ⟨by rw [HR.out]; rfl, bbox1 _ _⟩
    · go_enter Try.func22, Try.ntmps22
      go_wp2
      go_ret
      exact ⟨by rw [HR.out]; rfl, bbox1 _ _⟩
  · go_enter Try.func22, Try.ntmps22
    go_wp2
    go_ret
    exact ⟨by rw [HR.out]; rfl, bbox1 _ _⟩

theorem good3_nat2 {dst src data : ByteArray} {tg : Bool} {vl pr ty : Int} (h : Good3 dst src tg vl pr ty data) : ∃ a b c : Nat, vl = a ∧ pr = b ∧ ty = c := by
  unfold Good3 at h
  obtain ⟨a, ha⟩ := Int.eq_ofNat_of_zero_le (show 0 ≤ vl by omega)
  obtain ⟨b, hb⟩ := Int.eq_ofNat_of_zero_le (show 0 ≤ pr by omega)
  obtain ⟨c, hc⟩ := Int.eq_ofNat_of_zero_le (show 0 ≤ ty by omega)
  exact ⟨a, b, c, ha, hb, hc⟩

set_option maxRecDepth 100000 in
theorem encodes_is (dst src data : ByteArray) (tg : Bool) (vl pr ty : Int) (r : Bool) (hz : data.size ≤ 140737488351232) (hr : r = true ↔ Good3 dst src tg vl pr ty data) (w : World) :
    Calls Try.prog 25 #[.agg #[.string dst, .string src, .bool tg, .int .i64 vl, .int .i64 pr, .int .i64 ty, .string data]] w fun e w' => e = .returned (.bool r) ∧ Below w.heap.size w w' := by
  by_cases hg : Good3 dst src tg vl pr ty data
  · obtain ⟨a, b, c, rfl, rfl, rfl⟩ := good3_nat2 hg
    have hE := ence_ok dst src data tg a b c hg
    generalize (⟨(Et.enc dst.data.toList src.data.toList tg a b c data.data.toList).toArray⟩ : ByteArray) = s at hE
    have HR := Lib.hid (hr.2 hg)
    clear hg hr hz
    go_enter Try.func25, Try.ntmps25
    go_wp2_with ((with_reducible refine (hE.to _).mono ?_); rintro e w1 ⟨rfl, g1⟩)
    go_ret
    exact ⟨ret_bool HR.out.symm, bstep (bbox1 _ _) g1⟩
  · have hE := ence_arg dst src data tg vl pr ty (by omega) hg
    have HR := Lib.hid (show r = false by rcases r with _ | _; rfl; exact absurd (hr.1 rfl) hg)
    clear hg hr hz
    go_enter Try.func25, Try.ntmps25
    go_wp2_with ((with_reducible refine (hE.to _).mono ?_); rintro e w1 ⟨rfl, g1⟩)
    go_ret
    exact ⟨ret_bool HR.out.symm, bstep (bbox1 _ _) g1⟩
end Go.Proofs.Ytpninodcjglboaa
