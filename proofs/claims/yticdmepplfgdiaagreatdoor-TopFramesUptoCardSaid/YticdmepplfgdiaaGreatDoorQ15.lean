/-
  What the document's own May and Encode (siphonref03) compute. Conditions: those of each case. What the document's own May (siphonref03) and vlan.encodes tell of a frame. Conditions: those of each case.
-/
import Derived.Test.YticdmepplfgdiaaGreatDoorQ14
import Derived.Test.YticdmepplfgdiaaGreatDoorQ03
set_option linter.unusedVariables false
set_option linter.unusedSimpArgs false
section
namespace Go.Proofs.YticdmepplfgdiaaGreatDoor
open Go.RowKit
set_option maxRecDepth 100000 in
set_option maxHeartbeats 8000000 in
theorem rmay_isE (dst src data : ByteArray) (tg : Bool) (vl pr ty : Int) (r : Bool) (hz : data.size ≤ 140737488351232) (hr : r = true ↔ Good3 dst src tg vl pr ty data) (w : World) :
    Calls Tryz.prog 80 #[.agg #[.string dst, .string src, .bool tg, .int .i64 vl, .int .i64 pr, .int .i64 ty, .string data]] w fun e w' => e = .returned (.bool r) ∧ Below w.heap.size w w' := by
  obtain ⟨b1, e1⟩ : ∃ b, b = ((dst.size : Int) != 6) := ⟨_, rfl⟩
  obtain ⟨b2, e2⟩ : ∃ b, b = ((src.size : Int) != 6) := ⟨_, rfl⟩
  obtain ⟨b3, e3⟩ : ∃ b, b = decide (vl < 0) := ⟨_, rfl⟩
  obtain ⟨b4, e4⟩ : ∃ b, b = decide (4094 < vl) := ⟨_, rfl⟩
  obtain ⟨b5, e5⟩ : ∃ b, b = decide (pr < 0) := ⟨_, rfl⟩
  obtain ⟨b6, e6⟩ : ∃ b, b = decide (7 < pr) := ⟨_, rfl⟩
  obtain ⟨b7, e7⟩ : ∃ b, b = decide (ty < 0) := ⟨_, rfl⟩
  obtain ⟨b8, e8⟩ : ∃ b, b = decide (65535 < ty) := ⟨_, rfl⟩
  obtain ⟨b9, e9⟩ : ∃ b, b = decide (2000 < (data.size : Int)) := ⟨_, rfl⟩
  obtain ⟨b10, e10⟩ : ∃ b, b = (vl == 0) := ⟨_, rfl⟩
  obtain ⟨b11, e11⟩ : ∃ b, b = (pr == 0) := ⟨_, rfl⟩
  obtain ⟨b12, e12⟩ : ∃ b, b = (ty != 33024) := ⟨_, rfl⟩
  have hR : r = (!b1 && (!b2 && (!b3 && (!b4 && (!b5 && (!b6 && (!b7 && (!b8 && (!b9 && (tg || (b10 && (b11 && b12)))))))))))) := by
    rw [Bool.eq_iff_iff, hr, e1, e2, e3, e4, e5, e6, e7, e8, e9, e10, e11, e12  ]
    cases tg
    all_goals
      simp only [Good3, Bool.and_eq_true, Bool.or_eq_true, Bool.not_eq_true', decide_eq_false_iff_not, beq_iff_eq, bne_iff_ne, bne_eq_false_iff_eq, ne_eq, Bool.false_eq_true, false_or, true_or, and_true]
      omega
  have HR := Lib.hid hR
  have f1 := e1.symm
  have f2 := e2.symm
  have f3 := e3.symm
  have f4 := e4.symm
  have f5 := e5.symm
  have f6 := e6.symm
  have f7 := e7.symm
  have f8 := e8.symm
  have f9 := e9.symm
  have f10 := e10.symm
  have f11 := e11.symm
  have f12 := e12.symm
  clear hR hr hz e1 e2 e3 e4 e5 e6 e7 e8 e9 e10 e11 e12
  rcases b1 with _ | _
  · have tok1 : True := trivial
    rcases b2 with _ | _
    · have tok2 : True := trivial
      rcases b3 with _ | _
      · have tok3 : True := trivial
        rcases b4 with _ | _
        · have tok4 : True := trivial
          rcases b5 with _ | _
          · have tok5 : True := trivial
            rcases b6 with _ | _
            · have tok6 : True := trivial
              rcases b7 with _ | _
              · have tok7 : True := trivial
                rcases b8 with _ | _
                · have tok8 : True := trivial
                  rcases b9 with _ | _
                  · have tok9 : True := trivial
                    rcases tg with _ | _ <;> rcases b10 with _ | _ <;> rcases b11 with _ | _
                    all_goals
                      go_enter Tryz.func80, Tryz.ntmps80
                      go_wp2
                      go_ret
                      exact ⟨by rw [HR.out]; rfl, bbox1 _ _⟩
                  · go_enter Tryz.func80, Tryz.ntmps80
                    go_wp2
                    go_ret
                    exact ⟨by rw [HR.out]; rfl, bbox1 _ _⟩
                · go_enter Tryz.func80, Tryz.ntmps80
                  go_wp2
                  go_ret
                  exact ⟨by rw [HR.out]; rfl, bbox1 _ _⟩
              · go_enter Tryz.func80, Tryz.ntmps80
                go_wp2
                go_ret
                exact ⟨by rw [HR.out]; rfl, bbox1 _ _⟩
            · go_enter Tryz.func80, Tryz.ntmps80
              go_wp2
              go_ret
              exact ⟨by rw [HR.out]; rfl, bbox1 _ _⟩
          · go_enter Tryz.func80, Tryz.ntmps80
            go_wp2
            go_ret
            exact ⟨by rw [HR.out]; rfl, bbox1 _ _⟩
        · go_enter Tryz.func80, Tryz.ntmps80
          go_wp2
          go_ret
          exact ⟨by rw [HR.out]; rfl, bbox1 _ _⟩
      · go_enter Tryz.func80, Tryz.ntmps80
        go_wp2
        go_ret
        exact ⟨by rw [HR.out]; rfl, bbox1 _ _⟩
    · go_enter Tryz.func80, Tryz.ntmps80
      go_wp2
      go_ret
      exact ⟨by rw [HR.out]; rfl, bbox1 _ _⟩
  · go_enter Tryz.func80, Tryz.ntmps80
    go_wp2
    go_ret
    exact ⟨by rw [HR.out]; rfl, bbox1 _ _⟩
/-- Encode's own box while it works -/
def KeptG (n0 : Nat) (v0 v1 v2 v3 v4 v5 v6 : Value) (w W : World) : Prop := Below n0 w W ∧ Box7 W n0 v0 v1 v2 v3 v4 v5 v6
theorem KeptG.out {n0 : Nat} {v0 v1 v2 v3 v4 v5 v6 : Value} {w W : World} (h : KeptG n0 v0 v1 v2 v3 v4 v5 v6 w W) : W.cell? ⟨n0, 5, none⟩ = some v5 ∧ W.cell? ⟨n0, 6, none⟩ = some v6 ∧ KeptG n0 v0 v1 v2 v3 v4 v5 v6 w W := ⟨h.2.2.2.2.2.2.2.1, h.2.2.2.2.2.2.2.2.1, h⟩
theorem keptG_next {n0 : Nat} {v0 v1 v2 v3 v4 v5 v6 : Value} {w W W' : World} (g : Below W.heap.size W W') (h : KeptG n0 v0 v1 v2 v3 v4 v5 v6 w W) : KeptG n0 v0 v1 v2 v3 v4 v5 v6 w W' := ⟨h.1.trans (g.mono (Nat.le_of_lt h.2.1)), h.2.below g⟩
theorem keptG_drew {n0 : Nat} {v0 v1 v2 v3 v4 v5 v6 : Value} {w W : World} (h : KeptG n0 v0 v1 v2 v3 v4 v5 v6 w W) : KeptG n0 v0 v1 v2 v3 v4 v5 v6 w W.drew := ⟨h.1.drew, h.2⟩
attribute [local go_sem ↓] Go.wp_at_zero Go.wp_at_succ
set_option maxRecDepth 100000 in
set_option maxHeartbeats 4000000 in
theorem rethenc_in (dst src data x1 x2 x3 x4 x5 v2 v3 : ByteArray) (tg : Bool) (vl pr ty : Nat) (hg : Good3 dst src tg vl pr ty data) (z2 : v2.size = 2) (z3 : v3.size = 2)
    (h2 : ROfs ((pr : Int) * 8192 + (vl : Int)) 2 v2) (h3 : ROfs ty 2 v3) (q1 : dst ++ src = x1) (q2 : x1 ++ ⟨#[129, 0]⟩ = x2) (q3 : x2 ++ v2 = x3) (q4 : (if tg then x3 else x1) ++ v3 = x4) (q5 : x4 ++ data = x5) (w : World) :
    Calls Tryz.prog 21 #[.agg #[.string dst, .string src, .bool tg, .int .i64 vl, .int .i64 pr, .int .i64 ty, .string data]] w fun e w' => e = .returned (.tuple #[.string x5, .int .i64 0]) ∧ Below w.heap.size w w' := by
  have hgq := hg
  obtain ⟨k1, k2, k3, k4, k5, k6, k7, k8, k9, k10⟩ := hgq
  have hm := fun w => rmay_isE dst src data tg vl pr ty true (by omega) (Iff.intro (fun _ => hg) (fun _ => rfl)) w
  have s1 : x1.size = 12 := by rw [← q1, size_add]; omega
  have s2 : x2.size = 14 := by rw [← q2, size_add, s1]; rfl
  have s3 : x3.size = 16 := by rw [← q3, size_add]; omega
  have s4 : x4.size ≤ 18 := by rw [← q4, size_add]; cases tg <;> simp <;> omega
  have j1 := join2 dst src (by omega)
  have j2 := join2 x1 ⟨#[129, 0]⟩ (by show x1.size + 2 ≤ _; omega)
  have j3 := join2 x2 v2 (by omega)
  have j5 := join2 x4 data (by omega)
  have j4 := join2 (if tg then x3 else x1) v3 (by cases tg <;> simp <;> omega)
  rw [q1] at j1
  rw [q2] at j2
  rw [q3] at j3
  rw [q4] at j4
  rw [q5] at j5
  have hp7 : (pr : Int) ≤ 7 := k7
  have hv4 : (vl : Int) ≤ 4094 := k5
  clear hg z2 z3 q1 q2 q3 q4 q5 s1 s2 s3 s4 k1 k2 k3 k4 k5 k6 k7 k8 k9 k10
  rcases tg with _ | _
  · simp only [Bool.false_eq_true, if_false] at j4
    go_enter Tryz.func21, Tryz.ntmps21
    go_wp2_with ((with_reducible refine (hm _).mono ?_); rintro e w1 ⟨rfl, g1⟩; obtain ⟨y1, c0, c1, c2, c3, c4, c5, c6, cf⟩ := (Box7.new _ _ _ _ _ _ _ _ _).below g1)
    have K1 : KeptG w.heap.size _ _ _ _ _ _ _ w w1 := ⟨bstep (bbox1 _ _) g1, (Box7.new _ _ _ _ _ _ _ _ _).below g1⟩
    clear c0 c1 c2 c3 c4 c5 c6 cf
    go_region_held3 (fun w' => w'.cell? ⟨w.heap.size, 5, none⟩ = some (.int .i64 ty) ∧ w'.cell? ⟨w.heap.size, 6, none⟩ = some (.string data) ∧ KeptG w.heap.size (.string dst) (.string src) (.bool false) (.int .i64 vl) (.int .i64 pr) (.int .i64 ty) (.string data) w w')
      (first | (exact (keptG_drew K1).out) | (go_split_ands; exact (keptG_next (by assumption) (by assumption)).out))
      (first | ((with_reducible refine (h3.to _).mono ?_); rintro e w3 ⟨rfl, g3⟩))
    have K4 : KeptG w.heap.size (.string dst) (.string src) (.bool false) (.int .i64 vl) (.int .i64 pr) (.int .i64 ty) (.string data) w w3 := by first | assumption | (go_split_ands; assumption) | go_split_ands
    have K4b := K4.1
    go_wp2
    go_ret2
    exact ⟨rfl, K4b⟩
  · simp only [if_true] at j4
    go_enter Tryz.func21, Tryz.ntmps21
    go_wp2_with (first | ((with_reducible refine (hm _).mono ?_); rintro e w1 ⟨rfl, g1⟩; obtain ⟨y1, c0, c1, c2, c3, c4, c5, c6, cf⟩ := (Box7.new _ _ _ _ _ _ _ _ _).below g1) | ((with_reducible refine (h2.to _).mono ?_); rintro e w2 ⟨rfl, g2⟩))
    have K1 : KeptG w.heap.size _ _ _ _ _ _ _ w w2 := keptG_next g2 ⟨bstep (bbox1 _ _) g1, (Box7.new _ _ _ _ _ _ _ _ _).below g1⟩
    clear c0 c1 c2 c3 c4 c5 c6 cf
    go_region_held3 (fun w' => w'.cell? ⟨w.heap.size, 5, none⟩ = some (.int .i64 ty) ∧ w'.cell? ⟨w.heap.size, 6, none⟩ = some (.string data) ∧ KeptG w.heap.size (.string dst) (.string src) (.bool true) (.int .i64 vl) (.int .i64 pr) (.int .i64 ty) (.string data) w w')
      (first | (exact (keptG_drew K1).out) | (go_split_ands; exact (keptG_next (by assumption) (by assumption)).out))
      (first | ((with_reducible refine (h3.to _).mono ?_); rintro e w3 ⟨rfl, g3⟩))
    have K4 : KeptG w.heap.size (.string dst) (.string src) (.bool true) (.int .i64 vl) (.int .i64 pr) (.int .i64 ty) (.string data) w w3 := by first | assumption | (go_split_ands; assumption) | go_split_ands
    have K4b := K4.1
    go_wp2
    go_ret2
    exact ⟨rfl, K4b⟩
def REncE (dst src : ByteArray) (tg : Bool) (vl pr ty : Int) (data s : ByteArray) (x : Int) : Prop :=
  ∀ w : World, Calls Tryz.prog 21 #[.agg #[.string dst, .string src, .bool tg, .int .i64 vl, .int .i64 pr, .int .i64 ty, .string data]] w fun e w' => e = .returned (.tuple #[.string s, .int .i64 x]) ∧ Below w.heap.size w w'
theorem REncE.to {dst src : ByteArray} {tg : Bool} {vl pr ty : Int} {data s : ByteArray} {x : Int} (h : REncE dst src tg vl pr ty data s x) (w : World) :
  Calls Tryz.prog 21 #[.agg #[.string dst, .string src, .bool tg, .int .i64 vl, .int .i64 pr, .int .i64 ty, .string data]] w fun e w' => e = .returned (.tuple #[.string s, .int .i64 x]) ∧ Below w.heap.size w w' := h w
theorem rence_ok (dst src data : ByteArray) (tg : Bool) (vl pr ty : Nat) (hg : Good3 dst src tg vl pr ty data) : REncE dst src tg vl pr ty data ⟨(Et.enc dst.data.toList src.data.toList tg vl pr ty data.data.toList).toArray⟩ 0 := by
  have hgq := hg
  obtain ⟨k1, k2, k3, k4, k5, k6, k7, k8, k9, k10⟩ := hgq
  have p2 : ROfs ((pr : Int) * 8192 + (vl : Int)) 2 ⟨(Pl.be 2 (pr * 8192 + vl)).toArray⟩ := by
    have h := rofs2 (pr * 8192 + vl) (by omega)
    rw [show ((pr * 8192 + vl : Nat) : Int) = (pr : Int) * 8192 + (vl : Int) from by omega] at h
    exact h
  have p3 : ROfs (ty : Nat) 2 ⟨(Pl.be 2 ty).toArray⟩ := rofs2 ty (by omega)
  intro w
  refine rethenc_in dst src data _ _ _ _ _ _ _ tg vl pr ty hg (by rw [size_mk, Pl.be_length]) (by rw [size_mk, Pl.be_length]) p2 p3 rfl rfl rfl rfl ?_ w
  have hT : Pl.be 2 33024 = [129, 0] := by decide
  apply ba_eq
  cases tg
  · simp [Et.enc, Et.tag]
  · simp [Et.enc, Et.tag, hT]
end Go.Proofs.YticdmepplfgdiaaGreatDoor
end
section
namespace Go.Proofs.YticdmepplfgdiaaGreatDoor
open Go.RowKit
theorem good3_nat2 {dst src data : ByteArray} {tg : Bool} {vl pr ty : Int} (h : Good3 dst src tg vl pr ty data) : ∃ a b c : Nat, vl = a ∧ pr = b ∧ ty = c := by
  unfold Good3 at h
  obtain ⟨a, ha⟩ := Int.eq_ofNat_of_zero_le (show 0 ≤ vl by omega)
  obtain ⟨b, hb⟩ := Int.eq_ofNat_of_zero_le (show 0 ≤ pr by omega)
  obtain ⟨c, hc⟩ := Int.eq_ofNat_of_zero_le (show 0 ≤ ty by omega)
  exact ⟨a, b, c, ha, hb, hc⟩
set_option maxRecDepth 100000 in
theorem encodes_is (dst src data : ByteArray) (tg : Bool) (vl pr ty : Int) (r : Bool) (hz : data.size ≤ 140737488351232) (hr : r = true ↔ Good3 dst src tg vl pr ty data) (w : World) :
    Calls Tryz.prog 172 #[.agg #[.string dst, .string src, .bool tg, .int .i64 vl, .int .i64 pr, .int .i64 ty, .string data]] w fun e w' => e = .returned (.bool r) ∧ Below w.heap.size w w' := by
  by_cases hg : Good3 dst src tg vl pr ty data
  · obtain ⟨a, b, c, rfl, rfl, rfl⟩ := good3_nat2 hg
    have hE := ence_ok dst src data tg a b c hg
    generalize (⟨(Et.enc dst.data.toList src.data.toList tg a b c data.data.toList).toArray⟩ : ByteArray) = s at hE
    have HR := Lib.hid (hr.2 hg)
    clear hg hr hz
    go_enter Tryz.func172, Tryz.ntmps172
    go_wp2_with ((with_reducible refine (hE.to _).mono ?_); rintro e w1 ⟨rfl, g1⟩)
    go_ret
    exact ⟨ret_bool HR.out.symm, bstep (bbox1 _ _) g1⟩
  · have hE := ence_arg dst src data tg vl pr ty (by omega) hg
    have HR := Lib.hid (show r = false by rcases r with _ | _; rfl; exact absurd (hr.1 rfl) hg)
    clear hg hr hz
    go_enter Tryz.func172, Tryz.ntmps172
    go_wp2_with ((with_reducible refine (hE.to _).mono ?_); rintro e w1 ⟨rfl, g1⟩)
    go_ret
    exact ⟨ret_bool HR.out.symm, bstep (bbox1 _ _) g1⟩
end Go.Proofs.YticdmepplfgdiaaGreatDoor
end
