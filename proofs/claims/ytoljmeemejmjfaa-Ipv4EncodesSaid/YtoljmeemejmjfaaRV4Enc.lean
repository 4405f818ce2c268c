/-
  What the document's own May and Encode (siphonref04) compute. Conditions: those of each case.
-/
import Derived.Test.YtoljmeemejmjfaaV4Enc
import Derived.Test.YtoljmeemejmjfaaRAt
import Derived.Test.YtoljmeemejmjfaaRFill
namespace Go.Proofs.Ytoljmeemejmjfaa
open Go.RowKit

/-- which packets may be -/
def Good4 (id ttl pr : Int) (src dst opts data : ByteArray) : Prop :=
  0 ≤ id ∧ id ≤ 65535 ∧ 0 ≤ ttl ∧ ttl ≤ 255 ∧ 0 ≤ pr ∧ pr ≤ 255 ∧ src.size = 4 ∧ dst.size = 4 ∧ opts.size ≤ 40 ∧ opts.size % 4 = 0 ∧ (data.size : Int) ≤ 65515 - (opts.size : Int)

/-- a packet's box while Encode works -/
def KB7 (n0 : Nat) (v0 v1 v2 v3 v4 v5 v6 : Value) (w W : World) : Prop := Below n0 w W ∧ Box7 W n0 v0 v1 v2 v3 v4 v5 v6
section
variable {n0 : Nat} {v0 v1 v2 v3 v4 v5 v6 : Value} {w W W' : World}
theorem KB7.next (h : KB7 n0 v0 v1 v2 v3 v4 v5 v6 w W) (g : Below W.heap.size W W') : KB7 n0 v0 v1 v2 v3 v4 v5 v6 w W' := ⟨h.1.trans (g.mono (Nat.le_of_lt h.2.1)), h.2.below g⟩
theorem KB7.drew (h : KB7 n0 v0 v1 v2 v3 v4 v5 v6 w W) : KB7 n0 v0 v1 v2 v3 v4 v5 v6 w W.drew := ⟨h.1.drew, h.2⟩
theorem KB7.out (h : KB7 n0 v0 v1 v2 v3 v4 v5 v6 w W) : W.cell? ⟨n0, 0, none⟩ = some v0 ∧ W.cell? ⟨n0, 1, none⟩ = some v1 ∧ W.cell? ⟨n0, 2, none⟩ = some v2 ∧ W.cell? ⟨n0, 3, none⟩ = some v3 ∧ W.cell? ⟨n0, 4, none⟩ = some v4 ∧ W.cell? ⟨n0, 5, none⟩ = some v5 ∧ W.cell? ⟨n0, 6, none⟩ = some v6 ∧ KB7 n0 v0 v1 v2 v3 v4 v5 v6 w W := by
  have hh := h
  obtain ⟨k1, z, c0, c1, c2, c3, c4, c5, c6, cf⟩ := h
  exact ⟨c0, c1, c2, c3, c4, c5, c6, hh⟩
theorem KB7.step (g : Below W.heap.size W W') (h : KB7 n0 v0 v1 v2 v3 v4 v5 v6 w W) : W'.cell? ⟨n0, 0, none⟩ = some v0 ∧ W'.cell? ⟨n0, 1, none⟩ = some v1 ∧ W'.cell? ⟨n0, 2, none⟩ = some v2 ∧ W'.cell? ⟨n0, 3, none⟩ = some v3 ∧ W'.cell? ⟨n0, 4, none⟩ = some v4 ∧ W'.cell? ⟨n0, 5, none⟩ = some v5 ∧ W'.cell? ⟨n0, 6, none⟩ = some v6 ∧ KB7 n0 v0 v1 v2 v3 v4 v5 v6 w W' := (h.next g).out
theorem KB7.begin (h : KB7 n0 v0 v1 v2 v3 v4 v5 v6 w W) : W.drew.cell? ⟨n0, 0, none⟩ = some v0 ∧ W.drew.cell? ⟨n0, 1, none⟩ = some v1 ∧ W.drew.cell? ⟨n0, 2, none⟩ = some v2 ∧ W.drew.cell? ⟨n0, 3, none⟩ = some v3 ∧ W.drew.cell? ⟨n0, 4, none⟩ = some v4 ∧ W.drew.cell? ⟨n0, 5, none⟩ = some v5 ∧ W.drew.cell? ⟨n0, 6, none⟩ = some v6 ∧ KB7 n0 v0 v1 v2 v3 v4 v5 v6 w W.drew := h.drew.out
end

set_option maxRecDepth 100000 in
set_option maxHeartbeats 8000000 in
theorem rmay4_is (id ttl pr : Int) (src dst opts data : ByteArray) (r : Bool) (_hz : data.size ≤ 140737488351232) (ho : opts.size ≤ 140737488351232) (hr : r = true ↔ Good4 id ttl pr src dst opts data) (w : World) :
    Calls Try.prog 24 #[.agg #[.int .i64 id, .int .i64 ttl, .int .i64 pr, .string src, .string dst, .string opts, .string data]] w fun e w' => e = .returned (.bool r) ∧ Below w.heap.size w w' := by
  obtain ⟨b1, e1⟩ : ∃ b, b = decide (id < 0) := ⟨_, rfl⟩
  obtain ⟨b2, e2⟩ : ∃ b, b = decide (65535 < id) := ⟨_, rfl⟩
  obtain ⟨b3, e3⟩ : ∃ b, b = decide (ttl < 0) := ⟨_, rfl⟩
  obtain ⟨b4, e4⟩ : ∃ b, b = decide (255 < ttl) := ⟨_, rfl⟩
  obtain ⟨b5, e5⟩ : ∃ b, b = decide (pr < 0) := ⟨_, rfl⟩
  obtain ⟨b6, e6⟩ : ∃ b, b = decide (255 < pr) := ⟨_, rfl⟩
  obtain ⟨b7, e7⟩ : ∃ b, b = ((src.size : Int) != 4) := ⟨_, rfl⟩
  obtain ⟨b8, e8⟩ : ∃ b, b = ((dst.size : Int) != 4) := ⟨_, rfl⟩
  obtain ⟨b9, e9⟩ : ∃ b, b = decide ((opts.size : Int) ≤ 40) := ⟨_, rfl⟩
  obtain ⟨b10, e10⟩ : ∃ b, b = ((opts.size : Int) % 4 == 0) := ⟨_, rfl⟩
  obtain ⟨b11, e11⟩ : ∃ b, b = decide ((data.size : Int) ≤ 65515 - (opts.size : Int)) := ⟨_, rfl⟩
  have hR : r = (!b1 && (!b2 && (!b3 && (!b4 && (!b5 && (!b6 && (!b7 && (!b8 && (b9 && (b10 && b11)))))))))) := by
    rw [Bool.eq_iff_iff, hr, e1, e2, e3, e4, e5, e6, e7, e8, e9, e10, e11]
    simp only [Good4, Bool.and_eq_true, Bool.not_eq_true', decide_eq_false_iff_not, decide_eq_true_eq, beq_iff_eq, bne_eq_false_iff_eq]
    omega
  have HR := Lib.hid hR
  have f1 := e1.symm
  have f2 := e2.symm
  have f3 := e3.symm
  have f4 := e4.symm
  have f5 := e5.symm
  have f6 := e6.symm
  have f7 := e7.symm
  have f8 := e8.symm
  have f9 := e9.symm
  have f10 := e10.symm
  have f11 := e11.symm
  have f10' : ((opts.size : Int).tmod 4 == 0) = b10 := by rw [Int.tmod_eq_emod_of_nonneg (by omega)]; exact f10
  have wr : IntKind.i64.wrap (65515 - (opts.size : Int)) = 65515 - (opts.size : Int) := IntWalk.i64_in _ ⟨by omega, by omega⟩
  clear hR hr ho e1 e2 e3 e4 e5 e6 e7 e8 e9 e10 e11
  rcases b1 with _ | _
  · have tok1 : True := trivial
    rcases b2 with _ | _
    · have tok2 : True := trivial
      rcases b3 with _ | _
      · have tok3 : True := trivial
        rcases b4 with _ | _
        · have tok4 : True := trivial
          rcases b5 with _ | _
          · have tok5 : True := trivial
            rcases b6 with _ | _
            · have tok6 : True := trivial
              rcases b7 with _ | _
              · have tok7 : True := trivial
                rcases b8 with _ | _
                · have tok8 : True := trivial
                  rcases b9 with _ | _
                  · go_enter Try.func24, Try.ntmps24
                    go_wp2
                    go_ret
                    exact ⟨by rw [HR.out]; rfl, bbox1 _ _⟩
                  · have tok9 : True := trivial
                    rcases b10 with _ | _
                    · go_enter Try.func24, Try.ntmps24
                      go_wp2
                      go_ret
                      exact ⟨by rw [HR.out]; rfl, bbox1 _ _⟩
                    · have tok10 : True := trivial
                      rcases b11 with _ | _
                      · go_enter Try.func24, Try.ntmps24
                        go_wp2
                        go_ret
                        exact ⟨by rw [HR.out]; rfl, bbox1 _ _⟩
                      · go_enter Try.func24, Try.ntmps24
                        go_wp2
                        go_ret
                        exact ⟨by rw [HR.out]; rfl, bbox1 _ _⟩
                · go_enter Try.func24, Try.ntmps24
                  go_wp2
                  go_ret
                  exact ⟨by rw [HR.out]; rfl, bbox1 _ _⟩
              · go_enter Try.func24, Try.ntmps24
                go_wp2
                go_ret
                exact ⟨by rw [HR.out]; rfl, bbox1 _ _⟩
            · go_enter Try.func24, Try.ntmps24
              go_wp2
              go_ret
              exact ⟨by rw [HR.out]; rfl, bbox1 _ _⟩
          · go_enter Try.func24, Try.ntmps24
            go_wp2
            go_ret
            exact ⟨by rw [HR.out]; rfl, bbox1 _ _⟩
        · go_enter Try.func24, Try.ntmps24
          go_wp2
          go_ret
          exact ⟨by rw [HR.out]; rfl, bbox1 _ _⟩
      · go_enter Try.func24, Try.ntmps24
        go_wp2
        go_ret
        exact ⟨by rw [HR.out]; rfl, bbox1 _ _⟩
    · go_enter Try.func24, Try.ntmps24
      go_wp2
      go_ret
      exact ⟨by rw [HR.out]; rfl, bbox1 _ _⟩
  · go_enter Try.func24, Try.ntmps24
    go_wp2
    go_ret
    exact ⟨by rw [HR.out]; rfl, bbox1 _ _⟩

set_option maxRecDepth 100000 in
set_option maxHeartbeats 1000000 in
theorem rv4enc_arg (id ttl pr : Int) (src dst opts data : ByteArray) (hz : data.size ≤ 140737488351232) (ho : opts.size ≤ 140737488351232) (hnot : ¬ Good4 id ttl pr src dst opts data) (w : World) :
    Calls Try.prog 14 #[.agg #[.int .i64 id, .int .i64 ttl, .int .i64 pr, .string src, .string dst, .string opts, .string data]] w fun e w' => e = .returned (.tuple #[.string ⟨#[]⟩, .int .i64 1]) ∧ Below w.heap.size w w' := by
  have hm := fun w => rmay4_is id ttl pr src dst opts data false hz ho (Iff.intro (fun h => absurd h (by decide)) (fun h => absurd h hnot)) w
  clear hnot
  go_enter Try.func14, Try.ntmps14
  go_wp2_with ((with_reducible refine (hm _).mono ?_); rintro e w1 ⟨rfl, g1⟩)
  go_ret2
  exact ⟨rfl, bstep (bbox1 _ _) g1⟩

def RFills (p s : ByteArray) (a : Int) (v : ByteArray) (x : Int) : Prop :=
  ∀ w : World, Calls Try.prog 17 #[.string p, .string s, .int .i64 a] w fun e w' => e = .returned (.tuple #[.string v, .int .i64 x]) ∧ Below w.heap.size w w'
theorem RFills.to {p s : ByteArray} {a : Int} {v : ByteArray} {x : Int} (h : RFills p s a v x) (w : World) : Calls Try.prog 17 #[.string p, .string s, .int .i64 a] w fun e w' => e = .returned (.tuple #[.string v, .int .i64 x]) ∧ Below w.heap.size w w' := h w

theorem rv4_nums (q d : Nat) (q16 : q ≤ 10) (hd : (d : Int) ≤ 65535) : IntKind.i64.wrap (4 * (5 + (q : Int)) + (d : Int)) = 4 * (5 + (q : Int)) + (d : Int) ∧ wrap64 (q : Int) = (q : Int) ∧ wrap64 (5 + (q : Int)) = 5 + (q : Int) ∧
    IntKind.i64.wrap (64 + (5 + (q : Int))) = 64 + (5 + (q : Int)) ∧ IntKind.i64.wrap (4 * (5 + (q : Int))) = 4 * (5 + (q : Int)) :=
  ⟨IntWalk.i64_in _ ⟨by omega, by omega⟩, IntWalk.wrap64_in _ ⟨by omega, by omega⟩, IntWalk.wrap64_in _ ⟨by omega, by omega⟩, IntWalk.i64_in _ ⟨by omega, by omega⟩, IntWalk.i64_in _ ⟨by omega, by omega⟩⟩

attribute [local go_sem ↓] Go.wp_at_zero Go.wp_at_succ
set_option maxRecDepth 100000 in
set_option maxHeartbeats 4000000 in
theorem rv4enc_in (id ttl pr : Int) (src dst opts data x1 x3 x4 x6 x7 u res : ByteArray) (q : Nat) (hg : Good4 id ttl pr src dst opts data) (hq : q = opts.size / 4) (h1 : ROfs (64 + (5 + (q : Int))) 1 x1) (h3 : ROfs (4 * (5 + (q : Int)) + (data.size : Int)) 2 x3) (h4 : ROfs id 2 x4) (h6 : ROfs ttl 1 x6) (h7 : ROfs pr 1 x7)
    (s1 : x1.size ≤ 4) (s3 : x3.size ≤ 4) (s4 : x4.size ≤ 4) (s6 : x6.size ≤ 4) (s7 : x7.size ≤ 4)
    (hu : x1 ++ ⟨#[0]⟩ ++ x3 ++ x4 ++ ⟨#[0, 0]⟩ ++ x6 ++ x7 ++ ⟨#[0, 0]⟩ ++ src ++ dst ++ opts = u) (hz : 20 ≤ u.size) (hres : Cs.filled ⟨#[]⟩ u 10 ++ data = res) (w : World) :
    Calls Try.prog 14 #[.agg #[.int .i64 id, .int .i64 ttl, .int .i64 pr, .string src, .string dst, .string opts, .string data]] w fun e w' => e = .returned (.tuple #[.string res, .int .i64 0]) ∧ Below w.heap.size w w' := by
  have hgq := hg
  obtain ⟨k1, k2, k3, k4, k5, k6, k7, k8, k9, k10, k11⟩ := hgq
  clear k1 k2 k3 k4 k5 k6
  have hd : data.size ≤ 65535 := by omega
  have hm := fun w => rmay4_is id ttl pr src dst opts data true (Nat.le_trans hd (by decide)) (Nat.le_trans k9 (by decide)) (Iff.intro (fun _ => hg) (fun _ => rfl)) w
  have DS := Lib.hid hd
  clear hd hg
  clear k10
  have q16 : q ≤ 10 := by omega
  have kd : (data.size : Int) ≤ 65535 := by omega
  have hdiv : (opts.size : Int) / 4 = (q : Int) := by omega
  have htdiv : (opts.size : Int).tdiv 4 = (q : Int) := by rw [Int.tdiv_eq_ediv_of_nonneg (by omega)]; exact hdiv
  have HD := Lib.hid (And.intro (And.intro hdiv htdiv) (rv4_nums q data.size q16 kd))
  clear hdiv htdiv hq k11 kd
  obtain ⟨y1, e1⟩ : ∃ y : ByteArray, x1 ++ ⟨#[0]⟩ = y := ⟨_, rfl⟩
  have t1 : y1.size ≤ 5 := by rw [← e1, size_add]; show _ + 1 ≤ 5; omega
  have j1 := join2 x1 ⟨#[0]⟩ (by show _ + 1 ≤ _; omega)
  rw [e1] at hu j1
  obtain ⟨y2, e2⟩ : ∃ y : ByteArray, y1 ++ x3 = y := ⟨_, rfl⟩
  have t2 : y2.size ≤ 9 := by rw [← e2, size_add]; omega
  have j2 := join2 y1 x3 (by omega)
  rw [e2] at hu j2
  obtain ⟨y3, e3⟩ : ∃ y : ByteArray, y2 ++ x4 = y := ⟨_, rfl⟩
  have t3 : y3.size ≤ 13 := by rw [← e3, size_add]; omega
  have j3 := join2 y2 x4 (by omega)
  rw [e3] at hu j3
  obtain ⟨y4, e4⟩ : ∃ y : ByteArray, y3 ++ ⟨#[0, 0]⟩ = y := ⟨_, rfl⟩
  have t4 : y4.size ≤ 15 := by rw [← e4, size_add]; show _ + 2 ≤ 15; omega
  have j4 := join2 y3 ⟨#[0, 0]⟩ (by show _ + 2 ≤ _; omega)
  rw [e4] at hu j4
  obtain ⟨y5, e5⟩ : ∃ y : ByteArray, y4 ++ x6 = y := ⟨_, rfl⟩
  have t5 : y5.size ≤ 19 := by rw [← e5, size_add]; omega
  have j5 := join2 y4 x6 (by omega)
  rw [e5] at hu j5
  obtain ⟨y6, e6⟩ : ∃ y : ByteArray, y5 ++ x7 = y := ⟨_, rfl⟩
  have t6 : y6.size ≤ 23 := by rw [← e6, size_add]; omega
  have j6 := join2 y5 x7 (by omega)
  rw [e6] at hu j6
  obtain ⟨y7, e7⟩ : ∃ y : ByteArray, y6 ++ ⟨#[0, 0]⟩ = y := ⟨_, rfl⟩
  have t7 : y7.size ≤ 25 := by rw [← e7, size_add]; show _ + 2 ≤ 25; omega
  have j7 := join2 y6 ⟨#[0, 0]⟩ (by show _ + 2 ≤ _; omega)
  rw [e7] at hu j7
  obtain ⟨y8, e8⟩ : ∃ y : ByteArray, y7 ++ src = y := ⟨_, rfl⟩
  have t8 : y8.size ≤ 29 := by rw [← e8, size_add]; omega
  have j8 := join2 y7 src (by omega)
  rw [e8] at hu j8
  obtain ⟨y9, e9⟩ : ∃ y : ByteArray, y8 ++ dst = y := ⟨_, rfl⟩
  have t9 : y9.size ≤ 33 := by rw [← e9, size_add]; omega
  have j9 := join2 y8 dst (by omega)
  rw [e9] at hu j9
  have t10 : u.size ≤ 73 := by rw [← hu, size_add]; exact Nat.add_le_add t9 k9
  have j10 := join2 y9 opts (Nat.le_trans (Nat.add_le_add t9 k9) (by decide))
  rw [hu] at j10
  obtain ⟨f, ef⟩ : ∃ f, Cs.filled ⟨#[]⟩ u 10 = f := ⟨_, rfl⟩
  have tf : f.size = u.size := by rw [← ef]; exact Cs.filled_size _ _ _ (by omega)
  have hF : RFills ⟨#[]⟩ u 10 f 0 := fun w => by rw [← ef]; exact rfill_ok ⟨#[]⟩ u 10 (by decide) (by omega) (by omega) (by decide) (by decide) w
  have j11 := join2 f data (Nat.le_trans (Nat.add_le_add (Nat.le_trans (Nat.le_of_eq tf) t10) DS.out) (by decide))
  rw [ef] at hres
  rw [hres] at j11
  obtain ⟨⟨hdiv, htdiv⟩, wr1, wq, wq5, wq6, wq7⟩ := HD.out
  clear HD DS tf ef hres hz hu t1 t2 t3 t4 t5 t6 t7 t8 t9 t10 e1 e2 e3 e4 e5 e6 e7 e8 e9 s1 s3 s4 s6 s7 k7 k8 k9 q16
  go_enter Try.func14, Try.ntmps14
  go_wp2_with ((with_reducible refine (hm _).mono ?_); rintro e w1 ⟨rfl, g1⟩; obtain ⟨y1, c0, c1, c2, c3, c4, c5, c6, cf⟩ := (Box7.new _ _ _ _ _ _ _ _ _).below g1)
  have K1 : KB7 w.heap.size _ _ _ _ _ _ _ w w1 := ⟨bstep (bbox1 _ _) g1, (Box7.new _ _ _ _ _ _ _ _ _).below g1⟩
  clear c0 c1 c2 c3 c4 c5 c6 cf
  go_region_held3 (fun w' => w'.cell? ⟨w.heap.size, 0, none⟩ = some (.int .i64 id) ∧ w'.cell? ⟨w.heap.size, 1, none⟩ = some (.int .i64 ttl) ∧ w'.cell? ⟨w.heap.size, 2, none⟩ = some (.int .i64 pr) ∧ w'.cell? ⟨w.heap.size, 3, none⟩ = some (.string src) ∧ w'.cell? ⟨w.heap.size, 4, none⟩ = some (.string dst) ∧ w'.cell? ⟨w.heap.size, 5, none⟩ = some (.string opts) ∧ w'.cell? ⟨w.heap.size, 6, none⟩ = some (.string data) ∧ KB7 w.heap.size (.int .i64 id) (.int .i64 ttl) (.int .i64 pr) (.string src) (.string dst) (.string opts) (.string data) w w')
    (first | (with_reducible exact KB7.begin K1) | (go_split_ands; exact KB7.step (by assumption) (by assumption)))
    (first | ((with_reducible refine (h1.to _).mono ?_); rintro e w2 ⟨rfl, g2⟩) | ((with_reducible refine (h3.to _).mono ?_); rintro e w3 ⟨rfl, g3⟩) | ((with_reducible refine (h4.to _).mono ?_); rintro e w4 ⟨rfl, g4⟩) | ((with_reducible refine (h6.to _).mono ?_); rintro e w5 ⟨rfl, g5⟩) | ((with_reducible refine (h7.to _).mono ?_); rintro e w6 ⟨rfl, g6⟩))
  have K6 : KB7 w.heap.size (.int .i64 id) (.int .i64 ttl) (.int .i64 pr) (.string src) (.string dst) (.string opts) (.string data) w w6 := by first | assumption | (go_split_ands; assumption) | go_split_ands
  go_wp2_with ((with_reducible refine (hF.to _).mono ?_); rintro e w7 ⟨rfl, g7⟩; have K7 := KB7.step g7 K6; obtain ⟨-, -, -, -, -, -, d6, K8⟩ := K7)
  go_ret2
  exact ⟨rfl, K8.1⟩

def REnc4 (id ttl pr : Int) (src dst opts data s : ByteArray) (x : Int) : Prop :=
  ∀ w : World, Calls Try.prog 14 #[.agg #[.int .i64 id, .int .i64 ttl, .int .i64 pr, .string src, .string dst, .string opts, .string data]] w fun e w' => e = .returned (.tuple #[.string s, .int .i64 x]) ∧ Below w.heap.size w w'
theorem REnc4.to {id ttl pr : Int} {src dst opts data s : ByteArray} {x : Int} (h : REnc4 id ttl pr src dst opts data s x) (w : World) :
  Calls Try.prog 14 #[.agg #[.int .i64 id, .int .i64 ttl, .int .i64 pr, .string src, .string dst, .string opts, .string data]] w fun e w' => e = .returned (.tuple #[.string s, .int .i64 x]) ∧ Below w.heap.size w w' := h w
end Go.Proofs.Ytoljmeemejmjfaa
