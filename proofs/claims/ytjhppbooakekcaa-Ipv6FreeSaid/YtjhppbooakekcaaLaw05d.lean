/-
  The walk of 'Ipv6Free': it returns true and leaves what was there alone. Conditions: the numbers are of their kind.
-/
import Derived.Test.YtjhppbooakekcaaLaw05c
import Derived.Test.YtjhppbooakekcaaBa
import Derived.Test.YtjhppbooakekcaaOpArr
namespace Go.Proofs.Ytjhppbooakekcaa
open Go.RowKit

theorem undrew {n : Nat} {W W' : World} (g : Below n W.drew W') : Below n W W' := ⟨g.os, g.tape, g.output, g.size, g.block⟩

section
variable {H : Type} {enc : TypeId × Value → H} {w : World} {base : Nat} {spare : Nat → Bool} {held : Bool}
theorem open_four {r : Reach} {b0 : Nat} {v : Value} {d : DataW H} {q : List MemPlace} (hv : Value.okWide Try.prog w r b0 38 v) (h : DataW.Trod enc Try.prog w base spare held 38 v d q) :
    ∃ m0 m1 m2 m3 : UInt8, v = .agg #[.int .u8 m0.toNat, .int .u8 m1.toNat, .int .u8 m2.toNat, .int .u8 m3.toNat] := by
  obtain ⟨ms, h1, h2⟩ := open_bytes Try.underlying38 Try.underlying5 (by kernel_rfl) (by kernel_rfl) hv h
  match ms, h1 with
  | [m0, m1, m2, m3], _ => exact ⟨m0, m1, m2, m3, h2⟩
end

/-- the two boxes at the head read on as they were laid -/
theorem box64 {W w3 : World} {v0 v1 v2 v3 v4 v5 : Value} {t t2 : TypeId} (m0 m1 m2 m3 : UInt8)
    (g : Below ((W.alloc (.cells #[v0, v1, v2, v3, v4, v5] t)).alloc (.cells #[.int .u8 m0.toNat, .int .u8 m1.toNat, .int .u8 m2.toNat, .int .u8 m3.toNat] t2)).heap.size ((W.alloc (.cells #[v0, v1, v2, v3, v4, v5] t)).alloc (.cells #[.int .u8 m0.toNat, .int .u8 m1.toNat, .int .u8 m2.toNat, .int .u8 m3.toNat] t2)) w3) :
    W.heap.size + 1 < w3.heap.size ∧ Box6 w3 W.heap.size v0 v1 v2 v3 v4 v5 ∧ BytesAt w3 (W.heap.size + 1) [m0, m1, m2, m3] := by
  have hg := g.size
  have hb : BytesAt ((W.alloc (.cells #[v0, v1, v2, v3, v4, v5] t)).alloc (.cells #[.int .u8 m0.toNat, .int .u8 m1.toNat, .int .u8 m2.toNat, .int .u8 m3.toNat] t2)) (W.heap.size + 1) [m0, m1, m2, m3] := by
    intro j hj
    simp only [List.length_cons, List.length_nil] at hj
    have : j = 0 ∨ j = 1 ∨ j = 2 ∨ j = 3 := by omega
    rcases this with rfl | rfl | rfl | rfl <;> constructor <;> simp [go_sem]
  refine ⟨?_, ((Box6.new W v0 v1 v2 v3 v4 v5 t).below (bbox1 _ _)).below g, hb.below g ?_⟩
  · simp at hg; omega
  · simp

/-- a box that is written anew -/
theorem Box6.fill {W : World} {b : Nat} {v0 v1 v2 v3 v4 v5 x0 x1 x2 x3 x4 x5 : Value} (h : Box6 W b v0 v1 v2 v3 v4 v5) :
    Box6 ((((((W.setCell ⟨b, 0, none⟩ x0).setCell ⟨b, 1, none⟩ x1).setCell ⟨b, 2, none⟩ x2).setCell ⟨b, 3, none⟩ x3).setCell ⟨b, 4, none⟩ x4).setCell ⟨b, 5, none⟩ x5) b x0 x1 x2 x3 x4 x5 := by
  obtain ⟨z, c0, c1, c2, c3, c4, c5, cf⟩ := h
  have same : ∀ {W : World} {k : Nat} {u x : Value}, W.cell? ⟨b, k, none⟩ = some u → (W.setCell ⟨b, k, none⟩ x).cell? ⟨b, k, none⟩ = some x := fun h => World.cell?_setCell_same _ _ _ h
  have far : ∀ {W : World} {j k : Nat} {u x : Value}, j ≠ k → W.cell? ⟨b, k, none⟩ = some u → (W.setCell ⟨b, j, none⟩ x).cell? ⟨b, k, none⟩ = some u := fun hn h => (World.cell?_setCell_other _ _ _ _ (by intro e; cases e; exact hn rfl)).trans h
  refine ⟨by simpa using z, ?_, ?_, ?_, ?_, ?_, ?_, fun k => by simpa using cf k⟩
  · exact far (by decide) (far (by decide) (far (by decide) (far (by decide) (far (by decide) (same c0)))))
  · exact far (by decide) (far (by decide) (far (by decide) (far (by decide) (same (far (by decide) c1)))))
  · exact far (by decide) (far (by decide) (far (by decide) (same (far (by decide) (far (by decide) c2)))))
  · exact far (by decide) (far (by decide) (same (far (by decide) (far (by decide) (far (by decide) c3)))))
  · exact far (by decide) (same (far (by decide) (far (by decide) (far (by decide) (far (by decide) c4)))))
  · exact same (far (by decide) (far (by decide) (far (by decide) (far (by decide) (far (by decide) c5)))))

/-- what the walk keeps: the packet, and the four bytes -/
def KeptF (n0 : Nat) (v0 v1 v2 v3 v4 v5 : Value) (l : List UInt8) (w W : World) : Prop := Below n0 w W ∧ n0 + 1 < W.heap.size ∧ Box6 W n0 v0 v1 v2 v3 v4 v5 ∧ BytesAt W (n0 + 1) l
theorem KeptF.out {n0 : Nat} {v0 v1 v2 v3 v4 v5 : Value} {l : List UInt8} {u : ByteArray} {w W : World} (hu : u = ⟨l.toArray⟩ ∧ l.length = 4) (h : KeptF n0 v0 v1 v2 v3 v4 v5 l w W) :
    (convert 39 9 (.slice (some ⟨n0 + 1, 0, none⟩) 4 4)).run Try.prog W = .ok (.string u) W ∧ KeptF n0 v0 v1 v2 v3 v4 v5 l w W :=
  ⟨by rw [hu.1]; exact h.2.2.2.string 4 4 hu.2, h⟩
theorem keptF_put {n0 c o : Nat} {v0 v1 v2 v3 v4 v5 x : Value} {l : List UInt8} {w W : World} (hc : n0 + 1 < c) (h : KeptF n0 v0 v1 v2 v3 v4 v5 l w W) : KeptF n0 v0 v1 v2 v3 v4 v5 l w (W.setCell ⟨c, o, none⟩ x) :=
  ⟨h.1.setCell (by show n0 ≤ c; omega) _, by simpa using h.2.1, h.2.2.1.put (by omega), h.2.2.2.below ((Below.refl c W).setCell (Nat.le_refl _) _) hc⟩
theorem keptF_put6 {n0 c : Nat} {v0 v1 v2 v3 v4 v5 x0 x1 x2 x3 x4 x5 : Value} {l : List UInt8} {w W : World} (hc : n0 + 1 < c) (h : KeptF n0 v0 v1 v2 v3 v4 v5 l w W) :
    KeptF n0 v0 v1 v2 v3 v4 v5 l w ((((((W.setCell ⟨c, 0, none⟩ x0).setCell ⟨c, 1, none⟩ x1).setCell ⟨c, 2, none⟩ x2).setCell ⟨c, 3, none⟩ x3).setCell ⟨c, 4, none⟩ x4).setCell ⟨c, 5, none⟩ x5) :=
  keptF_put hc (keptF_put hc (keptF_put hc (keptF_put hc (keptF_put hc (keptF_put hc h)))))
theorem keptF_next {n0 : Nat} {v0 v1 v2 v3 v4 v5 : Value} {l : List UInt8} {w W W' : World} (g : Below W.heap.size W W') (h : KeptF n0 v0 v1 v2 v3 v4 v5 l w W) : KeptF n0 v0 v1 v2 v3 v4 v5 l w W' :=
  ⟨h.1.trans (g.mono (Nat.le_of_lt (Nat.lt_of_succ_lt h.2.1))), Nat.lt_of_lt_of_le h.2.1 g.size, h.2.2.1.below g, h.2.2.2.below g h.2.1⟩
theorem keptF_drew {n0 : Nat} {v0 v1 v2 v3 v4 v5 : Value} {l : List UInt8} {w W : World} (h : KeptF n0 v0 v1 v2 v3 v4 v5 l w W) : KeptF n0 v0 v1 v2 v3 v4 v5 l w W.drew := ⟨h.1.drew, h.2⟩

set_option maxRecDepth 100000 in
set_option maxHeartbeats 1000000 in
theorem v6free_not (h n : Int) (src dst data : ByteArray) (f : Bool) (m0 m1 m2 m3 : UInt8) (hE : Enc6 h n src dst f data ⟨#[]⟩ 1) (w : World) :
    Calls Try.prog 9 #[.agg #[.int .i64 h, .int .i64 n, .string src, .string dst, .bool f, .string data], .agg #[.int .u8 m0.toNat, .int .u8 m1.toNat, .int .u8 m2.toNat, .int .u8 m3.toNat]] w fun e w' => e = .returned (.bool true) ∧ Below w.heap.size w w' := by
  have HL := Lib.hid live05
  go_enter Try.func9, Try.ntmps9
  go_wp2_with (first | ((with_reducible refine (hE.to _).mono ?_); rintro e w3 ⟨rfl, g3⟩) | ((with_reducible refine (HL.out _).mono ?_); rintro e w4 ⟨rfl, g4⟩))
  go_ret
  exact ⟨rfl, bstep (bstep (ball (bbox1 _ _) _) g3) g4⟩

attribute [local go_sem ↓] Go.wp_at_zero Go.wp_at_succ
set_option maxRecDepth 100000 in
set_option maxHeartbeats 4000000 in
theorem v6free_in (h n : Int) (src dst data s u r x : ByteArray) (f : Bool) (m0 m1 m2 m3 g0 : UInt8) (hE : Enc6 h n src dst f data s 0) (hs : 40 ≤ s.size) (hs2 : s.size ≤ 65575)
    (hg : 96 + (m0.toNat : Int) % 16 = (g0.toNat : Int)) (hu : u = ⟨#[g0, m1, m2, m3]⟩) (hr : s.extract 4 s.size = r) (hx : u ++ r = x) (hF : Dec6 x (v6 h n src dst f data) 0) (w : World) :
    Calls Try.prog 9 #[.agg #[.int .i64 h, .int .i64 n, .string src, .string dst, .bool f, .string data], .agg #[.int .u8 m0.toNat, .int .u8 m1.toNat, .int .u8 m2.toNat, .int .u8 m3.toNat]] w fun e w' => e = .returned (.bool true) ∧ Below w.heap.size w w' := by
  have HL := Lib.hid live05
  have rz : r.size ≤ 65575 := by rw [← hr, ByteArray.size_extract]; omega
  have uz : u.size = 4 := by rw [hu]; rfl
  have j1 := join2 u r (by omega)
  rw [hx] at j1
  have c1 := slice_from s 4 (by omega) 4 rfl
  rw [hr] at c1
  have HU : Hid (u = ⟨[g0, m1, m2, m3].toArray⟩ ∧ [g0, m1, m2, m3].length = 4) := ⟨hu, rfl⟩
  have g0l := g0.toNat_lt
  have m0l := m0.toNat_lt
  have hw : IntKind.u8.wrap (96 + (m0.toNat : Int) % 16) = (g0.toNat : Int) := by rw [hg]; exact IntWalk.u8_in _ ⟨by omega, by omega⟩
  unfold v6 at hF
  clear hu hx rz uz
  go_enter Try.func9, Try.ntmps9
  go_upto_region 5 with ((with_reducible refine (hE.to _).mono ?_); rintro e w3 ⟨rfl, g3⟩; obtain ⟨z3, B3, Y3⟩ := box64 m0 m1 m2 m3 g3; obtain ⟨k1, k2⟩ := Y3 0 (by simp))
  have K0 : KeptF w.heap.size (.int .i64 h) (.int .i64 n) (.string src) (.string dst) (.bool f) (.string data) [g0, m1, m2, m3] w (w3.setCell ⟨w.heap.size + 1, 0, none⟩ (.int .u8 g0.toNat)) :=
    ⟨(bstep (ball (bbox1 _ _) _) g3).setCell (by simp) _, by simpa using z3, B3.put (by omega), Y3.store 0 g0⟩
  clear k1 k2 B3 Y3
  generalize w3.setCell ⟨w.heap.size + 1, 0, none⟩ (.int .u8 g0.toNat) = w4 at K0 ⊢
  have hz4 : w.heap.size + 1 < w4.heap.size := K0.2.1
  go_cut [7, 8] (fun s7 s8 wx => ∃ g : Nat, s7 = .pointer (some ⟨g, 0, none⟩) ∧ s8 = .int .i64 0 ∧ Box6 wx g (.int .i64 h) (.int .i64 n) (.string src) (.string dst) (.bool f) (.string data) ∧ Box6 wx w.heap.size (.int .i64 h) (.int .i64 n) (.string src) (.string dst) (.bool f) (.string data) ∧ Below w.heap.size w wx)
  case first =>
    go_region_held3 (fun w' => (convert 39 9 (.slice (some ⟨w.heap.size + 1, 0, none⟩) 4 4)).run Try.prog w' = .ok (.string u) w' ∧ KeptF w.heap.size (.int .i64 h) (.int .i64 n) (.string src) (.string dst) (.bool f) (.string data) [g0, m1, m2, m3] w w')
      (((with_reducible refine KeptF.out HU.out ?_); first | (with_reducible refine keptF_put6 hz4 ?_; with_reducible exact K5) | (with_reducible exact keptF_drew K0) | (with_reducible exact K5) | (with_reducible exact keptF_next (bbox1 _ _) K5) | (with_reducible exact keptF_drew (keptF_next (bbox1 _ _) K0))))
      (first | ((with_reducible refine (hF.to ((w4.alloc (.cells #[.int .i64 0, .int .i64 0, .string ⟨#[]⟩, .string ⟨#[]⟩, .bool false, .string ⟨#[]⟩] 24)).drew)).mono ?_); rintro e w5 ⟨rfl, g5⟩; obtain ⟨y5, d0, d1, d2, d3, d4, d5, df⟩ := (Box6.new w4 _ _ _ _ _ _ _).below (undrew g5); have K5 := keptF_next (undrew g5) (keptF_next (bbox1 _ _) K0)) | ((with_reducible refine (hF.to w4.drew).mono ?_); rintro e w5 ⟨rfl, g5⟩; have K5 := keptF_next g5 (keptF_drew K0)))
    · go_wp2_with fail
      go_meet
      have K6 := keptF_next (bbox1 w5 (.cells #[.int .i64 h, .int .i64 n, .string src, .string dst, .bool f, .string data] 24)) K5
      exact ⟨w5.heap.size, rfl, rfl, Box6.new w5 _ _ _ _ _ _ _, K6.2.2.1, K6.1⟩
    · go_wp2_with fail
      go_meet
      have K6 := keptF_put6 (x0 := .int .i64 h) (x1 := .int .i64 n) (x2 := .string src) (x3 := .string dst) (x4 := .bool f) (x5 := .string data) hz4 K5
      have B7 : Box6 w5 w4.heap.size _ _ _ _ _ _ := ⟨y5, d0, d1, d2, d3, d4, d5, df⟩
      exact ⟨w4.heap.size, rfl, rfl, B7.fill, K6.2.2.1, K6.1⟩
  case rest =>
    obtain ⟨g, rfl, rfl, B5, B6, b5⟩ := hcut
    obtain ⟨y5, d0, d1, d2, d3, d4, d5, df⟩ := B5
    obtain ⟨y6, e0, e1, e2, e3, e4, e5, ef⟩ := B6
    go_wp2_with ((with_reducible refine (HL.out _).mono ?_); rintro e w6 ⟨rfl, g6⟩)
    go_ret
    exact ⟨rfl, b5.trans (g6.mono (by have := b5.size; omega))⟩

theorem v6free_walk (h n : Int) (src dst data : ByteArray) (f : Bool) (m0 m1 m2 m3 : UInt8) (hh : h ≤ 9223372036854775807) (hn : n ≤ 9223372036854775807) (z3 : data.size ≤ 140737488351232) (w : World) :
    Calls Try.prog 9 #[.agg #[.int .i64 h, .int .i64 n, .string src, .string dst, .bool f, .string data], .agg #[.int .u8 m0.toNat, .int .u8 m1.toNat, .int .u8 m2.toNat, .int .u8 m3.toNat]] w fun e w' => e = .returned (.bool true) ∧ Below w.heap.size w w' := by
  by_cases hb : Bad6 h n src dst data
  · exact v6free_not h n src dst data f m0 m1 m2 m3 (enc6_arg h n src dst data f hh hn z3 hb) w
  · unfold Bad6 at hb
    obtain ⟨h, rfl⟩ := Int.eq_ofNat_of_zero_le (show 0 ≤ h by omega)
    obtain ⟨n, rfl⟩ := Int.eq_ofNat_of_zero_le (show 0 ≤ n by omega)
    have hz := enc6_size h n src dst data f (by omega) (by omega) (by omega)
    have hm := m0.toNat_lt
    have hg : (UInt8.ofNat (96 + m0.toNat % 16)).toNat = 96 + m0.toNat % 16 := by rw [UInt8.toNat_ofNat', Nat.mod_eq_of_lt (by omega)]
    have hx : ((⟨#[UInt8.ofNat (96 + m0.toNat % 16), m1, m2, m3]⟩ : ByteArray) ++ (⟨(V6.enc h n src.data.toList dst.data.toList f data.data.toList).toArray⟩ : ByteArray).extract 4 (⟨(V6.enc h n src.data.toList dst.data.toList f data.data.toList).toArray⟩ : ByteArray).size).data.toList =
        [UInt8.ofNat (96 + m0.toNat % 16), m1, m2, m3] ++ V6.tail h n src.data.toList dst.data.toList f data.data.toList ++ [] := by
      rw [data_add, data_extract, List.append_nil]
      have e : (V6.enc h n src.data.toList dst.data.toList f data.data.toList).drop 4 = V6.tail h n src.data.toList dst.data.toList f data.data.toList := rfl
      show _ ++ ((V6.enc h n src.data.toList dst.data.toList f data.data.toList).drop 4).take _ = _
      rw [List.take_of_length_le (by rw [List.length_drop, size_mk]; omega), e]
    refine v6free_in h n src dst data _ _ _ _ f m0 m1 m2 m3 (UInt8.ofNat (96 + m0.toNat % 16)) (enc6_ok h n src dst data f (by omega) (by omega) (by omega) (by omega) (by omega) (by omega)) hz.1 hz.2 ?_ rfl rfl rfl
      (dec6_enc _ src dst data h n f _ m1 m2 m3 [] ?_ (by omega) (by omega) (by omega) (by omega) (by omega) (by omega) hx ?_) w
    · rw [hg]; omega
    · rw [hg]; omega
    · rw [size_add, ByteArray.size_extract]
      show 4 + _ ≤ _
      omega
end Go.Proofs.Ytjhppbooakekcaa
