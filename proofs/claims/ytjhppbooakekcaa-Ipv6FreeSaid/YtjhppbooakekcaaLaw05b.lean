/-
  The walks of 'Ipv6Decodes', 'Ipv6Encodes', 'Ipv6Options', 'Ipv6Joined', 'Ipv6Back' and 'Ipv6Short': each returns true and leaves what was there alone. Conditions: a text's length lies within the form's own reach, the numbers are of their kind.
-/
import Derived.Test.YtjhppbooakekcaaLaw05
import Derived.Test.YtjhppbooakekcaaOpV6
namespace Go.Proofs.Ytjhppbooakekcaa
open Go.RowKit

def RDec6 (s : ByteArray) (v : Value) (x : Int) : Prop :=
  ∀ w : World, Calls Try.prog 11 #[.string s] w fun e w' => e = .returned (.tuple #[v, .int .i64 x]) ∧ Below w.heap.size w w'
theorem RDec6.to {s : ByteArray} {v : Value} {x : Int} (h : RDec6 s v x) (w : World) : Calls Try.prog 11 #[.string s] w fun e w' => e = .returned (.tuple #[v, .int .i64 x]) ∧ Below w.heap.size w w' := h w
def REnc6 (h n : Int) (src dst : ByteArray) (f : Bool) (data s : ByteArray) (x : Int) : Prop :=
  ∀ w : World, Calls Try.prog 14 #[.agg #[.int .i64 h, .int .i64 n, .string src, .string dst, .bool f, .string data]] w fun e w' => e = .returned (.tuple #[.string s, .int .i64 x]) ∧ Below w.heap.size w w'
theorem REnc6.to {h n : Int} {src dst : ByteArray} {f : Bool} {data s : ByteArray} {x : Int} (k : REnc6 h n src dst f data s x) (w : World) :
  Calls Try.prog 14 #[.agg #[.int .i64 h, .int .i64 n, .string src, .string dst, .bool f, .string data]] w fun e w' => e = .returned (.tuple #[.string s, .int .i64 x]) ∧ Below w.heap.size w w' := k w

theorem v6case_total (q7 q6 : Int) (src dst data : ByteArray) : ∃ a b x y f z e0, V6Case q7 q6 src dst data (v6 a b x y f z) e0 := by
  by_cases h6 : (q6 != 0) = true
  · exact ⟨_, _, _, _, _, _, _, .inl ⟨h6, rfl, rfl⟩⟩
  · have h6' : (q6 != 0) = false := by simpa using h6
    by_cases hz : data.size < 2
    · exact ⟨0, 0, ⟨#[]⟩, ⟨#[]⟩, false, ⟨#[]⟩, 2, .inr (.inl ⟨h6', hz, rfl, rfl⟩)⟩
    · have hb := bt_at data 1
      have hm := (data.data.toList.getD 1 0).toNat_lt
      by_cases hfit : data.size < 8 + 8 * (data.data.toList.getD 1 0).toNat
      · exact ⟨0, 0, ⟨#[]⟩, ⟨#[]⟩, false, ⟨#[]⟩, 2, .inr (.inr (.inl ⟨_, h6', by omega, hm, hb, hfit, rfl, rfl⟩))⟩
      · rcases hg : Op6.good (data.extract 2 (8 + 8 * (data.data.toList.getD 1 0).toNat)).data.toList with _ | _
        · exact ⟨0, 0, ⟨#[]⟩, ⟨#[]⟩, false, ⟨#[]⟩, 3, .inr (.inr (.inr ⟨_, h6', by omega, hm, hb, by omega, .inl ⟨hg, rfl, rfl⟩⟩))⟩
        · by_cases h0 : PlainAid.bt data 0 = 0
          · exact ⟨0, 0, ⟨#[]⟩, ⟨#[]⟩, false, ⟨#[]⟩, 3, .inr (.inr (.inr ⟨_, h6', by omega, hm, hb, by omega, .inr (.inl ⟨hg, h0, rfl, rfl⟩)⟩))⟩
          · have hn := PlainAid.bt_nonneg data 0
            exact ⟨_, _, _, _, _, _, _, .inr (.inr (.inr ⟨_, h6', by omega, hm, hb, by omega, .inr (.inr ⟨hg, by omega, _, _, rfl, rfl, rfl, rfl⟩)⟩))⟩

theorem both6 (s : ByteArray) (hl : s.size ≤ 140737488351232) : ∃ a b x y f z e0, Dec6 s (v6 a b x y f z) e0 ∧ RDec6 s (v6 a b x y f z) e0 := by
  by_cases hs : s.size < 40
  · exact ⟨0, 0, ⟨#[]⟩, ⟨#[]⟩, false, ⟨#[]⟩, 2, fun w => v6dec_cut s hs w, fun w => rv6dec_cut s hs w⟩
  · have hG : Gets s 4 2 (Pl.num ((s.data.toList.drop 4).take 2) : Nat) 0 := gets_ok s 4 2 (by omega) (by decide) (by decide) (by omega)
    have hR : RAts s 4 2 (Pl.num ((s.data.toList.drop 4).take 2) : Nat) := rats_ok s 4 2 (by omega) (by decide) (by decide) (by omega)
    rcases h0 : (PlainAid.bt s 0 / 16 != 6) with _ | _
    · by_cases hn : s.size < 40 + Pl.num ((s.data.toList.drop 4).take 2)
      · exact ⟨0, 0, ⟨#[]⟩, ⟨#[]⟩, false, ⟨#[]⟩, 2, fun w => v6dec_short s _ (by omega) (by omega) hG h0 hn w, fun w => rv6dec_short s _ (by omega) (by omega) hR h0 hn w⟩
      · obtain ⟨a, b, x, y, f, z, e0, hc⟩ := v6case_total (PlainAid.bt s 7) (PlainAid.bt s 6) (s.extract 8 24) (s.extract 24 40) (s.extract 40 (40 + Pl.num ((s.data.toList.drop 4).take 2)))
        exact ⟨a, b, x, y, f, z, e0, fun w => v6dec_in s _ _ _ _ _ _ _ _ (by omega) (by omega) hG h0 (by omega) rfl rfl rfl rfl rfl hc w, fun w => rv6dec_in s _ _ _ _ _ _ _ _ (by omega) (by omega) hR h0 (by omega) rfl rfl rfl rfl rfl hc w⟩
    · exact ⟨0, 0, ⟨#[]⟩, ⟨#[]⟩, false, ⟨#[]⟩, 3, fun w => v6dec_form s _ (by omega) (by omega) hG h0 w, fun w => rv6dec_form s (by omega) (by omega) h0 w⟩

set_option maxRecDepth 100000 in
set_option maxHeartbeats 1000000 in
theorem v6decodes_walk (s : ByteArray) (hs : s.size ≤ 140737488351232) (w : World) :
    Calls Try.prog 3 #[.string s] w fun e w' => e = .returned (.bool true) ∧ Below w.heap.size w w' := by
  obtain ⟨a, b, x, y, f, z, e0, hD, hR⟩ := both6 s hs
  unfold v6 at hD hR
  have HL := Lib.hid live05
  clear hs
  go_enter Try.func3, Try.ntmps3
  go_wp2_with (first | ((with_reducible refine (hD.to _).mono ?_); rintro e w2 ⟨rfl, g2⟩) | ((with_reducible refine (hR.to _).mono ?_); rintro e w3 ⟨rfl, g3⟩; obtain ⟨y1, c0, c1, c2, c3, c4, c5, cf⟩ := (Box6.new _ _ _ _ _ _ _ _).below g3) | ((with_reducible refine (HL.out _).mono ?_); rintro e w4 ⟨rfl, g4⟩))
  go_ret
  exact ⟨rfl, bstep (ball (bstep (ball g2 _) g3) _) g4⟩

theorem renc6_ok (h n : Nat) (src dst data : ByteArray) (f : Bool) (z1 : src.size = 16) (z2 : dst.size = 16) (z3 : data.size ≤ 65527) (h1 : h ≤ 255) (n0 : 1 ≤ n) (n1 : n ≤ 255) :
    REnc6 h n src dst f data ⟨(V6.enc h n src.data.toList dst.data.toList f data.data.toList).toArray⟩ 0 := by
  intro w
  have lB := V6.body_length n f data.data.toList
  rw [size_toList] at lB
  have lB2 : (V6.body n f data.data.toList).length ≤ 65535 := by rw [lB]; cases f <;> simp <;> omega
  have kZ : ROfs ((⟨(V6.body n f data.data.toList).toArray⟩ : ByteArray).size : Nat) 2 ⟨(Pl.be 2 (V6.body n f data.data.toList).length).toArray⟩ := by
    rw [size_mk]; exact rofs2 _ (by omega)
  have kX : ROfs ((if f then 0 else n : Nat) : Int) 1 ⟨(Pl.be 1 (if f then 0 else n)).toArray⟩ := rofs1 _ (by cases f <;> simp; omega)
  have hm := fun w => rv6may_yes h n src dst data f (by omega) (by omega) (by omega) (by omega) z1 z2 z3 w
  refine rv6enc_in h n _ src dst data _ _ ⟨(V6.body n f data.data.toList).toArray⟩ _ _ _ f z1 z2 z3 (by rw [size_mk, Pl.be_length]) (by rw [size_mk, Pl.be_length]) (by rw [size_mk, Pl.be_length]) (by rw [size_mk, Pl.be_length]) hm (rofs1 n (by omega)) (rofs1 h (by omega)) kZ kX ?_ ?_ w
  · cases f with
    | false => exact .inl ⟨rfl, ba_eq rfl, rfl⟩
    | true =>
      refine .inr ⟨rfl, ?_, rfl⟩
      apply ba_eq
      simp [V6.body]
  · apply ba_eq
    simp [V6.enc, V6.tail]

/-- is there a packet? -/
def Bad6 (h n : Int) (src dst data : ByteArray) : Prop := h < 0 ∨ 255 < h ∨ n < 1 ∨ 255 < n ∨ src.size ≠ 16 ∨ dst.size ≠ 16 ∨ 65527 < data.size

theorem enc6_both (h n : Int) (src dst data : ByteArray) (f : Bool) (hh : h ≤ 9223372036854775807) (hn : n ≤ 9223372036854775807) (z3 : data.size ≤ 140737488351232) : ∃ s e0, Enc6 h n src dst f data s e0 ∧ REnc6 h n src dst f data s e0 := by
  by_cases hb : Bad6 h n src dst data
  · exact ⟨_, _, enc6_arg h n src dst data f hh hn z3 hb, fun w => rv6enc_arg h n src dst data f z3 hb w⟩
  · unfold Bad6 at hb
    obtain ⟨h, rfl⟩ := Int.eq_ofNat_of_zero_le (show 0 ≤ h by omega)
    obtain ⟨n, rfl⟩ := Int.eq_ofNat_of_zero_le (show 0 ≤ n by omega)
    exact ⟨_, _, enc6_ok h n src dst data f (by omega) (by omega) (by omega) (by omega) (by omega) (by omega), renc6_ok h n src dst data f (by omega) (by omega) (by omega) (by omega) (by omega) (by omega)⟩

set_option maxRecDepth 100000 in
set_option maxHeartbeats 1000000 in
theorem v6encodes_walk (h n : Int) (src dst data : ByteArray) (f : Bool) (hh : h ≤ 9223372036854775807) (hn : n ≤ 9223372036854775807) (z3 : data.size ≤ 140737488351232) (w : World) :
    Calls Try.prog 4 #[.agg #[.int .i64 h, .int .i64 n, .string src, .string dst, .bool f, .string data]] w fun e w' => e = .returned (.bool true) ∧ Below w.heap.size w w' := by
  obtain ⟨s, e0, hE, hR⟩ := enc6_both h n src dst data f hh hn z3
  have HL := Lib.hid live05
  clear hh hn z3
  go_enter Try.func4, Try.ntmps4
  go_wp2_with (first | ((with_reducible refine (hE.to _).mono ?_); rintro e w2 ⟨rfl, g2⟩; obtain ⟨y1, c0, c1, c2, c3, c4, c5, cf⟩ := (Box6.new _ _ _ _ _ _ _ _).below g2) | ((with_reducible refine (hR.to _).mono ?_); rintro e w3 ⟨rfl, g3⟩) | ((with_reducible refine (HL.out _).mono ?_); rintro e w4 ⟨rfl, g4⟩))
  go_ret
  exact ⟨rfl, bstep (bstep (bstep (bbox1 _ _) g2) g3) g4⟩

set_option maxRecDepth 100000 in
set_option maxHeartbeats 1000000 in
theorem v6options_walk (s : ByteArray) (hs : s.size ≤ 140737488351232) (w : World) :
    Calls Try.prog 5 #[.string s] w fun e w' => e = .returned (.bool true) ∧ Below w.heap.size w w' := by
  have hO := opts_any s (by omega)
  have hR : ROpts s (Op6.val s.data.toList) (Op6.err s.data.toList) := fun w => roptions_any s (by omega) w
  generalize Op6.val s.data.toList = v at hO hR
  generalize Op6.err s.data.toList = x at hO hR
  have HL := Lib.hid live05
  clear hs
  go_enter Try.func5, Try.ntmps5
  go_wp2_with (first | ((with_reducible refine (hO.to _).mono ?_); rintro e w2 ⟨rfl, g2⟩) | ((with_reducible refine (hR.to _).mono ?_); rintro e w3 ⟨rfl, rfl⟩) | ((with_reducible refine (HL.out _).mono ?_); rintro e w4 ⟨rfl, g4⟩))
  go_ret
  exact ⟨rfl, bstep g2 g4⟩

set_option maxRecDepth 100000 in
set_option maxHeartbeats 1000000 in
theorem v6joined_walk (s t : ByteArray) (hs : s.size ≤ 140737488351232) (ht : t.size ≤ 140737488351232) (w : World) :
    Calls Try.prog 8 #[.string s, .string t] w fun e w' => e = .returned (.bool true) ∧ Below w.heap.size w w' := by
  obtain ⟨u, hu⟩ : ∃ u, u = s ++ t := ⟨_, rfl⟩
  have j1 := join2 s t (by omega)
  rw [← hu] at j1
  have hO := opts_any s (by omega)
  have hP := opts_any t (by omega)
  have hQ := opts_any u (by rw [hu, size_add]; omega)
  have hd : u.data.toList = s.data.toList ++ t.data.toList := by rw [hu, data_add]
  rw [hd] at hQ
  have HL := Lib.hid live05
  clear hs ht hu hd
  rcases hg : Op6.good s.data.toList with _ | _
  · rw [Op6.val_bad hg, Op6.err_bad hg] at hO
    clear hg
    generalize Op6.val (s.data.toList ++ t.data.toList) = v at hQ
    generalize Op6.err (s.data.toList ++ t.data.toList) = x at hQ
    generalize Op6.val t.data.toList = v2 at hP
    generalize Op6.err t.data.toList = x2 at hP
    go_enter Try.func8, Try.ntmps8
    go_wp2_with (first | ((with_reducible refine (hO.to _).mono ?_); rintro e w1 ⟨rfl, g1⟩) | ((with_reducible refine (hP.to _).mono ?_); rintro e w2 ⟨rfl, g2⟩) | ((with_reducible refine (hQ.to _).mono ?_); rintro e w3 ⟨rfl, g3⟩) | ((with_reducible refine (HL.out _).mono ?_); rintro e w4 ⟨rfl, g4⟩))
    go_ret
    exact ⟨rfl, bstep (bstep (bstep g1 g2) g3) g4⟩
  · have hga := Op6.good_append (t := t.data.toList) hg
    have hfa := Op6.found_append (t := t.data.toList) hg
    rw [Op6.val_good hg, Op6.err_good hg] at hO
    rcases hg2 : Op6.good t.data.toList with _ | _
    · rw [hg2] at hga
      rw [Op6.val_bad hg2, Op6.err_bad hg2] at hP
      rw [Op6.val_bad hga, Op6.err_bad hga] at hQ
      generalize Op6.found s.data.toList = v at hO
      clear hg hga hfa hg2
      go_enter Try.func8, Try.ntmps8
      go_wp2_with (first | ((with_reducible refine (hO.to _).mono ?_); rintro e w1 ⟨rfl, g1⟩) | ((with_reducible refine (hP.to _).mono ?_); rintro e w2 ⟨rfl, g2⟩) | ((with_reducible refine (hQ.to _).mono ?_); rintro e w3 ⟨rfl, g3⟩) | ((with_reducible refine (HL.out _).mono ?_); rintro e w4 ⟨rfl, g4⟩))
      go_ret
      exact ⟨rfl, bstep (bstep (bstep g1 g2) g3) g4⟩
    · rw [hg2] at hga
      rw [Op6.val_good hg2, Op6.err_good hg2] at hP
      rw [Op6.val_good hga, Op6.err_good hga, hfa] at hQ
      generalize Op6.found s.data.toList = v at hO hQ
      generalize Op6.found t.data.toList = v2 at hP hQ
      clear hg hga hfa hg2
      rcases v with _ | _ <;> rcases v2 with _ | _
      all_goals
        simp only [Bool.or_false, Bool.or_true] at hQ
        go_enter Try.func8, Try.ntmps8
        go_wp2_with (first | ((with_reducible refine (hO.to _).mono ?_); rintro e w1 ⟨rfl, g1⟩) | ((with_reducible refine (hP.to _).mono ?_); rintro e w2 ⟨rfl, g2⟩) | ((with_reducible refine (hQ.to _).mono ?_); rintro e w3 ⟨rfl, g3⟩) | ((with_reducible refine (HL.out _).mono ?_); rintro e w4 ⟨rfl, g4⟩))
        go_ret
        exact ⟨rfl, bstep (bstep (bstep g1 g2) g3) g4⟩
end Go.Proofs.Ytjhppbooakekcaa
