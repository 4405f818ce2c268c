/-
  igmp.long: what a query of version 3 has more. Conditions: the bytes are such a query's.
-/
import Derived.BigRegion
import Derived.Test.YticdmepplfgdiaaGreatDoorQ40
set_option linter.unusedVariables false
set_option linter.unusedSimpArgs false
namespace Go.Proofs.YticdmepplfgdiaaGreatDoor
open Go.RowKit
theorem four_of {g : ByteArray} (h : g.size = 4) : ∃ a b c d, g.data.toList = [a, b, c, d] := by
  have hl := size_toList g
  rw [h] at hl
  rcases e : g.data.toList with _ | ⟨a, _ | ⟨b, _ | ⟨c, _ | ⟨d, _ | ⟨z, r⟩⟩⟩⟩⟩
  · rw [e] at hl; simp at hl
  · rw [e] at hl; simp at hl
  · rw [e] at hl; simp at hl
  · rw [e] at hl; simp at hl
  · exact ⟨a, b, c, d, rfl⟩
  · rw [e] at hl; simp at hl
/-- the byte of quiet and robust -/
def flq (q : Bool) (ro : Nat) : Nat := ro + if q then 8 else 0
/-- a long query's bytes -/
def LongB (c : Nat) (x y : UInt8) (g4 : ByteArray) (q : Bool) (ro d : Nat) (ss : List ByteArray) : List UInt8 :=
  [17, UInt8.ofNat c, x, y] ++ g4.data.toList ++ [UInt8.ofNat (flq q ro)] ++ [UInt8.ofNat d] ++ Pl.be 2 ss.length ++ cat ss
theorem flq_bits (q : Bool) (ro : Nat) (h : ro ≤ 7) : flq q ro ≤ 15 ∧ bits .and .u8 (flq q ro : Int) 7 = (ro : Int) ∧ (bits .and .u8 (flq q ro : Int) 8 != 0) = q := by
  have hd : ∀ k : Fin 8, ∀ q : Bool, flq q k.val ≤ 15 ∧ bits .and .u8 (flq q k.val : Int) 7 = (k.val : Int) ∧ (bits .and .u8 (flq q k.val : Int) 8 != 0) = q := by decide
  exact hd ⟨ro, by omega⟩ q
set_option maxRecDepth 100000 in
set_option maxHeartbeats 4000000 in
theorem long_v3 (s g4 g : ByteArray) (c d ro : Nat) (q : Bool) (x y : UInt8) (ss : List ByteArray) (v0 m0 : Int) (mb : Nat) (hg4 : g4.size = 4) (hc : c ≤ 255) (hd : d ≤ 255) (hro : ro ≤ 7) (hn60 : ss.length ≤ 60) (h4 : ∀ x, x ∈ ss → x.size = 4) (hs : s.data.toList = LongB c x y g4 q ro d ss) (w : World)
    (hM : Bx w mb [.int .i64 1, .int .i64 v0, .string g, .int .i64 m0, .bool false, .int .i64 0, .int .i64 0, .slice none 0 0, .slice none 0 0]) :
    Calls Tryz.prog 150 #[.pointer (some ⟨mb, 0, none⟩), .string s] w fun e w' => ∃ a k, e = .returned (.int .i64 0) ∧ Bx w' mb [.int .i64 1, .int .i64 3, .string g, .int .i64 (D8 c), .bool q, .int .i64 ro, .int .i64 (D8 d), .slice a ss.length k, .slice none 0 0] ∧ Own4 w.heap.size w' (.slice a ss.length k) ss ∧ Below mb w w' := by
  obtain ⟨ga, gb, gc, gd, eg⟩ := four_of hg4
  have hs2 : s.data.toList = [17, UInt8.ofNat c, x, y, ga, gb, gc, gd, UInt8.ofNat (flq q ro), UInt8.ofNat d] ++ (Pl.be 2 ss.length ++ cat ss) := by
    rw [hs]; unfold LongB; rw [eg]; simp
  have hcl := cat_len4 _ h4
  have hsz : s.size = 12 + ss.length * 4 := by
    rw [← size_toList, hs2, List.length_append, List.length_append, hcl, Pl.be_length]
    show 10 + (2 + _) = _
    omega
  obtain ⟨f1, f2, f3⟩ := flq_bits q ro hro
  have hb1 : PlainAid.bt s 1 = (c : Int) := by
    rw [bt_at, hs2]
    show (((UInt8.ofNat c).toNat : Nat) : Int) = _
    rw [UInt8.toNat_ofNat', Nat.mod_eq_of_lt (by omega)]
  have hb8 : PlainAid.bt s 8 = (flq q ro : Int) := by
    rw [bt_at, hs2]
    show (((UInt8.ofNat (flq q ro)).toNat : Nat) : Int) = _
    rw [UInt8.toNat_ofNat', Nat.mod_eq_of_lt (by omega)]
  have hb9 : PlainAid.bt s 9 = (d : Int) := by
    rw [bt_at, hs2]
    show (((UInt8.ofNat d).toNat : Nat) : Int) = _
    rw [UInt8.toNat_ofNat', Nat.mod_eq_of_lt (by omega)]
  have hbt := PlainAid.get_bt s
  have HGt := Lib.hid (fun (W : World) => (show Calls Tryz.prog 71 #[.string s, .int .i64 10, .int .i64 2] W fun e w' => e = .returned (.tuple #[.int .i64 (ss.length : Int), .int .i64 0]) ∧ Below W.heap.size W w' by
    have h := (gets_ok s 10 2 (by omega) (by decide) (by decide) (by omega)).to W
    have e : Pl.num ((s.data.toList.drop 10).take 2) = ss.length := by
      rw [hs2, List.drop_left' (by rfl), List.take_left' (Pl.be_length _ _), Pl.num_be_of_lt (by omega)]
    rw [e] at h
    exact h))
  have e12 : (s.data.toList.drop 12).take (ss.length * 4) = cat ss := by
    rw [hs2, ← List.append_assoc, List.drop_left' (by rw [List.length_append, Pl.be_length]; rfl), List.take_of_length_le (by omega)]
  have HA := Lib.hid (fun (W : World) => show Calls Tryz.prog 214 #[.string s, .int .i64 12, .int .i64 (ss.length : Int), .int .i64 4] W fun e w' => ∃ a c, e = .returned (.tuple #[.slice a ss.length c, .int .i64 0]) ∧ Own4 W.heap.size w' (.slice a ss.length c) ss ∧ Below W.heap.size W w' from addrs_4 s 12 ss.length ss rfl hn60 h4 (by omega) (by omega) e12 W)
  have HDc := Lib.hid (fun W => dec8_is c (by omega) W)
  have HDd := Lib.hid (fun W => dec8_is d (by omega) W)
  obtain ⟨X, hX⟩ : ∃ X : Int, X = (D8 c : Int) := ⟨_, rfl⟩
  obtain ⟨D, hD⟩ : ∃ X : Int, X = (D8 d : Int) := ⟨_, rfl⟩
  rw [← hX] at HDc ⊢
  rw [← hD] at HDd ⊢
  clear hX hD
  have hzi : (s.size : Int) = 12 + (ss.length : Int) * 4 := by omega
  have h60i : (ss.length : Int) ≤ 60 := by omega
  have hwc : wrap64 (c : Int) = (c : Int) := IntWalk.wrap64_in _ ⟨by omega, by omega⟩
  have hwd : wrap64 (d : Int) = (d : Int) := IntWalk.wrap64_in _ ⟨by omega, by omega⟩
  have hwr : wrap64 (ro : Int) = (ro : Int) := IntWalk.wrap64_in _ ⟨by omega, by omega⟩
  have M1 := Lib.hid (hM.set (i := 1) (x := .int .i64 3) (by simp))
  have B1 := Lib.hid (show Below mb w (w.setCell ⟨mb, 1, none⟩ (.int .i64 3)) from (Below.refl _ _).setCell (p := ⟨mb, 1, none⟩) (Nat.le_refl _) _)
  have hmw := hM.1
  have z1 : (w.setCell ⟨mb, 1, none⟩ (.int .i64 3)).heap.size = w.heap.size := by simp [World.setCell]
  have c1 := hM.get 1 _ rfl
  have cf := hM.fz
  clear hs hs2 hcl e12 h4 hM hsz
  go_enter Tryz.func150, Tryz.ntmps150
  go_upto_region 4 with fail
  obtain ⟨w1, hw1⟩ : ∃ x, x = w.setCell ⟨mb, 1, none⟩ (.int .i64 3) := ⟨_, rfl⟩
  rw [← hw1] at M1 B1 z1 ⊢
  clear hw1 c1 cf
  have s1 := z1
  have c3 := M1.out.get 3 _ rfl
  have cf := M1.out.fz
  go_upto_region 5 with (go_at_call 209; (with_reducible refine (HDc.out _).mono ?_); rintro e w2 ⟨rfl, g2⟩; have M2 := Lib.hid (M1.out.below g2); have B2 := Lib.hid (B1.out.trans (g2.mono (by omega))); have s2 := g2.size; clear g2 c3 cf; have c3 := M2.out.get 3 _ rfl; have cf := M2.out.fz)
  have M3 := Lib.hid (M2.out.set (i := 3) (x := .int .i64 X) (by simp))
  have B3 := Lib.hid (B2.out.setCell (p := ⟨mb, 3, none⟩) (Nat.le_refl _) (.int .i64 X))
  have z3 : (w2.setCell ⟨mb, 3, none⟩ (.int .i64 X)).heap.size = w2.heap.size := by simp [World.setCell]
  generalize w2.setCell ⟨mb, 3, none⟩ (.int .i64 X) = w3 at M3 B3 z3 ⊢
  clear c3 cf M2 B2
  have c4 := M3.out.get 4 _ rfl
  have c5 := M3.out.get 5 _ rfl
  have cf := M3.out.fz
  go_cut [] (fun wx => Bx wx mb [.int .i64 1, .int .i64 3, .string g, .int .i64 X, .bool q, .int .i64 ro, .int .i64 0, .slice none 0 0, .slice none 0 0] ∧ Below mb w wx ∧ w.heap.size ≤ wx.heap.size)
  case first =>
    go_region
    all_goals
      go_wp2
      go_meet
      exact ⟨((M3.out.set (i := 4) (x := .bool q) (by simp)).set (i := 5) (x := .int .i64 ro) (by simp)).drew, ((B3.out.setCell (p := ⟨mb, 4, none⟩) (Nat.le_refl _) (.bool q)).setCell (p := ⟨mb, 5, none⟩) (Nat.le_refl _) (.int .i64 ro)).drew, by simp [World.setCell]; omega⟩
  case rest =>
    obtain ⟨hM5, hB5, s5⟩ := hcut
    rename World => w5
    have M5 := Lib.hid hM5
    have B5 := Lib.hid hB5
    clear hM5 hB5 c4 c5 cf M1 B1 M3 B3
    have c6 := M5.out.get 6 _ rfl
    have cf := M5.out.fz
    go_upto_region 7 with (go_at_call 209; (with_reducible refine (HDd.out _).mono ?_); rintro e w6 ⟨rfl, g6⟩; have M6 := Lib.hid (M5.out.below g6); have B6 := Lib.hid (B5.out.trans (g6.mono (by omega))); have s6 := g6.size; clear g6 c6 cf; have c6 := M6.out.get 6 _ rfl; have cf := M6.out.fz)
    have M7 := Lib.hid (M6.out.set (i := 6) (x := .int .i64 D) (by simp))
    have B7 := Lib.hid (B6.out.setCell (p := ⟨mb, 6, none⟩) (Nat.le_refl _) (.int .i64 D))
    have z7 : (w6.setCell ⟨mb, 6, none⟩ (.int .i64 D)).heap.size = w6.heap.size := by simp [World.setCell]
    generalize w6.setCell ⟨mb, 6, none⟩ (.int .i64 D) = w7 at M7 B7 z7 ⊢
    clear c6 cf M6 B6 M5 B5
    go_upto_region 8 with (go_at_call 71; (with_reducible refine (HGt.out _).mono ?_); rintro e w8 ⟨rfl, g8⟩; have M8 := Lib.hid (M7.out.below g8); have B8 := Lib.hid (B7.out.trans (g8.mono (by omega))); have s8 := g8.size; clear g8)
    go_upto_region 10 with fail
    go_upto_region 11 with (go_at_call 214; (with_reducible refine (HA.out _).mono ?_); rintro e w9 ⟨a, k, rfl, hO, g9⟩; have M9 := Lib.hid (M8.out.below g9); have B9 := Lib.hid (B8.out.trans (g9.mono (by omega))); have O9 := Lib.hid hO; have s9 := g9.size; clear g9 hO; have c7 := M9.out.get 7 _ rfl; have cf := M9.out.fz)
    go_wp2
    go_ret
    exact ⟨a, k, rfl, M9.out.set (i := 7) (by simp), (O9.out.put (p := ⟨mb, 7, none⟩) (by show mb < _; omega) _).low (by omega), B9.out.setCell (p := ⟨mb, 7, none⟩) (Nat.le_refl _) _⟩
end Go.Proofs.YticdmepplfgdiaaGreatDoor
