/-
  igmp.asks of long queries. Conditions: the bytes are such a query's; the group is one, or none and no sources. igmp: what is encoded is decoded. Conditions: those of Encode's own cases.
-/
import Derived.Test.YticdmepplfgdiaaGreatDoorQ47
import Derived.Test.YticdmepplfgdiaaGreatDoorQ40
set_option linter.unusedVariables false
set_option linter.unusedSimpArgs false
section
namespace Go.Proofs.YticdmepplfgdiaaGreatDoor
open Go.RowKit
set_option maxRecDepth 100000 in
set_option maxHeartbeats 4000000 in
theorem askl_e1 (s : ByteArray) (d ro : Nat) (q : Bool) (x y : UInt8) (hd : d ≤ 255) (hro : ro ≤ 7) (hs : s.data.toList = LongB 0 x y ⟨#[0, 0, 0, 0]⟩ q ro d []) (w : World) :
    Calls Tryz.prog 73 #[.string s] w fun e w' => ∃ a k, e = .returned (.tuple #[.agg #[.int .i64 1, .int .i64 3, .string ⟨#[]⟩, .int .i64 (D8 0), .bool q, .int .i64 ro, .int .i64 (D8 d), .slice a 0 k, .slice none 0 0], .int .i64 0]) ∧ Own4 w.heap.size w' (.slice a 0 k) [] ∧ Below w.heap.size w w' := by
  have hg4 : (⟨#[0, 0, 0, 0]⟩ : ByteArray).size = 4 := rfl
  obtain ⟨rest, hs2⟩ : ∃ r, s.data.toList = [17, UInt8.ofNat 0, x, y] ++ ((⟨#[0, 0, 0, 0]⟩ : ByteArray).data.toList ++ ([UInt8.ofNat (flq q ro)] ++ ([UInt8.ofNat d] ++ (Pl.be 2 0 ++ r)))) := ⟨cat [], by rw [hs]; unfold LongB; simp only [List.append_assoc]; rfl⟩
  have hsz : 12 ≤ s.size := by rw [← size_toList, hs2, List.length_append, List.length_append, List.length_append, List.length_append, List.length_append, Pl.be_length, size_toList, hg4]; show 12 ≤ 4 + (4 + (1 + (1 + (2 + _)))); omega
  have e1 : s.extract 4 8 = ⟨#[0, 0, 0, 0]⟩ := by
    apply ba_eq
    rw [data_extract, hs2, List.drop_left' (show ([17, UInt8.ofNat 0, x, y] : List UInt8).length = 4 from rfl), List.take_left' (by rw [size_toList, hg4])]
  have k1 := slice_mid s 4 8 (by decide) (by omega) 4 8 rfl rfl
  rw [e1] at k1
  have hb1 : PlainAid.bt s 1 = 0 := by rw [bt_at, hs2]; exact rfl
  have hbt := PlainAid.get_bt s
  have hzi : 12 ≤ (s.size : Int) := by omega
  have HLo := Lib.hid (fun (W : World) (mb : Nat) (hM : Bx W mb [.int .i64 1, .int .i64 1, .string ⟨#[]⟩, .int .i64 0, .bool false, .int .i64 0, .int .i64 0, .slice none 0 0, .slice none 0 0]) => long_v3 s ⟨#[0, 0, 0, 0]⟩ ⟨#[]⟩ 0 d ro q x y [] 1 0 mb hg4 (by decide) hd hro (by decide) (by intro x hx; cases hx) hs W hM)
  obtain ⟨X, hX⟩ : ∃ X : Int, X = (D8 0 : Int) := ⟨_, rfl⟩
  obtain ⟨D, hD⟩ : ∃ X : Int, X = (D8 d : Int) := ⟨_, rfl⟩
  rw [← hX, ← hD] at HLo
  rw [← hX, ← hD]
  clear hX hD
  have RB := Lib.hid (Bx.new w [.int .i64 0, .int .i64 0, .string ⟨#[]⟩, .int .i64 0, .bool false, .int .i64 0, .int .i64 0, .slice none 0 0, .slice none 0 0] 53)
  have G0 := Lib.hid (bbox1 w (.cells #[.int .i64 0, .int .i64 0, .string ⟨#[]⟩, .int .i64 0, .bool false, .int .i64 0, .int .i64 0, .slice none 0 0, .slice none 0 0] 53))
  clear hs hs2 e1 hsz hg4
  go_enter Tryz.func73, Tryz.ntmps73
  go_upto_region 1 with fail
  obtain ⟨rb, hrb⟩ : ∃ x, w.heap.size = x := ⟨_, rfl⟩
  change Code.wp _ _ _ _ (w.alloc (.cells #[.int .i64 0, .int .i64 0, .string ⟨#[]⟩, .int .i64 0, .bool false, .int .i64 0, .int .i64 0, .slice none 0 0, .slice none 0 0] 53))
  generalize w.alloc (.cells #[.int .i64 0, .int .i64 0, .string ⟨#[]⟩, .int .i64 0, .bool false, .int .i64 0, .int .i64 0, .slice none 0 0, .slice none 0 0] 53) = w1 at RB G0 ⊢
  have RB1 := Lib.hid (show Bx w1 rb [.int .i64 0, .int .i64 0, .string ⟨#[]⟩, .int .i64 0, .bool false, .int .i64 0, .int .i64 0, .slice none 0 0, .slice none 0 0] by rw [← hrb]; exact RB.out)
  have HRB := Lib.hid hrb
  rw [hrb]
  clear RB hrb
  go_cut [4] (fun s4 wx => ∃ mb, s4 = .pointer (some ⟨mb, 0, none⟩) ∧ w1.heap.size ≤ mb ∧ Bx wx mb [.int .i64 1, .int .i64 1, .string ⟨#[0, 0, 0, 0]⟩, .int .i64 0, .bool false, .int .i64 0, .int .i64 0, .slice none 0 0, .slice none 0 0] ∧ Below w1.heap.size w1 wx)
  case first =>
    go_region
    all_goals
      go_wp2
      go_meet
      exact ⟨_, rfl, Nat.le_refl _, (Bx.new w1 [.int .i64 1, .int .i64 1, .string ⟨#[0, 0, 0, 0]⟩, .int .i64 0, .bool false, .int .i64 0, .int .i64 0, .slice none 0 0, .slice none 0 0] 53).drew, (bbox1 w1 _).drew⟩
  case rest =>
    obtain ⟨mb, rfl, hmb, hM, hE⟩ := hcut
    rename World => w2
    have M2 := Lib.hid hM
    have E2 := Lib.hid hE
    have R2 := Lib.hid (RB1.out.below hE)
    have s2 := hE.size
    have s1 := G0.out.size
    have hr1 := RB1.out.1
    clear hM hE
    have c1 := M2.out.get 1 _ rfl
    have c2 := M2.out.get 2 _ rfl
    have c3 := M2.out.get 3 _ rfl
    have cf := M2.out.fz
    go_upto_region 6 with fail
    have M3 := Lib.hid (show Bx (w2.setCell ⟨mb, 2, none⟩ (.string ⟨#[]⟩)) mb [.int .i64 1, .int .i64 1, .string ⟨#[]⟩, .int .i64 0, .bool false, .int .i64 0, .int .i64 0, .slice none 0 0, .slice none 0 0] from (M2.out.set (i := 2) (x := .string ⟨#[]⟩) (by simp)))
    have E3 := Lib.hid (show Below w1.heap.size w1 (w2.setCell ⟨mb, 2, none⟩ (.string ⟨#[]⟩)) from (E2.out.setCell (p := ⟨mb, 2, none⟩) hmb (.string ⟨#[]⟩)))
    have R3 := Lib.hid (show Bx (w2.setCell ⟨mb, 2, none⟩ (.string ⟨#[]⟩)) rb [.int .i64 0, .int .i64 0, .string ⟨#[]⟩, .int .i64 0, .bool false, .int .i64 0, .int .i64 0, .slice none 0 0, .slice none 0 0] from (R2.out.put (c := mb) (o := 2) (x := .string ⟨#[]⟩) (by omega)))
    generalize (w2.setCell ⟨mb, 2, none⟩ (.string ⟨#[]⟩)) = w3 at M3 E3 R3 ⊢
    have s3 := E3.out.size
    clear c1 c2 c3 cf M2 E2 R2
    have HL3 := Lib.hid (HLo.out w3 mb M3.out)
    go_wp2_with (go_at_call 150; (with_reducible refine HL3.out.mono ?_); rintro e w4 ⟨a, k, rfl, hM4, hO4, g4⟩; have M4 := Lib.hid hM4; have O4 := Lib.hid hO4; have R4 := Lib.hid (R3.out.under g4 (show rb < mb by omega)); have E4 := Lib.hid (E3.out.trans (g4.mono hmb)); have s4 := E4.out.size; clear hM4 hO4 g4; have c0 := M4.out.get 0 _ rfl; have c1 := M4.out.get 1 _ rfl; have c2 := M4.out.get 2 _ rfl; have c3 := M4.out.get 3 _ rfl; have c4 := M4.out.get 4 _ rfl; have c5 := M4.out.get 5 _ rfl; have c6 := M4.out.get 6 _ rfl; have c7 := M4.out.get 7 _ rfl; have c8 := M4.out.get 8 _ rfl; have d0 := R4.out.get 0 _ rfl; have d1 := R4.out.get 1 _ rfl; have d2 := R4.out.get 2 _ rfl; have d3 := R4.out.get 3 _ rfl; have d4 := R4.out.get 4 _ rfl; have d5 := R4.out.get 5 _ rfl; have d6 := R4.out.get 6 _ rfl; have d7 := R4.out.get 7 _ rfl; have d8 := R4.out.get 8 _ rfl; have df := R4.out.fz)
    refine bodyPost_ret (v := .tuple #[.agg #[.int .i64 1, .int .i64 3, .string ⟨#[]⟩, .int .i64 X, .bool q, .int .i64 ro, .int .i64 D, .slice a 0 k, .slice none 0 0], .int .i64 0]) (by simp [results, Tryz.results73, go_sem, d0, d1, d2, d3, d4, d5, d6, d7, d8]) rfl ⟨a, k, rfl, ?_, ?_⟩
    · have hq : rb < w3.heap.size := by omega
      exact (((((((((O4.out.put (p := ⟨rb, 0, none⟩) hq _).put (p := ⟨rb, 1, none⟩) hq _).put (p := ⟨rb, 2, none⟩) hq _).put (p := ⟨rb, 3, none⟩) hq _).put (p := ⟨rb, 4, none⟩) hq _).put (p := ⟨rb, 5, none⟩) hq _).put (p := ⟨rb, 6, none⟩) hq _).put (p := ⟨rb, 7, none⟩) hq _).put (p := ⟨rb, 8, none⟩) hq _).low (by have := HRB.out; omega)
    · have hwb : w.heap.size ≤ rb := by have := HRB.out; omega
      have G4 := G0.out.trans (E4.out.mono s1)
      exact (((((((((G4.setCell (p := ⟨rb, 0, none⟩) hwb _).setCell (p := ⟨rb, 1, none⟩) hwb _).setCell (p := ⟨rb, 2, none⟩) hwb _).setCell (p := ⟨rb, 3, none⟩) hwb _).setCell (p := ⟨rb, 4, none⟩) hwb _).setCell (p := ⟨rb, 5, none⟩) hwb _).setCell (p := ⟨rb, 6, none⟩) hwb _).setCell (p := ⟨rb, 7, none⟩) hwb _).setCell (p := ⟨rb, 8, none⟩) hwb _)
set_option maxRecDepth 100000 in
set_option maxHeartbeats 4000000 in
theorem askl_e2 (s : ByteArray) (c : Nat) (d ro : Nat) (q : Bool) (x y : UInt8) (hc0 : c ≠ 0) (hc : c ≤ 255) (hd : d ≤ 255) (hro : ro ≤ 7) (hs : s.data.toList = LongB c x y ⟨#[0, 0, 0, 0]⟩ q ro d []) (w : World) :
    Calls Tryz.prog 73 #[.string s] w fun e w' => ∃ a k, e = .returned (.tuple #[.agg #[.int .i64 1, .int .i64 3, .string ⟨#[]⟩, .int .i64 (D8 c), .bool q, .int .i64 ro, .int .i64 (D8 d), .slice a 0 k, .slice none 0 0], .int .i64 0]) ∧ Own4 w.heap.size w' (.slice a 0 k) [] ∧ Below w.heap.size w w' := by
  have hg4 : (⟨#[0, 0, 0, 0]⟩ : ByteArray).size = 4 := rfl
  obtain ⟨rest, hs2⟩ : ∃ r, s.data.toList = [17, UInt8.ofNat c, x, y] ++ ((⟨#[0, 0, 0, 0]⟩ : ByteArray).data.toList ++ ([UInt8.ofNat (flq q ro)] ++ ([UInt8.ofNat d] ++ (Pl.be 2 0 ++ r)))) := ⟨cat [], by rw [hs]; unfold LongB; simp only [List.append_assoc]; rfl⟩
  have hsz : 12 ≤ s.size := by rw [← size_toList, hs2, List.length_append, List.length_append, List.length_append, List.length_append, List.length_append, Pl.be_length, size_toList, hg4]; show 12 ≤ 4 + (4 + (1 + (1 + (2 + _)))); omega
  have e1 : s.extract 4 8 = ⟨#[0, 0, 0, 0]⟩ := by
    apply ba_eq
    rw [data_extract, hs2, List.drop_left' (show ([17, UInt8.ofNat c, x, y] : List UInt8).length = 4 from rfl), List.take_left' (by rw [size_toList, hg4])]
  have k1 := slice_mid s 4 8 (by decide) (by omega) 4 8 rfl rfl
  rw [e1] at k1
  have hcb : ((UInt8.ofNat c).toNat : Int) = (c : Int) := by rw [UInt8.toNat_ofNat', Nat.mod_eq_of_lt (by omega)]
  have hb1 : PlainAid.bt s 1 = (c : Int) := by rw [bt_at, hs2]; exact hcb
  have hbt := PlainAid.get_bt s
  have hzi : 12 ≤ (s.size : Int) := by omega
  have hwc : wrap64 (c : Int) = (c : Int) := IntWalk.wrap64_in _ ⟨by omega, by omega⟩
  have hcne : ((c : Int) != 0) = true := by rw [bne_iff_ne]; omega
  have HLo := Lib.hid (fun (W : World) (mb : Nat) (hM : Bx W mb [.int .i64 1, .int .i64 2, .string ⟨#[]⟩, .int .i64 c, .bool false, .int .i64 0, .int .i64 0, .slice none 0 0, .slice none 0 0]) => long_v3 s ⟨#[0, 0, 0, 0]⟩ ⟨#[]⟩ c d ro q x y [] 2 c mb hg4 (by omega) hd hro (by decide) (by intro x hx; cases hx) hs W hM)
  obtain ⟨X, hX⟩ : ∃ X : Int, X = (D8 c : Int) := ⟨_, rfl⟩
  obtain ⟨D, hD⟩ : ∃ X : Int, X = (D8 d : Int) := ⟨_, rfl⟩
  rw [← hX, ← hD] at HLo
  rw [← hX, ← hD]
  clear hX hD
  have RB := Lib.hid (Bx.new w [.int .i64 0, .int .i64 0, .string ⟨#[]⟩, .int .i64 0, .bool false, .int .i64 0, .int .i64 0, .slice none 0 0, .slice none 0 0] 53)
  have G0 := Lib.hid (bbox1 w (.cells #[.int .i64 0, .int .i64 0, .string ⟨#[]⟩, .int .i64 0, .bool false, .int .i64 0, .int .i64 0, .slice none 0 0, .slice none 0 0] 53))
  clear hs hs2 e1 hsz hg4 hcb
  go_enter Tryz.func73, Tryz.ntmps73
  go_upto_region 1 with fail
  obtain ⟨rb, hrb⟩ : ∃ x, w.heap.size = x := ⟨_, rfl⟩
  change Code.wp _ _ _ _ (w.alloc (.cells #[.int .i64 0, .int .i64 0, .string ⟨#[]⟩, .int .i64 0, .bool false, .int .i64 0, .int .i64 0, .slice none 0 0, .slice none 0 0] 53))
  generalize w.alloc (.cells #[.int .i64 0, .int .i64 0, .string ⟨#[]⟩, .int .i64 0, .bool false, .int .i64 0, .int .i64 0, .slice none 0 0, .slice none 0 0] 53) = w1 at RB G0 ⊢
  have RB1 := Lib.hid (show Bx w1 rb [.int .i64 0, .int .i64 0, .string ⟨#[]⟩, .int .i64 0, .bool false, .int .i64 0, .int .i64 0, .slice none 0 0, .slice none 0 0] by rw [← hrb]; exact RB.out)
  have HRB := Lib.hid hrb
  rw [hrb]
  clear RB hrb
  go_cut [4] (fun s4 wx => ∃ mb, s4 = .pointer (some ⟨mb, 0, none⟩) ∧ w1.heap.size ≤ mb ∧ Bx wx mb [.int .i64 1, .int .i64 1, .string ⟨#[0, 0, 0, 0]⟩, .int .i64 c, .bool false, .int .i64 0, .int .i64 0, .slice none 0 0, .slice none 0 0] ∧ Below w1.heap.size w1 wx)
  case first =>
    go_region
    all_goals
      go_wp2
      go_meet
      exact ⟨_, rfl, Nat.le_refl _, (Bx.new w1 [.int .i64 1, .int .i64 1, .string ⟨#[0, 0, 0, 0]⟩, .int .i64 c, .bool false, .int .i64 0, .int .i64 0, .slice none 0 0, .slice none 0 0] 53).drew, (bbox1 w1 _).drew⟩
  case rest =>
    obtain ⟨mb, rfl, hmb, hM, hE⟩ := hcut
    rename World => w2
    have M2 := Lib.hid hM
    have E2 := Lib.hid hE
    have R2 := Lib.hid (RB1.out.below hE)
    have s2 := hE.size
    have s1 := G0.out.size
    have hr1 := RB1.out.1
    clear hM hE
    have c1 := M2.out.get 1 _ rfl
    have c2 := M2.out.get 2 _ rfl
    have c3 := M2.out.get 3 _ rfl
    have cf := M2.out.fz
    go_upto_region 6 with fail
    have M3 := Lib.hid (show Bx ((w2.setCell ⟨mb, 2, none⟩ (.string ⟨#[]⟩)).setCell ⟨mb, 1, none⟩ (.int .i64 2)) mb [.int .i64 1, .int .i64 2, .string ⟨#[]⟩, .int .i64 c, .bool false, .int .i64 0, .int .i64 0, .slice none 0 0, .slice none 0 0] from ((M2.out.set (i := 2) (x := .string ⟨#[]⟩) (by simp)).set (i := 1) (x := .int .i64 2) (by simp)))
    have E3 := Lib.hid (show Below w1.heap.size w1 ((w2.setCell ⟨mb, 2, none⟩ (.string ⟨#[]⟩)).setCell ⟨mb, 1, none⟩ (.int .i64 2)) from ((E2.out.setCell (p := ⟨mb, 2, none⟩) hmb (.string ⟨#[]⟩)).setCell (p := ⟨mb, 1, none⟩) hmb (.int .i64 2)))
    have R3 := Lib.hid (show Bx ((w2.setCell ⟨mb, 2, none⟩ (.string ⟨#[]⟩)).setCell ⟨mb, 1, none⟩ (.int .i64 2)) rb [.int .i64 0, .int .i64 0, .string ⟨#[]⟩, .int .i64 0, .bool false, .int .i64 0, .int .i64 0, .slice none 0 0, .slice none 0 0] from ((R2.out.put (c := mb) (o := 2) (x := .string ⟨#[]⟩) (by omega)).put (c := mb) (o := 1) (x := .int .i64 2) (by omega)))
    generalize ((w2.setCell ⟨mb, 2, none⟩ (.string ⟨#[]⟩)).setCell ⟨mb, 1, none⟩ (.int .i64 2)) = w3 at M3 E3 R3 ⊢
    have s3 := E3.out.size
    clear c1 c2 c3 cf M2 E2 R2
    have HL3 := Lib.hid (HLo.out w3 mb M3.out)
    go_wp2_with (go_at_call 150; (with_reducible refine HL3.out.mono ?_); rintro e w4 ⟨a, k, rfl, hM4, hO4, g4⟩; have M4 := Lib.hid hM4; have O4 := Lib.hid hO4; have R4 := Lib.hid (R3.out.under g4 (show rb < mb by omega)); have E4 := Lib.hid (E3.out.trans (g4.mono hmb)); have s4 := E4.out.size; clear hM4 hO4 g4; have c0 := M4.out.get 0 _ rfl; have c1 := M4.out.get 1 _ rfl; have c2 := M4.out.get 2 _ rfl; have c3 := M4.out.get 3 _ rfl; have c4 := M4.out.get 4 _ rfl; have c5 := M4.out.get 5 _ rfl; have c6 := M4.out.get 6 _ rfl; have c7 := M4.out.get 7 _ rfl; have c8 := M4.out.get 8 _ rfl; have d0 := R4.out.get 0 _ rfl; have d1 := R4.out.get 1 _ rfl; have d2 := R4.out.get 2 _ rfl; have d3 := R4.out.get 3 _ rfl; have d4 := R4.out.get 4 _ rfl; have d5 := R4.out.get 5 _ rfl; have d6 := R4.out.get 6 _ rfl; have d7 := R4.out.get 7 _ rfl; have d8 := R4.out.get 8 _ rfl; have df := R4.out.fz)
    refine bodyPost_ret (v := .tuple #[.agg #[.int .i64 1, .int .i64 3, .string ⟨#[]⟩, .int .i64 X, .bool q, .int .i64 ro, .int .i64 D, .slice a 0 k, .slice none 0 0], .int .i64 0]) (by simp [results, Tryz.results73, go_sem, d0, d1, d2, d3, d4, d5, d6, d7, d8]) rfl ⟨a, k, rfl, ?_, ?_⟩
    · have hq : rb < w3.heap.size := by omega
      exact (((((((((O4.out.put (p := ⟨rb, 0, none⟩) hq _).put (p := ⟨rb, 1, none⟩) hq _).put (p := ⟨rb, 2, none⟩) hq _).put (p := ⟨rb, 3, none⟩) hq _).put (p := ⟨rb, 4, none⟩) hq _).put (p := ⟨rb, 5, none⟩) hq _).put (p := ⟨rb, 6, none⟩) hq _).put (p := ⟨rb, 7, none⟩) hq _).put (p := ⟨rb, 8, none⟩) hq _).low (by have := HRB.out; omega)
    · have hwb : w.heap.size ≤ rb := by have := HRB.out; omega
      have G4 := G0.out.trans (E4.out.mono s1)
      exact (((((((((G4.setCell (p := ⟨rb, 0, none⟩) hwb _).setCell (p := ⟨rb, 1, none⟩) hwb _).setCell (p := ⟨rb, 2, none⟩) hwb _).setCell (p := ⟨rb, 3, none⟩) hwb _).setCell (p := ⟨rb, 4, none⟩) hwb _).setCell (p := ⟨rb, 5, none⟩) hwb _).setCell (p := ⟨rb, 6, none⟩) hwb _).setCell (p := ⟨rb, 7, none⟩) hwb _).setCell (p := ⟨rb, 8, none⟩) hwb _)
set_option maxRecDepth 100000 in
set_option maxHeartbeats 4000000 in
theorem askl_g1 (s group : ByteArray) (d ro : Nat) (q : Bool) (x y : UInt8) (ss : List ByteArray) (hn60 : ss.length ≤ 60) (h4 : ∀ x, x ∈ ss → x.size = 4) (hd : d ≤ 255) (hro : ro ≤ 7) (hg : grp4 group = true) (hs : s.data.toList = LongB 0 x y group q ro d ss) (w : World) :
    Calls Tryz.prog 73 #[.string s] w fun e w' => ∃ a k, e = .returned (.tuple #[.agg #[.int .i64 1, .int .i64 3, .string group, .int .i64 (D8 0), .bool q, .int .i64 ro, .int .i64 (D8 d), .slice a ss.length k, .slice none 0 0], .int .i64 0]) ∧ Own4 w.heap.size w' (.slice a ss.length k) ss ∧ Below w.heap.size w w' := by
  have hgz := grp4_size hg
  have hg4 : (group : ByteArray).size = 4 := hgz
  obtain ⟨rest, hs2⟩ : ∃ r, s.data.toList = [17, UInt8.ofNat 0, x, y] ++ ((group : ByteArray).data.toList ++ ([UInt8.ofNat (flq q ro)] ++ ([UInt8.ofNat d] ++ (Pl.be 2 ss.length ++ r)))) := ⟨cat ss, by rw [hs]; unfold LongB; simp only [List.append_assoc]⟩
  have hsz : 12 ≤ s.size := by rw [← size_toList, hs2, List.length_append, List.length_append, List.length_append, List.length_append, List.length_append, Pl.be_length, size_toList, hg4]; show 12 ≤ 4 + (4 + (1 + (1 + (2 + _)))); omega
  have e1 : s.extract 4 8 = group := by
    apply ba_eq
    rw [data_extract, hs2, List.drop_left' (show ([17, UInt8.ofNat 0, x, y] : List UInt8).length = 4 from rfl), List.take_left' (by rw [size_toList, hg4])]
  have k1 := slice_mid s 4 8 (by decide) (by omega) 4 8 rfl rfl
  rw [e1] at k1
  have hb1 : PlainAid.bt s 1 = 0 := by rw [bt_at, hs2]; exact rfl
  have hbt := PlainAid.get_bt s
  have hzi : 12 ≤ (s.size : Int) := by omega
  have hgt := grp4_ne hg
  have hge := grp4_some hg
  have HLo := Lib.hid (fun (W : World) (mb : Nat) (hM : Bx W mb [.int .i64 1, .int .i64 1, .string group, .int .i64 0, .bool false, .int .i64 0, .int .i64 0, .slice none 0 0, .slice none 0 0]) => long_v3 s group group 0 d ro q x y ss 1 0 mb hg4 (by decide) hd hro (by omega) (by exact h4) hs W hM)
  obtain ⟨X, hX⟩ : ∃ X : Int, X = (D8 0 : Int) := ⟨_, rfl⟩
  obtain ⟨D, hD⟩ : ∃ X : Int, X = (D8 d : Int) := ⟨_, rfl⟩
  rw [← hX, ← hD] at HLo
  rw [← hX, ← hD]
  clear hX hD
  have RB := Lib.hid (Bx.new w [.int .i64 0, .int .i64 0, .string ⟨#[]⟩, .int .i64 0, .bool false, .int .i64 0, .int .i64 0, .slice none 0 0, .slice none 0 0] 53)
  have G0 := Lib.hid (bbox1 w (.cells #[.int .i64 0, .int .i64 0, .string ⟨#[]⟩, .int .i64 0, .bool false, .int .i64 0, .int .i64 0, .slice none 0 0, .slice none 0 0] 53))
  clear hs hs2 e1 hsz hg4
  go_enter Tryz.func73, Tryz.ntmps73
  go_upto_region 1 with fail
  obtain ⟨rb, hrb⟩ : ∃ x, w.heap.size = x := ⟨_, rfl⟩
  change Code.wp _ _ _ _ (w.alloc (.cells #[.int .i64 0, .int .i64 0, .string ⟨#[]⟩, .int .i64 0, .bool false, .int .i64 0, .int .i64 0, .slice none 0 0, .slice none 0 0] 53))
  generalize w.alloc (.cells #[.int .i64 0, .int .i64 0, .string ⟨#[]⟩, .int .i64 0, .bool false, .int .i64 0, .int .i64 0, .slice none 0 0, .slice none 0 0] 53) = w1 at RB G0 ⊢
  have RB1 := Lib.hid (show Bx w1 rb [.int .i64 0, .int .i64 0, .string ⟨#[]⟩, .int .i64 0, .bool false, .int .i64 0, .int .i64 0, .slice none 0 0, .slice none 0 0] by rw [← hrb]; exact RB.out)
  have HRB := Lib.hid hrb
  rw [hrb]
  clear RB hrb
  go_cut [4] (fun s4 wx => ∃ mb, s4 = .pointer (some ⟨mb, 0, none⟩) ∧ w1.heap.size ≤ mb ∧ Bx wx mb [.int .i64 1, .int .i64 1, .string group, .int .i64 0, .bool false, .int .i64 0, .int .i64 0, .slice none 0 0, .slice none 0 0] ∧ Below w1.heap.size w1 wx)
  case first =>
    go_region
    all_goals
      go_wp2
      go_meet
      exact ⟨_, rfl, Nat.le_refl _, (Bx.new w1 [.int .i64 1, .int .i64 1, .string group, .int .i64 0, .bool false, .int .i64 0, .int .i64 0, .slice none 0 0, .slice none 0 0] 53).drew, (bbox1 w1 _).drew⟩
  case rest =>
    obtain ⟨mb, rfl, hmb, hM, hE⟩ := hcut
    rename World => w2
    have M2 := Lib.hid hM
    have E2 := Lib.hid hE
    have R2 := Lib.hid (RB1.out.below hE)
    have s2 := hE.size
    have s1 := G0.out.size
    have hr1 := RB1.out.1
    clear hM hE
    have c1 := M2.out.get 1 _ rfl
    have c2 := M2.out.get 2 _ rfl
    have c3 := M2.out.get 3 _ rfl
    have cf := M2.out.fz
    go_upto_region 6 with fail
    have M3 := Lib.hid (show Bx w2 mb [.int .i64 1, .int .i64 1, .string group, .int .i64 0, .bool false, .int .i64 0, .int .i64 0, .slice none 0 0, .slice none 0 0] from M2.out)
    have E3 := Lib.hid (show Below w1.heap.size w1 w2 from E2.out)
    have R3 := Lib.hid (show Bx w2 rb [.int .i64 0, .int .i64 0, .string ⟨#[]⟩, .int .i64 0, .bool false, .int .i64 0, .int .i64 0, .slice none 0 0, .slice none 0 0] from R2.out)
    obtain ⟨w3, hw3⟩ : ∃ x, x = w2 := ⟨_, rfl⟩
    rw [← hw3] at M3 E3 R3 ⊢
    clear hw3
    have s3 := E3.out.size
    clear c1 c2 c3 cf M2 E2 R2
    have HL3 := Lib.hid (HLo.out w3 mb M3.out)
    go_wp2_with (first
      | (go_at_call 150; (with_reducible refine HL3.out.mono ?_); rintro e w4 ⟨a, k, rfl, hM4, hO4, g4⟩; have M4 := Lib.hid hM4; have O4 := Lib.hid hO4; have R4 := Lib.hid (R3.out.under g4 (show rb < mb by omega)); have E4 := Lib.hid (E3.out.trans (g4.mono hmb)); have s4 := E4.out.size; clear hM4 hO4 g4; have c0 := M4.out.get 0 _ rfl; have c1 := M4.out.get 1 _ rfl; have c2 := M4.out.get 2 _ rfl; have c3 := M4.out.get 3 _ rfl; have c4 := M4.out.get 4 _ rfl; have c5 := M4.out.get 5 _ rfl; have c6 := M4.out.get 6 _ rfl; have c7 := M4.out.get 7 _ rfl; have c8 := M4.out.get 8 _ rfl)
      | (go_at_call 75; (with_reducible refine (isGroup_4 group _).mono ?_); rw [hg]; rintro e w5 ⟨rfl, g5⟩; have M5 := Lib.hid (M4.out.below g5); have O5 := Lib.hid (O4.out.below g5); have R5 := Lib.hid (R4.out.below g5); have E5 := Lib.hid (E4.out.trans (g5.mono s4)); clear g5; clear c0 c1 c2 c3 c4 c5 c6 c7 c8; have c0 := M5.out.get 0 _ rfl; have c1 := M5.out.get 1 _ rfl; have c2 := M5.out.get 2 _ rfl; have c3 := M5.out.get 3 _ rfl; have c4 := M5.out.get 4 _ rfl; have c5 := M5.out.get 5 _ rfl; have c6 := M5.out.get 6 _ rfl; have c7 := M5.out.get 7 _ rfl; have c8 := M5.out.get 8 _ rfl; have d0 := R5.out.get 0 _ rfl; have d1 := R5.out.get 1 _ rfl; have d2 := R5.out.get 2 _ rfl; have d3 := R5.out.get 3 _ rfl; have d4 := R5.out.get 4 _ rfl; have d5 := R5.out.get 5 _ rfl; have d6 := R5.out.get 6 _ rfl; have d7 := R5.out.get 7 _ rfl; have d8 := R5.out.get 8 _ rfl; have df := R5.out.fz))
    refine bodyPost_ret (v := .tuple #[.agg #[.int .i64 1, .int .i64 3, .string group, .int .i64 X, .bool q, .int .i64 ro, .int .i64 D, .slice a ss.length k, .slice none 0 0], .int .i64 0]) (by simp [results, Tryz.results73, go_sem, d0, d1, d2, d3, d4, d5, d6, d7, d8]) rfl ⟨a, k, rfl, ?_, ?_⟩
    · have hq : rb < w3.heap.size := by omega
      exact (((((((((O5.out.put (p := ⟨rb, 0, none⟩) hq _).put (p := ⟨rb, 1, none⟩) hq _).put (p := ⟨rb, 2, none⟩) hq _).put (p := ⟨rb, 3, none⟩) hq _).put (p := ⟨rb, 4, none⟩) hq _).put (p := ⟨rb, 5, none⟩) hq _).put (p := ⟨rb, 6, none⟩) hq _).put (p := ⟨rb, 7, none⟩) hq _).put (p := ⟨rb, 8, none⟩) hq _).low (by have := HRB.out; omega)
    · have hwb : w.heap.size ≤ rb := by have := HRB.out; omega
      have G4 := G0.out.trans (E5.out.mono s1)
      exact (((((((((G4.setCell (p := ⟨rb, 0, none⟩) hwb _).setCell (p := ⟨rb, 1, none⟩) hwb _).setCell (p := ⟨rb, 2, none⟩) hwb _).setCell (p := ⟨rb, 3, none⟩) hwb _).setCell (p := ⟨rb, 4, none⟩) hwb _).setCell (p := ⟨rb, 5, none⟩) hwb _).setCell (p := ⟨rb, 6, none⟩) hwb _).setCell (p := ⟨rb, 7, none⟩) hwb _).setCell (p := ⟨rb, 8, none⟩) hwb _)
set_option maxRecDepth 100000 in
set_option maxHeartbeats 4000000 in
theorem askl_g2 (s group : ByteArray) (c : Nat) (d ro : Nat) (q : Bool) (x y : UInt8) (ss : List ByteArray) (hn60 : ss.length ≤ 60) (h4 : ∀ x, x ∈ ss → x.size = 4) (hc0 : c ≠ 0) (hc : c ≤ 255) (hd : d ≤ 255) (hro : ro ≤ 7) (hg : grp4 group = true) (hs : s.data.toList = LongB c x y group q ro d ss) (w : World) :
    Calls Tryz.prog 73 #[.string s] w fun e w' => ∃ a k, e = .returned (.tuple #[.agg #[.int .i64 1, .int .i64 3, .string group, .int .i64 (D8 c), .bool q, .int .i64 ro, .int .i64 (D8 d), .slice a ss.length k, .slice none 0 0], .int .i64 0]) ∧ Own4 w.heap.size w' (.slice a ss.length k) ss ∧ Below w.heap.size w w' := by
  have hgz := grp4_size hg
  have hg4 : (group : ByteArray).size = 4 := hgz
  obtain ⟨rest, hs2⟩ : ∃ r, s.data.toList = [17, UInt8.ofNat c, x, y] ++ ((group : ByteArray).data.toList ++ ([UInt8.ofNat (flq q ro)] ++ ([UInt8.ofNat d] ++ (Pl.be 2 ss.length ++ r)))) := ⟨cat ss, by rw [hs]; unfold LongB; simp only [List.append_assoc]⟩
  have hsz : 12 ≤ s.size := by rw [← size_toList, hs2, List.length_append, List.length_append, List.length_append, List.length_append, List.length_append, Pl.be_length, size_toList, hg4]; show 12 ≤ 4 + (4 + (1 + (1 + (2 + _)))); omega
  have e1 : s.extract 4 8 = group := by
    apply ba_eq
    rw [data_extract, hs2, List.drop_left' (show ([17, UInt8.ofNat c, x, y] : List UInt8).length = 4 from rfl), List.take_left' (by rw [size_toList, hg4])]
  have k1 := slice_mid s 4 8 (by decide) (by omega) 4 8 rfl rfl
  rw [e1] at k1
  have hcb : ((UInt8.ofNat c).toNat : Int) = (c : Int) := by rw [UInt8.toNat_ofNat', Nat.mod_eq_of_lt (by omega)]
  have hb1 : PlainAid.bt s 1 = (c : Int) := by rw [bt_at, hs2]; exact hcb
  have hbt := PlainAid.get_bt s
  have hzi : 12 ≤ (s.size : Int) := by omega
  have hwc : wrap64 (c : Int) = (c : Int) := IntWalk.wrap64_in _ ⟨by omega, by omega⟩
  have hcne : ((c : Int) != 0) = true := by rw [bne_iff_ne]; omega
  have hgt := grp4_ne hg
  have hge := grp4_some hg
  have HLo := Lib.hid (fun (W : World) (mb : Nat) (hM : Bx W mb [.int .i64 1, .int .i64 2, .string group, .int .i64 c, .bool false, .int .i64 0, .int .i64 0, .slice none 0 0, .slice none 0 0]) => long_v3 s group group c d ro q x y ss 2 c mb hg4 (by omega) hd hro (by omega) (by exact h4) hs W hM)
  obtain ⟨X, hX⟩ : ∃ X : Int, X = (D8 c : Int) := ⟨_, rfl⟩
  obtain ⟨D, hD⟩ : ∃ X : Int, X = (D8 d : Int) := ⟨_, rfl⟩
  rw [← hX, ← hD] at HLo
  rw [← hX, ← hD]
  clear hX hD
  have RB := Lib.hid (Bx.new w [.int .i64 0, .int .i64 0, .string ⟨#[]⟩, .int .i64 0, .bool false, .int .i64 0, .int .i64 0, .slice none 0 0, .slice none 0 0] 53)
  have G0 := Lib.hid (bbox1 w (.cells #[.int .i64 0, .int .i64 0, .string ⟨#[]⟩, .int .i64 0, .bool false, .int .i64 0, .int .i64 0, .slice none 0 0, .slice none 0 0] 53))
  clear hs hs2 e1 hsz hg4 hcb
  go_enter Tryz.func73, Tryz.ntmps73
  go_upto_region 1 with fail
  obtain ⟨rb, hrb⟩ : ∃ x, w.heap.size = x := ⟨_, rfl⟩
  change Code.wp _ _ _ _ (w.alloc (.cells #[.int .i64 0, .int .i64 0, .string ⟨#[]⟩, .int .i64 0, .bool false, .int .i64 0, .int .i64 0, .slice none 0 0, .slice none 0 0] 53))
  generalize w.alloc (.cells #[.int .i64 0, .int .i64 0, .string ⟨#[]⟩, .int .i64 0, .bool false, .int .i64 0, .int .i64 0, .slice none 0 0, .slice none 0 0] 53) = w1 at RB G0 ⊢
  have RB1 := Lib.hid (show Bx w1 rb [.int .i64 0, .int .i64 0, .string ⟨#[]⟩, .int .i64 0, .bool false, .int .i64 0, .int .i64 0, .slice none 0 0, .slice none 0 0] by rw [← hrb]; exact RB.out)
  have HRB := Lib.hid hrb
  rw [hrb]
  clear RB hrb
  go_cut [4] (fun s4 wx => ∃ mb, s4 = .pointer (some ⟨mb, 0, none⟩) ∧ w1.heap.size ≤ mb ∧ Bx wx mb [.int .i64 1, .int .i64 1, .string group, .int .i64 c, .bool false, .int .i64 0, .int .i64 0, .slice none 0 0, .slice none 0 0] ∧ Below w1.heap.size w1 wx)
  case first =>
    go_region
    all_goals
      go_wp2
      go_meet
      exact ⟨_, rfl, Nat.le_refl _, (Bx.new w1 [.int .i64 1, .int .i64 1, .string group, .int .i64 c, .bool false, .int .i64 0, .int .i64 0, .slice none 0 0, .slice none 0 0] 53).drew, (bbox1 w1 _).drew⟩
  case rest =>
    obtain ⟨mb, rfl, hmb, hM, hE⟩ := hcut
    rename World => w2
    have M2 := Lib.hid hM
    have E2 := Lib.hid hE
    have R2 := Lib.hid (RB1.out.below hE)
    have s2 := hE.size
    have s1 := G0.out.size
    have hr1 := RB1.out.1
    clear hM hE
    have c1 := M2.out.get 1 _ rfl
    have c2 := M2.out.get 2 _ rfl
    have c3 := M2.out.get 3 _ rfl
    have cf := M2.out.fz
    go_upto_region 6 with fail
    have M3 := Lib.hid (show Bx (w2.setCell ⟨mb, 1, none⟩ (.int .i64 2)) mb [.int .i64 1, .int .i64 2, .string group, .int .i64 c, .bool false, .int .i64 0, .int .i64 0, .slice none 0 0, .slice none 0 0] from (M2.out.set (i := 1) (x := .int .i64 2) (by simp)))
    have E3 := Lib.hid (show Below w1.heap.size w1 (w2.setCell ⟨mb, 1, none⟩ (.int .i64 2)) from (E2.out.setCell (p := ⟨mb, 1, none⟩) hmb (.int .i64 2)))
    have R3 := Lib.hid (show Bx (w2.setCell ⟨mb, 1, none⟩ (.int .i64 2)) rb [.int .i64 0, .int .i64 0, .string ⟨#[]⟩, .int .i64 0, .bool false, .int .i64 0, .int .i64 0, .slice none 0 0, .slice none 0 0] from (R2.out.put (c := mb) (o := 1) (x := .int .i64 2) (by omega)))
    generalize (w2.setCell ⟨mb, 1, none⟩ (.int .i64 2)) = w3 at M3 E3 R3 ⊢
    have s3 := E3.out.size
    clear c1 c2 c3 cf M2 E2 R2
    have HL3 := Lib.hid (HLo.out w3 mb M3.out)
    go_wp2_with (first
      | (go_at_call 150; (with_reducible refine HL3.out.mono ?_); rintro e w4 ⟨a, k, rfl, hM4, hO4, g4⟩; have M4 := Lib.hid hM4; have O4 := Lib.hid hO4; have R4 := Lib.hid (R3.out.under g4 (show rb < mb by omega)); have E4 := Lib.hid (E3.out.trans (g4.mono hmb)); have s4 := E4.out.size; clear hM4 hO4 g4; have c0 := M4.out.get 0 _ rfl; have c1 := M4.out.get 1 _ rfl; have c2 := M4.out.get 2 _ rfl; have c3 := M4.out.get 3 _ rfl; have c4 := M4.out.get 4 _ rfl; have c5 := M4.out.get 5 _ rfl; have c6 := M4.out.get 6 _ rfl; have c7 := M4.out.get 7 _ rfl; have c8 := M4.out.get 8 _ rfl)
      | (go_at_call 75; (with_reducible refine (isGroup_4 group _).mono ?_); rw [hg]; rintro e w5 ⟨rfl, g5⟩; have M5 := Lib.hid (M4.out.below g5); have O5 := Lib.hid (O4.out.below g5); have R5 := Lib.hid (R4.out.below g5); have E5 := Lib.hid (E4.out.trans (g5.mono s4)); clear g5; clear c0 c1 c2 c3 c4 c5 c6 c7 c8; have c0 := M5.out.get 0 _ rfl; have c1 := M5.out.get 1 _ rfl; have c2 := M5.out.get 2 _ rfl; have c3 := M5.out.get 3 _ rfl; have c4 := M5.out.get 4 _ rfl; have c5 := M5.out.get 5 _ rfl; have c6 := M5.out.get 6 _ rfl; have c7 := M5.out.get 7 _ rfl; have c8 := M5.out.get 8 _ rfl; have d0 := R5.out.get 0 _ rfl; have d1 := R5.out.get 1 _ rfl; have d2 := R5.out.get 2 _ rfl; have d3 := R5.out.get 3 _ rfl; have d4 := R5.out.get 4 _ rfl; have d5 := R5.out.get 5 _ rfl; have d6 := R5.out.get 6 _ rfl; have d7 := R5.out.get 7 _ rfl; have d8 := R5.out.get 8 _ rfl; have df := R5.out.fz))
    refine bodyPost_ret (v := .tuple #[.agg #[.int .i64 1, .int .i64 3, .string group, .int .i64 X, .bool q, .int .i64 ro, .int .i64 D, .slice a ss.length k, .slice none 0 0], .int .i64 0]) (by simp [results, Tryz.results73, go_sem, d0, d1, d2, d3, d4, d5, d6, d7, d8]) rfl ⟨a, k, rfl, ?_, ?_⟩
    · have hq : rb < w3.heap.size := by omega
      exact (((((((((O5.out.put (p := ⟨rb, 0, none⟩) hq _).put (p := ⟨rb, 1, none⟩) hq _).put (p := ⟨rb, 2, none⟩) hq _).put (p := ⟨rb, 3, none⟩) hq _).put (p := ⟨rb, 4, none⟩) hq _).put (p := ⟨rb, 5, none⟩) hq _).put (p := ⟨rb, 6, none⟩) hq _).put (p := ⟨rb, 7, none⟩) hq _).put (p := ⟨rb, 8, none⟩) hq _).low (by have := HRB.out; omega)
    · have hwb : w.heap.size ≤ rb := by have := HRB.out; omega
      have G4 := G0.out.trans (E5.out.mono s1)
      exact (((((((((G4.setCell (p := ⟨rb, 0, none⟩) hwb _).setCell (p := ⟨rb, 1, none⟩) hwb _).setCell (p := ⟨rb, 2, none⟩) hwb _).setCell (p := ⟨rb, 3, none⟩) hwb _).setCell (p := ⟨rb, 4, none⟩) hwb _).setCell (p := ⟨rb, 5, none⟩) hwb _).setCell (p := ⟨rb, 6, none⟩) hwb _).setCell (p := ⟨rb, 7, none⟩) hwb _).setCell (p := ⟨rb, 8, none⟩) hwb _)
end Go.Proofs.YticdmepplfgdiaaGreatDoor
end
section
namespace Go.Proofs.YticdmepplfgdiaaGreatDoor
open Go.RowKit
theorem data_mkI (l : List UInt8) : (⟨l.toArray⟩ : ByteArray).data.toList = l := rfl
theorem pair_of : ∀ l : List UInt8, l.length = 2 → ∃ x y, l = [x, y]
  | [x, y], _ => ⟨x, y, rfl⟩
/-- bytes whose sum is put in -/
theorem filled_ig (p0 p1 : UInt8) (r : List UInt8) : ∃ x y, (Cs.filled ⟨#[]⟩ ⟨(p0 :: p1 :: 0 :: 0 :: r).toArray⟩ 2).data.toList = p0 :: p1 :: x :: y :: r ∧ Cs.sum (Cs.filled ⟨#[]⟩ ⟨(p0 :: p1 :: 0 :: 0 :: r).toArray⟩ 2).data.toList = 0 := by
  obtain ⟨d0, d1, hd⟩ := pair_of (Pl.be 2 (Cs.sum (Cs.gap ⟨#[]⟩ ⟨(p0 :: p1 :: 0 :: 0 :: r).toArray⟩ 2).data.toList)) (Pl.be_length _ _)
  have e : (Cs.filled ⟨#[]⟩ ⟨(p0 :: p1 :: 0 :: 0 :: r).toArray⟩ 2).data.toList = p0 :: p1 :: d0 :: d1 :: r := by
    unfold Cs.filled
    rw [hd, data_add, data_add, data_extract, data_extract, data_mkI, data_mkI, List.drop_zero, Nat.sub_zero]
    have e4 : (p0 :: p1 :: 0 :: 0 :: r).drop (2 + 2) = r := rfl
    rw [e4, List.take_of_length_le (l := r) (by rw [size_mk]; simp)]
    rfl
  refine ⟨d0, d1, e, ?_⟩
  have h := Cs.filled_right ⟨#[]⟩ ⟨(p0 :: p1 :: 0 :: 0 :: r).toArray⟩ 2 (by decide) (by decide) (by rw [size_mk]; simp)
  rw [data_add] at h
  exact h
/-- what is decoded of a message that was encoded -/
def Back8 (kind ver : Int) (group : ByteArray) (mx : Int) (q : Bool) (ro ev : Int) (ss : List ByteArray) (rs : List Rc) (w : World) (v : Value) (w' : World) : Prop :=
  ∃ (l' : List Rc) (a : Option Addr) (k : Nat) (a2 : Option Addr) (k2 : Nat), l'.map rcKey = rs.map rcKey ∧ v = .tuple #[.agg #[.int .i64 kind, .int .i64 ver, .string group, .int .i64 mx, .bool q, .int .i64 ro, .int .i64 ev, .slice a ss.length k, .slice a2 l'.length k2], .int .i64 0] ∧ Strs w' (.slice a ss.length k) ss ∧ Rcs w' (.slice a2 l'.length k2) l' ∧ Below w.heap.size w w'
theorem strs_nil (W : World) (a : Option Addr) (k : Nat) : Strs W (.slice a 0 k) [] := ⟨a, k, rfl, .inl rfl⟩
theorem rcs_nil (W : World) (a : Option Addr) (k : Nat) : Rcs W (.slice a 0 k) [] := ⟨a, k, rfl, fun _ h => (by cases h), .inl rfl⟩
theorem own4_nil (n : Nat) (W : World) : Own4 n W (.slice none 0 0) [] := ⟨rfl, .inl ⟨rfl, rfl⟩⟩
theorem bareB_of {mx : Int} {q : Bool} {ro ev : Int} {n k : Nat} (h : bareB mx q ro ev n k = true) : mx = 0 ∧ q = false ∧ ro = 0 ∧ ev = 0 ∧ n = 0 ∧ k = 0 := by
  unfold bareB at h
  simp only [Bool.and_eq_true, beq_iff_eq, Bool.not_eq_true'] at h
  obtain ⟨a, b, c, d, e, f⟩ := h
  exact ⟨a, b, c, d, by omega, by omega⟩
theorem nil_of {α : Type} {l : List α} (h : l.length = 0) : l = [] := List.length_eq_zero_iff.1 h
/-- a long query -/
theorem back_long (g4 group : ByteArray) (hg : (grp4 group = true ∧ g4 = group) ∨ (group = ⟨#[]⟩ ∧ g4 = none4)) (mx : Int) (q : Bool) (ro ev : Int) (ss : List ByteArray) (l : List UInt8) (h0 : group = ⟨#[]⟩ → ss = []) (hA : Ask3 g4 mx q ro ev ss l) (w : World) :
    Calls Tryz.prog 18 #[.string (Cs.filled ⟨#[]⟩ ⟨l.toArray⟩ 2)] w fun e w' => ∃ a k, e = .returned (.tuple #[.agg #[.int .i64 1, .int .i64 3, .string group, .int .i64 mx, .bool q, .int .i64 ro, .int .i64 ev, .slice a ss.length k, .slice none 0 0], .int .i64 0]) ∧ Strs w' (.slice a ss.length k) ss ∧ Below w.heap.size w w' := by
  obtain ⟨r0, r7, h4, h60, c, d, hc, hd, rfl, rfl, rfl⟩ := hA
  obtain ⟨ro, rfl⟩ := Int.eq_ofNat_of_zero_le r0
  have hcl := cat_len4 _ h4
  have hl : [17, UInt8.ofNat c, 0, 0] ++ g4.data.toList ++ [UInt8.ofNat ((ro : Int).toNat + if q then 8 else 0)] ++ [UInt8.ofNat d] ++ Pl.be 2 ss.length ++ cat ss = 17 :: UInt8.ofNat c :: 0 :: 0 :: (g4.data.toList ++ [UInt8.ofNat (flq q ro)] ++ [UInt8.ofNat d] ++ Pl.be 2 ss.length ++ cat ss) := by
    simp only [List.append_assoc, Int.toNat_natCast]
    rfl
  rw [hl]
  obtain ⟨x, y, e1, e2⟩ := filled_ig 17 (UInt8.ofNat c) (g4.data.toList ++ [UInt8.ofNat (flq q ro)] ++ [UInt8.ofNat d] ++ Pl.be 2 ss.length ++ cat ss)
  generalize Cs.filled ⟨#[]⟩ ⟨(17 :: UInt8.ofNat c :: 0 :: 0 :: (g4.data.toList ++ [UInt8.ofNat (flq q ro)] ++ [UInt8.ofNat d] ++ Pl.be 2 ss.length ++ cat ss)).toArray⟩ 2 = s at e1 e2 ⊢
  have hs : s.data.toList = LongB c x y g4 q ro d ss := by
    rw [e1]; unfold LongB; simp only [List.append_assoc]; rfl
  have hg4 : g4.size = 4 := by
    rcases hg with ⟨hg, rfl⟩ | ⟨-, rfl⟩
    · exact grp4_size hg
    · rfl
  have hsz : s.size = 12 + ss.length * 4 := by
    rw [← size_toList, e1]
    simp only [List.length_cons, List.length_append, Pl.be_length, size_toList, hg4, hcl, List.length_nil]
    omega
  refine dec_q s 3 (D8 c) group q ro (D8 d) ss _ e1 (by omega) (by omega) e2 (fun W => ?_) w
  rcases hg with ⟨hg, rfl⟩ | ⟨rfl, rfl⟩
  · by_cases hc0 : c = 0
    · subst hc0
      exact askl_g1 s g4 d ro q x y ss h60 h4 hd (by omega) hg hs W
    · exact askl_g2 s g4 c d ro q x y ss h60 h4 hc0 hc hd (by omega) hg hs W
  · obtain rfl := h0 rfl
    by_cases hc0 : c = 0
    · subst hc0
      exact askl_e1 s d ro q x y hd (by omega) hs W
    · exact askl_e2 s c d ro q x y hc0 hc hd (by omega) hs W
/-- a short query -/
theorem back_short (ver : Int) (g4 group : ByteArray) (hg : (grp4 group = true ∧ g4 = group) ∨ (group = ⟨#[]⟩ ∧ g4 = none4)) (mx : Int) (hv : (ver = 1 ∧ mx = 0) ∨ (ver = 2 ∧ mx ≠ 0)) (m0 : 0 ≤ mx) (m1 : mx < 256) (w : World) :
    Calls Tryz.prog 18 #[.string (Cs.filled ⟨#[]⟩ ⟨([17, UInt8.ofNat mx.toNat, 0, 0] ++ g4.data.toList).toArray⟩ 2)] w fun e w' => ∃ a k, e = .returned (.tuple #[.agg #[.int .i64 1, .int .i64 ver, .string group, .int .i64 mx, .bool false, .int .i64 0, .int .i64 0, .slice a ([] : List ByteArray).length k, .slice none 0 0], .int .i64 0]) ∧ Strs w' (.slice a ([] : List ByteArray).length k) [] ∧ Below w.heap.size w w' := by
  obtain ⟨c, rfl⟩ := Int.eq_ofNat_of_zero_le m0
  obtain ⟨x, y, e1, e2⟩ := filled_ig 17 (UInt8.ofNat c) g4.data.toList
  have hl : [17, UInt8.ofNat (c : Int).toNat, 0, 0] ++ g4.data.toList = 17 :: UInt8.ofNat c :: 0 :: 0 :: g4.data.toList := rfl
  rw [hl]
  generalize Cs.filled ⟨#[]⟩ ⟨(17 :: UInt8.ofNat c :: 0 :: 0 :: g4.data.toList).toArray⟩ 2 = s at e1 e2 ⊢
  have hg4 : g4.size = 4 := by
    rcases hg with ⟨hg, rfl⟩ | ⟨-, rfl⟩
    · exact grp4_size hg
    · rfl
  have hsz : s.size = 8 := by
    rw [← size_toList, e1]
    simp only [List.length_cons, size_toList, hg4]
  have hs : s.data.toList = [17, UInt8.ofNat c, x, y] ++ g4.data.toList := e1
  refine dec_q s ver (c : Int) group false 0 0 [] _ e1 (by omega) (by omega) e2 (fun W => ?_) w
  have fin : (Calls Tryz.prog 73 #[.string s] W fun e w' => e = .returned (.tuple #[.agg #[.int .i64 1, .int .i64 ver, .string group, .int .i64 c, .bool false, .int .i64 0, .int .i64 0, .slice none 0 0, .slice none 0 0], .int .i64 0]) ∧ Below W.heap.size W w') →
      Calls Tryz.prog 73 #[.string s] W fun e w' => ∃ a k, e = .returned (.tuple #[.agg #[.int .i64 1, .int .i64 ver, .string group, .int .i64 c, .bool false, .int .i64 0, .int .i64 0, .slice a ([] : List ByteArray).length k, .slice none 0 0], .int .i64 0]) ∧ Own4 W.heap.size w' (.slice a ([] : List ByteArray).length k) [] ∧ Below W.heap.size W w' := by
    intro h
    refine h.mono ?_
    rintro e w' ⟨rfl, g⟩
    exact ⟨none, 0, rfl, own4_nil _ _, g⟩
  rcases hv with ⟨rfl, h0⟩ | ⟨rfl, h0⟩
  · obtain rfl : c = 0 := by omega
    rcases hg with ⟨hg, rfl⟩ | ⟨rfl, rfl⟩
    · exact fin (asks_g1 s g4 x y hs hg W)
    · exact fin (asks_e1 s x y hs W)
  · have hc0 : c ≠ 0 := by omega
    rcases hg with ⟨hg, rfl⟩ | ⟨rfl, rfl⟩
    · exact fin (asks_g2 s g4 c x y hc0 (by omega) hs hg W)
    · exact fin (asks_e2 s c x y hc0 (by omega) hs W)
/-- WHAT IS ENCODED IS DECODED -/
theorem igback (kind ver : Int) (group : ByteArray) (mx : Int) (q : Bool) (ro ev : Int) (ss : List ByteArray) (rs : List Rc) (l : List UInt8) (hE : EncG kind ver group mx q ro ev ss rs l) (hr : rs.length ≤ 20) (w : World) :
    Calls Tryz.prog 18 #[.string (Cs.filled ⟨#[]⟩ ⟨l.toArray⟩ 2)] w fun e w' => ∃ v, e = .returned v ∧ Back8 kind ver group mx q ro ev ss rs w v w' := by
  rcases hE with ⟨rfl, hr0, hgr, hE⟩ | ⟨rfl, rfl, rfl, hb, hok, rfl⟩ | ⟨t, ht, hg, hb, rfl⟩
  · obtain rfl := nil_of hr0
    have hg : (grp4 group = true ∧ (if grp4 group then group else none4) = group) ∨ (group = ⟨#[]⟩ ∧ (if grp4 group then group else none4) = none4) := by
      rcases hgr with h | ⟨rfl, -⟩
      · exact .inl ⟨h, if_pos h⟩
      · exact .inr ⟨rfl, rfl⟩
    have h0 : group = ⟨#[]⟩ → ss = [] := by
      intro e
      rcases hgr with h | ⟨-, h⟩
      · rw [e, grp4_empty] at h; cases h
      · exact h
    rcases hE with ⟨rfl, hA⟩ | ⟨hb, hv, m0, m1, rfl⟩
    · refine (back_long _ group hg mx q ro ev ss l h0 hA w).mono ?_
      rintro e w' ⟨a, k, rfl, h1, h2⟩
      exact ⟨_, rfl, [], a, k, none, 0, rfl, rfl, h1, rcs_nil _ _ _, h2⟩
    · obtain ⟨-, rfl, rfl, rfl, hs0, -⟩ := bareB_of hb
      obtain rfl := nil_of hs0
      refine (back_short ver _ group hg mx hv m0 m1 w).mono ?_
      rintro e w' ⟨a, k, rfl, h1, h2⟩
      exact ⟨_, rfl, [], a, k, none, 0, rfl, rfl, h1, rcs_nil _ _ _, h2⟩
  · obtain ⟨rfl, rfl, rfl, rfl, hs0, -⟩ := bareB_of hb
    obtain rfl := nil_of hs0
    have hl : [34, 0, 0, 0, 0, 0] ++ Pl.be 2 rs.length ++ rcsB rs = 34 :: 0 :: 0 :: 0 :: (0 :: 0 :: (Pl.be 2 rs.length ++ rcsB rs)) := by
      simp only [List.append_assoc]
      rfl
    rw [hl]
    obtain ⟨x, y, e1, e2⟩ := filled_ig 34 0 (0 :: 0 :: (Pl.be 2 rs.length ++ rcsB rs))
    refine (dec_a _ rs x y hr hok (by rw [e1]; simp only [List.append_assoc]; rfl) e2 w).mono ?_
    rintro e w' ⟨l', a, c, hk, rfl, h1, h2⟩
    exact ⟨_, rfl, l', none, 0, a, c, hk, rfl, strs_nil _ _ _, h1, h2⟩
  · obtain ⟨rfl, rfl, rfl, rfl, hs0, hr0⟩ := bareB_of hb
    obtain rfl := nil_of hs0
    obtain rfl := nil_of hr0
    obtain ⟨x, y, e1, e2⟩ := filled_ig t 0 group.data.toList
    have hl : [t, 0, 0, 0] ++ group.data.toList = t :: 0 :: 0 :: 0 :: group.data.toList := rfl
    rw [hl]
    rcases ht with ⟨rfl, rfl, rfl⟩ | ⟨rfl, rfl, rfl⟩ | ⟨rfl, rfl, rfl⟩
    · refine (dec_b1 _ group x y e1 hg e2 w).mono ?_
      rintro e w' ⟨rfl, h2⟩
      exact ⟨_, rfl, [], none, 0, none, 0, rfl, rfl, strs_nil _ _ _, rcs_nil _ _ _, h2⟩
    · refine (dec_b2 _ group x y e1 hg e2 w).mono ?_
      rintro e w' ⟨rfl, h2⟩
      exact ⟨_, rfl, [], none, 0, none, 0, rfl, rfl, strs_nil _ _ _, rcs_nil _ _ _, h2⟩
    · refine (dec_b3 _ group x y e1 hg e2 w).mono ?_
      rintro e w' ⟨rfl, h2⟩
      exact ⟨_, rfl, [], none, 0, none, 0, rfl, rfl, strs_nil _ _ _, rcs_nil _ _ _, h2⟩
end Go.Proofs.YticdmepplfgdiaaGreatDoor
end
