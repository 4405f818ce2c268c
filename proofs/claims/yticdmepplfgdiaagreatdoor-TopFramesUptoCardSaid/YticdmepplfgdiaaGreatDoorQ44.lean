/-
  What a switch's plain computes of the small net's one frame. Conditions: both ports are open, the one station is known. What the switch's Take computes of the small net's one frame. Conditions: the port learns, both ports are open, no station is known yet, the time is one.
-/
import Derived.BigQuiet
import Derived.Test.YticdmepplfgdiaaGreatDoorQ42
import Derived.Test.YticdmepplfgdiaaGreatDoorQ22
set_option linter.unusedVariables false
set_option linter.unusedSimpArgs false
section
namespace Go.Proofs.YticdmepplfgdiaaGreatDoor
open Go.RowKit
theorem RowIn.mono {W : World} {lo lo' : Nat} {v : Value} {n : Nat} {vs : List Value} (h : RowIn W lo v n vs) (hl : lo' ≤ lo) : RowIn W lo' v n vs := by
  rcases h with h | ⟨hn, g, c, hv, hg, hx⟩
  · exact .inl h
  · exact .inr ⟨hn, g, c, hv, Nat.le_trans hl hg, hx⟩
section
variable {B : Brs} {T : Tre} {ch now : Int}
theorem around_lit (k : Nat) (h0 : T.p0.fwd = true) (h1 : T.p1.fwd = true) (w : World) (h : BrL w B T ch) :
    Calls Tryz.prog 120 #[.agg #[.pointer (some ⟨B.b, 0, none⟩), .string ⟨#[255, 255, 255, 255, 255, 255]⟩, .string ⟨#[2, 98, 98, 98, 98, 98]⟩, .bool true, .int .i64 10, .int .i64 0, .int .i64 99, .string ⟨#[]⟩, .int .i64 k, .int .i64 now]] w fun e w' => ∃ mb mc ob oc, e = .returned (.agg #[.int .i64 k, .slice (some ⟨mb, 0, none⟩) 2 mc, .slice (some ⟨ob, 0, none⟩) 2 oc, .slice none 0 0, .slice none 0 0, .bool false, .bool false, .bool false, .bool false, .bool false]) ∧ Bx w' mb [.int .i64 0, .int .i64 1] ∧ Bx w' ob [.int .i64 0, .int .i64 1] ∧ Below w.heap.size w w' := around_both k h0 h1 w h
theorem send_lit (k q : Nat) (hq : q < 2) (v : Value) (w : World) (h : BrL w B T ch) (hv : OneInt w v q) :
    Calls Tryz.prog 118 #[.agg #[.pointer (some ⟨B.b, 0, none⟩), .string ⟨#[255, 255, 255, 255, 255, 255]⟩, .string ⟨#[2, 98, 98, 98, 98, 98]⟩, .bool true, .int .i64 10, .int .i64 0, .int .i64 99, .string ⟨#[]⟩, .int .i64 k, .int .i64 now], v] w fun e w' => ∃ v', e = .returned v' ∧ RowIn w' w.heap.size v' 1 (wcells [(q, dataW)]) ∧ Below w.heap.size w w' := send_one k q hq v w h hv
set_option maxRecDepth 100000 in
set_option maxHeartbeats 2000000 in
theorem reads_none (k : Nat) (w : World) : Calls Tryz.prog 48 #[.agg #[.pointer (some ⟨B.b, 0, none⟩), .string ⟨#[255, 255, 255, 255, 255, 255]⟩, .string ⟨#[2, 98, 98, 98, 98, 98]⟩, .bool true, .int .i64 10, .int .i64 0, .int .i64 99, .string ⟨#[]⟩, .int .i64 k, .int .i64 now]] w fun e w' => e = .returned .nilIface ∧ Below w.heap.size w w' := by
  go_enter Tryz.func48, Tryz.ntmps48
  go_wp2
  go_ret
  exact ⟨rfl, bbox1 _ _⟩
set_option maxRecDepth 100000 in
set_option maxHeartbeats 8000000 in
theorem plain_both (k : Nat) (hk : k < 2) (h0 : T.p0.fwd = true) (h1 : T.p1.fwd = true) (hn0 : 0 ≤ now) (hn1 : now ≤ 1099511627776) (w : World) (h : BrL w B T ch) (hst : OneAt w B.st B.smb 50 100) :
    Calls Tryz.prog 51 #[.agg #[.pointer (some ⟨B.b, 0, none⟩), .string ⟨#[255, 255, 255, 255, 255, 255]⟩, .string ⟨#[2, 98, 98, 98, 98, 98]⟩, .bool true, .int .i64 10, .int .i64 0, .int .i64 99, .string ⟨#[]⟩, .int .i64 k, .int .i64 now]] w fun e w' => ∃ v, e = .returned v ∧ RowIn w' w.heap.size v 1 (wcells [(1 - k, dataW)]) ∧ Below w.heap.size w w' := by
  have HA := Lib.hid (fun (W : World) (hW : BrL W B T ch) => around_lit (now := now) k h0 h1 W hW)
  have HS := Lib.hid (fun (W : World) (v : Value) (hW : BrL W B T ch) (hv : OneInt W v (1 - k : Nat)) => send_lit (now := now) k (1 - k) (by omega) v W hW hv)
  have HL := Lib.hid (fun (W : World) (hW : OneAt W B.st B.smb 50 100) => look_all B.st B.smb 50 100 now hn0 hn1 W hW)
  have HM := Lib.hid many_all
  have A1 := Lib.hid (h.below (bbox1 w (.cells #[.pointer (some ⟨B.b, 0, none⟩), .string ⟨#[255, 255, 255, 255, 255, 255]⟩, .string ⟨#[2, 98, 98, 98, 98, 98]⟩, .bool true, .int .i64 10, .int .i64 0, .int .i64 99, .string ⟨#[]⟩, .int .i64 k, .int .i64 now] 125)))
  have O1 := Lib.hid (hst.below (bbox1 w (.cells #[.pointer (some ⟨B.b, 0, none⟩), .string ⟨#[255, 255, 255, 255, 255, 255]⟩, .string ⟨#[2, 98, 98, 98, 98, 98]⟩, .bool true, .int .i64 10, .int .i64 0, .int .i64 99, .string ⟨#[]⟩, .int .i64 k, .int .i64 now] 125)))
  have P1 := Lib.hid (show Bx (w.alloc (.cells #[.pointer (some ⟨B.b, 0, none⟩), .string ⟨#[255, 255, 255, 255, 255, 255]⟩, .string ⟨#[2, 98, 98, 98, 98, 98]⟩, .bool true, .int .i64 10, .int .i64 0, .int .i64 99, .string ⟨#[]⟩, .int .i64 k, .int .i64 now] 125)) w.heap.size (pasV B.b k now) from Bx.new w (pasV B.b k now) 125)
  have G1 := Lib.hid (bbox1 w (.cells #[.pointer (some ⟨B.b, 0, none⟩), .string ⟨#[255, 255, 255, 255, 255, 255]⟩, .string ⟨#[2, 98, 98, 98, 98, 98]⟩, .bool true, .int .i64 10, .int .i64 0, .int .i64 99, .string ⟨#[]⟩, .int .i64 k, .int .i64 now] 125))
  have hkz : (1 : Int) - (k : Int) = ((1 - k : Nat) : Int) := by omega
  have HKZ := Lib.hid hkz
  clear h hst h0 h1 hkz
  go_enter Tryz.func51, Tryz.ntmps51
  go_upto_region 2 with (first
    | (go_at_call 120; (with_reducible refine (HA.out _ A1.out).mono ?_); rintro e w2 ⟨mb, mc, ob, oc, rfl, hmb, hob, g2⟩; have A2 := Lib.hid (A1.out.below g2); have O2 := Lib.hid (O1.out.below g2); have P2 := Lib.hid (P1.out.below g2); have G2 := Lib.hid (bstep G1.out g2); have HF := Lib.hid (flood_both k hk ob oc (.slice (some ⟨mb, 0, none⟩) 2 mc) (.slice none 0 0) w2 hob (ints_two hmb)); clear g2 hmb hob)
    | (go_at_call 119; (with_reducible refine HF.out.mono ?_); rintro e w3 ⟨v3, rfl, ho3, g3⟩; have A3 := Lib.hid (A2.out.below g3); have O3 := Lib.hid (O2.out.below g3); have P3 := Lib.hid (P2.out.below g3); have G3 := Lib.hid (bstep G2.out g3); have I3 := Lib.hid ho3; obtain ⟨gg, gc, rfl, -⟩ := ho3; clear g3))
  obtain ⟨n, hn⟩ : ∃ n, w.heap.size = n := ⟨_, rfl⟩
  rw [hn] at P3 ⊢
  have HK := Lib.hid (fun (W : World) (h1 : Bx W n (pasV B.b k now)) (h2 : Bx W B.b (B.cells ch)) => (⟨h1.get 0 _ rfl, h1.get 1 _ rfl, h1.get 4 _ rfl, h1.get 9 _ rfl, h2.get 14 _ rfl⟩ : W.cell? ⟨n, 0, none⟩ = some (.pointer (some ⟨B.b, 0, none⟩)) ∧ W.cell? ⟨n, 1, none⟩ = some (.string ⟨#[255, 255, 255, 255, 255, 255]⟩) ∧ W.cell? ⟨n, 4, none⟩ = some (.int .i64 10) ∧ W.cell? ⟨n, 9, none⟩ = some (.int .i64 now) ∧ W.cell? ⟨B.b, 14, none⟩ = some (.pointer (some ⟨B.st, 0, none⟩))))
  have A4 := Lib.hid (A3.out.below (Below.refl _ _).drew)
  have O4 := Lib.hid (O3.out.below (Below.refl _ _).drew)
  have P4 := Lib.hid P3.out.drew
  have G4 := Lib.hid G3.out.drew
  have I4 := Lib.hid (I3.out.below (Below.refl _ _).drew)
  clear A1 A2 O1 O2 P1 P2 G1 G2 HA HF
  go_region_held3 (fun w' => w'.cell? ⟨n, 0, none⟩ = some (.pointer (some ⟨B.b, 0, none⟩)) ∧ w'.cell? ⟨n, 1, none⟩ = some (.string ⟨#[255, 255, 255, 255, 255, 255]⟩) ∧ w'.cell? ⟨n, 4, none⟩ = some (.int .i64 10) ∧ w'.cell? ⟨n, 9, none⟩ = some (.int .i64 now) ∧ w'.cell? ⟨B.b, 14, none⟩ = some (.pointer (some ⟨B.st, 0, none⟩)))
    (first | with_reducible exact HK.out _ P4.out A4.out.cells | with_reducible exact HK.out _ P5.out A5.out.cells)
    (first
      | (go_at_call 127; (with_reducible refine (HL.out _ O4.out).mono ?_); rintro e w5 ⟨rfl, g5⟩; have A5 := Lib.hid (A4.out.below g5); have P5 := Lib.hid (P4.out.below g5); have G5 := Lib.hid (bstep G4.out g5); have I5 := Lib.hid (I4.out.below g5); clear g5))
  have p0 := P5.out.get 0 _ rfl
  have p1 := P5.out.get 1 _ rfl
  have p2 := P5.out.get 2 _ rfl
  have p3 := P5.out.get 3 _ rfl
  have p4 := P5.out.get 4 _ rfl
  have p5 := P5.out.get 5 _ rfl
  have p6 := P5.out.get 6 _ rfl
  have p7 := P5.out.get 7 _ rfl
  have p8 := P5.out.get 8 _ rfl
  have p9 := P5.out.get 9 _ rfl
  go_wp2_with (first
    | (go_at_call 109; (with_reducible refine (HM.out _).mono ?_); rintro e w6 ⟨rfl, hq⟩; subst hq)
    | (go_at_call 118; (with_reducible refine (HS.out _ _ A5.out (by rw [← HKZ.out]; exact I5.out)).mono ?_); rintro e w7 ⟨v7, rfl, R7, g7⟩; have R7h := Lib.hid R7; have G7 := Lib.hid (bstep G5.out g7); clear R7 g7))
  go_ret
  refine ⟨_, rfl, ?_, G7.out⟩
  exact R7h.out.mono (by have := G5.out.size; omega)
end
end Go.Proofs.YticdmepplfgdiaaGreatDoor
end
section
namespace Go.Proofs.YticdmepplfgdiaaGreatDoor
open Go.RowKit
theorem tag_set {W : World} {c : Nat} (h : Bx W c (frV false 0)) : Bx (((((((W.setCell ⟨c, 0, none⟩ (.string ⟨#[255, 255, 255, 255, 255, 255]⟩)).setCell ⟨c, 1, none⟩ (.string ⟨#[2, 98, 98, 98, 98, 98]⟩)).setCell ⟨c, 2, none⟩ (.bool true)).setCell ⟨c, 3, none⟩ (.int .i64 10)).setCell ⟨c, 4, none⟩ (.int .i64 0)).setCell ⟨c, 5, none⟩ (.int .i64 99)).setCell ⟨c, 6, none⟩ (.string ⟨#[]⟩)) c (frV true 10) := Bx.set7 h
theorem no_message (W : World) : (Instr.typeAssert .nilIface 20 128 true).run Tryz.prog W = .ok (.tuple #[.agg #[.string ⟨#[]⟩, .int .i64 0, .int .i64 0, .string ⟨#[]⟩, .int .i64 0, .bool false, .int .i64 0, .int .i64 0, .slice none 0 0, .slice none 0 0], .bool false]) W := by
  simp [Instr.typeAssert, run_underlying Tryz.underlying128, Tryz.zeroValue128, Result.andThen]
theorem no_data (W : World) : (Instr.typeAssert .nilIface 20 131 true).run Tryz.prog W = .ok (.tuple #[.agg #[.string ⟨#[]⟩, .string ⟨#[]⟩], .bool false]) W := by
  simp [Instr.typeAssert, run_underlying Tryz.underlying131, Tryz.zeroValue131, Result.andThen]
theorem forwards_yes {t p cap : Nat} {T : Tre} {k : Nat} (hk : k < 2) (hf : (T.prt k).fwd = true) (w : World) (h : TreeAt w t p cap T) : Calls Tryz.prog 47 #[.pointer (some ⟨t, 0, none⟩), .int .i64 k] w fun e w' => e = .returned (.bool true) ∧ w' = w := by
  have h2 := forwards_any hk w h
  rwa [hf] at h2
set_option maxRecDepth 100000 in
set_option maxHeartbeats 16000000 in
theorem brdata_any {B : Brs} {T : Tre} {ch now : Int} {k : Nat} (hk : k < 2) (hn0 : 1 ≤ now) (hn1 : now ≤ 1099511627776) (hr : (T.prt k).role ≠ 0) (hl : T.learns k = true) (h0 : T.p0.fwd = true) (h1 : T.p1.fwd = true) (w : World) (h : BrAt w B T ch) :
    Calls Tryz.prog 10 #[.pointer (some ⟨B.b, 0, none⟩), .int .i64 k, .string dataW, .int .i64 now] w fun e w' => ∃ v, e = .returned v ∧ RowIn w' w.heap.size v 1 (wcells [(1 - k, dataW)]) ∧ Beside [B.smb] w w' := by
  have HG := Lib.hid (goes_any B.b now hn0 hn1 w)
  have HR := Lib.hid (role_any hk w h.tree)
  have HD := Lib.hid dec_lit
  have HTo := Lib.hid to_any
  have HIn := Lib.hid (fun (W : World) (hW : BrL W B T ch) => in_lit k hk W hW)
  have HLe := Lib.hid (fun (W : World) (hW : BrL W B T ch) => learns_any hk true hl W hW.tree)
  have HFw := Lib.hid (fun (W : World) (hW : BrL W B T ch) => forwards_yes hk (show (T.prt k).fwd = true by rcases (by omega : k = 0 ∨ k = 1) with rfl | rfl; exact h0; exact h1) W hW.tree)
  have sm : B.smb ∈ B.still := by simp [Brs.still]
  have hsm : B.st ≠ B.smb := by
    have k2 := (List.nodup_append.1 h.nd).2.1
    simp only [Brs.still, List.nodup_cons, List.mem_cons, not_or] at k2
    exact k2.1.1
  have HLn := Lib.hid (fun (W : World) (hW : NoneAt W B.st B.smb 50 100) => learn_first B.st B.smb 50 100 k now hk (by decide) (by omega) hn1 W hW hsm)
  have HRd := Lib.hid (fun (W : World) => reads_none (B := B) (now := now) k W)
  have HPl := Lib.hid (fun (W : World) (hW : BrL W B T ch) (hs : OneAt W B.st B.smb 50 100) => plain_both (now := now) k hk h0 h1 (by omega) hn1 W hW hs)
  have hfar : ∀ x, x ∈ [B.b, B.t, B.p, B.ro, B.rfm, B.rhm, B.pp, B.pl0, B.pl1] → x ∉ [B.smb] := fun x hx e => by
    have he := List.mem_singleton.1 e
    subst he
    have k1 := List.nodup_append.1 h.nd
    have q1 : ∀ y, y ∈ B.muts → y ≠ B.smb := fun y hy => k1.2.2 y hy B.smb sm
    have k2 := k1.2.1
    simp only [Brs.still, List.nodup_cons, List.mem_cons, List.not_mem_nil, or_false, not_or] at k2
    simp only [List.mem_cons, List.not_mem_nil, or_false] at hx
    have m1 := q1 B.b (by simp [Brs.muts])
    have m2 := q1 B.t (by simp [Brs.muts])
    have m3 := q1 B.p (by simp [Brs.muts])
    obtain ⟨-, ⟨k3, k4, k5, k6, k7, k8, k9, k10, k11, k12, k13, k14, k15, k16, k17⟩, -⟩ := k2
    rcases hx with e | e | e | e | e | e | e | e | e
    · exact m1 e.symm
    · exact m2 e.symm
    · exact m3 e.symm
    all_goals first | exact k3 e | exact k4 e | exact k5 e | exact k6 e | exact k7 e | exact k8 e | exact k9 e | exact k10 e | exact k11 e | exact k12 e | exact k13 e | exact k14 e | exact k15 e | exact k16 e
  have HFar := Lib.hid hfar
  have c13 := h.cells.get 13 _ rfl
  have hbd : ∀ x, x ∈ [B.b, B.t, B.p, B.ro, B.rfm, B.rhm, B.pp, B.pl0, B.pl1, B.st] → x < w.heap.size := fun x hx => by
    simp only [List.mem_cons, List.not_mem_nil, or_false] at hx
    have nm : ∀ y, NoMap w y → y < w.heap.size := fun y ⟨c, hm⟩ => by
      rcases Nat.lt_or_ge y w.heap.size with h' | h'
      · exact h'
      · simp [Array.getElem?_eq_none h'] at hm
    rcases hx with rfl | rfl | rfl | rfl | rfl | rfl | rfl | rfl | rfl | rfl
    · exact h.cells.1
    · exact h.tree.1.1
    · exact h.tree.2.1.1
    · exact h.ports.1.1
    · exact nm _ h.ports.2.1
    · exact nm _ h.ports.2.2
    · exact h.cfg.1
    · exact h.l0.1
    · exact h.l1.1
    · exact h.dark.1.1
  have HBd := Lib.hid (fun x (hx : x ∈ [B.b, B.t, B.p, B.ro, B.rfm, B.rhm, B.pp, B.pl0, B.pl1]) => hbd x (by simp only [List.mem_cons, List.not_mem_nil, or_false] at hx ⊢; omega))
  have hstw : B.st < w.heap.size := hbd B.st (by simp)
  clear hbd
  have hr2 : ((T.prt k).role == 0) = false := by simpa using hr
  have HLit := Lib.hid h.lit
  have HDk := Lib.hid h.dark
  have hsmw : B.smb < w.heap.size := by
    obtain ⟨-, c, hm⟩ := h.dark
    rcases Nat.lt_or_ge B.smb w.heap.size with h' | h'
    · exact h'
    · simp [Array.getElem?_eq_none h'] at hm
  clear h hr h0 h1 hl hfar sm hsm
  go_enter Tryz.func10, Tryz.ntmps10
  go_upto_region 6 with (first
    | (go_at_call 34; (with_reducible refine HG.out.mono ?_); rintro e w0 ⟨rfl, hw0⟩; subst hw0)
    | (go_at_call 40; (with_reducible refine HR.out.mono ?_); rintro e w1 ⟨rfl, hw1⟩; subst hw1)
    | (go_at_call 16; (with_reducible refine (HD.out _).mono ?_); rintro e w2 ⟨rfl, g2⟩; have A2 := Lib.hid (HLit.out.below g2); have D2 := Lib.hid (HDk.out.below g2); have E2 := Lib.hid (Beside.of_below (S := [B.smb]) g2); clear g2))
  have M3 := Lib.hid (show Bx (w2.alloc (.cells #[.string ⟨#[255, 255, 255, 255, 255, 255]⟩, .string ⟨#[2, 98, 98, 98, 98, 98]⟩, .bool false, .int .i64 0, .int .i64 0, .int .i64 99, .string ⟨#[]⟩] 47)) w2.heap.size (frV false 0) from Bx.new w2 (frV false 0) 47)
  have A3 := Lib.hid (A2.out.below (bbox1 w2 (.cells #[.string ⟨#[255, 255, 255, 255, 255, 255]⟩, .string ⟨#[2, 98, 98, 98, 98, 98]⟩, .bool false, .int .i64 0, .int .i64 0, .int .i64 99, .string ⟨#[]⟩] 47)))
  have D3 := Lib.hid (D2.out.below (bbox1 w2 (.cells #[.string ⟨#[255, 255, 255, 255, 255, 255]⟩, .string ⟨#[2, 98, 98, 98, 98, 98]⟩, .bool false, .int .i64 0, .int .i64 0, .int .i64 99, .string ⟨#[]⟩] 47)))
  have E3 := Lib.hid (E2.out.below (bbox1 w2 (.cells #[.string ⟨#[255, 255, 255, 255, 255, 255]⟩, .string ⟨#[2, 98, 98, 98, 98, 98]⟩, .bool false, .int .i64 0, .int .i64 0, .int .i64 99, .string ⟨#[]⟩] 47)))
  obtain ⟨n2, hn2⟩ : ∃ n, w2.heap.size = n := ⟨_, rfl⟩
  obtain ⟨w3, hw3⟩ : ∃ y : World, y = w2.alloc (.cells #[.string ⟨#[255, 255, 255, 255, 255, 255]⟩, .string ⟨#[2, 98, 98, 98, 98, 98]⟩, .bool false, .int .i64 0, .int .i64 0, .int .i64 99, .string ⟨#[]⟩] 47) := ⟨_, rfl⟩
  have hbn : w1.heap.size ≤ n2 := by rw [← hn2]; exact E2.out.size
  rw [← hw3] at M3 A3 D3 E3
  change Code.wp _ _ _ _ (w2.alloc (.cells #[.string ⟨#[255, 255, 255, 255, 255, 255]⟩, .string ⟨#[2, 98, 98, 98, 98, 98]⟩, .bool false, .int .i64 0, .int .i64 0, .int .i64 99, .string ⟨#[]⟩] 47))
  rw [← hw3]
  rw [hn2] at M3 ⊢
  clear hw3 hn2 c13 A2 D2 E2
  have f0 := M3.out.get 0 _ rfl
  go_quiet ((go_at_call 41; refine Calls.quiet_of_same (HTo.out _)))
  have gq : Below w3.heap.size w3 (w3.drewN nq) := bdrew (Below.refl _ _) nq
  have M4 := Lib.hid (M3.out.below gq)
  have A4 := Lib.hid (A3.out.below gq)
  have D4 := Lib.hid (D3.out.below gq)
  have E4 := Lib.hid (E3.out.below gq)
  generalize w3.drewN nq = w4 at M4 A4 D4 E4 ⊢
  clear gq M3 A3 D3 E3 f0
  go_upto_region 12 with fail
  have hnb : B.b ≠ n2 := by have := HLit.out.cells.1; omega
  have hns : n2 ≠ B.smb := by omega
  have A5 := Lib.hid (A4.out.below (Below.refl _ _).drew)
  have M5 := Lib.hid M4.out.drew
  have HK1 := Lib.hid (fun (W : World) (h1 : Bx W n2 (frV false 0)) (h2 : Bx W B.b (B.cells ch)) => (⟨h2.get 2 _ rfl, h1.get 0 _ rfl, h1.get 1 _ rfl, h1.get 2 _ rfl, h1.get 3 _ rfl, h1.get 4 _ rfl, h1.get 5 _ rfl, h1.get 6 _ rfl⟩ : W.cell? ⟨B.b, 2, none⟩ = some (.slice (some ⟨B.pp, 0, none⟩) 2 B.pc) ∧ W.cell? ⟨n2, 0, none⟩ = some (.string ⟨#[255, 255, 255, 255, 255, 255]⟩) ∧ W.cell? ⟨n2, 1, none⟩ = some (.string ⟨#[2, 98, 98, 98, 98, 98]⟩) ∧ W.cell? ⟨n2, 2, none⟩ = some (.bool false) ∧ W.cell? ⟨n2, 3, none⟩ = some (.int .i64 0) ∧ W.cell? ⟨n2, 4, none⟩ = some (.int .i64 0) ∧ W.cell? ⟨n2, 5, none⟩ = some (.int .i64 99) ∧ W.cell? ⟨n2, 6, none⟩ = some (.string ⟨#[]⟩)))
  have HK2 := Lib.hid (fun (W : World) (h1 : Bx W n2 (frV true 10)) (h2 : Bx W B.b (B.cells ch)) => (⟨h1.get 1 _ rfl, h1.get 3 _ rfl, h2.get 14 _ rfl⟩ : W.cell? ⟨n2, 1, none⟩ = some (.string ⟨#[2, 98, 98, 98, 98, 98]⟩) ∧ W.cell? ⟨n2, 3, none⟩ = some (.int .i64 10) ∧ W.cell? ⟨B.b, 14, none⟩ = some (.pointer (some ⟨B.st, 0, none⟩))))
  go_cut [10] (fun s10 wx => s10 = .int .i64 0 ∧ Bx wx n2 (frV true 10) ∧ BrL wx B T ch ∧ NoneAt wx B.st B.smb 50 100 ∧ Beside [B.smb] w1 wx)
  case first =>
    have f0 := M4.out.get 0 _ rfl
    have f1 := M4.out.get 1 _ rfl
    have f2 := M4.out.get 2 _ rfl
    have f3 := M4.out.get 3 _ rfl
    have f4 := M4.out.get 4 _ rfl
    have f5 := M4.out.get 5 _ rfl
    have f6 := M4.out.get 6 _ rfl
    have b2 := A4.out.cells.get 2 _ rfl
    go_region_with (first
        | (go_at_call 44; (with_reducible refine (HIn.out _ A5.out).mono ?_); rintro e w6 ⟨rfl, g6⟩; have A6 := Lib.hid (A5.out.below g6); have M6 := Lib.hid (M5.out.below g6); have D6 := Lib.hid ((D4.out.below (Below.refl _ _).drew).below g6); have E6 := Lib.hid (E4.out.drew.below g6); clear g6; have z0 := M6.out.get 0 _ rfl; have z1 := M6.out.get 1 _ rfl; have z2 := M6.out.get 2 _ rfl; have z3 := M6.out.get 3 _ rfl; have z4 := M6.out.get 4 _ rfl; have z5 := M6.out.get 5 _ rfl; have z6 := M6.out.get 6 _ rfl; have zf := M6.out.fz))
    all_goals
      have MS := Lib.hid (tag_set M6.out)
      have AS := Lib.hid (show BrL _ B T ch from A6.out.beside (S := [n2]) (((((((((Beside.refl [n2] w6).setCell (p := ⟨n2, 0, none⟩) (.inl (List.mem_singleton.2 rfl)) (.string ⟨#[255, 255, 255, 255, 255, 255]⟩)).setCell (p := ⟨n2, 1, none⟩) (.inl (List.mem_singleton.2 rfl)) (.string ⟨#[2, 98, 98, 98, 98, 98]⟩)).setCell (p := ⟨n2, 2, none⟩) (.inl (List.mem_singleton.2 rfl)) (.bool true)).setCell (p := ⟨n2, 3, none⟩) (.inl (List.mem_singleton.2 rfl)) (.int .i64 10)).setCell (p := ⟨n2, 4, none⟩) (.inl (List.mem_singleton.2 rfl)) (.int .i64 0)).setCell (p := ⟨n2, 5, none⟩) (.inl (List.mem_singleton.2 rfl)) (.int .i64 99)).setCell (p := ⟨n2, 6, none⟩) (.inl (List.mem_singleton.2 rfl)) (.string ⟨#[]⟩))) (fun x hx e => by have := HBd.out x hx; have := List.mem_singleton.1 e; omega))
      have DS := Lib.hid (show NoneAt _ B.st B.smb 50 100 from NoneAt.beside (S := [n2]) D6.out (((((((((Beside.refl [n2] w6).setCell (p := ⟨n2, 0, none⟩) (.inl (List.mem_singleton.2 rfl)) (.string ⟨#[255, 255, 255, 255, 255, 255]⟩)).setCell (p := ⟨n2, 1, none⟩) (.inl (List.mem_singleton.2 rfl)) (.string ⟨#[2, 98, 98, 98, 98, 98]⟩)).setCell (p := ⟨n2, 2, none⟩) (.inl (List.mem_singleton.2 rfl)) (.bool true)).setCell (p := ⟨n2, 3, none⟩) (.inl (List.mem_singleton.2 rfl)) (.int .i64 10)).setCell (p := ⟨n2, 4, none⟩) (.inl (List.mem_singleton.2 rfl)) (.int .i64 0)).setCell (p := ⟨n2, 5, none⟩) (.inl (List.mem_singleton.2 rfl)) (.int .i64 99)).setCell (p := ⟨n2, 6, none⟩) (.inl (List.mem_singleton.2 rfl)) (.string ⟨#[]⟩))) (fun e => by have := List.mem_singleton.1 e; omega) (fun e => by have := List.mem_singleton.1 e; omega))
      have ES := Lib.hid (((((((((E6.out.setCell (p := ⟨n2, 0, none⟩) (.inr hbn) (.string ⟨#[255, 255, 255, 255, 255, 255]⟩)).setCell (p := ⟨n2, 1, none⟩) (.inr hbn) (.string ⟨#[2, 98, 98, 98, 98, 98]⟩)).setCell (p := ⟨n2, 2, none⟩) (.inr hbn) (.bool true)).setCell (p := ⟨n2, 3, none⟩) (.inr hbn) (.int .i64 10)).setCell (p := ⟨n2, 4, none⟩) (.inr hbn) (.int .i64 0)).setCell (p := ⟨n2, 5, none⟩) (.inr hbn) (.int .i64 99)).setCell (p := ⟨n2, 6, none⟩) (.inr hbn) (.string ⟨#[]⟩))))
      clear z0 z1 z2 z3 z4 z5 z6 zf f0 f1 f2 f3 f4 f5 f6 b2
      go_wp2
      go_meet
      exact ⟨rfl, MS.out, AS.out, DS.out, ES.out⟩
  case rest =>
    obtain ⟨rfl, M7q, A7q, D7q, E7q⟩ := hcut
    have M7 := Lib.hid M7q
    have A7 := Lib.hid A7q
    have D7 := Lib.hid D7q
    have E7 := Lib.hid E7q
    clear M7q A7q D7q E7q M4 A4 D4 E4 A5 M5 HK1
    have HL7 := Lib.hid (HLe.out _ A7.out)
    have c13 := A7.out.cells.get 13 _ rfl
    go_upto_region 16 with (go_at_call 45; (with_reducible refine HL7.out.mono ?_); rintro e w8 ⟨rfl, g8⟩; have M8 := Lib.hid (M7.out.below g8); have A8 := Lib.hid (A7.out.below g8); have D8 := Lib.hid (D7.out.below g8); have E8 := Lib.hid (E7.out.below g8); clear g8)
    clear c13 M7 A7 D7 E7
    have A9 := Lib.hid (A8.out.below (Below.refl _ _).drew)
    have D9 := Lib.hid (D8.out.below (Below.refl _ _).drew)
    have M9 := Lib.hid M8.out.drew
    have E9 := Lib.hid E8.out.drew
    go_region_held3 (fun W => W.cell? ⟨n2, 1, none⟩ = some (.string ⟨#[2, 98, 98, 98, 98, 98]⟩) ∧ W.cell? ⟨n2, 3, none⟩ = some (.int .i64 10) ∧ W.cell? ⟨B.b, 14, none⟩ = some (.pointer (some ⟨B.st, 0, none⟩)))
      (first | with_reducible exact HK2.out _ M9.out A9.out.cells | with_reducible exact HK2.out _ MA.out AA.out.cells)
      (first
        | (go_at_call 46; (with_reducible refine (HLn.out _ D9.out).mono ?_); rintro e wA ⟨rfl, O10, B10⟩; have AA := Lib.hid (A9.out.beside B10 HFar.out); have MA := Lib.hid (M9.out.beside B10 (fun e => hns (List.mem_singleton.1 e))); have EA := Lib.hid (E9.out.trans B10); have OA := Lib.hid O10; clear B10 O10))
    have c13 := AA.out.cells.get 13 _ rfl
    have HF10 := Lib.hid (HFw.out _ AA.out)
    have m0 := MA.out.get 0 _ rfl
    have m1 := MA.out.get 1 _ rfl
    have m2 := MA.out.get 2 _ rfl
    have m3 := MA.out.get 3 _ rfl
    have m4 := MA.out.get 4 _ rfl
    have m5 := MA.out.get 5 _ rfl
    have m6 := MA.out.get 6 _ rfl
    have AB := Lib.hid (AA.out.below (bbox1 wA (.cells #[.pointer (some ⟨B.b, 0, none⟩), .string ⟨#[255, 255, 255, 255, 255, 255]⟩, .string ⟨#[2, 98, 98, 98, 98, 98]⟩, .bool true, .int .i64 10, .int .i64 0, .int .i64 99, .string ⟨#[]⟩, .int .i64 k, .int .i64 now] 125)))
    have PB := Lib.hid (show Bx (wA.alloc (.cells #[.pointer (some ⟨B.b, 0, none⟩), .string ⟨#[255, 255, 255, 255, 255, 255]⟩, .string ⟨#[2, 98, 98, 98, 98, 98]⟩, .bool true, .int .i64 10, .int .i64 0, .int .i64 99, .string ⟨#[]⟩, .int .i64 k, .int .i64 now] 125)) wA.heap.size (pasV B.b k now) from Bx.new wA (pasV B.b k now) 125)
    have OB := Lib.hid (OA.out.below (bbox1 wA (.cells #[.pointer (some ⟨B.b, 0, none⟩), .string ⟨#[255, 255, 255, 255, 255, 255]⟩, .string ⟨#[2, 98, 98, 98, 98, 98]⟩, .bool true, .int .i64 10, .int .i64 0, .int .i64 99, .string ⟨#[]⟩, .int .i64 k, .int .i64 now] 125)))
    have EB := Lib.hid (EA.out.below (bbox1 wA (.cells #[.pointer (some ⟨B.b, 0, none⟩), .string ⟨#[255, 255, 255, 255, 255, 255]⟩, .string ⟨#[2, 98, 98, 98, 98, 98]⟩, .bool true, .int .i64 10, .int .i64 0, .int .i64 99, .string ⟨#[]⟩, .int .i64 k, .int .i64 now] 125)))
    clear M8 A8 D8 E8 M9 A9 D9 E9
    have na := no_message
    have nb := no_data
    go_wp2_with (first
      | (go_at_call 47; (with_reducible refine HF10.out.mono ?_); rintro e wF ⟨rfl, hq⟩; subst hq)
      | (go_at_call 48; (with_reducible refine (HRd.out _).mono ?_); rintro e wB ⟨rfl, gB⟩; have AC := Lib.hid (AB.out.below gB); have OC := Lib.hid (OB.out.below gB); have PC := Lib.hid (PB.out.below gB); have q0 := PC.out.get 0 _ rfl; have q1 := PC.out.get 1 _ rfl; have q2 := PC.out.get 2 _ rfl; have q3 := PC.out.get 3 _ rfl; have q4 := PC.out.get 4 _ rfl; have q5 := PC.out.get 5 _ rfl; have q6 := PC.out.get 6 _ rfl; have q7 := PC.out.get 7 _ rfl; have q8 := PC.out.get 8 _ rfl; have q9 := PC.out.get 9 _ rfl; have EC := Lib.hid (EB.out.below gB); clear gB)
      | (go_at_call 51; (with_reducible refine (HPl.out _ AC.out OC.out).mono ?_); rintro e wC ⟨vC, rfl, RC, gC⟩; have RCh := Lib.hid RC; have ED := Lib.hid (EC.out.below gC); clear RC gC))
    go_ret
    exact ⟨_, rfl, RCh.out.mono (by have := EC.out.size; omega), ED.out⟩
end Go.Proofs.YticdmepplfgdiaaGreatDoor
end
