/-
  What is sent of the small net's one frame. Conditions: one port.
-/
import Derived.Test.YticdmepplfgdiaaGreatDoorQ36
set_option linter.unusedVariables false
set_option linter.unusedSimpArgs false
namespace Go.Proofs.YticdmepplfgdiaaGreatDoor
open Go.RowKit
theorem Bx.put7 {W : World} {b c : Nat} {x0 x1 x2 x3 x4 x5 x6 : Value} {vs : List Value} (h : Bx W b vs) (hc : b ≠ c) : Bx (((((((W.setCell ⟨c, 0, none⟩ x0).setCell ⟨c, 1, none⟩ x1).setCell ⟨c, 2, none⟩ x2).setCell ⟨c, 3, none⟩ x3).setCell ⟨c, 4, none⟩ x4).setCell ⟨c, 5, none⟩ x5).setCell ⟨c, 6, none⟩ x6) b vs := ((((((h.put hc).put hc).put hc).put hc).put hc).put hc).put hc
theorem Bx.set7 {W : World} {c : Nat} {x0 x1 x2 x3 x4 x5 x6 : Value} {y0 y1 y2 y3 y4 y5 y6 : Value} (h : Bx W c [y0, y1, y2, y3, y4, y5, y6]) : Bx (((((((W.setCell ⟨c, 0, none⟩ x0).setCell ⟨c, 1, none⟩ x1).setCell ⟨c, 2, none⟩ x2).setCell ⟨c, 3, none⟩ x3).setCell ⟨c, 4, none⟩ x4).setCell ⟨c, 5, none⟩ x5).setCell ⟨c, 6, none⟩ x6) c [x0, x1, x2, x3, x4, x5, x6] := ((((((h.set (i := 0) (by simp)).set (i := 1) (by simp)).set (i := 2) (by simp)).set (i := 3) (by simp)).set (i := 4) (by simp)).set (i := 5) (by simp)).set (i := 6) (by simp)
theorem below7 {B : Nat} {w W : World} {c : Nat} {x0 x1 x2 x3 x4 x5 x6 : Value} (h : Below B w W) (hc : B ≤ c) : Below B w (((((((W.setCell ⟨c, 0, none⟩ x0).setCell ⟨c, 1, none⟩ x1).setCell ⟨c, 2, none⟩ x2).setCell ⟨c, 3, none⟩ x3).setCell ⟨c, 4, none⟩ x4).setCell ⟨c, 5, none⟩ x5).setCell ⟨c, 6, none⟩ x6) := ((((((h.setCell hc x0).setCell hc x1).setCell hc x2).setCell hc x3).setCell hc x4).setCell hc x5).setCell hc x6
def zeroV7 : List Value := [.string ⟨#[]⟩, .string ⟨#[]⟩, .bool false, .int .i64 0, .int .i64 0, .int .i64 0, .string ⟨#[]⟩]
def frV (tg : Bool) (v : Int) : List Value := [.string ⟨#[255, 255, 255, 255, 255, 255]⟩, .string ⟨#[2, 98, 98, 98, 98, 98]⟩, .bool tg, .int .i64 v, .int .i64 0, .int .i64 99, .string ⟨#[]⟩]
theorem frame_new (W : World) : Bx (W.alloc (.cells #[.string ⟨#[255, 255, 255, 255, 255, 255]⟩, .string ⟨#[2, 98, 98, 98, 98, 98]⟩, .bool false, .int .i64 0, .int .i64 0, .int .i64 99, .string ⟨#[]⟩] 47)) W.heap.size (frV false 0) := Bx.new W (frV false 0) 47
theorem frame_set {W : World} {c : Nat} (h : Bx W c zeroV7) : Bx (((((((W.setCell ⟨c, 0, none⟩ (.string ⟨#[255, 255, 255, 255, 255, 255]⟩)).setCell ⟨c, 1, none⟩ (.string ⟨#[2, 98, 98, 98, 98, 98]⟩)).setCell ⟨c, 2, none⟩ (.bool false)).setCell ⟨c, 3, none⟩ (.int .i64 0)).setCell ⟨c, 4, none⟩ (.int .i64 0)).setCell ⟨c, 5, none⟩ (.int .i64 99)).setCell ⟨c, 6, none⟩ (.string ⟨#[]⟩)) c (frV false 0) := Bx.set7 h
set_option maxRecDepth 100000 in
set_option maxHeartbeats 16000000 in
theorem send_one {B : Brs} {T : Tre} {ch now : Int} (k q : Nat) (hq : q < 2) (v : Value) (w : World) (h : BrL w B T ch) (hv : OneInt w v q) :
    Calls Tryz.prog 118 #[.agg (pasV B.b k now).toArray, v] w fun e w' => ∃ v', e = .returned v' ∧ RowIn w' w.heap.size v' 1 (wcells [(q, dataW)]) ∧ Below w.heap.size w w' := by
  have HO := Lib.hid (fun (W : World) (hW : BrL W B T ch) => out_lit q hq W hW)
  have HE := Lib.hid enc_lit
  have H := Lib.hid h
  obtain ⟨g, c, rfl, hg⟩ := hv
  have HG := Lib.hid hg
  clear h hg
  unfold pasV
  go_enter Tryz.func118, Tryz.ntmps118
  go_upto_region 3 with fail
  have P1 := Lib.hid (Bx.new w (pasV B.b k now) 125)
  have G1 := Lib.hid (bbox1 w (.cells (pasV B.b k now).toArray 125))
  obtain ⟨n, hn⟩ : ∃ n, w.heap.size = n := ⟨_, rfl⟩
  change Code.wp _ _ _ _ (w.alloc (.cells (pasV B.b k now).toArray 125))
  generalize w.alloc (.cells (pasV B.b k now).toArray 125) = w1 at P1 G1 ⊢
  rw [hn] at P1 ⊢
  go_loopw [5, 7, 8, 9, 10, 11, 14] (fun l _ _ _ _ _ i wr => ∃ j : Nat, j ≤ 1 ∧ i = .int .i64 j ∧ (j = 0 → l = .slice none 0 0) ∧ (j = 1 → wr.ownsRow w.heap.size 140 2 l 1 [.int .i64 q, .string dataW]) ∧ Below w.heap.size w wr ∧ Bx wr n (pasV B.b k now)) (fun _ _ _ _ _ _ i _ => 2 - (intOf i).toNat)
  case atStart => exact ⟨0, Nat.zero_le _, rfl, fun _ => rfl, fun h => absurd h (by omega), G1.out, P1.out⟩
  case round =>
    obtain ⟨j, hj, rfl, hnil, own, bel, px⟩ := hrel
    rcases (by omega : j = 0 ∨ j = 1) with rfl | rfl
    · obtain rfl := hnil rfl
      clear hnil own
      have g0 := (HG.out.below bel).get 0 _ rfl
      obtain ⟨Z, hZ⟩ : ∃ Z : Obj, Z = .cells #[.string ⟨#[]⟩, .string ⟨#[]⟩, .bool false, .int .i64 0, .int .i64 0, .int .i64 0, .string ⟨#[]⟩] 47 := ⟨_, rfl⟩
      have A0 := Lib.hid (H.out.below (bel.drew))
      have A1 := Lib.hid (H.out.below ((ball1 bel Z).drew))
      have HP := Lib.hid px
      have HB := Lib.hid bel
      have C1 := Lib.hid (show Bx (wr.alloc Z).drew wr.heap.size zeroV7 by rw [hZ]; exact Bx.new wr zeroV7 47)
      have hsz : n ≤ wr.heap.size := by rw [← hn]; exact bel.size
      have hcw : w.heap.size ≤ wr.heap.size := bel.size
      have hnw : n ≠ wr.heap.size := by have := px.1; omega
      have p0 := px.get 0 _ rfl
      have p1 := px.get 1 _ rfl
      have p2 := px.get 2 _ rfl
      have p3 := px.get 3 _ rfl
      have p4 := px.get 4 _ rfl
      have p5 := px.get 5 _ rfl
      have p6 := px.get 6 _ rfl
      have p7 := px.get 7 _ rfl
      have b2 : wr.cell? ⟨B.b, 2, none⟩ = some (.slice (some ⟨B.pp, 0, none⟩) 2 B.pc) := A0.out.cells.get 2 _ rfl
      have r0 := (px.alloc Z).get 0 _ rfl
      have r1 := (px.alloc Z).get 1 _ rfl
      have r2 := (px.alloc Z).get 2 _ rfl
      have r3 := (px.alloc Z).get 3 _ rfl
      have r4 := (px.alloc Z).get 4 _ rfl
      have r5 := (px.alloc Z).get 5 _ rfl
      have r6 := (px.alloc Z).get 6 _ rfl
      have r7 := (px.alloc Z).get 7 _ rfl
      have d2 : (wr.alloc Z).cell? ⟨B.b, 2, none⟩ = some (.slice (some ⟨B.pp, 0, none⟩) 2 B.pc) := A1.out.cells.get 2 _ rfl
      subst hZ
      clear bel px
      go_upto_region 5 with fail
      go_cut [8, 9] (fun s8 s9 wx => ∃ nb, s8 = .pointer (some ⟨nb, 0, none⟩) ∧ s9 = .int .i64 0 ∧ Bx wx nb (frV false 0) ∧ Below w.heap.size w wx ∧ Bx wx n (pasV B.b k now))
      case first =>
        go_region_with (first
          | (go_at_call 184; (with_reducible refine (HO.out _ A0.out).mono ?_); rintro e wO ⟨rfl, gO⟩; have BO := Lib.hid (HB.out.drew.trans (gO.mono HB.out.size)); have PO := Lib.hid (HP.out.drew.below gO))
          | (go_at_call 184; (with_reducible refine (HO.out _ A1.out).mono ?_); rintro e wO ⟨rfl, gO⟩; have BO := Lib.hid ((ball1 HB.out _).drew.trans (gO.mono (by rw [World.size_drew, World.size_alloc]; omega))); have PO := Lib.hid ((HP.out.alloc _).drew.below gO); have CO := C1.out.below gO; have z0 := CO.get 0 _ rfl; have z1 := CO.get 1 _ rfl; have z2 := CO.get 2 _ rfl; have z3 := CO.get 3 _ rfl; have z4 := CO.get 4 _ rfl; have z5 := CO.get 5 _ rfl; have z6 := CO.get 6 _ rfl; have zf := CO.fz))
        all_goals
          go_wp2
          go_meet
          refine ⟨_, rfl, rfl, ?_, ?_, ?_⟩
          · first
              | with_reducible exact frame_new _
              | with_reducible exact frame_set (C1.out.below gO)
          · first
              | with_reducible exact ball1 BO.out _
              | with_reducible exact below7 BO.out hcw
          · first
              | with_reducible exact PO.out.alloc _
              | with_reducible exact PO.out.put7 hnw
      case rest =>
        obtain ⟨nb, rfl, rfl, FB, BB, PB⟩ := hcut
        have f0 := FB.get 0 _ rfl
        have f1 := FB.get 1 _ rfl
        have f2 := FB.get 2 _ rfl
        have f3 := FB.get 3 _ rfl
        have f4 := FB.get 4 _ rfl
        have f5 := FB.get 5 _ rfl
        have f6 := FB.get 6 _ rfl
        have HBB := Lib.hid BB
        have HPB := Lib.hid PB
        clear p0 p1 p2 p3 p4 p5 p6 p7 b2 r0 r1 r2 r3 r4 r5 r6 r7 d2 g0 FB BB PB C1 A0 A1 HP HB
        go_wp2_with (first
          | (go_at_call 15; (with_reducible refine (HE.out _).mono ?_); rintro e wE ⟨rfl, gE⟩; have BE := Lib.hid (HBB.out.trans (gE.mono HBB.out.size)); have PE := Lib.hid (HPB.out.below gE); clear gE)
          | (at_builtin; refine push_any rfl _ _ _ 140 rfl w.heap.size Tryz.underlying39 tinfo140 rfl (by decide) (.slice none 0 0) 0 [] [.int .i64 q, .string dataW] _ rfl (World.ownsRow_nil _ _ _ _) rfl (Bx.new _ _ _) rfl (by intro u hu; simp only [List.mem_cons, List.not_mem_nil, or_false] at hu; rcases hu with rfl | rfl <;> rfl) (by omega) (by decide) (by rw [World.size_alloc]; have := BE.out.size; omega) ?_; intro v' w9 hown' hgr hB hs9; have HO9 := Lib.hid hown'; have HB9 := Lib.hid ((ball1 BE.out _).trans hB); have HP9 := Lib.hid ((PE.out.alloc _).grown hgr (by simp [Value.ownBlock])); clear hown' hgr hB))
        refine ⟨⟨1, by omega, by go_num, fun h => absurd h (by omega), fun _ => HO9.out, HB9.out, HP9.out⟩, ?_⟩
        simp [intOf]
    · have HRi := Lib.hid (row_in (own rfl) (by simp) (Nat.le_refl _))
      have HB := Lib.hid bel
      clear own hnil bel px
      go_wp2
      go_ret
      exact ⟨_, rfl, HRi.out, HB.out⟩
end Go.Proofs.YticdmepplfgdiaaGreatDoor
