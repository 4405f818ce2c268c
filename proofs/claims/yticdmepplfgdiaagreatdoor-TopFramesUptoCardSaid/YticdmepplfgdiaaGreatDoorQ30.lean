/-
  igmp's queries of versions 1 and 2 are written. Conditions: those of each.
-/
import Derived.Test.YticdmepplfgdiaaGreatDoorQ26
set_option linter.unusedVariables false
set_option linter.unusedSimpArgs false
namespace Go.Proofs.YticdmepplfgdiaaGreatDoor
open Go.RowKit
set_option maxRecDepth 100000 in
set_option maxHeartbeats 8000000 in
theorem ask_es {b : Nat} (kind ver mx : Int) (q : Bool) (ro ev : Int) (sa ra : Option Addr) (ss : List ByteArray) (sc k rc : Nat) (hv3 : ver ≠ 3) (b1 : mx ≤ 9223372036854775807) (hln : ss.length ≤ 1048576) (w : World) (h : Wr0 b w) :
    Calls Tryz.prog 62 #[.pointer (some ⟨b, 0, none⟩), .agg #[.int .i64 kind, .int .i64 ver, .string ⟨#[]⟩, .int .i64 mx, .bool q, .int .i64 ro, .int .i64 ev, .slice sa ss.length sc, .slice ra k rc]] w fun e w' => e = .returned (.tuple #[]) ∧ ∃ R l bd, Wr R b l bd w' ∧ R ≤ w'.heap.size ∧ w.heap.size ≤ R ∧ 1 ≤ l.length ∧ l.length ≤ 2199023255552 ∧ (bd = false → k = 0 ∧ ss = [] ∧ bareB 0 q ro ev ss.length k = true ∧ ((ver = 1 ∧ mx = 0) ∨ (ver = 2 ∧ mx ≠ 0)) ∧ 0 ≤ mx ∧ mx < 256 ∧ l = [17, UInt8.ofNat mx.toNat, 0, 0] ++ (⟨#[0, 0, 0, 0]⟩ : ByteArray).data.toList) ∧ Past w.heap.size b w w' := by
  have hv : (ver == 3) = false := by simpa using hv3
  have hbw := h.lt
  have HO1 := Lib.hid (h.below (bbox1 w (.cells #[.int .i64 kind, .int .i64 ver, .string ⟨#[]⟩, .int .i64 mx, .bool q, .int .i64 ro, .int .i64 ev, .slice sa ss.length sc, .slice ra k rc] 53)))
  have HX1 := Lib.hid (Bx.new w [.int .i64 kind, .int .i64 ver, .string ⟨#[]⟩, .int .i64 mx, .bool q, .int .i64 ro, .int .i64 ev, .slice sa ss.length sc, .slice ra k rc] 53)
  have HE1 := Lib.hid (bbox1 w (.cells #[.int .i64 kind, .int .i64 ver, .string ⟨#[]⟩, .int .i64 mx, .bool q, .int .i64 ro, .int .i64 ev, .slice sa ss.length sc, .slice ra k rc] 53))
  clear h
  go_enter Tryz.func62, Tryz.ntmps62
  go_upto_region 1 with fail
  obtain ⟨nb, hnb⟩ : ∃ x, w.heap.size = x := ⟨_, rfl⟩
  change Code.wp _ _ _ _ (w.alloc (.cells #[.int .i64 kind, .int .i64 ver, .string ⟨#[]⟩, .int .i64 mx, .bool q, .int .i64 ro, .int .i64 ev, .slice sa ss.length sc, .slice ra k rc] 53))
  generalize w.alloc (.cells #[.int .i64 kind, .int .i64 ver, .string ⟨#[]⟩, .int .i64 mx, .bool q, .int .i64 ro, .int .i64 ev, .slice sa ss.length sc, .slice ra k rc] 53) = w1 at HO1 HX1 HE1 ⊢
  have HX := Lib.hid (show Bx w1 nb [.int .i64 kind, .int .i64 ver, .string ⟨#[]⟩, .int .i64 mx, .bool q, .int .i64 ro, .int .i64 ev, .slice sa ss.length sc, .slice ra k rc] by rw [← hnb]; exact HX1.out)
  rw [hnb]
  have hnR := HX.out.1
  have hnb2 : nb ≠ b := by omega
  obtain ⟨R, hR⟩ : ∃ x, w1.heap.size = x := ⟨_, rfl⟩
  rw [hR] at hnR
  have hRw : R ≤ w1.heap.size := by omega
  have hwR := Lib.hid (show w.heap.size ≤ R by have := HE1.out.size; omega)
  have HW := Lib.hid (HO1.out.wr R)
  clear HX1 hnb hR
  have c2 := HX.out.get 2 _ rfl
  have c8 := HX.out.get 8 _ rfl
  have f2 := HW.out.cell2
  have ff := HW.out.frozen
  go_upto_region 2 with fail
  go_cut [] (fun wx => ∃ bd, Wr R b [] bd wx ∧ (bd = false → k = 0) ∧ Past R b w1 wx)
  case first =>
    rcases hk : decide ((0 : Int) < (k : Int)) with _ | _
    · have hk0 : k = 0 := by have := of_decide_eq_false hk; omega
      subst hk0
      go_wp2
      go_meet
      exact ⟨false, HW.out.mark false, fun _ => (by first | rfl | trivial), (Past.refl R b w1).setCell rfl _⟩
    · have hk0 : (0 : Int) < (k : Int) := of_decide_eq_true hk
      go_wp2
      go_meet
      exact ⟨true, HW.out.mark true, (fun e => by cases e), (Past.refl R b w1).setCell rfl _⟩
  case rest =>
    obtain ⟨bd2, hW2, hp2, hG2⟩ := hcut
    rename World => w2
    have HW2 := Lib.hid hW2
    have HP2 := Lib.hid hp2
    have HG2 := Lib.hid hG2
    have HX2 := Lib.hid (HX.out.past hG2 hnR hnb2)
    have s2 := hG2.size
    clear hW2 hp2 hG2 c2 c8 f2 ff
    have c7 := HX2.out.get 7 _ rfl
    have f2 := HW2.out.cell2
    have ff := HW2.out.frozen
    go_upto_region 4 with fail
    go_cut [] (fun wx => ∃ bd, Wr R b [] bd wx ∧ (bd = false → bd2 = false ∧ ss = []) ∧ Past R b w2 wx)
    case first =>
      rcases bd2 with _ | _
      · rcases hk : decide ((0 : Int) < (ss.length : Int)) with _ | _
        · have hk0 : ss.length = 0 := by have := of_decide_eq_false hk; omega
          obtain rfl := List.length_eq_zero_iff.1 hk0
          go_wp2
          go_meet
          exact ⟨false, HW2.out.mark false, fun _ => ⟨(by first | rfl | trivial), (by first | rfl | trivial)⟩, (Past.refl R b w2).setCell rfl _⟩
        · have hk0 : (0 : Int) < (ss.length : Int) := of_decide_eq_true hk
          go_wp2
          go_meet
          exact ⟨decide (0 < ss.length), HW2.out.mark _, (fun e => absurd (of_decide_eq_false e) (by omega)), (Past.refl R b w2).setCell rfl _⟩
      · go_wp2
        go_meet
        exact ⟨true, HW2.out.mark true, (fun e => by cases e), (Past.refl R b w2).setCell rfl _⟩
    case rest =>
      obtain ⟨bd3, hW3, hp3, hG3⟩ := hcut
      rename World => w3
      have HW3 := Lib.hid hW3
      have HP3 := Lib.hid hp3
      have HG3 := Lib.hid (HG2.out.trans hG3)
      have HX3 := Lib.hid (HX2.out.past hG3 hnR hnb2)
      have s3 := HG3.out.size
      clear hW3 hp3 hG3 c7 f2 ff
      go_upto_region 21 with (go_at_call 70; (with_reducible refine (wr_write R b [] bd3 ⟨#[17]⟩ _ HW3.out (by decide) (by omega)).mono ?_); rintro e w6 ⟨rfl, hW6, hG6⟩; have HW6 := Lib.hid (show Wr R b [17] bd3 w6 from hW6); have HG6 := Lib.hid (HG3.out.trans hG6); have HX6 := Lib.hid (HX3.out.past hG6 hnR hnb2); have s6 := HG6.out.size; clear hW6 hG6; have c0 := HX6.out.get 0 _ rfl; have c1 := HX6.out.get 1 _ rfl; have c2 := HX6.out.get 2 _ rfl; have c3 := HX6.out.get 3 _ rfl; have c4 := HX6.out.get 4 _ rfl; have c5 := HX6.out.get 5 _ rfl; have c6 := HX6.out.get 6 _ rfl; have c7 := HX6.out.get 7 _ rfl; have c8 := HX6.out.get 8 _ rfl)
      have D20 := Lib.hid (Bx.new w6 [.int .i64 kind, .int .i64 ver, .string ⟨#[]⟩, .int .i64 mx, .bool q, .int .i64 ro, .int .i64 ev, .slice sa ss.length sc, .slice ra k rc] 53)
      have E20 := Lib.hid (bbox1 w6 (.cells #[.int .i64 kind, .int .i64 ver, .string ⟨#[]⟩, .int .i64 mx, .bool q, .int .i64 ro, .int .i64 ev, .slice sa ss.length sc, .slice ra k rc] 53))
      obtain ⟨mb, hmb⟩ : ∃ x, w6.heap.size = x := ⟨_, rfl⟩
      change Code.wp _ _ _ _ (w6.alloc (.cells #[.int .i64 kind, .int .i64 ver, .string ⟨#[]⟩, .int .i64 mx, .bool q, .int .i64 ro, .int .i64 ev, .slice sa ss.length sc, .slice ra k rc] 53))
      generalize w6.alloc (.cells #[.int .i64 kind, .int .i64 ver, .string ⟨#[]⟩, .int .i64 mx, .bool q, .int .i64 ro, .int .i64 ev, .slice sa ss.length sc, .slice ra k rc] 53) = w20 at D20 E20 ⊢
      have D21 := Lib.hid (show Bx w20 mb [.int .i64 kind, .int .i64 ver, .string ⟨#[]⟩, .int .i64 mx, .bool q, .int .i64 ro, .int .i64 ev, .slice sa ss.length sc, .slice ra k rc] by rw [← hmb]; exact D20.out)
      rw [hmb]
      clear D20 c0 c1 c2 c3 c4 c5 c6 c7 c8
      have d3 := D21.out.get 3 _ rfl
      have df := D21.out.fz
      go_upto_region 22 with fail
      have D22 := Lib.hid (show Bx (w20.setCell ⟨mb, 3, none⟩ (.int .i64 0)) mb [.int .i64 kind, .int .i64 ver, .string ⟨#[]⟩, .int .i64 0, .bool q, .int .i64 ro, .int .i64 ev, .slice sa ss.length sc, .slice ra k rc] from D21.out.set (i := 3) (by simp))
      have E21 := Lib.hid (show Below w6.heap.size w6 (w20.setCell ⟨mb, 3, none⟩ (.int .i64 0)) from E20.out.setCell (p := ⟨mb, 3, none⟩) (by show w6.heap.size ≤ mb; omega) _)
      generalize w20.setCell ⟨mb, 3, none⟩ (.int .i64 0) = w21 at D22 E21 ⊢
      have HW21 := Lib.hid (HW6.out.below E21.out)
      have HG21 := Lib.hid (HG6.out.trans (Past.of_below (R := R) (b := b) E21.out (by omega)))
      have HX21 := Lib.hid (HX6.out.below E21.out)
      have s21 := HG21.out.size
      clear D21 E20 E21 d3 df hmb
      have d0 := D22.out.get 0 _ rfl
      have d1 := D22.out.get 1 _ rfl
      have d2 := D22.out.get 2 _ rfl
      have d3 := D22.out.get 3 _ rfl
      have d4 := D22.out.get 4 _ rfl
      have d5 := D22.out.get 5 _ rfl
      have d6 := D22.out.get 6 _ rfl
      have d7 := D22.out.get 7 _ rfl
      have d8 := D22.out.get 8 _ rfl
      have c1 := HX21.out.get 1 _ rfl
      have c3 := HX21.out.get 3 _ rfl
      have f2 := HW21.out.cell2
      have ff := HW21.out.frozen
      obtain ⟨r, hr⟩ : ∃ r, r = bareB 0 q ro ev ss.length k := ⟨_, rfl⟩
      have HRr := Lib.hid hr
      have HB := Lib.hid (show Calls Tryz.prog 142 #[.agg #[.int .i64 kind, .int .i64 ver, .string ⟨#[]⟩, .int .i64 0, .bool q, .int .i64 ro, .int .i64 ev, .slice sa ss.length sc, .slice ra k rc]] w21 fun e w' => e = .returned (.bool r) ∧ Below w21.heap.size w21 w' by rw [hr]; exact bare_is kind ver ⟨#[]⟩ 0 q ro ev sa ra ss.length sc k rc w21)
      clear hr
      go_cut [] (fun wx => ∃ bd, Wr R b [17] bd wx ∧ (bd = false → bd3 = false ∧ r = true ∧ ((ver = 1 ∧ mx = 0) ∨ (ver = 2 ∧ mx ≠ 0))) ∧ Past R b w21 wx)
      case first =>
        rcases bd3 with _ | _
        · rcases r with _ | _
          · go_wp2_with ((with_reducible refine HB.out.mono ?_); rintro e w22 ⟨rfl, g22⟩; have HW22 := Lib.hid (HW21.out.below g22); have HG22 := Lib.hid (Past.of_below (R := R) (b := b) g22 (by omega)); have HX22 := HX21.out.below g22; have c1 := HX22.get 1 _ rfl; have c3 := HX22.get 3 _ rfl; have f2 := HW22.out.cell2; have ff := HW22.out.frozen; clear g22)
            go_meet
            exact ⟨true, HW22.out.mark true, (fun e => by cases e), HG22.out.setCell rfl _⟩
          · rcases h1 : (ver == 1) with _ | _
            · rcases h2 : (ver == 2) with _ | _
              · have h1n : (ver != 1) = true := by simp [bne, h1]
                have h2n : (ver != 2) = true := by simp [bne, h2]
                go_wp2_with ((with_reducible refine HB.out.mono ?_); rintro e w22 ⟨rfl, g22⟩; have HW22 := Lib.hid (HW21.out.below g22); have HG22 := Lib.hid (Past.of_below (R := R) (b := b) g22 (by omega)); have HX22 := HX21.out.below g22; have c1 := HX22.get 1 _ rfl; have c3 := HX22.get 3 _ rfl; have f2 := HW22.out.cell2; have ff := HW22.out.frozen; clear g22)
                go_meet
                exact ⟨true, HW22.out.mark true, (fun e => by cases e), HG22.out.setCell rfl _⟩
              · obtain rfl : ver = 2 := by simpa using h2
                rcases h3 : (mx == 0) with _ | _
                · have h3n : mx ≠ 0 := by simpa using h3
                  go_wp2_with ((with_reducible refine HB.out.mono ?_); rintro e w22 ⟨rfl, g22⟩; have HW22 := Lib.hid (HW21.out.below g22); have HG22 := Lib.hid (Past.of_below (R := R) (b := b) g22 (by omega)); have HX22 := HX21.out.below g22; have c1 := HX22.get 1 _ rfl; have c3 := HX22.get 3 _ rfl; have f2 := HW22.out.cell2; have ff := HW22.out.frozen; clear g22)
                  go_meet
                  exact ⟨false, HW22.out.mark _, fun _ => by simp [h3n], HG22.out.setCell rfl _⟩
                · obtain rfl : mx = 0 := by simpa using h3
                  go_wp2_with ((with_reducible refine HB.out.mono ?_); rintro e w22 ⟨rfl, g22⟩; have HW22 := Lib.hid (HW21.out.below g22); have HG22 := Lib.hid (Past.of_below (R := R) (b := b) g22 (by omega)); have HX22 := HX21.out.below g22; have c1 := HX22.get 1 _ rfl; have c3 := HX22.get 3 _ rfl; have f2 := HW22.out.cell2; have ff := HW22.out.frozen; clear g22)
                  go_meet
                  exact ⟨true, HW22.out.mark true, (fun e => by cases e), HG22.out.setCell rfl _⟩
            · obtain rfl : ver = 1 := by simpa using h1
              rcases h3 : (mx == 0) with _ | _
              · have h3n : mx ≠ 0 := by simpa using h3
                go_wp2_with ((with_reducible refine HB.out.mono ?_); rintro e w22 ⟨rfl, g22⟩; have HW22 := Lib.hid (HW21.out.below g22); have HG22 := Lib.hid (Past.of_below (R := R) (b := b) g22 (by omega)); have HX22 := HX21.out.below g22; have c1 := HX22.get 1 _ rfl; have c3 := HX22.get 3 _ rfl; have f2 := HW22.out.cell2; have ff := HW22.out.frozen; clear g22)
                go_meet
                exact ⟨true, HW22.out.mark true, (fun e => by cases e), HG22.out.setCell rfl _⟩
              · obtain rfl : mx = 0 := by simpa using h3
                go_wp2_with ((with_reducible refine HB.out.mono ?_); rintro e w22 ⟨rfl, g22⟩; have HW22 := Lib.hid (HW21.out.below g22); have HG22 := Lib.hid (Past.of_below (R := R) (b := b) g22 (by omega)); have HX22 := HX21.out.below g22; have c1 := HX22.get 1 _ rfl; have c3 := HX22.get 3 _ rfl; have f2 := HW22.out.cell2; have ff := HW22.out.frozen; clear g22)
                go_meet
                exact ⟨false, HW22.out.mark _, fun _ => by simp, HG22.out.setCell rfl _⟩
        · go_wp2
          go_meet
          exact ⟨true, HW21.out.mark true, (fun e => by cases e), (Past.refl R b w21).setCell rfl _⟩
      case rest =>
        obtain ⟨bd22, hW22, hp22, hG22⟩ := hcut
        rename World => w22
        have HW22 := Lib.hid hW22
        have HP22 := Lib.hid hp22
        have HG22 := Lib.hid (HG21.out.trans hG22)
        have HX22 := Lib.hid (HX21.out.past hG22 hnR hnb2)
        have s22 := HG22.out.size
        clear hW22 hp22 hG22 c1 c3 f2 ff HB d0 d1 d2 d3 d4 d5 d6 d7 d8
        have c3 := HX22.out.get 3 _ rfl
        have HZ1 := Lib.hid (show ([17] : List UInt8).length ≤ 1073741824 by decide)
        go_wp2_with (first
          | (go_at_call 139; (with_reducible refine (wput1 mx b1 HZ1.out _ HW22.out (by omega)).mono ?_); rintro e w23 ⟨u23, bd23, hu23, hp23, rfl, hW23, hG23⟩; have HP23 := Lib.hid hp23; have HW23 := Lib.hid hW23; have HG23 := Lib.hid (HG22.out.trans hG23); have s23 := HG23.out.size; have HZ23 := Lib.hid (show ([17] ++ u23).length ≤ 1073741824 by rw [List.length_append]; show 1 + _ ≤ _; omega); have HY23 := Lib.hid (show ([17] ++ u23 ++ [0, 0]).length + (⟨#[0, 0, 0, 0]⟩ : ByteArray).size ≤ 2000000 by rw [List.length_append, List.length_append]; show 1 + _ + 2 + 4 ≤ _; omega); clear hW23 hG23 hp23)
          | (go_at_call 139; (with_reducible refine (wput02 HZ23.out _ HW23.out (by omega)).mono ?_); rintro e w24 ⟨rfl, hW24, hG24⟩; have HW24 := Lib.hid hW24; have HG24 := Lib.hid (HG23.out.trans hG24); have s24 := HG24.out.size; have HZ24 := Lib.hid (Nat.le_trans HY23.out (show 2000000 ≤ 140737488355328 by decide)); clear hW24 hG24)
          | (go_at_call 140; (with_reducible refine (waddr w24.heap.size 1 ⟨#[0, 0, 0, 0]⟩ HZ24.out (w24.alloc (.cells #[.string ⟨#[0, 0, 0, 0]⟩] 25)) ((Bx.new w24 [.string ⟨#[0, 0, 0, 0]⟩] 25).get 0 _ rfl) (HW24.out.below (bbox1 _ _)) (by rw [World.size_alloc]; omega)).mono ?_); rintro e w25 ⟨rfl, hW25, hG25⟩; have HW25 := Lib.hid hW25; have HG25 := Lib.hid ((HG24.out.alloc (by omega) _).trans hG25); have s25 := HG25.out.size; clear hW25 hG25))
        go_end0
        refine ⟨rfl, R, _, bd23, HW25.out, by omega, hwR.out, ?_, ?_, fun e => ?_, ?_⟩
        · simp only [List.length_append]
          show 1 ≤ 1 + _ + _ + _
          omega
        · have h1 : ([17] ++ u23 ++ [0, 0]).length + 4 ≤ 2000000 := HY23.out
          rw [List.length_append]
          show _ + 4 ≤ _
          omega
        · obtain ⟨e22, hm0, hm1, hue⟩ := HP23.out e
          obtain ⟨eu, hre, hv12⟩ := HP22.out e22
          obtain ⟨e2, hsse⟩ := HP3.out eu
          have hk := HP2.out e2
          refine ⟨hk, hsse, by rw [← HRr.out]; exact hre, hv12, hm0, hm1, ?_⟩
          rw [hue]
          rfl
        · exact (Past.of_below (R := w.heap.size) HE1.out (Nat.le_refl _)).trans (HG25.out.mono hwR.out)
end Go.Proofs.YticdmepplfgdiaaGreatDoor
