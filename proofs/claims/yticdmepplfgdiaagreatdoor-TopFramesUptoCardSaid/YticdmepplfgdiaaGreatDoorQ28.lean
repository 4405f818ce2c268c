/-
  igmp's queries of version 3 are written. Conditions: those of each.
-/
import Derived.Test.YticdmepplfgdiaaGreatDoorQ26
set_option linter.unusedVariables false
set_option linter.unusedSimpArgs false
namespace Go.Proofs.YticdmepplfgdiaaGreatDoor
open Go.RowKit
set_option maxRecDepth 100000 in
set_option maxHeartbeats 8000000 in
theorem ask_g3f {b n0 : Nat} (kind mx ro ev : Int) (group : ByteArray) (hge : group.toList.isEmpty = false) (hgs : group.size ≤ 1048576) (sa ra : Option Addr) (ss : List ByteArray) (sc k rc : Nat) (b1 : mx ≤ 9223372036854775807) (b2 : ev ≤ 9223372036854775807) (b3 : -9223372036854775808 ≤ ro) (b4 : ro ≤ 9223372036854775807) (hss : ∀ s, s ∈ ss → s.size ≤ 1048576) (hln : ss.length ≤ 1048576) (w : World) (hs : ∀ W, Below n0 w W → Strs W (.slice sa ss.length sc) ss) (hn0 : n0 ≤ b) (h : Wr0 b w) :
    Calls Tryz.prog 62 #[.pointer (some ⟨b, 0, none⟩), .agg #[.int .i64 kind, .int .i64 3, .string group, .int .i64 mx, .bool false, .int .i64 ro, .int .i64 ev, .slice sa ss.length sc, .slice ra k rc]] w fun e w' => e = .returned (.tuple #[]) ∧ ∃ R l bd, Wr R b l bd w' ∧ R ≤ w'.heap.size ∧ w.heap.size ≤ R ∧ 4 ≤ l.length ∧ l.length ≤ 2199023255552 ∧ (bd = false → k = 0 ∧ grp4 group = true ∧ Ask3 group mx false ro ev ss l) ∧ Past w.heap.size b w w' := by
  have hbw := h.lt
  have HS := Lib.hid hs
  have HSS := Lib.hid hss
  have HO1 := Lib.hid (h.below (bbox1 w (.cells #[.int .i64 kind, .int .i64 3, .string group, .int .i64 mx, .bool false, .int .i64 ro, .int .i64 ev, .slice sa ss.length sc, .slice ra k rc] 53)))
  have HX1 := Lib.hid (Bx.new w [.int .i64 kind, .int .i64 3, .string group, .int .i64 mx, .bool false, .int .i64 ro, .int .i64 ev, .slice sa ss.length sc, .slice ra k rc] 53)
  have HE1 := Lib.hid (bbox1 w (.cells #[.int .i64 kind, .int .i64 3, .string group, .int .i64 mx, .bool false, .int .i64 ro, .int .i64 ev, .slice sa ss.length sc, .slice ra k rc] 53))
  clear h hs hss
  go_enter Tryz.func62, Tryz.ntmps62
  go_upto_region 1 with fail
  obtain ⟨nb, hnb⟩ : ∃ x, w.heap.size = x := ⟨_, rfl⟩
  change Code.wp _ _ _ _ (w.alloc (.cells #[.int .i64 kind, .int .i64 3, .string group, .int .i64 mx, .bool false, .int .i64 ro, .int .i64 ev, .slice sa ss.length sc, .slice ra k rc] 53))
  generalize w.alloc (.cells #[.int .i64 kind, .int .i64 3, .string group, .int .i64 mx, .bool false, .int .i64 ro, .int .i64 ev, .slice sa ss.length sc, .slice ra k rc] 53) = w1 at HO1 HX1 HE1 ⊢
  have HX := Lib.hid (show Bx w1 nb [.int .i64 kind, .int .i64 3, .string group, .int .i64 mx, .bool false, .int .i64 ro, .int .i64 ev, .slice sa ss.length sc, .slice ra k rc] by rw [← hnb]; exact HX1.out)
  rw [hnb]
  have HNB := Lib.hid hnb
  have hnR := HX.out.1
  have hnb2 : nb ≠ b := by omega
  obtain ⟨R, hR⟩ : ∃ x, w1.heap.size = x := ⟨_, rfl⟩
  rw [hR] at hnR
  have HR := Lib.hid hR
  have hRw : R ≤ w1.heap.size := by omega
  have hwR := Lib.hid (show w.heap.size ≤ R by have := HE1.out.size; omega)
  have HW := Lib.hid (HO1.out.wr R)
  clear HX1 hnb hR
  have c2 := HX.out.get 2 _ rfl
  have c8 := HX.out.get 8 _ rfl
  have f2 := HW.out.cell2
  have ff := HW.out.frozen
  go_upto_region 2 with fail
  go_cut [] (fun wx => ∃ bd, Wr R b [] bd wx ∧ (bd = false → k = 0 ∧ grp4 group = true) ∧ Past R b w1 wx)
  case first =>
    rcases hk : decide ((0 : Int) < (k : Int)) with _ | _
    · have hk0 : k = 0 := by have := of_decide_eq_false hk; omega
      subst hk0
      go_wp2_with ((with_reducible refine (isGroup_4 group _).mono ?_); rintro e w2 ⟨rfl, g2⟩; have HW2 := Lib.hid (HW.out.below g2); have HG2 := Lib.hid (Past.of_below (R := R) (b := b) g2 hRw); have f2 := HW2.out.cell2; have ff := HW2.out.frozen; clear g2)
      go_meet
      exact ⟨!grp4 group, HW2.out.mark _, fun e => ⟨(by first | rfl | trivial), by simpa using e⟩, HG2.out.setCell rfl _⟩
    · have hk0 : (0 : Int) < (k : Int) := of_decide_eq_true hk
      go_wp2
      go_meet
      exact ⟨true, HW.out.mark true, (fun e => by cases e), (Past.refl R b w1).setCell rfl _⟩
  case rest =>
    obtain ⟨bd2, hW2, hp2, hG2⟩ := hcut
    rename World => w2
    have HW2 := Lib.hid hW2
    have HP2 := Lib.hid hp2
    have HG2 := Lib.hid hG2
    have HX2 := Lib.hid (HX.out.past hG2 hnR hnb2)
    have s2 := hG2.size
    clear hW2 hp2 hG2 c2 c8 f2 ff
    go_upto_region 12 with (first
      | (go_at_call 70; (with_reducible refine (wr_write R b [] bd2 ⟨#[17]⟩ _ HW2.out (by decide) (by omega)).mono ?_); rintro e w6 ⟨rfl, hW6, hG6⟩; have HW6 := Lib.hid (show Wr R b [17] bd2 w6 from hW6); have HG6 := Lib.hid (HG2.out.trans hG6); have HX6 := Lib.hid (HX2.out.past hG6 hnR hnb2); have s6 := HG6.out.size; clear hW6 hG6; have c1 := HX6.out.get 1 _ rfl; have c3 := HX6.out.get 3 _ rfl)
      | (go_at_call 138; (with_reducible refine (wtime mx b1 (by decide) _ HW6.out (by omega)).mono ?_); rintro e w8 ⟨c, bd8, hc, hp8, rfl, hW8, hG8⟩; have HC8 := Lib.hid hc; have HP8 := Lib.hid hp8; have HW8 := Lib.hid (show Wr R b [17, UInt8.ofNat c] bd8 w8 from hW8); have HG8 := Lib.hid (HG6.out.trans hG8); have HX8 := Lib.hid (HX6.out.past hG8 hnR hnb2); have s8 := HG8.out.size; have HZ8 := Lib.hid (show ([17, UInt8.ofNat c] : List UInt8).length ≤ 1073741824 by show 2 ≤ _; decide); clear hW8 hG8 hc hp8)
      | (go_at_call 139; (with_reducible refine (wput02 HZ8.out _ HW8.out (by omega)).mono ?_); rintro e w9 ⟨rfl, hW9, hG9⟩; have HW9 := Lib.hid (show Wr R b [17, UInt8.ofNat c, 0, 0] bd8 w9 from hW9); have HG9 := Lib.hid (HG8.out.trans hG9); have HX9 := Lib.hid (HX8.out.past hG9 hnR hnb2); have s9 := HG9.out.size; have HZ9 := Lib.hid (show ([17, UInt8.ofNat c, 0, 0] : List UInt8).length + (group : ByteArray).size ≤ 140737488355328 by show 4 + group.size ≤ _; omega); clear hW9 hG9)
      | (go_at_call 140; (with_reducible refine (waddr w9.heap.size 1 group HZ9.out (w9.alloc (.cells #[.string group] 25)) ((Bx.new w9 [.string group] 25).get 0 _ rfl) (HW9.out.below (bbox1 _ _)) (by rw [World.size_alloc]; omega)).mono ?_); rintro e w10 ⟨rfl, hW10, hG10⟩; have HW10 := Lib.hid (show Wr R b ([17, UInt8.ofNat c, 0, 0] ++ (group : ByteArray).data.toList) bd8 w10 from hW10); have HG10 := Lib.hid ((HG9.out.alloc (by omega) _).trans hG10); have HX10 := Lib.hid ((HX9.out.alloc (.cells #[.string group] 25)).past hG10 hnR hnb2); have s10 := HG10.out.size; clear hW10 hG10; have c5 := HX10.out.get 5 _ rfl))
    have HL10 := Lib.hid (show ([17, UInt8.ofNat c, 0, 0] ++ (group : ByteArray).data.toList).length ≤ 1048600 by rw [List.length_append, size_toList]; show 4 + group.size ≤ _; omega)
    have HL4 := Lib.hid (show 4 ≤ ([17, UInt8.ofNat c, 0, 0] ++ (group : ByteArray).data.toList).length by rw [List.length_append]; show 4 ≤ 4 + _; omega)
    obtain ⟨l0, hl0⟩ : ∃ x, x = [17, UInt8.ofNat c, 0, 0] ++ (group : ByteArray).data.toList := ⟨_, rfl⟩
    rw [← hl0] at HW10 HL10 HL4
    have HL0 := Lib.hid hl0
    clear hl0 c1 c3 c5
    have c7 := HX10.out.get 7 _ rfl
    have f2 := HW10.out.cell2
    have ff := HW10.out.frozen
    obtain ⟨r, hr⟩ : ∃ r : Bool, r = true ↔ (∀ s, s ∈ ss → s.size = 4) ∧ ss.length ≤ 60 := by
      by_cases hq : (∀ s, s ∈ ss → s.size = 4) ∧ ss.length ≤ 60
      · exact ⟨true, iff_of_true rfl hq⟩
      · exact ⟨false, iff_of_false (by decide) hq⟩
    have HRr := Lib.hid hr
    clear hr
    have HSt := Lib.hid (fun (W : World) (hW : Past R b w1 W) => HS.out W ((HE1.out.mono (show n0 ≤ w.heap.size by omega)).trans (hW.to_below (show n0 ≤ R by have := hwR.out; omega) hn0)))
    have HF := Lib.hid (fit_any _ ss r HRr.out (by omega) _ (HSt.out _ HG10.out))
    go_cut [] (fun wx => ∃ bd, Wr R b l0 bd wx ∧ (bd = false → bd8 = false ∧ ro ≤ 7 ∧ r = true) ∧ Past R b w10 wx)
    case first =>
      rcases bd8 with _ | _
      · rcases hk : decide ((7 : Int) < ro) with _ | _
        · have hk0 : ¬ (7 : Int) < ro := of_decide_eq_false hk
          have hk1 : ro ≤ 7 := by omega
          go_wp2_with ((with_reducible refine HF.out.mono ?_); rintro e w11 ⟨rfl, rfl⟩)
          go_meet
          exact ⟨!r, HW10.out.mark _, fun e => ⟨(by first | rfl | trivial), hk1, by simpa using e⟩, (Past.refl R b w10).setCell rfl _⟩
        · have hk0 : (7 : Int) < ro := of_decide_eq_true hk
          go_wp2
          go_meet
          exact ⟨true, HW10.out.mark true, (fun e => by cases e), (Past.refl R b w10).setCell rfl _⟩
      · go_wp2
        go_meet
        exact ⟨true, HW10.out.mark true, (fun e => by cases e), (Past.refl R b w10).setCell rfl _⟩
    case rest =>
      obtain ⟨bd12, hW12, hp12, hG12⟩ := hcut
      rename World => w12
      have HW12 := Lib.hid hW12
      have HP12 := Lib.hid hp12
      have HG12 := Lib.hid (HG10.out.trans hG12)
      have HX12 := Lib.hid (HX10.out.past hG12 hnR hnb2)
      have s12 := HG12.out.size
      clear hW12 hp12 hG12 c7 f2 ff HF
      have c4 := HX12.out.get 4 _ rfl
      have c5 := HX12.out.get 5 _ rfl
      have f2 := HW12.out.cell2
      have ff := HW12.out.frozen
      obtain ⟨f, hf⟩ : ∃ f, f = ro := ⟨_, rfl⟩
      have HFf := Lib.hid (show (ro ≤ 7 ∧ 0 ≤ ro → f = ro + 0) ∧ -9223372036854775808 ≤ f ∧ f ≤ 9223372036854775807 by rw [hf]; exact ⟨fun h => by omega, b3, b4⟩)
      go_upto_region 15 with fail
      go_cut [] (fun wx => ∃ bd, Wr R b l0 bd wx ∧ (bd = false → bd12 = false ∧ 0 ≤ ro) ∧ Past R b w12 wx)
      case first =>
        rcases bd12 with _ | _
        · rcases hk : decide (ro < (0 : Int)) with _ | _
          · have hk0 : ¬ ro < (0 : Int) := of_decide_eq_false hk
            have hk1 : 0 ≤ ro := by omega
            go_wp2
            go_meet
            exact ⟨false, HW12.out.mark _, fun _ => ⟨(by first | rfl | trivial), hk1⟩, (Past.refl R b w12).setCell rfl _⟩
          · have hk0 : ro < (0 : Int) := of_decide_eq_true hk
            go_wp2
            go_meet
            exact ⟨true, HW12.out.mark true, (fun e => by cases e), (Past.refl R b w12).setCell rfl _⟩
        · go_wp2
          go_meet
          exact ⟨true, HW12.out.mark true, (fun e => by cases e), (Past.refl R b w12).setCell rfl _⟩
      case rest =>
        obtain ⟨bd15, hW15, hp15, hG15⟩ := hcut
        rename World => w15
        have HW15 := Lib.hid hW15
        have HP15 := Lib.hid hp15
        have HG15 := Lib.hid (HG12.out.trans hG15)
        have HX15 := Lib.hid (HX12.out.past hG15 hnR hnb2)
        have s15 := HG15.out.size
        clear hW15 hp15 hG15 c4 c5 f2 ff
        go_upto_region 16 with fail
        go_cut [] (fun wx => ∃ (u : List UInt8) (bd : Bool), u.length ≤ 4 ∧ Wr R b (l0 ++ u) bd wx ∧ (bd = false → bd15 = false ∧ (0 ≤ ro → ro < 256 ∧ u = [UInt8.ofNat (ro).toNat])) ∧ Past R b w15 wx)
        case first =>
          have HQ := Lib.hid (wput1 (max ro 0) (by omega) (by have := HL10.out; omega) w15 HW15.out (by omega))
          go_wp2_with (go_at_call 139; (with_reducible refine HQ.out.mono ?_); rintro e w16 ⟨u, bd16, hu, hp16, rfl, hW16, hG16⟩)
          go_meet
          exact ⟨u, bd16, hu, hW16, fun e => ⟨(hp16 e).1, fun h => ⟨by have := (hp16 e).2.2.1; omega, by rw [(hp16 e).2.2.2, show max ro 0 = ro by omega]⟩⟩, hG16⟩
        case rest =>
          obtain ⟨u16, bd16, hu16, hW16, hp16, hG16⟩ := hcut
          rename World => w16
          have HW16 := Lib.hid hW16
          have HP16 := Lib.hid hp16
          have HG16 := Lib.hid (HG15.out.trans hG16)
          have HX16 := Lib.hid (HX15.out.past hG16 hnR hnb2)
          have s16 := HG16.out.size
          have HL16 := Lib.hid (show (l0 ++ u16).length ≤ 1048700 by rw [List.length_append]; have := HL10.out; omega)
          clear hW16 hp16 hG16
          have c6 := HX16.out.get 6 _ rfl
          go_wp2_with (first
            | (go_at_call 138; (with_reducible refine (wtime ev b2 (by have := HL16.out; omega) _ HW16.out (by omega)).mono ?_); rintro e w17 ⟨d, bd17, hd, hp17, rfl, hW17, hG17⟩; have HD17 := Lib.hid hd; have HP17 := Lib.hid hp17; have HW17 := Lib.hid hW17; have HG17 := Lib.hid (HG16.out.trans hG17); have HX17 := Lib.hid (HX16.out.past hG17 hnR hnb2); have s17 := HG17.out.size; have HL17 := Lib.hid (show (l0 ++ u16 ++ [UInt8.ofNat d]).length ≤ 1048800 by rw [List.length_append]; have := HL16.out; show _ + 1 ≤ _; omega); clear hW17 hG17 hd hp17; have c7 := HX17.out.get 7 _ rfl)
            | (go_at_call 139; (with_reducible refine (wput2 (ss.length : Int) (by omega) (by have := HL17.out; omega) _ HW17.out (by omega)).mono ?_); rintro e w18 ⟨u18, bd18, hu18, hp18, rfl, hW18, hG18⟩; have HP18 := Lib.hid hp18; have HW18 := Lib.hid hW18; have HG18 := Lib.hid (HG17.out.trans hG18); have HX18 := Lib.hid (HX17.out.past hG18 hnR hnb2); have s18 := HG18.out.size; have HL18 := Lib.hid (show (l0 ++ u16 ++ [UInt8.ofNat d] ++ u18).length ≤ 1048900 by rw [List.length_append]; have := HL17.out; omega); clear hW18 hG18 hp18; have c7 := HX18.out.get 7 _ rfl)
            | (go_at_call 140; (with_reducible refine (waddrs _ ss HSS.out hln (by have := HL18.out; omega) _ (HSt.out _ HG18.out) HW18.out (by omega) (fun W hW => HSt.out W (HG18.out.trans hW))).mono ?_); rintro e w19 ⟨rfl, hW19, hG19⟩; have HW19 := Lib.hid hW19; have HG19 := Lib.hid (HG18.out.trans hG19); have s19 := HG19.out.size; clear hW19 hG19))
          refine bodyPost_ret (v := .tuple #[]) (by simp [results, Tryz.results62, go_sem]) rfl ?_
          refine ⟨rfl, R, _, bd18, HW19.out, by omega, hwR.out, ?_, ?_, fun e => ?_, ?_⟩
          · simp only [List.length_append]
            have := HL4.out
            omega
          · have h1 := HL18.out
            have h2 := cat_len ss HSS.out
            have h3 : ss.length * 1048576 ≤ 1048576 * 1048576 := Nat.mul_le_mul_right _ hln
            rw [List.length_append]
            omega
          · obtain ⟨e17, -, -, hu18e⟩ := HP18.out e
            obtain ⟨e16, hde⟩ := HP17.out e17
            obtain ⟨e15, hu16e⟩ := HP16.out e16
            obtain ⟨e12, hro0⟩ := HP15.out e15
            obtain ⟨e8, hro7, hre⟩ := HP12.out e12
            obtain ⟨e3, hce⟩ := HP8.out e8
            obtain ⟨hk, hsse⟩ := HP2.out e3
            obtain ⟨hf4, hl60⟩ := HRr.out.1 hre
            refine ⟨hk, hsse, hro0, hro7, hf4, hl60, c, d, HC8.out, HD17.out, hce, hde, ?_⟩
            rw [(hu16e hro0).2, hu18e, HL0.out, Int.toNat_natCast]
            rfl
          · exact (Past.of_below (R := w.heap.size) HE1.out (Nat.le_refl _)).trans (HG19.out.mono hwR.out)
end Go.Proofs.YticdmepplfgdiaaGreatDoor
