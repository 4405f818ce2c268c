/-
  What the document's own Decode (siphonref05) computes. Conditions: those of each case.
-/
import Derived.Test.YtjhppbooakekcaaV6Ok
import Derived.Test.YtjhppbooakekcaaROptions
import Derived.Test.YtjhppbooakekcaaRAt
namespace Go.Proofs.Ytjhppbooakekcaa
open Go.RowKit

set_option maxRecDepth 100000 in
theorem rv6dec_cut (s : ByteArray) (hs : s.size < 40) (w : World) :
    Calls Try.prog 11 #[.string s] w fun e w' => e = .returned (.tuple #[zeroV6, .int .i64 2]) ∧ Below w.heap.size w w' := by
  go_enter Try.func11, Try.ntmps11
  go_wp2
  exact bodyPost_ret (v := .tuple #[zeroV6, .int .i64 2]) (by simp [zeroV6, results, Try.results11, go_sem]) rfl ⟨rfl, by go_grown⟩

set_option maxRecDepth 100000 in
set_option maxHeartbeats 1000000 in
theorem rv6dec_form (s : ByteArray) (hs : 40 ≤ s.size) (hl : s.size ≤ 281474976710656) (h0 : (PlainAid.bt s 0 / 16 != 6) = true) (w : World) :
    Calls Try.prog 11 #[.string s] w fun e w' => e = .returned (.tuple #[zeroV6, .int .i64 3]) ∧ Below w.heap.size w w' := by
  have hbt := PlainAid.get_bt s
  have b0 := PlainAid.bt_nonneg s 0
  have b0' := PlainAid.bt_le s 0
  go_enter Try.func11, Try.ntmps11
  go_wp2
  exact bodyPost_ret (v := .tuple #[zeroV6, .int .i64 3]) (by simp [zeroV6, results, Try.results11, go_sem]) rfl ⟨rfl, by go_grown⟩

set_option maxRecDepth 100000 in
set_option maxHeartbeats 1000000 in
theorem rv6dec_short (s : ByteArray) (n : Nat) (hs : 40 ≤ s.size) (hl : s.size ≤ 281474976710656) (hG : RAts s 4 2 n) (h0 : (PlainAid.bt s 0 / 16 != 6) = false) (hn : s.size < 40 + n) (w : World) :
    Calls Try.prog 11 #[.string s] w fun e w' => e = .returned (.tuple #[zeroV6, .int .i64 2]) ∧ Below w.heap.size w w' := by
  have hbt := PlainAid.get_bt s
  have b0 := PlainAid.bt_nonneg s 0
  have b0' := PlainAid.bt_le s 0
  have d1 : decide ((s.size : Int) - 40 < (n : Int)) = true := decide_eq_true (by omega)
  go_enter Try.func11, Try.ntmps11
  go_wp2_with ((with_reducible refine (hG.to _).mono ?_); rintro e w1 ⟨rfl, g1⟩; obtain ⟨z, c0, c1, c2, c3, c4, c5, cf⟩ := (Box6.new _ _ _ _ _ _ _ _).below g1)
  exact bodyPost_ret (v := .tuple #[zeroV6, .int .i64 2]) (by simp [zeroV6, results, Try.results11, go_sem, c0, c1, c2, c3, c4, c5]) rfl ⟨rfl, by (repeat (refine Below.setCell ?_ (by simp) _)); exact bstep (bbox1 _ _) g1⟩

set_option maxRecDepth 100000 in
set_option maxHeartbeats 4000000 in
theorem rv6dec_in (s src dst data : ByteArray) (n : Nat) (q7 q6 : Int) (v : Value) (x : Int) (hs : 40 ≤ s.size) (hl : s.size ≤ 281474976710656) (hG : RAts s 4 2 n) (h0 : (PlainAid.bt s 0 / 16 != 6) = false) (hn : 40 + n ≤ s.size)
    (e1 : s.extract 8 24 = src) (e2 : s.extract 24 40 = dst) (e3 : s.extract 40 (40 + n) = data) (e7 : PlainAid.bt s 7 = q7) (e6 : PlainAid.bt s 6 = q6) (hcase : V6Case q7 q6 src dst data v x) (w : World) :
    Calls Try.prog 11 #[.string s] w fun e w' => e = .returned (.tuple #[v, .int .i64 x]) ∧ Below w.heap.size w w' := by
  have hbt := PlainAid.get_bt s
  have hdz : data.size = n := by rw [← e3, ByteArray.size_extract]; omega
  have d1 : decide ((s.size : Int) - 40 < (n : Int)) = false := decide_eq_false (by omega)
  have i1 : IntKind.i64.wrap (40 + (n : Int)) = 40 + (n : Int) := IntWalk.i64_in _ ⟨by omega, by omega⟩
  have k1 := slice_mid s 8 24 (by omega) (by omega) 8 24 rfl rfl
  have k2 := slice_mid s 24 40 (by omega) (by omega) 24 40 rfl rfl
  have k3 := slice_mid s 40 (40 + n) (by omega) (by omega) 40 (40 + (n : Int)) rfl (by omega)
  rw [e1] at k1
  rw [e2] at k2
  rw [e3] at k3
  have b0 := PlainAid.bt_nonneg s 0
  have b0' := PlainAid.bt_le s 0
  have b7 := PlainAid.bt_nonneg s 7
  have b7' := PlainAid.bt_le s 7
  have b6 := PlainAid.bt_nonneg s 6
  have b6' := PlainAid.bt_le s 6
  rw [e7] at b7 b7'
  rw [e6] at b6 b6'
  have wr7 : IntKind.i64.wrap q7 = q7 := IntWalk.i64_in _ ⟨by omega, by omega⟩
  have wr6 : IntKind.i64.wrap q6 = q6 := IntWalk.i64_in _ ⟨by omega, by omega⟩
  have HC := Lib.hid hcase
  have HDZ := Lib.hid hdz
  clear e1 e2 e3 hcase hdz
  go_enter Try.func11, Try.ntmps11
  go_upto_region 8 with ((with_reducible refine (hG.to _).mono ?_); rintro e w1 ⟨rfl, g1⟩; have B1 := (Box6.new _ _ _ _ _ _ _ _).below g1)
  go_cut [5] (fun s6 wx => s6 = .pointer (some ⟨w1.heap.size, 0, none⟩) ∧ Box6 wx w1.heap.size (.int .i64 q7) (.int .i64 q6) (.string src) (.string dst) (.bool false) (.string data) ∧ Box6 wx w.heap.size (.int .i64 0) (.int .i64 0) (.string ⟨#[]⟩) (.string ⟨#[]⟩) (.bool false) (.string ⟨#[]⟩) ∧ Below w.heap.size w wx)
  case first =>
    go_region_held3 (fun _ => True) (trivial) (fail)
    all_goals
      go_wp2_with fail
      go_meet
      refine ⟨rfl, ?_, ?_, ?_⟩
      · exact Box6.new w1 _ _ _ _ _ _ _
      · exact B1.below (Below.drew (bbox1 _ _))
      · exact Below.drew ((bstep (bbox1 _ _) g1).alloc (by have := g1.size; simp at this; omega) _)
  case rest =>
    have hnn : n ≤ 281474976710656 := by omega
    clear hbt d1 i1 k1 k2 k3 b0 b0' hG h0 hn e7 e6 hs hl
    obtain ⟨rfl, B2, B3, g2⟩ := hcut
    have B2q := B2
    have B3q := B3
    obtain ⟨y2, p0, p1, p2, p3, p4, p5, pf⟩ := B2q
    obtain ⟨y3, r0, r1, r2, r3, r4, r5, rf⟩ := B3q
    have hlt : w.heap.size < w1.heap.size := by have h := g1.size; simp at h; omega
    rcases HC.out with ⟨h6, rfl, rfl⟩ | ⟨h6, hz, rfl, rfl⟩ | ⟨m, h6, hz, hm, hb1, hbig, rfl, rfl⟩ | ⟨m, h6, hz, hm, hb1, hfit, hrest⟩
    · -- no options ahead
      clear HC HDZ B2 B3
      go_wp2
      exact bodyPost_ret (v := .tuple #[v6 q7 q6 src dst false data, .int .i64 0]) (by simp [v6, results, Try.results11, go_sem, r0, r1, r2, r3, r4, r5]) rfl ⟨rfl, by (repeat (refine Below.setCell ?_ (by simp) _)); exact g2⟩
    · -- the options' length is lacking
      have d2 : decide ((n : Int) < 2) = true := decide_eq_true (by have := HDZ.out; omega)
      have d3 : decide (n < 2) = true := decide_eq_true (by have := HDZ.out; omega)
      clear HC HDZ hz
      go_wp2
      exact bodyPost_ret (v := .tuple #[zeroV6, .int .i64 2]) (by simp [zeroV6, results, Try.results11, go_sem, r0, r1, r2, r3, r4, r5]) rfl ⟨rfl, by (repeat (refine Below.setCell ?_ (by simp) _)); exact g2⟩
    · -- the options are cut off
      have hd := HDZ.out
      have hbt2 := PlainAid.get_bt data
      have d2 : decide ((n : Int) < 2) = false := decide_eq_false (by omega)
      have d3 : decide (n < 2) = false := decide_eq_false (by omega)
      have d4 : decide ((n : Int) < 8 + 8 * (m : Int)) = true := decide_eq_true (by omega)
      have d5 : decide (n < 8 + 8 * m) = true := decide_eq_true (by omega)
      clear HC HDZ hbig hd
      go_wp2
      exact bodyPost_ret (v := .tuple #[zeroV6, .int .i64 2]) (by simp [zeroV6, results, Try.results11, go_sem, r0, r1, r2, r3, r4, r5]) rfl ⟨rfl, by (repeat (refine Below.setCell ?_ (by simp) _)); exact g2⟩
    · -- options
      have hd := HDZ.out
      have hbt2 := PlainAid.get_bt data
      have d2 : decide ((n : Int) < 2) = false := decide_eq_false (by omega)
      have d3 : decide (n < 2) = false := decide_eq_false (by omega)
      have d4 : decide ((n : Int) < 8 + 8 * (m : Int)) = false := decide_eq_false (by omega)
      have d5 : decide (n < 8 + 8 * m) = false := decide_eq_false (by omega)
      obtain ⟨opt, hopt⟩ : ∃ o, o = data.extract 2 (8 + 8 * m) := ⟨_, rfl⟩
      have k4 := slice_mid data 2 (8 + 8 * m) (by omega) hfit 2 (8 + 8 * (m : Int)) rfl (by omega)
      rw [← hopt] at k4 hrest
      have hO : ROpts opt (Op6.val opt.data.toList) (Op6.err opt.data.toList) := roptions_any opt (by rw [hopt, ByteArray.size_extract]; omega)
      have c0 := PlainAid.bt_nonneg data 0
      have c0' := PlainAid.bt_le data 0
      rcases hrest with ⟨hg, rfl, rfl⟩ | ⟨hg, hz0, rfl, rfl⟩ | ⟨hg, hz0, fd, rst, hfd, hrst, rfl, rfl⟩
      · rw [Op6.val_bad hg, Op6.err_bad hg] at hO
        clear HC HDZ hd hg hfit hopt
        rcases hz0 : (PlainAid.bt data 0 == 0) with _ | _
        all_goals
          go_wp2_with ((with_reducible refine (hO.to _).mono ?_); rintro e w3 ⟨rfl, rfl⟩)
          exact bodyPost_ret (v := .tuple #[zeroV6, .int .i64 3]) (by simp [zeroV6, results, Try.results11, go_sem, r0, r1, r2, r3, r4, r5]) rfl ⟨rfl, by (repeat (refine Below.setCell ?_ (by simp; try omega) _)); exact g2⟩
      · rw [Op6.val_good hg, Op6.err_good hg] at hO
        clear HC HDZ hd hg hfit hopt c0 c0'
        have hz1 : (PlainAid.bt data 0 == 0) = true := by rw [hz0]; rfl
        go_wp2_with ((with_reducible refine (hO.to _).mono ?_); rintro e w3 ⟨rfl, rfl⟩)
        exact bodyPost_ret (v := .tuple #[zeroV6, .int .i64 3]) (by simp [zeroV6, results, Try.results11, go_sem, r0, r1, r2, r3, r4, r5]) rfl ⟨rfl, by (repeat (refine Below.setCell ?_ (by simp; try omega) _)); exact g2⟩
      · rw [Op6.val_good hg, Op6.err_good hg] at hO
        have hne : (PlainAid.bt data 0 == 0) = false := by rw [beq_eq_false_iff_ne]; omega
        have k5 := slice_from data (8 + 8 * m) hfit (8 + 8 * (m : Int)) (by omega)
        rw [← hrst] at k5
        have hrst2 := hrst.symm
        rw [← hfd] at hO
        have hsz1 : 8 + 8 * (m : Int) ≤ (data.size : Int) := by omega
        have hsz2 : 0 ≤ 8 + 8 * (m : Int) := by omega
        clear HC HDZ hd hg hfit hopt hrst hfd hz0
        go_wp2_with ((with_reducible refine (hO.to _).mono ?_); rintro e w3 ⟨rfl, rfl⟩)
        exact bodyPost_ret (v := .tuple #[v6 q7 (PlainAid.bt data 0) src dst fd rst, .int .i64 0]) (by simp [v6, results, Try.results11, go_sem, r0, r1, r2, r3, r4, r5]) rfl ⟨rfl, by (repeat (refine Below.setCell ?_ (by simp; try omega) _)); exact g2⟩
end Go.Proofs.Ytjhppbooakekcaa
