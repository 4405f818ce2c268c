/-
  What the program's ipv6.Decode computes where its forty bytes are right. Conditions: those of each case.
-/
import Derived.Test.YtjhppbooakekcaaV6Dec
import Derived.Deep.DeepCutAuto
namespace Go.Proofs.Ytjhppbooakekcaa
open Go.RowKit

theorem slice_mid (s : ByteArray) (a b : Nat) (h1 : a ≤ b) (h2 : b ≤ s.size) (x y : Int) (hx : x = a) (hy : y = b) (w : World) : (Instr.slice 9 (.string s) (some (.int .i64 x)) (some (.int .i64 y)) none).run Try.prog w = .ok (.string (s.extract a b)) w := by
  subst hx hy
  rw [run_slice_string_if (P := Try.prog) (w := w) 9 s .i64 .i64 (a : Int) (b : Int) Try.underlying9, if_pos ⟨by omega, by omega⟩, if_pos ⟨by omega, by omega⟩]
  rfl

def v6 (a b : Int) (x y : ByteArray) (f : Bool) (z : ByteArray) : Value := .agg #[.int .i64 a, .int .i64 b, .string x, .string y, .bool f, .string z]

/-- what comes of a packet whose forty bytes are right: hop and next, source, target, and data lie before us; v, e are what is answered -/
def V6Case (q7 q6 : Int) (src dst data : ByteArray) (v : Value) (e : Int) : Prop :=
  ((q6 != 0) = true ∧ v = v6 q7 q6 src dst false data ∧ e = 0) ∨
  ((q6 != 0) = false ∧ data.size < 2 ∧ v = zeroV6 ∧ e = 2) ∨
  (∃ m : Nat, (q6 != 0) = false ∧ 2 ≤ data.size ∧ m < 256 ∧ PlainAid.bt data 1 = (m : Int) ∧ data.size < 8 + 8 * m ∧ v = zeroV6 ∧ e = 2) ∨
  (∃ m : Nat, (q6 != 0) = false ∧ 2 ≤ data.size ∧ m < 256 ∧ PlainAid.bt data 1 = (m : Int) ∧ 8 + 8 * m ≤ data.size ∧
    ((Op6.good (data.extract 2 (8 + 8 * m)).data.toList = false ∧ v = zeroV6 ∧ e = 3) ∨ (Op6.good (data.extract 2 (8 + 8 * m)).data.toList = true ∧ PlainAid.bt data 0 = 0 ∧ v = zeroV6 ∧ e = 3) ∨
     (Op6.good (data.extract 2 (8 + 8 * m)).data.toList = true ∧ 1 ≤ PlainAid.bt data 0 ∧ ∃ (fd : Bool) (rst : ByteArray), fd = Op6.found (data.extract 2 (8 + 8 * m)).data.toList ∧ rst = data.extract (8 + 8 * m) data.size ∧ v = v6 q7 (PlainAid.bt data 0) src dst fd rst ∧ e = 0)))

theorem gets_one (s : ByteArray) (a m : Nat) (hs : s.size ≤ 9223372036854775807) (ha : a + 1 ≤ s.size) (hb : PlainAid.bt s a = (m : Int)) : Gets s a 1 (m : Nat) 0 := by
  have h := gets_ok s a 1 hs (by decide) (by decide) ha
  have e := size_toList s
  have hd : (s.data.toList.drop a).take 1 = [s.data.toList[a]'(by omega)] := by
    rw [List.drop_eq_getElem_cons (by omega)]
    rfl
  rw [hd, Pl.num_one] at h
  have h2 : (s.data.toList[a]'(by omega)).toNat = m := by
    unfold PlainAid.bt at hb
    rw [dif_pos (by omega)] at hb
    have h3 : s.data.toList[a]'(by omega) = s[a]'(by omega) := rfl
    rw [h3]
    omega
  rw [h2] at h
  exact h

set_option maxRecDepth 100000 in
set_option maxHeartbeats 4000000 in
theorem v6dec_in (s src dst data : ByteArray) (n : Nat) (q7 q6 : Int) (v : Value) (x : Int) (hs : 40 ≤ s.size) (hl : s.size ≤ 281474976710656) (hG : Gets s 4 2 n 0) (h0 : (PlainAid.bt s 0 / 16 != 6) = false) (hn : 40 + n ≤ s.size)
    (e1 : s.extract 8 24 = src) (e2 : s.extract 24 40 = dst) (e3 : s.extract 40 (40 + n) = data) (e7 : PlainAid.bt s 7 = q7) (e6 : PlainAid.bt s 6 = q6) (hcase : V6Case q7 q6 src dst data v x) (w : World) :
    Calls Try.prog 10 #[.string s] w fun e w' => e = .returned (.tuple #[v, .int .i64 x]) ∧ Below w.heap.size w w' := by
  have hbt := PlainAid.get_bt s
  have hdz : data.size = n := by rw [← e3, ByteArray.size_extract]; omega
  have d1 : decide ((s.size : Int) - 40 < (n : Int)) = false := decide_eq_false (by omega)
  have i1 : IntKind.i64.wrap (40 + (n : Int)) = 40 + (n : Int) := IntWalk.i64_in _ ⟨by omega, by omega⟩
  have k1 := slice_mid s 8 24 (by omega) (by omega) 8 24 rfl rfl
  have k2 := slice_mid s 24 40 (by omega) (by omega) 24 40 rfl rfl
  have k3 := slice_mid s 40 (40 + n) (by omega) (by omega) 40 (40 + (n : Int)) rfl (by omega)
  rw [e1] at k1
  rw [e2] at k2
  rw [e3] at k3
  have b7 := PlainAid.bt_nonneg s 7
  have b7' := PlainAid.bt_le s 7
  have b6 := PlainAid.bt_nonneg s 6
  have b6' := PlainAid.bt_le s 6
  rw [e7] at b7 b7'
  rw [e6] at b6 b6'
  have wr7 : IntKind.i64.wrap q7 = q7 := IntWalk.i64_in _ ⟨by omega, by omega⟩
  have wr6 : IntKind.i64.wrap q6 = q6 := IntWalk.i64_in _ ⟨by omega, by omega⟩
  have HC := Lib.hid hcase
  have HDZ := Lib.hid hdz
  clear e1 e2 e3 hcase hdz
  go_enter Try.func10, Try.ntmps10
  go_upto_region 8 with ((with_reducible refine (hG.to _).mono ?_); rintro e w1 ⟨rfl, g1⟩; have B1 := (Box6.new _ _ _ _ _ _ _ _).below g1)
  go_cut [6] (fun s6 wx => s6 = .pointer (some ⟨w1.heap.size, 0, none⟩) ∧ Box6 wx w1.heap.size (.int .i64 q7) (.int .i64 q6) (.string src) (.string dst) (.bool false) (.string data) ∧ Box6 wx w.heap.size (.int .i64 0) (.int .i64 0) (.string ⟨#[]⟩) (.string ⟨#[]⟩) (.bool false) (.string ⟨#[]⟩) ∧ Below w.heap.size w wx)
  case first =>
    go_region_held3 (fun _ => True) (trivial) (fail)
    all_goals
      go_wp2_with fail
      go_meet
      refine ⟨rfl, ?_, ?_, ?_⟩
      · exact Box6.new w1 _ _ _ _ _ _ _
      · exact B1.below (Below.drew (bbox1 _ _))
      · exact Below.drew ((bstep (bbox1 _ _) g1).alloc (by have := g1.size; simp at this; omega) _)
  case rest =>
    have hnn : n ≤ 281474976710656 := by omega
    clear hbt d1 i1 k1 k2 k3 hG h0 hn e7 e6 hs hl
    obtain ⟨rfl, B2, B3, g2⟩ := hcut
    have B2q := B2
    have B3q := B3
    obtain ⟨y2, p0, p1, p2, p3, p4, p5, pf⟩ := B2q
    obtain ⟨y3, r0, r1, r2, r3, r4, r5, rf⟩ := B3q
    have hlt : w.heap.size < w1.heap.size := by have h := g1.size; simp at h; omega
    rcases HC.out with ⟨h6, rfl, rfl⟩ | ⟨h6, hz, rfl, rfl⟩ | ⟨m, h6, hz, hm, hb1, hbig, rfl, rfl⟩ | ⟨m, h6, hz, hm, hb1, hfit, hrest⟩
    · -- no options ahead
      clear HC HDZ B2 B3
      go_wp2
      exact bodyPost_ret (v := .tuple #[v6 q7 q6 src dst false data, .int .i64 0]) (by simp [v6, results, Try.results10, go_sem, r0, r1, r2, r3, r4, r5]) rfl ⟨rfl, by (repeat (refine Below.setCell ?_ (by simp) _)); exact g2⟩
    · -- the options' length is lacking
      have hG2 : Gets data 1 1 0 2 := gets_cut data 1 1 (by omega) (by decide) (by decide) (by decide) (by omega)
      clear HC HDZ hz
      go_wp2_with ((with_reducible refine (hG2.to _).mono ?_); rintro e w2 ⟨rfl, g3⟩; obtain ⟨y4, u0, u1, u2, u3, u4, u5, uf⟩ := B3.below g3)
      exact bodyPost_ret (v := .tuple #[zeroV6, .int .i64 2]) (by simp [zeroV6, results, Try.results10, go_sem, u0, u1, u2, u3, u4, u5]) rfl ⟨rfl, by (repeat (refine Below.setCell ?_ (by simp) _)); exact bstep g2 g3⟩
    · -- the options are cut off
      have hG2 : Gets data 1 1 (m : Nat) 0 := gets_one data 1 m (by omega) (by omega) hb1
      have d2 : decide ((n : Int) < 8 + 8 * (m : Int)) = true := decide_eq_true (by have := HDZ.out; omega)
      clear HC HDZ hz hbig hb1
      go_wp2_with ((with_reducible refine (hG2.to _).mono ?_); rintro e w2 ⟨rfl, g3⟩; obtain ⟨y4, u0, u1, u2, u3, u4, u5, uf⟩ := B3.below g3)
      exact bodyPost_ret (v := .tuple #[zeroV6, .int .i64 2]) (by simp [zeroV6, results, Try.results10, go_sem, u0, u1, u2, u3, u4, u5]) rfl ⟨rfl, by (repeat (refine Below.setCell ?_ (by simp) _)); exact bstep g2 g3⟩
    · -- options
      have hd := HDZ.out
      have hG2 : Gets data 1 1 (m : Nat) 0 := gets_one data 1 m (by omega) (by omega) hb1
      have d2 : decide ((n : Int) < 8 + 8 * (m : Int)) = false := decide_eq_false (by omega)
      have hbt2 := PlainAid.get_bt data
      obtain ⟨opt, hopt⟩ : ∃ o, o = data.extract 2 (8 + 8 * m) := ⟨_, rfl⟩
      have k4 := slice_mid data 2 (8 + 8 * m) (by omega) hfit 2 (8 + 8 * (m : Int)) rfl (by omega)
      rw [← hopt] at k4 hrest
      have hO := opts_any opt (by rw [hopt, ByteArray.size_extract]; omega)
      have c0 := PlainAid.bt_nonneg data 0
      have c0' := PlainAid.bt_le data 0
      have HF := Lib.hid hfit
      have HZ0 := Lib.hid (show True from trivial)
      rcases hrest with ⟨hg, rfl, rfl⟩ | ⟨hg, hz0, rfl, rfl⟩ | ⟨hg, hz0, fd, rst, hfd, hrst, rfl, rfl⟩
      · rw [Op6.val_bad hg, Op6.err_bad hg] at hO
        clear HC HDZ hd hb1 hg hfit hopt
        go_wp2_with (first | ((with_reducible refine (hG2.to _).mono ?_); rintro e w2 ⟨rfl, g3⟩; have B4 := B3.below g3; have B5 := B2.below g3; obtain ⟨y5, q0, q1, q2, q3, q4, q5, qf⟩ := B5) | ((with_reducible refine (hO.to _).mono ?_); rintro e w3 ⟨rfl, g4⟩; obtain ⟨y6, u0, u1, u2, u3, u4, u5, uf⟩ := (B4.put (c := w1.heap.size) (o := 1) (x := .int .i64 (PlainAid.bt data 0)) (by omega)).below g4; obtain ⟨y7, t0, t1, t2, t3, t4, t5, tf⟩ := ((B2.below g3).set1 (x := .int .i64 (PlainAid.bt data 0))).below g4))
        exact bodyPost_ret (v := .tuple #[zeroV6, .int .i64 3]) (by simp [zeroV6, results, Try.results10, go_sem, u0, u1, u2, u3, u4, u5]) rfl ⟨rfl, by (repeat (refine Below.setCell ?_ (by simp; try omega) _)); exact bstep ((bstep g2 g3).setCell (by simp; omega) _) g4⟩
      · rw [Op6.val_good hg, Op6.err_good hg] at hO
        clear HC HDZ hd hb1 hg hfit hopt c0 c0'
        have hz1 : (PlainAid.bt data 0 == 0) = true := by rw [hz0]; rfl
        go_wp2_with (first | ((with_reducible refine (hG2.to _).mono ?_); rintro e w2 ⟨rfl, g3⟩; have B4 := B3.below g3; have B5 := B2.below g3; obtain ⟨y5, q0, q1, q2, q3, q4, q5, qf⟩ := B5) | ((with_reducible refine (hO.to _).mono ?_); rintro e w3 ⟨rfl, g4⟩; obtain ⟨y6, u0, u1, u2, u3, u4, u5, uf⟩ := (B4.put (c := w1.heap.size) (o := 1) (x := .int .i64 0) (by omega)).below g4; obtain ⟨y7, t0, t1, t2, t3, t4, t5, tf⟩ := ((B2.below g3).set1 (x := .int .i64 0)).below g4))
        exact bodyPost_ret (v := .tuple #[zeroV6, .int .i64 3]) (by simp [zeroV6, results, Try.results10, go_sem, u0, u1, u2, u3, u4, u5]) rfl ⟨rfl, by (repeat (refine Below.setCell ?_ (by simp; try omega) _)); exact bstep ((bstep g2 g3).setCell (by simp; omega) _) g4⟩
      · rw [Op6.val_good hg, Op6.err_good hg] at hO
        have hne : (PlainAid.bt data 0 == 0) = false := by rw [beq_eq_false_iff_ne]; omega
        have k5 := slice_from data (8 + 8 * m) hfit (8 + 8 * (m : Int)) (by omega)
        rw [← hrst] at k5
        have hrst2 := hrst.symm
        rw [← hfd] at hO
        have hsz1 : 8 + 8 * (m : Int) ≤ (data.size : Int) := by omega
        have hsz2 : 0 ≤ 8 + 8 * (m : Int) := by omega
        clear HC HDZ hd hb1 hg hfit hopt hrst hfd hz0
        go_wp2_with (first | ((with_reducible refine (hG2.to _).mono ?_); rintro e w2 ⟨rfl, g3⟩; have B4 := B3.below g3; have B5 := B2.below g3; obtain ⟨y5, q0, q1, q2, q3, q4, q5, qf⟩ := B5) | ((with_reducible refine (hO.to _).mono ?_); rintro e w3 ⟨rfl, g4⟩; obtain ⟨y6, u0, u1, u2, u3, u4, u5, uf⟩ := (B4.put (c := w1.heap.size) (o := 1) (x := .int .i64 (PlainAid.bt data 0)) (by omega)).below g4; obtain ⟨y7, t0, t1, t2, t3, t4, t5, tf⟩ := ((B2.below g3).set1 (x := .int .i64 (PlainAid.bt data 0))).below g4))
        exact bodyPost_ret (v := .tuple #[v6 q7 (PlainAid.bt data 0) src dst fd rst, .int .i64 0]) (by simp [v6, results, Try.results10, go_sem, u0, u1, u2, u3, u4, u5]) rfl ⟨rfl, by (repeat (refine Below.setCell ?_ (by simp; try omega) _)); exact bstep ((bstep g2 g3).setCell (by simp; omega) _) g4⟩
end Go.Proofs.Ytjhppbooakekcaa
