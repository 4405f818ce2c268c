/-
  What the document's own Members and SameInts (siphonref12) compute; the walk of 'VlanChecks'. Conditions: at most 20 ports.
-/
import Derived.Test.YtpninodcjglboaaVMem
import Derived.Test.YtpninodcjglboaaLaw12
import Derived.BigQuiet
namespace Go.Proofs.Ytpninodcjglboaa
open Go.RowKit

set_option maxRecDepth 100000 in
set_option maxHeartbeats 2000000 in
theorem rmembers_any (v : Value) (ps : List Pt) (n : Int) (h20 : ps.length ≤ 20) (w : World) (hv : Ports w v ps) :
    Calls Try.prog 18 #[v, .int .i64 n] w fun e w' => (∃ u, e = .returned u ∧ Ints w' u (Ms ps n ps.length)) ∧ Below w.heap.size w w' := by
  obtain ⟨i0, hi, hz0, hz1, hz2⟩ := info_parts info3
  obtain ⟨a, cap, rfl, hzl, hx, h⟩ := hv
  have HX := Lib.hid hx
  clear hx
  go_enter Try.func18, Try.ntmps18
  go_wp2
  go_loopw [5, 6] (fun u i wr => ∃ k : Nat, k ≤ ps.length ∧ i = .int .i64 k ∧ wr.ownsRow w.heap.size 3 1 u (Ms ps n k).length ((Ms ps n k).map (Value.int .i64)) ∧ Below w.heap.size w wr) (fun _ i _ => ps.length + 1 - (intOf i).toNat)
  case atStart => exact ⟨0, Nat.zero_le _, rfl, World.ownsRow_nil _ _ _ _, Below.refl _ _⟩
  case round =>
    obtain ⟨k, hk, rfl, hown, hbw⟩ := hrel
    by_cases hlt : k < ps.length
    · obtain ⟨b, o, x, rfl, hb, hxk, hxm, c0, c1, c2⟩ := Ports.at h hlt
      have d0 := (hbw.cell (p := ⟨b, o + k * 3, none⟩) hb).trans c0
      have d1 := (hbw.cell (p := ⟨b, o + k * 3 + 1, none⟩) hb).trans c1
      have d2 := (hbw.cell (p := ⟨b, o + k * 3 + 2, none⟩) hb).trans c2
      have hl := (HX.out x hxm).below hbw
      have hM : isM ps n k = true ↔ n ∈ x.t ∨ n ∈ x.p := by
        unfold isM
        rw [hxk]
        simp
      have hlt2 : (k : Int) < (ps.length : Int) := by omega
      have hle := Ms_le ps n k
      rcases hm : isM ps n k with _ | _
      · have HM := Lib.hid (rmember_any x.d (.slice x.ta x.t.length x.tc) (.slice x.pa x.p.length x.pc) x.t x.p n false (by rw [← hM, hm]) hl.2.2.1 hl.2.2.2 _ hl.1 hl.2.1)
        have hms := Ms_miss hm
        have HS := Lib.hid hms
        have HO := Lib.hid hown
        clear h c0 c1 c2 hl hM hm hms hown
        go_wp2_with ((with_reducible refine HM.out.mono ?_); rintro e w1 ⟨rfl, g1⟩)
        refine ⟨⟨k + 1, by omega, by go_num, by rw [HS.out]; exact row_below (HO.out) g1, hbw.trans (g1.mono hbw.size)⟩, ?_⟩
        simp [intOf]; omega
      · have HM := Lib.hid (rmember_any x.d (.slice x.ta x.t.length x.tc) (.slice x.pa x.p.length x.pc) x.t x.p n true (by rw [← hM, hm]) hl.2.2.1 hl.2.2.2 _ hl.1 hl.2.1)
        have hms := Ms_hit hm
        have HS := Lib.hid hms
        have HO := Lib.hid hown
        clear h c0 c1 c2 hl hM hm hms hown
        go_wp2_with (first
          | ((with_reducible refine HM.out.mono ?_); rintro e w1 ⟨rfl, g1⟩; have b1 := hbw.trans (g1.mono hbw.size); have R1 := Lib.hid (row_below (HO.out) g1))
          | (at_builtin; refine wpList_append_own _ rfl _ _ 32 rfl w.heap.size 3 i0 (.int .i64 0) 1 8 Try.underlying32 hi hz0 hz1 hz2 rfl (by decide) _ _ _ rfl (R1.out.alloc _) ⟨w1.heap.size, 0, none⟩ 1 1 [.int .i64 k] rfl rfl ?c1 ?c2 ?c3 ?c4 ?c5 ?_))
        case c1 =>
          intro j u hj
          match j, hj with
          | 0, hj => simp at hj; subst hj; simp [Addr.add, go_sem]
        case c2 => intro u hu; simp at hu; subst hu; rfl
        case c3 => unfold maxLen; omega
        case c4 => omega
        case c5 => have := b1.size; simp; omega
        · intro v' w2 hown' hgrow _
          have hb2 := (b1.alloc b1.size (.cells #[.int .i64 (k : Int)] 3)).grown hgrow (by have := b1.size; simp; omega) (fun j hj => ((R1.out.alloc (.cells #[.int .i64 (k : Int)] 3)).lt j hj).1)
          have HW := Lib.hid hown'
          clear hgrow hown'
          go_wp2
          refine ⟨⟨k + 1, by omega, by go_num, ?_, hb2⟩, ?_⟩
          · have h2 := HW.out
            rw [HS.out]
            simpa using h2
          · simp [intOf]; omega
    · have hle : ps.length ≤ k := by omega
      have HI := Lib.hid (ints_of_row hown)
      obtain rfl : k = ps.length := by omega
      clear h hown
      go_wp2
      go_ret
      exact ⟨⟨_, rfl, HI.out⟩, hbw⟩

set_option maxRecDepth 100000 in
set_option maxHeartbeats 1000000 in
theorem same_any (u v : Value) (l : List Int) (hl : l.length ≤ 20) (w : World) (hu : Ints w u l) (hv : Ints w v l) :
    Calls Try.prog 17 #[u, v] w fun e w' => e = .returned (.bool true) ∧ Below w.heap.size w w' := by
  obtain ⟨a, ac, rfl, ha⟩ := hu
  obtain ⟨b, bc, rfl, hb⟩ := hv
  go_enter Try.func17, Try.ntmps17
  go_wp2
  go_loopw [5] (fun i wr => ∃ k : Nat, k ≤ l.length ∧ i = .int .i64 k ∧ Below w.heap.size w wr) (fun i _ => l.length + 1 - (intOf i).toNat)
  case atStart => exact ⟨0, Nat.zero_le _, rfl, Below.refl _ _⟩
  case round =>
    obtain ⟨k, hk, rfl, hbw⟩ := hrel
    by_cases hlt : k < l.length
    · obtain ⟨b1, o1, rfl, z1, r1⟩ := Ints.row ha hlt
      obtain ⟨b2, o2, rfl, z2, r2⟩ := Ints.row hb hlt
      have c1 := (hbw.cell (p := ⟨b1, o1 + k, none⟩) z1).trans (r1 k hlt)
      have c2 := (hbw.cell (p := ⟨b2, o2 + k, none⟩) z2).trans (r2 k hlt)
      obtain ⟨x, ex⟩ : ∃ x, x = l.getD k 0 := ⟨_, rfl⟩
      rw [← ex] at c1 c2
      have hlt2 : (k : Int) < (l.length : Int) := by omega
      clear ha hb r1 r2 ex
      go_wp2
      go_quiet (fail)
      go_wp2
      refine ⟨⟨k + 1, by omega, by go_num, bdrew hbw _⟩, ?_⟩
      simp [intOf]; omega
    · have hle : l.length ≤ k := by omega
      clear ha hb
      go_wp2
      go_ret
      exact ⟨rfl, hbw⟩

set_option maxRecDepth 100000 in
set_option maxHeartbeats 1000000 in
theorem vlanchecks_walk (v : Value) (ps : List Pt) (n : Int) (w : World) (hv : Ports w v ps) :
    Calls Try.prog 6 #[v, .int .i64 n] w fun e w' => e = .returned (.bool true) ∧ Below w.heap.size w w' := by
  have HL := Lib.hid live12
  obtain ⟨r, hr⟩ := tell (Few ps)
  have HF := Lib.hid (few_any v ps r hr w hv)
  rcases r with _ | _
  · clear hr hv
    go_enter Try.func6, Try.ntmps6
    go_wp2_with (first | ((with_reducible refine HF.out.mono ?_); rintro e w' ⟨rfl, rfl⟩) | ((with_reducible refine (HL.out _).mono ?_); rintro e w4 ⟨rfl, g4⟩))
    go_ret
    exact ⟨rfl, g4⟩
  · have h20 : ps.length ≤ 20 := (hr.1 rfl).1
    obtain ⟨c, hc⟩ : ∃ c : Int, (c = 0 ∧ OkPorts ps) ∨ (c = 3 ∧ ¬ OkPorts ps) := by
      by_cases h : OkPorts ps
      · exact ⟨0, .inl ⟨rfl, h⟩⟩
      · exact ⟨3, .inr ⟨rfl, h⟩⟩
    have HM := Lib.hid (members_any v ps n h20 w hv)
    have HC := Lib.hid (fun (W : World) (b : Below w.heap.size w W) => check_any v ps c hc W (hv.below b))
    have HD := Lib.hid (fun (W : World) (b : Below w.heap.size w W) => rcheck_any v ps c hc W (hv.below b))
    have HN := Lib.hid (fun (W : World) (b : Below w.heap.size w W) => rmembers_any v ps n h20 W (hv.below b))
    have hz : (Ms ps n ps.length).length ≤ 20 := Nat.le_trans (Ms_le _ _ _) h20
    have HS := Lib.hid (fun (a b : Value) (W : World) (ha : Ints W a (Ms ps n ps.length)) (hb : Ints W b (Ms ps n ps.length)) => same_any a b (Ms ps n ps.length) hz W ha hb)
    clear hr hv hc h20 hz
    go_enter Try.func6, Try.ntmps6
    go_wp2_with (first | ((with_reducible refine HF.out.mono ?_); rintro e w' ⟨rfl, rfl⟩) | ((with_reducible refine HM.out.mono ?_); rintro e w1 ⟨⟨u, rfl, I1⟩, g1⟩; have J1 := Lib.hid I1; clear I1) | ((with_reducible refine (HC.out _ g1).mono ?_); rintro e w2 ⟨rfl, g2⟩; have b2 := bstep g1 g2) | ((with_reducible refine (HD.out _ b2).mono ?_); rintro e w3 ⟨rfl, g3⟩; have b3 := bstep b2 g3) | ((with_reducible refine (HN.out _ b3).mono ?_); rintro e w5 ⟨⟨u5, rfl, I5⟩, g5⟩; have J5 := Lib.hid I5; clear I5; have b5 := bstep b3 g5) | ((with_reducible refine (HS.out _ _ _ (((J1.out.below g2).below g3).below g5) J5.out).mono ?_); rintro e w6 ⟨rfl, g6⟩) | ((with_reducible refine (HL.out _).mono ?_); rintro e w4 ⟨rfl, g4⟩))
    go_ret
    exact ⟨rfl, bstep (bstep b5 g6) g4⟩
end Go.Proofs.Ytpninodcjglboaa
