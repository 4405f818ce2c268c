/-
  The walk of 'VlanApart': it returns true and leaves what was there alone. Conditions: a text's length lies within the form's own reach.
-/
import Derived.Test.YtpninodcjglboaaLaw12b
import Derived.Test.YtpninodcjglboaaVMem
namespace Go.Proofs.Ytpninodcjglboaa
open Go.RowKit

/-- a frame that came in: where it goes out, and where it does not -/
theorem apart_total {ps : List Pt} {dst src data : ByteArray} {n pr ty : Int} {k : Nat} {x : Pt} (hok : OkPorts ps) (hg : Good3 dst src true n pr ty data) (hn : n ≠ 0) (hk : ps[k]? = some x) :
    ∃ d s t m p y z e0, OutCase ps k dst src true n pr ty data (fr d s t m p y z) e0 ∧ (((n ∈ x.t ∨ n ∈ x.p) ∧ e0 = 0) ∨ ((n ∈ x.t ∨ n ∈ x.p) ∧ e0 ≠ 0 ∧ ty = 33024) ∨ (¬ (n ∈ x.t ∨ n ∈ x.p) ∧ e0 ≠ 0)) := by
  have hA : Asked ps k (Good3 dst src true n pr ty data) 0 (some x) := .inr (.inr ⟨hok, rfl, hg, k, x, rfl, hk, rfl⟩)
  have hx := List.mem_of_getElem? hk
  by_cases h1 : n ∈ x.t
  · exact ⟨dst, src, true, n, pr, ty, data, 0, .inr (.inr ⟨x, hA, hx, hn, rfl, .inl ⟨h1, rfl, rfl⟩⟩), .inl ⟨.inl h1, rfl⟩⟩
  · by_cases h2 : n ∈ x.p
    · by_cases hty : ty = 33024
      · exact ⟨⟨#[]⟩, ⟨#[]⟩, false, 0, 0, 0, ⟨#[]⟩, 6, .inr (.inr ⟨x, hA, hx, hn, rfl, .inr (.inr (.inl ⟨h1, h2, fun g => (good3_plain hg).1 g hty, rfl, rfl⟩))⟩), .inr (.inl ⟨.inr h2, by decide, hty⟩)⟩
      · exact ⟨dst, src, false, 0, 0, ty, data, 0, .inr (.inr ⟨x, hA, hx, hn, rfl, .inr (.inr (.inr ⟨h1, h2, (good3_plain hg).2 hty, rfl, rfl⟩))⟩), .inl ⟨.inr h2, rfl⟩⟩
    · exact ⟨⟨#[]⟩, ⟨#[]⟩, false, 0, 0, 0, ⟨#[]⟩, 6, .inr (.inr ⟨x, hA, hx, hn, rfl, .inr (.inl ⟨h1, h2, rfl, rfl⟩)⟩), .inr (.inr ⟨by rintro (q | q); exact h1 q; exact h2 q, by decide⟩)⟩

theorem in_split (ps : List Pt) (q : Int) (dst src : ByteArray) (tg : Bool) (vl pr ty : Int) (data : ByteArray) :
    (∃ e, e ≠ 0 ∧ InCase ps q dst src tg vl pr ty data (fr ⟨#[]⟩ ⟨#[]⟩ false 0 0 0 ⟨#[]⟩) e) ∨
    (∃ (n : Int) (k : Nat) (y : Pt), InCase ps q dst src tg vl pr ty data (fr dst src true n pr ty data) 0 ∧ q = k ∧ ps[k]? = some y ∧ n ≠ 0 ∧ (n ∈ y.t ∨ n ∈ y.p) ∧ OkPorts ps ∧ Good3 dst src true n pr ty data) := by
  rcases asked_split ps q (Good3 dst src tg vl pr ty data) with ⟨c, hc, hA⟩ | ⟨y, hA, hy, hg⟩
  · exact .inl ⟨c, hc, .inl ⟨c, hc, hA, rfl, rfl⟩⟩
  · obtain ⟨hf, k, hqk, hk⟩ := asked_fine hA
    have hok : OkPorts ps := by
      rcases hA with ⟨h, _⟩ | ⟨h, _⟩ | ⟨h, _⟩
      · exact absurd h (by decide)
      · exact h
      · exact h
    obtain ⟨n, hn⟩ : ∃ n, n = (if vl = 0 then y.d else vl) := ⟨_, rfl⟩
    by_cases h : n = 0 ∨ ¬ (n ∈ y.t ∨ n ∈ y.p)
    · exact .inl ⟨6, by decide, .inr ⟨y, n, hA, hy, hn, .inl ⟨h, rfl, rfl⟩⟩⟩
    · have h1 : n ≠ 0 := fun e => h (.inl e)
      have h2 : n ∈ y.t ∨ n ∈ y.p := by
        by_cases q : n ∈ y.t ∨ n ∈ y.p
        · exact q
        · exact absurd (.inr q) h
      have h3 : 1 ≤ n ∧ n ≤ 4094 := by
        rcases h2 with h2 | h2
        · exact mem_vlan hf.1 h2
        · exact mem_vlan hf.2.1 h2
      exact .inr ⟨n, k, y, .inr ⟨y, n, hA, hy, hn, .inr ⟨⟨h1, h2⟩, rfl, rfl⟩⟩, hqk, hk, h1, h2, hok, good3_in hg h3.1 h3.2⟩

theorem isM_iff {ps : List Pt} {n : Int} {k : Nat} {x : Pt} (hk : ps[k]? = some x) : isM ps n k = true ↔ n ∈ x.t ∨ n ∈ x.p := by
  unfold isM
  rw [hk]
  simp

set_option maxRecDepth 100000 in
set_option maxHeartbeats 2000000 in
theorem vlanapart_walk (v : Value) (ps : List Pt) (q : Int) (dst src : ByteArray) (tg : Bool) (vl pr ty : Int) (data : ByteArray) (hz : data.size ≤ 140737488351232) (w : World) (hv : Ports w v ps) :
    Calls Try.prog 7 #[v, .int .i64 q, fr dst src tg vl pr ty data] w fun e w' => e = .returned (.bool true) ∧ Below w.heap.size w w' := by
  have HL := Lib.hid live12
  obtain ⟨r, hr⟩ := tell (Few ps)
  have HF := Lib.hid (fun (W : World) (b : Below w.heap.size w W) => few_any v ps r hr W (hv.below b))
  rcases r with _ | _
  · unfold fr
    clear hr hz hv
    go_enter Try.func7, Try.ntmps7
    go_wp2_with (first | ((with_reducible refine (HF.out _ (bbox1 _ _)).mono ?_); rintro e w' ⟨rfl, rfl⟩) | ((with_reducible refine (HL.out _).mono ?_); rintro e w4 ⟨rfl, g4⟩))
    go_ret
    exact ⟨rfl, bstep (bbox1 _ _) g4⟩
  have h20 : ps.length ≤ 20 := (hr.1 rfl).1
  clear hr
  rcases in_split ps q dst src tg vl pr ty data with ⟨e0, he, h⟩ | ⟨n, k0, y0, h, rfl, hk0, hn, hy0, hok, hg⟩
  · have H1 := Lib.hid (fun (W : World) (b : Below w.heap.size w W) => in_any hz h v W (hv.below b))
    have he2 : (e0 != 0) = true := by simpa using he
    unfold fr at H1
    unfold fr
    clear h hz hv he h20
    go_enter Try.func7, Try.ntmps7
    go_wp2_with (first | ((with_reducible refine (HF.out _ (bbox1 _ _)).mono ?_); rintro e w' ⟨rfl, rfl⟩) | ((with_reducible refine (H1.out _ (bbox1 _ _)).mono ?_); rintro e w1 ⟨rfl, g1⟩; have b1 := ball (bstep (bbox1 w _) g1) (.cells #[.string ⟨#[]⟩, .string ⟨#[]⟩, .bool false, .int .i64 0, .int .i64 0, .int .i64 0, .string ⟨#[]⟩] 25)) | ((with_reducible refine (HL.out _).mono ?_); rintro e w4 ⟨rfl, g4⟩))
    go_ret
    exact ⟨rfl, bstep b1 g4⟩
  · have H1 := Lib.hid (fun (W : World) (b : Below w.heap.size w W) => in_any hz h v W (hv.below b))
    have HM := Lib.hid (fun (W : World) (b : Below w.heap.size w W) => members_any v ps n h20 W (hv.below b))
    have HO := Lib.hid (fun (k : Nat) (x : Pt) (hk : ps[k]? = some x) => apart_total hok hg hn hk)
    have HP := Lib.hid (fun (k : Nat) (u : Value) (e : Int) (hc : OutCase ps k dst src true n pr ty data u e) (W : World) (b : Below w.heap.size w W) => out_any hz hc v W (hv.below b))
    have hin : ((k0 : Nat) : Int) ∈ Ms ps n ps.length := (Ms_mem ps n ps.length k0).2 ⟨(List.getElem?_eq_some_iff.1 hk0).1, (isM_iff hk0).2 hy0⟩
    have hzm : (Ms ps n ps.length).length ≤ 9223372036854775807 := Nat.le_trans (Ms_le ps n ps.length) (Nat.le_trans h20 (by decide))
    have HS := Lib.hid (fun (u : Value) (W : World) (I : Ints W u (Ms ps n ps.length)) => has_any u (Ms ps n ps.length) k0 true (iff_of_true rfl hin) hzm W I)
    have HT := Lib.hid (fun (k : Nat) (r : Bool) (hr : r = true ↔ ((k : Nat) : Int) ∈ Ms ps n ps.length) (u : Value) (W : World) (I : Ints W u (Ms ps n ps.length)) => has_any u (Ms ps n ps.length) k r hr hzm W I)
    have hv2 := hv
    obtain ⟨va, vc, rfl, -, -, -⟩ := hv2
    have HNE := Lib.hid hn
    unfold fr at H1
    unfold fr
    clear h hz hv hk0 hy0 hok hg hin hzm hn
    go_enter Try.func7, Try.ntmps7
    go_wp2_with (first | ((with_reducible refine (HF.out _ (bbox1 _ _)).mono ?_); rintro e w' ⟨rfl, rfl⟩) | ((with_reducible refine (H1.out _ (bbox1 _ _)).mono ?_); rintro e w1 ⟨rfl, g1⟩; have b1 := ball (bstep (bbox1 w _) g1) (.cells #[.string dst, .string src, .bool true, .int .i64 n, .int .i64 pr, .int .i64 ty, .string data] 25)) | ((with_reducible refine (HM.out _ b1).mono ?_); rintro e w5 ⟨⟨u, rfl, I5⟩, g5⟩; have J5 := Lib.hid I5; clear I5; have b5 := bstep b1 g5; have A5 := Lib.hid ((Box7.new w1 (.string dst) (.string src) (.bool true) (.int .i64 n) (.int .i64 pr) (.int .i64 ty) (.string data) 25).below g5)))
    go_loopw [10, 11, 12, 13] (fun i _ _ _ wr => ∃ k : Nat, k ≤ ps.length ∧ i = .int .i64 k ∧ Below w5.heap.size w5 wr) (fun i _ _ _ _ => ps.length + 1 - (intOf i).toNat)
    case atStart => exact ⟨0, Nat.zero_le _, rfl, Below.refl _ _⟩
    case round =>
      obtain ⟨k, hk, rfl, hbw⟩ := hrel
      have bw := b5.trans (hbw.mono b5.size)
      by_cases hlt : k < ps.length
      · have hxk := List.getElem?_eq_getElem hlt
        obtain ⟨x, ex⟩ : ∃ x, x = ps[k] := ⟨_, rfl⟩
        rw [← ex] at hxk
        obtain ⟨d', s', t', n', p', y', z', e0, hc, hcase⟩ := HO.out k x hxk
        have HC := Lib.hid (HP.out k _ _ hc _ bw)
        unfold fr at HC
        have hmem : (n ∈ x.t ∨ n ∈ x.p) ↔ ((k : Nat) : Int) ∈ Ms ps n ps.length := by rw [Ms_mem, isM_iff hxk]; exact ⟨fun h => ⟨hlt, h⟩, fun h => h.2⟩
        have A6 := A5.out.below hbw
        have A7 := Lib.hid A6
        obtain ⟨aaz, aa0, aa1, aa2, aa3, aa4, aa5, aa6, aaf⟩ := A6
        have hlt2 : (k : Int) < (ps.length : Int) := by omega
        rcases hcase with ⟨h1, rfl⟩ | ⟨h1, h2, hty⟩ | ⟨h1, h2⟩
        · have HT2 := Lib.hid (HT.out k true (iff_of_true rfl (hmem.1 h1)))
          clear h1 hmem hc hxk ex
          go_wp2_with (first | ((with_reducible refine HC.out.mono ?_); rintro e w6 ⟨rfl, g6⟩; have b6 := ball (hbw.trans (g6.mono hbw.size)) (.cells #[.string d', .string s', .bool t', .int .i64 n', .int .i64 p', .int .i64 y', .string z'] 25); obtain ⟨abz, ab0, ab1, ab2, ab3, ab4, ab5, ab6, abf⟩ := (A7.out.below g6).below (bbox1 w6 (.cells #[.string d', .string s', .bool t', .int .i64 n', .int .i64 p', .int .i64 y', .string z'] 25)); have I6 := Lib.hid (((J5.out.below hbw).below g6).below (bbox1 w6 (.cells #[.string d', .string s', .bool t', .int .i64 n', .int .i64 p', .int .i64 y', .string z'] 25)))) | ((with_reducible refine (HT2.out _ _ I6.out).mono ?_); rintro e w' ⟨rfl, rfl⟩))
          refine ⟨⟨k + 1, by omega, by go_num, b6⟩, ?_⟩
          simp [intOf]; omega
        · have HT2 := Lib.hid (HT.out k true (iff_of_true rfl (hmem.1 h1)))
          have e1 : (e0 == 0) = false := by simpa using h2
          have e2 : (e0 != 0) = true := by simpa using h2
          have e3 : (ty != 33024) = false := by rw [hty]; rfl
          clear h1 h2 hmem hc hxk ex hty
          go_wp2_with (first | ((with_reducible refine HC.out.mono ?_); rintro e w6 ⟨rfl, g6⟩; have b6 := ball (hbw.trans (g6.mono hbw.size)) (.cells #[.string d', .string s', .bool t', .int .i64 n', .int .i64 p', .int .i64 y', .string z'] 25); obtain ⟨abz, ab0, ab1, ab2, ab3, ab4, ab5, ab6, abf⟩ := (A7.out.below g6).below (bbox1 w6 (.cells #[.string d', .string s', .bool t', .int .i64 n', .int .i64 p', .int .i64 y', .string z'] 25)); have I6 := Lib.hid (((J5.out.below hbw).below g6).below (bbox1 w6 (.cells #[.string d', .string s', .bool t', .int .i64 n', .int .i64 p', .int .i64 y', .string z'] 25)))) | ((with_reducible refine (HT2.out _ _ I6.out).mono ?_); rintro e w' ⟨rfl, rfl⟩))
          refine ⟨⟨k + 1, by omega, by go_num, b6⟩, ?_⟩
          simp [intOf]; omega
        · have HT2 := Lib.hid (HT.out k false (iff_of_false (by decide) (fun h => h1 (hmem.2 h))))
          have e1 : (e0 == 0) = false := by simpa using h2
          clear h1 h2 hmem hc hxk ex
          go_wp2_with (first | ((with_reducible refine HC.out.mono ?_); rintro e w6 ⟨rfl, g6⟩; have b6 := ball (hbw.trans (g6.mono hbw.size)) (.cells #[.string d', .string s', .bool t', .int .i64 n', .int .i64 p', .int .i64 y', .string z'] 25); obtain ⟨abz, ab0, ab1, ab2, ab3, ab4, ab5, ab6, abf⟩ := (A7.out.below g6).below (bbox1 w6 (.cells #[.string d', .string s', .bool t', .int .i64 n', .int .i64 p', .int .i64 y', .string z'] 25)); have I6 := Lib.hid (((J5.out.below hbw).below g6).below (bbox1 w6 (.cells #[.string d', .string s', .bool t', .int .i64 n', .int .i64 p', .int .i64 y', .string z'] 25)))) | ((with_reducible refine (HT2.out _ _ I6.out).mono ?_); rintro e w' ⟨rfl, rfl⟩))
          refine ⟨⟨k + 1, by omega, by go_num, b6⟩, ?_⟩
          simp [intOf]; omega
      · have hle : ps.length ≤ k := by omega
        have I9 := Lib.hid (J5.out.below hbw)
        go_wp2_with (first | ((with_reducible refine (HS.out _ _ I9.out).mono ?_); rintro e w' ⟨rfl, rfl⟩) | ((with_reducible refine (HL.out _).mono ?_); rintro e w4 ⟨rfl, g4⟩))
        go_ret
        exact ⟨rfl, bstep bw g4⟩
end Go.Proofs.Ytpninodcjglboaa
