/-
  The walk of 'VlanBack': it returns true and leaves what was there alone. Conditions: a text's length lies within the form's own reach.
-/
import Derived.Test.YtpninodcjglboaaLaw12
import Derived.BigQuiet
namespace Go.Proofs.Ytpninodcjglboaa
open Go.RowKit

theorem mem_vlan {l : List Int} {n : Int} (hr : Rises l) (h : n ∈ l) : 1 ≤ n ∧ n ≤ 4094 := by
  obtain ⟨i, hi, rfl⟩ := List.getElem_of_mem h
  have := hr i hi
  unfold okAt at this
  rw [List.getD_eq_getElem?_getD, List.getElem?_eq_getElem hi] at this
  exact ⟨this.1, this.2.1⟩

/-- the frame that came in may be, too -/
theorem good3_in {dst src data : ByteArray} {tg : Bool} {vl pr ty n : Int} (hg : Good3 dst src tg vl pr ty data) (h1 : 1 ≤ n) (h2 : n ≤ 4094) : Good3 dst src true n pr ty data := by
  obtain ⟨k1, k2, k3, k4, k5, k6, k7, k8, k9, _⟩ := hg
  exact ⟨k1, k2, k3, by omega, by omega, k6, k7, k8, k9, .inl rfl⟩
theorem good3_plain {dst src data : ByteArray} {tg : Bool} {vl pr ty : Int} (hg : Good3 dst src tg vl pr ty data) : Good3 dst src false 0 0 ty data ↔ ty ≠ 33024 := by
  obtain ⟨k1, k2, k3, k4, k5, k6, k7, k8, k9, _⟩ := hg
  constructor
  · rintro ⟨_, _, _, _, _, _, _, _, _, h | ⟨_, _, h⟩⟩
    · cases h
    · exact h
  · intro h
    exact ⟨k1, k2, k3, by decide, by decide, by decide, by decide, k8, k9, .inr ⟨rfl, rfl, h⟩⟩

/-- what comes of a frame that came in through a port: none; or it goes out with its tag; or plainly; or not at all -/
inductive BackCase (ps : List Pt) (q : Int) (dst src : ByteArray) (tg : Bool) (vl pr ty : Int) (data : ByteArray) : Prop
  | none (e : Int) (he : e ≠ 0) (h : InCase ps q dst src tg vl pr ty data (fr ⟨#[]⟩ ⟨#[]⟩ false 0 0 0 ⟨#[]⟩) e)
  | tag (n : Int) (h : InCase ps q dst src tg vl pr ty data (fr dst src true n pr ty data) 0) (h2 : OutCase ps q dst src true n pr ty data (fr dst src true n pr ty data) 0) (h3 : InCase ps q dst src true n pr ty data (fr dst src true n pr ty data) 0)
  | bad (n : Int) (hty : ty = 33024) (h : InCase ps q dst src tg vl pr ty data (fr dst src true n pr ty data) 0) (h2 : OutCase ps q dst src true n pr ty data (fr ⟨#[]⟩ ⟨#[]⟩ false 0 0 0 ⟨#[]⟩) 6)
  | plain (n : Int) (k : Nat) (y : Pt) (hq : q = k) (hk : ps[k]? = some y) (h : InCase ps q dst src tg vl pr ty data (fr dst src true n pr ty data) 0) (h2 : OutCase ps q dst src true n pr ty data (fr dst src false 0 0 ty data) 0)
      (h3 : y.d = n → InCase ps q dst src false 0 0 ty data (fr dst src true n 0 ty data) 0)

theorem asked_again {ps : List Pt} {q : Int} {ok ok2 : Prop} {y : Pt} (h : Asked ps q ok 0 (some y)) (h2 : ok2) : Asked ps q ok2 0 (some y) := by
  rcases h with ⟨h, _⟩ | ⟨_, h, _⟩ | ⟨h0, _, hg, k, z, hq, hk, hz⟩
  · exact absurd h (by decide)
  · exact absurd h (by decide)
  · exact .inr (.inr ⟨h0, rfl, h2, k, z, hq, hk, hz⟩)
theorem asked_fine {ps : List Pt} {q : Int} {ok : Prop} {y : Pt} (h : Asked ps q ok 0 (some y)) : Fine y.d y.t y.p ∧ ∃ k : Nat, q = k ∧ ps[k]? = some y := by
  rcases h with ⟨h, _⟩ | ⟨_, h, _⟩ | ⟨h0, _, hg, k, z, hq, hk, hz⟩
  · exact absurd h (by decide)
  · exact absurd h (by decide)
  · cases hz; exact ⟨h0.2.2 y (List.mem_of_getElem? hk), k, hq, hk⟩

theorem back_total (ps : List Pt) (q : Int) (dst src : ByteArray) (tg : Bool) (vl pr ty : Int) (data : ByteArray) : BackCase ps q dst src tg vl pr ty data := by
  rcases asked_split ps q (Good3 dst src tg vl pr ty data) with ⟨c, hc, hA⟩ | ⟨y, hA, hy, hg⟩
  · exact .none c hc (.inl ⟨c, hc, hA, rfl, rfl⟩)
  · obtain ⟨hf, k, hqk, hk⟩ := asked_fine hA
    obtain ⟨n, hn⟩ : ∃ n, n = (if vl = 0 then y.d else vl) := ⟨_, rfl⟩
    by_cases h : n = 0 ∨ ¬ (n ∈ y.t ∨ n ∈ y.p)
    · exact .none 6 (by decide) (.inr ⟨y, n, hA, hy, hn, .inl ⟨h, rfl, rfl⟩⟩)
    · have h1 : n ≠ 0 := fun e => h (.inl e)
      have h2 : n ∈ y.t ∨ n ∈ y.p := by
        by_cases q : n ∈ y.t ∨ n ∈ y.p
        · exact q
        · exact absurd (.inr q) h
      have h3 : 1 ≤ n ∧ n ≤ 4094 := by
        rcases h2 with h2 | h2
        · exact mem_vlan hf.1 h2
        · exact mem_vlan hf.2.1 h2
      have hI : InCase ps q dst src tg vl pr ty data (fr dst src true n pr ty data) 0 := .inr ⟨y, n, hA, hy, hn, .inr ⟨⟨h1, h2⟩, rfl, rfl⟩⟩
      have hG := good3_in hg h3.1 h3.2
      have hA2 : Asked ps q (Good3 dst src true n pr ty data) 0 (some y) := asked_again hA hG
      by_cases ht : n ∈ y.t
      · exact .tag n hI (.inr (.inr ⟨y, hA2, hy, h1, rfl, .inl ⟨ht, rfl, rfl⟩⟩)) (.inr ⟨y, n, hA2, hy, by rw [if_neg h1], .inr ⟨⟨h1, h2⟩, rfl, rfl⟩⟩)
      · have hp : n ∈ y.p := h2.resolve_left ht
        by_cases hty : ty = 33024
        · exact .bad n hty hI (.inr (.inr ⟨y, hA2, hy, h1, rfl, .inr (.inr (.inl ⟨ht, hp, fun g => (good3_plain hg).1 g hty, rfl, rfl⟩))⟩))
        · have hP := (good3_plain hg).2 hty
          refine .plain n k y hqk hk hI (.inr (.inr ⟨y, hA2, hy, h1, rfl, .inr (.inr (.inr ⟨ht, hp, hP, rfl, rfl⟩))⟩)) fun hd => ?_
          exact .inr ⟨y, n, asked_again hA hP, hy, by rw [if_pos rfl]; exact hd.symm, .inr ⟨⟨h1, h2⟩, rfl, rfl⟩⟩

set_option maxRecDepth 100000 in
set_option maxHeartbeats 2000000 in
theorem vlanback_walk (v : Value) (ps : List Pt) (q : Int) (dst src : ByteArray) (tg : Bool) (vl pr ty : Int) (data : ByteArray) (hz : data.size ≤ 140737488351232) (w : World) (hv : Ports w v ps) :
    Calls Try.prog 5 #[v, .int .i64 q, fr dst src tg vl pr ty data] w fun e w' => e = .returned (.bool true) ∧ Below w.heap.size w w' := by
  have HL := Lib.hid live12
  obtain ⟨r, hr⟩ := tell (Few ps)
  have HF := Lib.hid (fun (W : World) (b : Below w.heap.size w W) => few_any v ps r hr W (hv.below b))
  clear hr
  rcases r with _ | _
  · unfold fr
    clear hz hv
    go_enter Try.func5, Try.ntmps5
    go_wp2_with (first | ((with_reducible refine (HF.out _ (bbox1 _ _)).mono ?_); rintro e w' ⟨rfl, rfl⟩) | ((with_reducible refine (HL.out _).mono ?_); rintro e w4 ⟨rfl, g4⟩))
    go_ret
    exact ⟨rfl, bstep (bbox1 _ _) g4⟩
  have tok : True := trivial
  rcases back_total ps q dst src tg vl pr ty data with ⟨e0, he, h⟩ | ⟨n, h, h2, h3⟩ | ⟨n, hty, h, h2⟩ | ⟨n, k, y, hq, hk, h, h2, h3⟩
  · have H1 := Lib.hid (fun (W : World) (b : Below w.heap.size w W) => in_any hz h v W (hv.below b))
    have he2 : (e0 != 0) = true := by simpa using he
    unfold fr at H1
    unfold fr
    clear h hz hv he
    go_enter Try.func5, Try.ntmps5
    go_wp2_with (first | ((with_reducible refine (HF.out _ (bbox1 _ _)).mono ?_); rintro e w' ⟨rfl, rfl⟩) | ((with_reducible refine (H1.out _ (bbox1 _ _)).mono ?_); rintro e w1 ⟨rfl, g1⟩; have b1 := ball (bstep (bbox1 w _) g1) (.cells #[.string ⟨#[]⟩, .string ⟨#[]⟩, .bool false, .int .i64 0, .int .i64 0, .int .i64 0, .string ⟨#[]⟩] 25)) | ((with_reducible refine (HL.out _).mono ?_); rintro e w4 ⟨rfl, g4⟩))
    go_ret
    exact ⟨rfl, bstep b1 g4⟩
  · have H1 := Lib.hid (fun (W : World) (b : Below w.heap.size w W) => in_any hz h v W (hv.below b))
    have H2 := Lib.hid (fun (W : World) (b : Below w.heap.size w W) => out_any hz h2 v W (hv.below b))
    have H3 := Lib.hid (fun (W : World) (b : Below w.heap.size w W) => in_any hz h3 v W (hv.below b))
    unfold fr at H1 H2 H3
    unfold fr
    clear h h2 h3 hz hv
    go_enter Try.func5, Try.ntmps5
    go_wp2_with (first | ((with_reducible refine (HF.out _ (bbox1 _ _)).mono ?_); rintro e w' ⟨rfl, rfl⟩) | ((with_reducible refine (H1.out _ (bbox1 _ _)).mono ?_); rintro e w1 ⟨rfl, g1⟩; have b1 := ball (bstep (bbox1 w _) g1) (.cells #[.string dst, .string src, .bool true, .int .i64 n, .int .i64 pr, .int .i64 ty, .string data] 25)) | ((with_reducible refine (H2.out _ b1).mono ?_); rintro e w2 ⟨rfl, g2⟩; have b2 := ball (bstep b1 g2) (.cells #[.string dst, .string src, .bool true, .int .i64 n, .int .i64 pr, .int .i64 ty, .string data] 25); have A2 := ((Box7.new w1 (.string dst) (.string src) (.bool true) (.int .i64 n) (.int .i64 pr) (.int .i64 ty) (.string data) 25).below g2).below (bbox1 w2 (.cells #[.string dst, .string src, .bool true, .int .i64 n, .int .i64 pr, .int .i64 ty, .string data] 25)); obtain ⟨aaz, aa0, aa1, aa2, aa3, aa4, aa5, aa6, aaf⟩ := ((Box7.new w1 (.string dst) (.string src) (.bool true) (.int .i64 n) (.int .i64 pr) (.int .i64 ty) (.string data) 25).below g2).below (bbox1 w2 (.cells #[.string dst, .string src, .bool true, .int .i64 n, .int .i64 pr, .int .i64 ty, .string data] 25))) | ((with_reducible refine (H3.out _ b2).mono ?_); rintro e w3 ⟨rfl, g3⟩; have b3 := ball (bstep b2 g3) (.cells #[.string dst, .string src, .bool true, .int .i64 n, .int .i64 pr, .int .i64 ty, .string data] 25); obtain ⟨abz, ab0, ab1, ab2, ab3, ab4, ab5, ab6, abf⟩ := (A2.below g3).below (bbox1 w3 (.cells #[.string dst, .string src, .bool true, .int .i64 n, .int .i64 pr, .int .i64 ty, .string data] 25)); obtain ⟨bbz, bb0, bb1, bb2, bb3, bb4, bb5, bb6, bbf⟩ := ((Box7.new w2 (.string dst) (.string src) (.bool true) (.int .i64 n) (.int .i64 pr) (.int .i64 ty) (.string data) 25).below g3).below (bbox1 w3 (.cells #[.string dst, .string src, .bool true, .int .i64 n, .int .i64 pr, .int .i64 ty, .string data] 25))) | ((with_reducible refine (HL.out _).mono ?_); rintro e w4 ⟨rfl, g4⟩))
    go_ret
    exact ⟨rfl, bstep b3 g4⟩
  · have H1 := Lib.hid (fun (W : World) (b : Below w.heap.size w W) => in_any hz h v W (hv.below b))
    have H2 := Lib.hid (fun (W : World) (b : Below w.heap.size w W) => out_any hz h2 v W (hv.below b))
    subst hty
    unfold fr at H1 H2
    unfold fr
    clear h h2 hz hv
    go_enter Try.func5, Try.ntmps5
    go_wp2_with (first | ((with_reducible refine (HF.out _ (bbox1 _ _)).mono ?_); rintro e w' ⟨rfl, rfl⟩) | ((with_reducible refine (H1.out _ (bbox1 _ _)).mono ?_); rintro e w1 ⟨rfl, g1⟩; have b1 := ball (bstep (bbox1 w _) g1) (.cells #[.string dst, .string src, .bool true, .int .i64 n, .int .i64 pr, .int .i64 33024, .string data] 25)) | ((with_reducible refine (H2.out _ b1).mono ?_); rintro e w2 ⟨rfl, g2⟩; have b2 := ball (bstep b1 g2) (.cells #[.string ⟨#[]⟩, .string ⟨#[]⟩, .bool false, .int .i64 0, .int .i64 0, .int .i64 0, .string ⟨#[]⟩] 25); have A2 := ((Box7.new w1 (.string dst) (.string src) (.bool true) (.int .i64 n) (.int .i64 pr) (.int .i64 33024) (.string data) 25).below g2).below (bbox1 w2 (.cells #[.string ⟨#[]⟩, .string ⟨#[]⟩, .bool false, .int .i64 0, .int .i64 0, .int .i64 0, .string ⟨#[]⟩] 25)); obtain ⟨aaz, aa0, aa1, aa2, aa3, aa4, aa5, aa6, aaf⟩ := ((Box7.new w1 (.string dst) (.string src) (.bool true) (.int .i64 n) (.int .i64 pr) (.int .i64 33024) (.string data) 25).below g2).below (bbox1 w2 (.cells #[.string ⟨#[]⟩, .string ⟨#[]⟩, .bool false, .int .i64 0, .int .i64 0, .int .i64 0, .string ⟨#[]⟩] 25))) | ((with_reducible refine (HL.out _).mono ?_); rintro e w4 ⟨rfl, g4⟩))
    go_ret
    exact ⟨rfl, bstep b2 g4⟩
  · have H1 := Lib.hid (fun (W : World) (b : Below w.heap.size w W) => in_any hz h v W (hv.below b))
    have H2 := Lib.hid (fun (W : World) (b : Below w.heap.size w W) => out_any hz h2 v W (hv.below b))
    have hv2 := hv
    obtain ⟨va, vc, rfl, -, -, hrow⟩ := hv2
    have hkl : k < ps.length := (List.getElem?_eq_some_iff.1 hk).1
    obtain ⟨rb, ro, x', rfl, rlt, hxk, -, r0, -, -⟩ := Ports.at hrow hkl
    rw [hk] at hxk
    obtain rfl := Option.some.inj hxk
    subst hq
    have q1 : decide ((k : Int) < 0) = false := decide_eq_false (by omega)
    have q2 : decide ((ps.length : Int) ≤ (k : Int)) = false := decide_eq_false (by omega)
    have q3 : (k : Int) < (ps.length : Int) := by omega
    by_cases hd : y.d = n
    · have H3 := Lib.hid (fun (W : World) (b : Below w.heap.size w W) => in_any hz (h3 hd) _ W (hv.below b))
      rw [hd] at r0
      unfold fr at H1 H2 H3
      unfold fr
      clear h h2 h3 hz hv hd hrow hkl hk
      go_enter Try.func5, Try.ntmps5
      go_wp2_with (first | ((with_reducible refine (HF.out _ (bbox1 _ _)).mono ?_); rintro e w' ⟨rfl, rfl⟩) | ((with_reducible refine (H1.out _ (bbox1 _ _)).mono ?_); rintro e w1 ⟨rfl, g1⟩; have b1 := ball (bstep (bbox1 w _) g1) (.cells #[.string dst, .string src, .bool true, .int .i64 n, .int .i64 pr, .int .i64 ty, .string data] 25)) | ((with_reducible refine (H2.out _ b1).mono ?_); rintro e w2 ⟨rfl, g2⟩; have b2 := ball (bstep b1 g2) (.cells #[.string dst, .string src, .bool false, .int .i64 0, .int .i64 0, .int .i64 ty, .string data] 25); have A2 := ((Box7.new w1 (.string dst) (.string src) (.bool true) (.int .i64 n) (.int .i64 pr) (.int .i64 ty) (.string data) 25).below g2).below (bbox1 w2 (.cells #[.string dst, .string src, .bool false, .int .i64 0, .int .i64 0, .int .i64 ty, .string data] 25)); obtain ⟨aaz, aa0, aa1, aa2, aa3, aa4, aa5, aa6, aaf⟩ := ((Box7.new w1 (.string dst) (.string src) (.bool true) (.int .i64 n) (.int .i64 pr) (.int .i64 ty) (.string data) 25).below g2).below (bbox1 w2 (.cells #[.string dst, .string src, .bool false, .int .i64 0, .int .i64 0, .int .i64 ty, .string data] 25))) | ((with_reducible refine (H3.out _ b2).mono ?_); rintro e w3 ⟨rfl, g3⟩; have b3 := ball (bstep b2 g3) (.cells #[.string dst, .string src, .bool true, .int .i64 n, .int .i64 0, .int .i64 ty, .string data] 25); obtain ⟨abz, ab0, ab1, ab2, ab3, ab4, ab5, ab6, abf⟩ := (A2.below g3).below (bbox1 w3 (.cells #[.string dst, .string src, .bool true, .int .i64 n, .int .i64 0, .int .i64 ty, .string data] 25)); obtain ⟨bbz, bb0, bb1, bb2, bb3, bb4, bb5, bb6, bbf⟩ := ((Box7.new w2 (.string dst) (.string src) (.bool false) (.int .i64 0) (.int .i64 0) (.int .i64 ty) (.string data) 25).below g3).below (bbox1 w3 (.cells #[.string dst, .string src, .bool true, .int .i64 n, .int .i64 0, .int .i64 ty, .string data] 25)); have rr := (b3.cell (p := ⟨rb, ro + k * 3, none⟩) rlt).trans r0) | ((with_reducible refine (HL.out _).mono ?_); rintro e w4 ⟨rfl, g4⟩))
      go_quiet (fail)
      go_wp2_with (first | ((with_reducible refine (HL.out _).mono ?_); rintro e w4 ⟨rfl, g4⟩))
      go_ret
      exact ⟨rfl, bstep (bdrew b3 _) g4⟩
    · obtain ⟨d', s', t', n', p', y', z', e', hc⟩ := in_total ps k dst src false 0 0 ty data
      have H3 := Lib.hid (fun (W : World) (b : Below w.heap.size w W) => in_any hz hc _ W (hv.below b))
      have hdn : (y.d != n) = true := by simpa using hd
      unfold fr at H1 H2 H3
      unfold fr
      clear h h2 h3 hz hv hd hrow hkl hk hc
      go_enter Try.func5, Try.ntmps5
      go_wp2_with (first | ((with_reducible refine (HF.out _ (bbox1 _ _)).mono ?_); rintro e w' ⟨rfl, rfl⟩) | ((with_reducible refine (H1.out _ (bbox1 _ _)).mono ?_); rintro e w1 ⟨rfl, g1⟩; have b1 := ball (bstep (bbox1 w _) g1) (.cells #[.string dst, .string src, .bool true, .int .i64 n, .int .i64 pr, .int .i64 ty, .string data] 25)) | ((with_reducible refine (H2.out _ b1).mono ?_); rintro e w2 ⟨rfl, g2⟩; have b2 := ball (bstep b1 g2) (.cells #[.string dst, .string src, .bool false, .int .i64 0, .int .i64 0, .int .i64 ty, .string data] 25); have A2 := ((Box7.new w1 (.string dst) (.string src) (.bool true) (.int .i64 n) (.int .i64 pr) (.int .i64 ty) (.string data) 25).below g2).below (bbox1 w2 (.cells #[.string dst, .string src, .bool false, .int .i64 0, .int .i64 0, .int .i64 ty, .string data] 25)); obtain ⟨aaz, aa0, aa1, aa2, aa3, aa4, aa5, aa6, aaf⟩ := ((Box7.new w1 (.string dst) (.string src) (.bool true) (.int .i64 n) (.int .i64 pr) (.int .i64 ty) (.string data) 25).below g2).below (bbox1 w2 (.cells #[.string dst, .string src, .bool false, .int .i64 0, .int .i64 0, .int .i64 ty, .string data] 25))) | ((with_reducible refine (H3.out _ b2).mono ?_); rintro e w3 ⟨rfl, g3⟩; have b3 := ball (bstep b2 g3) (.cells #[.string d', .string s', .bool t', .int .i64 n', .int .i64 p', .int .i64 y', .string z'] 25); obtain ⟨abz, ab0, ab1, ab2, ab3, ab4, ab5, ab6, abf⟩ := (A2.below g3).below (bbox1 w3 (.cells #[.string d', .string s', .bool t', .int .i64 n', .int .i64 p', .int .i64 y', .string z'] 25)); obtain ⟨bbz, bb0, bb1, bb2, bb3, bb4, bb5, bb6, bbf⟩ := ((Box7.new w2 (.string dst) (.string src) (.bool false) (.int .i64 0) (.int .i64 0) (.int .i64 ty) (.string data) 25).below g3).below (bbox1 w3 (.cells #[.string d', .string s', .bool t', .int .i64 n', .int .i64 p', .int .i64 y', .string z'] 25)); have rr := (b3.cell (p := ⟨rb, ro + k * 3, none⟩) rlt).trans r0) | ((with_reducible refine (HL.out _).mono ?_); rintro e w4 ⟨rfl, g4⟩))
      go_quiet (fail)
      go_wp2_with (first | ((with_reducible refine (HL.out _).mono ?_); rintro e w4 ⟨rfl, g4⟩))
      go_ret
      exact ⟨rfl, bstep (bdrew b3 _) g4⟩
end Go.Proofs.Ytpninodcjglboaa
