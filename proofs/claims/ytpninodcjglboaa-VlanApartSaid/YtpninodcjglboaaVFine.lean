/-
  What vlan.fine and the document's own rises and Member compute. Conditions: lists' lengths lie well within an int.
-/
import Derived.Test.YtpninodcjglboaaVBase
import Derived.BigQuiet
namespace Go.Proofs.Ytpninodcjglboaa
open Go.RowKit

set_option maxRecDepth 100000 in
set_option maxHeartbeats 2000000 in
theorem rrises_any (v : Value) (l : List Int) (r : Bool) (hr : r = true ↔ Rises l) (hl : l.length ≤ 9223372036854775807) (w : World) (hv : Ints w v l) :
    Calls Try.prog 27 #[v] w fun e w' => e = .returned (.bool r) ∧ Below w.heap.size w w' := by
  obtain ⟨a, cap, rfl, h⟩ := hv
  have HR := Lib.hid hr
  clear hr
  go_enter Try.func27, Try.ntmps27
  go_wp2
  go_loopw [3] (fun i wr => ∃ k : Nat, k ≤ l.length ∧ i = .int .i64 k ∧ Hid (∀ j, j < k → okAt l j) ∧ Below w.heap.size w wr) (fun i _ => l.length + 1 - (intOf i).toNat)
  case atStart => exact ⟨0, Nat.zero_le _, rfl, fun j hj => absurd hj (Nat.not_lt_zero _), Below.refl _ _⟩
  case round =>
    obtain ⟨k, hk, rfl, hno, hbw⟩ := hrel
    by_cases hlt : k < l.length
    · obtain ⟨b, o, rfl, hb, hc⟩ := Ints.row h hlt
      have hck := (hbw.cell (p := ⟨b, o + k, none⟩) hb).trans (hc k hlt)
      obtain ⟨x, ex⟩ : ∃ x, x = l.getD k 0 := ⟨_, rfl⟩
      rw [← ex] at hck
      have hon : okAt l k → ∀ j, j < k + 1 → okAt l j := fun h1 j hj => by
        rcases Nat.lt_succ_iff_lt_or_eq.1 hj with h2 | rfl
        · exact hno.out j h2
        · exact h1
      have hno2 : ¬ okAt l k → r = false := fun hq => by rcases r with _ | _; rfl; exact absurd (HR.out.1 rfl k hlt) hq
      by_cases c1 : x < 1
      · have q1 : decide (x < 1) = true := decide_eq_true c1
        have HF := Lib.hid (hno2 (fun q => by have := q.1; omega))
        clear hc h hon hno2 c1 ex
        go_wp2
        go_quiet (fail)
        go_wp2
        go_ret
        exact ⟨ret_bool HF.out.symm, bdrew hbw _⟩
      · have q1 : decide (x < 1) = false := decide_eq_false c1
        by_cases c2 : 4094 < x
        · have q2 : decide (4094 < x) = true := decide_eq_true c2
          have HF := Lib.hid (hno2 (fun q => by have := q.2.1; omega))
          clear hc h hon hno2 c1 c2 ex
          go_wp2
          go_quiet (fail)
          go_wp2
          go_ret
          exact ⟨ret_bool HF.out.symm, bdrew hbw _⟩
        · have q2 : decide (4094 < x) = false := decide_eq_false c2
          rcases k with _ | j
          · rw [Nat.add_zero] at hck
            have HN := Lib.hid (hon ⟨by omega, by omega, .inl rfl⟩)
            clear hc h hon hno2 c1 c2 ex
            go_wp2
            go_quiet (fail)
            go_wp2
            refine ⟨⟨1, by omega, by go_num, HN, bdrew hbw _⟩, ?_⟩
            simp [intOf]
          · have hcj := (hbw.cell (p := ⟨b, o + j, none⟩) hb).trans (hc j (by omega))
            obtain ⟨y, ey⟩ : ∃ y, y = l.getD j 0 := ⟨_, rfl⟩
            rw [← ey] at hcj
            have q3 : decide ((0 : Int) < ((j + 1 : Nat) : Int)) = true := decide_eq_true (by omega)
            have q5 : ((j + 1 : Nat) : Int) - 1 = (j : Int) := by omega
            by_cases c4 : x ≤ y
            · have q4 : decide (x ≤ y) = true := decide_eq_true c4
              have HF := Lib.hid (hno2 (fun q => by
                rcases q.2.2 with h0 | h0
                · omega
                · rw [Nat.add_sub_cancel] at h0; omega))
              clear hc h hon hno2 c1 c2 c4 ex ey
              go_wp2
              go_quiet (fail)
              go_wp2
              go_ret
              exact ⟨ret_bool HF.out.symm, bdrew hbw _⟩
            · have q4 : decide (x ≤ y) = false := decide_eq_false c4
              have HN := Lib.hid (hon ⟨by omega, by omega, .inr (by rw [Nat.add_sub_cancel]; omega)⟩)
              clear hc h hon hno2 c1 c2 c4 ex ey
              go_wp2
              go_quiet (fail)
              go_wp2
              refine ⟨⟨j + 1 + 1, by omega, by go_num, HN, bdrew hbw _⟩, ?_⟩
              simp [intOf]; omega
    · have HF := Lib.hid (HR.out.2 (fun j hj => hno.out j (by omega)))
      have hle : l.length ≤ k := by omega
      clear h
      go_wp2
      go_ret
      exact ⟨ret_bool HF.out.symm, hbw⟩

set_option maxRecDepth 100000 in
theorem member_any (d : Int) (tv pv : Value) (t p : List Int) (n : Int) (r : Bool) (hr : r = true ↔ n ∈ t ∨ n ∈ p) (h1 : t.length ≤ 9223372036854775807) (h2 : p.length ≤ 9223372036854775807) (w : World) (ht : Ints w tv t) (hp : Ints w pv p) :
    Calls Try.prog 21 #[.agg #[.int .i64 d, tv, pv], .int .i64 n] w fun e w' => e = .returned (.bool r) ∧ Below w.heap.size w w' := by
  by_cases c1 : n ∈ t
  · have HT := Lib.hid (fun W (q : Ints W tv t) => contains_any tv t n true (iff_of_true rfl c1) h1 W q)
    have hrt := Lib.hid (hr.2 (.inl c1))
    have IT := Lib.hid (ht.below (bbox1 w (.cells #[.int .i64 d, tv, pv] 34)))
    clear hr c1 h1 h2 ht hp
    go_enter Try.func21, Try.ntmps21
    go_wp2_with ((with_reducible refine (HT.out _ IT.out).mono ?_); rintro e w1 ⟨rfl, rfl⟩)
    go_ret
    exact ⟨ret_bool hrt.out.symm, bbox1 _ _⟩
  · have HT := Lib.hid (fun W (q : Ints W tv t) => contains_any tv t n false (iff_of_false (by decide) c1) h1 W q)
    have hrt : r = true ↔ n ∈ p := hr.trans ⟨fun h => h.resolve_left c1, .inr⟩
    have HP := Lib.hid (fun W (q : Ints W pv p) => contains_any pv p n r hrt h2 W q)
    have IT := Lib.hid (ht.below (bbox1 w (.cells #[.int .i64 d, tv, pv] 34)))
    have IP := Lib.hid (hp.below (bbox1 w (.cells #[.int .i64 d, tv, pv] 34)))
    clear hr c1 h1 h2 ht hp hrt
    go_enter Try.func21, Try.ntmps21
    go_wp2_with (first | ((with_reducible refine (HT.out _ IT.out).mono ?_); rintro e w1 ⟨rfl, rfl⟩) | ((with_reducible refine (HP.out _ IP.out).mono ?_); rintro e w1 ⟨rfl, rfl⟩))
    go_ret
    exact ⟨rfl, bbox1 _ _⟩

set_option maxRecDepth 100000 in
theorem rmember_any (d : Int) (tv pv : Value) (t p : List Int) (n : Int) (r : Bool) (hr : r = true ↔ n ∈ t ∨ n ∈ p) (h1 : t.length ≤ 9223372036854775807) (h2 : p.length ≤ 9223372036854775807) (w : World) (ht : Ints w tv t) (hp : Ints w pv p) :
    Calls Try.prog 23 #[.agg #[.int .i64 d, tv, pv], .int .i64 n] w fun e w' => e = .returned (.bool r) ∧ Below w.heap.size w w' := by
  by_cases c1 : n ∈ t
  · have HT := Lib.hid (fun W (q : Ints W tv t) => has_any tv t n true (iff_of_true rfl c1) h1 W q)
    have hrt := Lib.hid (hr.2 (.inl c1))
    have IT := Lib.hid (ht.below (bbox1 w (.cells #[.int .i64 d, tv, pv] 34)))
    clear hr c1 h1 h2 ht hp
    go_enter Try.func23, Try.ntmps23
    go_wp2_with ((with_reducible refine (HT.out _ IT.out).mono ?_); rintro e w1 ⟨rfl, rfl⟩)
    go_ret
    exact ⟨ret_bool hrt.out.symm, bbox1 _ _⟩
  · have HT := Lib.hid (fun W (q : Ints W tv t) => has_any tv t n false (iff_of_false (by decide) c1) h1 W q)
    have hrt : r = true ↔ n ∈ p := hr.trans ⟨fun h => h.resolve_left c1, .inr⟩
    have HP := Lib.hid (fun W (q : Ints W pv p) => has_any pv p n r hrt h2 W q)
    have IT := Lib.hid (ht.below (bbox1 w (.cells #[.int .i64 d, tv, pv] 34)))
    have IP := Lib.hid (hp.below (bbox1 w (.cells #[.int .i64 d, tv, pv] 34)))
    clear hr c1 h1 h2 ht hp hrt
    go_enter Try.func23, Try.ntmps23
    go_wp2_with (first | ((with_reducible refine (HT.out _ IT.out).mono ?_); rintro e w1 ⟨rfl, rfl⟩) | ((with_reducible refine (HP.out _ IP.out).mono ?_); rintro e w1 ⟨rfl, rfl⟩))
    go_ret
    exact ⟨rfl, bbox1 _ _⟩

/-- the function within vlan.fine, at a port's box -/
theorem both_any (b : Nat) (pv : Value) (p : List Int) (n : Int) (r : Bool) (hr : r = true ↔ n ∈ p) (h2 : p.length ≤ 9223372036854775807) (w : World) (hc : w.cell? ⟨b, 2, none⟩ = some pv) (hp : Ints w pv p) :
    Calls Try.prog 30 #[.int .i64 n, .pointer (some ⟨b, 0, none⟩)] w fun e w' => e = .returned (.bool r) ∧ w = w' := by
  have HP := Lib.hid (contains_any pv p n r hr h2 w hp)
  clear hr h2 hp
  go_enter Try.func30, Try.ntmps30
  go_wp2_with ((with_reducible refine HP.out.mono ?_); rintro e w1 ⟨rfl, rfl⟩)
  go_ret
  exact ⟨rfl, rfl⟩

set_option maxRecDepth 100000 in
set_option maxHeartbeats 1000000 in
theorem indexf_any (v : Value) (l : List Int) (b : Nat) (pv : Value) (p : List Int) (r : Bool) (hr : r = true ↔ ∃ n, n ∈ l ∧ n ∈ p) (hl : l.length ≤ 9223372036854775807) (h2 : p.length ≤ 9223372036854775807) (w : World) (hv : Ints w v l) (hcb : w.cell? ⟨b, 2, none⟩ = some pv) (hp : Ints w pv p) :
    Calls Try.prog 38 #[v, .func (.func 30) #[] #[.pointer (some ⟨b, 0, none⟩)]] w fun e w' => (∃ q : Int, e = .returned (.int .i64 q) ∧ decide (0 ≤ q) = r) ∧ w = w' := by
  obtain ⟨a, cap, rfl, h⟩ := hv
  have HR := Lib.hid hr
  have HB := Lib.hid (fun n r hr => both_any b pv p n r hr h2 w hcb hp)
  clear hr hp hcb h2
  go_enter Try.func38, Try.ntmps38
  go_wp2
  go_loopw [5, 8] (fun _ i wr => ∃ k : Nat, k ≤ l.length ∧ i = .int .i64 k ∧ Hid (∀ n, n ∈ l.take k → n ∉ p) ∧ wr = w) (fun _ i _ => l.length + 1 - (intOf i).toNat)
  case atStart => exact ⟨0, Nat.zero_le _, rfl, by show ∀ n, n ∈ l.take 0 → n ∉ p; simp, rfl⟩
  case round =>
    obtain ⟨k, hk, rfl, hno, rfl⟩ := hrel
    by_cases hlt : k < l.length
    · obtain ⟨b2, o, rfl, hb, hc⟩ := Ints.row h hlt
      have hck := hc k hlt
      obtain ⟨x, ex⟩ : ∃ x, x = l.getD k 0 := ⟨_, rfl⟩
      rw [← ex] at hck
      have hmem : x ∈ l := getD_contains hlt ex.symm
      have htk : ∀ n, n ∈ l.take (k + 1) → n ∈ l.take k ∨ n = x := fun n hn => by
        rw [List.take_succ_eq_append_getElem hlt, List.mem_append, List.mem_singleton] at hn
        rcases hn with hn | hn
        · exact .inl hn
        · exact .inr (by rw [hn, ex, List.getD_eq_getElem?_getD, List.getElem?_eq_getElem hlt]; rfl)
      by_cases hq : x ∈ p
      · have HC := Lib.hid (HB.out x true (iff_of_true rfl hq))
        have HT := Lib.hid (HR.out.2 ⟨x, hmem, hq⟩)
        clear hc h hmem htk hq ex
        go_wp2_with ((with_reducible refine HC.out.mono ?_); rintro e w1 ⟨rfl, rfl⟩)
        go_ret
        exact ⟨⟨_, rfl, by rw [HT.out]; exact decide_eq_true (Int.natCast_nonneg k)⟩, rfl⟩
      · have HC := Lib.hid (HB.out x false (iff_of_false (by decide) hq))
        have hne : ∀ n, n ∈ l.take (k + 1) → n ∉ p := fun n hn => by
          rcases htk n hn with h1 | rfl
          · exact hno.out n h1
          · exact hq
        have HN := Lib.hid hne
        clear hc h hmem htk hq ex hne
        go_wp2_with ((with_reducible refine HC.out.mono ?_); rintro e w1 ⟨rfl, rfl⟩)
        refine ⟨⟨k + 1, by omega, by go_num, HN, trivial⟩, ?_⟩
        simp [intOf]; omega
    · have hn : ¬ ∃ n, n ∈ l ∧ n ∈ p := by
        rintro ⟨n, h1, h2⟩
        have h3 := hno.out n
        rw [List.take_of_length_le (by omega)] at h3
        exact h3 h1 h2
      have hrf : r = false := by rcases r with _ | _; rfl; exact absurd (HR.out.1 rfl) hn
      have HF := Lib.hid hrf
      have hle : l.length ≤ k := by omega
      clear hn hrf h
      go_wp2
      go_ret
      exact ⟨⟨-1, rfl, by rw [HF.out]; rfl⟩, rfl⟩

set_option maxRecDepth 100000 in
theorem containsf_any (v : Value) (l : List Int) (b : Nat) (pv : Value) (p : List Int) (r : Bool) (hr : r = true ↔ ∃ n, n ∈ l ∧ n ∈ p) (hl : l.length ≤ 9223372036854775807) (h2 : p.length ≤ 9223372036854775807) (w : World) (hv : Ints w v l) (hcb : w.cell? ⟨b, 2, none⟩ = some pv) (hp : Ints w pv p) :
    Calls Try.prog 32 #[v, .func (.func 30) #[] #[.pointer (some ⟨b, 0, none⟩)]] w fun e w' => e = .returned (.bool r) ∧ w = w' := by
  have HI := Lib.hid (indexf_any v l b pv p r hr hl h2 w hv hcb hp)
  clear hr hl hv hcb hp h2
  go_enter Try.func32, Try.ntmps32
  go_wp2_with ((with_reducible refine HI.out.mono ?_); rintro e w' ⟨⟨q, rfl, hq⟩, rfl⟩)
  go_ret
  exact ⟨rfl, rfl⟩

/-- may a port be so? -/
def Fine (d : Int) (t p : List Int) : Prop := Rises t ∧ Rises p ∧ (¬ ∃ n, n ∈ t ∧ n ∈ p) ∧ (d = 0 ∨ (d ∈ t ∨ d ∈ p))

theorem tell (P : Prop) : ∃ b : Bool, b = true ↔ P := by
  by_cases h : P
  · exact ⟨true, iff_of_true rfl h⟩
  · exact ⟨false, iff_of_false (by decide) h⟩

set_option maxRecDepth 100000 in
set_option maxHeartbeats 1000000 in
theorem vfine_any (d : Int) (tv pv : Value) (t p : List Int) (r : Bool) (hr : r = true ↔ Fine d t p) (h1 : t.length ≤ 9223372036854775807) (h2 : p.length ≤ 9223372036854775807) (w : World) (ht : Ints w tv t) (hp : Ints w pv p) :
    Calls Try.prog 26 #[.agg #[.int .i64 d, tv, pv]] w fun e w' => e = .returned (.bool r) ∧ Below w.heap.size w w' := by
  obtain ⟨b1, e1⟩ := tell (Rises t)
  obtain ⟨b2, e2⟩ := tell (Rises p)
  obtain ⟨b3, e3⟩ := tell (∃ n, n ∈ t ∧ n ∈ p)
  obtain ⟨b5, e5⟩ := tell (d ∈ t ∨ d ∈ p)
  obtain ⟨b4, e4⟩ : ∃ b, b = (d == 0) := ⟨_, rfl⟩
  have hR : r = (b1 && (b2 && (!b3 && (b4 || b5)))) := by
    rw [Bool.eq_iff_iff, hr, e4]
    simp only [Fine, Bool.and_eq_true, Bool.or_eq_true, Bool.not_eq_true', beq_iff_eq, e1, e2, e5]
    constructor
    · rintro ⟨q1, q2, q3, q4⟩
      exact ⟨q1, q2, (by rcases b3 with _ | _; rfl; exact absurd (e3.1 rfl) q3), q4⟩
    · rintro ⟨q1, q2, q3, q4⟩
      exact ⟨q1, q2, (fun h => by rw [e3.2 h] at q3; cases q3), q4⟩
  have HR := Lib.hid hR
  have f4 := e4.symm
  have g := bbox1 w (.cells #[.int .i64 d, tv, pv] 34)
  have H1 := Lib.hid (rises_any tv t b1 e1 h1 _ (ht.below g))
  have H2 := Lib.hid (rises_any pv p b2 e2 h2 _ (hp.below g))
  have H3 := Lib.hid (containsf_any tv t w.heap.size pv p b3 e3 h1 h2 _ (ht.below g) (by simp [go_sem]) (hp.below g))
  have H5 := Lib.hid (member_any d tv pv t p d b5 e5 h1 h2 _ (ht.below g) (hp.below g))
  clear hR hr e1 e2 e3 e4 e5 h1 h2 ht hp g
  rcases b1 with _ | _ <;> rcases b2 with _ | _ <;> rcases b3 with _ | _ <;> rcases b4 with _ | _
  all_goals
    go_enter Try.func26, Try.ntmps26
    go_wp2_with (first | ((with_reducible refine H1.out.mono ?_); rintro e w1 ⟨rfl, rfl⟩) | ((with_reducible refine H2.out.mono ?_); rintro e w1 ⟨rfl, rfl⟩) | ((with_reducible refine H3.out.mono ?_); rintro e w1 ⟨rfl, rfl⟩) | ((with_reducible refine H5.out.mono ?_); rintro e w5 ⟨rfl, g5⟩))
    go_ret
    first
      | exact ⟨by rw [HR.out]; rfl, bbox1 _ _⟩
      | exact ⟨by rw [HR.out]; simp, bstep (bbox1 _ _) g5⟩
end Go.Proofs.Ytpninodcjglboaa
