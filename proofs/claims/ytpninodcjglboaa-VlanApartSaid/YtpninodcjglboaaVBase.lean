/-
  Lists of numbers and of ports in memory. Conditions: those of each.
-/
import Derived.Test.YtpninodcjglboaaBase
namespace Go.Proofs.Ytpninodcjglboaa
open Go.RowKit

/-- a slice of ints that holds these numbers -/
def Ints (W : World) (v : Value) (l : List Int) : Prop :=
  ∃ (a : Option Addr) (cap : Nat), v = .slice a l.length cap ∧ (l = [] ∨ ∃ b o, a = some ⟨b, o, none⟩ ∧ b < W.heap.size ∧ ∀ i, i < l.length → W.cell? ⟨b, o + i, none⟩ = some (.int .i64 (l.getD i 0)))
theorem Ints.below {W W' : World} {v : Value} {l : List Int} (h : Ints W v l) (g : Below W.heap.size W W') : Ints W' v l := by
  obtain ⟨a, cap, rfl, h⟩ := h
  refine ⟨a, cap, rfl, ?_⟩
  rcases h with h | ⟨b, o, rfl, hb, hc⟩
  · exact .inl h
  · exact .inr ⟨b, o, rfl, Nat.lt_of_lt_of_le hb g.size, fun i hi => (g.cell hb).trans (hc i hi)⟩

theorem getD_contains {l : List Int} {n : Int} {k : Nat} (hk : k < l.length) (h : l.getD k 0 = n) : n ∈ l := by
  rw [← h, List.getD_eq_getElem?_getD, List.getElem?_eq_getElem hk]
  exact List.getElem_mem hk
theorem take_not {l : List Int} {n : Int} {k : Nat} (hk : k < l.length) (h : l.getD k 0 ≠ n) (ht : n ∉ l.take k) : n ∉ l.take (k + 1) := by
  rw [List.take_succ_eq_append_getElem hk]
  rw [List.getD_eq_getElem?_getD, List.getElem?_eq_getElem hk] at h
  simp only [List.mem_append, List.mem_singleton, not_or]
  exact ⟨ht, fun e => h e.symm⟩

/-- the row where a number is asked for -/
theorem Ints.row {W : World} {a : Option Addr} {l : List Int} {k : Nat} (h : l = [] ∨ ∃ b o, a = some ⟨b, o, none⟩ ∧ b < W.heap.size ∧ ∀ i, i < l.length → W.cell? ⟨b, o + i, none⟩ = some (.int .i64 (l.getD i 0))) (hk : k < l.length) :
    ∃ b o, a = some ⟨b, o, none⟩ ∧ b < W.heap.size ∧ ∀ i, i < l.length → W.cell? ⟨b, o + i, none⟩ = some (.int .i64 (l.getD i 0)) :=
  h.resolve_left (by rintro rfl; exact absurd hk (Nat.not_lt_zero _))

set_option maxRecDepth 100000 in
set_option maxHeartbeats 1000000 in
theorem has_any (v : Value) (l : List Int) (n : Int) (r : Bool) (hr : r = true ↔ n ∈ l) (hl : l.length ≤ 9223372036854775807) (w : World) (hv : Ints w v l) :
    Calls Try.prog 19 #[v, .int .i64 n] w fun e w' => e = .returned (.bool r) ∧ w = w' := by
  obtain ⟨a, cap, rfl, h⟩ := hv
  have HR := Lib.hid hr
  clear hr
  go_enter Try.func19, Try.ntmps19
  go_wp2
  go_loopw [5] (fun i wr => ∃ k : Nat, k ≤ l.length ∧ i = .int .i64 k ∧ Hid (n ∉ l.take k) ∧ wr = w) (fun i _ => l.length + 1 - (intOf i).toNat)
  case atStart => exact ⟨0, Nat.zero_le _, rfl, by show n ∉ l.take 0; simp, rfl⟩
  case round =>
    obtain ⟨k, hk, rfl, hno, rfl⟩ := hrel
    by_cases hlt : k < l.length
    · obtain ⟨b, o, rfl, hb, hc⟩ := Ints.row h hlt
      have hck := hc k hlt
      obtain ⟨x, ex⟩ : ∃ x, x = l.getD k 0 := ⟨_, rfl⟩
      rw [← ex] at hck
      clear hc h
      rcases hq : (x == n) with _ | _
      · have hne : n ∉ l.take (k + 1) := take_not hlt (by rw [← ex]; simpa using hq) hno.out
        have HN := Lib.hid hne
        clear hne ex
        go_wp2
        refine ⟨⟨k + 1, by omega, by go_num, HN, trivial⟩, ?_⟩
        simp [intOf]; omega
      · have hm : n ∈ l := getD_contains hlt (by rw [← ex]; simpa using hq)
        have hrt : r = true := HR.out.2 hm
        have HT := Lib.hid hrt
        clear ex hm hrt
        go_wp2
        go_ret
        exact ⟨ret_bool HT.out.symm, rfl⟩
    · have hn : n ∉ l := by have h2 := hno.out; rwa [List.take_of_length_le (by omega)] at h2
      have hrf : r = false := by rcases r with _ | _; rfl; exact absurd (HR.out.1 rfl) hn
      have HF := Lib.hid hrf
      have hle : l.length ≤ k := by omega
      clear hn hrf h
      go_wp2
      go_ret
      exact ⟨ret_bool HF.out.symm, rfl⟩

set_option maxRecDepth 100000 in
set_option maxHeartbeats 1000000 in
theorem index_any (v : Value) (l : List Int) (n : Int) (r : Bool) (hr : r = true ↔ n ∈ l) (hl : l.length ≤ 9223372036854775807) (w : World) (hv : Ints w v l) :
    Calls Try.prog 28 #[v, .int .i64 n] w fun e w' => (∃ q : Int, e = .returned (.int .i64 q) ∧ decide (0 ≤ q) = r) ∧ w = w' := by
  obtain ⟨a, cap, rfl, h⟩ := hv
  have HR := Lib.hid hr
  clear hr
  go_enter Try.func28, Try.ntmps28
  go_wp2
  go_loopw [5, 8] (fun _ i wr => ∃ k : Nat, k ≤ l.length ∧ i = .int .i64 k ∧ Hid (n ∉ l.take k) ∧ wr = w) (fun _ i _ => l.length + 1 - (intOf i).toNat)
  case atStart => exact ⟨0, Nat.zero_le _, rfl, by show n ∉ l.take 0; simp, rfl⟩
  case round =>
    obtain ⟨k, hk, rfl, hno, rfl⟩ := hrel
    by_cases hlt : k < l.length
    · obtain ⟨b, o, rfl, hb, hc⟩ := Ints.row h hlt
      have hck := hc k hlt
      obtain ⟨x, ex⟩ : ∃ x, x = l.getD k 0 := ⟨_, rfl⟩
      rw [← ex] at hck
      clear hc h
      rcases hq : (n == x) with _ | _
      · have hne : n ∉ l.take (k + 1) := take_not hlt (by rw [← ex]; intro e; rw [e] at hq; simp at hq) hno.out
        have HN := Lib.hid hne
        clear hne ex
        go_wp2
        refine ⟨⟨k + 1, by omega, by go_num, HN, trivial⟩, ?_⟩
        simp [intOf]; omega
      · have hm : n ∈ l := getD_contains hlt (by rw [← ex]; simpa using (beq_iff_eq.1 hq).symm)
        have hrt : r = true := HR.out.2 hm
        have HT := Lib.hid hrt
        clear ex hm hrt
        go_wp2
        go_ret
        exact ⟨⟨_, rfl, by rw [HT.out]; exact decide_eq_true (Int.natCast_nonneg k)⟩, rfl⟩
    · have hn : n ∉ l := by have h2 := hno.out; rwa [List.take_of_length_le (by omega)] at h2
      have hrf : r = false := by rcases r with _ | _; rfl; exact absurd (HR.out.1 rfl) hn
      have HF := Lib.hid hrf
      have hle : l.length ≤ k := by omega
      clear hn hrf h
      go_wp2
      go_ret
      exact ⟨⟨-1, rfl, by rw [HF.out]; rfl⟩, rfl⟩

set_option maxRecDepth 100000 in
theorem contains_any (v : Value) (l : List Int) (n : Int) (r : Bool) (hr : r = true ↔ n ∈ l) (hl : l.length ≤ 9223372036854775807) (w : World) (hv : Ints w v l) :
    Calls Try.prog 24 #[v, .int .i64 n] w fun e w' => e = .returned (.bool r) ∧ w = w' := by
  have HI := Lib.hid (index_any v l n r hr hl w hv)
  clear hr hl hv
  go_enter Try.func24, Try.ntmps24
  go_wp2_with ((with_reducible refine HI.out.mono ?_); rintro e w' ⟨⟨q, rfl, hq⟩, rfl⟩)
  go_ret
  exact ⟨rfl, rfl⟩

/-- a VLAN may stand at this place -/
def okAt (l : List Int) (i : Nat) : Prop := 1 ≤ l.getD i 0 ∧ l.getD i 0 ≤ 4094 ∧ (i = 0 ∨ l.getD (i - 1) 0 < l.getD i 0)
def Rises (l : List Int) : Prop := ∀ i, i < l.length → okAt l i

set_option maxRecDepth 100000 in
set_option maxHeartbeats 1000000 in
theorem rises_any (v : Value) (l : List Int) (r : Bool) (hr : r = true ↔ Rises l) (hl : l.length ≤ 9223372036854775807) (w : World) (hv : Ints w v l) :
    Calls Try.prog 31 #[v] w fun e w' => e = .returned (.bool r) ∧ w = w' := by
  obtain ⟨a, cap, rfl, h⟩ := hv
  have HR := Lib.hid hr
  clear hr
  go_enter Try.func31, Try.ntmps31
  go_wp2
  go_loopw [3, 5, 8] (fun la _ i wr => ∃ (k : Nat) (z : Int), k ≤ l.length ∧ i = .int .i64 k ∧ la = .int .i64 z ∧ Hid (z = if k = 0 then 0 else l.getD (k - 1) 0) ∧ Hid (∀ j, j < k → okAt l j) ∧ wr = w) (fun _ _ i _ => l.length + 1 - (intOf i).toNat)
  case atStart => exact ⟨0, 0, Nat.zero_le _, rfl, rfl, rfl, fun j hj => absurd hj (Nat.not_lt_zero _), rfl⟩
  case round =>
    obtain ⟨k, z, hk, rfl, rfl, hz, hno, rfl⟩ := hrel
    by_cases hlt : k < l.length
    · obtain ⟨b, o, rfl, hb, hc⟩ := Ints.row h hlt
      have hck := hc k hlt
      obtain ⟨x, ex⟩ : ∃ x, x = l.getD k 0 := ⟨_, rfl⟩
      rw [← ex] at hck
      have hz1 : (k = 0 ∧ z = 0) ∨ (k ≠ 0 ∧ z = l.getD (k - 1) 0 ∧ 1 ≤ z) := by
        have e := hz.out
        by_cases h0 : k = 0
        · rw [if_pos h0] at e; exact .inl ⟨h0, e⟩
        · rw [if_neg h0] at e
          exact .inr ⟨h0, e, by rw [e]; exact (hno.out (k - 1) (by omega)).1⟩
      have hok : okAt l k ↔ ¬ (x ≤ z ∨ 4094 < x) := by
        unfold okAt
        rw [← ex]
        rcases hz1 with ⟨h0, e⟩ | ⟨h0, e, e2⟩
        · constructor
          · rintro ⟨a, b, _⟩; omega
          · intro h; exact ⟨by omega, by omega, .inl h0⟩
        · rw [← e]
          constructor
          · rintro ⟨a, b, c⟩; rcases c with c | c <;> omega
          · intro h; exact ⟨by omega, by omega, .inr (by omega)⟩
      clear hc h hz1
      by_cases hq : x ≤ z ∨ 4094 < x
      · have hrf : r = false := by rcases r with _ | _; rfl; exact absurd hq (hok.1 (HR.out.1 rfl k hlt))
        have HF := Lib.hid hrf
        have hq2 : decide (x ≤ z) = true ∨ (decide (x ≤ z) = false ∧ decide (4094 < x) = true) := by
          simp only [decide_eq_true_eq, decide_eq_false_iff_not]; omega
        clear hrf hok hq ex
        rcases hq2 with q1 | ⟨q1, q2⟩
        all_goals
          go_wp2
          go_ret
          exact ⟨ret_bool HF.out.symm, rfl⟩
      · have h1 := hok.2 hq
        have hne : ∀ j, j < k + 1 → okAt l j := fun j hj => by
          rcases Nat.lt_succ_iff_lt_or_eq.1 hj with h2 | rfl
          · exact hno.out j h2
          · exact h1
        have HN := Lib.hid hne
        have hx : x = if k + 1 = 0 then 0 else l.getD (k + 1 - 1) 0 := by rw [if_neg (by omega)]; exact ex
        have HX := Lib.hid hx
        have q1 : decide (x ≤ z) = false := decide_eq_false (by omega)
        have q2 : decide (4094 < x) = false := decide_eq_false (by omega)
        clear hne hx h1 hok hq ex hno hz
        go_wp2
        refine ⟨⟨k + 1, x, by omega, by go_num, rfl, HX, HN, trivial⟩, ?_⟩
        simp [intOf]; omega
    · have hrf : r = true := HR.out.2 (fun j hj => hno.out j (by omega))
      have HF := Lib.hid hrf
      have hle : l.length ≤ k := by omega
      clear hrf h
      go_wp2
      go_ret
      exact ⟨ret_bool HF.out.symm, rfl⟩
end Go.Proofs.Ytpninodcjglboaa
