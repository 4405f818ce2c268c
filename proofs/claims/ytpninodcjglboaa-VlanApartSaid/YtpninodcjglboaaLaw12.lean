/-
  The walks of chapter 12's laws 'VlanIns' and 'VlanOuts', and of what all of them ask at last: each returns true and leaves what was there alone. Conditions: a text's length lies within the form's own reach.
-/
import Derived.Test.YtpninodcjglboaaVROut
import Derived.Test.YtpninodcjglboaaOpPt
import Derived.Test.YtpninodcjglboaaOpFr
namespace Go.Proofs.Ytpninodcjglboaa
open Go.RowKit

theorem good3_tag {dst src data : ByteArray} {tg : Bool} {vl pr ty : Int} (h : Good3 dst src tg vl pr ty data) (hv : vl ≠ 0) : tg = true := by
  obtain ⟨_, _, _, _, _, _, _, _, _, h⟩ := h
  rcases h with h | h
  · exact h
  · exact absurd h.1 hv
theorem asked_ok {ps : List Pt} {q : Int} {ok : Prop} {y : Pt} (h : Asked ps q ok 0 (some y)) : ok ∧ y ∈ ps := by
  rcases h with ⟨h, _⟩ | ⟨_, h, _⟩ | ⟨_, _, hg, k, z, _, hk, hz⟩
  · exact absurd h (by decide)
  · exact absurd h (by decide)
  · cases hz; exact ⟨hg, List.mem_of_getElem? hk⟩

theorem in_any {ps : List Pt} {q : Int} {dst src data : ByteArray} {tg : Bool} {vl pr ty : Int} {u : Value} {e0 : Int} (hz : data.size ≤ 140737488351232) (h : InCase ps q dst src tg vl pr ty data u e0) (v : Value) (w : World) (hv : Ports w v ps) :
    Calls Try.prog 10 #[v, .int .i64 q, fr dst src tg vl pr ty data] w fun e w' => e = .returned (.tuple #[u, .int .i64 e0]) ∧ Below w.heap.size w w' := by
  rcases h with ⟨c, hc, hA, rfl, rfl⟩ | ⟨y, n, hA, hy, rfl, h⟩
  · exact in_not v ps q dst src data tg vl pr ty _ hc hz hA w hv
  · by_cases h0 : vl = 0
    · subst h0
      rw [if_pos rfl] at h
      obtain ⟨r, hr⟩ := tell (y.d ∈ y.t ∨ y.d ∈ y.p)
      refine in_new v ps q dst src data tg pr ty e0 y r u hz hA hy hr ?_ w hv
      rcases h with ⟨h1, h2, h3⟩ | ⟨⟨h1, h2⟩, h3, h4⟩
      · by_cases hd : y.d = 0
        · exact .inl ⟨hd, h2, h3⟩
        · exact .inr (.inl ⟨hd, by rcases r with _ | _; rfl; exact absurd (hr.1 rfl) (h1.resolve_left hd), h2, h3⟩)
      · exact .inr (.inr ⟨h1, hr.2 h2, h3, h4⟩)
    · rw [if_neg h0] at h
      obtain rfl := good3_tag (asked_ok hA).1 h0
      obtain ⟨r, hr⟩ := tell (vl ∈ y.t ∨ vl ∈ y.p)
      refine in_had v ps q dst src data vl pr ty e0 y r u hz hA hy h0 hr ?_ w hv
      rcases h with ⟨h1, h2, h3⟩ | ⟨⟨h1, h2⟩, h3, h4⟩
      · exact .inl ⟨by rcases r with _ | _; rfl; exact absurd (hr.1 rfl) (h1.resolve_left h0), h2, h3⟩
      · exact .inr ⟨hr.2 h2, h3, h4⟩

theorem rin_any {ps : List Pt} {q : Int} {dst src data : ByteArray} {tg : Bool} {vl pr ty : Int} {u : Value} {e0 : Int} (hz : data.size ≤ 140737488351232) (h : InCase ps q dst src tg vl pr ty data u e0) (v : Value) (w : World) (hv : Ports w v ps) :
    Calls Try.prog 11 #[v, .int .i64 q, fr dst src tg vl pr ty data] w fun e w' => e = .returned (.tuple #[u, .int .i64 e0]) ∧ Below w.heap.size w w' := by
  rcases h with ⟨c, hc, hA, rfl, rfl⟩ | ⟨y, n, hA, hy, rfl, h⟩
  · exact rin_not v ps q dst src data tg vl pr ty _ hc hz hA w hv
  · have key : ∀ n : Int, (((n = 0 ∨ ¬ (n ∈ y.t ∨ n ∈ y.p)) ∧ u = zeroFr ∧ e0 = 6) ∨ ((n ≠ 0 ∧ (n ∈ y.t ∨ n ∈ y.p)) ∧ u = fr dst src true n pr ty data ∧ e0 = 0)) → ∀ r : Bool, (r = true ↔ n ∈ y.t ∨ n ∈ y.p) →
        (n = 0 ∧ u = zeroFr ∧ e0 = 6) ∨ (n ≠ 0 ∧ r = false ∧ u = zeroFr ∧ e0 = 6) ∨ (n ≠ 0 ∧ r = true ∧ u = fr dst src true n pr ty data ∧ e0 = 0) := by
      intro n h r hr
      rcases h with ⟨h1, h2, h3⟩ | ⟨⟨h1, h2⟩, h3, h4⟩
      · by_cases hd : n = 0
        · exact .inl ⟨hd, h2, h3⟩
        · exact .inr (.inl ⟨hd, by rcases r with _ | _; rfl; exact absurd (hr.1 rfl) (h1.resolve_left hd), h2, h3⟩)
      · exact .inr (.inr ⟨h1, hr.2 h2, h3, h4⟩)
    by_cases h0 : vl = 0
    · subst h0
      rw [if_pos rfl] at h
      obtain ⟨r, hr⟩ := tell (y.d ∈ y.t ∨ y.d ∈ y.p)
      exact rin_new v ps q dst src data tg pr ty e0 y r u hz hA hr (key _ h r hr) w hv
    · rw [if_neg h0] at h
      obtain rfl := good3_tag (asked_ok hA).1 h0
      obtain ⟨r, hr⟩ := tell (vl ∈ y.t ∨ vl ∈ y.p)
      exact rin_had v ps q dst src data vl pr ty e0 y r u hz hA h0 hr (key _ h r hr) w hv

theorem out_any {ps : List Pt} {q : Int} {dst src data : ByteArray} {tg : Bool} {vl pr ty : Int} {u : Value} {e0 : Int} (hz : data.size ≤ 140737488351232) (h : OutCase ps q dst src tg vl pr ty data u e0) (v : Value) (w : World) (hv : Ports w v ps) :
    Calls Try.prog 12 #[v, .int .i64 q, fr dst src tg vl pr ty data] w fun e w' => e = .returned (.tuple #[u, .int .i64 e0]) ∧ Below w.heap.size w w' := by
  rcases h with ⟨c, hc, hA, rfl, rfl⟩ | ⟨y, hA, hy, rfl, rfl, rfl⟩ | ⟨y, hA, hy, h0, rfl, h⟩
  · exact out_not v ps q dst src data tg vl pr ty _ hc hz hA w hv
  · exact out_zero v ps q dst src data tg pr ty y hz hA w hv
  · exact out_had v ps q dst src data vl pr ty e0 y u hz hA hy h0 h w hv
theorem rout_any {ps : List Pt} {q : Int} {dst src data : ByteArray} {tg : Bool} {vl pr ty : Int} {u : Value} {e0 : Int} (hz : data.size ≤ 140737488351232) (h : OutCase ps q dst src tg vl pr ty data u e0) (v : Value) (w : World) (hv : Ports w v ps) :
    Calls Try.prog 13 #[v, .int .i64 q, fr dst src tg vl pr ty data] w fun e w' => e = .returned (.tuple #[u, .int .i64 e0]) ∧ Below w.heap.size w w' := by
  rcases h with ⟨c, hc, hA, rfl, rfl⟩ | ⟨y, hA, hy, rfl, rfl, rfl⟩ | ⟨y, hA, hy, h0, rfl, h⟩
  · exact rout_not v ps q dst src data tg vl pr ty _ hc hz hA w hv
  · exact rout_zero v ps q dst src data tg pr ty y hz hA w hv
  · exact rout_had v ps q dst src data vl pr ty e0 y u hz hA h0 h w hv

theorem asked_split (ps : List Pt) (q : Int) (ok : Prop) : (∃ c, c ≠ 0 ∧ Asked ps q ok c none) ∨ (∃ y, Asked ps q ok 0 (some y) ∧ y ∈ ps ∧ ok) := by
  obtain ⟨c, x, h⟩ := asked_total ps q ok
  rcases h with ⟨rfl, h1, rfl⟩ | ⟨h1, rfl, h2, rfl⟩ | ⟨h1, rfl, h2, k, y, h3, h4, rfl⟩
  · exact .inl ⟨3, by decide, .inl ⟨rfl, h1, rfl⟩⟩
  · exact .inl ⟨1, by decide, .inr (.inl ⟨h1, rfl, h2, rfl⟩)⟩
  · exact .inr ⟨y, .inr (.inr ⟨h1, rfl, h2, k, y, h3, h4, rfl⟩), List.mem_of_getElem? h4, h2⟩

theorem in_total (ps : List Pt) (q : Int) (dst src : ByteArray) (tg : Bool) (vl pr ty : Int) (data : ByteArray) : ∃ d s t n p y z e, InCase ps q dst src tg vl pr ty data (fr d s t n p y z) e := by
  rcases asked_split ps q (Good3 dst src tg vl pr ty data) with ⟨c, hc, hA⟩ | ⟨y, hA, hy, _⟩
  · exact ⟨⟨#[]⟩, ⟨#[]⟩, false, 0, 0, 0, ⟨#[]⟩, c, .inl ⟨c, hc, hA, rfl, rfl⟩⟩
  · by_cases h : (if vl = 0 then y.d else vl) = 0 ∨ ¬ ((if vl = 0 then y.d else vl) ∈ y.t ∨ (if vl = 0 then y.d else vl) ∈ y.p)
    · exact ⟨⟨#[]⟩, ⟨#[]⟩, false, 0, 0, 0, ⟨#[]⟩, 6, .inr ⟨y, _, hA, hy, rfl, .inl ⟨h, rfl, rfl⟩⟩⟩
    · have h1 : (if vl = 0 then y.d else vl) ≠ 0 := fun e => h (.inl e)
      have h2 : (if vl = 0 then y.d else vl) ∈ y.t ∨ (if vl = 0 then y.d else vl) ∈ y.p := by
        by_cases q : (if vl = 0 then y.d else vl) ∈ y.t ∨ (if vl = 0 then y.d else vl) ∈ y.p
        · exact q
        · exact absurd (.inr q) h
      exact ⟨dst, src, true, _, pr, ty, data, 0, .inr ⟨y, _, hA, hy, rfl, .inr ⟨⟨h1, h2⟩, rfl, rfl⟩⟩⟩

theorem out_total (ps : List Pt) (q : Int) (dst src : ByteArray) (tg : Bool) (vl pr ty : Int) (data : ByteArray) : ∃ d s t n p y z e, OutCase ps q dst src tg vl pr ty data (fr d s t n p y z) e := by
  rcases asked_split ps q (Good3 dst src tg vl pr ty data) with ⟨c, hc, hA⟩ | ⟨y, hA, hy, hg⟩
  · exact ⟨⟨#[]⟩, ⟨#[]⟩, false, 0, 0, 0, ⟨#[]⟩, c, .inl ⟨c, hc, hA, rfl, rfl⟩⟩
  · by_cases h0 : vl = 0
    · exact ⟨⟨#[]⟩, ⟨#[]⟩, false, 0, 0, 0, ⟨#[]⟩, 1, .inr (.inl ⟨y, hA, hy, h0, rfl, rfl⟩)⟩
    · have ht := good3_tag hg h0
      by_cases h1 : vl ∈ y.t
      · exact ⟨dst, src, true, vl, pr, ty, data, 0, .inr (.inr ⟨y, hA, hy, h0, ht, .inl ⟨h1, rfl, rfl⟩⟩)⟩
      · by_cases h2 : vl ∈ y.p
        · by_cases h3 : Good3 dst src false 0 0 ty data
          · exact ⟨dst, src, false, 0, 0, ty, data, 0, .inr (.inr ⟨y, hA, hy, h0, ht, .inr (.inr (.inr ⟨h1, h2, h3, rfl, rfl⟩))⟩)⟩
          · exact ⟨⟨#[]⟩, ⟨#[]⟩, false, 0, 0, 0, ⟨#[]⟩, 6, .inr (.inr ⟨y, hA, hy, h0, ht, .inr (.inr (.inl ⟨h1, h2, h3, rfl, rfl⟩))⟩)⟩
        · exact ⟨⟨#[]⟩, ⟨#[]⟩, false, 0, 0, 0, ⟨#[]⟩, 6, .inr (.inr ⟨y, hA, hy, h0, ht, .inr (.inl ⟨h1, h2, rfl, rfl⟩)⟩)⟩

/-- the two ports of 'live' -/
def pt0 (w : World) : Pt := ⟨10, [], [10], none, 0, some ⟨w.heap.size, 0, none⟩, 1⟩
def pt1 (w : World) : Pt := ⟨0, [10], [], some ⟨w.heap.size + 1, 0, none⟩, 1, none, 0⟩
theorem okLive (w : World) : OkPorts [pt0 w, pt1 w] := by
  have r0 : Rises [] := fun i hi => absurd hi (Nat.not_lt_zero _)
  have r1 : Rises [10] := fun i hi => by
    obtain rfl : i = 0 := by simpa using hi
    exact ⟨by decide, by decide, .inl rfl⟩
  refine ⟨show 1 ≤ 2 by decide, show 2 ≤ 16 by decide, ?_⟩
  intro x hx
  simp only [List.mem_cons, List.not_mem_nil, or_false] at hx
  rcases hx with rfl | rfl
  · exact ⟨r0, r1, by rintro ⟨n, h, _⟩; simp [pt0] at h, .inr (.inr (by simp [pt0]))⟩
  · exact ⟨r1, r0, by rintro ⟨n, _, h⟩; simp [pt1] at h, .inl rfl⟩
theorem portsLive (w : World) (t0 t1 t2 : TypeId) : Ports (((w.alloc (.cells #[.int .i64 10] t0)).alloc (.cells #[.int .i64 10] t1)).alloc (.cells #[.int .i64 10, .slice none 0 0, .slice (some ⟨w.heap.size, 0, none⟩) 1 1, .int .i64 0, .slice (some ⟨w.heap.size + 1, 0, none⟩) 1 1, .slice none 0 0] t2))
    (.slice (some ⟨w.heap.size + 1 + 1, 0, none⟩) 2 2) [pt0 w, pt1 w] := by
  refine ⟨_, 2, rfl, show 2 ≤ 9223372036854775807 by decide, ?_, .inr ⟨_, 0, rfl, by simp, ?_⟩⟩
  · intro x hx
    simp only [List.mem_cons, List.not_mem_nil, or_false] at hx
    rcases hx with rfl | rfl
    · refine ⟨⟨none, 0, rfl, .inl rfl⟩, ⟨_, 1, rfl, .inr ⟨_, 0, rfl, by simp; omega, ?_⟩⟩, show 0 ≤ 9223372036854775807 by decide, show 1 ≤ 9223372036854775807 by decide⟩
      intro i hi
      obtain rfl : i = 0 := by simpa [pt0] using hi
      simp [go_sem, pt0]
    · refine ⟨⟨_, 1, rfl, .inr ⟨_, 0, rfl, by simp, ?_⟩⟩, ⟨none, 0, rfl, .inl rfl⟩, show 1 ≤ 9223372036854775807 by decide, show 0 ≤ 9223372036854775807 by decide⟩
      intro i hi
      obtain rfl : i = 0 := by simpa [pt1] using hi
      simp [go_sem, pt1]
  · intro i x hx
    rcases i with _ | _ | i
    · obtain rfl := Option.some.inj hx
      simp [go_sem, pt0]
    · obtain rfl := Option.some.inj hx
      simp [go_sem, pt1]
    · simp at hx

def dstT : ByteArray := ⟨#[97, 98, 99, 100, 101, 102]⟩
def srcT : ByteArray := ⟨#[103, 104, 105, 106, 107, 108]⟩

set_option maxRecDepth 100000 in
set_option maxHeartbeats 2000000 in
theorem live12 (w : World) : Calls Try.prog 9 #[] w fun e w' => e = .returned (.bool true) ∧ Below w.heap.size w w' := by
  have g0 : Good3 dstT srcT false 0 0 2048 ⟨#[]⟩ := by
    refine ⟨rfl, rfl, by decide, by decide, by decide, by decide, by decide, by decide, by decide, .inr ⟨rfl, rfl, by decide⟩⟩
  have g1 : Good3 dstT srcT true 10 0 2048 ⟨#[]⟩ := by
    refine ⟨rfl, rfl, by decide, by decide, by decide, by decide, by decide, by decide, by decide, .inl rfl⟩
  have A : ∀ (ok : Prop), ok → Asked [pt0 w, pt1 w] 0 ok 0 (some (pt0 w)) := fun ok h => .inr (.inr ⟨okLive w, rfl, h, 0, _, rfl, rfl, rfl⟩)
  have B : ∀ (ok : Prop), ok → Asked [pt0 w, pt1 w] 1 ok 0 (some (pt1 w)) := fun ok h => .inr (.inr ⟨okLive w, rfl, h, 1, _, rfl, rfl, rfl⟩)
  have c1 : InCase [pt0 w, pt1 w] 0 dstT srcT false 0 0 2048 ⟨#[]⟩ (fr dstT srcT true 10 0 2048 ⟨#[]⟩) 0 := .inr ⟨pt0 w, 10, A _ g0, by simp, rfl, .inr ⟨⟨by decide, .inr (by simp [pt0])⟩, rfl, rfl⟩⟩
  have c2 : OutCase [pt0 w, pt1 w] 1 dstT srcT true 10 0 2048 ⟨#[]⟩ (fr dstT srcT true 10 0 2048 ⟨#[]⟩) 0 := .inr (.inr ⟨pt1 w, B _ g1, by simp, by decide, rfl, .inl ⟨by simp [pt1], rfl, rfl⟩⟩)
  have c3 : OutCase [pt0 w, pt1 w] 0 dstT srcT true 10 0 2048 ⟨#[]⟩ (fr dstT srcT false 0 0 2048 ⟨#[]⟩) 0 := .inr (.inr ⟨pt0 w, A _ g1, by simp, by decide, rfl, .inr (.inr (.inr ⟨by simp [pt0], by simp [pt0], g0, rfl, rfl⟩))⟩)
  have c4 : InCase [pt0 w, pt1 w] 1 dstT srcT false 0 0 2048 ⟨#[]⟩ (fr ⟨#[]⟩ ⟨#[]⟩ false 0 0 0 ⟨#[]⟩) 6 := .inr ⟨pt1 w, 0, B _ g0, by simp, rfl, .inl ⟨.inl rfl, rfl, rfl⟩⟩
  have H1 := Lib.hid (fun W hv => in_any (by decide) c1 (.slice (some ⟨w.heap.size + 1 + 1, 0, none⟩) 2 2) W hv)
  have H2 := Lib.hid (fun W hv => out_any (by decide) c2 (.slice (some ⟨w.heap.size + 1 + 1, 0, none⟩) 2 2) W hv)
  have H3 := Lib.hid (fun W hv => out_any (by decide) c3 (.slice (some ⟨w.heap.size + 1 + 1, 0, none⟩) 2 2) W hv)
  have H4 := Lib.hid (fun W hv => in_any (by decide) c4 (.slice (some ⟨w.heap.size + 1 + 1, 0, none⟩) 2 2) W hv)
  have H5 := Lib.hid (fun W => check_any (.slice none 0 0) [] 3 (.inr ⟨rfl, fun h => absurd h.1 (by decide)⟩) W ⟨none, 0, rfl, by decide, by simp, .inl rfl⟩)
  have PL := Lib.hid (fun t0 t1 t2 => portsLive w t0 t1 t2)
  have BL : ∀ o0 o1 o2 : Obj, Below w.heap.size w (((w.alloc o0).alloc o1).alloc o2) := fun o0 o1 o2 => ball (ball (bbox1 _ _) _) _
  have HBL := Lib.hid BL
  unfold fr dstT srcT at H1 H2 H3 H4
  clear A B c1 c2 c3 c4 g0 g1 BL
  go_enter Try.func9, Try.ntmps9
  go_wp2_with (first
    | ((with_reducible refine (H1.out _ ((PL.out _ _ _).below (bbox1 _ _))).mono ?_); rintro e w1 ⟨rfl, g1⟩; have P1 := ((PL.out 3 3 34).below (bbox1 _ (.cells #[.string ⟨#[97, 98, 99, 100, 101, 102]⟩, .string ⟨#[103, 104, 105, 106, 107, 108]⟩, .bool false, .int .i64 0, .int .i64 0, .int .i64 2048, .string ⟨#[]⟩] 25))).below g1; have b1 := bstep (ball (HBL.out _ _ _) _) g1; have F1 := (Box7.new (((w.alloc (.cells #[.int .i64 10] 3)).alloc (.cells #[.int .i64 10] 3)).alloc (.cells #[.int .i64 10, .slice none 0 0, .slice (some ⟨w.heap.size, 0, none⟩) 1 1, .int .i64 0, .slice (some ⟨w.heap.size + 1, 0, none⟩) 1 1, .slice none 0 0] 34)) (.string ⟨#[97, 98, 99, 100, 101, 102]⟩) (.string ⟨#[103, 104, 105, 106, 107, 108]⟩) (.bool false) (.int .i64 0) (.int .i64 0) (.int .i64 2048) (.string ⟨#[]⟩) 25).below g1; simp only [World.size_alloc] at F1)
    | ((with_reducible refine (H2.out _ (P1.below (bbox1 _ _))).mono ?_); rintro e w2 ⟨rfl, g2⟩; have P2 := (P1.below (bbox1 w1 (.cells #[.string ⟨#[97, 98, 99, 100, 101, 102]⟩, .string ⟨#[103, 104, 105, 106, 107, 108]⟩, .bool true, .int .i64 10, .int .i64 0, .int .i64 2048, .string ⟨#[]⟩] 25))).below g2; have b2 := bstep (ball b1 _) g2; have F2 := (F1.below (bbox1 w1 (.cells #[.string ⟨#[97, 98, 99, 100, 101, 102]⟩, .string ⟨#[103, 104, 105, 106, 107, 108]⟩, .bool true, .int .i64 10, .int .i64 0, .int .i64 2048, .string ⟨#[]⟩] 25))).below g2; have G2 := (Box7.new w1 (.string ⟨#[97, 98, 99, 100, 101, 102]⟩) (.string ⟨#[103, 104, 105, 106, 107, 108]⟩) (.bool true) (.int .i64 10) (.int .i64 0) (.int .i64 2048) (.string ⟨#[]⟩) 25).below g2; obtain ⟨gaz, ga0, ga1, ga2, ga3, ga4, ga5, ga6, gaf⟩ := G2.below (bbox1 w2 (.cells #[.string ⟨#[97, 98, 99, 100, 101, 102]⟩, .string ⟨#[103, 104, 105, 106, 107, 108]⟩, .bool true, .int .i64 10, .int .i64 0, .int .i64 2048, .string ⟨#[]⟩] 25)))
    | ((with_reducible refine (H3.out _ (P2.below (bbox1 _ _))).mono ?_); rintro e w3 ⟨rfl, g3⟩; have P3 := (P2.below (bbox1 w2 (.cells #[.string ⟨#[97, 98, 99, 100, 101, 102]⟩, .string ⟨#[103, 104, 105, 106, 107, 108]⟩, .bool true, .int .i64 10, .int .i64 0, .int .i64 2048, .string ⟨#[]⟩] 25))).below g3; have b3 := bstep (ball b2 _) g3; have F3 := (F2.below (bbox1 w2 (.cells #[.string ⟨#[97, 98, 99, 100, 101, 102]⟩, .string ⟨#[103, 104, 105, 106, 107, 108]⟩, .bool true, .int .i64 10, .int .i64 0, .int .i64 2048, .string ⟨#[]⟩] 25))).below g3; have G3 := (G2.below (bbox1 w2 (.cells #[.string ⟨#[97, 98, 99, 100, 101, 102]⟩, .string ⟨#[103, 104, 105, 106, 107, 108]⟩, .bool true, .int .i64 10, .int .i64 0, .int .i64 2048, .string ⟨#[]⟩] 25))).below g3; have J3 := (Box7.new w2 (.string ⟨#[97, 98, 99, 100, 101, 102]⟩) (.string ⟨#[103, 104, 105, 106, 107, 108]⟩) (.bool true) (.int .i64 10) (.int .i64 0) (.int .i64 2048) (.string ⟨#[]⟩) 25).below g3; obtain ⟨faz, fa0, fa1, fa2, fa3, fa4, fa5, fa6, faf⟩ := F3.below (bbox1 w3 (.cells #[.string ⟨#[97, 98, 99, 100, 101, 102]⟩, .string ⟨#[103, 104, 105, 106, 107, 108]⟩, .bool false, .int .i64 0, .int .i64 0, .int .i64 2048, .string ⟨#[]⟩] 25)))
    | ((with_reducible refine (H4.out _ (P3.below (bbox1 _ _))).mono ?_); rintro e w4 ⟨rfl, g4⟩; have b4 := ball (bstep (ball b3 _) g4) (.cells #[.string ⟨#[]⟩, .string ⟨#[]⟩, .bool false, .int .i64 0, .int .i64 0, .int .i64 0, .string ⟨#[]⟩] 25); obtain ⟨fbz, fb0, fb1, fb2, fb3, fb4, fb5, fb6, fbf⟩ := ((F3.below (bbox1 w3 (.cells #[.string ⟨#[97, 98, 99, 100, 101, 102]⟩, .string ⟨#[103, 104, 105, 106, 107, 108]⟩, .bool false, .int .i64 0, .int .i64 0, .int .i64 2048, .string ⟨#[]⟩] 25))).below g4).below (bbox1 w4 (.cells #[.string ⟨#[]⟩, .string ⟨#[]⟩, .bool false, .int .i64 0, .int .i64 0, .int .i64 0, .string ⟨#[]⟩] 25)); obtain ⟨gbz, gb0, gb1, gb2, gb3, gb4, gb5, gb6, gbf⟩ := ((G3.below (bbox1 w3 (.cells #[.string ⟨#[97, 98, 99, 100, 101, 102]⟩, .string ⟨#[103, 104, 105, 106, 107, 108]⟩, .bool false, .int .i64 0, .int .i64 0, .int .i64 2048, .string ⟨#[]⟩] 25))).below g4).below (bbox1 w4 (.cells #[.string ⟨#[]⟩, .string ⟨#[]⟩, .bool false, .int .i64 0, .int .i64 0, .int .i64 0, .string ⟨#[]⟩] 25)); obtain ⟨jbz, jb0, jb1, jb2, jb3, jb4, jb5, jb6, jbf⟩ := ((J3.below (bbox1 w3 (.cells #[.string ⟨#[97, 98, 99, 100, 101, 102]⟩, .string ⟨#[103, 104, 105, 106, 107, 108]⟩, .bool false, .int .i64 0, .int .i64 0, .int .i64 2048, .string ⟨#[]⟩] 25))).below g4).below (bbox1 w4 (.cells #[.string ⟨#[]⟩, .string ⟨#[]⟩, .bool false, .int .i64 0, .int .i64 0, .int .i64 0, .string ⟨#[]⟩] 25)); obtain ⟨kbz, kb0, kb1, kb2, kb3, kb4, kb5, kb6, kbf⟩ := ((Box7.new w3 (.string ⟨#[97, 98, 99, 100, 101, 102]⟩) (.string ⟨#[103, 104, 105, 106, 107, 108]⟩) (.bool false) (.int .i64 0) (.int .i64 0) (.int .i64 2048) (.string ⟨#[]⟩) 25).below g4).below (bbox1 w4 (.cells #[.string ⟨#[]⟩, .string ⟨#[]⟩, .bool false, .int .i64 0, .int .i64 0, .int .i64 0, .string ⟨#[]⟩] 25)))
    | ((with_reducible refine (H5.out _).mono ?_); rintro e w5 ⟨rfl, g5⟩))
  go_ret
  exact ⟨rfl, bstep b4 g5⟩

set_option maxRecDepth 100000 in
set_option maxHeartbeats 1000000 in
theorem vlanins_walk (v : Value) (ps : List Pt) (q : Int) (dst src : ByteArray) (tg : Bool) (vl pr ty : Int) (data : ByteArray) (hz : data.size ≤ 140737488351232) (w : World) (hv : Ports w v ps) :
    Calls Try.prog 3 #[v, .int .i64 q, fr dst src tg vl pr ty data] w fun e w' => e = .returned (.bool true) ∧ Below w.heap.size w w' := by
  obtain ⟨d, s, t, n, p, y, z, e0, hc⟩ := in_total ps q dst src tg vl pr ty data
  have HL := Lib.hid live12
  have H1 := Lib.hid (fun (W : World) (b : Below w.heap.size w W) => in_any hz hc v W (hv.below b))
  have H2 := Lib.hid (fun (W : World) (b : Below w.heap.size w W) => rin_any hz hc v W (hv.below b))
  obtain ⟨r, hr⟩ := tell (Few ps)
  have HF := Lib.hid (fun (W : World) (b : Below w.heap.size w W) => few_any v ps r hr W (hv.below b))
  unfold fr at H1 H2
  unfold fr
  clear hc hz hr hv
  rcases r with _ | _
  all_goals
    go_enter Try.func3, Try.ntmps3
    go_wp2_with (first | ((with_reducible refine (HF.out _ (bbox1 _ _)).mono ?_); rintro e w' ⟨rfl, rfl⟩) | ((with_reducible refine (H1.out _ (bbox1 _ _)).mono ?_); rintro e w1 ⟨rfl, g1⟩; have b1 := bstep (bbox1 w _) g1; obtain ⟨y1, c0, c1, c2, c3, c4, c5, c6, cf⟩ := (Box7.new w _ _ _ _ _ _ _ _).below g1; obtain ⟨y3, m0, m1, m2, m3, m4, m5, m6, mf⟩ := ((Box7.new w _ _ _ _ _ _ _ _).below g1).below (bbox1 w1 (.cells #[.string d, .string s, .bool t, .int .i64 n, .int .i64 p, .int .i64 y, .string z] 25))) | ((with_reducible refine (H2.out _ (ball b1 _)).mono ?_); rintro e w2 ⟨rfl, g2⟩; have b2 := bstep (ball b1 _) g2; obtain ⟨y2, k0, k1, k2, k3, k4, k5, k6, kf⟩ := (Box7.new w1 _ _ _ _ _ _ _ _).below g2) | ((with_reducible refine (HL.out _).mono ?_); rintro e w4 ⟨rfl, g4⟩))
    go_ret
    first
      | exact ⟨rfl, bstep (bbox1 _ _) g4⟩
      | exact ⟨rfl, bstep (ball b2 _) g4⟩

set_option maxRecDepth 100000 in
set_option maxHeartbeats 1000000 in
theorem vlanouts_walk (v : Value) (ps : List Pt) (q : Int) (dst src : ByteArray) (tg : Bool) (vl pr ty : Int) (data : ByteArray) (hz : data.size ≤ 140737488351232) (w : World) (hv : Ports w v ps) :
    Calls Try.prog 4 #[v, .int .i64 q, fr dst src tg vl pr ty data] w fun e w' => e = .returned (.bool true) ∧ Below w.heap.size w w' := by
  obtain ⟨d, s, t, n, p, y, z, e0, hc⟩ := out_total ps q dst src tg vl pr ty data
  have HL := Lib.hid live12
  have H1 := Lib.hid (fun (W : World) (b : Below w.heap.size w W) => out_any hz hc v W (hv.below b))
  have H2 := Lib.hid (fun (W : World) (b : Below w.heap.size w W) => rout_any hz hc v W (hv.below b))
  obtain ⟨r, hr⟩ := tell (Few ps)
  have HF := Lib.hid (fun (W : World) (b : Below w.heap.size w W) => few_any v ps r hr W (hv.below b))
  unfold fr at H1 H2
  unfold fr
  clear hc hz hr hv
  rcases r with _ | _
  all_goals
    go_enter Try.func4, Try.ntmps4
    go_wp2_with (first | ((with_reducible refine (HF.out _ (bbox1 _ _)).mono ?_); rintro e w' ⟨rfl, rfl⟩) | ((with_reducible refine (H1.out _ (bbox1 _ _)).mono ?_); rintro e w1 ⟨rfl, g1⟩; have b1 := bstep (bbox1 w _) g1; obtain ⟨y1, c0, c1, c2, c3, c4, c5, c6, cf⟩ := (Box7.new w _ _ _ _ _ _ _ _).below g1; obtain ⟨y3, m0, m1, m2, m3, m4, m5, m6, mf⟩ := ((Box7.new w _ _ _ _ _ _ _ _).below g1).below (bbox1 w1 (.cells #[.string d, .string s, .bool t, .int .i64 n, .int .i64 p, .int .i64 y, .string z] 25))) | ((with_reducible refine (H2.out _ (ball b1 _)).mono ?_); rintro e w2 ⟨rfl, g2⟩; have b2 := bstep (ball b1 _) g2; obtain ⟨y2, k0, k1, k2, k3, k4, k5, k6, kf⟩ := (Box7.new w1 _ _ _ _ _ _ _ _).below g2) | ((with_reducible refine (HL.out _).mono ?_); rintro e w4 ⟨rfl, g4⟩))
    go_ret
    first
      | exact ⟨rfl, bstep (bbox1 _ _) g4⟩
      | exact ⟨rfl, bstep (ball b2 _) g4⟩
end Go.Proofs.Ytpninodcjglboaa
