/-
  What fdb's Learn and Look compute where no station is known yet, and of another station behind that. Conditions: the station's address is one of a station, the numbers lie within.
-/
import Derived.BigRegion
import Derived.BigQuiet
import Derived.Test.YticdmepplfgdiaaGreatDoorQ03
import Derived.Test.YticdmepplfgdiaaGreatDoorQ14
set_option linter.unusedVariables false
set_option linter.unusedSimpArgs false
namespace Go.Proofs.YticdmepplfgdiaaGreatDoor
open Go.RowKit
def srcB : ByteArray := ⟨#[2, 98, 98, 98, 98, 98]⟩
def allB : ByteArray := ⟨#[255, 255, 255, 255, 255, 255]⟩
theorem fdb_in {n a b : Int} (h : inside n a b = true) (W : World) : Calls Tryz.prog 110 #[.int .i64 n, .int .i64 a, .int .i64 b] W fun e w' => e = .returned (.bool true) ∧ w' = W := by
  have h2 := fdb_within n a b W
  rwa [h] at h2
theorem under_key : ∃ d, Tryz.prog.underlying 242 = some d ∧ ∀ (k : Value) x l i, Instr.findNow d k (x :: l) i = none := by
  refine ⟨_, Tryz.underlying242, fun k x l i => ?_⟩
  rfl
theorem key_ok (W : World) (v : Int) (s : ByteArray) (b : Bool) : (Instr.checkKey b 10000 242 (.agg #[.int .i64 v, .string s])).run Tryz.prog W = .ok () W := by kernel_rfl
theorem key_no (W : World) : (Op.equal 242 (.agg #[.int .i64 10, .string ⟨#[255, 255, 255, 255, 255, 255]⟩]) (.agg #[.int .i64 10, .string ⟨#[2, 98, 98, 98, 98, 98]⟩])).run Tryz.prog W = .ok false W := by kernel_rfl
/-- the one station that is known -/
def oneE (port now : Int) (c : Nat) : Array MapEntry := #[{ key := .agg #[.int .i64 10, .string ⟨#[2, 98, 98, 98, 98, 98]⟩], val := .agg #[.int .i64 10, .string ⟨#[2, 98, 98, 98, 98, 98]⟩, .int .i64 port, .int .i64 now], born := c }]
def OneAt (W : World) (b mb : Nat) (room age : Int) : Prop := Bx W b [.int .i64 room, .int .i64 age, .map (some mb)] ∧ ∃ port now c, W.heap[mb]? = some (.map (oneE port now c) (c + 1))
theorem OneAt.below {W W' : World} {b mb : Nat} {room age : Int} (h : OneAt W b mb room age) (g : Below W.heap.size W W') : OneAt W' b mb room age := by
  obtain ⟨h1, port, now, c, h2⟩ := h
  refine ⟨h1.below g, port, now, c, (g.block _ ?_).trans h2⟩
  rcases Nat.lt_or_ge mb W.heap.size with h' | h'
  · exact h'
  · simp [Array.getElem?_eq_none h'] at h2
theorem many_src (W : World) : Calls Tryz.prog 109 #[.string ⟨#[2, 98, 98, 98, 98, 98]⟩] W fun e w' => e = .returned (.bool false) ∧ w' = W := (many_is ⟨#[2, 98, 98, 98, 98, 98]⟩ W).mono (by rintro e w' ⟨rfl, rfl⟩; exact ⟨rfl, rfl⟩)
theorem many_all (W : World) : Calls Tryz.prog 109 #[.string ⟨#[255, 255, 255, 255, 255, 255]⟩] W fun e w' => e = .returned (.bool true) ∧ w' = W := (many_is ⟨#[255, 255, 255, 255, 255, 255]⟩ W).mono (by rintro e w' ⟨rfl, rfl⟩; exact ⟨rfl, rfl⟩)
theorem laid_beside (W : World) (r : Nat) (o : Obj) : Beside [r] W (World.laid W r o) :=
  ⟨rfl, rfl, rfl, by show W.heap.size ≤ (W.heap.setIfInBounds r o).size; simp, fun k _ hk => by show (W.heap.setIfInBounds r o)[k]? = _; exact Array.getElem?_setIfInBounds_ne (fun e => hk (by rw [e]; exact List.mem_singleton.2 rfl))⟩
theorem laid_same {W : World} {r : Nat} {o : Obj} (h : r < W.heap.size) : (World.laid W r o).heap[r]? = some o := by
  show (W.heap.setIfInBounds r o)[r]? = _
  simp [h]
set_option maxRecDepth 100000 in
set_option maxHeartbeats 4000000 in
theorem learn_first (b mb : Nat) (room age : Int) (k : Nat) (now : Int) (hk : k < 2) (hr : 1 ≤ room) (h0 : 0 ≤ now) (h1 : now ≤ 1099511627776) (w : World) (h : NoneAt w b mb room age) (hbm : b ≠ mb) :
    Calls Tryz.prog 46 #[.pointer (some ⟨b, 0, none⟩), .int .i64 10, .string ⟨#[2, 98, 98, 98, 98, 98]⟩, .int .i64 k, .int .i64 now] w fun e w' => e = .returned (.bool true) ∧ OneAt w' b mb room age ∧ Beside [mb] w w' := by
  have HI := Lib.hid (fun W => fdb_in (n := 10) (a := 1) (b := 4094) (by decide) W)
  have HJ := Lib.hid (fun W => fdb_in (n := k) (a := 0) (b := 15) (by unfold inside; simp; omega) W)
  have HK := Lib.hid (fun W => fdb_in (n := now) (a := 0) (b := 1099511627776) (by unfold inside; simp; omega) W)
  have HM := Lib.hid many_src
  obtain ⟨hb, clock, hm⟩ := h
  have b2 := hb.get 2 _ rfl
  have b0 := hb.get 0 _ rfl
  have HB := Lib.hid hb
  have HMm := Lib.hid hm
  have hmb : mb < w.heap.size := by
    rcases Nat.lt_or_ge mb w.heap.size with h' | h'
    · exact h'
    · simp [Array.getElem?_eq_none h'] at hm
  clear hb hm
  go_enter Tryz.func46, Tryz.ntmps46
  go_upto_region 4 with (first
    | (go_at_call 109; (with_reducible refine (HM.out _).mono ?_); rintro e w1 ⟨rfl, hq⟩; subst hq)
    | (go_at_call 110; (with_reducible refine (HI.out _).mono ?_); rintro e w1 ⟨rfl, hq⟩; subst hq)
    | (go_at_call 110; (with_reducible refine (HJ.out _).mono ?_); rintro e w1 ⟨rfl, hq⟩; subst hq)
    | (go_at_call 110; (with_reducible refine (HK.out _).mono ?_); rintro e w1 ⟨rfl, hq⟩; subst hq))
  have K1 := Bx.new w1 [.int .i64 10, .string ⟨#[2, 98, 98, 98, 98, 98]⟩] 242
  have G1 := bbox1 w1 (.cells #[.int .i64 10, .string ⟨#[2, 98, 98, 98, 98, 98]⟩] 242)
  obtain ⟨n1, hn1⟩ : ∃ n, w1.heap.size = n := ⟨_, rfl⟩
  have B1 := HB.out.below G1
  have M1 := (G1.block mb hmb).trans HMm.out
  change Code.wp _ _ _ _ (w1.alloc (.cells #[.int .i64 10, .string ⟨#[2, 98, 98, 98, 98, 98]⟩] 242))
  generalize w1.alloc (.cells #[.int .i64 10, .string ⟨#[2, 98, 98, 98, 98, 98]⟩] 242) = w2 at K1 G1 B1 M1 ⊢
  rw [hn1] at K1 ⊢
  clear b2 b0 HB HMm HI HJ HK HM
  have lk : ∀ W : World, W.heap[mb]? = some (.map #[] clock) → (Instr.lookup 197 (.map (some mb)) (.agg #[.int .i64 10, .string ⟨#[2, 98, 98, 98, 98, 98]⟩]) true).run Tryz.prog W = .ok (.tuple #[.agg #[.int .i64 0, .string ⟨#[]⟩, .int .i64 0, .int .i64 0], .bool false]) W := fun W hW => by
    obtain ⟨d, hd, -⟩ := under_key
    exact lookup_miss2 Tryz.underlying197 hW (key_ok W _ _) (findKey_nil hd) (Tryz.zeroValue222 W)
  have g2 := bbox1 w2 (.cells #[.int .i64 0, .string ⟨#[]⟩, .int .i64 0, .int .i64 0] 222)
  have l1 := lk w2.drew M1
  have l2 := lk (w2.alloc (.cells #[.int .i64 0, .string ⟨#[]⟩, .int .i64 0, .int .i64 0] 222)).drew ((g2.block mb (by have := G1.size; omega)).trans M1)
  have c2 := B1.get 2 _ rfl
  have k0 := K1.get 0 _ rfl
  have k1 := K1.get 1 _ rfl
  have d2 := (B1.below g2).get 2 _ rfl
  have e0 := (K1.below g2).get 0 _ rfl
  have e1 := (K1.below g2).get 1 _ rfl
  go_cut [13] (fun s13 wx => s13 = .bool false ∧ wx = (w2.alloc (.cells #[.int .i64 0, .string ⟨#[]⟩, .int .i64 0, .int .i64 0] 222)).drew)
  case first =>
    go_region
    all_goals
      go_wp2
      go_meet
      exact ⟨rfl, rfl⟩
  case rest =>
    obtain ⟨rfl, hwc⟩ := hcut
    have G3 : Below w1.heap.size w1 wc := by rw [hwc]; exact G1.trans ((g2.drew).mono (by have := G1.size; omega))
    have K3 : Bx wc n1 [.int .i64 10, .string ⟨#[2, 98, 98, 98, 98, 98]⟩] := by rw [hwc]; exact K1.below g2.drew
    have B3 : Bx wc b [.int .i64 room, .int .i64 age, .map (some mb)] := by rw [hwc]; exact B1.below g2.drew
    have M3 : wc.heap[mb]? = some (.map #[] clock) := by rw [hwc]; exact (g2.block mb (by have := G1.size; omega)).trans M1
    clear hwc l1 l2 c2 k0 k1 d2 e0 e1 g2 K1 G1 B1 M1 lk
    have c2 := B3.get 2 _ rfl
    have c0 := B3.get 0 _ rfl
    have hro : decide (room ≤ 0) = false := decide_eq_false (by omega)
    have hl0 := fun ty => run_len_map (P := Tryz.prog) (w := wc) 197 ty mb #[] clock (by kernel_rfl) M3
    have hl1 := fun n ty => run_len_map (P := Tryz.prog) (w := wc.drewN n) 197 ty mb #[] clock (by kernel_rfl) M3
    have hl2 := fun ty => run_len_map (P := Tryz.prog) (w := wc.drew) 197 ty mb #[] clock (by kernel_rfl) M3
    go_upto_region 5 with fail
    go_quiet (fail)
    go_upto_region 7 with fail
    have K5 : Bx (wc.drewN nq) n1 [.int .i64 10, .string ⟨#[2, 98, 98, 98, 98, 98]⟩] := K3
    have B5 : Bx (wc.drewN nq) b [.int .i64 room, .int .i64 age, .map (some mb)] := B3
    have M5 : (wc.drewN nq).heap[mb]? = some (.map #[] clock) := M3
    have G5 : Below w1.heap.size w1 (wc.drewN nq) := bdrew G3 nq
    generalize wc.drewN nq = w5 at K5 B5 M5 G5 ⊢
    clear K3 B3 M3 G3 c2 c0 hl0 hl1 hl2
    have c2 := B5.get 2 _ rfl
    have k0 := K5.get 0 _ rfl
    have k1 := K5.get 1 _ rfl
    have hu : (Instr.mapUpdate 197 (.map (some mb)) (.agg #[.int .i64 10, .string ⟨#[2, 98, 98, 98, 98, 98]⟩]) (.agg #[.int .i64 10, .string ⟨#[2, 98, 98, 98, 98, 98]⟩, .int .i64 k, .int .i64 now])).run Tryz.prog w5.drew = .ok () (World.laid w5.drew mb (.map (oneE k now clock) (clock + 1))) := by
      obtain ⟨d, hd, -⟩ := under_key
      exact update_new Tryz.underlying197 (W := w5.drew) M5 (key_ok _ _ _) (findKey_nil hd) _
    go_region
    all_goals
      go_wp2
      go_ret
      have gb := laid_beside w5.drew mb (.map (oneE k now clock) (clock + 1))
      exact ⟨rfl, ⟨Bx.beside (W := w5.drew) B5 gb (fun e => hbm (List.mem_singleton.1 e)), k, now, clock, laid_same (by show mb < w5.heap.size; have := G5.size; omega)⟩, ((Beside.of_below (S := [mb]) G5).drew).trans gb⟩
set_option maxRecDepth 100000 in
set_option maxHeartbeats 4000000 in
theorem look_all (b mb : Nat) (room age now : Int) (h0 : 0 ≤ now) (h1 : now ≤ 1099511627776) (w : World) (h : OneAt w b mb room age) :
    Calls Tryz.prog 127 #[.pointer (some ⟨b, 0, none⟩), .int .i64 10, .string ⟨#[255, 255, 255, 255, 255, 255]⟩, .int .i64 now] w fun e w' => e = .returned (.tuple #[.int .i64 0, .bool false]) ∧ Below w.heap.size w w' := by
  have HK := Lib.hid (fun W => fdb_in (n := now) (a := 0) (b := 1099511627776) (by unfold inside; simp; omega) W)
  obtain ⟨hb, port, nw, clock, hm⟩ := h
  have b2 := hb.get 2 _ rfl
  have lk : (Instr.lookup 197 (.map (some mb)) (.agg #[.int .i64 10, .string ⟨#[255, 255, 255, 255, 255, 255]⟩]) true).run Tryz.prog w = .ok (.tuple #[.agg #[.int .i64 0, .string ⟨#[]⟩, .int .i64 0, .int .i64 0], .bool false]) w := by
    obtain ⟨d, hd, hn⟩ := under_key
    exact lookup_miss2 Tryz.underlying197 hm (key_ok w _ _) (findKey_asks hd (hn _ _ _ _) (findAsking_no (key_no w) findAsking_nil)) (Tryz.zeroValue222 w)
  clear hm hb
  go_enter Tryz.func127, Tryz.ntmps127
  go_wp2_with (go_at_call 110; (with_reducible refine (HK.out _).mono ?_); rintro e w1 ⟨rfl, hq⟩; subst hq)
  exact bodyPost_ret (v := .tuple #[.int .i64 0, .bool false]) (by simp [results, Tryz.results127, go_sem]) rfl ⟨rfl, bbox1 _ _⟩
end Go.Proofs.YticdmepplfgdiaaGreatDoor
