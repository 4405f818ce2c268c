/-
  What net.join makes of the small net's one wire. Conditions: just that.
-/
import Derived.Test.YticdmepplfgdiaaGreatDoorQ41
import Derived.Test.YticdmepplfgdiaaGreatDoorQ37
import Derived.Test.YticdmepplfgdiaaGreatDoorQ22
import Derived.Test.YticdmepplfgdiaaGreatDoorQ11
set_option linter.unusedVariables false
set_option linter.unusedSimpArgs false
namespace Go.Proofs.YticdmepplfgdiaaGreatDoor
open Go.RowKit
/-- what the joining hangs on: a net without wires; its configs -/
structure JoinS (W : World) (n sb sc fm l : Nat) (cv : List Value) : Prop where
  net : Bx W n [.slice (some ⟨sb, 0, none⟩) 2 sc, .slice none 0 0, .slice none 0 0, .map (some fm)]
  map : W.heap[fm]? = some (.map #[] 0)
  row : Bx W l cv
theorem JoinS.below {W W' : World} {n sb sc fm l : Nat} {cv : List Value} (h : JoinS W n sb sc fm l cv) (g : Below W.heap.size W W') : JoinS W' n sb sc fm l cv := by
  refine ⟨h.net.below g, (g.block fm ?_).trans h.map, h.row.below g⟩
  have hm := h.map
  rcases Nat.lt_or_ge fm W.heap.size with h' | h'
  · exact h'
  · simp [Array.getElem?_eq_none h'] at hm
theorem far_empty (W : World) {r : Nat} (h : W.heap[r]? = some (.map #[] 0)) (a b : Int) : (Instr.lookup 186 (.map (some r)) (.agg #[.int .i64 a, .int .i64 b]) true).run Tryz.prog W = .ok (.tuple #[.agg #[.int .i64 0, .int .i64 0, .int .i64 0], .bool false]) W := by
  obtain ⟨d, hd, hn⟩ := under_end
  exact lookup_miss2 Tryz.underlying186 h (end_key W a b) (findKey_nil hd) (Tryz.zeroValue369 W)
theorem entry_new {W : World} {t k e : TypeId} {r clock : Nat} {es : Array MapEntry} {key z : Value} (hm : Tryz.prog.underlying t = some (.map k e)) (hb : W.heap[r]? = some (.map es clock)) (hc : ∀ b, (Instr.checkKey b 10000 k key).run Tryz.prog W = .ok () W) (hf : (Instr.findKey k key es.toList).run Tryz.prog W = .ok none W) (hz : (zeroValue e).run Tryz.prog W = .ok z W) :
    (Instr.mapEntry t (.map (some r)) key).run Tryz.prog W = .ok (.tuple #[z, goInt clock]) (World.laid W r (.map (es.push { key, val := z, born := clock }) (clock + 1))) := by
  simp [Instr.mapEntry, run_underlying hm, MapKept.run_getObj_map hb, hc, hf, hz, MapKept.run_setObj_map _ hb, Result.andThen, World.laid]
theorem entry_put {W : World} {t : TypeId} {r clock i : Nat} {es : Array MapEntry} {x : Value} (b : Nat) (hb : W.heap[r]? = some (.map es clock)) (hi : es.findIdx? (fun e => (e.born : Int) == (b : Int)) = some i) :
    (Instr.entryStore t (.map (some r)) (goInt b) x).run Tryz.prog W = .ok () (World.laid W r (.map (es.modify i fun e => { e with val := x }) clock)) := by
  simp [Instr.entryStore, MapKept.run_getObj_map hb, asInt, asIntOf, goInt, hi, MapKept.run_setObj_map _ hb, Result.andThen, World.laid]
def oneF (v : Value) : Array MapEntry := #[{ key := .agg #[.int .i64 0, .int .i64 1], val := v, born := 0 }]
def twoF (v : Value) : Array MapEntry := #[{ key := .agg #[.int .i64 0, .int .i64 1], val := .agg #[.int .i64 1, .int .i64 0, .int .i64 0], born := 0 }, { key := .agg #[.int .i64 1, .int .i64 0], val := v, born := 1 }]
theorem infoJ177 : (Tryz.prog.info? 177).map (fun i => (i.zero, i.size, i.bytes)) = some (some (.agg #[.int .i64 0, .int .i64 0, .int .i64 0, .int .i64 0]), 4, 32) := by kernel_rfl
theorem infoJ4 : (Tryz.prog.info? 4).map (fun i => (i.zero, i.size, i.bytes)) = some (some (.bool false), 1, 1) := by kernel_rfl
theorem grown_nil {W V : World} (h : W.grownBy V none) : Below W.heap.size W V := ⟨h.os, h.tape, h.output, h.size, fun k hk => h.block k hk (by simp)⟩
theorem plain_add (b j : Nat) : (⟨b, 0, none⟩ : Addr).add j = ⟨b, j, none⟩ := by simp [Addr.add]; omega
/-- a wire is appended to none -/
theorem add_wire (W : World) {b : Nat} (m : Nat) (hb : Bx W b [.int .i64 0, .int .i64 1, .int .i64 1, .int .i64 0]) : ∃ g c V, (Builtin.append_ #[176, 176] 176 #[.slice none 0 0, .slice (some ⟨b, 0, none⟩) 1 m]).run Tryz.prog W = .ok (.slice (some ⟨g, 0, none⟩) 1 c) V ∧ W.heap.size ≤ g ∧ Bx V g [.int .i64 0, .int .i64 1, .int .i64 1, .int .i64 0] ∧ Below W.heap.size W V := by
  obtain ⟨i0, hi, hz0, hz1, hz2⟩ := info_parts infoJ177
  obtain ⟨v, V, hr, ho, hg, -⟩ := run_append_own (P := Tryz.prog) W W.heap.size 176 176 177 i0 _ 4 32 Tryz.underlying176 hi hz0 hz1 hz2 rfl (by decide) (.slice none 0 0) 0 [] (World.ownsRow_nil _ _ _ _) ⟨b, 0, none⟩ 1 m [.int .i64 0, .int .i64 1, .int .i64 1, .int .i64 0] rfl
    (fun j u hj => by rw [plain_add]; exact hb.get j u hj) (by intro u hu; simp at hu; rcases hu with rfl | rfl | rfl | rfl <;> rfl) (by decide) (by decide) (Nat.le_refl _)
  obtain ⟨g, c, rfl, hge, hx⟩ := row_bx ho (by decide) rfl
  exact ⟨g, c, V, hr, hge, hx, grown_nil hg⟩
/-- a flag is appended to none -/
theorem add_up (W : World) {b : Nat} (m : Nat) (hb : Bx W b [.bool true]) : ∃ g c V, (Builtin.append_ #[185, 185] 185 #[.slice none 0 0, .slice (some ⟨b, 0, none⟩) 1 m]).run Tryz.prog W = .ok (.slice (some ⟨g, 0, none⟩) 1 c) V ∧ W.heap.size ≤ g ∧ Bx V g [.bool true] ∧ Below W.heap.size W V := by
  obtain ⟨i0, hi, hz0, hz1, hz2⟩ := info_parts infoJ4
  obtain ⟨v, V, hr, ho, hg, -⟩ := run_append_own (P := Tryz.prog) W W.heap.size 185 185 4 i0 _ 1 1 Tryz.underlying185 hi hz0 hz1 hz2 rfl (by decide) (.slice none 0 0) 0 [] (World.ownsRow_nil _ _ _ _) ⟨b, 0, none⟩ 1 m [.bool true] rfl
    (fun j u hj => by rw [plain_add]; exact hb.get j u hj) (by intro u hu; simp at hu; subst hu; rfl) (by decide) (by decide) (Nat.le_refl _)
  obtain ⟨g, c, rfl, hge, hx⟩ := row_bx ho (by decide) rfl
  exact ⟨g, c, V, hr, hge, hx, grown_nil hg⟩
theorem end_neq (W : World) : (binOp .neq 366 (.agg #[.int .i64 0, .int .i64 1]) (.agg #[.int .i64 1, .int .i64 0])).run Tryz.prog W = .ok (.bool true) W := by kernel_rfl
theorem net_field1 (W : World) (n : Nat) : (Instr.fieldAt 188 (.pointer (some ⟨n, 0, none⟩)) 1).run Tryz.prog W = .ok (.pointer (some ⟨n, 1, none⟩)) W := by go_simp
theorem net_field2 (W : World) (n : Nat) : (Instr.fieldAt 188 (.pointer (some ⟨n, 0, none⟩)) 2).run Tryz.prog W = .ok (.pointer (some ⟨n, 2, none⟩)) W := by go_simp
theorem net_load1 (W : World) {n : Nat} (h : W.cell? ⟨n, 1, none⟩ = some (.slice none 0 0)) : (Instr.loadAt 176 (.pointer (some ⟨n, 1, none⟩))).run Tryz.prog W = .ok (.slice none 0 0) W := by go_simp
theorem net_load2 (W : World) {n : Nat} (h : W.cell? ⟨n, 2, none⟩ = some (.slice none 0 0)) : (Instr.loadAt 185 (.pointer (some ⟨n, 2, none⟩))).run Tryz.prog W = .ok (.slice none 0 0) W := by go_simp
theorem wire_load (W : World) {n : Nat} (h : Bx W n [.int .i64 0, .int .i64 1, .int .i64 1, .int .i64 0]) : (Instr.loadAt 177 (.pointer (some ⟨n, 0, none⟩))).run Tryz.prog W = .ok (.agg #[.int .i64 0, .int .i64 1, .int .i64 1, .int .i64 0]) W := by
  have c0 := h.get 0 _ rfl
  have c1 := h.get 1 _ rfl
  have c2 := h.get 2 _ rfl
  have c3 := h.get 3 _ rfl
  go_simp
theorem row_wire (W : World) : (Instr.buildSlice 176 1 #[(0, .agg #[.int .i64 0, .int .i64 1, .int .i64 1, .int .i64 0])]).run Tryz.prog W = .ok (.slice (some ⟨W.heap.size, 0, none⟩) 1 1) (W.alloc (.cells #[.int .i64 0, .int .i64 1, .int .i64 1, .int .i64 0] 177)) := by go_simp
theorem row_bool (W : World) : (Instr.buildSlice 185 1 #[(0, .bool true)]).run Tryz.prog W = .ok (.slice (some ⟨W.heap.size, 0, none⟩) 1 1) (W.alloc (.cells #[.bool true] 4)) := by go_simp
theorem net_store1 (W : World) {n : Nat} {u : Value} (a : Option Addr) (k c : Nat) (h : W.cell? ⟨n, 1, none⟩ = some u) (hf : W.frozen? ⟨n, 1, none⟩ = false) : (Instr.storeAt 176 (.pointer (some ⟨n, 1, none⟩)) (.slice a k c)).run Tryz.prog W = .ok () (W.setCell ⟨n, 1, none⟩ (.slice a k c)) := by go_simp
theorem net_store2 (W : World) {n : Nat} {u : Value} (a : Option Addr) (k c : Nat) (h : W.cell? ⟨n, 2, none⟩ = some u) (hf : W.frozen? ⟨n, 2, none⟩ = false) : (Instr.storeAt 185 (.pointer (some ⟨n, 2, none⟩)) (.slice a k c)).run Tryz.prog W = .ok () (W.setCell ⟨n, 2, none⟩ (.slice a k c)) := by go_simp
/-- a row of one element of the call's own -/
def RowQ (w0 W : World) (z : Value) (vs : List Value) : Prop := ∃ g c, z = .slice (some ⟨g, 0, none⟩) 1 c ∧ w0.heap.size ≤ g ∧ Bx W g vs
theorem RowQ.beside {w0 W W' : World} {z : Value} {vs : List Value} {n : Nat} (h : RowQ w0 W z vs) (g : Beside [n] W W') (hn : n < w0.heap.size) : RowQ w0 W' z vs := by
  obtain ⟨q, c, rfl, hq, hb⟩ := h
  exact ⟨q, c, rfl, hq, hb.beside g (fun e => by have := List.mem_singleton.1 e; omega)⟩
/-- what holds at every moment of the region that notes a wire -/
def JI (a0 : Act) (n sb sc fm nd : Nat) (w9 : World) (L : Array Bool) (a : Act) (W : World) : Prop :=
  ∃ l0 l1 l2 l3 l4 l5 l6 l7 l8 l9 l10 l11 l12 l13 l14 l15 l16 l17 l18 l19 l20 : Bool, L = #[l0, l1, l2, l3, l4, l5, l6, l7, l8, l9, l10, l11, l12, l13, l14, l15, l16, l17, l18, l19, l20] ∧ ∃ z0 z1 z2 z3 z4 z5 z6 z7 z8 z9 z10 z11 z12 z13 z14 z15 z16 z17 z18 : Value, a = chain a0 93 [z0, z1, z2, z3, z4, z5, z6, z7, z8, z9, z10, z11, z12, z13, z14, z15, z16, z17, z18] ∧ Beside [n] w9 W ∧ Bx W n [.slice (some ⟨sb, 0, none⟩) 2 sc, if l17 then z8 else .slice none 0 0, if l20 then z14 else .slice none 0 0, .map (some fm)] ∧ Bx W nd [.int .i64 0, .int .i64 1, .int .i64 1, .int .i64 0] ∧ (l17 = true → l5 = true ∧ l8 = true) ∧ (l20 = true → l12 = true ∧ l14 = true) ∧
  (l0 = true → z0 = .pointer (some ⟨n, 0, none⟩)) ∧ (l1 = true → z1 = .pointer (some ⟨n, 0, none⟩)) ∧ (l2 = true → z2 = .pointer (some ⟨n, 0, none⟩)) ∧ (l3 = true → z3 = .pointer (some ⟨n, 0, none⟩)) ∧ (l4 = true → z4 = .pointer (some ⟨n, 1, none⟩)) ∧ (l5 = true → z5 = .slice none 0 0) ∧ (l6 = true → z6 = .agg #[.int .i64 0, .int .i64 1, .int .i64 1, .int .i64 0]) ∧ (l7 = true → RowQ w9 W z7 [.int .i64 0, .int .i64 1, .int .i64 1, .int .i64 0]) ∧ (l8 = true → RowQ w9 W z8 [.int .i64 0, .int .i64 1, .int .i64 1, .int .i64 0]) ∧ (l9 = true → z9 = .pointer (some ⟨n, 0, none⟩)) ∧ (l10 = true → z10 = .pointer (some ⟨n, 0, none⟩)) ∧ (l11 = true → z11 = .pointer (some ⟨n, 2, none⟩)) ∧ (l12 = true → z12 = .slice none 0 0) ∧ (l13 = true → RowQ w9 W z13 [.bool true]) ∧ (l14 = true → RowQ w9 W z14 [.bool true]) ∧ (l15 = true → z15 = .pointer (some ⟨n, 0, none⟩)) ∧ (l16 = true → z16 = .pointer (some ⟨n, 1, none⟩)) ∧ (l18 = true → z17 = .pointer (some ⟨n, 0, none⟩)) ∧ (l19 = true → z18 = .pointer (some ⟨n, 2, none⟩))
set_option maxRecDepth 100000 in
set_option maxHeartbeats 16000000 in
theorem join_small {n sb sc fm l : Nat} (lc g0 g1 p0 p1 : Nat) (cv : List Value) (w : World) (h : JoinS w n sb sc fm l cv) (h2 : cv[2]? = some (.slice (some ⟨g0, 0, none⟩) 2 p0)) (h3 : cv[15]? = some (.slice (some ⟨g1, 0, none⟩) 2 p1)) (hfn : n ≠ fm) :
    Calls Tryz.prog 154 #[.pointer (some ⟨n, 0, none⟩), .int .i64 0, .agg #[.int .i64 0, .int .i64 1, .int .i64 1, .int .i64 0], .slice (some ⟨l, 0, none⟩) 2 lc] w fun e w' => e = .returned (.bool true) ∧ ∃ v ub uc, Bx w' n [.slice (some ⟨sb, 0, none⟩) 2 sc, v, .slice (some ⟨ub, 0, none⟩) 1 uc, .map (some fm)] ∧ Bx w' ub [.bool true] ∧ w.heap.size ≤ ub ∧ FarMap w' fm ∧ Beside [n, fm] w w' := by
  have HJ := Lib.hid h
  have HC0 := Lib.hid h2
  have HC1 := Lib.hid h3
  have HJm := Lib.hid (show fm < w.heap.size by
    have hm := h.map
    rcases Nat.lt_or_ge fm w.heap.size with h' | h'
    · exact h'
    · simp [Array.getElem?_eq_none h'] at hm)
  clear h h2 h3
  go_enter Tryz.func154, Tryz.ntmps154
  go_upto_region 1 with fail
  go_cut [9, 10] (fun s9 s10 wx => ∃ na nb, s9 = .pointer (some ⟨na, 0, none⟩) ∧ s10 = .pointer (some ⟨nb, 0, none⟩) ∧ na ≠ nb ∧ Bx wx na [.int .i64 0, .int .i64 1] ∧ Bx wx nb [.int .i64 1, .int .i64 0] ∧ w.heap.size < na ∧ w.heap.size < nb ∧ Bx wx w.heap.size [.int .i64 0, .int .i64 1, .int .i64 1, .int .i64 0] ∧ Below w.heap.size w wx)
  case first =>
    go_region
    all_goals
      go_wp2
      go_meet
      first
        | exact ⟨_, _, rfl, rfl, by omega, (Bx.new2 w _ [.int .i64 0, .int .i64 1] _).alloc _, Bx.new3 w _ _ [.int .i64 1, .int .i64 0] _, by omega, by omega, ((Bx.new w [.int .i64 0, .int .i64 1, .int .i64 1, .int .i64 0] _).alloc _).alloc _, (ball1 (ball1 (bbox1 _ _) _) _).drew⟩
        | exact ⟨_, _, rfl, rfl, by omega, Bx.new3 w _ _ [.int .i64 0, .int .i64 1] _, (Bx.new2 w _ [.int .i64 1, .int .i64 0] _).alloc _, by omega, by omega, ((Bx.new w [.int .i64 0, .int .i64 1, .int .i64 1, .int .i64 0] _).alloc _).alloc _, (ball1 (ball1 (bbox1 _ _) _) _).drew⟩
  case rest =>
    obtain ⟨na, nb, rfl, rfl, hab, NAq, NBq, hna, hnb, NDq, GJq⟩ := hcut
    have NA := Lib.hid NAq
    have NB := Lib.hid NBq
    have ND := Lib.hid NDq
    have GJ := Lib.hid GJq
    have JS := Lib.hid (HJ.out.below GJq)
    have a0 := NAq.get 0 _ rfl
    have a1 := NAq.get 1 _ rfl
    have b0 := NBq.get 0 _ rfl
    have b1 := NBq.get 1 _ rfl
    clear NAq NBq NDq GJq
    obtain ⟨wJ, hwJ⟩ : ∃ x, x = wc := ⟨_, rfl⟩
    rw [← hwJ] at NA NB ND GJ JS a0 a1 b0 b1 ⊢
    clear hwJ
    go_upto_region 3 with fail
    have EN := Lib.hid (Bx.new wJ [.int .i64 0, .int .i64 1, .int .i64 1, .int .i64 0] 366)
    have JN := Lib.hid (JS.out.below (bbox1 wJ (.cells #[.int .i64 0, .int .i64 1, .int .i64 1, .int .i64 0] 366)))
    have BN := Lib.hid (bbox1 wJ (.cells #[.int .i64 0, .int .i64 1, .int .i64 1, .int .i64 0] 366))
    obtain ⟨ne, hne⟩ : ∃ x, wJ.heap.size = x := ⟨_, rfl⟩
    change Code.wp _ _ _ _ (wJ.alloc (.cells #[.int .i64 0, .int .i64 1, .int .i64 1, .int .i64 0] 366))
    generalize wJ.alloc (.cells #[.int .i64 0, .int .i64 1, .int .i64 1, .int .i64 0] 366) = wN at EN JN BN ⊢
    rw [hne] at EN ⊢
    clear a0 a1 b0 b1 JS
    go_loopw [12, 13, 14, 29] (fun _ _ _ i wr => ∃ k : Nat, k ≤ 2 ∧ i = .int .i64 k ∧ JoinS wr n sb sc fm l cv ∧ Bx wr ne [.int .i64 0, .int .i64 1, .int .i64 1, .int .i64 0] ∧ Below wJ.heap.size wJ wr) (fun _ _ _ i _ => 3 - (intOf i).toNat)
    case atStart => exact ⟨0, Nat.zero_le _, rfl, JN.out, EN.out, BN.out⟩
    case round =>
    obtain ⟨k, hk, rfl, js0, we0, be0⟩ := hrel
    have JS0 := Lib.hid js0
    have WE0 := Lib.hid we0
    have BE0 := Lib.hid be0
    clear js0 we0 be0 EN JN BN
    rcases (by omega : k = 0 ∨ k = 1 ∨ k = 2) with rfl | rfl | rfl
    · have q0 := WE0.out.get 0 _ rfl
      have q1 := WE0.out.get 1 _ rfl
      go_upto_region 5 with fail
      have M5 := Lib.hid (Bx.new wr [.int .i64 0, .int .i64 1] 366)
      have J5 := Lib.hid (JS0.out.below (bbox1 wr (.cells #[.int .i64 0, .int .i64 1] 366)))
      have E5 := Lib.hid (WE0.out.alloc (.cells #[.int .i64 0, .int .i64 1] 366))
      have B5 := Lib.hid (ball1 BE0.out (.cells #[.int .i64 0, .int .i64 1] 366))
      obtain ⟨n5, hn5⟩ : ∃ x, wr.heap.size = x := ⟨_, rfl⟩
      change Code.wp _ _ _ _ (wr.alloc (.cells #[.int .i64 0, .int .i64 1] 366))
      generalize wr.alloc (.cells #[.int .i64 0, .int .i64 1] 366) = w5 at M5 J5 E5 B5 ⊢
      rw [hn5] at M5 ⊢
      clear q0 q1 WE0 JS0 BE0
      have g5 := bbox1 w5 (.cells #[.int .i64 0, .int .i64 0, .int .i64 0] 369)
      have m0 := M5.out.get 0 _ rfl
      have m1 := M5.out.get 1 _ rfl
      have k0 := (M5.out.below g5).get 0 _ rfl
      have k1 := (M5.out.below g5).get 1 _ rfl
      have c3 := J5.out.net.get 3 _ rfl
      have d3 := (J5.out.net.below g5).get 3 _ rfl
      have l1 := far_empty w5.drew J5.out.map 0 1
      have l2 := far_empty (w5.alloc (.cells #[.int .i64 0, .int .i64 0, .int .i64 0] 369)).drew (J5.out.below g5).map 0 1
      go_cut [14] (fun s14 wx => s14 = .bool false ∧ wx = (w5.alloc (.cells #[.int .i64 0, .int .i64 0, .int .i64 0] 369)).drew)
      case first =>
        go_region
        all_goals
          go_wp2
          go_meet
          exact ⟨rfl, rfl⟩
      case rest =>
        obtain ⟨rfl, hwc⟩ := hcut
        have J6 := Lib.hid (show JoinS wc n sb sc fm l cv from by rw [hwc]; exact J5.out.below g5.drew)
        have E6 := Lib.hid (show Bx wc ne [.int .i64 0, .int .i64 1, .int .i64 1, .int .i64 0] from by rw [hwc]; exact E5.out.below g5.drew)
        have M6 := Lib.hid (show Bx wc n5 [.int .i64 0, .int .i64 1] from by rw [hwc]; exact M5.out.below g5.drew)
        have B6 := Lib.hid (show Below wJ.heap.size wJ wc from by rw [hwc]; exact (ball1 B5.out _).drew)
        clear hwc m0 m1 k0 k1 c3 d3 l1 l2 g5 J5 E5 M5 B5
        have m0 := M6.out.get 0 _ rfl
        have m1 := M6.out.get 1 _ rfl
        have hlp := J6.out.row.get 2 _ HC0.out
        go_upto_region 6 with fail
        go_quiet (fail)
        go_wp2
        refine ⟨⟨1, by omega, by go_num, J6.out.below (bdrew (Below.refl _ _) nq), E6.out.drewN nq, bdrew B6.out nq⟩, ?_⟩
        simp [intOf]
    · have q0 := WE0.out.get 2 _ rfl
      have q1 := WE0.out.get 3 _ rfl
      go_upto_region 5 with fail
      have M5 := Lib.hid (Bx.new wr [.int .i64 1, .int .i64 0] 366)
      have J5 := Lib.hid (JS0.out.below (bbox1 wr (.cells #[.int .i64 1, .int .i64 0] 366)))
      have E5 := Lib.hid (WE0.out.alloc (.cells #[.int .i64 1, .int .i64 0] 366))
      have B5 := Lib.hid (ball1 BE0.out (.cells #[.int .i64 1, .int .i64 0] 366))
      obtain ⟨n5, hn5⟩ : ∃ x, wr.heap.size = x := ⟨_, rfl⟩
      change Code.wp _ _ _ _ (wr.alloc (.cells #[.int .i64 1, .int .i64 0] 366))
      generalize wr.alloc (.cells #[.int .i64 1, .int .i64 0] 366) = w5 at M5 J5 E5 B5 ⊢
      rw [hn5] at M5 ⊢
      clear q0 q1 WE0 JS0 BE0
      have g5 := bbox1 w5 (.cells #[.int .i64 0, .int .i64 0, .int .i64 0] 369)
      have m0 := M5.out.get 0 _ rfl
      have m1 := M5.out.get 1 _ rfl
      have k0 := (M5.out.below g5).get 0 _ rfl
      have k1 := (M5.out.below g5).get 1 _ rfl
      have c3 := J5.out.net.get 3 _ rfl
      have d3 := (J5.out.net.below g5).get 3 _ rfl
      have l1 := far_empty w5.drew J5.out.map 1 0
      have l2 := far_empty (w5.alloc (.cells #[.int .i64 0, .int .i64 0, .int .i64 0] 369)).drew (J5.out.below g5).map 1 0
      go_cut [14] (fun s14 wx => s14 = .bool false ∧ wx = (w5.alloc (.cells #[.int .i64 0, .int .i64 0, .int .i64 0] 369)).drew)
      case first =>
        go_region
        all_goals
          go_wp2
          go_meet
          exact ⟨rfl, rfl⟩
      case rest =>
        obtain ⟨rfl, hwc⟩ := hcut
        have J6 := Lib.hid (show JoinS wc n sb sc fm l cv from by rw [hwc]; exact J5.out.below g5.drew)
        have E6 := Lib.hid (show Bx wc ne [.int .i64 0, .int .i64 1, .int .i64 1, .int .i64 0] from by rw [hwc]; exact E5.out.below g5.drew)
        have M6 := Lib.hid (show Bx wc n5 [.int .i64 1, .int .i64 0] from by rw [hwc]; exact M5.out.below g5.drew)
        have B6 := Lib.hid (show Below wJ.heap.size wJ wc from by rw [hwc]; exact (ball1 B5.out _).drew)
        clear hwc m0 m1 k0 k1 c3 d3 l1 l2 g5 J5 E5 M5 B5
        have m0 := M6.out.get 0 _ rfl
        have m1 := M6.out.get 1 _ rfl
        have hlp := J6.out.row.get 15 _ HC1.out
        go_upto_region 6 with fail
        go_quiet (fail)
        go_wp2
        refine ⟨⟨2, by omega, by go_num, J6.out.below (bdrew (Below.refl _ _) nq), E6.out.drewN nq, bdrew B6.out nq⟩, ?_⟩
        simp [intOf]
    · have a0 := (NA.out.below BE0.out).get 0 _ rfl
      have a1 := (NA.out.below BE0.out).get 1 _ rfl
      have b0 := (NB.out.below BE0.out).get 0 _ rfl
      have b1 := (NB.out.below BE0.out).get 1 _ rfl
      have c3 := JS0.out.net.get 3 _ rfl
      go_upto_region 9 with fail
      go_cut [] (fun wx => wx.heap[fm]? = some (.map farE1 2) ∧ Beside [fm] wr wx)
      case first =>
        have mp : wr.drew.heap[fm]? = some (.map #[] 0) := JS0.out.map
        have hfr : fm < wr.drew.heap.size := by
          rcases Nat.lt_or_ge fm wr.drew.heap.size with h' | h'
          · exact h'
          · simp [Array.getElem?_eq_none h'] at mp
        obtain ⟨ud, hud, hun⟩ := under_end
        have ex1 := entry_new (key := .agg #[.int .i64 0, .int .i64 1]) Tryz.underlying186 mp (end_key wr.drew 0 1) (findKey_nil hud) (Tryz.zeroValue369 wr.drew)
        obtain ⟨V1, hV1⟩ : ∃ V, World.laid wr.drew fm (.map (oneF (.agg #[.int .i64 0, .int .i64 0, .int .i64 0])) 1) = V := ⟨_, rfl⟩
        have R1 : Beside [fm] wr.drew V1 := by rw [← hV1]; exact laid_beside _ _ _
        have m1 : V1.heap[fm]? = some (.map (oneF (.agg #[.int .i64 0, .int .i64 0, .int .i64 0])) 1) := by rw [← hV1]; exact laid_same hfr
        have ew1 := entry_put (t := 186) (x := .agg #[.int .i64 1, .int .i64 0, .int .i64 0]) (i := 0) 0 m1 (by kernel_rfl)
        obtain ⟨V2, hV2⟩ : ∃ V, World.laid V1 fm (.map (oneF (.agg #[.int .i64 1, .int .i64 0, .int .i64 0])) 1) = V := ⟨_, rfl⟩
        have R2 : Beside [fm] wr.drew V2 := by rw [← hV2]; exact R1.trans (laid_beside _ _ _)
        have m2 : V2.heap[fm]? = some (.map (oneF (.agg #[.int .i64 1, .int .i64 0, .int .i64 0])) 1) := by rw [← hV2]; exact laid_same (Nat.lt_of_lt_of_le hfr R1.size)
        have ex2 := entry_new (key := .agg #[.int .i64 1, .int .i64 0]) Tryz.underlying186 m2 (end_key V2 1 0) (findKey_asks hud (hun _ _ _ _) (findAsking_no (end_10_01 V2) findAsking_nil)) (Tryz.zeroValue369 V2)
        obtain ⟨V3, hV3⟩ : ∃ V, World.laid V2 fm (.map (twoF (.agg #[.int .i64 0, .int .i64 0, .int .i64 0])) 2) = V := ⟨_, rfl⟩
        have R3 : Beside [fm] wr.drew V3 := by rw [← hV3]; exact R2.trans (laid_beside _ _ _)
        have m3 : V3.heap[fm]? = some (.map (twoF (.agg #[.int .i64 0, .int .i64 0, .int .i64 0])) 2) := by rw [← hV3]; exact laid_same (Nat.lt_of_lt_of_le hfr R2.size)
        have ew2 := entry_put (t := 186) (x := .agg #[.int .i64 0, .int .i64 1, .int .i64 0]) (i := 1) 1 m3 (by kernel_rfl)
        have ey1 : (Instr.mapEntry 186 (.map (some fm)) (.agg #[.int .i64 0, .int .i64 1])).run Tryz.prog wr.drew = .ok (.tuple #[.agg #[.int .i64 0, .int .i64 0, .int .i64 0], .int .i64 0]) V1 := by rw [← hV1]; exact ex1
        have ez1 : (Instr.entryStore 186 (.map (some fm)) (.int .i64 0) (.agg #[.int .i64 1, .int .i64 0, .int .i64 0])).run Tryz.prog V1 = .ok () V2 := by rw [← hV2]; exact ew1
        have ey2 : (Instr.mapEntry 186 (.map (some fm)) (.agg #[.int .i64 1, .int .i64 0])).run Tryz.prog V2 = .ok (.tuple #[.agg #[.int .i64 0, .int .i64 0, .int .i64 0], .int .i64 1]) V3 := by rw [← hV3]; exact ex2
        have ez2 : (Instr.entryStore 186 (.map (some fm)) (.int .i64 1) (.agg #[.int .i64 0, .int .i64 1, .int .i64 0])).run Tryz.prog V3 = .ok () (World.laid V3 fm (.map farE1 2)) := ew2
        have hfa : na ≠ fm := by have := HJm.out; omega
        have hfb : nb ≠ fm := by have := HJm.out; omega
        have a0_1 := (NA.out.below BE0.out).drew.beside R1 (fun e => hfa (List.mem_singleton.1 e)) |>.get 0 _ rfl
        have b0_1 := (NB.out.below BE0.out).drew.beside R1 (fun e => hfb (List.mem_singleton.1 e)) |>.get 0 _ rfl
        have a1_1 := (NA.out.below BE0.out).drew.beside R1 (fun e => hfa (List.mem_singleton.1 e)) |>.get 1 _ rfl
        have b1_1 := (NB.out.below BE0.out).drew.beside R1 (fun e => hfb (List.mem_singleton.1 e)) |>.get 1 _ rfl
        have a0_2 := (NA.out.below BE0.out).drew.beside R2 (fun e => hfa (List.mem_singleton.1 e)) |>.get 0 _ rfl
        have b0_2 := (NB.out.below BE0.out).drew.beside R2 (fun e => hfb (List.mem_singleton.1 e)) |>.get 0 _ rfl
        have a1_2 := (NA.out.below BE0.out).drew.beside R2 (fun e => hfa (List.mem_singleton.1 e)) |>.get 1 _ rfl
        have b1_2 := (NB.out.below BE0.out).drew.beside R2 (fun e => hfb (List.mem_singleton.1 e)) |>.get 1 _ rfl
        have a0_3 := (NA.out.below BE0.out).drew.beside R3 (fun e => hfa (List.mem_singleton.1 e)) |>.get 0 _ rfl
        have b0_3 := (NB.out.below BE0.out).drew.beside R3 (fun e => hfb (List.mem_singleton.1 e)) |>.get 0 _ rfl
        have a1_3 := (NA.out.below BE0.out).drew.beside R3 (fun e => hfa (List.mem_singleton.1 e)) |>.get 1 _ rfl
        have b1_3 := (NB.out.below BE0.out).drew.beside R3 (fun e => hfb (List.mem_singleton.1 e)) |>.get 1 _ rfl
        have c3_1 := JS0.out.net.drew.beside R1 (fun e => hfn (List.mem_singleton.1 e)) |>.get 3 _ rfl
        have c3_2 := JS0.out.net.drew.beside R2 (fun e => hfn (List.mem_singleton.1 e)) |>.get 3 _ rfl
        have c3_3 := JS0.out.net.drew.beside R3 (fun e => hfn (List.mem_singleton.1 e)) |>.get 3 _ rfl
        clear ex1 ex2 ew1 ew2 mp m1 m2 m3 hV1 hV2 hV3 hun hud
        have R4 := Lib.hid (R3.trans (laid_beside V3 fm (.map farE1 2)))
        have S4 := Lib.hid (laid_same (W := V3) (r := fm) (o := .map farE1 2) (Nat.lt_of_lt_of_le hfr R3.size))
        go_region
        go_wp2
        go_meet
        exact ⟨S4.out, (Beside.refl [fm] wr).drew.trans R4.out⟩
      case rest =>
        obtain ⟨F9q, E9q⟩ := hcut
        have F9 := Lib.hid F9q
        have E9 := Lib.hid E9q
        clear F9q E9q a0 a1 b0 b1 c3
        obtain ⟨w9, hw9⟩ : ∃ x, x = wc := ⟨_, rfl⟩
        rw [← hw9] at F9 E9 ⊢
        clear hw9
        have hwf : w.heap.size ≠ fm := fun e => by have := HJm.out; omega
        have NC_z := Lib.hid (JS0.out.net.beside E9.out (fun e => hfn (List.mem_singleton.1 e)))
        have ND_z := Lib.hid ((ND.out.below BE0.out).beside E9.out (fun e => hwf (List.mem_singleton.1 e)))
        have NA9 := Lib.hid ((NA.out.below BE0.out).beside E9.out (fun e => by have := HJm.out; have := List.mem_singleton.1 e; omega))
        have NB9 := Lib.hid ((NB.out.below BE0.out).beside E9.out (fun e => by have := HJm.out; have := List.mem_singleton.1 e; omega))
        have BL_z := Lib.hid (Below.refl w9.heap.size w9)
        have hn9 := NC_z.out.1
        have hdn : w.heap.size ≠ n := Nat.ne_of_gt HJ.out.net.1
        go_upto_region 10 with fail
        go_cut [] (fun wx => ∃ v ub uc, Bx wx n [.slice (some ⟨sb, 0, none⟩) 2 sc, v, .slice (some ⟨ub, 0, none⟩) 1 uc, .map (some fm)] ∧ Bx wx ub [.bool true] ∧ w9.heap.size ≤ ub ∧ Beside [n] w9 wx)
        case first =>
          refine frame_named (fun a0 ha0 => ?_)
          have hs0 : 93 + 19 ≤ a0.tmps.size := by rw [ha0]; exact of_decide_eq_true (by kernel_rfl)
          have t0 : a0.eval (.tmp 0) = .pointer (some ⟨n, 0, none⟩) := by rw [ha0]; rfl
          have t6 : a0.eval (.tmp 6) = .pointer (some ⟨w.heap.size, 0, none⟩) := by rw [ha0]; rfl
          refine wp_region_any (by kernel_rfl) ?_
          refine wpAny_inv (JI a0 n sb sc fm w.heap.size w9) ?jstep ?jfin (fun i a w K K' h => wpOp_mono h) _ _ _ _ ?jpro ?jbeg
          case jpro => decide
          case jbeg =>
            exact ⟨false, false, false, false, false, false, false, false, false, false, false, false, false, false, false, false, false, false, false, false, false, rfl, a0.eval (.tmp 93), a0.eval (.tmp 94), a0.eval (.tmp 95), a0.eval (.tmp 96), a0.eval (.tmp 97), a0.eval (.tmp 98), a0.eval (.tmp 99), a0.eval (.tmp 100), a0.eval (.tmp 101), a0.eval (.tmp 102), a0.eval (.tmp 103), a0.eval (.tmp 104), a0.eval (.tmp 105), a0.eval (.tmp 106), a0.eval (.tmp 107), a0.eval (.tmp 108), a0.eval (.tmp 109), a0.eval (.tmp 110), a0.eval (.tmp 111), by simp [chain, put_self], (Beside.refl [n] w9).drew, NC_z.out.drew, ND_z.out.drew, (fun h => by cases h), (fun h => by cases h), (fun h => by cases h), (fun h => by cases h), (fun h => by cases h), (fun h => by cases h), (fun h => by cases h), (fun h => by cases h), (fun h => by cases h), (fun h => by cases h), (fun h => by cases h), (fun h => by cases h), (fun h => by cases h), (fun h => by cases h), (fun h => by cases h), (fun h => by cases h), (fun h => by cases h), (fun h => by cases h), (fun h => by cases h), (fun h => by cases h), (fun h => by cases h)⟩
          case jstep =>
            rintro listed a W i ⟨l0, l1, l2, l3, l4, l5, l6, l7, l8, l9, l10, l11, l12, l13, l14, l15, l16, l17, l18, l19, l20, rfl, z0, z1, z2, z3, z4, z5, z6, z7, z8, z9, z10, z11, z12, z13, z14, z15, z16, z17, z18, rfl, hB, hN, hD, k17, k20, h0, h1, h2, h3, h4, h5, h6, h7, h8, h9, h10, h11, h12, h13, h14, h15, h16, h18, h19⟩ hi
            rw [Region.ready, List.mem_filter] at hi
            obtain ⟨hr, hi⟩ := hi
            have hr : i < 21 := List.mem_range.1 hr
            rcases (by omega : i = 0 ∨ i = 1 ∨ i = 2 ∨ i = 3 ∨ i = 4 ∨ i = 5 ∨ i = 6 ∨ i = 7 ∨ i = 8 ∨ i = 9 ∨ i = 10 ∨ i = 11 ∨ i = 12 ∨ i = 13 ∨ i = 14 ∨ i = 15 ∨ i = 16 ∨ i = 17 ∨ i = 18 ∨ i = 19 ∨ i = 20) with rfl | rfl | rfl | rfl | rfl | rfl | rfl | rfl | rfl | rfl | rfl | rfl | rfl | rfl | rfl | rfl | rfl | rfl | rfl | rfl | rfl
            · simp [Region.binds] at hi
              have f0 : l0 = false := by revert hi; cases l0 <;> simp
              subst f0
              refine wpOp_value rfl rfl (run_move rfl ((chain_low [z0, z1, z2, z3, z4, z5, z6, z7, z8, z9, z10, z11, z12, z13, z14, z15, z16, z17, z18] (by decide)).trans t0)) ?_
              exact ⟨true, l1, l2, l3, l4, l5, l6, l7, l8, l9, l10, l11, l12, l13, l14, l15, l16, l17, l18, l19, l20, rfl, .pointer (some ⟨n, 0, none⟩), z1, z2, z3, z4, z5, z6, z7, z8, z9, z10, z11, z12, z13, z14, z15, z16, z17, z18, chain_put a0 93 0 [z0, z1, z2, z3, z4, z5, z6, z7, z8, z9, z10, z11, z12, z13, z14, z15, z16, z17, z18] _ (by simp), hB, hN, hD, k17, k20, (fun _ => rfl), h1, h2, h3, h4, h5, h6, h7, h8, h9, h10, h11, h12, h13, h14, h15, h16, h18, h19⟩
            · simp [Region.binds] at hi
              have f1 : l1 = false := by revert hi; cases l1 <;> simp
              subst f1
              refine wpOp_value rfl rfl (run_move rfl ((chain_low [z0, z1, z2, z3, z4, z5, z6, z7, z8, z9, z10, z11, z12, z13, z14, z15, z16, z17, z18] (by decide)).trans t0)) ?_
              exact ⟨l0, true, l2, l3, l4, l5, l6, l7, l8, l9, l10, l11, l12, l13, l14, l15, l16, l17, l18, l19, l20, rfl, z0, .pointer (some ⟨n, 0, none⟩), z2, z3, z4, z5, z6, z7, z8, z9, z10, z11, z12, z13, z14, z15, z16, z17, z18, chain_put a0 93 1 [z0, z1, z2, z3, z4, z5, z6, z7, z8, z9, z10, z11, z12, z13, z14, z15, z16, z17, z18] _ (by simp), hB, hN, hD, k17, k20, h0, (fun _ => rfl), h2, h3, h4, h5, h6, h7, h8, h9, h10, h11, h12, h13, h14, h15, h16, h18, h19⟩
            · simp [Region.binds] at hi
              have f2 : l2 = false := by revert hi; cases l2 <;> simp
              subst f2
              refine wpOp_value rfl rfl (run_move rfl ((chain_low [z0, z1, z2, z3, z4, z5, z6, z7, z8, z9, z10, z11, z12, z13, z14, z15, z16, z17, z18] (by decide)).trans t0)) ?_
              exact ⟨l0, l1, true, l3, l4, l5, l6, l7, l8, l9, l10, l11, l12, l13, l14, l15, l16, l17, l18, l19, l20, rfl, z0, z1, .pointer (some ⟨n, 0, none⟩), z3, z4, z5, z6, z7, z8, z9, z10, z11, z12, z13, z14, z15, z16, z17, z18, chain_put a0 93 2 [z0, z1, z2, z3, z4, z5, z6, z7, z8, z9, z10, z11, z12, z13, z14, z15, z16, z17, z18] _ (by simp), hB, hN, hD, k17, k20, h0, h1, (fun _ => rfl), h3, h4, h5, h6, h7, h8, h9, h10, h11, h12, h13, h14, h15, h16, h18, h19⟩
            · simp [Region.binds] at hi
              have e2 : l2 = true := by revert hi; cases l2 <;> simp
              have f3 : l3 = false := by revert hi; cases l3 <;> simp
              have g2 := h2 e2
              subst f3
              subst g2
              refine wpOp_value rfl rfl (run_nilCheck rfl (chain_eval (a := a0) (b := 93) (j := 2) (zs := [z0, z1, .pointer (some ⟨n, 0, none⟩), z3, z4, z5, z6, z7, z8, z9, z10, z11, z12, z13, z14, z15, z16, z17, z18]) hs0 (by simp))) ?_
              exact ⟨l0, l1, l2, true, l4, l5, l6, l7, l8, l9, l10, l11, l12, l13, l14, l15, l16, l17, l18, l19, l20, rfl, z0, z1, .pointer (some ⟨n, 0, none⟩), .pointer (some ⟨n, 0, none⟩), z4, z5, z6, z7, z8, z9, z10, z11, z12, z13, z14, z15, z16, z17, z18, chain_put a0 93 3 [z0, z1, .pointer (some ⟨n, 0, none⟩), z3, z4, z5, z6, z7, z8, z9, z10, z11, z12, z13, z14, z15, z16, z17, z18] _ (by simp), hB, hN, hD, k17, k20, h0, h1, h2, (fun _ => rfl), h4, h5, h6, h7, h8, h9, h10, h11, h12, h13, h14, h15, h16, h18, h19⟩
            · simp [Region.binds] at hi
              have e3 : l3 = true := by revert hi; cases l3 <;> simp
              have f4 : l4 = false := by revert hi; cases l4 <;> simp
              have g3 := h3 e3
              subst f4
              subst g3
              refine wpOp_value rfl rfl (run_fieldAddr rfl (chain_eval (a := a0) (b := 93) (j := 3) (zs := [z0, z1, z2, .pointer (some ⟨n, 0, none⟩), z4, z5, z6, z7, z8, z9, z10, z11, z12, z13, z14, z15, z16, z17, z18]) hs0 (by simp)) (net_field1 W n)) ?_
              exact ⟨l0, l1, l2, l3, true, l5, l6, l7, l8, l9, l10, l11, l12, l13, l14, l15, l16, l17, l18, l19, l20, rfl, z0, z1, z2, .pointer (some ⟨n, 0, none⟩), .pointer (some ⟨n, 1, none⟩), z5, z6, z7, z8, z9, z10, z11, z12, z13, z14, z15, z16, z17, z18, chain_put a0 93 4 [z0, z1, z2, .pointer (some ⟨n, 0, none⟩), z4, z5, z6, z7, z8, z9, z10, z11, z12, z13, z14, z15, z16, z17, z18] _ (by simp), hB, hN, hD, k17, k20, h0, h1, h2, h3, (fun _ => rfl), h5, h6, h7, h8, h9, h10, h11, h12, h13, h14, h15, h16, h18, h19⟩
            · simp [Region.binds] at hi
              have e4 : l4 = true := by revert hi; cases l4 <;> simp
              have f5 : l5 = false := by revert hi; cases l5 <;> simp
              have g4 := h4 e4
              subst f5
              subst g4
              have f17 : l17 = false := by cases hl : l17; exact rfl; exact absurd (k17 hl).1 (by decide)
              subst f17
              refine wpOp_value rfl rfl (run_load rfl (chain_eval (a := a0) (b := 93) (j := 4) (zs := [z0, z1, z2, z3, .pointer (some ⟨n, 1, none⟩), z5, z6, z7, z8, z9, z10, z11, z12, z13, z14, z15, z16, z17, z18]) hs0 (by simp)) (net_load1 W (hN.get 1 _ rfl))) ?_
              exact ⟨l0, l1, l2, l3, l4, true, l6, l7, l8, l9, l10, l11, l12, l13, l14, l15, l16, false, l18, l19, l20, rfl, z0, z1, z2, z3, .pointer (some ⟨n, 1, none⟩), .slice none 0 0, z6, z7, z8, z9, z10, z11, z12, z13, z14, z15, z16, z17, z18, chain_put a0 93 5 [z0, z1, z2, z3, .pointer (some ⟨n, 1, none⟩), z5, z6, z7, z8, z9, z10, z11, z12, z13, z14, z15, z16, z17, z18] _ (by simp), hB, hN, hD, (fun h => by cases h), k20, h0, h1, h2, h3, h4, (fun _ => rfl), h6, h7, h8, h9, h10, h11, h12, h13, h14, h15, h16, h18, h19⟩
            · simp [Region.binds] at hi
              have f6 : l6 = false := by revert hi; cases l6 <;> simp
              subst f6
              refine wpOp_value rfl rfl (run_load rfl ((chain_low [z0, z1, z2, z3, z4, z5, z6, z7, z8, z9, z10, z11, z12, z13, z14, z15, z16, z17, z18] (by decide)).trans t6) (wire_load W hD)) ?_
              exact ⟨l0, l1, l2, l3, l4, l5, true, l7, l8, l9, l10, l11, l12, l13, l14, l15, l16, l17, l18, l19, l20, rfl, z0, z1, z2, z3, z4, z5, .agg #[.int .i64 0, .int .i64 1, .int .i64 1, .int .i64 0], z7, z8, z9, z10, z11, z12, z13, z14, z15, z16, z17, z18, chain_put a0 93 6 [z0, z1, z2, z3, z4, z5, z6, z7, z8, z9, z10, z11, z12, z13, z14, z15, z16, z17, z18] _ (by simp), hB, hN, hD, k17, k20, h0, h1, h2, h3, h4, h5, (fun _ => rfl), h7, h8, h9, h10, h11, h12, h13, h14, h15, h16, h18, h19⟩
            · simp [Region.binds] at hi
              have e6 : l6 = true := by revert hi; cases l6 <;> simp
              have f7 : l7 = false := by revert hi; cases l7 <;> simp
              have g6 := h6 e6
              subst f7
              subst g6
              refine wpOp_value rfl rfl (run_row1 rfl (chain_eval (a := a0) (b := 93) (j := 6) (zs := [z0, z1, z2, z3, z4, z5, .agg #[.int .i64 0, .int .i64 1, .int .i64 1, .int .i64 0], z7, z8, z9, z10, z11, z12, z13, z14, z15, z16, z17, z18]) hs0 (by simp)) (row_wire W)) ?_
              have G : Beside [n] W (W.alloc (.cells ([.int .i64 0, .int .i64 1, .int .i64 1, .int .i64 0] : List Value).toArray 177)) := (Beside.refl [n] W).alloc _
              exact ⟨l0, l1, l2, l3, l4, l5, l6, true, l8, l9, l10, l11, l12, l13, l14, l15, l16, l17, l18, l19, l20, rfl, z0, z1, z2, z3, z4, z5, .agg #[.int .i64 0, .int .i64 1, .int .i64 1, .int .i64 0], .slice (some ⟨W.heap.size, 0, none⟩) 1 1, z8, z9, z10, z11, z12, z13, z14, z15, z16, z17, z18, chain_put a0 93 7 [z0, z1, z2, z3, z4, z5, .agg #[.int .i64 0, .int .i64 1, .int .i64 1, .int .i64 0], z7, z8, z9, z10, z11, z12, z13, z14, z15, z16, z17, z18] _ (by simp), hB.trans G, hN.alloc _, hD.alloc _, k17, k20, h0, h1, h2, h3, h4, h5, h6, (fun _ => ⟨W.heap.size, 1, rfl, hB.size, Bx.new W _ _⟩), (fun q => (h8 q).beside G hn9), h9, h10, h11, h12, (fun q => (h13 q).beside G hn9), (fun q => (h14 q).beside G hn9), h15, h16, h18, h19⟩
            · simp [Region.binds] at hi
              have e5 : l5 = true := by revert hi; cases l5 <;> simp
              have e7 : l7 = true := by revert hi; cases l7 <;> simp
              have f8 : l8 = false := by revert hi; cases l8 <;> simp
              have g5 := h5 e5
              have g7 := h7 e7
              subst f8
              subst g5
              obtain ⟨g, c, rfl, hg, hx⟩ := g7
              obtain ⟨q, d, V, hrun, hq, hv, hbl⟩ := add_wire W c hx
              have G : Beside [n] W V := .of_below hbl
              have f17 : l17 = false := by cases hl : l17; exact rfl; exact absurd (k17 hl).2 (by decide)
              subst f17
              refine wpOp_value rfl rfl (run_append rfl (chain_eval (a := a0) (b := 93) (j := 5) (zs := [z0, z1, z2, z3, z4, .slice none 0 0, z6, .slice (some ⟨g, 0, none⟩) 1 c, z8, z9, z10, z11, z12, z13, z14, z15, z16, z17, z18]) hs0 (by simp)) (chain_eval (a := a0) (b := 93) (j := 7) (zs := [z0, z1, z2, z3, z4, .slice none 0 0, z6, .slice (some ⟨g, 0, none⟩) 1 c, z8, z9, z10, z11, z12, z13, z14, z15, z16, z17, z18]) hs0 (by simp)) hrun) ?_
              exact ⟨l0, l1, l2, l3, l4, l5, l6, l7, true, l9, l10, l11, l12, l13, l14, l15, l16, false, l18, l19, l20, rfl, z0, z1, z2, z3, z4, .slice none 0 0, z6, .slice (some ⟨g, 0, none⟩) 1 c, .slice (some ⟨q, 0, none⟩) 1 d, z9, z10, z11, z12, z13, z14, z15, z16, z17, z18, chain_put a0 93 8 [z0, z1, z2, z3, z4, .slice none 0 0, z6, .slice (some ⟨g, 0, none⟩) 1 c, z8, z9, z10, z11, z12, z13, z14, z15, z16, z17, z18] _ (by simp), hB.trans G, hN.below hbl, hD.below hbl, (fun h => by cases h), k20, h0, h1, h2, h3, h4, h5, h6, (fun q => (h7 q).beside G hn9), (fun _ => ⟨q, d, rfl, Nat.le_trans hB.size hq, hv⟩), h9, h10, h11, h12, (fun q => (h13 q).beside G hn9), (fun q => (h14 q).beside G hn9), h15, h16, h18, h19⟩
            · simp [Region.binds] at hi
              have f9 : l9 = false := by revert hi; cases l9 <;> simp
              subst f9
              refine wpOp_value rfl rfl (run_move rfl ((chain_low [z0, z1, z2, z3, z4, z5, z6, z7, z8, z9, z10, z11, z12, z13, z14, z15, z16, z17, z18] (by decide)).trans t0)) ?_
              exact ⟨l0, l1, l2, l3, l4, l5, l6, l7, l8, true, l10, l11, l12, l13, l14, l15, l16, l17, l18, l19, l20, rfl, z0, z1, z2, z3, z4, z5, z6, z7, z8, .pointer (some ⟨n, 0, none⟩), z10, z11, z12, z13, z14, z15, z16, z17, z18, chain_put a0 93 9 [z0, z1, z2, z3, z4, z5, z6, z7, z8, z9, z10, z11, z12, z13, z14, z15, z16, z17, z18] _ (by simp), hB, hN, hD, k17, k20, h0, h1, h2, h3, h4, h5, h6, h7, h8, (fun _ => rfl), h10, h11, h12, h13, h14, h15, h16, h18, h19⟩
            · simp [Region.binds] at hi
              have e9 : l9 = true := by revert hi; cases l9 <;> simp
              have f10 : l10 = false := by revert hi; cases l10 <;> simp
              have g9 := h9 e9
              subst f10
              subst g9
              refine wpOp_value rfl rfl (run_nilCheck rfl (chain_eval (a := a0) (b := 93) (j := 9) (zs := [z0, z1, z2, z3, z4, z5, z6, z7, z8, .pointer (some ⟨n, 0, none⟩), z10, z11, z12, z13, z14, z15, z16, z17, z18]) hs0 (by simp))) ?_
              exact ⟨l0, l1, l2, l3, l4, l5, l6, l7, l8, l9, true, l11, l12, l13, l14, l15, l16, l17, l18, l19, l20, rfl, z0, z1, z2, z3, z4, z5, z6, z7, z8, .pointer (some ⟨n, 0, none⟩), .pointer (some ⟨n, 0, none⟩), z11, z12, z13, z14, z15, z16, z17, z18, chain_put a0 93 10 [z0, z1, z2, z3, z4, z5, z6, z7, z8, .pointer (some ⟨n, 0, none⟩), z10, z11, z12, z13, z14, z15, z16, z17, z18] _ (by simp), hB, hN, hD, k17, k20, h0, h1, h2, h3, h4, h5, h6, h7, h8, h9, (fun _ => rfl), h11, h12, h13, h14, h15, h16, h18, h19⟩
            · simp [Region.binds] at hi
              have e10 : l10 = true := by revert hi; cases l10 <;> simp
              have f11 : l11 = false := by revert hi; cases l11 <;> simp
              have g10 := h10 e10
              subst f11
              subst g10
              refine wpOp_value rfl rfl (run_fieldAddr rfl (chain_eval (a := a0) (b := 93) (j := 10) (zs := [z0, z1, z2, z3, z4, z5, z6, z7, z8, z9, .pointer (some ⟨n, 0, none⟩), z11, z12, z13, z14, z15, z16, z17, z18]) hs0 (by simp)) (net_field2 W n)) ?_
              exact ⟨l0, l1, l2, l3, l4, l5, l6, l7, l8, l9, l10, true, l12, l13, l14, l15, l16, l17, l18, l19, l20, rfl, z0, z1, z2, z3, z4, z5, z6, z7, z8, z9, .pointer (some ⟨n, 0, none⟩), .pointer (some ⟨n, 2, none⟩), z12, z13, z14, z15, z16, z17, z18, chain_put a0 93 11 [z0, z1, z2, z3, z4, z5, z6, z7, z8, z9, .pointer (some ⟨n, 0, none⟩), z11, z12, z13, z14, z15, z16, z17, z18] _ (by simp), hB, hN, hD, k17, k20, h0, h1, h2, h3, h4, h5, h6, h7, h8, h9, h10, (fun _ => rfl), h12, h13, h14, h15, h16, h18, h19⟩
            · simp [Region.binds] at hi
              have e11 : l11 = true := by revert hi; cases l11 <;> simp
              have f12 : l12 = false := by revert hi; cases l12 <;> simp
              have g11 := h11 e11
              subst f12
              subst g11
              have f20 : l20 = false := by cases hl : l20; exact rfl; exact absurd (k20 hl).1 (by decide)
              subst f20
              refine wpOp_value rfl rfl (run_load rfl (chain_eval (a := a0) (b := 93) (j := 11) (zs := [z0, z1, z2, z3, z4, z5, z6, z7, z8, z9, z10, .pointer (some ⟨n, 2, none⟩), z12, z13, z14, z15, z16, z17, z18]) hs0 (by simp)) (net_load2 W (hN.get 2 _ rfl))) ?_
              exact ⟨l0, l1, l2, l3, l4, l5, l6, l7, l8, l9, l10, l11, true, l13, l14, l15, l16, l17, l18, l19, false, rfl, z0, z1, z2, z3, z4, z5, z6, z7, z8, z9, z10, .pointer (some ⟨n, 2, none⟩), .slice none 0 0, z13, z14, z15, z16, z17, z18, chain_put a0 93 12 [z0, z1, z2, z3, z4, z5, z6, z7, z8, z9, z10, .pointer (some ⟨n, 2, none⟩), z12, z13, z14, z15, z16, z17, z18] _ (by simp), hB, hN, hD, k17, (fun h => by cases h), h0, h1, h2, h3, h4, h5, h6, h7, h8, h9, h10, h11, (fun _ => rfl), h13, h14, h15, h16, h18, h19⟩
            · simp [Region.binds] at hi
              have f13 : l13 = false := by revert hi; cases l13 <;> simp
              subst f13
              refine wpOp_value rfl rfl (run_row1 rfl (x := .const (.bool true)) rfl (row_bool W)) ?_
              have G : Beside [n] W (W.alloc (.cells ([.bool true] : List Value).toArray 4)) := (Beside.refl [n] W).alloc _
              exact ⟨l0, l1, l2, l3, l4, l5, l6, l7, l8, l9, l10, l11, l12, true, l14, l15, l16, l17, l18, l19, l20, rfl, z0, z1, z2, z3, z4, z5, z6, z7, z8, z9, z10, z11, z12, .slice (some ⟨W.heap.size, 0, none⟩) 1 1, z14, z15, z16, z17, z18, chain_put a0 93 13 [z0, z1, z2, z3, z4, z5, z6, z7, z8, z9, z10, z11, z12, z13, z14, z15, z16, z17, z18] _ (by simp), hB.trans G, hN.alloc _, hD.alloc _, k17, k20, h0, h1, h2, h3, h4, h5, h6, (fun q => (h7 q).beside G hn9), (fun q => (h8 q).beside G hn9), h9, h10, h11, h12, (fun _ => ⟨W.heap.size, 1, rfl, hB.size, Bx.new W _ _⟩), (fun q => (h14 q).beside G hn9), h15, h16, h18, h19⟩
            · simp [Region.binds] at hi
              have e12 : l12 = true := by revert hi; cases l12 <;> simp
              have e13 : l13 = true := by revert hi; cases l13 <;> simp
              have f14 : l14 = false := by revert hi; cases l14 <;> simp
              have g12 := h12 e12
              have g13 := h13 e13
              subst f14
              subst g12
              obtain ⟨g, c, rfl, hg, hx⟩ := g13
              obtain ⟨q, d, V, hrun, hq, hv, hbl⟩ := add_up W c hx
              have G : Beside [n] W V := .of_below hbl
              have f20 : l20 = false := by cases hl : l20; exact rfl; exact absurd (k20 hl).2 (by decide)
              subst f20
              refine wpOp_value rfl rfl (run_append rfl (chain_eval (a := a0) (b := 93) (j := 12) (zs := [z0, z1, z2, z3, z4, z5, z6, z7, z8, z9, z10, z11, .slice none 0 0, .slice (some ⟨g, 0, none⟩) 1 c, z14, z15, z16, z17, z18]) hs0 (by simp)) (chain_eval (a := a0) (b := 93) (j := 13) (zs := [z0, z1, z2, z3, z4, z5, z6, z7, z8, z9, z10, z11, .slice none 0 0, .slice (some ⟨g, 0, none⟩) 1 c, z14, z15, z16, z17, z18]) hs0 (by simp)) hrun) ?_
              exact ⟨l0, l1, l2, l3, l4, l5, l6, l7, l8, l9, l10, l11, l12, l13, true, l15, l16, l17, l18, l19, false, rfl, z0, z1, z2, z3, z4, z5, z6, z7, z8, z9, z10, z11, .slice none 0 0, .slice (some ⟨g, 0, none⟩) 1 c, .slice (some ⟨q, 0, none⟩) 1 d, z15, z16, z17, z18, chain_put a0 93 14 [z0, z1, z2, z3, z4, z5, z6, z7, z8, z9, z10, z11, .slice none 0 0, .slice (some ⟨g, 0, none⟩) 1 c, z14, z15, z16, z17, z18] _ (by simp), hB.trans G, hN.below hbl, hD.below hbl, k17, (fun h => by cases h), h0, h1, h2, h3, h4, h5, h6, (fun q => (h7 q).beside G hn9), (fun q => (h8 q).beside G hn9), h9, h10, h11, h12, (fun q => (h13 q).beside G hn9), (fun _ => ⟨q, d, rfl, Nat.le_trans hB.size hq, hv⟩), h15, h16, h18, h19⟩
            · simp [Region.binds] at hi
              have e0 : l0 = true := by revert hi; cases l0 <;> simp
              have f15 : l15 = false := by revert hi; cases l15 <;> simp
              have g0 := h0 e0
              subst f15
              subst g0
              refine wpOp_value rfl rfl (run_nilCheck rfl (chain_eval (a := a0) (b := 93) (j := 0) (zs := [.pointer (some ⟨n, 0, none⟩), z1, z2, z3, z4, z5, z6, z7, z8, z9, z10, z11, z12, z13, z14, z15, z16, z17, z18]) hs0 (by simp))) ?_
              exact ⟨l0, l1, l2, l3, l4, l5, l6, l7, l8, l9, l10, l11, l12, l13, l14, true, l16, l17, l18, l19, l20, rfl, .pointer (some ⟨n, 0, none⟩), z1, z2, z3, z4, z5, z6, z7, z8, z9, z10, z11, z12, z13, z14, .pointer (some ⟨n, 0, none⟩), z16, z17, z18, chain_put a0 93 15 [.pointer (some ⟨n, 0, none⟩), z1, z2, z3, z4, z5, z6, z7, z8, z9, z10, z11, z12, z13, z14, z15, z16, z17, z18] _ (by simp), hB, hN, hD, k17, k20, h0, h1, h2, h3, h4, h5, h6, h7, h8, h9, h10, h11, h12, h13, h14, (fun _ => rfl), h16, h18, h19⟩
            · simp [Region.binds] at hi
              have e15 : l15 = true := by revert hi; cases l15 <;> simp
              have f16 : l16 = false := by revert hi; cases l16 <;> simp
              have g15 := h15 e15
              subst f16
              subst g15
              refine wpOp_value rfl rfl (run_fieldAddr rfl (chain_eval (a := a0) (b := 93) (j := 15) (zs := [z0, z1, z2, z3, z4, z5, z6, z7, z8, z9, z10, z11, z12, z13, z14, .pointer (some ⟨n, 0, none⟩), z16, z17, z18]) hs0 (by simp)) (net_field1 W n)) ?_
              exact ⟨l0, l1, l2, l3, l4, l5, l6, l7, l8, l9, l10, l11, l12, l13, l14, l15, true, l17, l18, l19, l20, rfl, z0, z1, z2, z3, z4, z5, z6, z7, z8, z9, z10, z11, z12, z13, z14, .pointer (some ⟨n, 0, none⟩), .pointer (some ⟨n, 1, none⟩), z17, z18, chain_put a0 93 16 [z0, z1, z2, z3, z4, z5, z6, z7, z8, z9, z10, z11, z12, z13, z14, .pointer (some ⟨n, 0, none⟩), z16, z17, z18] _ (by simp), hB, hN, hD, k17, k20, h0, h1, h2, h3, h4, h5, h6, h7, h8, h9, h10, h11, h12, h13, h14, h15, (fun _ => rfl), h18, h19⟩
            · simp [Region.binds] at hi
              have e16 : l16 = true := by revert hi; cases l16 <;> simp
              have e8 : l8 = true := by revert hi; cases l8 <;> simp
              have f17 : l17 = false := by revert hi; cases l17 <;> simp
              have g16 := h16 e16
              have g8 := h8 e8
              subst f17
              subst g16
              obtain ⟨g, c, rfl, hg, hx⟩ := g8
              have G : Beside [n] W (W.setCell ⟨n, 1, none⟩ (.slice (some ⟨g, 0, none⟩) 1 c)) := (Beside.refl [n] W).setCell (.inl (List.mem_singleton.2 rfl)) _
              refine wpOp_skip rfl rfl rfl (run_store rfl (chain_eval (a := a0) (b := 93) (j := 16) (zs := [z0, z1, z2, z3, z4, z5, z6, z7, .slice (some ⟨g, 0, none⟩) 1 c, z9, z10, z11, z12, z13, z14, z15, .pointer (some ⟨n, 1, none⟩), z17, z18]) hs0 (by simp)) (chain_eval (a := a0) (b := 93) (j := 8) (zs := [z0, z1, z2, z3, z4, z5, z6, z7, .slice (some ⟨g, 0, none⟩) 1 c, z9, z10, z11, z12, z13, z14, z15, .pointer (some ⟨n, 1, none⟩), z17, z18]) hs0 (by simp)) (net_store1 W _ _ _ (hN.get 1 _ rfl) (hN.fz 1))) ?_
              have e5 : l5 = true := by revert hi; cases l5 <;> simp
              exact ⟨l0, l1, l2, l3, l4, l5, l6, l7, l8, l9, l10, l11, l12, l13, l14, l15, l16, true, l18, l19, l20, rfl, z0, z1, z2, z3, z4, z5, z6, z7, .slice (some ⟨g, 0, none⟩) 1 c, z9, z10, z11, z12, z13, z14, z15, .pointer (some ⟨n, 1, none⟩), z17, z18, rfl, hB.trans G, hN.set (i := 1) (by simp), hD.put hdn, (fun _ => ⟨e5, e8⟩), k20, h0, h1, h2, h3, h4, h5, h6, (fun q => (h7 q).beside G hn9), (fun _ => RowQ.beside ⟨g, c, rfl, hg, hx⟩ G hn9), h9, h10, h11, h12, (fun q => (h13 q).beside G hn9), (fun q => (h14 q).beside G hn9), h15, h16, h18, h19⟩
            · simp [Region.binds] at hi
              have e1 : l1 = true := by revert hi; cases l1 <;> simp
              have f18 : l18 = false := by revert hi; cases l18 <;> simp
              have g1 := h1 e1
              subst f18
              subst g1
              refine wpOp_value rfl rfl (run_nilCheck rfl (chain_eval (a := a0) (b := 93) (j := 1) (zs := [z0, .pointer (some ⟨n, 0, none⟩), z2, z3, z4, z5, z6, z7, z8, z9, z10, z11, z12, z13, z14, z15, z16, z17, z18]) hs0 (by simp))) ?_
              exact ⟨l0, l1, l2, l3, l4, l5, l6, l7, l8, l9, l10, l11, l12, l13, l14, l15, l16, l17, true, l19, l20, rfl, z0, .pointer (some ⟨n, 0, none⟩), z2, z3, z4, z5, z6, z7, z8, z9, z10, z11, z12, z13, z14, z15, z16, .pointer (some ⟨n, 0, none⟩), z18, chain_put a0 93 17 [z0, .pointer (some ⟨n, 0, none⟩), z2, z3, z4, z5, z6, z7, z8, z9, z10, z11, z12, z13, z14, z15, z16, z17, z18] _ (by simp), hB, hN, hD, k17, k20, h0, h1, h2, h3, h4, h5, h6, h7, h8, h9, h10, h11, h12, h13, h14, h15, h16, (fun _ => rfl), h19⟩
            · simp [Region.binds] at hi
              have e18 : l18 = true := by revert hi; cases l18 <;> simp
              have f19 : l19 = false := by revert hi; cases l19 <;> simp
              have g18 := h18 e18
              subst f19
              subst g18
              refine wpOp_value rfl rfl (run_fieldAddr rfl (chain_eval (a := a0) (b := 93) (j := 17) (zs := [z0, z1, z2, z3, z4, z5, z6, z7, z8, z9, z10, z11, z12, z13, z14, z15, z16, .pointer (some ⟨n, 0, none⟩), z18]) hs0 (by simp)) (net_field2 W n)) ?_
              exact ⟨l0, l1, l2, l3, l4, l5, l6, l7, l8, l9, l10, l11, l12, l13, l14, l15, l16, l17, l18, true, l20, rfl, z0, z1, z2, z3, z4, z5, z6, z7, z8, z9, z10, z11, z12, z13, z14, z15, z16, .pointer (some ⟨n, 0, none⟩), .pointer (some ⟨n, 2, none⟩), chain_put a0 93 18 [z0, z1, z2, z3, z4, z5, z6, z7, z8, z9, z10, z11, z12, z13, z14, z15, z16, .pointer (some ⟨n, 0, none⟩), z18] _ (by simp), hB, hN, hD, k17, k20, h0, h1, h2, h3, h4, h5, h6, h7, h8, h9, h10, h11, h12, h13, h14, h15, h16, h18, (fun _ => rfl)⟩
            · simp [Region.binds] at hi
              have e19 : l19 = true := by revert hi; cases l19 <;> simp
              have e14 : l14 = true := by revert hi; cases l14 <;> simp
              have f20 : l20 = false := by revert hi; cases l20 <;> simp
              have g19 := h19 e19
              have g14 := h14 e14
              subst f20
              subst g19
              obtain ⟨g, c, rfl, hg, hx⟩ := g14
              have G : Beside [n] W (W.setCell ⟨n, 2, none⟩ (.slice (some ⟨g, 0, none⟩) 1 c)) := (Beside.refl [n] W).setCell (.inl (List.mem_singleton.2 rfl)) _
              refine wpOp_skip rfl rfl rfl (run_store rfl (chain_eval (a := a0) (b := 93) (j := 18) (zs := [z0, z1, z2, z3, z4, z5, z6, z7, z8, z9, z10, z11, z12, z13, .slice (some ⟨g, 0, none⟩) 1 c, z15, z16, z17, .pointer (some ⟨n, 2, none⟩)]) hs0 (by simp)) (chain_eval (a := a0) (b := 93) (j := 14) (zs := [z0, z1, z2, z3, z4, z5, z6, z7, z8, z9, z10, z11, z12, z13, .slice (some ⟨g, 0, none⟩) 1 c, z15, z16, z17, .pointer (some ⟨n, 2, none⟩)]) hs0 (by simp)) (net_store2 W _ _ _ (hN.get 2 _ rfl) (hN.fz 2))) ?_
              have e12 : l12 = true := by revert hi; cases l12 <;> simp
              exact ⟨l0, l1, l2, l3, l4, l5, l6, l7, l8, l9, l10, l11, l12, l13, l14, l15, l16, l17, l18, l19, true, rfl, z0, z1, z2, z3, z4, z5, z6, z7, z8, z9, z10, z11, z12, z13, .slice (some ⟨g, 0, none⟩) 1 c, z15, z16, z17, .pointer (some ⟨n, 2, none⟩), rfl, hB.trans G, hN.set (i := 2) (by simp), hD.put hdn, k17, (fun _ => ⟨e12, e14⟩), h0, h1, h2, h3, h4, h5, h6, (fun q => (h7 q).beside G hn9), (fun q => (h8 q).beside G hn9), h9, h10, h11, h12, (fun q => (h13 q).beside G hn9), (fun _ => RowQ.beside ⟨g, c, rfl, hg, hx⟩ G hn9), h15, h16, h18, h19⟩
          case jfin =>
            rintro listed a W ⟨l0, l1, l2, l3, l4, l5, l6, l7, l8, l9, l10, l11, l12, l13, l14, l15, l16, l17, l18, l19, l20, rfl, z0, z1, z2, z3, z4, z5, z6, z7, z8, z9, z10, z11, z12, z13, z14, z15, z16, z17, z18, rfl, hB, hN, hD, k17, k20, h0, h1, h2, h3, h4, h5, h6, h7, h8, h9, h10, h11, h12, h13, h14, h15, h16, h18, h19⟩ hr
            rw [Region.ready, List.filter_eq_nil_iff] at hr
            have q0 := hr 0 (List.mem_range.2 (show 0 < 21 by decide))
            simp [Region.binds] at q0
            subst q0
            have q1 := hr 1 (List.mem_range.2 (show 1 < 21 by decide))
            simp [Region.binds] at q1
            subst q1
            have q2 := hr 2 (List.mem_range.2 (show 2 < 21 by decide))
            simp [Region.binds] at q2
            subst q2
            have q3 := hr 3 (List.mem_range.2 (show 3 < 21 by decide))
            simp [Region.binds] at q3
            subst q3
            have q4 := hr 4 (List.mem_range.2 (show 4 < 21 by decide))
            simp [Region.binds] at q4
            subst q4
            have q5 := hr 5 (List.mem_range.2 (show 5 < 21 by decide))
            simp [Region.binds] at q5
            subst q5
            have q6 := hr 6 (List.mem_range.2 (show 6 < 21 by decide))
            simp [Region.binds] at q6
            subst q6
            have q7 := hr 7 (List.mem_range.2 (show 7 < 21 by decide))
            simp [Region.binds] at q7
            subst q7
            have q8 := hr 8 (List.mem_range.2 (show 8 < 21 by decide))
            simp [Region.binds] at q8
            subst q8
            have q9 := hr 9 (List.mem_range.2 (show 9 < 21 by decide))
            simp [Region.binds] at q9
            subst q9
            have q10 := hr 10 (List.mem_range.2 (show 10 < 21 by decide))
            simp [Region.binds] at q10
            subst q10
            have q11 := hr 11 (List.mem_range.2 (show 11 < 21 by decide))
            simp [Region.binds] at q11
            subst q11
            have q12 := hr 12 (List.mem_range.2 (show 12 < 21 by decide))
            simp [Region.binds] at q12
            subst q12
            have q13 := hr 13 (List.mem_range.2 (show 13 < 21 by decide))
            simp [Region.binds] at q13
            subst q13
            have q14 := hr 14 (List.mem_range.2 (show 14 < 21 by decide))
            simp [Region.binds] at q14
            subst q14
            have q15 := hr 15 (List.mem_range.2 (show 15 < 21 by decide))
            simp [Region.binds] at q15
            subst q15
            have q16 := hr 16 (List.mem_range.2 (show 16 < 21 by decide))
            simp [Region.binds] at q16
            subst q16
            have q17 := hr 17 (List.mem_range.2 (show 17 < 21 by decide))
            simp [Region.binds] at q17
            subst q17
            have q18 := hr 18 (List.mem_range.2 (show 18 < 21 by decide))
            simp [Region.binds] at q18
            subst q18
            have q19 := hr 19 (List.mem_range.2 (show 19 < 21 by decide))
            simp [Region.binds] at q19
            subst q19
            have q20 := hr 20 (List.mem_range.2 (show 20 < 21 by decide))
            simp [Region.binds] at q20
            subst q20
            obtain ⟨g1, c1, rfl, y1, x1⟩ := h8 rfl
            obtain ⟨g2, c2, rfl, y2, x2⟩ := h14 rfl
            subst ha0
            simp only [chain, Act.put, List.setIfInBounds_toArray, List.set_cons_succ, List.set_cons_zero]
            go_wp2_with fail
            go_meet
            exact ⟨_, g2, c2, hN, x2, y2, hB⟩
        case rest =>
          obtain ⟨v, ub, uc, N10, U10, hub, E10⟩ := hcut
          have hnn : n < w.heap.size := HJ.out.net.1
          have hna9 : na ∉ [n] := fun e => by have := List.mem_singleton.1 e; omega
          have hnb9 : nb ∉ [n] := fun e => by have := List.mem_singleton.1 e; omega
          have A10 := NA9.out.beside E10 hna9
          have B10 := NB9.out.beside E10 hnb9
          have a0 := A10.get 0 _ rfl
          have a1 := A10.get 1 _ rfl
          have b0 := B10.get 0 _ rfl
          have b1 := B10.get 1 _ rfl
          have hne := end_neq
          have hws : w.heap.size ≤ ub := Nat.le_trans BE0.out.size (Nat.le_trans E9.out.size hub) |> Nat.le_trans GJ.out.size
          have HE := Lib.hid (show Beside [n, fm] w wc from ((Beside.of_below GJ.out).trans ((Beside.of_below BE0.out).trans ((E9.out.mono (fun x hx => List.mem_cons_of_mem _ hx)).trans (E10.mono (fun x hx => by rw [List.mem_singleton.1 hx]; exact List.mem_cons_self ..))))))
          have HF := Lib.hid (show FarMap wc fm from .inl ((E10.block fm (by
            rcases Nat.lt_or_ge fm w9.heap.size with h' | h'
            · exact h'
            · have := F9.out; simp [Array.getElem?_eq_none h'] at this) (fun e => hfn (List.mem_singleton.1 e).symm)).trans F9.out))
          have HN10 := Lib.hid N10
          have HU10 := Lib.hid U10
          clear N10 U10 A10 B10 E10
          go_wp2
          go_ret
          exact ⟨rfl, v, ub, uc, HN10.out, HU10.out, hws, HF.out, HE.out⟩
end Go.Proofs.YticdmepplfgdiaaGreatDoor
