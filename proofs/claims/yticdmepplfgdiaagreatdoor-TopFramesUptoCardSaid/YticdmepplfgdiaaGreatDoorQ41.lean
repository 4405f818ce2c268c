/-
  A net of two switches in memory, port 1 of the first joined to port 0 of the second; a frame's turn in it. Conditions: those of each. What net's Tick computes, of two joined switches that tell nothing but messages of the tree. Conditions: those of each. What net's Tick computes, of two joined switches. Conditions: what the switches tell fits; the deliveries' turns. A tick of two joined switches as one Lean function, and that the deliveries' turns come to it. Conditions: what is told fits and finds its port up. The two joined switches' trees behind each of 80 ticks, reckoned. Conditions: none.
-/
import Derived.BigRegion
import Derived.KernelRfl
import Derived.Test.YticdmepplfgdiaaGreatDoorQ37
import Derived.Test.YticdmepplfgdiaaGreatDoorQ38
import Derived.Test.YticdmepplfgdiaaGreatDoorQ36
import Derived.Test.YticdmepplfgdiaaGreatDoorQ20
set_option linter.unusedVariables false
set_option linter.unusedSimpArgs false
section
namespace Go.Proofs.YticdmepplfgdiaaGreatDoor
open Go.RowKit
def farE1 : Array MapEntry := #[{ key := .agg #[.int .i64 0, .int .i64 1], val := .agg #[.int .i64 1, .int .i64 0, .int .i64 0], born := 0 }, { key := .agg #[.int .i64 1, .int .i64 0], val := .agg #[.int .i64 0, .int .i64 1, .int .i64 0], born := 1 }]
def farE2 : Array MapEntry := #[{ key := .agg #[.int .i64 1, .int .i64 0], val := .agg #[.int .i64 0, .int .i64 1, .int .i64 0], born := 0 }, { key := .agg #[.int .i64 0, .int .i64 1], val := .agg #[.int .i64 1, .int .i64 0, .int .i64 0], born := 1 }]
/-- the wire's two ends, written in whatever order -/
def FarMap (W : World) (r : Nat) : Prop := W.heap[r]? = some (.map farE1 2) ∨ W.heap[r]? = some (.map farE2 2)
theorem FarMap.lt {W : World} {r : Nat} (h : FarMap W r) : r < W.heap.size := by
  rcases Nat.lt_or_ge r W.heap.size with h' | h'
  · exact h'
  · unfold FarMap at h
    simp [Array.getElem?_eq_none h'] at h
theorem FarMap.beside {S : List Nat} {W W' : World} {r : Nat} (h : FarMap W r) (g : Beside S W W') (hr : r ∉ S) : FarMap W' r := by
  have e := g.block r h.lt hr
  rcases h with h | h
  · exact .inl (e.trans h)
  · exact .inr (e.trans h)
theorem FarMap.below {W W' : World} {r : Nat} (h : FarMap W r) (g : Below W.heap.size W W') : FarMap W' r := h.beside (S := []) (.of_below g) List.not_mem_nil
section
variable (W : World)
theorem end_key (v s : Int) (b : Bool) : (Instr.checkKey b 10000 366 (.agg #[.int .i64 v, .int .i64 s])).run Tryz.prog W = .ok () W := by kernel_rfl
theorem end_00_01 : (Op.equal 366 (.agg #[.int .i64 0, .int .i64 0]) (.agg #[.int .i64 0, .int .i64 1])).run Tryz.prog W = .ok false W := by kernel_rfl
theorem end_00_10 : (Op.equal 366 (.agg #[.int .i64 0, .int .i64 0]) (.agg #[.int .i64 1, .int .i64 0])).run Tryz.prog W = .ok false W := by kernel_rfl
theorem end_01_01 : (Op.equal 366 (.agg #[.int .i64 0, .int .i64 1]) (.agg #[.int .i64 0, .int .i64 1])).run Tryz.prog W = .ok true W := by kernel_rfl
theorem end_01_10 : (Op.equal 366 (.agg #[.int .i64 0, .int .i64 1]) (.agg #[.int .i64 1, .int .i64 0])).run Tryz.prog W = .ok false W := by kernel_rfl
theorem end_10_01 : (Op.equal 366 (.agg #[.int .i64 1, .int .i64 0]) (.agg #[.int .i64 0, .int .i64 1])).run Tryz.prog W = .ok false W := by kernel_rfl
theorem end_10_10 : (Op.equal 366 (.agg #[.int .i64 1, .int .i64 0]) (.agg #[.int .i64 1, .int .i64 0])).run Tryz.prog W = .ok true W := by kernel_rfl
theorem end_11_01 : (Op.equal 366 (.agg #[.int .i64 1, .int .i64 1]) (.agg #[.int .i64 0, .int .i64 1])).run Tryz.prog W = .ok false W := by kernel_rfl
theorem end_11_10 : (Op.equal 366 (.agg #[.int .i64 1, .int .i64 1]) (.agg #[.int .i64 1, .int .i64 0])).run Tryz.prog W = .ok false W := by kernel_rfl
end
theorem under_end : ∃ d, Tryz.prog.underlying 366 = some d ∧ ∀ (k : Value) x l i, Instr.findNow d k (x :: l) i = none := by
  refine ⟨_, Tryz.underlying366, fun k x l i => ?_⟩
  rfl
theorem far_01 {W : World} {r : Nat} (h : FarMap W r) : (Instr.lookup 186 (.map (some r)) (.agg #[.int .i64 0, .int .i64 1]) true).run Tryz.prog W = .ok (.tuple #[.agg #[.int .i64 1, .int .i64 0, .int .i64 0], .bool true]) W := by
  obtain ⟨d, hd, hn⟩ := under_end
  rcases h with h | h
  · exact lookup_hit2 Tryz.underlying186 h (end_key W 0 1) (findKey_asks hd (hn _ _ _ _) (findAsking_yes (end_01_01 W)))
  · exact lookup_hit2 Tryz.underlying186 h (end_key W 0 1) (findKey_asks hd (hn _ _ _ _) (findAsking_no (end_01_10 W) (findAsking_yes (end_01_01 W))))
theorem far_10 {W : World} {r : Nat} (h : FarMap W r) : (Instr.lookup 186 (.map (some r)) (.agg #[.int .i64 1, .int .i64 0]) true).run Tryz.prog W = .ok (.tuple #[.agg #[.int .i64 0, .int .i64 1, .int .i64 0], .bool true]) W := by
  obtain ⟨d, hd, hn⟩ := under_end
  rcases h with h | h
  · exact lookup_hit2 Tryz.underlying186 h (end_key W 1 0) (findKey_asks hd (hn _ _ _ _) (findAsking_no (end_10_01 W) (findAsking_yes (end_10_10 W))))
  · exact lookup_hit2 Tryz.underlying186 h (end_key W 1 0) (findKey_asks hd (hn _ _ _ _) (findAsking_yes (end_10_10 W)))
/-- an end without a wire -/
theorem far_00 {W : World} {r : Nat} (h : FarMap W r) : (Instr.lookup 186 (.map (some r)) (.agg #[.int .i64 0, .int .i64 0]) true).run Tryz.prog W = .ok (.tuple #[.agg #[.int .i64 0, .int .i64 0, .int .i64 0], .bool false]) W := by
  obtain ⟨d, hd, hn⟩ := under_end
  rcases h with h | h
  · exact lookup_miss2 Tryz.underlying186 h (end_key W 0 0) (findKey_asks hd (hn _ _ _ _) (findAsking_no (end_00_01 W) (findAsking_no (end_00_10 W) findAsking_nil))) (Tryz.zeroValue369 W)
  · exact lookup_miss2 Tryz.underlying186 h (end_key W 0 0) (findKey_asks hd (hn _ _ _ _) (findAsking_no (end_00_10 W) (findAsking_no (end_00_01 W) findAsking_nil))) (Tryz.zeroValue369 W)
theorem far_11 {W : World} {r : Nat} (h : FarMap W r) : (Instr.lookup 186 (.map (some r)) (.agg #[.int .i64 1, .int .i64 1]) true).run Tryz.prog W = .ok (.tuple #[.agg #[.int .i64 0, .int .i64 0, .int .i64 0], .bool false]) W := by
  obtain ⟨d, hd, hn⟩ := under_end
  rcases h with h | h
  · exact lookup_miss2 Tryz.underlying186 h (end_key W 1 1) (findKey_asks hd (hn _ _ _ _) (findAsking_no (end_11_01 W) (findAsking_no (end_11_10 W) findAsking_nil))) (Tryz.zeroValue369 W)
  · exact lookup_miss2 Tryz.underlying186 h (end_key W 1 1) (findKey_asks hd (hn _ _ _ _) (findAsking_no (end_11_10 W) (findAsking_no (end_11_01 W) findAsking_nil))) (Tryz.zeroValue369 W)
/-- where a net's parts lie -/
structure Nts where
  n : Nat
  sb : Nat
  sc : Nat
  wires : Value
  ub : Nat
  uc : Nat
  fm : Nat
  b0 : Nat
  b1 : Nat
def Nts.all (N : Nts) : List Nat := [N.n, N.sb, N.ub, N.fm]
structure NetAt (W : World) (N : Nts) : Prop where
  cells : Bx W N.n [.slice (some ⟨N.sb, 0, none⟩) 2 N.sc, N.wires, .slice (some ⟨N.ub, 0, none⟩) 1 N.uc, .map (some N.fm)]
  sws : Bx W N.sb [.pointer (some ⟨N.b0, 0, none⟩), .pointer (some ⟨N.b1, 0, none⟩)]
  up : Bx W N.ub [.bool true]
  far : FarMap W N.fm
theorem NetAt.beside {S : List Nat} {W W' : World} {N : Nts} (h : NetAt W N) (g : Beside S W W') (hS : ∀ x, x ∈ N.all → x ∉ S) : NetAt W' N := by
  simp only [Nts.all, List.mem_cons, List.not_mem_nil, or_false] at hS
  exact ⟨h.cells.beside g (hS _ (by simp)), h.sws.beside g (hS _ (by simp)), h.up.beside g (hS _ (by simp)), h.far.beside g (hS _ (by simp))⟩
theorem NetAt.drew {W : World} {N : Nts} (h : NetAt W N) : NetAt W.drew N := ⟨h.cells, h.sws, h.up, h.far⟩
theorem NetAt.below {W W' : World} {N : Nts} (h : NetAt W N) (g : Below W.heap.size W W') : NetAt W' N := h.beside (S := []) (.of_below g) (fun _ _ => List.not_mem_nil)
set_option maxRecDepth 100000 in
set_option maxHeartbeats 2000000 in
/-- a frame at a port without a wire comes out -/
theorem turn_out {N : Nts} (k : Int) (bytes : ByteArray) (now : Int) (bx : Nat) (hk : k = 0 ∨ k = 1) (w : World) (h : NetAt w N) :
    Calls Tryz.prog 156 #[.pointer (some ⟨N.n, 0, none⟩), .agg #[.int .i64 k, .int .i64 k, .string bytes], .int .i64 now, .pointer (some ⟨bx, 0, none⟩)] w fun e w' => e = .returned (.tuple #[.bool true, .slice none 0 0]) ∧ Below w.heap.size w w' := by
  have h1 := Lib.hid (h.below (bbox1 w (.cells #[.int .i64 k, .int .i64 k, .string bytes] 81)))
  have hl : ∀ W, FarMap W N.fm → (Instr.lookup 186 (.map (some N.fm)) (.agg #[.int .i64 k, .int .i64 k]) true).run Tryz.prog W = .ok (.tuple #[.agg #[.int .i64 0, .int .i64 0, .int .i64 0], .bool false]) W := by
    rcases hk with rfl | rfl
    · exact fun W h => far_00 h
    · exact fun W h => far_11 h
  have HL := Lib.hid hl
  clear hk hl h
  go_enter Tryz.func156, Tryz.ntmps156
  go_upto_region 1 with fail
  have D1 := Bx.new w [.int .i64 k, .int .i64 k, .string bytes] 81
  have G1 := bbox1 w (.cells #[.int .i64 k, .int .i64 k, .string bytes] 81)
  obtain ⟨nb, hnb⟩ : ∃ n, w.heap.size = n := ⟨_, rfl⟩
  change Code.wp _ _ _ _ (w.alloc (.cells #[.int .i64 k, .int .i64 k, .string bytes] 81))
  generalize w.alloc (.cells #[.int .i64 k, .int .i64 k, .string bytes] 81) = w1 at h1 D1 G1 ⊢
  have s1 : w.heap.size < w1.heap.size := D1.1
  rw [hnb] at D1 ⊢
  have c0 := D1.get 0 _ rfl
  have c1 := D1.get 1 _ rfl
  have n3 := h1.out.cells.get 3 _ rfl
  have hl1 := HL.out w1.drew h1.out.far
  have hl2 := HL.out (w1.alloc (.cells #[.int .i64 0, .int .i64 0, .int .i64 0] 369)).drew (h1.out.far.below (bbox1 w1 (.cells #[.int .i64 0, .int .i64 0, .int .i64 0] 369)).drew)
  have k0 := (D1.alloc (.cells #[.int .i64 0, .int .i64 0, .int .i64 0] 369)).get 0 _ rfl
  have k1 := (D1.alloc (.cells #[.int .i64 0, .int .i64 0, .int .i64 0] 369)).get 1 _ rfl
  have m3 := (h1.out.cells.alloc (.cells #[.int .i64 0, .int .i64 0, .int .i64 0] 369)).get 3 _ rfl
  go_region
  all_goals
    go_wp2
    go_ret2
    exact ⟨rfl, (G1.trans ((bbox1 w1 _).mono (Nat.le_of_lt s1))).drew⟩
set_option maxRecDepth 100000 in
set_option maxHeartbeats 4000000 in
/-- a frame at a wire is taken at its other end -/
theorem turn_on {N : Nts} (s p t q : Nat) (hst : (s = 0 ∧ p = 1 ∧ t = 1 ∧ q = 0) ∨ (s = 1 ∧ p = 0 ∧ t = 0 ∧ q = 1)) (bytes : ByteArray) (now : Int) (bx : Nat) (left : Int) (h1 : 1 ≤ left) (h2 : left ≤ 2000) (w : World) (h : NetAt w N) (hb : Bx w bx [.int .i64 left]) (hbn : bx ∉ N.all)
    (S : List Nat) (hbS : bx ∉ S) (hNS : ∀ x, x ∈ N.all → x ∉ S) (hSl : ∀ x, x ∈ S → x < w.heap.size) (l : List (Nat × ByteArray)) (hl : l.length ≤ 100) (Po : World → Prop) (hP : ∀ W W', Po W → Below W.heap.size W W' → Po W')
    (hT : ∀ W, Beside [bx] w W → Calls Tryz.prog 10 #[.pointer (some ⟨if t = 0 then N.b0 else N.b1, 0, none⟩), .int .i64 q, .string bytes, .int .i64 now] W fun e w' => ∃ v, e = .returned v ∧ RowIn w' 0 v l.length (wcells l) ∧ Po w' ∧ Beside S W w') :
    Calls Tryz.prog 156 #[.pointer (some ⟨N.n, 0, none⟩), .agg #[.int .i64 s, .int .i64 p, .string bytes], .int .i64 now, .pointer (some ⟨bx, 0, none⟩)] w fun e w' =>
      ∃ v b, e = .returned (.tuple #[.bool false, v]) ∧ RowC w' v b (dvs t l) ∧ Po w' ∧ Bx w' bx [.int .i64 (left - 1)] ∧ Beside (bx :: S) w w' := by
  have H1 := Lib.hid (h.below (bbox1 w (.cells #[.int .i64 s, .int .i64 p, .string bytes] 81)))
  have hl : ∀ W, FarMap W N.fm → (Instr.lookup 186 (.map (some N.fm)) (.agg #[.int .i64 s, .int .i64 p]) true).run Tryz.prog W = .ok (.tuple #[.agg #[.int .i64 t, .int .i64 q, .int .i64 0], .bool true]) W := by
    rcases hst with ⟨rfl, rfl, rfl, rfl⟩ | ⟨rfl, rfl, rfl, rfl⟩
    · exact fun W h => far_01 h
    · exact fun W h => far_10 h
  have HL := Lib.hid hl
  have HB := Lib.hid hb
  clear hl h hb
  go_enter Tryz.func156, Tryz.ntmps156
  go_upto_region 1 with fail
  have D1 := Bx.new w [.int .i64 s, .int .i64 p, .string bytes] 81
  have G1 := bbox1 w (.cells #[.int .i64 s, .int .i64 p, .string bytes] 81)
  obtain ⟨nb, hnb⟩ : ∃ n, w.heap.size = n := ⟨_, rfl⟩
  change Code.wp _ _ _ _ (w.alloc (.cells #[.int .i64 s, .int .i64 p, .string bytes] 81))
  generalize w.alloc (.cells #[.int .i64 s, .int .i64 p, .string bytes] 81) = w1 at H1 D1 G1 ⊢
  have s1 : w.heap.size < w1.heap.size := D1.1
  rw [hnb] at D1 ⊢
  have c0 := D1.get 0 _ rfl
  have c1 := D1.get 1 _ rfl
  have n3 := H1.out.cells.get 3 _ rfl
  have hl1 := HL.out w1.drew H1.out.far
  have hl2 := HL.out (w1.alloc (.cells #[.int .i64 0, .int .i64 0, .int .i64 0] 369)).drew (H1.out.far.below (bbox1 w1 (.cells #[.int .i64 0, .int .i64 0, .int .i64 0] 369)).drew)
  have k0 := (D1.alloc (.cells #[.int .i64 0, .int .i64 0, .int .i64 0] 369)).get 0 _ rfl
  have k1 := (D1.alloc (.cells #[.int .i64 0, .int .i64 0, .int .i64 0] 369)).get 1 _ rfl
  have m3 := (H1.out.cells.alloc (.cells #[.int .i64 0, .int .i64 0, .int .i64 0] 369)).get 3 _ rfl
  obtain ⟨nf, hnf⟩ : ∃ n, w1.heap.size = n := ⟨_, rfl⟩
  go_cut [10, 11] (fun s10 s11 wx => s10 = .pointer (some ⟨nf, 0, none⟩) ∧ s11 = .bool true ∧ wx = (w1.alloc (.cells #[.int .i64 t, .int .i64 q, .int .i64 0] 369)).drew)
  case first =>
    go_region
    all_goals
      go_wp2
      go_meet
      exact ⟨rfl, rfl, rfl⟩
  case rest =>
    obtain ⟨rfl, rfl, hwc⟩ := hcut
    have F2 : Bx wc nf [.int .i64 t, .int .i64 q, .int .i64 0] := by rw [hwc, ← hnf]; exact Bx.new w1 [.int .i64 t, .int .i64 q, .int .i64 0] 369
    have G2 : Below w1.heap.size w1 wc := by rw [hwc]; exact (bbox1 w1 (.cells #[.int .i64 t, .int .i64 q, .int .i64 0] 369)).drew
    have NA := H1.out.below G2
    have DB := D1.below G2
    have BX := HB.out.below (G1.trans (G2.mono (Nat.le_of_lt s1)))
    have BS := Beside.of_below (S := [bx]) (G1.trans (G2.mono (Nat.le_of_lt s1)))
    have hnf1 : w.heap.size ≤ nf := by omega
    have hbx : bx < w.heap.size := HB.out.1
    clear hwc G2 c0 c1 n3 hl1 hl2 k0 k1 m3 H1 D1 G1 HL HB hnf s1
    have n2 := NA.cells.get 2 _ rfl
    have u0 := NA.up.get 0 _ rfl
    have f2 := F2.get 2 _ rfl
    have l0 := BX.get 0 _ rfl
    have lf := BX.fz
    have hz : (left == 0) = false := by simpa using (by omega : left ≠ 0)
    have hw1 : wrap64 (left - 1) = left - 1 := IntWalk.wrap64_in _ ⟨by omega, by omega⟩
    go_upto_region 4 with fail
    go_quiet (fail)
    go_upto_region 7 with fail
    have E6 : Beside [bx] w ((wc.drewN nq).setCell ⟨bx, 0, none⟩ (.int .i64 (left - 1))) := (BS.below (bdrew (Below.refl _ _) nq)).setCell (p := ⟨bx, 0, none⟩) (.inl (List.mem_singleton.2 rfl)) (.int .i64 (left - 1))
    have C6 : Beside [bx] wc ((wc.drewN nq).setCell ⟨bx, 0, none⟩ (.int .i64 (left - 1))) := ((Beside.refl [bx] wc).below (bdrew (Below.refl _ _) nq)).setCell (p := ⟨bx, 0, none⟩) (.inl (List.mem_singleton.2 rfl)) (.int .i64 (left - 1))
    have X6 : Bx ((wc.drewN nq).setCell ⟨bx, 0, none⟩ (.int .i64 (left - 1))) bx [.int .i64 (left - 1)] := (BX.drewN nq).set (i := 0) (x := .int .i64 (left - 1)) (by simp)
    have F6 := F2.beside C6 (fun e => by have := List.mem_singleton.1 e; omega)
    have D6 := DB.beside C6 (fun e => by have := List.mem_singleton.1 e; omega)
    have N6 := NA.beside C6 (fun x hx e => hbn (by rw [← List.mem_singleton.1 e]; exact hx))
    change Code.wp _ _ _ _ ((wc.drewN nq).setCell ⟨bx, 0, none⟩ (.int .i64 (left - 1)))
    generalize (wc.drewN nq).setCell ⟨bx, 0, none⟩ (.int .i64 (left - 1)) = w6 at E6 X6 F6 D6 N6 ⊢
    clear C6 NA DB F2 BX BS n2 u0 f2 l0 lf hz hw1
    have hsw : ∀ W, NetAt W N → W.cell? ⟨N.sb, t, none⟩ = some (.pointer (some ⟨if t = 0 then N.b0 else N.b1, 0, none⟩)) := by
      rcases hst with ⟨-, -, rfl, -⟩ | ⟨-, -, rfl, -⟩
      · exact fun W h => h.sws.get 1 _ rfl
      · exact fun W h => h.sws.get 0 _ rfl
    have ht2 : (t : Int) < 2 := by omega
    have hq2 : q ≤ 1 := by omega
    have HK := Lib.hid (fun (W : World) (h1 : Bx W nf [.int .i64 t, .int .i64 q, .int .i64 0]) (h2 : Bx W nb [.int .i64 s, .int .i64 p, .string bytes]) (h3 : NetAt W N) => (⟨h1.get 0 _ rfl, h1.get 1 _ rfl, h2.get 2 _ rfl, h3.cells.get 0 _ rfl, hsw W h3⟩ : W.cell? ⟨nf, 0, none⟩ = some (.int .i64 t) ∧ W.cell? ⟨nf, 1, none⟩ = some (.int .i64 q) ∧ W.cell? ⟨nb, 2, none⟩ = some (.string bytes) ∧ W.cell? ⟨N.n, 0, none⟩ = some (.slice (some ⟨N.sb, 0, none⟩) 2 N.sc) ∧ W.cell? ⟨N.sb, t, none⟩ = some (.pointer (some ⟨if t = 0 then N.b0 else N.b1, 0, none⟩))))
    obtain ⟨bf, hbf⟩ : ∃ bf, bf = if t = 0 then N.b0 else N.b1 := ⟨_, rfl⟩
    rw [← hbf] at HK hT
    have HT := Lib.hid (hT w6.drew (E6.drew))
    have HE := Lib.hid E6
    have HX := Lib.hid X6
    have HF := Lib.hid F6
    have HD := Lib.hid D6
    have HN := Lib.hid N6
    clear E6 X6 F6 D6 N6 hsw hT hbf
    go_region_held3 (fun w' => w'.cell? ⟨nf, 0, none⟩ = some (.int .i64 t) ∧ w'.cell? ⟨nf, 1, none⟩ = some (.int .i64 q) ∧ w'.cell? ⟨nb, 2, none⟩ = some (.string bytes) ∧ w'.cell? ⟨N.n, 0, none⟩ = some (.slice (some ⟨N.sb, 0, none⟩) 2 N.sc) ∧ w'.cell? ⟨N.sb, t, none⟩ = some (.pointer (some ⟨bf, 0, none⟩)))
      (first | exact HK.out _ HF.out HD.out HN.out.drew | exact HK.out _ HF7.out HD7.out HN7.out | exact HK.out _ HF8.out HD8.out HN8.out)
      (first
        | (go_at_call 10; (with_reducible refine HT.out.mono ?_); rintro e w7 ⟨v7, rfl, R7q, P7q, B7⟩; have HF7 := Lib.hid ((HF.out.drew).beside B7 (fun e => by have := hSl _ e; omega)); have HD7 := Lib.hid ((HD.out.drew).beside B7 (fun e => by have := hSl _ e; omega)); have HN7 := Lib.hid (HN.out.drew.beside B7 hNS); have HX7 := Lib.hid ((HX.out.drew).beside B7 hbS); have HE7 := Lib.hid ((HE.out.drew.mono (fun x hx => by rw [List.mem_singleton.1 hx]; exact List.mem_cons_self ..)).trans (B7.mono (fun x hx => List.mem_cons_of_mem bx hx))); have R7 := Lib.hid R7q; have P7 := Lib.hid P7q; obtain ⟨a7, c7, rfl, -⟩ := R7q.form; clear R7q P7q B7)
        | (go_at_call 84; (with_reducible refine (sent_any t l _ 0 (by omega) w7 R7.out).mono ?_); rintro e w8 ⟨v8, b8, rfl, R8q, hb8, g8⟩; have HF8 := Lib.hid (HF7.out.below g8); have HD8 := Lib.hid (HD7.out.below g8); have HN8 := Lib.hid (HN7.out.below g8); have HX8 := Lib.hid (HX7.out.below g8); have HE8 := Lib.hid (HE7.out.below g8); have R8 := Lib.hid R8q; have P8 := Lib.hid (hP _ _ P7.out g8); clear R8q g8))
    go_wp2
    go_ret2
    refine ⟨v8, b8, rfl, R8.out, P8.out, HX8.out, HE8.out⟩
end Go.Proofs.YticdmepplfgdiaaGreatDoor
end
section
namespace Go.Proofs.YticdmepplfgdiaaGreatDoor
open Go.RowKit
/-- a row is appended to a row of one's own -/
theorem push_more {ops : Array Oper} {rest : List Oper} {o : Oper} {a : Act} {w : World} {Q : Exit → Act → World → Prop} (hgd : o.guard = none) (s x : Operand)
    (ho : o.op = .call { callee := .builtin .append, args := #[s, x], argTypes := #[78, 78] }) (B : Nat) (v xv : Value) (c : Nat) (q m : List Dv) (hs : a.eval s = v) (hx : a.eval x = xv) (hown : w.ownsRow B 81 3 v q.length (dcells q)) (hxv : RowC w xv c m) (hq : q.length ≤ 1000) (hm : m.length ≤ 1000) (hb : B ≤ w.heap.size)
    (h : ∀ v' w', w'.ownsRow B 81 3 v' (q ++ m).length (dcells (q ++ m)) → Below B w w' → B ≤ w'.heap.size → wpList Tryz.prog ops Q rest (a.put o.dst v') w') : wpList Tryz.prog ops Q (o :: rest) a w := by
  rcases m with _ | ⟨d, m⟩
  · obtain ⟨b, hbr, -⟩ := own_rowC hown
    obtain ⟨ax, ox, cx, rfl, -, -⟩ := hxv
    refine push_none hgd s x ho v ax cx b q hs hx hbr (h v w (by rw [List.append_nil]; exact hown) (Below.refl _ _) hb)
  · obtain ⟨i0, hi, hz0, hz1, hz2⟩ := info_parts tinfo81
    obtain ⟨ax, ox, cx, rfl, hc, -⟩ := hxv
    have h0 : 0 < cx := by have := hc.le; simp at this; omega
    obtain rfl := hc.addr h0
    have hl := dcells_len (d :: m)
    refine wpList_append_own _ hgd s x 78 ho B 81 i0 _ 3 32 Tryz.underlying78 hi hz0 hz1 hz2 rfl (by decide) v _ _ hs hown ⟨c, ox, none⟩ (d :: m).length cx (dcells (d :: m)) hx hl ?_ (dcells_one _) ?_ ?_ hb ?_
    · intro j u hj
      have e : (⟨c, ox, none⟩ : Addr).add j = ⟨c, ox + j, none⟩ := by simp [Addr.add]
      rw [e]
      exact hc.olds j u hj
    · unfold maxLen; omega
    · omega
    · intro v' w' h1 h2 _
      exact h v' w' (by rw [List.length_append]; simpa [dcells] using h1) (grown_below hown h2 hb) (Nat.le_trans hb h2.size)
/-- the net's parts lie apart -/
structure Lies2 (N : Nts) (B0 B1 : Brs) : Prop where
  e0 : N.b0 = B0.b
  e1 : N.b1 = B1.b
  n0 : ∀ x, x ∈ N.all → x ∉ B0.muts
  n1 : ∀ x, x ∈ N.all → x ∉ B1.muts
  d01 : ∀ x, x ∈ B0.muts → x ∉ B1.all
  d10 : ∀ x, x ∈ B1.muts → x ∉ B0.all
/-- the net, and its switches' trees -/
structure NetS (N : Nts) (B0 B1 : Brs) (s : Tre × Tre) (W : World) : Prop where
  net : NetAt W N
  br0 : BrAt W B0 s.1 s.1.change
  br1 : BrAt W B1 s.2 s.2.change
theorem NetS.below {N : Nts} {B0 B1 : Brs} {s : Tre × Tre} {W W' : World} (h : NetS N B0 B1 s W) (g : Below W.heap.size W W') : NetS N B0 B1 s W' := ⟨h.net.below g, h.br0.below g, h.br1.below g⟩
theorem Brs.mut_all {B : Brs} : ∀ x, x ∈ B.muts → x ∈ B.all := fun x hx => List.mem_append_left _ hx
theorem NetS.in0 {N : Nts} {B0 B1 : Brs} {s : Tre × Tre} {T : Tre} {W W' : World} (hL : Lies2 N B0 B1) (h : NetS N B0 B1 s W) (g : Beside B0.muts W W') (hb : BrAt W' B0 T T.change) : NetS N B0 B1 (T, s.2) W' :=
  ⟨h.net.beside g hL.n0, hb, h.br1.beside g hL.d01⟩
theorem NetS.in1 {N : Nts} {B0 B1 : Brs} {s : Tre × Tre} {T : Tre} {W W' : World} (hL : Lies2 N B0 B1) (h : NetS N B0 B1 s W) (g : Beside B1.muts W W') (hb : BrAt W' B1 T T.change) : NetS N B0 B1 (s.1, T) W' :=
  ⟨h.net.beside g hL.n1, h.br0.beside g hL.d10, hb⟩
/-- a message of the tree has its turn -/
def trel (now : Int) (s : Tre × Tre) (d : Dv) (s' : Tre × Tre) (c : Bool) (m : List Dv) : Prop :=
  m = [] ∧ ((∃ (msg : Msg) (id : Nat), d = (0, 1, msg.wire id) ∧ msg.fits = true ∧ (s.2.prt 0).role ≠ 0 ∧ (s.2.prt 0).up = true ∧ s' = (s.1, s.2.heard 0 msg now) ∧ c = false) ∨
    (∃ (msg : Msg) (id : Nat), d = (1, 0, msg.wire id) ∧ msg.fits = true ∧ (s.1.prt 1).role ≠ 0 ∧ (s.1.prt 1).up = true ∧ s' = (s.1.heard 1 msg now, s.2) ∧ c = false) ∨
    ((d.1 = 0 ∧ d.2.1 = 0 ∨ d.1 = 1 ∧ d.2.1 = 1) ∧ s' = s ∧ c = true))
theorem tree_turns {N : Nts} {B0 B1 : Brs} {now : Int} {n0 : Nat} (hL : Lies2 N B0 B1) (hn0 : 1 ≤ now) (hn1 : now ≤ 1099511627776) (hlt : ∀ x, x ∈ N.all ++ B0.all ++ B1.all → x < n0) :
    Turns (trel now) N.n now (NetS N B0 B1) (B0.muts ++ B1.muts) n0 := by
  have l0 : ∀ x, x ∈ B0.muts → x < n0 := fun x hx => hlt x (List.mem_append_left _ (List.mem_append_right _ (Brs.mut_all x hx)))
  have l1 : ∀ x, x ∈ B1.muts → x < n0 := fun x hx => hlt x (List.mem_append_right _ (Brs.mut_all x hx))
  have ln : ∀ x, x ∈ N.all → x < n0 := fun x hx => hlt x (List.mem_append_left _ (List.mem_append_left _ hx))
  rintro s d s' c m ⟨rfl, hr⟩ W bx left hI hbx hb1 h1 h2
  have hb2 := hbx.1
  rcases hr with ⟨msg, id, rfl, hm, hro, hup, rfl, rfl⟩ | ⟨msg, id, rfl, hm, hro, hup, rfl, rfl⟩ | ⟨hd, rfl, rfl⟩
  · refine (turn_on (N := N) 0 1 1 0 (.inl ⟨rfl, rfl, rfl, rfl⟩) (msg.wire id) now bx left h1 h2 W hI.net hbx (fun e => by have := ln _ e; omega) B1.muts (fun e => by have := l1 _ e; omega) hL.n1 (fun x hx => by have := l1 x hx; omega) [] (by simp) (NetS N B0 B1 (s.1, s.2.heard 0 msg now)) (fun _ _ h g => h.below g) ?_).mono ?_
    · intro W1 g
      have hI1 := hI.br1.beside g (fun y hy e => by have := hlt y (List.mem_append_right _ e); rw [List.mem_singleton.1 hy] at this; omega)
      have hN1 : NetS N B0 B1 s W1 := ⟨hI.net.beside g (fun x hx e => by have := ln x hx; rw [List.mem_singleton.1 e] at this; omega), hI.br0.beside g (fun y hy e => by have := hlt y (List.mem_append_left _ (List.mem_append_right _ e)); rw [List.mem_singleton.1 hy] at this; omega), hI1⟩
      rw [if_neg (by decide), hL.e1]
      refine (brhear_any (k := 0) (by decide) hn0 hn1 hro hup hm W1 hI1).mono ?_
      rintro e w' ⟨rfl, hb, g2⟩
      exact ⟨_, rfl, .inl ⟨rfl, none, 0, rfl⟩, hN1.in1 hL g2 hb, g2⟩
    · rintro e w' ⟨v, b, rfl, hr, hp, hcc, hB⟩
      exact ⟨v, b, left - 1, rfl, hr, hp, hcc, by omega, by omega, hB.mono (fun x hx => by
        rcases List.mem_cons.1 hx with rfl | hx
        · exact List.mem_cons_self ..
        · exact List.mem_cons_of_mem _ (List.mem_append_right _ hx))⟩
  · refine (turn_on (N := N) 1 0 0 1 (.inr ⟨rfl, rfl, rfl, rfl⟩) (msg.wire id) now bx left h1 h2 W hI.net hbx (fun e => by have := ln _ e; omega) B0.muts (fun e => by have := l0 _ e; omega) hL.n0 (fun x hx => by have := l0 x hx; omega) [] (by simp) (NetS N B0 B1 (s.1.heard 1 msg now, s.2)) (fun _ _ h g => h.below g) ?_).mono ?_
    · intro W1 g
      have hI0 := hI.br0.beside g (fun y hy e => by have := hlt y (List.mem_append_left _ (List.mem_append_right _ e)); rw [List.mem_singleton.1 hy] at this; omega)
      have hN1 : NetS N B0 B1 s W1 := ⟨hI.net.beside g (fun x hx e => by have := ln x hx; rw [List.mem_singleton.1 e] at this; omega), hI0, hI.br1.beside g (fun y hy e => by have := hlt y (List.mem_append_right _ e); rw [List.mem_singleton.1 hy] at this; omega)⟩
      rw [if_pos rfl, hL.e0]
      refine (brhear_any (k := 1) (by decide) hn0 hn1 hro hup hm W1 hI0).mono ?_
      rintro e w' ⟨rfl, hb, g2⟩
      exact ⟨_, rfl, .inl ⟨rfl, none, 0, rfl⟩, hN1.in0 hL g2 hb, g2⟩
    · rintro e w' ⟨v, b, rfl, hr, hp, hcc, hB⟩
      exact ⟨v, b, left - 1, rfl, hr, hp, hcc, by omega, by omega, hB.mono (fun x hx => by
        rcases List.mem_cons.1 hx with rfl | hx
        · exact List.mem_cons_self ..
        · exact List.mem_cons_of_mem _ (List.mem_append_left _ hx))⟩
  · obtain ⟨d0, d1, db⟩ := d
    have key : d1 = d0 ∧ (d0 = 0 ∨ d0 = 1) := by simp at hd; omega
    obtain ⟨ek, hk⟩ := key
    subst ek
    refine (turn_out (N := N) _ db now bx (by omega) W hI.net).mono ?_
    rintro e w' ⟨rfl, g⟩
    refine ⟨.slice none 0 0, W.heap.size, left, rfl, ⟨none, 0, 0, rfl, ⟨Nat.le_refl _, fun h => absurd h (Nat.lt_irrefl _), fun h => absurd h (Nat.lt_irrefl _), rfl, fun j u hj => by simp [dcells] at hj, fun j hj => by simp at hj⟩, Nat.zero_le _⟩, hI.below g, hbx.below g, by omega, by omega, .of_below g⟩
end Go.Proofs.YticdmepplfgdiaaGreatDoor
end
section
namespace Go.Proofs.YticdmepplfgdiaaGreatDoor
open Go.RowKit
theorem NetS.under {N : Nts} {B0 B1 : Brs} {s : Tre × Tre} {n : Nat} {W W' : World} (h : NetS N B0 B1 s W) (_hL : Lies2 N B0 B1) (hlt : ∀ x, x ∈ N.all ++ B0.all ++ B1.all → x < n) (g : Below n W W') : NetS N B0 B1 s W' := by
  have hb : Beside (List.range' n W.heap.size) W W' := ⟨g.os, g.tape, g.output, g.size, fun k hk hs => g.block k (by simp [List.mem_range'_1] at hs; omega)⟩
  refine ⟨h.net.beside hb (fun x hx => ?_), h.br0.beside hb (fun x hx e => ?_), h.br1.beside hb (fun x hx e => ?_)⟩
  · have := hlt x (List.mem_append_left _ (List.mem_append_left _ hx)); simp [List.mem_range'_1]; omega
  · have := hlt x (List.mem_append_left _ (List.mem_append_right _ e)); simp [List.mem_range'_1] at hx; omega
  · have := hlt x (List.mem_append_right _ e); simp [List.mem_range'_1] at hx; omega
theorem Beside.over {S : List Nat} {a b c : World} (h : Beside S a b) (k : Below a.heap.size b c) : Beside S a c :=
  ⟨k.os.trans h.os, k.tape.trans h.tape, k.output.trans h.output, Nat.le_trans h.size k.size, fun i hi hs => (k.block i hi).trans (h.block i hi hs)⟩
def tellRow (B0 B1 : Brs) (U0 U1 : Tre) (now : Int) : Nat → List Dv
  | 0 => []
  | 1 => dvs 0 (outB B0.id (U0.outs now))
  | _ => dvs 0 (outB B0.id (U0.outs now)) ++ dvs 1 (outB B1.id (U1.outs now))
theorem dvs_len (s : Nat) (l : List (Nat × ByteArray)) : (dvs s l).length = l.length := List.length_map ..
theorem outs_le (U : Tre) (now : Int) : (U.outs now).length ≤ 2 := by
  unfold Tre.outs
  split
  · simp
  · exact outsAt_le U 2
theorem outB_len (id : Nat) (l : List (Nat × Msg)) : (outB id l).length = l.length := List.length_map ..
theorem sent_0 (l : List (Nat × ByteArray)) (v : Value) (lo : Nat) (hl : l.length ≤ 1000) (w : World) (hv : RowIn w lo v l.length (wcells l)) :
    Calls Tryz.prog 84 #[.int .i64 0, v] w fun e w' => ∃ v' b, e = .returned v' ∧ RowC w' v' b (dvs 0 l) ∧ (b < w'.heap.size → w.heap.size ≤ b) ∧ Below w.heap.size w w' := sent_any 0 l v lo hl w hv
theorem sent_1 (l : List (Nat × ByteArray)) (v : Value) (lo : Nat) (hl : l.length ≤ 1000) (w : World) (hv : RowIn w lo v l.length (wcells l)) :
    Calls Tryz.prog 84 #[.int .i64 1, v] w fun e w' => ∃ v' b, e = .returned v' ∧ RowC w' v' b (dvs 1 l) ∧ (b < w'.heap.size → w.heap.size ≤ b) ∧ Below w.heap.size w w' := sent_any 1 l v lo hl w hv
set_option maxRecDepth 100000 in
set_option maxHeartbeats 8000000 in
theorem nettick_any {N : Nts} {B0 B1 : Brs} {T0 T1 : Tre} {now : Int} (hL : Lies2 N B0 B1) (h0 : 1 ≤ now) (h1 : now ≤ 1099511627776) (w : World) (hlt : ∀ x, x ∈ N.all ++ B0.all ++ B1.all → x < w.heap.size) (hf0 : ∀ x, x ∈ (T0.ticked now).outs now → x.2.fits = true) (hf1 : ∀ x, x ∈ (T1.ticked now).outs now → x.2.fits = true)
    (h : NetS N B0 B1 (T0, T1) w) {sE : Tre × Tre} {o : List Dv} {k : Nat} (hr : Runs (trel now) (T0.ticked now, T1.ticked now) (tellRow B0 B1 (T0.ticked now) (T1.ticked now) now 2) [] sE o k) (hk : k ≤ 1000) :
    Calls Tryz.prog 79 #[.pointer (some ⟨N.n, 0, none⟩), .int .i64 now] w fun e w' => (∃ v, e = .returned v) ∧ NetS N B0 B1 sE w' ∧ Beside (B0.muts ++ B1.muts) w w' := by
  have HB0 := Lib.hid (fun (W : World) (hW : BrAt W B0 T0 T0.change) => brtick_any h0 h1 hf0 W hW)
  have HB1 := Lib.hid (fun (W : World) (hW : BrAt W B1 T1 T1.change) => brtick_any h0 h1 hf1 W hW)
  have HTv := Lib.hid (fun (W : World) (v : Value) (b : Nat) (hv : RowC W v b (tellRow B0 B1 (T0.ticked now) (T1.ticked now) now 2)) (hb : 0 < capOf v → w.heap.size ≤ b) (hn : w.heap.size ≤ W.heap.size) (hI : NetS N B0 B1 (T0.ticked now, T1.ticked now) W) => travel_any (tree_turns hL h0 h1 hlt) (fun s W W' (hI : NetS N B0 B1 s W) g => hI.under hL hlt g) (fun x hx => hlt x (by
      rcases List.mem_append.1 hx with hx | hx
      · exact List.mem_append_left _ (List.mem_append_right _ (Brs.mut_all x hx))
      · exact List.mem_append_right _ (Brs.mut_all x hx))) hr hk W v hv hb hn hI)
  have hlen0 := outs_le (T0.ticked now) now
  have hlen1 := outs_le (T1.ticked now) now
  clear hr
  generalize T0.ticked now = U0 at HB0 HTv hlen0 hf0
  generalize T1.ticked now = U1 at HB1 HTv hlen1 hf1
  have n0 := h.net.cells.get 0 _ rfl
  have H := Lib.hid h
  clear h hf0 hf1
  go_enter Tryz.func79, Tryz.ntmps79
  go_upto_region 5 with fail
  clear n0
  go_loopw [5, 6, 7, 15] (fun l _ _ i wr => ∃ k : Nat, k ≤ 2 ∧ i = .int .i64 k ∧ wr.ownsRow w.heap.size 81 3 l (tellRow B0 B1 U0 U1 now k).length (dcells (tellRow B0 B1 U0 U1 now k)) ∧ NetS N B0 B1 (if k = 0 then T0 else U0, if k ≤ 1 then T1 else U1) wr ∧ Beside (B0.muts ++ B1.muts) w wr) (fun _ _ _ i _ => 3 - (intOf i).toNat)
  case atStart => exact ⟨0, Nat.zero_le _, rfl, World.ownsRow_nil _ _ _ _, H.out, Beside.refl _ _⟩
  case round =>
    obtain ⟨k, hk, rfl, own, hN, bes⟩ := hrel
    have hws : w.heap.size ≤ wr.heap.size := bes.size
    have HOw := Lib.hid own
    have HN := Lib.hid hN
    have HBe := Lib.hid bes
    have n0 := hN.net.cells.get 0 _ rfl
    clear own hN bes
    rcases (by omega : k = 0 ∨ k = 1 ∨ k = 2) with rfl | rfl | rfl
    · have s0 := HN.out.net.sws.get 0 _ rfl
      rw [hL.e0] at s0
      have HT := Lib.hid (HB0.out wr HN.out.br0)
      go_wp2_with (first
        | (go_at_call 11; (with_reducible refine HT.out.mono ?_); rintro e w1 ⟨v1, rfl, R1q, A1q, E1q⟩; have R1 := Lib.hid (show RowIn w1 wr.heap.size v1 (outB B0.id (U0.outs now)).length (wcells (outB B0.id (U0.outs now))) by rw [outB_len]; exact R1q); have N1 := Lib.hid (HN.out.in0 hL E1q A1q); have O1 := Lib.hid (own_beside HOw.out E1q (fun x hx => hlt x (List.mem_append_left _ (List.mem_append_right _ (Brs.mut_all x hx))))); have E1 := Lib.hid (HBe.out.trans (E1q.mono (fun x hx => List.mem_append_left _ hx))); obtain ⟨a1, c1, rfl, -⟩ := R1q.form; have sz1 := E1q.size; clear R1q A1q E1q)
        | (go_at_call 84; (with_reducible refine (sent_0 (outB B0.id (U0.outs now)) _ wr.heap.size (by rw [outB_len]; omega) w1 R1.out).mono ?_); rintro e w2 ⟨v2, b2, rfl, R2q, hb2, g2⟩; have R2 := Lib.hid R2q; have N2 := Lib.hid (N1.out.below g2); have O2 := Lib.hid (own_below O1.out g2); have E2 := Lib.hid (E1.out.below g2); have sz2 := g2.size; clear R2q g2)
        | (at_builtin; refine push_more rfl _ _ rfl w.heap.size u5 v2 b2 [] _ rfl rfl O2.out R2.out (by simp) (by rw [dvs_len, outB_len]; omega) (by omega) ?_; intro v3 w3 O3q g3 hs3; have O3 := Lib.hid O3q; have N3 := Lib.hid (N2.out.under hL hlt g3); have E3 := Lib.hid (E2.out.over g3); clear O3q g3))
      refine ⟨⟨1, by omega, by go_num, O3.out, N3.out, E3.out⟩, ?_⟩
      simp [intOf]
    · have s0 := HN.out.net.sws.get 1 _ rfl
      rw [hL.e1] at s0
      have HT := Lib.hid (HB1.out wr HN.out.br1)
      go_wp2_with (first
        | (go_at_call 11; (with_reducible refine HT.out.mono ?_); rintro e w1 ⟨v1, rfl, R1q, A1q, E1q⟩; have R1 := Lib.hid (show RowIn w1 wr.heap.size v1 (outB B1.id (U1.outs now)).length (wcells (outB B1.id (U1.outs now))) by rw [outB_len]; exact R1q); have N1 := Lib.hid (HN.out.in1 hL E1q A1q); have O1 := Lib.hid (own_beside HOw.out E1q (fun x hx => hlt x (List.mem_append_right _ (Brs.mut_all x hx)))); have E1 := Lib.hid (HBe.out.trans (E1q.mono (fun x hx => List.mem_append_right _ hx))); obtain ⟨a1, c1, rfl, -⟩ := R1q.form; have sz1 := E1q.size; clear R1q A1q E1q)
        | (go_at_call 84; (with_reducible refine (sent_1 (outB B1.id (U1.outs now)) _ wr.heap.size (by rw [outB_len]; omega) w1 R1.out).mono ?_); rintro e w2 ⟨v2, b2, rfl, R2q, hb2, g2⟩; have R2 := Lib.hid R2q; have N2 := Lib.hid (N1.out.below g2); have O2 := Lib.hid (own_below O1.out g2); have E2 := Lib.hid (E1.out.below g2); have sz2 := g2.size; clear R2q g2)
        | (at_builtin; refine push_more rfl _ _ rfl w.heap.size u5 v2 b2 (dvs 0 (outB B0.id (U0.outs now))) _ rfl rfl O2.out R2.out (by rw [dvs_len, outB_len]; omega) (by rw [dvs_len, outB_len]; omega) (by omega) ?_; intro v3 w3 O3q g3 hs3; have O3 := Lib.hid O3q; have N3 := Lib.hid (N2.out.under hL hlt g3); have E3 := Lib.hid (E2.out.over g3); clear O3q g3))
      refine ⟨⟨2, by omega, by go_num, O3.out, N3.out, E3.out⟩, ?_⟩
      simp [intOf]
    · obtain ⟨b, hb, hbl⟩ := own_rowC HOw.out
      have HT := Lib.hid (HTv.out wr _ b hb (fun hc => hbl (hb.lt hc)) hws HN.out)
      go_wp2_with (go_at_call 83; (with_reducible refine HT.out.mono ?_); rintro e w4 ⟨v4, rfl, -, N4q, E4q⟩; have N4 := Lib.hid N4q; have E4 := Lib.hid E4q; clear N4q E4q)
      go_ret
      refine ⟨⟨_, rfl⟩, N4.out, ?_⟩
      have e1 := HBe.out
      have e2 := E4.out
      refine ⟨e2.os.trans e1.os, e2.tape.trans e1.tape, e2.output.trans e1.output, Nat.le_trans e1.size e2.size, fun j hj hs => (e2.block j (by omega) (fun e => ?_)).trans (e1.block j hj hs)⟩
      rcases List.mem_cons.1 e with e | e
      · have := hbl (by rw [← e]; omega); omega
      · exact hs e
end Go.Proofs.YticdmepplfgdiaaGreatDoor
end
section
namespace Go.Proofs.YticdmepplfgdiaaGreatDoor
open Go.RowKit
abbrev Told := Nat × Nat × Msg
def stepD (now : Int) (s : Tre × Tre) (d : Told) : Tre × Tre :=
  if d.1 = 0 then (if d.2.1 = 1 then (s.1, s.2.heard 0 d.2.2 now) else s) else (if d.2.1 = 0 then (s.1.heard 1 d.2.2 now, s.2) else s)
def okD (s : Tre × Tre) (d : Told) : Bool :=
  if d.1 = 0 then (if d.2.1 = 1 then d.2.2.fits && ((s.2.prt 0).role != 0) && (s.2.prt 0).up else d.2.1 == 0) else d.1 == 1 && (if d.2.1 = 0 then d.2.2.fits && ((s.1.prt 1).role != 0) && (s.1.prt 1).up else d.2.1 == 1)
def okRow (now : Int) : Tre × Tre → List Told → Bool
  | _, [] => true
  | s, d :: r => okD s d && okRow now (stepD now s d) r
def toldDv (id0 id1 : Nat) (d : Told) : Dv := (d.1, d.2.1, d.2.2.wire (if d.1 = 0 then id0 else id1))
def toldRow (U0 U1 : Tre) (now : Int) : List Told := (U0.outs now).map (fun x => (0, x.1, x.2)) ++ (U1.outs now).map (fun x => (1, x.1, x.2))
theorem told_is (B0 B1 : Brs) (U0 U1 : Tre) (now : Int) : tellRow B0 B1 U0 U1 now 2 = (toldRow U0 U1 now).map (toldDv B0.id B1.id) := by
  simp [tellRow, toldRow, dvs, outB, List.map_map, Function.comp_def, toldDv]
theorem okD_rel (now : Int) (id0 id1 : Nat) (s : Tre × Tre) (d : Told) (h : okD s d = true) : ∃ c, trel now s (toldDv id0 id1 d) (stepD now s d) c [] := by
  obtain ⟨a, p, m⟩ := d
  unfold okD at h
  dsimp only at h
  by_cases ha : a = 0
  · subst ha
    rw [if_pos rfl] at h
    by_cases hp : p = 1
    · subst hp
      rw [if_pos rfl, Bool.and_eq_true, Bool.and_eq_true] at h
      exact ⟨false, rfl, .inl ⟨m, id0, rfl, h.1.1, by simpa using h.1.2, h.2, rfl, rfl⟩⟩
    · rw [if_neg hp] at h
      have hp0 : p = 0 := by simpa using h
      subst hp0
      exact ⟨true, rfl, .inr (.inr ⟨.inl ⟨rfl, rfl⟩, rfl, rfl⟩)⟩
  · rw [if_neg ha, Bool.and_eq_true] at h
    have ha1 : a = 1 := by simpa using h.1
    subst ha1
    have h := h.2
    by_cases hp : p = 0
    · subst hp
      rw [if_pos rfl, Bool.and_eq_true, Bool.and_eq_true] at h
      exact ⟨false, rfl, .inr (.inl ⟨m, id1, rfl, h.1.1, by simpa using h.1.2, h.2, rfl, rfl⟩)⟩
    · rw [if_neg hp] at h
      have hp0 : p = 1 := by simpa using h
      subst hp0
      exact ⟨true, rfl, .inr (.inr ⟨.inr ⟨rfl, rfl⟩, rfl, rfl⟩)⟩
theorem row_runs (now : Int) (id0 id1 : Nat) : ∀ (r : List Told) (s : Tre × Tre) (done : List Dv), okRow now s r = true → ∃ o, Runs (trel now) s (r.map (toldDv id0 id1)) done (r.foldl (stepD now) s) o r.length
  | [], s, done, _ => ⟨done, .nil s done⟩
  | d :: r, s, done, h => by
    unfold okRow at h
    rw [Bool.and_eq_true] at h
    obtain ⟨c, hc⟩ := okD_rel now id0 id1 s d h.1
    obtain ⟨o, ho⟩ := row_runs now id0 id1 r (stepD now s d) (done ++ if c then [toldDv id0 id1 d] else []) h.2
    exact ⟨o, .quiet hc ho⟩
/-- a tick -/
def tick2 (now : Int) (s : Tre × Tre) : Tre × Tre := (toldRow (s.1.ticked now) (s.2.ticked now) now).foldl (stepD now) (s.1.ticked now, s.2.ticked now)
def ok2 (now : Int) (s : Tre × Tre) : Bool := ((s.1.ticked now).outs now).all (fun x => x.2.fits) && ((s.2.ticked now).outs now).all (fun x => x.2.fits) && okRow now (s.1.ticked now, s.2.ticked now) (toldRow (s.1.ticked now) (s.2.ticked now) now)
theorem nettick_two {N : Nts} {B0 B1 : Brs} {s : Tre × Tre} {now : Int} (hL : Lies2 N B0 B1) (h0 : 1 ≤ now) (h1 : now ≤ 1099511627776) (w : World) (hlt : ∀ x, x ∈ N.all ++ B0.all ++ B1.all → x < w.heap.size) (hok : ok2 now s = true) (h : NetS N B0 B1 s w) :
    Calls Tryz.prog 79 #[.pointer (some ⟨N.n, 0, none⟩), .int .i64 now] w fun e w' => (∃ v, e = .returned v) ∧ NetS N B0 B1 (tick2 now s) w' ∧ Beside (B0.muts ++ B1.muts) w w' := by
  unfold ok2 at hok
  rw [Bool.and_eq_true, Bool.and_eq_true, List.all_eq_true, List.all_eq_true] at hok
  obtain ⟨o, ho⟩ := row_runs now B0.id B1.id _ _ [] hok.2
  refine nettick_any hL h0 h1 w hlt hok.1.1 hok.1.2 h (by rw [told_is]; exact ho) ?_
  have l0 := outs_le (s.1.ticked now) now
  have l1 := outs_le (s.2.ticked now) now
  unfold toldRow
  rw [List.length_append, List.length_map, List.length_map]
  omega
def beginT (id : Int) : Tre := ((freshT id).linked 0 true 1).linked 1 true 1
def s1 : Tre × Tre := tick2 1 (beginT 1, beginT 2)
end Go.Proofs.YticdmepplfgdiaaGreatDoor
end
section
namespace Go.Proofs.YticdmepplfgdiaaGreatDoor
open Go.RowKit
abbrev oN : Bool := true
abbrev oF : Bool := false
def sts : List (Tre × Tre) := [
  (⟨1, ⟨10, 2, 1, oN, oF, oF, ⟨0, 0, 0, 0⟩, 0, oF, oF, oF, 0⟩, ⟨10, 2, 1, oN, oF, oF, ⟨0, 0, 0, 0⟩, 0, oF, oF, oF, 0⟩, 1, (-1), (-1), ⟨1, 0, 1, 0⟩⟩, ⟨2, ⟨10, 2, 1, oN, oF, oF, ⟨0, 0, 0, 0⟩, 0, oF, oF, oF, 0⟩, ⟨10, 2, 1, oN, oF, oF, ⟨0, 0, 0, 0⟩, 0, oF, oF, oF, 0⟩, 1, (-1), (-1), ⟨2, 0, 2, 0⟩⟩),
  (⟨1, ⟨10, 2, 1, oN, oF, oF, ⟨0, 0, 0, 0⟩, 0, oF, oF, oF, 0⟩, ⟨10, 2, 1, oN, oF, oF, ⟨0, 0, 0, 0⟩, 0, oF, oF, oF, 0⟩, 1, (-1), (-1), ⟨1, 0, 1, 0⟩⟩, ⟨2, ⟨10, 2, 1, oN, oF, oF, ⟨0, 0, 0, 0⟩, 0, oF, oF, oF, 0⟩, ⟨10, 2, 1, oN, oF, oF, ⟨0, 0, 0, 0⟩, 0, oF, oF, oF, 0⟩, 1, (-1), (-1), ⟨2, 0, 2, 0⟩⟩),
  (⟨1, ⟨10, 2, 1, oN, oF, oF, ⟨0, 0, 0, 0⟩, 0, oF, oF, oF, 0⟩, ⟨10, 2, 1, oN, oN, oF, ⟨2, 0, 2, 0⟩, 0, oF, oF, oF, 2⟩, 2, (-1), (-1), ⟨1, 0, 1, 0⟩⟩, ⟨2, ⟨10, 1, 1, oN, oN, oF, ⟨1, 0, 1, 1⟩, 0, oF, oF, oF, 2⟩, ⟨10, 2, 1, oN, oF, oF, ⟨0, 0, 0, 0⟩, 0, oF, oF, oF, 0⟩, 2, 0, (-1), ⟨1, 10, 1, 1⟩⟩),
  (⟨1, ⟨10, 2, 1, oN, oF, oF, ⟨0, 0, 0, 0⟩, 0, oF, oF, oF, 0⟩, ⟨10, 2, 1, oN, oN, oF, ⟨2, 0, 2, 0⟩, 0, oF, oF, oF, 2⟩, 3, (-1), (-1), ⟨1, 0, 1, 0⟩⟩, ⟨2, ⟨10, 1, 1, oN, oN, oF, ⟨1, 0, 1, 1⟩, 0, oF, oF, oF, 2⟩, ⟨10, 2, 1, oN, oF, oF, ⟨0, 0, 0, 0⟩, 0, oF, oF, oF, 0⟩, 3, 0, (-1), ⟨1, 10, 1, 1⟩⟩),
  (⟨1, ⟨10, 2, 1, oN, oF, oF, ⟨0, 0, 0, 0⟩, 0, oF, oF, oF, 0⟩, ⟨10, 2, 1, oN, oN, oF, ⟨2, 0, 2, 0⟩, 0, oF, oF, oF, 2⟩, 4, (-1), (-1), ⟨1, 0, 1, 0⟩⟩, ⟨2, ⟨10, 1, 1, oN, oN, oF, ⟨1, 0, 1, 1⟩, 0, oF, oF, oF, 4⟩, ⟨10, 2, 1, oN, oF, oF, ⟨0, 0, 0, 0⟩, 0, oF, oF, oF, 0⟩, 4, 0, (-1), ⟨1, 10, 1, 1⟩⟩),
  (⟨1, ⟨10, 2, 1, oN, oF, oF, ⟨0, 0, 0, 0⟩, 0, oF, oF, oF, 0⟩, ⟨10, 2, 1, oN, oN, oF, ⟨2, 0, 2, 0⟩, 0, oF, oF, oF, 2⟩, 5, (-1), (-1), ⟨1, 0, 1, 0⟩⟩, ⟨2, ⟨10, 1, 1, oN, oN, oF, ⟨1, 0, 1, 1⟩, 0, oF, oF, oF, 4⟩, ⟨10, 2, 1, oN, oF, oF, ⟨0, 0, 0, 0⟩, 0, oF, oF, oF, 0⟩, 5, 0, (-1), ⟨1, 10, 1, 1⟩⟩),
  (⟨1, ⟨10, 2, 1, oN, oF, oF, ⟨0, 0, 0, 0⟩, 0, oF, oF, oF, 0⟩, ⟨10, 2, 1, oN, oN, oF, ⟨2, 0, 2, 0⟩, 0, oF, oF, oF, 2⟩, 6, (-1), (-1), ⟨1, 0, 1, 0⟩⟩, ⟨2, ⟨10, 1, 1, oN, oN, oF, ⟨1, 0, 1, 1⟩, 0, oF, oF, oF, 6⟩, ⟨10, 2, 1, oN, oF, oF, ⟨0, 0, 0, 0⟩, 0, oF, oF, oF, 0⟩, 6, 0, (-1), ⟨1, 10, 1, 1⟩⟩),
  (⟨1, ⟨10, 2, 1, oN, oF, oF, ⟨0, 0, 0, 0⟩, 0, oF, oF, oF, 0⟩, ⟨10, 2, 1, oN, oN, oF, ⟨2, 0, 2, 0⟩, 0, oF, oF, oF, 2⟩, 7, (-1), (-1), ⟨1, 0, 1, 0⟩⟩, ⟨2, ⟨10, 1, 1, oN, oN, oF, ⟨1, 0, 1, 1⟩, 0, oF, oF, oF, 6⟩, ⟨10, 2, 1, oN, oF, oF, ⟨0, 0, 0, 0⟩, 0, oF, oF, oF, 0⟩, 7, 0, (-1), ⟨1, 10, 1, 1⟩⟩),
  (⟨1, ⟨10, 2, 1, oN, oF, oF, ⟨0, 0, 0, 0⟩, 0, oF, oF, oF, 0⟩, ⟨10, 2, 1, oN, oF, oF, ⟨2, 0, 2, 0⟩, 0, oF, oF, oF, 2⟩, 8, (-1), (-1), ⟨1, 0, 1, 0⟩⟩, ⟨2, ⟨10, 1, 1, oN, oN, oF, ⟨1, 0, 1, 1⟩, 0, oF, oF, oF, 8⟩, ⟨10, 2, 1, oN, oF, oF, ⟨0, 0, 0, 0⟩, 0, oF, oF, oF, 0⟩, 8, 0, (-1), ⟨1, 10, 1, 1⟩⟩),
  (⟨1, ⟨10, 2, 1, oN, oF, oF, ⟨0, 0, 0, 0⟩, 0, oF, oF, oF, 0⟩, ⟨10, 2, 1, oN, oF, oF, ⟨2, 0, 2, 0⟩, 0, oF, oF, oF, 2⟩, 9, (-1), (-1), ⟨1, 0, 1, 0⟩⟩, ⟨2, ⟨10, 1, 1, oN, oN, oF, ⟨1, 0, 1, 1⟩, 0, oF, oF, oF, 8⟩, ⟨10, 2, 1, oN, oF, oF, ⟨0, 0, 0, 0⟩, 0, oF, oF, oF, 0⟩, 9, 0, (-1), ⟨1, 10, 1, 1⟩⟩),
  (⟨1, ⟨10, 2, 1, oN, oF, oF, ⟨0, 0, 0, 0⟩, 0, oF, oF, oF, 0⟩, ⟨10, 2, 1, oN, oF, oF, ⟨2, 0, 2, 0⟩, 0, oF, oF, oF, 2⟩, 10, (-1), (-1), ⟨1, 0, 1, 0⟩⟩, ⟨2, ⟨10, 1, 1, oN, oN, oF, ⟨1, 0, 1, 1⟩, 0, oF, oF, oF, 10⟩, ⟨10, 2, 1, oN, oF, oF, ⟨0, 0, 0, 0⟩, 0, oF, oF, oF, 0⟩, 10, 0, (-1), ⟨1, 10, 1, 1⟩⟩),
  (⟨1, ⟨10, 2, 1, oN, oF, oF, ⟨0, 0, 0, 0⟩, 0, oF, oF, oF, 0⟩, ⟨10, 2, 1, oN, oF, oF, ⟨2, 0, 2, 0⟩, 0, oF, oF, oF, 2⟩, 11, (-1), (-1), ⟨1, 0, 1, 0⟩⟩, ⟨2, ⟨10, 1, 1, oN, oN, oF, ⟨1, 0, 1, 1⟩, 0, oF, oF, oF, 10⟩, ⟨10, 2, 1, oN, oF, oF, ⟨0, 0, 0, 0⟩, 0, oF, oF, oF, 0⟩, 11, 0, (-1), ⟨1, 10, 1, 1⟩⟩),
  (⟨1, ⟨10, 2, 1, oN, oF, oF, ⟨0, 0, 0, 0⟩, 0, oF, oF, oF, 0⟩, ⟨10, 2, 1, oN, oF, oF, ⟨2, 0, 2, 0⟩, 0, oF, oF, oF, 2⟩, 12, (-1), (-1), ⟨1, 0, 1, 0⟩⟩, ⟨2, ⟨10, 1, 1, oN, oN, oF, ⟨1, 0, 1, 1⟩, 0, oF, oF, oF, 12⟩, ⟨10, 2, 1, oN, oF, oF, ⟨0, 0, 0, 0⟩, 0, oF, oF, oF, 0⟩, 12, 0, (-1), ⟨1, 10, 1, 1⟩⟩),
  (⟨1, ⟨10, 2, 1, oN, oF, oF, ⟨0, 0, 0, 0⟩, 0, oF, oF, oF, 0⟩, ⟨10, 2, 1, oN, oF, oF, ⟨2, 0, 2, 0⟩, 0, oF, oF, oF, 2⟩, 13, (-1), (-1), ⟨1, 0, 1, 0⟩⟩, ⟨2, ⟨10, 1, 1, oN, oN, oF, ⟨1, 0, 1, 1⟩, 0, oF, oF, oF, 12⟩, ⟨10, 2, 1, oN, oF, oF, ⟨0, 0, 0, 0⟩, 0, oF, oF, oF, 0⟩, 13, 0, (-1), ⟨1, 10, 1, 1⟩⟩),
  (⟨1, ⟨10, 2, 1, oN, oF, oF, ⟨0, 0, 0, 0⟩, 0, oF, oF, oF, 0⟩, ⟨10, 2, 1, oN, oF, oF, ⟨2, 0, 2, 0⟩, 0, oF, oF, oF, 2⟩, 14, (-1), (-1), ⟨1, 0, 1, 0⟩⟩, ⟨2, ⟨10, 1, 1, oN, oN, oF, ⟨1, 0, 1, 1⟩, 0, oF, oF, oF, 14⟩, ⟨10, 2, 1, oN, oF, oF, ⟨0, 0, 0, 0⟩, 0, oF, oF, oF, 0⟩, 14, 0, (-1), ⟨1, 10, 1, 1⟩⟩),
  (⟨1, ⟨10, 2, 1, oN, oF, oF, ⟨0, 0, 0, 0⟩, 0, oF, oF, oF, 0⟩, ⟨10, 2, 1, oN, oF, oF, ⟨2, 0, 2, 0⟩, 0, oF, oF, oF, 2⟩, 15, (-1), (-1), ⟨1, 0, 1, 0⟩⟩, ⟨2, ⟨10, 1, 1, oN, oN, oF, ⟨1, 0, 1, 1⟩, 0, oF, oF, oF, 14⟩, ⟨10, 2, 1, oN, oF, oF, ⟨0, 0, 0, 0⟩, 0, oF, oF, oF, 0⟩, 15, 0, (-1), ⟨1, 10, 1, 1⟩⟩),
  (⟨1, ⟨10, 2, 1, oN, oF, oF, ⟨0, 0, 0, 0⟩, 0, oF, oF, oF, 0⟩, ⟨10, 2, 1, oN, oF, oF, ⟨2, 0, 2, 0⟩, 0, oF, oF, oF, 2⟩, 16, (-1), (-1), ⟨1, 0, 1, 0⟩⟩, ⟨2, ⟨10, 1, 1, oN, oN, oF, ⟨1, 0, 1, 1⟩, 0, oF, oN, oF, 16⟩, ⟨10, 2, 1, oN, oF, oF, ⟨0, 0, 0, 0⟩, 0, oF, oF, oF, 0⟩, 16, 0, (-1), ⟨1, 10, 1, 1⟩⟩),
  (⟨1, ⟨10, 2, 1, oN, oF, oF, ⟨0, 0, 0, 0⟩, 0, oF, oF, oF, 0⟩, ⟨10, 2, 1, oN, oF, oF, ⟨2, 0, 2, 0⟩, 0, oF, oF, oF, 2⟩, 17, (-1), (-1), ⟨1, 0, 1, 0⟩⟩, ⟨2, ⟨10, 1, 1, oN, oN, oF, ⟨1, 0, 1, 1⟩, 0, oF, oN, oF, 16⟩, ⟨10, 2, 1, oN, oF, oF, ⟨0, 0, 0, 0⟩, 0, oF, oF, oF, 0⟩, 17, 0, (-1), ⟨1, 10, 1, 1⟩⟩),
  (⟨1, ⟨10, 2, 1, oN, oF, oF, ⟨0, 0, 0, 0⟩, 0, oF, oF, oF, 0⟩, ⟨10, 2, 1, oN, oF, oF, ⟨2, 0, 2, 0⟩, 0, oF, oF, oF, 2⟩, 18, (-1), (-1), ⟨1, 0, 1, 0⟩⟩, ⟨2, ⟨10, 1, 1, oN, oN, oF, ⟨1, 0, 1, 1⟩, 0, oF, oN, oF, 18⟩, ⟨10, 2, 1, oN, oF, oF, ⟨0, 0, 0, 0⟩, 0, oF, oF, oF, 0⟩, 18, 0, (-1), ⟨1, 10, 1, 1⟩⟩),
  (⟨1, ⟨10, 2, 1, oN, oF, oF, ⟨0, 0, 0, 0⟩, 0, oF, oF, oF, 0⟩, ⟨10, 2, 1, oN, oF, oF, ⟨2, 0, 2, 0⟩, 0, oF, oF, oF, 2⟩, 19, (-1), (-1), ⟨1, 0, 1, 0⟩⟩, ⟨2, ⟨10, 1, 1, oN, oN, oF, ⟨1, 0, 1, 1⟩, 0, oF, oN, oF, 18⟩, ⟨10, 2, 1, oN, oF, oF, ⟨0, 0, 0, 0⟩, 0, oF, oF, oF, 0⟩, 19, 0, (-1), ⟨1, 10, 1, 1⟩⟩),
  (⟨1, ⟨10, 2, 1, oN, oF, oF, ⟨0, 0, 0, 0⟩, 0, oF, oF, oF, 0⟩, ⟨10, 2, 1, oN, oF, oF, ⟨2, 0, 2, 0⟩, 0, oF, oF, oF, 2⟩, 20, (-1), (-1), ⟨1, 0, 1, 0⟩⟩, ⟨2, ⟨10, 1, 1, oN, oN, oF, ⟨1, 0, 1, 1⟩, 0, oF, oN, oF, 20⟩, ⟨10, 2, 1, oN, oF, oF, ⟨0, 0, 0, 0⟩, 0, oF, oF, oF, 0⟩, 20, 0, (-1), ⟨1, 10, 1, 1⟩⟩),
  (⟨1, ⟨10, 2, 1, oN, oF, oF, ⟨0, 0, 0, 0⟩, 0, oF, oF, oF, 0⟩, ⟨10, 2, 1, oN, oF, oF, ⟨2, 0, 2, 0⟩, 0, oF, oF, oF, 2⟩, 21, (-1), (-1), ⟨1, 0, 1, 0⟩⟩, ⟨2, ⟨10, 1, 1, oN, oN, oF, ⟨1, 0, 1, 1⟩, 0, oF, oN, oF, 20⟩, ⟨10, 2, 1, oN, oF, oF, ⟨0, 0, 0, 0⟩, 0, oF, oF, oF, 0⟩, 21, 0, (-1), ⟨1, 10, 1, 1⟩⟩),
  (⟨1, ⟨10, 2, 1, oN, oF, oF, ⟨0, 0, 0, 0⟩, 0, oF, oF, oF, 0⟩, ⟨10, 2, 1, oN, oF, oF, ⟨2, 0, 2, 0⟩, 0, oF, oF, oF, 2⟩, 22, (-1), (-1), ⟨1, 0, 1, 0⟩⟩, ⟨2, ⟨10, 1, 1, oN, oN, oF, ⟨1, 0, 1, 1⟩, 0, oF, oN, oF, 22⟩, ⟨10, 2, 1, oN, oF, oF, ⟨0, 0, 0, 0⟩, 0, oF, oF, oF, 0⟩, 22, 0, (-1), ⟨1, 10, 1, 1⟩⟩),
  (⟨1, ⟨10, 2, 1, oN, oF, oF, ⟨0, 0, 0, 0⟩, 0, oF, oF, oF, 0⟩, ⟨10, 2, 1, oN, oF, oF, ⟨2, 0, 2, 0⟩, 0, oF, oF, oF, 2⟩, 23, (-1), (-1), ⟨1, 0, 1, 0⟩⟩, ⟨2, ⟨10, 1, 1, oN, oN, oF, ⟨1, 0, 1, 1⟩, 0, oF, oN, oF, 22⟩, ⟨10, 2, 1, oN, oF, oF, ⟨0, 0, 0, 0⟩, 0, oF, oF, oF, 0⟩, 23, 0, (-1), ⟨1, 10, 1, 1⟩⟩),
  (⟨1, ⟨10, 2, 1, oN, oF, oF, ⟨0, 0, 0, 0⟩, 0, oF, oF, oF, 0⟩, ⟨10, 2, 1, oN, oF, oF, ⟨2, 0, 2, 0⟩, 0, oF, oF, oF, 2⟩, 24, (-1), (-1), ⟨1, 0, 1, 0⟩⟩, ⟨2, ⟨10, 1, 1, oN, oN, oF, ⟨1, 0, 1, 1⟩, 0, oF, oN, oF, 24⟩, ⟨10, 2, 1, oN, oF, oF, ⟨0, 0, 0, 0⟩, 0, oF, oF, oF, 0⟩, 24, 0, (-1), ⟨1, 10, 1, 1⟩⟩),
  (⟨1, ⟨10, 2, 1, oN, oF, oF, ⟨0, 0, 0, 0⟩, 0, oF, oF, oF, 0⟩, ⟨10, 2, 1, oN, oF, oF, ⟨2, 0, 2, 0⟩, 0, oF, oF, oF, 2⟩, 25, (-1), (-1), ⟨1, 0, 1, 0⟩⟩, ⟨2, ⟨10, 1, 1, oN, oN, oF, ⟨1, 0, 1, 1⟩, 0, oF, oN, oF, 24⟩, ⟨10, 2, 1, oN, oF, oF, ⟨0, 0, 0, 0⟩, 0, oF, oF, oF, 0⟩, 25, 0, (-1), ⟨1, 10, 1, 1⟩⟩),
  (⟨1, ⟨10, 2, 1, oN, oF, oF, ⟨0, 0, 0, 0⟩, 0, oF, oF, oF, 0⟩, ⟨10, 2, 1, oN, oF, oF, ⟨2, 0, 2, 0⟩, 0, oF, oF, oF, 2⟩, 26, (-1), (-1), ⟨1, 0, 1, 0⟩⟩, ⟨2, ⟨10, 1, 1, oN, oN, oF, ⟨1, 0, 1, 1⟩, 0, oF, oN, oF, 26⟩, ⟨10, 2, 1, oN, oF, oF, ⟨0, 0, 0, 0⟩, 0, oF, oF, oF, 0⟩, 26, 0, (-1), ⟨1, 10, 1, 1⟩⟩),
  (⟨1, ⟨10, 2, 1, oN, oF, oF, ⟨0, 0, 0, 0⟩, 0, oF, oF, oF, 0⟩, ⟨10, 2, 1, oN, oF, oF, ⟨2, 0, 2, 0⟩, 0, oF, oF, oF, 2⟩, 27, (-1), (-1), ⟨1, 0, 1, 0⟩⟩, ⟨2, ⟨10, 1, 1, oN, oN, oF, ⟨1, 0, 1, 1⟩, 0, oF, oN, oF, 26⟩, ⟨10, 2, 1, oN, oF, oF, ⟨0, 0, 0, 0⟩, 0, oF, oF, oF, 0⟩, 27, 0, (-1), ⟨1, 10, 1, 1⟩⟩),
  (⟨1, ⟨10, 2, 1, oN, oF, oF, ⟨0, 0, 0, 0⟩, 0, oF, oF, oF, 0⟩, ⟨10, 2, 1, oN, oF, oF, ⟨2, 0, 2, 0⟩, 0, oF, oF, oF, 2⟩, 28, (-1), (-1), ⟨1, 0, 1, 0⟩⟩, ⟨2, ⟨10, 1, 1, oN, oN, oF, ⟨1, 0, 1, 1⟩, 0, oF, oN, oF, 28⟩, ⟨10, 2, 1, oN, oF, oF, ⟨0, 0, 0, 0⟩, 0, oF, oF, oF, 0⟩, 28, 0, (-1), ⟨1, 10, 1, 1⟩⟩),
  (⟨1, ⟨10, 2, 1, oN, oF, oF, ⟨0, 0, 0, 0⟩, 0, oF, oF, oF, 0⟩, ⟨10, 2, 1, oN, oF, oF, ⟨2, 0, 2, 0⟩, 0, oF, oF, oF, 2⟩, 29, (-1), (-1), ⟨1, 0, 1, 0⟩⟩, ⟨2, ⟨10, 1, 1, oN, oN, oF, ⟨1, 0, 1, 1⟩, 0, oF, oN, oF, 28⟩, ⟨10, 2, 1, oN, oF, oF, ⟨0, 0, 0, 0⟩, 0, oF, oF, oF, 0⟩, 29, 0, (-1), ⟨1, 10, 1, 1⟩⟩),
  (⟨1, ⟨10, 2, 1, oN, oF, oF, ⟨0, 0, 0, 0⟩, 0, oF, oF, oF, 0⟩, ⟨10, 2, 1, oN, oF, oF, ⟨2, 0, 2, 0⟩, 0, oF, oF, oF, 2⟩, 30, (-1), (-1), ⟨1, 0, 1, 0⟩⟩, ⟨2, ⟨10, 1, 1, oN, oN, oF, ⟨1, 0, 1, 1⟩, 0, oF, oN, oF, 30⟩, ⟨10, 2, 1, oN, oF, oF, ⟨0, 0, 0, 0⟩, 0, oF, oF, oF, 0⟩, 30, 0, (-1), ⟨1, 10, 1, 1⟩⟩),
  (⟨1, ⟨10, 2, 1, oN, oF, oN, ⟨0, 0, 0, 0⟩, 0, oF, oF, oF, 0⟩, ⟨10, 2, 1, oN, oF, oN, ⟨2, 0, 2, 0⟩, 0, oF, oF, oF, 2⟩, 31, (-1), 31, ⟨1, 0, 1, 0⟩⟩, ⟨2, ⟨10, 1, 1, oN, oN, oN, ⟨1, 0, 1, 1⟩, 0, oF, oN, oF, 30⟩, ⟨10, 2, 1, oN, oF, oN, ⟨0, 0, 0, 0⟩, 0, oF, oF, oF, 0⟩, 31, 0, 31, ⟨1, 10, 1, 1⟩⟩),
  (⟨1, ⟨10, 2, 1, oN, oF, oN, ⟨0, 0, 0, 0⟩, 0, oF, oF, oF, 0⟩, ⟨10, 2, 1, oN, oF, oN, ⟨2, 0, 2, 0⟩, 0, oF, oF, oF, 2⟩, 32, (-1), 31, ⟨1, 0, 1, 0⟩⟩, ⟨2, ⟨10, 1, 1, oN, oN, oN, ⟨1, 0, 1, 1⟩, 0, oN, oN, oN, 32⟩, ⟨10, 2, 1, oN, oF, oN, ⟨0, 0, 0, 0⟩, 0, oF, oF, oF, 0⟩, 32, 0, 32, ⟨1, 10, 1, 1⟩⟩),
  (⟨1, ⟨10, 2, 1, oN, oF, oN, ⟨0, 0, 0, 0⟩, 0, oF, oF, oF, 0⟩, ⟨10, 2, 1, oN, oF, oN, ⟨2, 0, 2, 0⟩, 0, oF, oF, oF, 2⟩, 33, (-1), 31, ⟨1, 0, 1, 0⟩⟩, ⟨2, ⟨10, 1, 1, oN, oN, oN, ⟨1, 0, 1, 1⟩, 0, oN, oN, oN, 32⟩, ⟨10, 2, 1, oN, oF, oN, ⟨0, 0, 0, 0⟩, 0, oF, oF, oF, 0⟩, 33, 0, 32, ⟨1, 10, 1, 1⟩⟩),
  (⟨1, ⟨10, 2, 1, oN, oF, oN, ⟨0, 0, 0, 0⟩, 0, oF, oF, oF, 0⟩, ⟨10, 2, 1, oN, oF, oN, ⟨2, 0, 2, 0⟩, 0, oF, oF, oF, 2⟩, 34, (-1), 31, ⟨1, 0, 1, 0⟩⟩, ⟨2, ⟨10, 1, 1, oN, oN, oN, ⟨1, 0, 1, 1⟩, 0, oN, oN, oN, 34⟩, ⟨10, 2, 1, oN, oF, oN, ⟨0, 0, 0, 0⟩, 0, oF, oF, oF, 0⟩, 34, 0, 34, ⟨1, 10, 1, 1⟩⟩),
  (⟨1, ⟨10, 2, 1, oN, oF, oN, ⟨0, 0, 0, 0⟩, 0, oF, oF, oF, 0⟩, ⟨10, 2, 1, oN, oF, oN, ⟨2, 0, 2, 0⟩, 0, oF, oF, oF, 2⟩, 35, (-1), 31, ⟨1, 0, 1, 0⟩⟩, ⟨2, ⟨10, 1, 1, oN, oN, oN, ⟨1, 0, 1, 1⟩, 0, oN, oN, oN, 34⟩, ⟨10, 2, 1, oN, oF, oN, ⟨0, 0, 0, 0⟩, 0, oF, oF, oF, 0⟩, 35, 0, 34, ⟨1, 10, 1, 1⟩⟩),
  (⟨1, ⟨10, 2, 1, oN, oF, oN, ⟨0, 0, 0, 0⟩, 0, oF, oF, oF, 0⟩, ⟨10, 2, 1, oN, oF, oN, ⟨2, 0, 2, 0⟩, 0, oF, oF, oF, 2⟩, 36, (-1), 31, ⟨1, 0, 1, 0⟩⟩, ⟨2, ⟨10, 1, 1, oN, oN, oN, ⟨1, 0, 1, 1⟩, 0, oF, oN, oN, 36⟩, ⟨10, 2, 1, oN, oF, oN, ⟨0, 0, 0, 0⟩, 0, oF, oF, oF, 0⟩, 36, 0, 34, ⟨1, 10, 1, 1⟩⟩),
  (⟨1, ⟨10, 2, 1, oN, oF, oN, ⟨0, 0, 0, 0⟩, 0, oF, oF, oF, 0⟩, ⟨10, 2, 1, oN, oF, oN, ⟨2, 0, 2, 0⟩, 0, oF, oF, oF, 2⟩, 37, (-1), 31, ⟨1, 0, 1, 0⟩⟩, ⟨2, ⟨10, 1, 1, oN, oN, oN, ⟨1, 0, 1, 1⟩, 0, oF, oN, oN, 36⟩, ⟨10, 2, 1, oN, oF, oN, ⟨0, 0, 0, 0⟩, 0, oF, oF, oF, 0⟩, 37, 0, 34, ⟨1, 10, 1, 1⟩⟩),
  (⟨1, ⟨10, 2, 1, oN, oF, oN, ⟨0, 0, 0, 0⟩, 0, oF, oF, oF, 0⟩, ⟨10, 2, 1, oN, oF, oN, ⟨2, 0, 2, 0⟩, 0, oF, oF, oF, 2⟩, 38, (-1), 31, ⟨1, 0, 1, 0⟩⟩, ⟨2, ⟨10, 1, 1, oN, oN, oN, ⟨1, 0, 1, 1⟩, 0, oF, oN, oN, 38⟩, ⟨10, 2, 1, oN, oF, oN, ⟨0, 0, 0, 0⟩, 0, oF, oF, oF, 0⟩, 38, 0, 34, ⟨1, 10, 1, 1⟩⟩),
  (⟨1, ⟨10, 2, 1, oN, oF, oN, ⟨0, 0, 0, 0⟩, 0, oF, oF, oF, 0⟩, ⟨10, 2, 1, oN, oF, oN, ⟨2, 0, 2, 0⟩, 0, oF, oF, oF, 2⟩, 39, (-1), 31, ⟨1, 0, 1, 0⟩⟩, ⟨2, ⟨10, 1, 1, oN, oN, oN, ⟨1, 0, 1, 1⟩, 0, oF, oN, oN, 38⟩, ⟨10, 2, 1, oN, oF, oN, ⟨0, 0, 0, 0⟩, 0, oF, oF, oF, 0⟩, 39, 0, 34, ⟨1, 10, 1, 1⟩⟩),
  (⟨1, ⟨10, 2, 1, oN, oF, oN, ⟨0, 0, 0, 0⟩, 0, oF, oF, oF, 0⟩, ⟨10, 2, 1, oN, oF, oN, ⟨2, 0, 2, 0⟩, 0, oF, oF, oF, 2⟩, 40, (-1), 31, ⟨1, 0, 1, 0⟩⟩, ⟨2, ⟨10, 1, 1, oN, oN, oN, ⟨1, 0, 1, 1⟩, 0, oF, oN, oN, 40⟩, ⟨10, 2, 1, oN, oF, oN, ⟨0, 0, 0, 0⟩, 0, oF, oF, oF, 0⟩, 40, 0, 34, ⟨1, 10, 1, 1⟩⟩),
  (⟨1, ⟨10, 2, 1, oN, oF, oN, ⟨0, 0, 0, 0⟩, 0, oF, oF, oF, 0⟩, ⟨10, 2, 1, oN, oF, oN, ⟨2, 0, 2, 0⟩, 0, oF, oF, oF, 2⟩, 41, (-1), 31, ⟨1, 0, 1, 0⟩⟩, ⟨2, ⟨10, 1, 1, oN, oN, oN, ⟨1, 0, 1, 1⟩, 0, oF, oN, oN, 40⟩, ⟨10, 2, 1, oN, oF, oN, ⟨0, 0, 0, 0⟩, 0, oF, oF, oF, 0⟩, 41, 0, 34, ⟨1, 10, 1, 1⟩⟩),
  (⟨1, ⟨10, 2, 1, oN, oF, oN, ⟨0, 0, 0, 0⟩, 0, oF, oF, oF, 0⟩, ⟨10, 2, 1, oN, oF, oN, ⟨2, 0, 2, 0⟩, 0, oF, oF, oF, 2⟩, 42, (-1), 31, ⟨1, 0, 1, 0⟩⟩, ⟨2, ⟨10, 1, 1, oN, oN, oN, ⟨1, 0, 1, 1⟩, 0, oF, oN, oN, 42⟩, ⟨10, 2, 1, oN, oF, oN, ⟨0, 0, 0, 0⟩, 0, oF, oF, oF, 0⟩, 42, 0, 34, ⟨1, 10, 1, 1⟩⟩),
  (⟨1, ⟨10, 2, 1, oN, oF, oN, ⟨0, 0, 0, 0⟩, 0, oF, oF, oF, 0⟩, ⟨10, 2, 1, oN, oF, oN, ⟨2, 0, 2, 0⟩, 0, oF, oF, oF, 2⟩, 43, (-1), 31, ⟨1, 0, 1, 0⟩⟩, ⟨2, ⟨10, 1, 1, oN, oN, oN, ⟨1, 0, 1, 1⟩, 0, oF, oN, oN, 42⟩, ⟨10, 2, 1, oN, oF, oN, ⟨0, 0, 0, 0⟩, 0, oF, oF, oF, 0⟩, 43, 0, 34, ⟨1, 10, 1, 1⟩⟩),
  (⟨1, ⟨10, 2, 1, oN, oF, oN, ⟨0, 0, 0, 0⟩, 0, oF, oF, oF, 0⟩, ⟨10, 2, 1, oN, oF, oN, ⟨2, 0, 2, 0⟩, 0, oF, oF, oF, 2⟩, 44, (-1), 31, ⟨1, 0, 1, 0⟩⟩, ⟨2, ⟨10, 1, 1, oN, oN, oN, ⟨1, 0, 1, 1⟩, 0, oF, oN, oN, 44⟩, ⟨10, 2, 1, oN, oF, oN, ⟨0, 0, 0, 0⟩, 0, oF, oF, oF, 0⟩, 44, 0, 34, ⟨1, 10, 1, 1⟩⟩),
  (⟨1, ⟨10, 2, 1, oN, oF, oN, ⟨0, 0, 0, 0⟩, 0, oF, oF, oF, 0⟩, ⟨10, 2, 1, oN, oF, oN, ⟨2, 0, 2, 0⟩, 0, oF, oF, oF, 2⟩, 45, (-1), 31, ⟨1, 0, 1, 0⟩⟩, ⟨2, ⟨10, 1, 1, oN, oN, oN, ⟨1, 0, 1, 1⟩, 0, oF, oN, oN, 44⟩, ⟨10, 2, 1, oN, oF, oN, ⟨0, 0, 0, 0⟩, 0, oF, oF, oF, 0⟩, 45, 0, 34, ⟨1, 10, 1, 1⟩⟩),
  (⟨1, ⟨10, 2, 1, oN, oF, oN, ⟨0, 0, 0, 0⟩, 0, oF, oF, oF, 0⟩, ⟨10, 2, 1, oN, oF, oN, ⟨2, 0, 2, 0⟩, 0, oF, oF, oF, 2⟩, 46, (-1), 31, ⟨1, 0, 1, 0⟩⟩, ⟨2, ⟨10, 1, 1, oN, oN, oN, ⟨1, 0, 1, 1⟩, 0, oF, oN, oN, 46⟩, ⟨10, 2, 1, oN, oF, oN, ⟨0, 0, 0, 0⟩, 0, oF, oF, oF, 0⟩, 46, 0, 34, ⟨1, 10, 1, 1⟩⟩),
  (⟨1, ⟨10, 2, 1, oN, oF, oN, ⟨0, 0, 0, 0⟩, 0, oF, oF, oF, 0⟩, ⟨10, 2, 1, oN, oF, oN, ⟨2, 0, 2, 0⟩, 0, oF, oF, oF, 2⟩, 47, (-1), 31, ⟨1, 0, 1, 0⟩⟩, ⟨2, ⟨10, 1, 1, oN, oN, oN, ⟨1, 0, 1, 1⟩, 0, oF, oN, oN, 46⟩, ⟨10, 2, 1, oN, oF, oN, ⟨0, 0, 0, 0⟩, 0, oF, oF, oF, 0⟩, 47, 0, 34, ⟨1, 10, 1, 1⟩⟩),
  (⟨1, ⟨10, 2, 1, oN, oF, oN, ⟨0, 0, 0, 0⟩, 0, oF, oF, oF, 0⟩, ⟨10, 2, 1, oN, oF, oN, ⟨2, 0, 2, 0⟩, 0, oF, oF, oF, 2⟩, 48, (-1), 31, ⟨1, 0, 1, 0⟩⟩, ⟨2, ⟨10, 1, 1, oN, oN, oN, ⟨1, 0, 1, 1⟩, 0, oF, oN, oN, 48⟩, ⟨10, 2, 1, oN, oF, oN, ⟨0, 0, 0, 0⟩, 0, oF, oF, oF, 0⟩, 48, 0, 34, ⟨1, 10, 1, 1⟩⟩),
  (⟨1, ⟨10, 2, 1, oN, oF, oN, ⟨0, 0, 0, 0⟩, 0, oF, oF, oF, 0⟩, ⟨10, 2, 1, oN, oF, oN, ⟨2, 0, 2, 0⟩, 0, oF, oF, oF, 2⟩, 49, (-1), 31, ⟨1, 0, 1, 0⟩⟩, ⟨2, ⟨10, 1, 1, oN, oN, oN, ⟨1, 0, 1, 1⟩, 0, oF, oN, oN, 48⟩, ⟨10, 2, 1, oN, oF, oN, ⟨0, 0, 0, 0⟩, 0, oF, oF, oF, 0⟩, 49, 0, 34, ⟨1, 10, 1, 1⟩⟩),
  (⟨1, ⟨10, 2, 1, oN, oF, oN, ⟨0, 0, 0, 0⟩, 0, oF, oF, oF, 0⟩, ⟨10, 2, 1, oN, oF, oN, ⟨2, 0, 2, 0⟩, 0, oF, oF, oF, 2⟩, 50, (-1), 31, ⟨1, 0, 1, 0⟩⟩, ⟨2, ⟨10, 1, 1, oN, oN, oN, ⟨1, 0, 1, 1⟩, 0, oF, oN, oN, 50⟩, ⟨10, 2, 1, oN, oF, oN, ⟨0, 0, 0, 0⟩, 0, oF, oF, oF, 0⟩, 50, 0, 34, ⟨1, 10, 1, 1⟩⟩),
  (⟨1, ⟨10, 2, 1, oN, oF, oN, ⟨0, 0, 0, 0⟩, 0, oF, oF, oF, 0⟩, ⟨10, 2, 1, oN, oF, oN, ⟨2, 0, 2, 0⟩, 0, oF, oF, oF, 2⟩, 51, (-1), 31, ⟨1, 0, 1, 0⟩⟩, ⟨2, ⟨10, 1, 1, oN, oN, oN, ⟨1, 0, 1, 1⟩, 0, oF, oN, oN, 50⟩, ⟨10, 2, 1, oN, oF, oN, ⟨0, 0, 0, 0⟩, 0, oF, oF, oF, 0⟩, 51, 0, 34, ⟨1, 10, 1, 1⟩⟩),
  (⟨1, ⟨10, 2, 1, oN, oF, oN, ⟨0, 0, 0, 0⟩, 0, oF, oF, oF, 0⟩, ⟨10, 2, 1, oN, oF, oN, ⟨2, 0, 2, 0⟩, 0, oF, oF, oF, 2⟩, 52, (-1), 31, ⟨1, 0, 1, 0⟩⟩, ⟨2, ⟨10, 1, 1, oN, oN, oN, ⟨1, 0, 1, 1⟩, 0, oF, oN, oN, 52⟩, ⟨10, 2, 1, oN, oF, oN, ⟨0, 0, 0, 0⟩, 0, oF, oF, oF, 0⟩, 52, 0, 34, ⟨1, 10, 1, 1⟩⟩),
  (⟨1, ⟨10, 2, 1, oN, oF, oN, ⟨0, 0, 0, 0⟩, 0, oF, oF, oF, 0⟩, ⟨10, 2, 1, oN, oF, oN, ⟨2, 0, 2, 0⟩, 0, oF, oF, oF, 2⟩, 53, (-1), 31, ⟨1, 0, 1, 0⟩⟩, ⟨2, ⟨10, 1, 1, oN, oN, oN, ⟨1, 0, 1, 1⟩, 0, oF, oN, oN, 52⟩, ⟨10, 2, 1, oN, oF, oN, ⟨0, 0, 0, 0⟩, 0, oF, oF, oF, 0⟩, 53, 0, 34, ⟨1, 10, 1, 1⟩⟩),
  (⟨1, ⟨10, 2, 1, oN, oF, oN, ⟨0, 0, 0, 0⟩, 0, oF, oF, oF, 0⟩, ⟨10, 2, 1, oN, oF, oN, ⟨2, 0, 2, 0⟩, 0, oF, oF, oF, 2⟩, 54, (-1), 31, ⟨1, 0, 1, 0⟩⟩, ⟨2, ⟨10, 1, 1, oN, oN, oN, ⟨1, 0, 1, 1⟩, 0, oF, oN, oN, 54⟩, ⟨10, 2, 1, oN, oF, oN, ⟨0, 0, 0, 0⟩, 0, oF, oF, oF, 0⟩, 54, 0, 34, ⟨1, 10, 1, 1⟩⟩),
  (⟨1, ⟨10, 2, 1, oN, oF, oN, ⟨0, 0, 0, 0⟩, 0, oF, oF, oF, 0⟩, ⟨10, 2, 1, oN, oF, oN, ⟨2, 0, 2, 0⟩, 0, oF, oF, oF, 2⟩, 55, (-1), 31, ⟨1, 0, 1, 0⟩⟩, ⟨2, ⟨10, 1, 1, oN, oN, oN, ⟨1, 0, 1, 1⟩, 0, oF, oN, oN, 54⟩, ⟨10, 2, 1, oN, oF, oN, ⟨0, 0, 0, 0⟩, 0, oF, oF, oF, 0⟩, 55, 0, 34, ⟨1, 10, 1, 1⟩⟩),
  (⟨1, ⟨10, 2, 1, oN, oF, oN, ⟨0, 0, 0, 0⟩, 0, oF, oF, oF, 0⟩, ⟨10, 2, 1, oN, oF, oN, ⟨2, 0, 2, 0⟩, 0, oF, oF, oF, 2⟩, 56, (-1), 31, ⟨1, 0, 1, 0⟩⟩, ⟨2, ⟨10, 1, 1, oN, oN, oN, ⟨1, 0, 1, 1⟩, 0, oF, oN, oN, 56⟩, ⟨10, 2, 1, oN, oF, oN, ⟨0, 0, 0, 0⟩, 0, oF, oF, oF, 0⟩, 56, 0, 34, ⟨1, 10, 1, 1⟩⟩),
  (⟨1, ⟨10, 2, 1, oN, oF, oN, ⟨0, 0, 0, 0⟩, 0, oF, oF, oF, 0⟩, ⟨10, 2, 1, oN, oF, oN, ⟨2, 0, 2, 0⟩, 0, oF, oF, oF, 2⟩, 57, (-1), 31, ⟨1, 0, 1, 0⟩⟩, ⟨2, ⟨10, 1, 1, oN, oN, oN, ⟨1, 0, 1, 1⟩, 0, oF, oN, oN, 56⟩, ⟨10, 2, 1, oN, oF, oN, ⟨0, 0, 0, 0⟩, 0, oF, oF, oF, 0⟩, 57, 0, 34, ⟨1, 10, 1, 1⟩⟩),
  (⟨1, ⟨10, 2, 1, oN, oF, oN, ⟨0, 0, 0, 0⟩, 0, oF, oF, oF, 0⟩, ⟨10, 2, 1, oN, oF, oN, ⟨2, 0, 2, 0⟩, 0, oF, oF, oF, 2⟩, 58, (-1), 31, ⟨1, 0, 1, 0⟩⟩, ⟨2, ⟨10, 1, 1, oN, oN, oN, ⟨1, 0, 1, 1⟩, 0, oF, oN, oN, 58⟩, ⟨10, 2, 1, oN, oF, oN, ⟨0, 0, 0, 0⟩, 0, oF, oF, oF, 0⟩, 58, 0, 34, ⟨1, 10, 1, 1⟩⟩),
  (⟨1, ⟨10, 2, 1, oN, oF, oN, ⟨0, 0, 0, 0⟩, 0, oF, oF, oF, 0⟩, ⟨10, 2, 1, oN, oF, oN, ⟨2, 0, 2, 0⟩, 0, oF, oF, oF, 2⟩, 59, (-1), 31, ⟨1, 0, 1, 0⟩⟩, ⟨2, ⟨10, 1, 1, oN, oN, oN, ⟨1, 0, 1, 1⟩, 0, oF, oN, oN, 58⟩, ⟨10, 2, 1, oN, oF, oN, ⟨0, 0, 0, 0⟩, 0, oF, oF, oF, 0⟩, 59, 0, 34, ⟨1, 10, 1, 1⟩⟩),
  (⟨1, ⟨10, 2, 1, oN, oF, oN, ⟨0, 0, 0, 0⟩, 0, oF, oF, oF, 0⟩, ⟨10, 2, 1, oN, oF, oN, ⟨2, 0, 2, 0⟩, 0, oF, oF, oF, 2⟩, 60, (-1), 31, ⟨1, 0, 1, 0⟩⟩, ⟨2, ⟨10, 1, 1, oN, oN, oN, ⟨1, 0, 1, 1⟩, 0, oF, oN, oN, 60⟩, ⟨10, 2, 1, oN, oF, oN, ⟨0, 0, 0, 0⟩, 0, oF, oF, oF, 0⟩, 60, 0, 34, ⟨1, 10, 1, 1⟩⟩),
  (⟨1, ⟨10, 2, 1, oN, oF, oN, ⟨0, 0, 0, 0⟩, 0, oF, oF, oF, 0⟩, ⟨10, 2, 1, oN, oF, oN, ⟨2, 0, 2, 0⟩, 0, oF, oF, oF, 2⟩, 61, (-1), 31, ⟨1, 0, 1, 0⟩⟩, ⟨2, ⟨10, 1, 1, oN, oN, oN, ⟨1, 0, 1, 1⟩, 0, oF, oN, oN, 60⟩, ⟨10, 2, 1, oN, oF, oN, ⟨0, 0, 0, 0⟩, 0, oF, oF, oF, 0⟩, 61, 0, 34, ⟨1, 10, 1, 1⟩⟩),
  (⟨1, ⟨10, 2, 1, oN, oF, oN, ⟨0, 0, 0, 0⟩, 0, oF, oF, oF, 0⟩, ⟨10, 2, 1, oN, oF, oN, ⟨2, 0, 2, 0⟩, 0, oF, oF, oF, 2⟩, 62, (-1), 31, ⟨1, 0, 1, 0⟩⟩, ⟨2, ⟨10, 1, 1, oN, oN, oN, ⟨1, 0, 1, 1⟩, 0, oF, oN, oN, 62⟩, ⟨10, 2, 1, oN, oF, oN, ⟨0, 0, 0, 0⟩, 0, oF, oF, oF, 0⟩, 62, 0, 34, ⟨1, 10, 1, 1⟩⟩),
  (⟨1, ⟨10, 2, 1, oN, oF, oN, ⟨0, 0, 0, 0⟩, 0, oF, oF, oF, 0⟩, ⟨10, 2, 1, oN, oF, oN, ⟨2, 0, 2, 0⟩, 0, oF, oF, oF, 2⟩, 63, (-1), 31, ⟨1, 0, 1, 0⟩⟩, ⟨2, ⟨10, 1, 1, oN, oN, oN, ⟨1, 0, 1, 1⟩, 0, oF, oN, oN, 62⟩, ⟨10, 2, 1, oN, oF, oN, ⟨0, 0, 0, 0⟩, 0, oF, oF, oF, 0⟩, 63, 0, 34, ⟨1, 10, 1, 1⟩⟩),
  (⟨1, ⟨10, 2, 1, oN, oF, oN, ⟨0, 0, 0, 0⟩, 0, oF, oF, oF, 0⟩, ⟨10, 2, 1, oN, oF, oN, ⟨2, 0, 2, 0⟩, 0, oF, oF, oF, 2⟩, 64, (-1), 31, ⟨1, 0, 1, 0⟩⟩, ⟨2, ⟨10, 1, 1, oN, oN, oN, ⟨1, 0, 1, 1⟩, 0, oF, oN, oN, 64⟩, ⟨10, 2, 1, oN, oF, oN, ⟨0, 0, 0, 0⟩, 0, oF, oF, oF, 0⟩, 64, 0, 34, ⟨1, 10, 1, 1⟩⟩),
  (⟨1, ⟨10, 2, 1, oN, oF, oN, ⟨0, 0, 0, 0⟩, 0, oF, oF, oF, 0⟩, ⟨10, 2, 1, oN, oF, oN, ⟨2, 0, 2, 0⟩, 0, oF, oF, oF, 2⟩, 65, (-1), 31, ⟨1, 0, 1, 0⟩⟩, ⟨2, ⟨10, 1, 1, oN, oN, oN, ⟨1, 0, 1, 1⟩, 0, oF, oN, oN, 64⟩, ⟨10, 2, 1, oN, oF, oN, ⟨0, 0, 0, 0⟩, 0, oF, oF, oF, 0⟩, 65, 0, 34, ⟨1, 10, 1, 1⟩⟩),
  (⟨1, ⟨10, 2, 1, oN, oF, oN, ⟨0, 0, 0, 0⟩, 0, oF, oF, oF, 0⟩, ⟨10, 2, 1, oN, oF, oN, ⟨2, 0, 2, 0⟩, 0, oF, oF, oF, 2⟩, 66, (-1), 31, ⟨1, 0, 1, 0⟩⟩, ⟨2, ⟨10, 1, 1, oN, oN, oN, ⟨1, 0, 1, 1⟩, 0, oF, oN, oN, 66⟩, ⟨10, 2, 1, oN, oF, oN, ⟨0, 0, 0, 0⟩, 0, oF, oF, oF, 0⟩, 66, 0, 34, ⟨1, 10, 1, 1⟩⟩),
  (⟨1, ⟨10, 2, 1, oN, oF, oN, ⟨0, 0, 0, 0⟩, 0, oF, oF, oF, 0⟩, ⟨10, 2, 1, oN, oF, oN, ⟨2, 0, 2, 0⟩, 0, oF, oF, oF, 2⟩, 67, (-1), 31, ⟨1, 0, 1, 0⟩⟩, ⟨2, ⟨10, 1, 1, oN, oN, oN, ⟨1, 0, 1, 1⟩, 0, oF, oN, oN, 66⟩, ⟨10, 2, 1, oN, oF, oN, ⟨0, 0, 0, 0⟩, 0, oF, oF, oF, 0⟩, 67, 0, 34, ⟨1, 10, 1, 1⟩⟩),
  (⟨1, ⟨10, 2, 1, oN, oF, oN, ⟨0, 0, 0, 0⟩, 0, oF, oF, oF, 0⟩, ⟨10, 2, 1, oN, oF, oN, ⟨2, 0, 2, 0⟩, 0, oF, oF, oF, 2⟩, 68, (-1), 31, ⟨1, 0, 1, 0⟩⟩, ⟨2, ⟨10, 1, 1, oN, oN, oN, ⟨1, 0, 1, 1⟩, 0, oF, oN, oN, 68⟩, ⟨10, 2, 1, oN, oF, oN, ⟨0, 0, 0, 0⟩, 0, oF, oF, oF, 0⟩, 68, 0, 34, ⟨1, 10, 1, 1⟩⟩),
  (⟨1, ⟨10, 2, 1, oN, oF, oN, ⟨0, 0, 0, 0⟩, 0, oF, oF, oF, 0⟩, ⟨10, 2, 1, oN, oF, oN, ⟨2, 0, 2, 0⟩, 0, oF, oF, oF, 2⟩, 69, (-1), 31, ⟨1, 0, 1, 0⟩⟩, ⟨2, ⟨10, 1, 1, oN, oN, oN, ⟨1, 0, 1, 1⟩, 0, oF, oN, oN, 68⟩, ⟨10, 2, 1, oN, oF, oN, ⟨0, 0, 0, 0⟩, 0, oF, oF, oF, 0⟩, 69, 0, 34, ⟨1, 10, 1, 1⟩⟩),
  (⟨1, ⟨10, 2, 1, oN, oF, oN, ⟨0, 0, 0, 0⟩, 0, oF, oF, oF, 0⟩, ⟨10, 2, 1, oN, oF, oN, ⟨2, 0, 2, 0⟩, 0, oF, oF, oF, 2⟩, 70, (-1), 31, ⟨1, 0, 1, 0⟩⟩, ⟨2, ⟨10, 1, 1, oN, oN, oN, ⟨1, 0, 1, 1⟩, 0, oF, oN, oN, 70⟩, ⟨10, 2, 1, oN, oF, oN, ⟨0, 0, 0, 0⟩, 0, oF, oF, oF, 0⟩, 70, 0, 34, ⟨1, 10, 1, 1⟩⟩),
  (⟨1, ⟨10, 2, 1, oN, oF, oN, ⟨0, 0, 0, 0⟩, 0, oF, oF, oF, 0⟩, ⟨10, 2, 1, oN, oF, oN, ⟨2, 0, 2, 0⟩, 0, oF, oF, oF, 2⟩, 71, (-1), 31, ⟨1, 0, 1, 0⟩⟩, ⟨2, ⟨10, 1, 1, oN, oN, oN, ⟨1, 0, 1, 1⟩, 0, oF, oN, oN, 70⟩, ⟨10, 2, 1, oN, oF, oN, ⟨0, 0, 0, 0⟩, 0, oF, oF, oF, 0⟩, 71, 0, 34, ⟨1, 10, 1, 1⟩⟩),
  (⟨1, ⟨10, 2, 1, oN, oF, oN, ⟨0, 0, 0, 0⟩, 0, oF, oF, oF, 0⟩, ⟨10, 2, 1, oN, oF, oN, ⟨2, 0, 2, 0⟩, 0, oF, oF, oF, 2⟩, 72, (-1), 31, ⟨1, 0, 1, 0⟩⟩, ⟨2, ⟨10, 1, 1, oN, oN, oN, ⟨1, 0, 1, 1⟩, 0, oF, oN, oN, 72⟩, ⟨10, 2, 1, oN, oF, oN, ⟨0, 0, 0, 0⟩, 0, oF, oF, oF, 0⟩, 72, 0, 34, ⟨1, 10, 1, 1⟩⟩),
  (⟨1, ⟨10, 2, 1, oN, oF, oN, ⟨0, 0, 0, 0⟩, 0, oF, oF, oF, 0⟩, ⟨10, 2, 1, oN, oF, oN, ⟨2, 0, 2, 0⟩, 0, oF, oF, oF, 2⟩, 73, (-1), 31, ⟨1, 0, 1, 0⟩⟩, ⟨2, ⟨10, 1, 1, oN, oN, oN, ⟨1, 0, 1, 1⟩, 0, oF, oN, oN, 72⟩, ⟨10, 2, 1, oN, oF, oN, ⟨0, 0, 0, 0⟩, 0, oF, oF, oF, 0⟩, 73, 0, 34, ⟨1, 10, 1, 1⟩⟩),
  (⟨1, ⟨10, 2, 1, oN, oF, oN, ⟨0, 0, 0, 0⟩, 0, oF, oF, oF, 0⟩, ⟨10, 2, 1, oN, oF, oN, ⟨2, 0, 2, 0⟩, 0, oF, oF, oF, 2⟩, 74, (-1), 31, ⟨1, 0, 1, 0⟩⟩, ⟨2, ⟨10, 1, 1, oN, oN, oN, ⟨1, 0, 1, 1⟩, 0, oF, oN, oN, 74⟩, ⟨10, 2, 1, oN, oF, oN, ⟨0, 0, 0, 0⟩, 0, oF, oF, oF, 0⟩, 74, 0, 34, ⟨1, 10, 1, 1⟩⟩),
  (⟨1, ⟨10, 2, 1, oN, oF, oN, ⟨0, 0, 0, 0⟩, 0, oF, oF, oF, 0⟩, ⟨10, 2, 1, oN, oF, oN, ⟨2, 0, 2, 0⟩, 0, oF, oF, oF, 2⟩, 75, (-1), 31, ⟨1, 0, 1, 0⟩⟩, ⟨2, ⟨10, 1, 1, oN, oN, oN, ⟨1, 0, 1, 1⟩, 0, oF, oN, oN, 74⟩, ⟨10, 2, 1, oN, oF, oN, ⟨0, 0, 0, 0⟩, 0, oF, oF, oF, 0⟩, 75, 0, 34, ⟨1, 10, 1, 1⟩⟩),
  (⟨1, ⟨10, 2, 1, oN, oF, oN, ⟨0, 0, 0, 0⟩, 0, oF, oF, oF, 0⟩, ⟨10, 2, 1, oN, oF, oN, ⟨2, 0, 2, 0⟩, 0, oF, oF, oF, 2⟩, 76, (-1), 31, ⟨1, 0, 1, 0⟩⟩, ⟨2, ⟨10, 1, 1, oN, oN, oN, ⟨1, 0, 1, 1⟩, 0, oF, oN, oN, 76⟩, ⟨10, 2, 1, oN, oF, oN, ⟨0, 0, 0, 0⟩, 0, oF, oF, oF, 0⟩, 76, 0, 34, ⟨1, 10, 1, 1⟩⟩),
  (⟨1, ⟨10, 2, 1, oN, oF, oN, ⟨0, 0, 0, 0⟩, 0, oF, oF, oF, 0⟩, ⟨10, 2, 1, oN, oF, oN, ⟨2, 0, 2, 0⟩, 0, oF, oF, oF, 2⟩, 77, (-1), 31, ⟨1, 0, 1, 0⟩⟩, ⟨2, ⟨10, 1, 1, oN, oN, oN, ⟨1, 0, 1, 1⟩, 0, oF, oN, oN, 76⟩, ⟨10, 2, 1, oN, oF, oN, ⟨0, 0, 0, 0⟩, 0, oF, oF, oF, 0⟩, 77, 0, 34, ⟨1, 10, 1, 1⟩⟩),
  (⟨1, ⟨10, 2, 1, oN, oF, oN, ⟨0, 0, 0, 0⟩, 0, oF, oF, oF, 0⟩, ⟨10, 2, 1, oN, oF, oN, ⟨2, 0, 2, 0⟩, 0, oF, oF, oF, 2⟩, 78, (-1), 31, ⟨1, 0, 1, 0⟩⟩, ⟨2, ⟨10, 1, 1, oN, oN, oN, ⟨1, 0, 1, 1⟩, 0, oF, oN, oN, 78⟩, ⟨10, 2, 1, oN, oF, oN, ⟨0, 0, 0, 0⟩, 0, oF, oF, oF, 0⟩, 78, 0, 34, ⟨1, 10, 1, 1⟩⟩),
  (⟨1, ⟨10, 2, 1, oN, oF, oN, ⟨0, 0, 0, 0⟩, 0, oF, oF, oF, 0⟩, ⟨10, 2, 1, oN, oF, oN, ⟨2, 0, 2, 0⟩, 0, oF, oF, oF, 2⟩, 79, (-1), 31, ⟨1, 0, 1, 0⟩⟩, ⟨2, ⟨10, 1, 1, oN, oN, oN, ⟨1, 0, 1, 1⟩, 0, oF, oN, oN, 78⟩, ⟨10, 2, 1, oN, oF, oN, ⟨0, 0, 0, 0⟩, 0, oF, oF, oF, 0⟩, 79, 0, 34, ⟨1, 10, 1, 1⟩⟩),
  (⟨1, ⟨10, 2, 1, oN, oF, oN, ⟨0, 0, 0, 0⟩, 0, oF, oF, oF, 0⟩, ⟨10, 2, 1, oN, oF, oN, ⟨2, 0, 2, 0⟩, 0, oF, oF, oF, 2⟩, 80, (-1), 31, ⟨1, 0, 1, 0⟩⟩, ⟨2, ⟨10, 1, 1, oN, oN, oN, ⟨1, 0, 1, 1⟩, 0, oF, oN, oN, 80⟩, ⟨10, 2, 1, oN, oF, oN, ⟨0, 0, 0, 0⟩, 0, oF, oF, oF, 0⟩, 80, 0, 34, ⟨1, 10, 1, 1⟩⟩)]
def chk : List (Tre × Tre) → Int → Bool
  | a :: b :: r, now => ok2 now a && (decide (tick2 now a = b) && chk (b :: r) (now + 1))
  | _, _ => true
theorem sts_chk : chk sts 1 = true := by kernel_rfl
theorem sts_len : sts.length = 81 := by kernel_rfl
theorem chk_at : ∀ (l : List (Tre × Tre)) (now : Int) (k : Nat) (a b : Tre × Tre), chk l now = true → l[k]? = some a → l[k + 1]? = some b → ok2 (now + k) a = true ∧ tick2 (now + k) a = b
  | [], _, _, _, _, _, h, _ => by simp at h
  | [x], _, k, _, _, _, _, h => by simp at h
  | x :: y :: r, now, 0, a, b, h, ha, hb => by
    simp at ha hb
    subst ha hb
    unfold chk at h
    simp only [Bool.and_eq_true, decide_eq_true_eq] at h
    simpa using ⟨h.1, h.2.1⟩
  | x :: y :: r, now, k + 1, a, b, h, ha, hb => by
    unfold chk at h
    simp only [Bool.and_eq_true, decide_eq_true_eq] at h
    have := chk_at (y :: r) (now + 1) k a b h.2.2 (by simpa using ha) (by simpa using hb)
    rwa [show now + 1 + (k : Int) = now + ((k + 1 : Nat) : Int) by omega] at this
def stAt (k : Nat) : Tre × Tre := (sts[k]?).getD (beginT 1, beginT 2)
theorem st_step (k : Nat) (hk : k < 80) : ok2 (1 + k) (stAt k) = true ∧ tick2 (1 + k) (stAt k) = stAt (k + 1) := by
  have h1 : sts[k]? = some (stAt k) := by
    have h := List.getElem?_eq_getElem (l := sts) (i := k) (by rw [sts_len]; omega)
    unfold stAt
    rw [h]
    rfl
  have h2 : sts[k + 1]? = some (stAt (k + 1)) := by
    have h := List.getElem?_eq_getElem (l := sts) (i := k + 1) (by rw [sts_len]; omega)
    unfold stAt
    rw [h]
    rfl
  exact chk_at sts 1 k _ _ sts_chk h1 h2
theorem st_begin : stAt 0 = (beginT 1, beginT 2) := by kernel_rfl
def passB (T : Tre) : Bool := ((T.prt 0).role != 0) && (T.learns 0 && (T.p0.fwd && T.p1.fwd))
theorem st_end : (passB (stAt 80).1 && passB (stAt 80).2) = true := by kernel_rfl
end Go.Proofs.YticdmepplfgdiaaGreatDoor
end
