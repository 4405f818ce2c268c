/-
  What the program's csum.plus, csum.Sum and csum.Right compute. Condition: a text's length lies well within an int. A range over an iterator that hands over nothing; table's all and Expire, where no state is known. Conditions: the map is empty. slices.Sort and slices.Compact of ints, at no and at one number, and at two that are the same. Conditions: just that.
-/
import Derived.RangeFuncNested
import Derived.RangeFuncBound
import Derived.RangeFuncCalls
import Derived.RangeFuncLeaves
import Derived.Shelf.Abstract
import Derived.Shelf.RegionOpen
import Derived.OwnWalkIn
import Derived.TacticsInMore
import Derived.LoopNIn
import Derived.LoopIn
import Derived.BigQuiet
import Derived.Test.YticdmepplfgdiaaGreatDoorQ03
import Derived.Test.YticdmepplfgdiaaGreatDoorQ00
set_option linter.unusedVariables false
set_option linter.unusedSimpArgs false
section
namespace Go.Proofs.YticdmepplfgdiaaGreatDoor
open Go.RowKit Go.Shelf
attribute [local go_sem] Oper.semAt_some
theorem ccell_of_box {W : World} {B : Nat} {v : Value} {t : TypeId} (h : W.heap[B]? = some (.cells #[v] t (0, 0))) : W.cell? ⟨B, 0, none⟩ = some v ∧ W.frozen? ⟨B, 0, none⟩ = false := by
  constructor <;> simp [World.cell?, World.frozen?, h]
theorem ccell_new (W : World) (v : Value) (t : TypeId) : (W.alloc (.cells #[v] t)).cell? ⟨W.heap.size, 0, none⟩ = some v ∧ (W.alloc (.cells #[v] t)).frozen? ⟨W.heap.size, 0, none⟩ = false :=
  ccell_of_box (World.alloc_heap_new W _)
theorem ccell_alloc {W : World} {a : Addr} {v : Value} (o : Obj) (h : W.cell? a = some v) : (W.alloc o).cell? a = some v := cell_kept h (World.grownBy_alloc W o none) (fun r e => by cases e)
theorem cfrozen_alloc {W : World} {a : Addr} {v : Value} (o : Obj) (h : W.cell? a = some v) (hf : W.frozen? a = false) : (W.alloc o).frozen? a = false := (frozen_kept h (World.grownBy_alloc W o none) (fun r e => by cases e)).trans hf
theorem plus_num (a b : Nat) (ha : a ≤ 65535) (hb : b ≤ 65535) : bits .and .i64 ((a : Int) + (b : Int)) 65535 + ((a : Int) + (b : Int)) / 65536 = (Cs.plus a b : Int) := by
  have h := i64_and_nat (a + b) 65535 (by omega) (by omega)
  rw [nat_mask16, Int.natCast_add] at h
  rw [show ((65535 : Nat) : Int) = 65535 from rfl] at h
  rw [h]
  unfold Cs.plus
  split <;> omega
theorem plus_in (F : Fence) (n : Nat) (h : F.fn 211) (hro : F.round = none) (a b : Nat) (ha : a ≤ 65535) (hb : b ≤ 65535) (w : World) :
    CallsIn F n Tryz.prog 211 #[.int .i64 a, .int .i64 b] w fun e w' => e = .returned (.int .i64 (Cs.plus a b)) ∧ w' = w := by
  refine callsIn_of_wp Tryz.func211 rfl h ?_ hro
  simp only [Tryz.ntmps211, List.size_toArray, List.length_cons, List.length_nil, Nat.reduceAdd, Nat.reduceSub, Array.replicate_succ, Array.replicate_zero, List.push_toArray, List.append_toArray, List.nil_append, List.cons_append]
  have hp := plus_num a b ha hb
  have hl := Cs.plus_le ha hb
  have H := Lib.hid hp
  clear hp
  gi_wp2
  go_ret
  exact ⟨ret_int (by rw [H.out, IntWalk.wrap64_in _ ⟨by omega, by omega⟩]), rfl⟩
theorem words_in (F : Fence) (n : Nat) (h : F.fn 210) (hro : F.round = none) (s : ByteArray) (w : World) :
    CallsIn F n Tryz.prog 210 #[.string s] w fun e w' => e = .returned (.func (.func 263) #[] #[.pointer (some ⟨w.heap.size, 0, none⟩)]) ∧ w' = w.alloc (.cells #[.string s] 9) := by
  refine callsIn_of_wp Tryz.func210 rfl h ?_ hro
  simp only [Tryz.ntmps210, List.size_toArray, List.length_cons, List.length_nil, Nat.reduceAdd, Nat.reduceSub, Array.replicate_succ, Array.replicate_zero, List.push_toArray, List.append_toArray, List.nil_append, List.cons_append]
  gi_wp2
  go_ret
  exact ⟨rfl, rfl⟩
/-- a block lies as it lay -/
def KeepsBlk (b : Nat) (W W' : World) : Prop := W'.heap[b]? = W.heap[b]?
theorem KeepsBlk.trans {b : Nat} {A B C : World} (h : KeepsBlk b A B) (k : KeepsBlk b B C) : KeepsBlk b A C := Eq.trans k h
theorem KeepsBlk.cell {b : Nat} {W W' : World} (h : KeepsBlk b W W') (o : Nat) : W'.cell? ⟨b, o, none⟩ = W.cell? ⟨b, o, none⟩ := World.cell?_of_block (w := W) (a := ⟨b, o, none⟩) h
theorem KeepsBlk.put {b n : Nat} (hb : b < n) (W : World) (l : Nat) (o o' : Obj) (hl : n ≤ l) (_ : W.heap[l]? = some o) (_ : o.isCells = false) (_ : o.isWalk = false) : KeepsBlk b W (W.putObj l o') := by
  have h : l ≠ b := by omega
  simp [KeepsBlk, World.putObj, h]
/-- a word -/
abbrev W16 := { x : Nat // x ≤ 65535 }
def upto16 (l : List UInt8) (k : Nat) : List W16 := (List.range k).map fun j => ⟨Cs.wordAt l j, Cs.wordAt_le l j⟩
theorem upto16_succ (l : List UInt8) (k : Nat) : upto16 l (k + 1) = upto16 l k ++ [⟨Cs.wordAt l k, Cs.wordAt_le l k⟩] := by
  simp [upto16, List.range_succ]
theorem upto16_val (l : List UInt8) (k : Nat) : (upto16 l k).map (·.1) = Cs.upto l k := by
  simp [upto16, Cs.upto]
theorem upto16_pre (l : List UInt8) (k n : Nat) (h : k < n) : upto16 l k ++ [⟨Cs.wordAt l k, Cs.wordAt_le l k⟩] <+: upto16 l n := by
  rw [← upto16_succ]
  obtain ⟨d, rfl⟩ : ∃ d, n = k + 1 + d := ⟨n - (k + 1), by omega⟩
  simp only [upto16, List.range_add, List.map_append]
  exact ⟨_, rfl⟩
theorem getD_byte (s : ByteArray) (k : Nat) (h : k < s.size) : s.data.toList.getD k 0 = s[k]'h := by
  have e := size_toList s
  rw [List.getD_eq_getElem?_getD, List.getElem?_eq_getElem (by omega)]
  rfl
theorem getD_end (s : ByteArray) (k : Nat) (h : s.size ≤ k) : s.data.toList.getD k 0 = 0 := by
  have e := size_toList s
  rw [List.getD_eq_getElem?_getD, List.getElem?_eq_none (by omega)]
  rfl
theorem wrap64_u8 (b : UInt8) : wrap64 (b.toNat : Int) = (b.toNat : Int) := IntWalk.wrap64_in _ (by have := b.toNat_lt; omega)
theorem word_two (s : ByteArray) (k : Nat) (h : 2 * k + 1 < s.size) :
    bits BinOp.or IntKind.i64 (wrap64 (wrap64 ((s[2 * k]'(by omega)).toNat : Int) * 256)) (wrap64 ((s[2 * k + 1]'h).toNat : Int)) = (Cs.wordAt s.data.toList k : Int) := by
  have h1 := (s[2 * k]'(by omega)).toNat_lt
  have h2 := (s[2 * k + 1]'h).toNat_lt
  rw [wrap64_u8, wrap64_u8, IntWalk.wrap64_in _ ⟨by omega, by omega⟩, i64_or_byte _ _ (by omega) h2, Cs.wordAt, getD_byte s _ (by omega), getD_byte s _ h]
theorem word_one (s : ByteArray) (k : Nat) (h : 2 * k < s.size) (h1 : s.size ≤ 2 * k + 1) :
    wrap64 (wrap64 ((s[2 * k]'h).toNat : Int) * 256) = (Cs.wordAt s.data.toList k : Int) := by
  have h2 := (s[2 * k]'h).toNat_lt
  rw [wrap64_u8, IntWalk.wrap64_in _ ⟨by omega, by omega⟩, Cs.wordAt, getD_byte s _ h, getD_end s _ h1]
  show _ = ((256 * _ + 0 : Nat) : Int)
  omega
set_option maxRecDepth 100000 in
set_option maxHeartbeats 2000000 in
theorem words1_in (F : Fence) (n : Nat) (h6 : F.fn 263) (hro : F.round = none) (hn : 1 ≤ n) (l Bn : Nat) (s : ByteArray) (hs : s.size ≤ 281474976710656) (J Jx : List W16 → World → Prop)
    (hY : ∀ pre x W, J pre W → pre.length < Cs.cnt s.data.toList → YieldAt F (n - 1) Tryz.prog l #[.int .i64 x.1] W fun e W' =>
      (e = .returned (.bool true) ∧ J (pre ++ [x]) W' ∧ KeepsBlk Bn W W') ∨ (e = .returned (.bool false) ∧ Jx (pre ++ [x]) W'))
    (W : World) (hBn : W.cell? ⟨Bn, 0, none⟩ = some (.string s)) (h0 : J [] W) :
    CallsIn F n Tryz.prog 263 #[.func (.yield l) #[] #[], .pointer (some ⟨Bn, 0, none⟩)] W fun e W' => (∃ v, e = .returned v) ∧
      ((∃ ys, ys = upto16 s.data.toList (Cs.cnt s.data.toList) ∧ J ys W') ∨ (∃ pre, pre <+: upto16 s.data.toList (Cs.cnt s.data.toList) ∧ Jx pre W')) := by
  refine callsIn_of_wp Tryz.func263 rfl h6 ?_ hro
  simp only [Tryz.ntmps263, List.size_toArray, List.length_cons, List.length_nil, Nat.reduceAdd, Nat.reduceSub, Array.replicate_succ, Array.replicate_zero, List.push_toArray, List.append_toArray, List.nil_append, List.cons_append]
  gi_wp2
  gi_loopw [3] (fun i wr => ∃ k : Nat, k ≤ Cs.cnt s.data.toList ∧ i = .int .i64 ((2 * k : Nat) : Int) ∧ J (upto16 s.data.toList k) wr ∧ wr.cell? ⟨Bn, 0, none⟩ = some (.string s))
    (fun i _ => s.size + 2 - (intOf i).toNat)
  case atStart => exact ⟨0, Nat.zero_le _, rfl, h0, hBn⟩
  case round =>
    obtain ⟨k, hk, rfl, hJ, hc⟩ := hrel
    by_cases hlt : k < Cs.cnt s.data.toList
    · have hk2 : 2 * k < s.size := by rw [← size_toList]; unfold Cs.cnt at hlt; omega
      obtain ⟨fn, tmps, assign, body, hy, hR⟩ := hY (upto16 s.data.toList k) ⟨Cs.wordAt s.data.toList k, Cs.wordAt_le _ _⟩ wr hJ (by simp [upto16]; exact hlt)
      by_cases hodd : 2 * k + 1 < s.size
      · have hw := word_two s k hodd
        have hnx := upto16_succ s.data.toList k
        have HN := Lib.hid hnx
        clear hnx
        gi_wp2
        refine hR.mono ?_
        rintro e W3 (⟨rfl, hJ3, hk3⟩ | ⟨rfl, hJx3⟩)
        · have hc3 : W3.cell? ⟨Bn, 0, none⟩ = some (.string s) := (hk3.cell 0).trans hc
          gi_wp2
          go_roundw
          case rel => exact ⟨k + 1, by omega, by go_num, by rw [HN.out]; exact hJ3, hc3⟩
          case measure => simp [intOf]; omega
        · gi_wp2
          refine bodyPost_ret (results_none rfl _ _ _) rfl ?_
          exact ⟨⟨_, rfl⟩, .inr ⟨_, upto16_pre _ _ _ hlt, hJx3⟩⟩
      · have hw := word_one s k hk2 (by omega)
        have hnx := upto16_succ s.data.toList k
        have HN := Lib.hid hnx
        clear hnx
        gi_wp2
        refine hR.mono ?_
        rintro e W3 (⟨rfl, hJ3, hk3⟩ | ⟨rfl, hJx3⟩)
        · have hc3 : W3.cell? ⟨Bn, 0, none⟩ = some (.string s) := (hk3.cell 0).trans hc
          gi_wp2
          go_roundw
          case rel => exact ⟨k + 1, by omega, by go_num, by rw [HN.out]; exact hJ3, hc3⟩
          case measure => simp [intOf]; omega
        · gi_wp2
          refine bodyPost_ret (results_none rfl _ _ _) rfl ?_
          exact ⟨⟨_, rfl⟩, .inr ⟨_, upto16_pre _ _ _ hlt, hJx3⟩⟩
    · have hk2 : s.size ≤ 2 * k := by rw [← size_toList]; unfold Cs.cnt at hlt; omega
      gi_wp2
      go_end0
      exact ⟨⟨_, rfl⟩, .inl ⟨_, by rw [show k = Cs.cnt s.data.toList from by omega], hJ⟩⟩
theorem words_stops (F : Fence) (n : Nat) (h6 : F.fn 263) (hro : F.round = none) (hn : 1 ≤ n) (Bn : Nat) (s : ByteArray) (hs : s.size ≤ 281474976710656) (w : World) (hBn : Bn < w.heap.size)
    (hc : w.cell? ⟨Bn, 0, none⟩ = some (.string s)) :
    SeqStopsK F n Tryz.prog 263 #[.pointer (some ⟨Bn, 0, none⟩)] (fun x : W16 => #[Value.int .i64 x.1]) (KeepsBlk Bn) (fun ys => ys = upto16 s.data.toList (Cs.cnt s.data.toList)) (fun pre => pre <+: upto16 s.data.toList (Cs.cnt s.data.toList)) (Cs.cnt s.data.toList) w :=
  fun l J Jx W hW _ _ hY h0 => words1_in F n h6 hro hn l Bn s hs J Jx hY W ((hW.cell (p := ⟨Bn, 0, none⟩) hBn).trans hc) h0
def tot16 (l : List W16) : Nat := Cs.tot (l.map (·.1))
theorem tot16_snoc (l : List W16) (x : W16) : tot16 (l ++ [x]) = Cs.plus (tot16 l) x.1 := by simp [tot16, Cs.tot_snoc]
theorem tot_le (l : List Nat) (h : ∀ x ∈ l, x ≤ 65535) : Cs.tot l ≤ 65535 := by
  unfold Cs.tot
  suffices g : ∀ (l : List Nat) (a : Nat), a ≤ 65535 → (∀ x ∈ l, x ≤ 65535) → l.foldl Cs.plus a ≤ 65535 from g l 0 (by omega) h
  intro l
  induction l with
  | nil => intro a ha _; exact ha
  | cons x r ih => intro a ha hx; exact ih _ (Cs.plus_le ha (hx x (by simp))) (fun y hy => hx y (by simp [hy]))
theorem tot16_le (l : List W16) : tot16 l ≤ 65535 := tot_le _ (by
  intro x hx
  simp only [List.mem_map] at hx
  obtain ⟨y, _, rfl⟩ := hx
  exact y.2)
set_option maxRecDepth 100000 in
set_option maxHeartbeats 2000000 in
theorem sum_in (F : Fence) (n : Nat) (h3 : F.fn 144) (h5 : F.fn 210) (h6 : F.fn 263) (h7 : F.fn 211) (hro : F.round = none) (hn : 4 ≤ n) (s : ByteArray) (hs : s.size ≤ 281474976710656) (w : World) :
    CallsIn F n Tryz.prog 144 #[.string s] w fun e W' => e = .returned (.int .i64 (Cs.sum s.data.toList)) ∧ Below w.heap.size w W' := by
  have h1 : 1 ≤ n := by omega
  refine callsIn_of_wp_marks Tryz.func144 rfl h3 ?_ hro
  simp only [Tryz.ntmps144, List.size_toArray, List.length_cons, List.length_nil, Nat.reduceAdd, Nat.reduceSub, Array.replicate_succ, Array.replicate_zero, List.push_toArray, List.append_toArray, List.nil_append, List.cons_append]
  gi_wp2_with (gi_at_call 210; refine (words_in F (n - 1) h5 hro _ _).mono ?_; rintro e w' ⟨rfl, rfl⟩)
  have hs0 := ccell_new w (.int .i64 0) 3
  have hb := ccell_new (w.alloc (.cells #[.int .i64 0] 3)) (.string s) 9
  rw [World.size_alloc] at hb
  have hB0 : Below w.heap.size w ((w.alloc (.cells #[.int .i64 0] 3)).alloc (.cells #[.string s] 9)) := ((Below.refl _ w).alloc (Nat.le_refl _) _).alloc (by simp) _
  refine wpIn_rangeFunc_ownF hro h1 (gf := 263) (lb := #[.pointer (some ⟨w.heap.size + 1, 0, none⟩)]) rfl h6 (enters_of Tryz.func263 (by kernel_rfl) rfl)
    (words_stops F (n - 1) h6 hro (by omega) (w.heap.size + 1) s hs _ (by simp) hb.1) KeepsBlk.trans (KeepsBlk.put (by simp)) (Below.refl _ _) (fun _ => rfl)
    (fun pre W => (W.cell? ⟨w.heap.size, 0, none⟩ = some (.int .i64 (tot16 pre)) ∧ W.frozen? ⟨w.heap.size, 0, none⟩ = false) ∧ Below w.heap.size w W)
    (fun _ _ _ => False)
    (OwnFrom.and (Own.from (fun s A B row hs hg hr => ⟨cell_kept hs.1 hg hr, (frozen_kept hs.1 hg hr).trans hs.2⟩) _) (ownFrom_below (Nat.le_refl _) (by simp; omega)))
    (fun _ _ _ _ _ hs _ _ => hs)
    ⟨⟨ccell_alloc _ hs0.1, cfrozen_alloc _ hs0.1 hs0.2⟩, hB0⟩
    (fun x => { tmps := #[.string s, undef, .int .i64 0, .pointer (some ⟨w.heap.size, 0, none⟩), .int .i64 x.1, .string s, .func (.func 263) #[] #[.pointer (some ⟨w.heap.size + 1, 0, none⟩)], .int .i64 x.1, undef, undef, undef, undef, undef], defers := [] }) ?assign ?body ?done ?stop
  case assign =>
    intro l x W K hK
    gi_wp2
    exact hK
  case body =>
    rintro l pre x W ⟨⟨hc, hf⟩, hB⟩ _
    have hle := tot16_le pre
    have h1' : 1 ≤ n - 1 - 1 := by omega
    gi_wp2_with (gi_at_call 211; refine (CallsIn.inRound l (plus_in F _ h7 hro _ _ hle x.2 _)).mono ?_; rintro e w' ⟨rfl, rfl⟩)
    exact ⟨KeepsOthers.setCell _ _ _, Below.heap_setCell _ _ _ _ (by simp), ⟨by rw [tot16_snoc]; exact World.cell?_setCell_same' _ _ _ (by rw [hc]; rfl), by rw [World.frozen?_setCell]; exact hf⟩, hB.setCell (p := ⟨w.heap.size, 0, none⟩) (Nat.le_refl _) _⟩
  case done =>
    rintro D ys W hD rfl ⟨⟨hc, _⟩, hB⟩ hK
    have hle := tot16_le (upto16 s.data.toList (Cs.cnt s.data.toList))
    have hsum := Cs.sum_of s.data.toList
    rw [← upto16_val] at hsum
    have hfin : Ending.returned (.int .i64 (65535 - (tot16 (upto16 s.data.toList (Cs.cnt s.data.toList)) : Int))) = .returned (.int .i64 (Cs.sum s.data.toList)) := ret_int (by rw [hsum]; unfold tot16 at hle ⊢; omega)
    have HS := Lib.hid hfin
    clear hsum hfin
    gi_wp2
    refine ⟨by simp, .inl ⟨_, _, rfl, run_takeDeferred hK, ?_⟩⟩
    refine ⟨_, results_tmp rfl _ _ _, ?_, hB.trans (belowK_b (w := w) (Nat.le_refl _) W D _ _ (by simp at hD; omega) hK rfl rfl)⟩
    exact HS.out
  case stop =>
    rintro D c pre W _ _ h _
    exact h.elim
theorem sum_any (s : ByteArray) (hs : s.size ≤ 281474976710656) (w : World) :
    Calls Tryz.prog 144 #[.string s] w fun e W' => e = .returned (.int .i64 (Cs.sum s.data.toList)) ∧ Below w.heap.size w W' :=
  (callsIn_wide (n := 4)).1 (sum_in Fence.wide 4 trivial trivial trivial trivial rfl (by decide) s hs w)
theorem right_any (s : ByteArray) (hs : s.size ≤ 281474976710656) (w : World) :
    Calls Tryz.prog 72 #[.string s] w fun e W' => e = .returned (.bool ((Cs.sum s.data.toList : Int) == 0)) ∧ Below w.heap.size w W' := by
  go_enter Tryz.func72, Tryz.ntmps72
  go_wp2_with ((with_reducible refine (sum_any s hs _).mono ?_); rintro e w1 ⟨rfl, h1⟩)
  go_ret
  exact ⟨rfl, h1⟩
end Go.Proofs.YticdmepplfgdiaaGreatDoor
end
section
namespace Go.Proofs.YticdmepplfgdiaaGreatDoor
open Go.RowKit Go.Shelf
attribute [local go_sem] Oper.semAt_some
/-- THE LOOP's LAW, where nothing comes -/
theorem wp_range_none {F : Fence} {n : Nat} {g : Operand} {p : Tmp} {assign body : Code} {Q : Exit → Act → World → Prop} {a : Act} {w : World}
    (hro : F.round = none) (h1 : 1 ≤ n) {gf : Nat} {lb : Array Value} (hg : a.eval g = .func (.func gf) #[] lb) (hFg : F.fn gf) (eg : ∀ args w, (callFunc gf args).run Tryz.prog w = .ok (.enter gf args) w)
    (hG : ∀ l W, Below w.heap.size w W → CallsIn F (n - 1) Tryz.prog gf (#[.func (.yield l) #[] #[]] ++ lb) W fun e W' => (∃ v, e = .returned v) ∧ Below W.heap.size W W')
    (hdone : ∀ (W : World), Below w.heap.size w W → W.heap[w.heap.size]? = some (.deferred (some [])) → Q .normal { a with defers := { target := .collected w.heap.size, args := #[] } :: a.defers } W) :
    (Code.rangeFunc g #[p] assign body).wpIn F n Tryz.prog Q a w := by
  refine wpIn_rangeFunc fun fn hfn => ?_
  rw [hro]
  let R : LoopState → Option Code → Obj := fun st j => .loop { state := st, pending := j, fn, tmps := a.tmps, params := #[p], assign, body, defers := w.heap.size }
  let W0 : World := (w.alloc (.deferred (some []))).alloc (R .ready none)
  have hD0 : W0.heap[w.heap.size]? = some (.deferred (some [])) := (Below.heap_alloc _ _ _ (by simp)).trans (World.alloc_heap_new w _)
  have hL0 : W0.heap[w.heap.size + 1]? = some (R .ready none) := by
    have h := World.alloc_heap_new (w.alloc (.deferred (some []))) (R .ready none)
    rwa [World.size_alloc] at h
  have hB0 : Below w.heap.size w W0 := ((Below.refl _ w).alloc (Nat.le_refl _) _).alloc (by simp) _
  have hs0 : W0.heap.size = w.heap.size + 2 := by simp [W0]
  refine ⟨w.heap.size + 1, [{ target := .collected w.heap.size, args := #[] }], W0, { target := .fn (.func gf) lb, args := #[.func (.yield (w.heap.size + 1)) #[] #[]] }, W0, gf,
    #[.func (.yield (w.heap.size + 1)) #[] #[]] ++ lb, W0, run_enterLoop_outer _ _ _ _ _, ?_, ?_, ?_, fun _ => h1, ?_⟩
  · simp only [resolve, hg]
    simp [go_sem]
  · intro f' hf'
    simp only [Target.leads, Option.some.injEq] at hf'
    exact hf' ▸ hFg
  · simp [invoke, go_sem, eg]
  refine (hG (w.heap.size + 1) W0 hB0).mono ?_
  rintro e W ⟨⟨v, rfl⟩, hb⟩
  have k3 : W.heap[w.heap.size + 1]? = some (R .ready none) := (hb.block _ (by omega)).trans hL0
  have k4 : W.heap[w.heap.size]? = some (.deferred (some [])) := (hb.block _ (by omega)).trans hD0
  refine ⟨none, _, run_endLoop k3 (by simp), hdone _ ?_ ((World.putObj_heap_other (by omega)).trans k4)⟩
  exact (hB0.trans (hb.mono (by omega))).grown (grownBy_putObj' W _ _) (by have := hb.size; omega) (fun k e => by cases e; omega)
set_option maxRecDepth 100000 in
set_option maxHeartbeats 2000000 in
theorem keys_none (b mb : Nat) (y : Value) (w : World) (hb : w.cell? ⟨b, 0, none⟩ = some (.map (some mb))) (hm : NoMap w mb) :
    Calls Tryz.prog 233 #[y, .pointer (some ⟨b, 0, none⟩)] w fun e w' => (∃ v, e = .returned v) ∧ Below w.heap.size w w' := by
  obtain ⟨clock, h2⟩ := hm
  have hrg := run_range_map (P := Tryz.prog) w 200 _ _ mb #[] clock Tryz.underlying200 h2
  have hnx := fun ty => next_empty w ty mb clock h2
  clear h2
  go_enter Tryz.func233, Tryz.ntmps233
  go_wp2
  go_loopw [] (fun wr => wr = w.alloc (.mapIter (some mb) clock #[] clock)) (fun _ => 0)
  case atStart => rfl
  case round =>
    obtain rfl := hrel
    go_wp2
    go_end0
    exact ⟨⟨_, rfl⟩, bbox1 _ _⟩
theorem keys_made (mb : Nat) (w : World) :
    Calls Tryz.prog 166 #[.map (some mb)] w fun e w' => e = .returned (.func (.func 233) #[] #[.pointer (some ⟨w.heap.size, 0, none⟩)]) ∧ w' = w.alloc (.cells #[.map (some mb)] 200) := by
  go_enter Tryz.func166, Tryz.ntmps166
  go_wp2
  go_ret
  exact ⟨rfl, rfl⟩
set_option maxRecDepth 100000 in
set_option maxHeartbeats 2000000 in
theorem append_none (n : Nat) (hn : 3 ≤ n) (b mb : Nat) (w : World) (hb : w.cell? ⟨b, 0, none⟩ = some (.map (some mb))) (hbl : b < w.heap.size) (hm : NoMap w mb) :
    CallsIn Fence.wide n Tryz.prog 270 #[.slice none 0 0, .func (.func 233) #[] #[.pointer (some ⟨b, 0, none⟩)]] w fun e w' => e = .returned (.slice none 0 0) ∧ Below w.heap.size w w' := by
  have h1 : 1 ≤ n := by omega
  have HK := Lib.hid (fun (y : Value) (W : World) (g : Below w.heap.size w W) => keys_none b mb y W ((g.cell (p := ⟨b, 0, none⟩) hbl).trans hb) (hm.below g))
  refine callsIn_of_wp_marks Tryz.func270 rfl trivial ?_ rfl
  simp only [Tryz.ntmps270, List.size_toArray, List.length_cons, List.length_nil, Nat.reduceAdd, Nat.reduceSub, Array.replicate_succ, Array.replicate_zero, List.push_toArray, List.append_toArray, List.nil_append, List.cons_append]
  gi_wp2
  refine wp_range_none rfl h1 (gf := 233) (lb := #[.pointer (some ⟨b, 0, none⟩)]) rfl trivial (enters_of Tryz.func233 (by kernel_rfl) rfl) ?it ?done
  case it =>
    intro l W hW
    exact callsIn_wide.2 (HK.out _ _ (bstep (bbox1 _ _) hW))
  case done =>
    intro W hW hD
    have hc : W.cell? ⟨w.heap.size, 0, none⟩ = some (.slice none 0 0) := (hW.cell (p := ⟨w.heap.size, 0, none⟩) (by simp)).trans (by simp [go_sem])
    simp only [World.size_alloc] at hD ⊢
    have hb2 : Below w.heap.size w (W.putObj (w.heap.size + 1) (.deferred none)) := (bstep (bbox1 _ _) hW).grown (grownBy_putObj' W _ _) (by have := hW.size; simp at this; omega) (fun k e => by cases e; omega)
    have HB2 := Lib.hid hb2
    clear hb2 hW
    gi_wp2
    refine ⟨by simp, .inl ⟨_, _, rfl, run_takeDeferred hD, ?_⟩⟩
    exact ⟨_, results_tmp rfl _ _ _, rfl, HB2.out⟩
theorem append_none' (b mb : Nat) (w : World) (hb : w.cell? ⟨b, 0, none⟩ = some (.map (some mb))) (hbl : b < w.heap.size) (hm : NoMap w mb) :
    Calls Tryz.prog 270 #[.slice none 0 0, .func (.func 233) #[] #[.pointer (some ⟨b, 0, none⟩)]] w fun e w' => e = .returned (.slice none 0 0) ∧ Below w.heap.size w w' :=
  callsIn_wide.1 (append_none 3 (by decide) b mb w hb hbl hm)
theorem collect_none (b mb : Nat) (w : World) (hb : w.cell? ⟨b, 0, none⟩ = some (.map (some mb))) (hbl : b < w.heap.size) (hm : NoMap w mb) :
    Calls Tryz.prog 231 #[.func (.func 233) #[] #[.pointer (some ⟨b, 0, none⟩)]] w fun e w' => e = .returned (.slice none 0 0) ∧ Below w.heap.size w w' := by
  have HA := Lib.hid (append_none' b mb w hb hbl hm)
  go_enter Tryz.func231, Tryz.ntmps231
  go_wp2_with (go_at_call 270; (with_reducible refine HA.out.mono ?_); rintro e w1 ⟨rfl, g1⟩)
  go_ret
  exact ⟨rfl, g1⟩
set_option maxRecDepth 100000 in
theorem insertion_none (c : Value) (w : World) : Calls Tryz.prog 309 #[.slice none 0 0, .int .i64 0, .int .i64 0, c] w fun e w' => e = .returned (.tuple #[]) ∧ w' = w := by
  go_enter Tryz.func309, Tryz.ntmps309
  go_wp2
  go_loopw [8] (fun i wr => i = .int .i64 1 ∧ wr = w) (fun _ _ => 0)
  case atStart => exact ⟨by go_num, rfl⟩
  case round =>
    obtain ⟨rfl, rfl⟩ := hrel
    go_wp2
    go_end0
    exact ⟨rfl, rfl⟩
set_option maxRecDepth 100000 in
theorem pdq_none (c : Value) (l : Int) (w : World) : Calls Tryz.prog 271 #[.slice none 0 0, .int .i64 0, .int .i64 0, .int .i64 l, c] w fun e w' => e = .returned (.tuple #[]) ∧ w' = w := by
  have HI := Lib.hid insertion_none
  go_enter Tryz.func271, Tryz.ntmps271
  go_wp2
  go_loopw [1, 2, 3] (fun x y _ wr => x = .int .i64 0 ∧ y = .int .i64 0 ∧ wr = w) (fun _ _ _ _ => 0)
  case atStart => exact ⟨rfl, rfl, rfl⟩
  case round =>
    obtain ⟨rfl, rfl, rfl⟩ := hrel
    go_wp2_with (go_at_call 309; (with_reducible refine (HI.out _ _).mono ?_); rintro e w1 ⟨rfl, rfl⟩)
    exact bodyPost_ret (results_none rfl _ _ _) rfl ⟨rfl, rfl⟩
set_option maxRecDepth 100000 in
theorem len64_zero (w : World) : Calls Tryz.prog 229 #[.int .u64 0] w fun e w' => e = .returned (.int .i64 0) ∧ w' = w := by
  go_enter Tryz.func229, Tryz.ntmps229
  go_wp2
  go_ret
  exact ⟨by kernel_rfl, rfl⟩
set_option maxRecDepth 100000 in
theorem bitlen_zero (w : World) : Calls Tryz.prog 159 #[.int .u64 0] w fun e w' => e = .returned (.int .i64 0) ∧ w' = w := by
  have HL := Lib.hid len64_zero
  go_enter Tryz.func159, Tryz.ntmps159
  go_wp2_with (go_at_call 229; (with_reducible refine (HL.out _).mono ?_); rintro e w1 ⟨rfl, rfl⟩)
  go_ret
  exact ⟨rfl, rfl⟩
set_option maxRecDepth 100000 in
theorem sort_none (c : Value) (w : World) : Calls Tryz.prog 232 #[.slice none 0 0, c] w fun e w' => e = .returned (.tuple #[]) ∧ w' = w := by
  have HL := Lib.hid bitlen_zero
  have HP := Lib.hid pdq_none
  go_enter Tryz.func232, Tryz.ntmps232
  go_wp2_with (first | (go_at_call 159; (with_reducible refine (HL.out _).mono ?_); rintro e w1 ⟨rfl, rfl⟩) | (go_at_call 271; (with_reducible refine (HP.out _ _ _).mono ?_); rintro e w1 ⟨rfl, rfl⟩))
  go_end0
  exact ⟨rfl, rfl⟩
theorem sorted_none (b mb : Nat) (c : Value) (w : World) (hb : w.cell? ⟨b, 0, none⟩ = some (.map (some mb))) (hbl : b < w.heap.size) (hm : NoMap w mb) :
    Calls Tryz.prog 165 #[.func (.func 233) #[] #[.pointer (some ⟨b, 0, none⟩)], c] w fun e w' => e = .returned (.slice none 0 0) ∧ Below w.heap.size w w' := by
  have HA := Lib.hid (collect_none b mb w hb hbl hm)
  have HS := Lib.hid sort_none
  go_enter Tryz.func165, Tryz.ntmps165
  go_wp2_with (first | (go_at_call 231; (with_reducible refine HA.out.mono ?_); rintro e w1 ⟨rfl, g1⟩) | (go_at_call 232; (with_reducible refine (HS.out _ _).mono ?_); rintro e w1 ⟨rfl, rfl⟩))
  go_ret
  exact ⟨rfl, g1⟩
set_option maxRecDepth 100000 in
set_option maxHeartbeats 2000000 in
theorem all_none (bx b sm om : Nat) (room member last : Int) (y : Value) (w : World) (hb : w.cell? ⟨bx, 0, none⟩ = some (.pointer (some ⟨b, 0, none⟩))) (h : BareAt w b sm om room member last) :
    Calls Tryz.prog 164 #[y, .pointer (some ⟨bx, 0, none⟩)] w fun e w' => (∃ v, e = .returned v) ∧ Below w.heap.size w w' := by
  have c3 := h.1.get 3 _ rfl
  have HM := Lib.hid (keys_made sm w)
  have HS := Lib.hid (fun (c : Value) => sorted_none w.heap.size sm c (w.alloc (.cells #[.map (some sm)] 200)) (by simp [go_sem]) (by simp) (h.2.1.below (bbox1 _ _)))
  clear h
  go_enter Tryz.func164, Tryz.ntmps164
  go_wp2_with (first | (go_at_call 166; (with_reducible refine HM.out.mono ?_); rintro e w1 ⟨rfl, rfl⟩) | (go_at_call 165; (with_reducible refine (HS.out _).mono ?_); rintro e w2 ⟨rfl, g2⟩))
  have HG := Lib.hid (bstep (bbox1 _ _) g2)
  clear g2
  go_loopw [14] (fun i wr => i = .int .i64 0 ∧ wr = w2) (fun _ _ => 0)
  case atStart => exact ⟨rfl, rfl⟩
  case round =>
    obtain ⟨rfl, rfl⟩ := hrel
    go_wp2
    go_end0
    exact ⟨⟨_, rfl⟩, HG.out⟩
theorem all_made (b : Nat) (w : World) :
    Calls Tryz.prog 99 #[.pointer (some ⟨b, 0, none⟩)] w fun e w' => e = .returned (.func (.func 164) #[] #[.pointer (some ⟨w.heap.size, 0, none⟩)]) ∧ w' = w.alloc (.cells #[.pointer (some ⟨b, 0, none⟩)] 90) := by
  go_enter Tryz.func99, Tryz.ntmps99
  go_wp2
  go_ret
  exact ⟨rfl, rfl⟩
set_option maxRecDepth 100000 in
set_option maxHeartbeats 2000000 in
theorem expire_none (n : Nat) (hn : 3 ≤ n) (b sm om : Nat) (room member last now : Int) (h0 : 1 ≤ now) (h1 : now ≤ 1099511627776) (w : World) (h : BareAt w b sm om room member last) :
    CallsIn Fence.wide n Tryz.prog 52 #[.pointer (some ⟨b, 0, none⟩), .int .i64 now] w fun e w' => e = .returned (.int .i64 0) ∧ Below w.heap.size w w' := by
  have hn1 : 1 ≤ n := by omega
  have hf1 : Fence.wide.fn 90 := trivial
  have hf2 : Fence.wide.fn 99 := trivial
  have hin : inside now 1 1099511627776 = true := by unfold inside; rw [decide_eq_true h0, decide_eq_true h1]; rfl
  have HW := Lib.hid (table_within now 1 1099511627776)
  rw [hin] at HW
  have HM := Lib.hid (all_made b)
  have HA := Lib.hid (fun (bx : Nat) (y : Value) (W : World) (hb : W.cell? ⟨bx, 0, none⟩ = some (.pointer (some ⟨b, 0, none⟩))) (g : Below w.heap.size w W) => all_none bx b sm om room member last y W hb (h.below g))
  clear h hin
  refine callsIn_of_wp_marks Tryz.func52 rfl trivial ?_ rfl
  simp only [Tryz.ntmps52, List.size_toArray, List.length_cons, List.length_nil, Nat.reduceAdd, Nat.reduceSub, Array.replicate_succ, Array.replicate_zero, List.push_toArray, List.append_toArray, List.nil_append, List.cons_append]
  gi_wp2_with (first | (gi_at_call 90; refine ((callsIn_wide (n := n - 1)).2 (HW.out _)).mono ?_; rintro e w1 ⟨rfl, rfl⟩) | (gi_at_call 99; refine ((callsIn_wide (n := n - 1)).2 (HM.out _)).mono ?_; rintro e w1 ⟨rfl, rfl⟩))
  have hb4 : Below w.heap.size w ((((w.alloc (.cells #[.pointer (some ⟨b, 0, none⟩)] 90)).alloc (.cells #[.int .i64 now] 3)).alloc (.cells #[.int .i64 0] 3)).alloc (.cells #[.pointer (some ⟨b, 0, none⟩)] 90)) :=
    ((((Below.refl _ w).alloc (Nat.le_refl _) _).alloc (by simp) _).alloc (by simp; omega) _).alloc (by simp; omega) _
  refine wp_range_none rfl hn1 (gf := 164) (lb := #[.pointer (some ⟨w.heap.size + 1 + 1 + 1, 0, none⟩)]) rfl trivial (enters_of Tryz.func164 (by kernel_rfl) rfl) ?it ?done
  case it =>
    intro l W hW
    exact callsIn_wide.2 (HA.out _ _ _ ((hW.cell (p := ⟨w.heap.size + 1 + 1 + 1, 0, none⟩) (by simp)).trans (by simp [go_sem])) (bstep hb4 hW))
  case done =>
    intro W hW hD
    have hc : W.cell? ⟨w.heap.size + 1 + 1, 0, none⟩ = some (.int .i64 0) := (hW.cell (p := ⟨w.heap.size + 1 + 1, 0, none⟩) (by simp)).trans (by simp [go_sem])
    simp only [World.size_alloc] at hD ⊢
    have hb2 : Below w.heap.size w (W.putObj (w.heap.size + 1 + 1 + 1 + 1) (.deferred none)) := (bstep hb4 hW).grown (grownBy_putObj' W _ _) (by have := hW.size; simp at this; omega) (fun k e => by cases e; omega)
    have HB2 := Lib.hid hb2
    clear hb2 hW hb4
    gi_wp2
    refine ⟨by simp, .inl ⟨_, _, rfl, run_takeDeferred hD, ?_⟩⟩
    exact ⟨_, results_tmp rfl _ _ _, rfl, HB2.out⟩
theorem bare_expire (b sm om : Nat) (room member last now : Int) (h0 : 1 ≤ now) (h1 : now ≤ 1099511627776) (w : World) (h : BareAt w b sm om room member last) :
    Calls Tryz.prog 52 #[.pointer (some ⟨b, 0, none⟩), .int .i64 now] w fun e w' => e = .returned (.int .i64 0) ∧ Below w.heap.size w w' :=
  callsIn_wide.1 (expire_none 3 (by decide) b sm om room member last now h0 h1 w h)
end Go.Proofs.YticdmepplfgdiaaGreatDoor
end
section
namespace Go.Proofs.YticdmepplfgdiaaGreatDoor
open Go.RowKit
set_option maxRecDepth 100000 in
theorem insertion_few (a : Option Addr) (n c : Nat) (hn : n ≤ 1) (w : World) : Calls Tryz.prog 219 #[.slice a n c, .int .i64 0, .int .i64 n] w fun e w' => e = .returned (.tuple #[]) ∧ w' = w := by
  have h1 : decide ((1 : Int) < (n : Int)) = false := decide_eq_false (by omega)
  go_enter Tryz.func219, Tryz.ntmps219
  go_wp2
  go_loopw [6, 7] (fun i _ wr => i = .int .i64 1 ∧ wr = w) (fun _ _ _ => 0)
  case atStart => exact ⟨by go_num, rfl⟩
  case round =>
    obtain ⟨rfl, rfl⟩ := hrel
    go_wp2
    go_end0
    exact ⟨rfl, rfl⟩
set_option maxRecDepth 100000 in
set_option maxHeartbeats 1000000 in
theorem pdq_few (a : Option Addr) (n c : Nat) (hn : n ≤ 1) (l : Int) (w : World) : Calls Tryz.prog 158 #[.slice a n c, .int .i64 0, .int .i64 n, .int .i64 l] w fun e w' => e = .returned (.tuple #[]) ∧ w' = w := by
  have HI := Lib.hid (fun W => insertion_few a n c hn W)
  have h1 : decide ((n : Int) ≤ 12) = true := decide_eq_true (by omega)
  go_enter Tryz.func158, Tryz.ntmps158
  go_wp2
  go_loopw [1, 2, 3] (fun x y _ wr => x = .int .i64 0 ∧ y = .int .i64 n ∧ wr = w) (fun _ _ _ _ => 0)
  case atStart => exact ⟨rfl, rfl, rfl⟩
  case round =>
    obtain ⟨rfl, rfl, rfl⟩ := hrel
    go_wp2_with (go_at_call 219; (with_reducible refine (HI.out _).mono ?_); rintro e w1 ⟨rfl, rfl⟩)
    exact bodyPost_ret (results_none rfl _ _ _) rfl ⟨rfl, rfl⟩
set_option maxRecDepth 100000 in
theorem len64_one (w : World) : Calls Tryz.prog 229 #[.int .u64 1] w fun e w' => e = .returned (.int .i64 1) ∧ w' = w := by
  go_enter Tryz.func229, Tryz.ntmps229
  go_wp2
  go_ret
  exact ⟨by kernel_rfl, rfl⟩
set_option maxRecDepth 100000 in
theorem len64_two (w : World) : Calls Tryz.prog 229 #[.int .u64 2] w fun e w' => e = .returned (.int .i64 2) ∧ w' = w := by
  go_enter Tryz.func229, Tryz.ntmps229
  go_wp2
  go_ret
  exact ⟨by kernel_rfl, rfl⟩
set_option maxRecDepth 100000 in
theorem bitlen_one (w : World) : Calls Tryz.prog 159 #[.int .u64 1] w fun e w' => e = .returned (.int .i64 1) ∧ w' = w := by
  have HL := Lib.hid len64_one
  go_enter Tryz.func159, Tryz.ntmps159
  go_wp2_with (go_at_call 229; (with_reducible refine (HL.out _).mono ?_); rintro e w1 ⟨rfl, rfl⟩)
  go_ret
  exact ⟨rfl, rfl⟩
set_option maxRecDepth 100000 in
theorem bitlen_two (w : World) : Calls Tryz.prog 159 #[.int .u64 2] w fun e w' => e = .returned (.int .i64 2) ∧ w' = w := by
  have HL := Lib.hid len64_two
  go_enter Tryz.func159, Tryz.ntmps159
  go_wp2_with (go_at_call 229; (with_reducible refine (HL.out _).mono ?_); rintro e w1 ⟨rfl, rfl⟩)
  go_ret
  exact ⟨rfl, rfl⟩
set_option maxRecDepth 100000 in
theorem sort_nil (a : Option Addr) (c : Nat) (w : World) : Calls Tryz.prog 87 #[.slice a 0 c] w fun e w' => e = .returned (.tuple #[]) ∧ w' = w := by
  have HL := Lib.hid bitlen_zero
  have HP := Lib.hid (fun l W => pdq_few a 0 c (by decide) l W)
  go_enter Tryz.func87, Tryz.ntmps87
  go_wp2_with (first | (go_at_call 159; (with_reducible refine (HL.out _).mono ?_); rintro e w1 ⟨rfl, rfl⟩) | (go_at_call 158; refine (HP.out _ _).mono ?_; rintro e w1 ⟨rfl, rfl⟩))
  go_end0
  exact ⟨rfl, rfl⟩
set_option maxRecDepth 100000 in
theorem sort_one (a : Option Addr) (c : Nat) (w : World) : Calls Tryz.prog 87 #[.slice a 1 c] w fun e w' => e = .returned (.tuple #[]) ∧ w' = w := by
  have HL := Lib.hid bitlen_one
  have HP := Lib.hid (fun l W => pdq_few a 1 c (by decide) l W)
  go_enter Tryz.func87, Tryz.ntmps87
  go_wp2_with (first | (go_at_call 159; (with_reducible refine (HL.out _).mono ?_); rintro e w1 ⟨rfl, rfl⟩) | (go_at_call 158; refine (HP.out _ _).mono ?_; rintro e w1 ⟨rfl, rfl⟩))
  go_end0
  exact ⟨rfl, rfl⟩
set_option maxRecDepth 100000 in
theorem compact_few (a : Option Addr) (n c : Nat) (hn : n ≤ 1) (w : World) : Calls Tryz.prog 88 #[.slice a n c] w fun e w' => e = .returned (.slice a n c) ∧ w' = w := by
  have h1 : decide ((n : Int) < 2) = true := decide_eq_true (by omega)
  go_enter Tryz.func88, Tryz.ntmps88
  go_wp2
  go_ret
  exact ⟨rfl, rfl⟩
end Go.Proofs.YticdmepplfgdiaaGreatDoor
end
