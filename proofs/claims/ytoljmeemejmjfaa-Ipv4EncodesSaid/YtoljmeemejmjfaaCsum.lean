/-
  What the program's csum.plus, csum.Sum and csum.Right compute. Condition: a text's length lies well within an int.
-/
import Derived.Test.YtoljmeemejmjfaaBase
import Derived.Test.YtoljmeemejmjfaaCsPl
import Derived.RangeFuncNested
import Derived.RangeFuncBound
import Derived.RangeFuncCalls
import Derived.RangeFuncLeaves
import Derived.Shelf.Abstract
import Derived.Shelf.RegionOpen
import Derived.OwnWalkIn
import Derived.TacticsInMore
import Derived.LoopNIn
import Derived.LoopIn
namespace Go.Proofs.Ytoljmeemejmjfaa
open Go.RowKit Go.Shelf

attribute [local go_sem] Oper.semAt_some

theorem ccell_of_box {W : World} {B : Nat} {v : Value} {t : TypeId} (h : W.heap[B]? = some (.cells #[v] t (0, 0))) : W.cell? ⟨B, 0, none⟩ = some v ∧ W.frozen? ⟨B, 0, none⟩ = false := by
  constructor <;> simp [World.cell?, World.frozen?, h]
theorem ccell_new (W : World) (v : Value) (t : TypeId) : (W.alloc (.cells #[v] t)).cell? ⟨W.heap.size, 0, none⟩ = some v ∧ (W.alloc (.cells #[v] t)).frozen? ⟨W.heap.size, 0, none⟩ = false :=
  ccell_of_box (World.alloc_heap_new W _)
theorem ccell_alloc {W : World} {a : Addr} {v : Value} (o : Obj) (h : W.cell? a = some v) : (W.alloc o).cell? a = some v := cell_kept h (World.grownBy_alloc W o none) (fun r e => by cases e)
theorem cfrozen_alloc {W : World} {a : Addr} {v : Value} (o : Obj) (h : W.cell? a = some v) (hf : W.frozen? a = false) : (W.alloc o).frozen? a = false := (frozen_kept h (World.grownBy_alloc W o none) (fun r e => by cases e)).trans hf

theorem plus_num (a b : Nat) (ha : a ≤ 65535) (hb : b ≤ 65535) : bits .and .i64 ((a : Int) + (b : Int)) 65535 + ((a : Int) + (b : Int)) / 65536 = (Cs.plus a b : Int) := by
  have h := i64_and_nat (a + b) 65535 (by omega) (by omega)
  rw [nat_mask16, Int.natCast_add] at h
  rw [show ((65535 : Nat) : Int) = 65535 from rfl] at h
  rw [h]
  unfold Cs.plus
  split <;> omega

theorem plus_in (F : Fence) (n : Nat) (h : F.fn 34) (hro : F.round = none) (a b : Nat) (ha : a ≤ 65535) (hb : b ≤ 65535) (w : World) :
    CallsIn F n Try.prog 34 #[.int .i64 a, .int .i64 b] w fun e w' => e = .returned (.int .i64 (Cs.plus a b)) ∧ w' = w := by
  refine callsIn_of_wp Try.func34 rfl h ?_ hro
  simp only [Try.ntmps34, List.size_toArray, List.length_cons, List.length_nil, Nat.reduceAdd, Nat.reduceSub, Array.replicate_succ, Array.replicate_zero, List.push_toArray, List.append_toArray, List.nil_append, List.cons_append]
  have hp := plus_num a b ha hb
  have hl := Cs.plus_le ha hb
  have H := Lib.hid hp
  clear hp
  gi_wp2
  go_ret
  exact ⟨ret_int (by rw [H.out, IntWalk.wrap64_in _ ⟨by omega, by omega⟩]), rfl⟩

theorem words_in (F : Fence) (n : Nat) (h : F.fn 33) (hro : F.round = none) (s : ByteArray) (w : World) :
    CallsIn F n Try.prog 33 #[.string s] w fun e w' => e = .returned (.func (.func 38) #[] #[.pointer (some ⟨w.heap.size, 0, none⟩)]) ∧ w' = w.alloc (.cells #[.string s] 9) := by
  refine callsIn_of_wp Try.func33 rfl h ?_ hro
  simp only [Try.ntmps33, List.size_toArray, List.length_cons, List.length_nil, Nat.reduceAdd, Nat.reduceSub, Array.replicate_succ, Array.replicate_zero, List.push_toArray, List.append_toArray, List.nil_append, List.cons_append]
  gi_wp2
  go_ret
  exact ⟨rfl, rfl⟩

/-- a block lies as it lay -/
def KeepsBlk (b : Nat) (W W' : World) : Prop := W'.heap[b]? = W.heap[b]?
theorem KeepsBlk.trans {b : Nat} {A B C : World} (h : KeepsBlk b A B) (k : KeepsBlk b B C) : KeepsBlk b A C := Eq.trans k h
theorem KeepsBlk.cell {b : Nat} {W W' : World} (h : KeepsBlk b W W') (o : Nat) : W'.cell? ⟨b, o, none⟩ = W.cell? ⟨b, o, none⟩ := World.cell?_of_block (w := W) (a := ⟨b, o, none⟩) h
theorem KeepsBlk.put {b n : Nat} (hb : b < n) (W : World) (l : Nat) (o o' : Obj) (hl : n ≤ l) (_ : W.heap[l]? = some o) (_ : o.isCells = false) (_ : o.isWalk = false) : KeepsBlk b W (W.putObj l o') := by
  have h : l ≠ b := by omega
  simp [KeepsBlk, World.putObj, h]

/-- a word -/
abbrev W16 := { x : Nat // x ≤ 65535 }
def upto16 (l : List UInt8) (k : Nat) : List W16 := (List.range k).map fun j => ⟨Cs.wordAt l j, Cs.wordAt_le l j⟩
theorem upto16_succ (l : List UInt8) (k : Nat) : upto16 l (k + 1) = upto16 l k ++ [⟨Cs.wordAt l k, Cs.wordAt_le l k⟩] := by
  simp [upto16, List.range_succ]
theorem upto16_val (l : List UInt8) (k : Nat) : (upto16 l k).map (·.1) = Cs.upto l k := by
  simp [upto16, Cs.upto]

theorem upto16_pre (l : List UInt8) (k n : Nat) (h : k < n) : upto16 l k ++ [⟨Cs.wordAt l k, Cs.wordAt_le l k⟩] <+: upto16 l n := by
  rw [← upto16_succ]
  obtain ⟨d, rfl⟩ : ∃ d, n = k + 1 + d := ⟨n - (k + 1), by omega⟩
  simp only [upto16, List.range_add, List.map_append]
  exact ⟨_, rfl⟩

theorem getD_byte (s : ByteArray) (k : Nat) (h : k < s.size) : s.data.toList.getD k 0 = s[k]'h := by
  have e := size_toList s
  rw [List.getD_eq_getElem?_getD, List.getElem?_eq_getElem (by omega)]
  rfl
theorem getD_end (s : ByteArray) (k : Nat) (h : s.size ≤ k) : s.data.toList.getD k 0 = 0 := by
  have e := size_toList s
  rw [List.getD_eq_getElem?_getD, List.getElem?_eq_none (by omega)]
  rfl
theorem wrap64_u8 (b : UInt8) : wrap64 (b.toNat : Int) = (b.toNat : Int) := IntWalk.wrap64_in _ (by have := b.toNat_lt; omega)

theorem word_two (s : ByteArray) (k : Nat) (h : 2 * k + 1 < s.size) :
    bits BinOp.or IntKind.i64 (wrap64 (wrap64 ((s[2 * k]'(by omega)).toNat : Int) * 256)) (wrap64 ((s[2 * k + 1]'h).toNat : Int)) = (Cs.wordAt s.data.toList k : Int) := by
  have h1 := (s[2 * k]'(by omega)).toNat_lt
  have h2 := (s[2 * k + 1]'h).toNat_lt
  rw [wrap64_u8, wrap64_u8, IntWalk.wrap64_in _ ⟨by omega, by omega⟩, i64_or_byte _ _ (by omega) h2, Cs.wordAt, getD_byte s _ (by omega), getD_byte s _ h]

theorem word_one (s : ByteArray) (k : Nat) (h : 2 * k < s.size) (h1 : s.size ≤ 2 * k + 1) :
    wrap64 (wrap64 ((s[2 * k]'h).toNat : Int) * 256) = (Cs.wordAt s.data.toList k : Int) := by
  have h2 := (s[2 * k]'h).toNat_lt
  rw [wrap64_u8, IntWalk.wrap64_in _ ⟨by omega, by omega⟩, Cs.wordAt, getD_byte s _ h, getD_end s _ h1]
  show _ = ((256 * _ + 0 : Nat) : Int)
  omega

set_option maxRecDepth 100000 in
set_option maxHeartbeats 2000000 in
theorem words1_in (F : Fence) (n : Nat) (h6 : F.fn 38) (hro : F.round = none) (hn : 1 ≤ n) (l Bn : Nat) (s : ByteArray) (hs : s.size ≤ 281474976710656) (J Jx : List W16 → World → Prop)
    (hY : ∀ pre x W, J pre W → pre.length < Cs.cnt s.data.toList → YieldAt F (n - 1) Try.prog l #[.int .i64 x.1] W fun e W' =>
      (e = .returned (.bool true) ∧ J (pre ++ [x]) W' ∧ KeepsBlk Bn W W') ∨ (e = .returned (.bool false) ∧ Jx (pre ++ [x]) W'))
    (W : World) (hBn : W.cell? ⟨Bn, 0, none⟩ = some (.string s)) (h0 : J [] W) :
    CallsIn F n Try.prog 38 #[.func (.yield l) #[] #[], .pointer (some ⟨Bn, 0, none⟩)] W fun e W' => (∃ v, e = .returned v) ∧
      ((∃ ys, ys = upto16 s.data.toList (Cs.cnt s.data.toList) ∧ J ys W') ∨ (∃ pre, pre <+: upto16 s.data.toList (Cs.cnt s.data.toList) ∧ Jx pre W')) := by
  refine callsIn_of_wp Try.func38 rfl h6 ?_ hro
  simp only [Try.ntmps38, List.size_toArray, List.length_cons, List.length_nil, Nat.reduceAdd, Nat.reduceSub, Array.replicate_succ, Array.replicate_zero, List.push_toArray, List.append_toArray, List.nil_append, List.cons_append]
  gi_wp2
  gi_loopw [3] (fun i wr => ∃ k : Nat, k ≤ Cs.cnt s.data.toList ∧ i = .int .i64 ((2 * k : Nat) : Int) ∧ J (upto16 s.data.toList k) wr ∧ wr.cell? ⟨Bn, 0, none⟩ = some (.string s))
    (fun i _ => s.size + 2 - (intOf i).toNat)
  case atStart => exact ⟨0, Nat.zero_le _, rfl, h0, hBn⟩
  case round =>
    obtain ⟨k, hk, rfl, hJ, hc⟩ := hrel
    by_cases hlt : k < Cs.cnt s.data.toList
    · have hk2 : 2 * k < s.size := by rw [← size_toList]; unfold Cs.cnt at hlt; omega
      obtain ⟨fn, tmps, assign, body, hy, hR⟩ := hY (upto16 s.data.toList k) ⟨Cs.wordAt s.data.toList k, Cs.wordAt_le _ _⟩ wr hJ (by simp [upto16]; exact hlt)
      by_cases hodd : 2 * k + 1 < s.size
      · have hw := word_two s k hodd
        have hnx := upto16_succ s.data.toList k
        have HN := Lib.hid hnx
        clear hnx
        gi_wp2
        refine hR.mono ?_
        rintro e W3 (⟨rfl, hJ3, hk3⟩ | ⟨rfl, hJx3⟩)
        · have hc3 : W3.cell? ⟨Bn, 0, none⟩ = some (.string s) := (hk3.cell 0).trans hc
          gi_wp2
          go_roundw
          case rel => exact ⟨k + 1, by omega, by go_num, by rw [HN.out]; exact hJ3, hc3⟩
          case measure => simp [intOf]; omega
        · gi_wp2
          refine bodyPost_ret (results_none rfl _ _ _) rfl ?_
          exact ⟨⟨_, rfl⟩, .inr ⟨_, upto16_pre _ _ _ hlt, hJx3⟩⟩
      · have hw := word_one s k hk2 (by omega)
        have hnx := upto16_succ s.data.toList k
        have HN := Lib.hid hnx
        clear hnx
        gi_wp2
        refine hR.mono ?_
        rintro e W3 (⟨rfl, hJ3, hk3⟩ | ⟨rfl, hJx3⟩)
        · have hc3 : W3.cell? ⟨Bn, 0, none⟩ = some (.string s) := (hk3.cell 0).trans hc
          gi_wp2
          go_roundw
          case rel => exact ⟨k + 1, by omega, by go_num, by rw [HN.out]; exact hJ3, hc3⟩
          case measure => simp [intOf]; omega
        · gi_wp2
          refine bodyPost_ret (results_none rfl _ _ _) rfl ?_
          exact ⟨⟨_, rfl⟩, .inr ⟨_, upto16_pre _ _ _ hlt, hJx3⟩⟩
    · have hk2 : s.size ≤ 2 * k := by rw [← size_toList]; unfold Cs.cnt at hlt; omega
      gi_wp2
      go_end0
      exact ⟨⟨_, rfl⟩, .inl ⟨_, by rw [show k = Cs.cnt s.data.toList from by omega], hJ⟩⟩

theorem words_stops (F : Fence) (n : Nat) (h6 : F.fn 38) (hro : F.round = none) (hn : 1 ≤ n) (Bn : Nat) (s : ByteArray) (hs : s.size ≤ 281474976710656) (w : World) (hBn : Bn < w.heap.size)
    (hc : w.cell? ⟨Bn, 0, none⟩ = some (.string s)) :
    SeqStopsK F n Try.prog 38 #[.pointer (some ⟨Bn, 0, none⟩)] (fun x : W16 => #[Value.int .i64 x.1]) (KeepsBlk Bn) (fun ys => ys = upto16 s.data.toList (Cs.cnt s.data.toList)) (fun pre => pre <+: upto16 s.data.toList (Cs.cnt s.data.toList)) (Cs.cnt s.data.toList) w :=
  fun l J Jx W hW _ _ hY h0 => words1_in F n h6 hro hn l Bn s hs J Jx hY W ((hW.cell (p := ⟨Bn, 0, none⟩) hBn).trans hc) h0

def tot16 (l : List W16) : Nat := Cs.tot (l.map (·.1))
theorem tot16_snoc (l : List W16) (x : W16) : tot16 (l ++ [x]) = Cs.plus (tot16 l) x.1 := by simp [tot16, Cs.tot_snoc]
theorem tot_le (l : List Nat) (h : ∀ x ∈ l, x ≤ 65535) : Cs.tot l ≤ 65535 := by
  unfold Cs.tot
  suffices g : ∀ (l : List Nat) (a : Nat), a ≤ 65535 → (∀ x ∈ l, x ≤ 65535) → l.foldl Cs.plus a ≤ 65535 from g l 0 (by omega) h
  intro l
  induction l with
  | nil => intro a ha _; exact ha
  | cons x r ih => intro a ha hx; exact ih _ (Cs.plus_le ha (hx x (by simp))) (fun y hy => hx y (by simp [hy]))
theorem tot16_le (l : List W16) : tot16 l ≤ 65535 := tot_le _ (by
  intro x hx
  simp only [List.mem_map] at hx
  obtain ⟨y, _, rfl⟩ := hx
  exact y.2)

set_option maxRecDepth 100000 in
set_option maxHeartbeats 2000000 in
theorem sum_in (F : Fence) (n : Nat) (h3 : F.fn 28) (h5 : F.fn 33) (h6 : F.fn 38) (h7 : F.fn 34) (hro : F.round = none) (hn : 4 ≤ n) (s : ByteArray) (hs : s.size ≤ 281474976710656) (w : World) :
    CallsIn F n Try.prog 28 #[.string s] w fun e W' => e = .returned (.int .i64 (Cs.sum s.data.toList)) ∧ Below w.heap.size w W' := by
  have h1 : 1 ≤ n := by omega
  refine callsIn_of_wp_marks Try.func28 rfl h3 ?_ hro
  simp only [Try.ntmps28, List.size_toArray, List.length_cons, List.length_nil, Nat.reduceAdd, Nat.reduceSub, Array.replicate_succ, Array.replicate_zero, List.push_toArray, List.append_toArray, List.nil_append, List.cons_append]
  gi_wp2_with (gi_at_call 33; refine (words_in F (n - 1) h5 hro _ _).mono ?_; rintro e w' ⟨rfl, rfl⟩)
  have hs0 := ccell_new w (.int .i64 0) 3
  have hb := ccell_new (w.alloc (.cells #[.int .i64 0] 3)) (.string s) 9
  rw [World.size_alloc] at hb
  have hB0 : Below w.heap.size w ((w.alloc (.cells #[.int .i64 0] 3)).alloc (.cells #[.string s] 9)) := ((Below.refl _ w).alloc (Nat.le_refl _) _).alloc (by simp) _
  refine wpIn_rangeFunc_ownF hro h1 (gf := 38) (lb := #[.pointer (some ⟨w.heap.size + 1, 0, none⟩)]) rfl h6 (enters_of Try.func38 (by kernel_rfl) rfl)
    (words_stops F (n - 1) h6 hro (by omega) (w.heap.size + 1) s hs _ (by simp) hb.1) KeepsBlk.trans (KeepsBlk.put (by simp)) (Below.refl _ _) (fun _ => rfl)
    (fun pre W => (W.cell? ⟨w.heap.size, 0, none⟩ = some (.int .i64 (tot16 pre)) ∧ W.frozen? ⟨w.heap.size, 0, none⟩ = false) ∧ Below w.heap.size w W)
    (fun _ _ _ => False)
    (OwnFrom.and (Own.from (fun s A B row hs hg hr => ⟨cell_kept hs.1 hg hr, (frozen_kept hs.1 hg hr).trans hs.2⟩) _) (ownFrom_below (Nat.le_refl _) (by simp; omega)))
    (fun _ _ _ _ _ hs _ _ => hs)
    ⟨⟨ccell_alloc _ hs0.1, cfrozen_alloc _ hs0.1 hs0.2⟩, hB0⟩
    (fun x => { tmps := #[.string s, undef, .int .i64 0, .pointer (some ⟨w.heap.size, 0, none⟩), .int .i64 x.1, .string s, .func (.func 38) #[] #[.pointer (some ⟨w.heap.size + 1, 0, none⟩)], .int .i64 x.1, undef, undef, undef, undef, undef], defers := [] }) ?assign ?body ?done ?stop
  case assign =>
    intro l x W K hK
    gi_wp2
    exact hK
  case body =>
    rintro l pre x W ⟨⟨hc, hf⟩, hB⟩ _
    have hle := tot16_le pre
    have h1' : 1 ≤ n - 1 - 1 := by omega
    gi_wp2_with (gi_at_call 34; refine (CallsIn.inRound l (plus_in F _ h7 hro _ _ hle x.2 _)).mono ?_; rintro e w' ⟨rfl, rfl⟩)
    exact ⟨KeepsOthers.setCell _ _ _, Below.heap_setCell _ _ _ _ (by simp), ⟨by rw [tot16_snoc]; exact World.cell?_setCell_same' _ _ _ (by rw [hc]; rfl), by rw [World.frozen?_setCell]; exact hf⟩, hB.setCell (p := ⟨w.heap.size, 0, none⟩) (Nat.le_refl _) _⟩
  case done =>
    rintro D ys W hD rfl ⟨⟨hc, _⟩, hB⟩ hK
    have hle := tot16_le (upto16 s.data.toList (Cs.cnt s.data.toList))
    have hsum := Cs.sum_of s.data.toList
    rw [← upto16_val] at hsum
    have hfin : Ending.returned (.int .i64 (65535 - (tot16 (upto16 s.data.toList (Cs.cnt s.data.toList)) : Int))) = .returned (.int .i64 (Cs.sum s.data.toList)) := ret_int (by rw [hsum]; unfold tot16 at hle ⊢; omega)
    have HS := Lib.hid hfin
    clear hsum hfin
    gi_wp2
    refine ⟨by simp, .inl ⟨_, _, rfl, run_takeDeferred hK, ?_⟩⟩
    refine ⟨_, results_tmp rfl _ _ _, ?_, hB.trans (belowK_b (w := w) (Nat.le_refl _) W D _ _ (by simp at hD; omega) hK rfl rfl)⟩
    exact HS.out
  case stop =>
    rintro D c pre W _ _ h _
    exact h.elim

theorem sum_any (s : ByteArray) (hs : s.size ≤ 281474976710656) (w : World) :
    Calls Try.prog 28 #[.string s] w fun e W' => e = .returned (.int .i64 (Cs.sum s.data.toList)) ∧ Below w.heap.size w W' :=
  (callsIn_wide (n := 4)).1 (sum_in Fence.wide 4 trivial trivial trivial trivial rfl (by decide) s hs w)

theorem right_any (s : ByteArray) (hs : s.size ≤ 281474976710656) (w : World) :
    Calls Try.prog 19 #[.string s] w fun e W' => e = .returned (.bool ((Cs.sum s.data.toList : Int) == 0)) ∧ Below w.heap.size w W' := by
  go_enter Try.func19, Try.ntmps19
  go_wp2_with ((with_reducible refine (sum_any s hs _).mono ?_); rintro e w1 ⟨rfl, h1⟩)
  go_ret
  exact ⟨rfl, h1⟩
end Go.Proofs.Ytoljmeemejmjfaa
