/-
  What the program's iterator over the options (ipv6.each) hands over: the options, one by one. Condition: a text's length lies well within an int.
-/
import Derived.Test.YtjhppbooakekcaaRange
import Derived.Test.YtjhppbooakekcaaOptPl
import Derived.Test.YtjhppbooakekcaaGet
namespace Go.Proofs.Ytjhppbooakekcaa
open Go.RowKit Go.Shelf

attribute [local go_sem] Oper.semAt_some

theorem each_in (n : Nat) (s : ByteArray) (w : World) :
    CallsIn Fence.wide n Try.prog 22 #[.string s] w fun e w' => e = .returned (.func (.func 28) #[] #[.pointer (some ⟨w.heap.size, 0, none⟩)]) ∧ w' = w.alloc (.cells #[.string s] 9) := by
  refine callsIn_of_wp Try.func22 rfl trivial ?_ rfl
  simp only [Try.ntmps22, List.size_toArray, List.length_cons, List.length_nil, Nat.reduceAdd, Nat.reduceSub, Array.replicate_succ, Array.replicate_zero, List.push_toArray, List.append_toArray, List.nil_append, List.cons_append]
  gi_wp2
  go_ret
  exact ⟨rfl, rfl⟩

/-- how long the text in a box is -/
def textLen (W : World) (b : Nat) : Nat := match W.cell? ⟨b, 0, none⟩ with | some (.string s) => s.size | _ => 0
theorem textLen_of {W : World} {b : Nat} {s : ByteArray} (h : W.cell? ⟨b, 0, none⟩ = some (.string s)) : textLen W b = s.size := by unfold textLen; rw [h]

theorem bt_cons {r : ByteArray} {k : UInt8} {u : List UInt8} (h : r.data.toList = k :: u) : PlainAid.bt r 0 = (k.toNat : Int) := by
  have e := size_toList r
  rw [h, List.length_cons] at e
  unfold PlainAid.bt
  rw [dif_pos (by omega)]
  have h2 : r.data.toList[0]'(by rw [h]; simp) = k := by simp [h]
  rw [← h2]
  rfl

theorem slice_from (s : ByteArray) (a : Nat) (h : a ≤ s.size) (x : Int) (hx : x = a) (w : World) : (Instr.slice 9 (.string s) (some (.int .i64 x)) none none).run Try.prog w = .ok (.string (s.extract a s.size)) w := by
  subst hx
  rw [run_slice_string_from_if (P := Try.prog) w 9 s .i64 (a : Int) Try.underlying9, if_pos ⟨by omega, by omega⟩]
  rfl
theorem slice_to (s : ByteArray) (a : Nat) (h : a ≤ s.size) (x : Int) (hx : x = a) (w : World) : (Instr.slice 9 (.string s) none (some (.int .i64 x)) none).run Try.prog w = .ok (.string (s.extract 0 a)) w := by
  subst hx
  rw [run_slice_string_to_if (P := Try.prog) w 9 s .i64 (a : Int) Try.underlying9, if_pos ⟨by omega, by omega⟩]
  rfl

def textV (x : List UInt8) : Value := .string ⟨x.toArray⟩

set_option maxRecDepth 100000 in
set_option maxHeartbeats 2000000 in
theorem each1_gives (n b : Nat) (h1 : 1 ≤ n) (t : ByteArray) (ht : t.size ≤ 281474976710656) : Gives Fence.wide n 28 b #[.pointer (some ⟨b, 0, none⟩)] textV (Op6.items t.data.toList) t := by
  intro l J Jx W hJ hY hc hf h0
  have HY := Lib.hid hY
  have HJ := Lib.hid hJ
  have hfn : Fence.wide.fn 17 := trivial
  clear hY hJ
  refine callsIn_of_wp Try.func28 rfl trivial ?_ rfl
  simp only [Try.ntmps28, List.size_toArray, List.length_cons, List.length_nil, Nat.reduceAdd, Nat.reduceSub, Array.replicate_succ, Array.replicate_zero, List.push_toArray, List.append_toArray, List.nil_append, List.cons_append]
  gi_wp2
  gi_loopw [3, 4] (fun _ _ wr => ∃ (pre : List (List UInt8)) (r : ByteArray), Hid (Op6.items t.data.toList = pre ++ Op6.items r.data.toList) ∧ J pre wr ∧ wr.cell? ⟨b, 0, none⟩ = some (.string r) ∧ wr.frozen? ⟨b, 0, none⟩ = false ∧ r.size ≤ 281474976710656)
    (fun _ _ wr => textLen wr b)
  case atStart => exact ⟨[], t, rfl, h0, hc, hf, ht⟩
  case round =>
    obtain ⟨pre, r, hit, hj, hcr, hfr, hr⟩ := hrel
    clear hc hf h0 ht
    have hbt := PlainAid.get_bt r
    have hlt := World.block_lt_of_cell? wr _ hcr
    have er := size_toList r
    obtain ⟨L, hL⟩ : ∃ L, L = r.data.toList := ⟨_, rfl⟩
    rcases L with _ | ⟨k, u⟩
    · -- nothing is left
      have hz : r.size = 0 := by rw [← er, ← hL]; rfl
      have hfin : J (Op6.items t.data.toList) wr := by rw [hit.out, ← hL, Op6.items_nil, List.append_nil]; exact hj
      clear er hL
      gi_wp2
      go_end0
      exact ⟨⟨_, rfl⟩, .inl hfin⟩
    · have hb0 := bt_cons hL.symm
      have hz : r.size = u.length + 1 := by rw [← er, ← hL]; rfl
      have hpos : 0 < r.size := by omega
      by_cases hk : k = 0
      · -- a byte 0 is skipped
        have hb1 : (PlainAid.bt r 0 == 0) = true := by rw [hb0, hk]; rfl
        obtain ⟨r', hr'⟩ : ∃ x, x = r.extract 1 r.size := ⟨_, rfl⟩
        have c1 := slice_from r 1 (by omega) 1 rfl
        rw [← hr'] at c1
        have hd : r'.data.toList = u := by
          rw [hr', data_extract, ← hL, List.drop_succ_cons, List.drop_zero, List.take_of_length_le (by omega)]
        have hs' : r'.size = u.length := by rw [← size_toList, hd]
        have hle : r'.size < r.size := by omega
        have hit' : Hid (Op6.items t.data.toList = pre ++ Op6.items r'.data.toList) := by show _ = _; rw [hit.out, ← hL, hk, Op6.items_pad, hd]
        have hj' : J pre (wr.setCell ⟨b, 0, none⟩ (.string r')) := HJ.out.put _ _ _ hj
        have m1 : textLen (wr.setCell ⟨b, 0, none⟩ (.string r')) b = r'.size := textLen_of (World.cell?_setCell_same wr _ _ hcr)
        have m2 := textLen_of hcr
        have M1 := Lib.hid m1
        have M2 := Lib.hid m2
        have hcn : (wr.setCell ⟨b, 0, none⟩ (.string r')).cell? ⟨b, 0, none⟩ = some (.string r') := World.cell?_setCell_same wr _ _ hcr
        have hfn : (wr.setCell ⟨b, 0, none⟩ (.string r')).frozen? ⟨b, 0, none⟩ = false := by rw [World.frozen?_setCell]; exact hfr
        have hr2 := hr'.symm
        clear hb0 hk hL hz hr' hd hs' m1 m2 er c1
        gi_wp2
        go_roundw
        case rel => exact ⟨pre, r', hit', hj', hcn, hfn, by omega⟩
        case measure => rw [M1.out, M2.out]; omega
      · have hb1 : (PlainAid.bt r 0 == 0) = false := by
          rw [hb0, beq_eq_false_iff_ne]
          intro e
          exact hk (UInt8.toNat_inj.1 (show k.toNat = (0 : UInt8).toNat by simpa using e))
        rcases u with _ | ⟨m, v⟩
        · -- one byte alone: there is no length
          have hG : Gets r 1 1 0 2 := gets_cut r 1 1 (by omega) (by decide) (by decide) (by decide) (by right; rw [hz]; simp)
          have hit' : Op6.items t.data.toList = pre ++ [[]] := by rw [hit.out, ← hL, Op6.items_end hk]
          have HI := Lib.hid hit'
          clear hb0 hk hL hz er hit'
          gi_wp2_with (gi_at_call 17; refine ((callsIn_wide (n := n - 1)).2 (hG.to _)).mono ?_; rintro e w1 ⟨rfl, g1⟩; obtain ⟨fn, tmps, assign, body, hy, hR⟩ := HY.out pre [] w1 (HJ.out.new _ _ _ hj g1) (by rw [HI.out]; exact List.prefix_rfl); unfold textV at hy)
          refine hR.mono ?_
          rintro e W3 (⟨rfl, hJ3, hk3⟩ | ⟨rfl, hJx3⟩)
          · gi_wp2
            refine bodyPost_ret (results_none rfl _ _ _) rfl ⟨⟨_, rfl⟩, .inl (by rw [HI.out]; exact hJ3)⟩
          · gi_wp2
            refine bodyPost_ret (results_none rfl _ _ _) rfl ⟨⟨_, rfl⟩, .inr hJx3⟩
        · have hm := m.toNat_lt
          have hG : Gets r 1 1 (m.toNat : Nat) 0 := by
            have h := gets_ok r 1 1 (by omega) (by decide) (by decide) (by rw [hz]; simp)
            rw [← hL] at h
            have e : ((k :: m :: v).drop 1).take 1 = [m] := rfl
            rw [e, Pl.num_one] at h
            exact h
          have hz2 : r.size = v.length + 2 := by rw [hz]; rfl
          by_cases hsh : v.length < m.toNat
          · -- bytes are lacking
            have hit' : Op6.items t.data.toList = pre ++ [[]] := by rw [hit.out, ← hL, Op6.items_short hk hsh]
            have HI := Lib.hid hit'
            have hd : decide ((r.size : Int) - 2 < (m.toNat : Int)) = true := decide_eq_true (by omega)
            clear hb0 hk hL hz hz2 er hit' hsh
            gi_wp2_with (gi_at_call 17; refine ((callsIn_wide (n := n - 1)).2 (hG.to _)).mono ?_; rintro e w1 ⟨rfl, g1⟩; have hc1 := (g1.cell (p := ⟨b, 0, none⟩) hlt).trans hcr; obtain ⟨fn, tmps, assign, body, hy, hR⟩ := HY.out pre [] w1 (HJ.out.new _ _ _ hj g1) (by rw [HI.out]; exact List.prefix_rfl); unfold textV at hy)
            refine hR.mono ?_
            rintro e W3 (⟨rfl, hJ3, hk3⟩ | ⟨rfl, hJx3⟩)
            · gi_wp2
              refine bodyPost_ret (results_none rfl _ _ _) rfl ⟨⟨_, rfl⟩, .inl (by rw [HI.out]; exact hJ3)⟩
            · gi_wp2
              refine bodyPost_ret (results_none rfl _ _ _) rfl ⟨⟨_, rfl⟩, .inr hJx3⟩
          · -- an option
            have hd : decide ((r.size : Int) - 2 < (m.toNat : Int)) = false := decide_eq_false (by omega)
            obtain ⟨r', hr'⟩ : ∃ x, x = r.extract (2 + m.toNat) r.size := ⟨_, rfl⟩
            have c1 := slice_from r (2 + m.toNat) (by omega) (2 + (m.toNat : Int)) (by omega)
            rw [← hr'] at c1
            have c2 := slice_to r (2 + m.toNat) (by omega) (2 + (m.toNat : Int)) (by omega)
            have hx' : r.extract 0 (2 + m.toNat) = ⟨(k :: m :: v.take m.toNat).toArray⟩ := by
              apply ba_eq
              rw [data_extract, ← hL, List.drop_zero, Nat.sub_zero, Nat.add_comm 2 m.toNat, List.take_succ_cons, List.take_succ_cons]
            have hd' : r'.data.toList = v.drop m.toNat := by
              rw [hr', data_extract, ← hL, Nat.add_comm 2 m.toNat, List.drop_succ_cons, List.drop_succ_cons, List.take_of_length_le (by rw [List.length_drop]; omega)]
            have hs' : r'.size + 2 ≤ r.size := by rw [← size_toList r', hd', List.length_drop]; omega
            have hit' : Op6.items t.data.toList = pre ++ [k :: m :: v.take m.toNat] ++ Op6.items r'.data.toList := by
              rw [hit.out, ← hL, Op6.items_next hk (by omega), hd', List.append_assoc]; rfl
            have HI := Lib.hid hit'
            have M2 := Lib.hid (textLen_of hcr)
            obtain ⟨x, hx⟩ : ∃ x, x = k :: m :: v.take m.toNat := ⟨_, rfl⟩
            rw [← hx] at hx' HI
            have hr2 := hr'.symm
            have hb2 : 2 + (m.toNat : Int) ≤ (r.size : Int) := by omega
            have hb3 : 0 ≤ 2 + (m.toNat : Int) := by omega
            clear hb0 hk hL hz hz2 er hit' hsh hr' hd' hx c1 c2
            gi_wp2_with (gi_at_call 17; refine ((callsIn_wide (n := n - 1)).2 (hG.to _)).mono ?_; rintro e w1 ⟨rfl, g1⟩; have hc1 := (g1.cell (p := ⟨b, 0, none⟩) hlt).trans hcr; have hf1 := (g1.frozen (p := ⟨b, 0, none⟩) hlt).trans hfr; obtain ⟨fn, tmps, assign, body, hy, hR⟩ := HY.out pre x w1 (HJ.out.new _ _ _ hj g1) ⟨_, HI.out.symm⟩; unfold textV at hy)
            refine hR.mono ?_
            rintro e W3 (⟨rfl, hJ3, hk3⟩ | ⟨rfl, hJx3⟩)
            · have hc3 : W3.cell? ⟨b, 0, none⟩ = some (.string r) := (World.cell?_of_block (w := w1) (a := ⟨b, 0, none⟩) hk3).trans hc1
              have hf3 : W3.frozen? ⟨b, 0, none⟩ = false := (World.frozen?_of_block (w := w1) (a := ⟨b, 0, none⟩) hk3).trans hf1
              have hj' : J (pre ++ [x]) (W3.setCell ⟨b, 0, none⟩ (.string r')) := HJ.out.put _ _ _ hJ3
              have hcn : (W3.setCell ⟨b, 0, none⟩ (.string r')).cell? ⟨b, 0, none⟩ = some (.string r') := World.cell?_setCell_same W3 _ _ hc3
              have hfn2 : (W3.setCell ⟨b, 0, none⟩ (.string r')).frozen? ⟨b, 0, none⟩ = false := by rw [World.frozen?_setCell]; exact hf3
              have M1 := Lib.hid (textLen_of hcn)
              gi_wp2
              go_roundw
              case rel => exact ⟨pre ++ [x], r', HI, hj', hcn, hfn2, by omega⟩
              case measure => rw [M1.out, M2.out]; omega
            · gi_wp2
              refine bodyPost_ret (results_none rfl _ _ _) rfl ⟨⟨_, rfl⟩, .inr hJx3⟩
end Go.Proofs.Ytjhppbooakekcaa
