/-
  igmp.addrs: addresses are read. Conditions: the text is those addresses' bytes. igmp.record: a record is read. Conditions: the text begins with that record's bytes. igmp.Records: records are read. Conditions: the text is those records' bytes. A value of type api.Message that comes in, opened: its texts and records, and what the bound says of their lengths. Conditions: none. igmp.asks of short queries. Conditions: the group is one, or none. igmp.Decode of a report of records. Conditions: the sum is right, the records may be. igmp.Decode of reports and leaves without records. Conditions: the sum is right, the address is a group's. siphonref08.Same: two messages of the same contents are the same. Conditions: they are. igmp.Decode of queries. Conditions: the sum is right; what asks answers is known. igmp.Encode: a message's bytes, or that there are none. Conditions: those of each.
-/
import Derived.Test.YticdmepplfgdiaaGreatDoorRows
import Derived.SliceStrings
import Derived.OpenShut
import Derived.ChangeArms
import Derived.ChangeSlices
import Derived.Deep.Slices
import Derived.WideShapes
import Derived.WalkKit
import Derived.ProofKit
import Derived.ShutString
import Derived.ChangeOld
import Derived.SizedLaws
import Derived.Lib.SmallJoins
import Derived.Deep.QuietTactic
import Derived.BigQuiet
import Derived.Test.YticdmepplfgdiaaGreatDoorQ26
import Derived.Test.YticdmepplfgdiaaGreatDoorQ16
import Derived.Test.YticdmepplfgdiaaGreatDoorQ03
import Derived.Test.YticdmepplfgdiaaGreatDoorQ14
import Derived.Test.YticdmepplfgdiaaGreatDoorQ00
import Derived.Test.YticdmepplfgdiaaGreatDoorQ27
import Derived.Test.YticdmepplfgdiaaGreatDoorQ29
import Derived.Test.YticdmepplfgdiaaGreatDoorQ28
import Derived.Test.YticdmepplfgdiaaGreatDoorQ30
import Derived.Test.YticdmepplfgdiaaGreatDoorQ39
set_option linter.unusedVariables false
set_option linter.unusedSimpArgs false
section
namespace Go.Proofs.YticdmepplfgdiaaGreatDoor
open Go.RowKit
theorem infoJ25 : (Tryz.prog.info? 25).map (fun i => (i.zero, i.size, i.bytes)) = some (some (.string ⟨#[]⟩), 1, 16) := by kernel_rfl
def strLen : Value → Nat
  | .string s => s.size
  | _ => 0
theorem cat_cons (s : ByteArray) (ss : List ByteArray) : cat (s :: ss) = s.data.toList ++ cat ss := rfl
theorem drop_cons {ss : List ByteArray} {k : Nat} (hk : k < ss.length) : ss.drop k = ss.getD k ⟨#[]⟩ :: ss.drop (k + 1) := by
  rw [List.drop_eq_getElem_cons hk, List.getD_eq_getElem?_getD, List.getElem?_eq_getElem hk]
  rfl
theorem isEmpty_data (s : ByteArray) : s.toList.isEmpty = s.data.toList.isEmpty := by rw [Lib.toList_data]
/-- a row of addresses of the call's own -/
def Own4 (n : Nat) (W : World) (v : Value) (ss : List ByteArray) : Prop := W.ownsRow n 25 1 v ss.length (ss.map Value.string)
theorem Own4.strs {n : Nat} {W : World} {v : Value} {ss : List ByteArray} (h : Own4 n W v ss) : Strs W v ss := strs_of_row h
theorem Own4.below {n : Nat} {W W' : World} {v : Value} {ss : List ByteArray} (h : Own4 n W v ss) (g : Below W.heap.size W W') : Own4 n W' v ss := own_below h g
theorem Own4.put {n : Nat} {W : World} {v : Value} {ss : List ByteArray} (h : Own4 n W v ss) {p : Addr} (hp : p.block < n) (x : Value) : Own4 n (W.setCell p x) v ss :=
  World.ownsRow.kept (row := some p.block) h ⟨rfl, rfl, rfl, by simp [World.setCell], fun k _ hk => Below.heap_setCell _ _ _ _ (fun e => hk (by simp [e]))⟩ (Or.inr (fun e => by have := (World.ownsRow.lt h _ e).1; omega))
theorem Own4.low {n m : Nat} {W : World} {v : Value} {ss : List ByteArray} (h : Own4 n W v ss) (hm : m ≤ n) : Own4 m W v ss := by
  refine ⟨h.1, ?_⟩
  rcases h.2 with h | ⟨g, cap, cur, e, hg, r⟩
  · exact .inl h
  · exact .inr ⟨g, cap, cur, e, Nat.le_trans hm hg, r⟩
set_option maxRecDepth 100000 in
set_option maxHeartbeats 4000000 in
/-- addresses of four bytes are read -/
theorem addrs_4 (s : ByteArray) (at' n : Nat) (ss : List ByteArray) (hn : ss.length = n) (hn60 : n ≤ 60) (h4 : ∀ x, x ∈ ss → x.size = 4) (hs : s.size ≤ 140737488351232) (ha : at' + n * 4 ≤ s.size) (hc : (s.data.toList.drop at').take (n * 4) = cat ss) (w : World) :
    Calls Tryz.prog 214 #[.string s, .int .i64 at', .int .i64 n, .int .i64 4] w fun e w' => ∃ a c, e = .returned (.tuple #[.slice a ss.length c, .int .i64 0]) ∧ Own4 w.heap.size w' (.slice a ss.length c) ss ∧ Below w.heap.size w w' := by
  have HC := Lib.hid (show Calls Tryz.prog 215 #[.string s, .int .i64 at', .int .i64 ((n : Int) * 4)] w fun e w' => e = .returned (.tuple #[.string (s.extract at' (at' + n * 4)), .int .i64 0]) ∧ w = w' by
    have h := cut_ok s at' (n * 4) (by omega) ha w
    rw [show ((n * 4 : Nat) : Int) = (n : Int) * 4 by omega] at h
    exact h)
  obtain ⟨t0, ht0⟩ : ∃ x, x = s.extract at' (at' + n * 4) := ⟨_, rfl⟩
  rw [← ht0] at HC
  have HT0 := Lib.hid (show t0.data.toList = cat ss by rw [ht0, data_extract, Nat.add_sub_cancel_left]; exact hc)
  have H4 := Lib.hid h4
  clear hc ht0 h4 ha
  go_enter Tryz.func214, Tryz.ntmps214
  go_upto_region 5 with (go_at_call 215; (with_reducible refine HC.out.mono ?_); rintro e wq ⟨rfl, rfl⟩)
  go_loopw [10, 12] (fun t v wr => ∃ (k : Nat) (tb : ByteArray), k ≤ ss.length ∧ t = .string tb ∧ tb.data.toList = cat (ss.drop k) ∧ wr.ownsRow w.heap.size 25 1 v k ((ss.take k).map Value.string) ∧ Below w.heap.size w wr) (fun t _ _ => strLen t)
  case atStart => exact ⟨0, t0, Nat.zero_le _, rfl, HT0.out, World.ownsRow_nil _ _ _ _, Below.refl _ _⟩
  case round =>
  obtain ⟨k, tb, hk, rfl, htb, ho, hbl⟩ := hrel
  have HO := Lib.hid ho
  have HB := Lib.hid hbl
  have hsz := hbl.size
  clear ho hbl
  by_cases hlt : k < ss.length
  · have hx4 := H4.out _ (getD_mem hlt)
    have htk := take_getD hlt
    have hdr := drop_cons hlt
    obtain ⟨x, ex⟩ : ∃ x, x = ss.getD k ⟨#[]⟩ := ⟨_, rfl⟩
    rw [← ex] at hx4 htk hdr
    rw [hdr, cat_cons] at htb
    have hl := size_toList tb
    rw [htb, List.length_append, size_toList, hx4] at hl
    have hne : tb.toList.isEmpty = false := by
      rw [isEmpty_data]
      rcases h : tb.data.toList with _ | ⟨y, r⟩
      · rw [h] at htb
        have := size_toList x
        rw [hx4] at this
        have h2 := congrArg List.length htb
        rw [List.length_append, this] at h2
        have h3 : (0 : Nat) = 4 + (cat (ss.drop (k + 1))).length := h2
        omega
      · rfl
    have e1 : tb.extract 0 4 = x := by
      apply ba_eq
      rw [data_extract, htb]
      exact List.take_left' (by rw [size_toList]; exact hx4)
    obtain ⟨t2, ht2⟩ : ∃ t2, t2 = tb.extract 4 tb.size := ⟨_, rfl⟩
    have e2 : t2.data.toList = cat (ss.drop (k + 1)) := by
      rw [ht2, data_extract, htb, List.drop_left' (by rw [size_toList]; exact hx4), List.take_of_length_le (by omega)]
    have hs2 : t2.size < tb.size := by rw [ht2, ByteArray.size_extract]; omega
    have k1 := slice_to tb 4 (by omega) 4 rfl
    rw [e1] at k1
    have k2 := slice_from tb 4 (by omega) 4 rfl
    rw [← ht2] at k2
    have HTk := Lib.hid htk
    have HE2 := Lib.hid e2
    have HS2 := Lib.hid hs2
    clear htk hdr htb hl e1 ht2 e2 hs2 ex hx4
    go_wp2_with (at_builtin; refine push_any rfl _ _ 50 25 rfl w.heap.size Tryz.underlying50 infoJ25 rfl (by decide) _ k _ [.string x] wr.heap.size rfl (HO.out.alloc _) rfl (Bx.new wr [.string x] 25) rfl (by intro u hu; simp at hu; subst hu; rfl) (by omega) (by decide) (by rw [World.size_alloc]; omega) ?_; intro v' w4 ho4 _ hb4 _; have HO4 := Lib.hid ho4; have HB4 := Lib.hid ((HB.out.alloc (by omega) (.cells #[.string x] 25)).trans hb4); clear ho4 hb4)
    refine ⟨⟨k + 1, t2, by omega, rfl, HE2.out, by rw [HTk.out, List.map_append]; exact HO4.out, HB4.out⟩, ?_⟩
    exact HS2.out
  · have he : k = ss.length := by omega
    subst he
    have hte : tb.data.toList = [] := by rw [htb, List.drop_length]; rfl
    have hne : tb.toList.isEmpty = true := by rw [isEmpty_data, hte]; rfl
    have hown : Own4 w.heap.size wr u12 ss := by have h := HO.out; rwa [List.take_length] at h
    have hst := hown.strs
    obtain ⟨a, c, rfl, -⟩ := hst
    have HSt := Lib.hid hown
    clear hown htb hte HO
    go_wp2
    go_ret2
    exact ⟨a, c, rfl, HSt.out, HB.out⟩
end Go.Proofs.YticdmepplfgdiaaGreatDoor
end
section
namespace Go.Proofs.YticdmepplfgdiaaGreatDoor
open Go.RowKit
/-- the head of a record's bytes -/
theorem rc_head {r : Rc} (hr : RcOk r) {s : ByteArray} {rest : List UInt8} (hs : s.data.toList = rcB r ++ rest) :
    (s.extract 0 8).data.toList = [UInt8.ofNat r.kind.toNat, 0] ++ Pl.be 2 r.ss.length ++ r.group.data.toList ∧ 8 + r.ss.length * 4 ≤ s.size ∧ (s.data.toList.drop 8).take (r.ss.length * 4) = cat r.ss ∧ s.data.toList.drop (8 + r.ss.length * 4) = rest := by
  have hg := grp4_size hr.2.2.1
  have hc := cat_len4 _ hr.2.2.2.1
  have hl := size_toList s
  have hh : ([UInt8.ofNat r.kind.toNat, 0] ++ Pl.be 2 r.ss.length ++ r.group.data.toList).length = 8 := by
    rw [List.length_append, List.length_append, Pl.be_length, size_toList, hg]
    rfl
  have e : s.data.toList = ([UInt8.ofNat r.kind.toNat, 0] ++ Pl.be 2 r.ss.length ++ r.group.data.toList) ++ (cat r.ss ++ rest) := by
    rw [hs]
    unfold rcB
    simp only [List.append_assoc]
  refine ⟨?_, ?_, ?_, ?_⟩
  · rw [data_extract, e, List.drop_zero]
    exact List.take_left' hh
  · rw [← hl, e, List.length_append, hh, List.length_append, hc]
    omega
  · rw [e, List.drop_left' hh]
    exact List.take_left' hc
  · rw [← List.drop_drop, e, List.drop_left' hh]
    exact List.drop_left' hc
set_option maxRecDepth 100000 in
set_option maxHeartbeats 4000000 in
theorem record_4 (s : ByteArray) (r : Rc) (hr : RcOk r) (rest : List UInt8) (hs : s.data.toList = rcB r ++ rest) (hz : s.size ≤ 2199023255552) (w : World) :
    Calls Tryz.prog 152 #[.string s, .int .i64 4] w fun e w' => ∃ a c, e = .returned (.tuple #[.agg #[.int .i64 r.kind, .string r.group, .slice a r.ss.length c], .int .i64 (8 + (r.ss.length : Int) * 4), .int .i64 0]) ∧ Own4 w.heap.size w' (.slice a r.ss.length c) r.ss ∧ Below w.heap.size w w' := by
  obtain ⟨h1, h2, h3, -⟩ := rc_head hr hs
  obtain ⟨k1, k6, hg, h4, h60⟩ := hr
  have hgz := grp4_size hg
  obtain ⟨hd, hhd⟩ : ∃ x, x = s.extract 0 8 := ⟨_, rfl⟩
  have HCu := Lib.hid (fun (W : World) => show Calls Tryz.prog 215 #[.string s, .int .i64 0, .int .i64 8] W fun e w' => e = .returned (.tuple #[.string hd, .int .i64 0]) ∧ W = w' by
    have h := cut_ok s 0 8 (by omega) (by omega) W
    rw [Nat.zero_add, ← hhd] at h
    exact h)
  rw [← hhd] at h1
  have hds : hd.size = 8 := by
    rw [← size_toList, h1, List.length_append, List.length_append, Pl.be_length, size_toList, hgz]
    rfl
  have hkd : ((UInt8.ofNat r.kind.toNat).toNat : Int) = r.kind := by
    rw [UInt8.toNat_ofNat', Nat.mod_eq_of_lt (by omega)]
    omega
  have hwk : wrap64 r.kind = r.kind := IntWalk.wrap64_in _ ⟨by omega, by omega⟩
  have hb0 : PlainAid.bt hd 0 = r.kind := by rw [bt_at, h1]; exact hkd
  have hb1 : PlainAid.bt hd 1 = 0 := by rw [bt_at, h1]; rfl
  have HGt := Lib.hid (fun (W : World) => (show Calls Tryz.prog 71 #[.string hd, .int .i64 2, .int .i64 2] W fun e w' => e = .returned (.tuple #[.int .i64 (r.ss.length : Int), .int .i64 0]) ∧ Below W.heap.size W w' by
    have h := (gets_ok hd 2 2 (by omega) (by decide) (by decide) (by omega)).to W
    have e : Pl.num ((hd.data.toList.drop 2).take 2) = r.ss.length := by
      rw [h1, List.append_assoc, List.drop_left' (by rfl), List.take_left' (Pl.be_length _ _), Pl.num_be_of_lt (by omega)]
    rw [e] at h
    exact h))
  have hsg : hd.extract 4 hd.size = r.group := by
    apply ba_eq
    rw [data_extract, h1, List.drop_left' (by rw [List.length_append, Pl.be_length]; rfl), List.take_of_length_le (by rw [size_toList]; omega)]
  have kS := slice_from hd 4 (by omega) 4 rfl
  rw [hsg] at kS
  have HA := Lib.hid (fun (W : World) => show Calls Tryz.prog 214 #[.string s, .int .i64 8, .int .i64 (r.ss.length : Int), .int .i64 4] W fun e w' => ∃ a c, e = .returned (.tuple #[.slice a r.ss.length c, .int .i64 0]) ∧ Own4 W.heap.size w' (.slice a r.ss.length c) r.ss ∧ Below W.heap.size W w' from addrs_4 s 8 r.ss.length r.ss rfl h60 h4 (by omega) h2 h3 W)
  have hbt := PlainAid.get_bt hd
  have h60i : (r.ss.length : Int) ≤ 60 := by omega
  have h2i : 8 + (r.ss.length : Int) * 4 ≤ (s.size : Int) := by omega
  obtain ⟨kind, group, ss, sa, sc⟩ := r
  simp only at *
  clear h1 h2 h3 h4 hs hhd hkd hsg h60 k1 k6
  go_enter Tryz.func152, Tryz.ntmps152
  go_upto_region 8 with (first
    | (go_at_call 215; (with_reducible refine (HCu.out _).mono ?_); rintro e wq ⟨rfl, rfl⟩)
    | (go_at_call 71; (with_reducible refine (HGt.out _).mono ?_); rintro e w1 ⟨rfl, g1⟩; have RB := Lib.hid ((Bx.new w [.int .i64 0, .string ⟨#[]⟩, .slice none 0 0] 55).below g1); have G1 := Lib.hid (bstep (bbox1 w (.cells #[.int .i64 0, .string ⟨#[]⟩, .slice none 0 0] 55)) g1); clear g1))
  obtain ⟨rb, hrb⟩ : ∃ x, w.heap.size = x := ⟨_, rfl⟩
  have RB1 := Lib.hid (show Bx w1 rb [.int .i64 0, .string ⟨#[]⟩, .slice none 0 0] by rw [← hrb]; exact RB.out)
  have HRB := Lib.hid hrb
  rw [hrb]
  clear RB hrb
  have c0 := RB1.out.get 0 _ rfl
  have c1 := RB1.out.get 1 _ rfl
  have c2 := RB1.out.get 2 _ rfl
  have cf := RB1.out.fz
  have s1 := G1.out.size
  go_cut [] (fun wx => Bx wx rb [.int .i64 kind, .string group, .slice none 0 0] ∧ Below w.heap.size w wx)
  case first =>
    go_region
    all_goals
      go_wp2
      go_meet
      exact ⟨(((RB1.out.set (i := 0) (x := .int .i64 kind) (by simp)).set (i := 1) (x := .string group) (by simp)).set (i := 2) (x := .slice none 0 0) (by simp)).drew, (((G1.out.setCell (p := ⟨rb, 0, none⟩) (by have := HRB.out; show w.heap.size ≤ rb; omega) _).setCell (p := ⟨rb, 1, none⟩) (by have := HRB.out; show w.heap.size ≤ rb; omega) _).setCell (p := ⟨rb, 2, none⟩) (by have := HRB.out; show w.heap.size ≤ rb; omega) _).drew⟩
  case rest =>
    obtain ⟨hB8, hG8⟩ := hcut
    rename World => w8
    have B8 := Lib.hid hB8
    have G8 := Lib.hid hG8
    have s8 := hG8.size
    clear hB8 hG8 c0 c1 c2 cf
    have c1 := B8.out.get 1 _ rfl
    go_wp2_with (first
      | (go_at_call 75; (with_reducible refine (isGroup_4 group _).mono ?_); rw [hg]; rintro e w9 ⟨rfl, g9⟩; have B9 := Lib.hid (B8.out.below g9); have G9 := Lib.hid (G8.out.trans (g9.mono s8)); have s9 := g9.size; clear g9)
      | (go_at_call 214; (with_reducible refine (HA.out _).mono ?_); rintro e w10 ⟨a, c, rfl, hS, g10⟩; have S10 := Lib.hid hS; have B10 := Lib.hid (B9.out.below g10); have G10 := Lib.hid (G9.out.trans (g10.mono (by omega))); have s10 := g10.size; clear g10 hS; have c2 := B10.out.get 2 _ rfl; have cf := B10.out.fz; have c0 := B10.out.get 0 _ rfl; have c1 := B10.out.get 1 _ rfl))
    refine bodyPost_ret (v := .tuple #[.agg #[.int .i64 kind, .string group, .slice a ss.length c], .int .i64 (8 + (ss.length : Int) * 4), .int .i64 0]) (by simp [results, Tryz.results152, go_sem, c0, c1, c2]) rfl ?_
    have hrb9 : rb < w9.heap.size := B9.out.1
    have hwrb : w.heap.size ≤ rb := by have := HRB.out; omega
    refine ⟨a, c, rfl, ?_, ?_⟩
    · exact ((((S10.out.put (p := ⟨rb, 2, none⟩) hrb9 _).put (p := ⟨rb, 0, none⟩) hrb9 _).put (p := ⟨rb, 1, none⟩) hrb9 _).put (p := ⟨rb, 2, none⟩) hrb9 _).low (by omega)
    · exact (((G10.out.setCell (p := ⟨rb, 2, none⟩) hwrb _).setCell (p := ⟨rb, 0, none⟩) hwrb _).setCell (p := ⟨rb, 1, none⟩) hwrb _).setCell (p := ⟨rb, 2, none⟩) hwrb _
end Go.Proofs.YticdmepplfgdiaaGreatDoor
end
section
namespace Go.Proofs.YticdmepplfgdiaaGreatDoor
open Go.RowKit
theorem infoJ55 : (Tryz.prog.info? 55).map (fun i => (i.zero, i.size, i.bytes)) = some (some (.agg #[.int .i64 0, .string ⟨#[]⟩, .slice none 0 0]), 3, 48) := by kernel_rfl
def rcC (r : Rc) : List Value := [.int .i64 r.kind, .string r.group, .slice r.sa r.ss.length r.sc]
def rcCs (l : List Rc) : List Value := l.flatMap rcC
theorem rcCs_push (l : List Rc) (r : Rc) : rcCs (l ++ [r]) = rcCs l ++ rcC r := by simp [rcCs]
theorem rcCs_len (l : List Rc) : (rcCs l).length = l.length * 3 := by
  induction l with
  | nil => rfl
  | cons r l ih =>
    have e : rcCs (r :: l) = rcC r ++ rcCs l := rfl
    rw [e, List.length_append, ih, List.length_cons]
    show 3 + _ = _
    omega
theorem rcCs_get (l : List Rc) (i : Nat) (r : Rc) (h : l[i]? = some r) : (rcCs l)[i * 3]? = some (.int .i64 r.kind) ∧ (rcCs l)[i * 3 + 1]? = some (.string r.group) ∧ (rcCs l)[i * 3 + 2]? = some (.slice r.sa r.ss.length r.sc) := by
  induction l generalizing i with
  | nil => simp at h
  | cons x l ih =>
    have e : rcCs (x :: l) = .int .i64 x.kind :: .string x.group :: .slice x.sa x.ss.length x.sc :: rcCs l := rfl
    rw [e]
    cases i with
    | zero =>
      simp at h
      subst h
      exact ⟨rfl, rfl, rfl⟩
    | succ i =>
      obtain ⟨a, b, c⟩ := ih i (by simpa using h)
      rw [show (i + 1) * 3 = i * 3 + 1 + 1 + 1 by omega]
      exact ⟨a, b, c⟩
/-- what a record says -/
def rcKey (r : Rc) : Int × ByteArray × List ByteArray := (r.kind, r.group, r.ss)
theorem Own4.grown {n m : Nat} {W W' : World} {x v : Value} {ss : List ByteArray} {k : Nat} {cs : List Value} (h : Own4 n W x ss) (ho : W.ownsRow m 55 3 v k cs) (g : W.grownBy W' v.ownBlock) : Own4 n W' x ss := by
  refine World.ownsRow.kept (row := v.ownBlock) h g ?_
  rcases h.2 with ⟨rfl, _⟩ | ⟨g1, cap, cur, rfl, _, h1, _⟩
  · exact .inl rfl
  · right
    rcases ho.2 with ⟨rfl, _⟩ | ⟨g2, cap2, cur2, rfl, _, h2, _⟩
    · simp [Value.ownBlock]
    · intro e
      simp only [Value.ownBlock, Option.some.injEq] at e
      subst e
      rw [h1] at h2
      simp only [Option.some.injEq, Obj.cells.injEq] at h2
      exact absurd h2.2.1 (by decide)
theorem rcs_of_own {n : Nat} {W : World} {v : Value} {l : List Rc} (h : W.ownsRow n 55 3 v l.length (rcCs l)) (hs : ∀ r, r ∈ l → Own4 n W (.slice r.sa r.ss.length r.sc) r.ss) : Rcs W v l := by
  by_cases h0 : l = []
  · subst h0
    rcases h.2 with ⟨rfl, _⟩ | ⟨g, cap, cur, rfl, _⟩
    · exact ⟨none, 0, rfl, fun r hr => (hs r hr).strs, .inl rfl⟩
    · exact ⟨_, cap, rfl, fun r hr => (hs r hr).strs, .inl rfl⟩
  · obtain ⟨g, cap, rfl, _, hx⟩ := row_bx h (fun e => h0 (List.length_eq_zero_iff.1 e)) (rcCs_len l)
    refine ⟨_, cap, rfl, fun r hr => (hs r hr).strs, .inr ⟨g, 0, rfl, hx.1, fun i r hi => ?_⟩⟩
    obtain ⟨a, b, c⟩ := rcCs_get l i r hi
    rw [Nat.zero_add]
    exact ⟨hx.get _ _ a, hx.get _ _ b, hx.get _ _ c⟩
/-- a row of records of the call's own -/
def OwnR (n : Nat) (W : World) (v : Value) (l : List Rc) : Prop := W.ownsRow n 55 3 v l.length (rcCs l) ∧ ∀ r, r ∈ l → Own4 n W (.slice r.sa r.ss.length r.sc) r.ss
theorem OwnR.rcs {n : Nat} {W : World} {v : Value} {l : List Rc} (h : OwnR n W v l) : Rcs W v l := rcs_of_own h.1 h.2
theorem OwnR.put {n : Nat} {W : World} {v : Value} {l : List Rc} (h : OwnR n W v l) {p : Addr} (hp : p.block < n) (x : Value) : OwnR n (W.setCell p x) v l :=
  ⟨World.ownsRow.kept (row := some p.block) h.1 ⟨rfl, rfl, rfl, by simp [World.setCell], fun k _ hk => Below.heap_setCell _ _ _ _ (fun e => hk (by simp [e]))⟩ (Or.inr (fun e => by have := (World.ownsRow.lt h.1 _ e).1; omega)), fun r hr => (h.2 r hr).put hp x⟩
theorem rcsB_drop {l : List Rc} {k : Nat} {r : Rc} (h : l[k]? = some r) : rcsB (l.drop k) = rcB r ++ rcsB (l.drop (k + 1)) := by
  obtain ⟨hk, e⟩ := List.getElem?_eq_some_iff.1 h
  rw [List.drop_eq_getElem_cons hk, e]
  rfl
theorem rc_one (r : Rc) : ∀ u ∈ rcC r, u.oneCell' = true := by
  intro u hu
  simp only [rcC, List.mem_cons, List.not_mem_nil, or_false] at hu
  rcases hu with rfl | rfl | rfl <;> rfl
set_option maxRecDepth 100000 in
set_option maxHeartbeats 8000000 in
theorem records_4 (s : ByteArray) (l : List Rc) (hl : l.length ≤ 20) (hok : ∀ r, r ∈ l → RcOk r) (hs : s.data.toList = rcsB l) (w : World) :
    Calls Tryz.prog 74 #[.string s, .int .i64 l.length, .int .i64 4] w fun e w' => ∃ (l' : List Rc) (a : Option Addr) (c : Nat), l'.map rcKey = l.map rcKey ∧ e = .returned (.tuple #[.slice a l'.length c, .int .i64 0]) ∧ OwnR w.heap.size w' (.slice a l'.length c) l' ∧ Below w.heap.size w w' := by
  have HOk := Lib.hid hok
  have h1 : (l.length : Int) ≤ 30 := by omega
  have h0 : (0 : Int) ≤ (l.length : Int) := by omega
  have hsz : s.size ≤ 4960 := by
    have := rcsB_len l hok
    rw [← size_toList, hs]
    omega
  have HS := Lib.hid hs
  clear hs hok
  go_enter Tryz.func74, Tryz.ntmps74
  go_upto_region 7 with ((with_reducible refine (isSize_4 _).mono ?_); rintro e w1 ⟨rfl, rfl⟩)
  go_loopw [0, 6, 7, 8, 9, 10, 11, 24] (fun t _ _ v _ _ _ i wr => ∃ (k : Nat) (tb : ByteArray) (l' : List Rc), k ≤ l.length ∧ t = .string tb ∧ i = .int .i64 k ∧ tb.data.toList = rcsB (l.drop k) ∧ tb.size ≤ 4960 ∧ l'.length = k ∧ l'.map rcKey = (l.take k).map rcKey ∧ wr.ownsRow w.heap.size 55 3 v k (rcCs l') ∧ (∀ r, r ∈ l' → Own4 w.heap.size wr (.slice r.sa r.ss.length r.sc) r.ss) ∧ Below w.heap.size w wr) (fun _ _ _ _ _ _ _ i _ => l.length + 1 - (intOf i).toNat)
  case atStart => exact ⟨0, s, [], Nat.zero_le _, rfl, rfl, HS.out, hsz, rfl, rfl, World.ownsRow_nil _ _ _ _, (by intro r hr; simp at hr), Below.refl _ _⟩
  case round =>
  obtain ⟨k, tb, l', hk, rfl, rfl, htb, htz, hl', hkey, ho, hos, hbl⟩ := hrel
  have HO := Lib.hid ho
  have HOs := Lib.hid hos
  have HB := Lib.hid hbl
  have HKey := Lib.hid hkey
  have hwz := hbl.size
  clear ho hos hbl hkey
  by_cases hlt : k < l.length
  · obtain ⟨r, hr, hrm, htk⟩ := rc_getD hlt
    rw [rcsB_drop hr] at htb
    have hrk := HOk.out r hrm
    obtain ⟨q1, q2, q3, q4⟩ := rc_head hrk htb
    have HR := Lib.hid (fun (W : World) => record_4 tb r hrk _ htb (by omega) W)
    obtain ⟨t2, ht2⟩ : ∃ t2, t2 = tb.extract (8 + r.ss.length * 4) tb.size := ⟨_, rfl⟩
    have e2 : t2.data.toList = rcsB (l.drop (k + 1)) := by
      rw [ht2, data_extract, q4, List.take_of_length_le]
      have := size_toList tb
      have h5 := congrArg List.length q4
      rw [List.length_drop, this] at h5
      omega
    have hz2 : t2.size ≤ 4960 := by rw [ht2, ByteArray.size_extract]; omega
    have kS := slice_from tb (8 + r.ss.length * 4) q2 (8 + (r.ss.length : Int) * 4) (by omega)
    rw [← ht2] at kS
    have hkn : knownK r.kind = true := by
      unfold knownK
      rw [Bool.and_eq_true, decide_eq_true_iff, decide_eq_true_iff]
      exact ⟨hrk.1, hrk.2.1⟩
    have HTk := Lib.hid htk
    have HE2 := Lib.hid e2
    clear htk htb hrk q1 q3 q4 ht2 e2
    obtain ⟨kind, group, ss, sa, sc⟩ := r
    simp only at *
    go_upto_region 9 with (go_at_call 152; (with_reducible refine (HR.out _).mono ?_); rintro e w2 ⟨a, c, rfl, hS, g2⟩; have S2 := Lib.hid hS; have O2 := Lib.hid (own_below HO.out g2); have Os2 := Lib.hid (fun r hr => Own4.below (HOs.out r hr) g2); have B2 := Lib.hid (HB.out.trans (g2.mono hwz)); have hs2 := g2.size; clear hS g2)
    have X3 := Lib.hid (Bx.new w2 [.int .i64 kind, .string group, .slice a ss.length c] 55)
    have E3 := Lib.hid (bbox1 w2 (.cells ([.int .i64 kind, .string group, .slice a ss.length c] : List Value).toArray 55))
    obtain ⟨nx, hnx⟩ : ∃ x, w2.heap.size = x := ⟨_, rfl⟩
    change Code.wp _ _ _ _ (w2.alloc (.cells ([.int .i64 kind, .string group, .slice a ss.length c] : List Value).toArray 55))
    generalize w2.alloc (.cells ([.int .i64 kind, .string group, .slice a ss.length c] : List Value).toArray 55) = w3 at X3 E3 ⊢
    have X4 := Lib.hid (show Bx w3 nx [.int .i64 kind, .string group, .slice a ss.length c] by rw [← hnx]; exact X3.out)
    have S3 := Lib.hid ((S2.out.low hwz).below E3.out)
    have O3 := Lib.hid (own_below O2.out E3.out)
    have Os3 := Lib.hid (fun r hr => Own4.below (Os2.out r hr) E3.out)
    have B3 := Lib.hid (B2.out.trans (E3.out.mono (by omega)))
    have hs3 := E3.out.size
    rw [hnx]
    clear X3 hnx
    have c0 := X4.out.get 0 _ rfl
    have c1 := X4.out.get 1 _ rfl
    have c2 := X4.out.get 2 _ rfl
    go_wp2_with (first
      | (go_at_call 153; (with_reducible refine (known_is kind _).mono ?_); rw [hkn]; rintro e wq ⟨rfl, rfl⟩)
      | (at_builtin; refine push_any rfl _ _ 51 55 rfl w.heap.size Tryz.underlying51 infoJ55 rfl (by decide) _ k (rcCs l') (rcC ⟨kind, group, ss, a, c⟩) w3.heap.size rfl (O3.out.alloc _) rfl (Bx.new w3 (rcC ⟨kind, group, ss, a, c⟩) 55) rfl (rc_one _) (by omega) (by decide) (by rw [World.size_alloc]; omega) ?_; intro v' w4 ho4 hg4 hb4 _; have HO4 := Lib.hid ho4; have HOs4 := Lib.hid (fun r hr => Own4.grown (Own4.below (Os3.out r hr) (bbox1 w3 _)) (O3.out.alloc _) hg4); have HS4 := Lib.hid (Own4.grown (S3.out.below (bbox1 w3 _)) (O3.out.alloc _) hg4); have HB4 := Lib.hid ((B3.out.alloc (by omega) (.cells (rcC ⟨kind, group, ss, a, c⟩).toArray 55)).trans hb4); clear ho4 hg4 hb4))
    refine ⟨⟨k + 1, t2, l' ++ [⟨kind, group, ss, a, c⟩], by omega, rfl, by go_num, HE2.out, hz2, by simp [hl'], ?_, by rw [rcCs_push]; exact HO4.out, ?_, HB4.out⟩, ?_⟩
    · rw [HTk.out, List.map_append, List.map_append, HKey.out]
      rfl
    · intro x hx
      rcases List.mem_append.1 hx with hx | hx
      · exact HOs4.out x hx
      · rw [List.mem_singleton.1 hx]; exact HS4.out
    · simp [intOf]; omega
  · have he : k = l.length := by omega
    have HRc := Lib.hid (show OwnR w.heap.size wr u8 l' from ⟨by rw [hl']; exact HO.out, HOs.out⟩)
    have HKy := Lib.hid (show l'.map rcKey = l.map rcKey by have h := HKey.out; rwa [he, List.take_length] at h)
    have hRv := HRc.out.rcs
    obtain ⟨a, c, rfl, -⟩ := hRv
    clear HO HOs HKey
    subst he
    go_wp2
    go_ret2
    exact ⟨l', a, c, HKy.out, rfl, HRc.out, HB.out⟩
end Go.Proofs.YticdmepplfgdiaaGreatDoor
end
section
namespace Go.Proofs.YticdmepplfgdiaaGreatDoor
open Go.ChangeShapes Go.WideShapes Go.ChangeAt Go.RowKit Go.Joins
/-- a part's bulk lies within that of all -/
theorem bulk_in {H : Type} {d : DataW H} : ∀ {l : List (DataW H)}, d ∈ l → Rows.uptoBulk d ≤ Rows.uptoBulkAll l
  | x :: r, h => by
    rw [Rows.uptoBulkAll]
    rcases List.mem_cons.1 h with rfl | h
    · exact Nat.le_add_right _ _
    · exact Nat.le_trans (bulk_in h) (Nat.le_add_left _ _)
/-- each counts one at least -/
theorem bulk_one {H : Type} (d : DataW H) : 1 ≤ Rows.uptoBulk d := by
  rcases d with l | _ | _ | _ | _ | _ | _ | _
  · rcases l with _ | _ | _ | _ <;> simp [Rows.uptoBulk]
  all_goals simp [Rows.uptoBulk]
theorem bulk_len {H : Type} : ∀ l : List (DataW H), l.length ≤ Rows.uptoBulkAll l
  | [] => Nat.zero_le _
  | x :: r => by
    have h1 := bulk_len r
    have h2 := bulk_one x
    rw [Rows.uptoBulkAll, List.length_cons]
    omega
theorem bulk_slice {H : Type} (a b : List (DataW H)) : Rows.uptoBulkAll a ≤ Rows.uptoBulk (.slice a b) := by
  rw [Rows.uptoBulk]; omega
theorem bulk_agg {H : Type} (a : List (DataW H)) : Rows.uptoBulkAll a ≤ Rows.uptoBulk (.agg a) := by
  rw [Rows.uptoBulk]; omega
theorem bulk_text {H : Type} (s : ByteArray) : s.size ≤ Rows.uptoBulk (.lit (.string s.data.toList) : DataW H) := by
  have e := size_toList s
  simp only [Rows.uptoBulk]
  omega
section
variable {H : Type} {enc : TypeId × Value → H} {w : World}
/-- a slice of addresses -/
theorem open_addrs {fuel : Nat} {v : Value} {x : DataW H × List MemPlace} (h : DataW.trod enc Tryz.prog w 0 (fun _ => true) true fuel 50 [v] = some x) :
    ∃ (a : Option Addr) (cap : Nat) (l : List ByteArray), v = .slice a l.length cap ∧ Strs w (.slice a l.length cap) l ∧ l.length ≤ Rows.uptoBulk x.1 ∧ ∀ s, s ∈ l → s.size ≤ Rows.uptoBulk x.1 := by
  rcases open_strings Tryz.underlying50 Tryz.underlying25 (by kernel_rfl) h with ⟨hc, hx⟩ | ⟨a, len, cap, zs, hc, _, hl, hm, hz, hx, hcell, _⟩
  · obtain rfl := List.head_eq_of_cons_eq hc
    exact ⟨none, 0, [], rfl, ⟨none, 0, rfl, .inl rfl⟩, Nat.zero_le _, fun s hs => by cases hs⟩
  · obtain rfl := List.head_eq_of_cons_eq hc
    simp only [if_true] at hz
    have hlen : (zs.take len).length = len := by rw [List.length_take]; omega
    refine ⟨some a, cap, zs.take len, by rw [hlen], ⟨some a, cap, rfl, ?_⟩, ?_, ?_⟩
    · rcases Nat.eq_zero_or_pos len with h0 | hp
      · exact .inl (List.length_eq_zero_iff.1 (by rw [hlen]; exact h0))
      · right
        obtain ⟨b, o, spot⟩ := a
        have hspot : spot = none := by simpa [Addr.add] using World.cell?_spot (hcell 0 (by omega))
        subst hspot
        refine ⟨b, o, rfl, World.block_lt_of_cell? w _ (hcell 0 (by omega)), fun i hi => ?_⟩
        rw [hlen] at hi
        have h1 := hcell i (by omega)
        rw [add_plain] at h1
        rw [h1, List.getD_eq_getElem?_getD, List.getD_eq_getElem?_getD, List.getElem?_take, if_pos hi]
        rfl
    · rw [hx]
      refine Nat.le_trans ?_ (bulk_slice _ _)
      have h1 := bulk_len (strs (H := H) (zs.take len))
      rw [strs, List.length_map] at h1
      exact h1
    · intro s hs
      rw [hx]
      refine Nat.le_trans (bulk_text (H := H) s) (Nat.le_trans (bulk_in ?_) (bulk_slice _ _))
      exact List.mem_map.2 ⟨s, hs, rfl⟩
/-- one record -/
theorem open_rc {fuel : Nat} {cs : List Value} {x : DataW H × List MemPlace} (hsz : cs.length = 3) (h : DataW.trod enc Tryz.prog w 0 (fun _ => true) true fuel 55 cs = some x) :
    ∃ y : Rc, cs = [.int .i64 y.kind, .string y.group, .slice y.sa y.ss.length y.sc] ∧ Strs w (.slice y.sa y.ss.length y.sc) y.ss ∧ y.ss.length ≤ Rows.uptoBulk x.1 ∧ y.kind ≤ 9223372036854775807 := by
  match cs, hsz with
  | [c0, c1, c2], _ =>
    obtain ⟨xs, n, _, hx, _, hlen, hg⟩ := DataW.trod_struct Tryz.underlying55 h
    have e0 : Tryz.prog.cellsOf 3 = 1 := by kernel_rfl
    have e1 : Tryz.prog.cellsOf 25 = 1 := by kernel_rfl
    have e2 : Tryz.prog.cellsOf 50 = 1 := by kernel_rfl
    match xs, hlen with
    | [y0, y1, y2], _ =>
      have g0 : DataW.trod enc Tryz.prog w 0 (fun _ => true) true n 3 [c0] = some y0 := by simpa [Value.cells, e0, e1, e2] using hg 0 _ rfl
      have g1 : DataW.trod enc Tryz.prog w 0 (fun _ => true) true n 25 [c1] = some y1 := by simpa [Value.cells, e0, e1, e2] using hg 1 _ rfl
      have g2 : DataW.trod enc Tryz.prog w 0 (fun _ => true) true n 50 [c2] = some y2 := by simpa [Value.cells, e0, e1, e2] using hg 2 _ rfl
      obtain ⟨k, q0, _, wf⟩ := DataW.trod_int (k := .i64) (by kernel_rfl) g0
      obtain ⟨g, q1, _, _⟩ := DataW.trod_string (by kernel_rfl) g1
      obtain rfl := List.head_eq_of_cons_eq q0
      obtain rfl := List.head_eq_of_cons_eq q1
      obtain ⟨sa, sc, ss, rfl, hs, hz, _⟩ := open_addrs g2
      refine ⟨⟨k, g, ss, sa, sc⟩, rfl, hs, ?_, (Go.bounds_i64 wf).2⟩
      rw [hx]
      refine Nat.le_trans hz (Nat.le_trans (bulk_in ?_) (bulk_agg _))
      show y2.1 ∈ [y0.1, y1.1, y2.1]
      simp
/-- a slice of records -/
theorem open_rcs {fuel : Nat} {v : Value} {x : DataW H × List MemPlace} (h : DataW.trod enc Tryz.prog w 0 (fun _ => true) true fuel 51 [v] = some x) :
    ∃ (a : Option Addr) (cap : Nat) (l : List Rc), v = .slice a l.length cap ∧ Rcs w (.slice a l.length cap) l ∧ l.length ≤ Rows.uptoBulk x.1 ∧ ∀ r, r ∈ l → r.ss.length ≤ Rows.uptoBulk x.1 ∧ r.kind ≤ 9223372036854775807 := by
  rcases Go.Deep.open_slice Tryz.underlying51 h with ⟨hc, _⟩ | ⟨a', len, cap, m, n, D, Pl, hc, _, hl, hm, hmm, hx0, hx⟩
  · obtain rfl := List.head_eq_of_cons_eq hc
    exact ⟨none, 0, [], rfl, ⟨none, 0, rfl, fun r hr => (by cases hr), .inl rfl⟩, Nat.zero_le _, fun r hr => (by cases hr)⟩
  · obtain rfl := List.head_eq_of_cons_eq hc
    simp only [if_true] at hmm
    subst hmm
    have e3 : Tryz.prog.cellsOf 55 = 3 := by kernel_rfl
    have each : ∀ i, i < len → ∃ y : Rc, (∃ cs', w.cells? 0 (a'.add (i * 3)) 3 = some cs' ∧ cs' = [.int .i64 y.kind, .string y.group, .slice y.sa y.ss.length y.sc]) ∧ Strs w (.slice y.sa y.ss.length y.sc) y.ss ∧ y.ss.length ≤ Rows.uptoBulk (D i) ∧ y.kind ≤ 9223372036854775807 := by
      intro i hi
      obtain ⟨cs', h1, h2⟩ := hx i (by omega)
      rw [e3] at h1
      obtain ⟨_, hlen, _⟩ := World.cells?_some h1
      obtain ⟨y, hy, k1, k2, k3⟩ := open_rc hlen h2
      exact ⟨y, ⟨cs', h1, hy⟩, k1, k2, k3⟩
    let ps : List Rc := (List.range len).attach.map fun i => Classical.choose (each i.1 (List.mem_range.1 i.2))
    have hpl : ps.length = len := by simp [ps]
    have hps : ∀ i (hi : i < len), ps[i]? = some (Classical.choose (each i hi)) := fun i hi => by
      simp [ps, hi]
    refine ⟨some a', _, ps, by rw [hpl], ⟨some a', _, rfl, ?_, ?_⟩, ?_, ?_⟩
    · intro x hxm
      obtain ⟨i, hi⟩ := List.getElem?_of_mem hxm
      have hil : i < len := by rw [← hpl]; exact (List.getElem?_eq_some_iff.1 hi).1
      rw [hps i hil] at hi
      obtain rfl := Option.some.inj hi
      exact (Classical.choose_spec (each i hil)).2.1
    · rcases Nat.eq_zero_or_pos len with h0 | hp
      · exact .inl (List.length_eq_zero_iff.1 (by rw [hpl]; exact h0))
      · right
        obtain ⟨b, o, spot⟩ := a'
        have c0 : ∀ i (hi : i < len) j, j < 3 → w.cell? ((⟨b, o, spot⟩ : Addr).add (i * 3 + j)) = [.int .i64 (Classical.choose (each i hi)).kind, .string (Classical.choose (each i hi)).group, .slice (Classical.choose (each i hi)).sa (Classical.choose (each i hi)).ss.length (Classical.choose (each i hi)).sc][j]? := by
          intro i hi j hj
          obtain ⟨⟨cs', h1, h2⟩, _⟩ := Classical.choose_spec (each i hi)
          obtain ⟨_, hlen, hcell⟩ := World.cells?_some h1
          have h3 := hcell j hj
          rw [Addr.add_add] at h3
          rw [h3, ← h2, List.getElem?_eq_getElem (by omega)]
        have hspot : spot = none := by
          have h1 := c0 0 hp 0 (by decide)
          simpa [Addr.add] using World.cell?_spot h1
        subst hspot
        refine ⟨b, o, rfl, World.block_lt_of_cell? w _ (c0 0 hp 0 (by decide)), fun i x hix => ?_⟩
        have hil : i < len := by rw [← hpl]; exact (List.getElem?_eq_some_iff.1 hix).1
        rw [hps i hil] at hix
        obtain rfl := Option.some.inj hix
        have g0 := c0 i hil 0 (by decide)
        have g1 := c0 i hil 1 (by decide)
        have g2 := c0 i hil 2 (by decide)
        rw [add_plain] at g0 g1 g2
        exact ⟨g0, g1, g2⟩
    · rw [hpl, hx0]
      refine Nat.le_trans ?_ (bulk_slice _ _)
      have h1 := bulk_len ((List.range len).map D)
      rw [List.length_map, List.length_range] at h1
      exact h1
    · intro x hxm
      obtain ⟨i, hi⟩ := List.getElem?_of_mem hxm
      have hil : i < len := by rw [← hpl]; exact (List.getElem?_eq_some_iff.1 hi).1
      rw [hps i hil] at hi
      obtain rfl := Option.some.inj hi
      obtain ⟨_, _, k2, k3⟩ := Classical.choose_spec (each i hil)
      refine ⟨Nat.le_trans k2 ?_, k3⟩
      rw [hx0]
      exact Nat.le_trans (bulk_in (List.mem_map.2 ⟨i, List.mem_range.2 hil, rfl⟩)) (bulk_slice _ _)
set_option maxRecDepth 100000 in
/-- a message -/
theorem open_msg {r : Reach} {b0 : Nat} {v : Value} {d : DataW H} {q : List MemPlace} (hv : Value.okWide Tryz.prog w r b0 53 v) (h : DataW.Trod enc Tryz.prog w 0 (fun _ => true) true 53 v d q) :
    ∃ (kind ver : Int) (group : ByteArray) (mx : Int) (q : Bool) (ro ev : Int) (sa ra : Option Addr) (ss : List ByteArray) (rs : List Rc) (sc rc : Nat), v = .agg #[.int .i64 kind, .int .i64 ver, .string group, .int .i64 mx, .bool q, .int .i64 ro, .int .i64 ev, .slice sa ss.length sc, .slice ra rs.length rc] ∧
      Strs w (.slice sa ss.length sc) ss ∧ Rcs w (.slice ra rs.length rc) rs ∧ group.size ≤ Rows.uptoBulk d ∧ (∀ s, s ∈ ss → s.size ≤ Rows.uptoBulk d) ∧ ss.length ≤ Rows.uptoBulk d ∧ rs.length ≤ Rows.uptoBulk d ∧ (∀ r, r ∈ rs → r.ss.length ≤ Rows.uptoBulk d ∧ r.kind ≤ 9223372036854775807) ∧
      mx ≤ 9223372036854775807 ∧ ev ≤ 9223372036854775807 ∧ -9223372036854775808 ≤ ro ∧ ro ≤ 9223372036854775807 := by
  obtain ⟨cs, rfl, hsz⟩ := okWide_struct Tryz.underlying53 hv
  obtain ⟨fuel, hf⟩ := h
  obtain ⟨l⟩ := cs
  have hsz9 : l.length = 9 := hsz.trans (show Tryz.prog.cellsOf 53 = 9 by kernel_rfl)
  match l, hsz9 with
  | [c0, c1, c2, c3, c4, c5, c6, c7, c8], _ =>
    obtain ⟨xs, n, _, hx, _, hlen, hg⟩ := DataW.trod_struct Tryz.underlying53 hf
    have e0 : Tryz.prog.cellsOf 3 = 1 := by kernel_rfl
    have e1 : Tryz.prog.cellsOf 25 = 1 := by kernel_rfl
    have e2 : Tryz.prog.cellsOf 4 = 1 := by kernel_rfl
    have e3 : Tryz.prog.cellsOf 50 = 1 := by kernel_rfl
    have e4 : Tryz.prog.cellsOf 51 = 1 := by kernel_rfl
    match xs, hlen with
    | [y0, y1, y2, y3, y4, y5, y6, y7, y8], _ =>
      have g0 : DataW.trod enc Tryz.prog w 0 (fun _ => true) true n 3 [c0] = some y0 := by simpa [Value.cells, e0, e1, e2, e3, e4] using hg 0 _ rfl
      have g1 : DataW.trod enc Tryz.prog w 0 (fun _ => true) true n 3 [c1] = some y1 := by simpa [Value.cells, e0, e1, e2, e3, e4] using hg 1 _ rfl
      have g2 : DataW.trod enc Tryz.prog w 0 (fun _ => true) true n 25 [c2] = some y2 := by simpa [Value.cells, e0, e1, e2, e3, e4] using hg 2 _ rfl
      have g3 : DataW.trod enc Tryz.prog w 0 (fun _ => true) true n 3 [c3] = some y3 := by simpa [Value.cells, e0, e1, e2, e3, e4] using hg 3 _ rfl
      have g4 : DataW.trod enc Tryz.prog w 0 (fun _ => true) true n 4 [c4] = some y4 := by simpa [Value.cells, e0, e1, e2, e3, e4] using hg 4 _ rfl
      have g5 : DataW.trod enc Tryz.prog w 0 (fun _ => true) true n 3 [c5] = some y5 := by simpa [Value.cells, e0, e1, e2, e3, e4] using hg 5 _ rfl
      have g6 : DataW.trod enc Tryz.prog w 0 (fun _ => true) true n 3 [c6] = some y6 := by simpa [Value.cells, e0, e1, e2, e3, e4] using hg 6 _ rfl
      have g7 : DataW.trod enc Tryz.prog w 0 (fun _ => true) true n 50 [c7] = some y7 := by simpa [Value.cells, e0, e1, e2, e3, e4] using hg 7 _ rfl
      have g8 : DataW.trod enc Tryz.prog w 0 (fun _ => true) true n 51 [c8] = some y8 := by simpa [Value.cells, e0, e1, e2, e3, e4] using hg 8 _ rfl
      have hin : ∀ y, y ∈ [y0.1, y1.1, y2.1, y3.1, y4.1, y5.1, y6.1, y7.1, y8.1] → Rows.uptoBulk y ≤ Rows.uptoBulk d := by
        intro y hy
        have hx' : d = .agg [y0.1, y1.1, y2.1, y3.1, y4.1, y5.1, y6.1, y7.1, y8.1] := congrArg Prod.fst hx
        rw [hx']
        exact Nat.le_trans (bulk_in hy) (bulk_agg _)
      have b2 := hin y2.1 (by simp)
      have b7 := hin y7.1 (by simp)
      have b8 := hin y8.1 (by simp)
      obtain ⟨kind, q0, _, _⟩ := DataW.trod_int (k := .i64) (by kernel_rfl) g0
      obtain ⟨ver, q1, _, _⟩ := DataW.trod_int (k := .i64) (by kernel_rfl) g1
      obtain ⟨group, q2, d2, _⟩ := DataW.trod_string (by kernel_rfl) g2
      obtain ⟨mx, q3, _, w3⟩ := DataW.trod_int (k := .i64) (by kernel_rfl) g3
      obtain ⟨qt, q4, _⟩ := DataW.trod_bool (by kernel_rfl) g4
      obtain ⟨ro, q5, _, w5⟩ := DataW.trod_int (k := .i64) (by kernel_rfl) g5
      obtain ⟨ev, q6, _, w6⟩ := DataW.trod_int (k := .i64) (by kernel_rfl) g6
      obtain rfl := List.head_eq_of_cons_eq q0
      obtain rfl := List.head_eq_of_cons_eq q1
      obtain rfl := List.head_eq_of_cons_eq q2
      obtain rfl := List.head_eq_of_cons_eq q3
      obtain rfl := List.head_eq_of_cons_eq q4
      obtain rfl := List.head_eq_of_cons_eq q5
      obtain rfl := List.head_eq_of_cons_eq q6
      obtain ⟨sa, sc, ss, rfl, hs, z1, z2⟩ := open_addrs g7
      obtain ⟨ra, rc, rs, rfl, hr, z3, z4⟩ := open_rcs g8
      refine ⟨kind, ver, group, mx, qt, ro, ev, sa, ra, ss, rs, sc, rc, rfl, hs, hr, ?_, fun s h => Nat.le_trans (z2 s h) b7, Nat.le_trans z1 b7, Nat.le_trans z3 b8, fun r h => ⟨Nat.le_trans (z4 r h).1 b8, (z4 r h).2⟩, (Go.bounds_i64 w3).2, (Go.bounds_i64 w6).2, (Go.bounds_i64 w5).1, (Go.bounds_i64 w5).2⟩
      rw [d2] at b2
      exact Nat.le_trans (bulk_text (H := H) group) b2
end
end Go.Proofs.YticdmepplfgdiaaGreatDoor
end
section
namespace Go.Proofs.YticdmepplfgdiaaGreatDoor
open Go.RowKit
theorem grp4_ne {group : ByteArray} (hg : grp4 group = true) : (group.toList == [0, 0, 0, 0]) = false := by
  rw [Lib.toList_data, beq_eq_false_iff_ne]
  intro e
  unfold grp4 at hg
  rw [e] at hg
  rw [Bool.and_eq_true] at hg
  exact absurd hg.2 (by decide)
theorem grp4_some {group : ByteArray} (hg : grp4 group = true) : group.toList.isEmpty = false := by
  rw [isEmpty_data]
  rcases h : group.data.toList with _ | ⟨y, r⟩
  · have := size_toList group
    rw [h, grp4_size hg] at this
    cases this
  · rfl
set_option maxRecDepth 100000 in
set_option maxHeartbeats 4000000 in
theorem asks_e1 (s : ByteArray) (x y : UInt8) (hs : s.data.toList = [17, 0, x, y] ++ (⟨#[0, 0, 0, 0]⟩ : ByteArray).data.toList) (w : World) :
    Calls Tryz.prog 73 #[.string s] w fun e w' => e = .returned (.tuple #[.agg #[.int .i64 1, .int .i64 1, .string ⟨#[]⟩, .int .i64 0, .bool false, .int .i64 0, .int .i64 0, .slice none 0 0, .slice none 0 0], .int .i64 0]) ∧ Below w.heap.size w w' := by
  have hsz : s.size = 8 := by rw [← size_toList, hs, List.length_append]; rfl
  have e1 : s.extract 4 8 = ⟨#[0, 0, 0, 0]⟩ := by
    apply ba_eq
    rw [data_extract, hs, List.drop_left' (show ([17, 0, x, y] : List UInt8).length = 4 from rfl), List.take_of_length_le (by decide)]
  have k1 := slice_mid s 4 8 (by decide) (by omega) 4 8 rfl rfl
  rw [e1] at k1
  have hb1 : PlainAid.bt s 1 = 0 := by rw [bt_at, hs]; exact rfl
  have hbt := PlainAid.get_bt s
  have hzi : (s.size : Int) = 8 := by omega
  have RB := Lib.hid (Bx.new w [.int .i64 0, .int .i64 0, .string ⟨#[]⟩, .int .i64 0, .bool false, .int .i64 0, .int .i64 0, .slice none 0 0, .slice none 0 0] 53)
  have G0 := Lib.hid (bbox1 w (.cells #[.int .i64 0, .int .i64 0, .string ⟨#[]⟩, .int .i64 0, .bool false, .int .i64 0, .int .i64 0, .slice none 0 0, .slice none 0 0] 53))
  clear hs e1 hsz
  go_enter Tryz.func73, Tryz.ntmps73
  go_upto_region 1 with fail
  obtain ⟨rb, hrb⟩ : ∃ x, w.heap.size = x := ⟨_, rfl⟩
  change Code.wp _ _ _ _ (w.alloc (.cells #[.int .i64 0, .int .i64 0, .string ⟨#[]⟩, .int .i64 0, .bool false, .int .i64 0, .int .i64 0, .slice none 0 0, .slice none 0 0] 53))
  generalize w.alloc (.cells #[.int .i64 0, .int .i64 0, .string ⟨#[]⟩, .int .i64 0, .bool false, .int .i64 0, .int .i64 0, .slice none 0 0, .slice none 0 0] 53) = w1 at RB G0 ⊢
  have RB1 := Lib.hid (show Bx w1 rb [.int .i64 0, .int .i64 0, .string ⟨#[]⟩, .int .i64 0, .bool false, .int .i64 0, .int .i64 0, .slice none 0 0, .slice none 0 0] by rw [← hrb]; exact RB.out)
  have HRB := Lib.hid hrb
  rw [hrb]
  clear RB hrb
  go_cut [4] (fun s4 wx => ∃ mb, s4 = .pointer (some ⟨mb, 0, none⟩) ∧ w1.heap.size ≤ mb ∧ Bx wx mb [.int .i64 1, .int .i64 1, .string ⟨#[0, 0, 0, 0]⟩, .int .i64 0, .bool false, .int .i64 0, .int .i64 0, .slice none 0 0, .slice none 0 0] ∧ Below w1.heap.size w1 wx)
  case first =>
    go_region
    all_goals
      go_wp2
      go_meet
      exact ⟨_, rfl, Nat.le_refl _, (Bx.new w1 [.int .i64 1, .int .i64 1, .string ⟨#[0, 0, 0, 0]⟩, .int .i64 0, .bool false, .int .i64 0, .int .i64 0, .slice none 0 0, .slice none 0 0] 53).drew, (bbox1 w1 _).drew⟩
  case rest =>
    obtain ⟨mb, rfl, hmb, hM, hE⟩ := hcut
    rename World => w2
    have M2 := Lib.hid hM
    have E2 := Lib.hid hE
    have R2 := Lib.hid (RB1.out.below hE)
    have s2 := hE.size
    have s1 := G0.out.size
    have hr1 := RB1.out.1
    clear hM hE
    have c1 := M2.out.get 1 _ rfl
    have c2 := M2.out.get 2 _ rfl
    have c3 := M2.out.get 3 _ rfl
    have cf := M2.out.fz
    go_upto_region 6 with fail
    have M3 := Lib.hid (show Bx (w2.setCell ⟨mb, 2, none⟩ (.string ⟨#[]⟩)) mb [.int .i64 1, .int .i64 1, .string ⟨#[]⟩, .int .i64 0, .bool false, .int .i64 0, .int .i64 0, .slice none 0 0, .slice none 0 0] from (M2.out.set (i := 2) (x := .string ⟨#[]⟩) (by simp)))
    have E3 := Lib.hid (show Below w1.heap.size w1 (w2.setCell ⟨mb, 2, none⟩ (.string ⟨#[]⟩)) from (E2.out.setCell (p := ⟨mb, 2, none⟩) hmb (.string ⟨#[]⟩)))
    have R3 := Lib.hid (show Bx (w2.setCell ⟨mb, 2, none⟩ (.string ⟨#[]⟩)) rb [.int .i64 0, .int .i64 0, .string ⟨#[]⟩, .int .i64 0, .bool false, .int .i64 0, .int .i64 0, .slice none 0 0, .slice none 0 0] from (R2.out.put (c := mb) (o := 2) (x := .string ⟨#[]⟩) (by omega)))
    generalize (w2.setCell ⟨mb, 2, none⟩ (.string ⟨#[]⟩)) = w3 at M3 E3 R3 ⊢
    have s3 := E3.out.size
    clear c1 c2 c3 cf M2 E2 R2
    have M4 := M3
    have R4 := R3
    have E4 := E3
    have c0 := M4.out.get 0 _ rfl
    have c1 := M4.out.get 1 _ rfl
    have c2 := M4.out.get 2 _ rfl
    have c3 := M4.out.get 3 _ rfl
    have c4 := M4.out.get 4 _ rfl
    have c5 := M4.out.get 5 _ rfl
    have c6 := M4.out.get 6 _ rfl
    have c7 := M4.out.get 7 _ rfl
    have c8 := M4.out.get 8 _ rfl
    have d0 := R4.out.get 0 _ rfl
    have d1 := R4.out.get 1 _ rfl
    have d2 := R4.out.get 2 _ rfl
    have d3 := R4.out.get 3 _ rfl
    have d4 := R4.out.get 4 _ rfl
    have d5 := R4.out.get 5 _ rfl
    have d6 := R4.out.get 6 _ rfl
    have d7 := R4.out.get 7 _ rfl
    have d8 := R4.out.get 8 _ rfl
    have df := R4.out.fz
    go_wp2
    refine bodyPost_ret (v := .tuple #[.agg #[.int .i64 1, .int .i64 1, .string ⟨#[]⟩, .int .i64 0, .bool false, .int .i64 0, .int .i64 0, .slice none 0 0, .slice none 0 0], .int .i64 0]) (by simp [results, Tryz.results73, go_sem, d0, d1, d2, d3, d4, d5, d6, d7, d8]) rfl ⟨rfl, ?_⟩
    have hwb : w.heap.size ≤ rb := by have := HRB.out; omega
    have G4 := G0.out.trans (E4.out.mono s1)
    exact (((((((((G4.setCell (p := ⟨rb, 0, none⟩) hwb _).setCell (p := ⟨rb, 1, none⟩) hwb _).setCell (p := ⟨rb, 2, none⟩) hwb _).setCell (p := ⟨rb, 3, none⟩) hwb _).setCell (p := ⟨rb, 4, none⟩) hwb _).setCell (p := ⟨rb, 5, none⟩) hwb _).setCell (p := ⟨rb, 6, none⟩) hwb _).setCell (p := ⟨rb, 7, none⟩) hwb _).setCell (p := ⟨rb, 8, none⟩) hwb _)
set_option maxRecDepth 100000 in
set_option maxHeartbeats 4000000 in
theorem asks_e2 (s : ByteArray) (c : Nat) (x y : UInt8) (hc0 : c ≠ 0) (hc : c ≤ 255) (hs : s.data.toList = [17, UInt8.ofNat c, x, y] ++ (⟨#[0, 0, 0, 0]⟩ : ByteArray).data.toList) (w : World) :
    Calls Tryz.prog 73 #[.string s] w fun e w' => e = .returned (.tuple #[.agg #[.int .i64 1, .int .i64 2, .string ⟨#[]⟩, .int .i64 c, .bool false, .int .i64 0, .int .i64 0, .slice none 0 0, .slice none 0 0], .int .i64 0]) ∧ Below w.heap.size w w' := by
  have hsz : s.size = 8 := by rw [← size_toList, hs, List.length_append]; rfl
  have e1 : s.extract 4 8 = ⟨#[0, 0, 0, 0]⟩ := by
    apply ba_eq
    rw [data_extract, hs, List.drop_left' (show ([17, UInt8.ofNat c, x, y] : List UInt8).length = 4 from rfl), List.take_of_length_le (by decide)]
  have k1 := slice_mid s 4 8 (by decide) (by omega) 4 8 rfl rfl
  rw [e1] at k1
  have hcb : ((UInt8.ofNat c).toNat : Int) = (c : Int) := by rw [UInt8.toNat_ofNat', Nat.mod_eq_of_lt (by omega)]
  have hb1 : PlainAid.bt s 1 = (c : Int) := by rw [bt_at, hs]; exact hcb
  have hbt := PlainAid.get_bt s
  have hzi : (s.size : Int) = 8 := by omega
  have hwc : wrap64 (c : Int) = (c : Int) := IntWalk.wrap64_in _ ⟨by omega, by omega⟩
  have hcne : ((c : Int) != 0) = true := by rw [bne_iff_ne]; omega
  have RB := Lib.hid (Bx.new w [.int .i64 0, .int .i64 0, .string ⟨#[]⟩, .int .i64 0, .bool false, .int .i64 0, .int .i64 0, .slice none 0 0, .slice none 0 0] 53)
  have G0 := Lib.hid (bbox1 w (.cells #[.int .i64 0, .int .i64 0, .string ⟨#[]⟩, .int .i64 0, .bool false, .int .i64 0, .int .i64 0, .slice none 0 0, .slice none 0 0] 53))
  clear hs e1 hsz hcb
  go_enter Tryz.func73, Tryz.ntmps73
  go_upto_region 1 with fail
  obtain ⟨rb, hrb⟩ : ∃ x, w.heap.size = x := ⟨_, rfl⟩
  change Code.wp _ _ _ _ (w.alloc (.cells #[.int .i64 0, .int .i64 0, .string ⟨#[]⟩, .int .i64 0, .bool false, .int .i64 0, .int .i64 0, .slice none 0 0, .slice none 0 0] 53))
  generalize w.alloc (.cells #[.int .i64 0, .int .i64 0, .string ⟨#[]⟩, .int .i64 0, .bool false, .int .i64 0, .int .i64 0, .slice none 0 0, .slice none 0 0] 53) = w1 at RB G0 ⊢
  have RB1 := Lib.hid (show Bx w1 rb [.int .i64 0, .int .i64 0, .string ⟨#[]⟩, .int .i64 0, .bool false, .int .i64 0, .int .i64 0, .slice none 0 0, .slice none 0 0] by rw [← hrb]; exact RB.out)
  have HRB := Lib.hid hrb
  rw [hrb]
  clear RB hrb
  go_cut [4] (fun s4 wx => ∃ mb, s4 = .pointer (some ⟨mb, 0, none⟩) ∧ w1.heap.size ≤ mb ∧ Bx wx mb [.int .i64 1, .int .i64 1, .string ⟨#[0, 0, 0, 0]⟩, .int .i64 c, .bool false, .int .i64 0, .int .i64 0, .slice none 0 0, .slice none 0 0] ∧ Below w1.heap.size w1 wx)
  case first =>
    go_region
    all_goals
      go_wp2
      go_meet
      exact ⟨_, rfl, Nat.le_refl _, (Bx.new w1 [.int .i64 1, .int .i64 1, .string ⟨#[0, 0, 0, 0]⟩, .int .i64 c, .bool false, .int .i64 0, .int .i64 0, .slice none 0 0, .slice none 0 0] 53).drew, (bbox1 w1 _).drew⟩
  case rest =>
    obtain ⟨mb, rfl, hmb, hM, hE⟩ := hcut
    rename World => w2
    have M2 := Lib.hid hM
    have E2 := Lib.hid hE
    have R2 := Lib.hid (RB1.out.below hE)
    have s2 := hE.size
    have s1 := G0.out.size
    have hr1 := RB1.out.1
    clear hM hE
    have c1 := M2.out.get 1 _ rfl
    have c2 := M2.out.get 2 _ rfl
    have c3 := M2.out.get 3 _ rfl
    have cf := M2.out.fz
    go_upto_region 6 with fail
    have M3 := Lib.hid (show Bx ((w2.setCell ⟨mb, 2, none⟩ (.string ⟨#[]⟩)).setCell ⟨mb, 1, none⟩ (.int .i64 2)) mb [.int .i64 1, .int .i64 2, .string ⟨#[]⟩, .int .i64 c, .bool false, .int .i64 0, .int .i64 0, .slice none 0 0, .slice none 0 0] from ((M2.out.set (i := 2) (x := .string ⟨#[]⟩) (by simp)).set (i := 1) (x := .int .i64 2) (by simp)))
    have E3 := Lib.hid (show Below w1.heap.size w1 ((w2.setCell ⟨mb, 2, none⟩ (.string ⟨#[]⟩)).setCell ⟨mb, 1, none⟩ (.int .i64 2)) from ((E2.out.setCell (p := ⟨mb, 2, none⟩) hmb (.string ⟨#[]⟩)).setCell (p := ⟨mb, 1, none⟩) hmb (.int .i64 2)))
    have R3 := Lib.hid (show Bx ((w2.setCell ⟨mb, 2, none⟩ (.string ⟨#[]⟩)).setCell ⟨mb, 1, none⟩ (.int .i64 2)) rb [.int .i64 0, .int .i64 0, .string ⟨#[]⟩, .int .i64 0, .bool false, .int .i64 0, .int .i64 0, .slice none 0 0, .slice none 0 0] from ((R2.out.put (c := mb) (o := 2) (x := .string ⟨#[]⟩) (by omega)).put (c := mb) (o := 1) (x := .int .i64 2) (by omega)))
    generalize ((w2.setCell ⟨mb, 2, none⟩ (.string ⟨#[]⟩)).setCell ⟨mb, 1, none⟩ (.int .i64 2)) = w3 at M3 E3 R3 ⊢
    have s3 := E3.out.size
    clear c1 c2 c3 cf M2 E2 R2
    have M4 := M3
    have R4 := R3
    have E4 := E3
    have c0 := M4.out.get 0 _ rfl
    have c1 := M4.out.get 1 _ rfl
    have c2 := M4.out.get 2 _ rfl
    have c3 := M4.out.get 3 _ rfl
    have c4 := M4.out.get 4 _ rfl
    have c5 := M4.out.get 5 _ rfl
    have c6 := M4.out.get 6 _ rfl
    have c7 := M4.out.get 7 _ rfl
    have c8 := M4.out.get 8 _ rfl
    have d0 := R4.out.get 0 _ rfl
    have d1 := R4.out.get 1 _ rfl
    have d2 := R4.out.get 2 _ rfl
    have d3 := R4.out.get 3 _ rfl
    have d4 := R4.out.get 4 _ rfl
    have d5 := R4.out.get 5 _ rfl
    have d6 := R4.out.get 6 _ rfl
    have d7 := R4.out.get 7 _ rfl
    have d8 := R4.out.get 8 _ rfl
    have df := R4.out.fz
    go_wp2
    refine bodyPost_ret (v := .tuple #[.agg #[.int .i64 1, .int .i64 2, .string ⟨#[]⟩, .int .i64 c, .bool false, .int .i64 0, .int .i64 0, .slice none 0 0, .slice none 0 0], .int .i64 0]) (by simp [results, Tryz.results73, go_sem, d0, d1, d2, d3, d4, d5, d6, d7, d8]) rfl ⟨rfl, ?_⟩
    have hwb : w.heap.size ≤ rb := by have := HRB.out; omega
    have G4 := G0.out.trans (E4.out.mono s1)
    exact (((((((((G4.setCell (p := ⟨rb, 0, none⟩) hwb _).setCell (p := ⟨rb, 1, none⟩) hwb _).setCell (p := ⟨rb, 2, none⟩) hwb _).setCell (p := ⟨rb, 3, none⟩) hwb _).setCell (p := ⟨rb, 4, none⟩) hwb _).setCell (p := ⟨rb, 5, none⟩) hwb _).setCell (p := ⟨rb, 6, none⟩) hwb _).setCell (p := ⟨rb, 7, none⟩) hwb _).setCell (p := ⟨rb, 8, none⟩) hwb _)
set_option maxRecDepth 100000 in
set_option maxHeartbeats 4000000 in
theorem asks_g1 (s group : ByteArray) (x y : UInt8) (hs : s.data.toList = [17, 0, x, y] ++ (group : ByteArray).data.toList) (hg : grp4 group = true) (w : World) :
    Calls Tryz.prog 73 #[.string s] w fun e w' => e = .returned (.tuple #[.agg #[.int .i64 1, .int .i64 1, .string group, .int .i64 0, .bool false, .int .i64 0, .int .i64 0, .slice none 0 0, .slice none 0 0], .int .i64 0]) ∧ Below w.heap.size w w' := by
  have hgz := grp4_size hg
  have hsz : s.size = 8 := by rw [← size_toList, hs, List.length_append, size_toList, hgz]; rfl
  have e1 : s.extract 4 8 = group := by
    apply ba_eq
    rw [data_extract, hs, List.drop_left' (show ([17, 0, x, y] : List UInt8).length = 4 from rfl), List.take_of_length_le (by rw [size_toList]; omega)]
  have k1 := slice_mid s 4 8 (by decide) (by omega) 4 8 rfl rfl
  rw [e1] at k1
  have hb1 : PlainAid.bt s 1 = 0 := by rw [bt_at, hs]; exact rfl
  have hbt := PlainAid.get_bt s
  have hzi : (s.size : Int) = 8 := by omega
  have hgt := grp4_ne hg
  have hge := grp4_some hg
  have RB := Lib.hid (Bx.new w [.int .i64 0, .int .i64 0, .string ⟨#[]⟩, .int .i64 0, .bool false, .int .i64 0, .int .i64 0, .slice none 0 0, .slice none 0 0] 53)
  have G0 := Lib.hid (bbox1 w (.cells #[.int .i64 0, .int .i64 0, .string ⟨#[]⟩, .int .i64 0, .bool false, .int .i64 0, .int .i64 0, .slice none 0 0, .slice none 0 0] 53))
  clear hs e1 hsz
  go_enter Tryz.func73, Tryz.ntmps73
  go_upto_region 1 with fail
  obtain ⟨rb, hrb⟩ : ∃ x, w.heap.size = x := ⟨_, rfl⟩
  change Code.wp _ _ _ _ (w.alloc (.cells #[.int .i64 0, .int .i64 0, .string ⟨#[]⟩, .int .i64 0, .bool false, .int .i64 0, .int .i64 0, .slice none 0 0, .slice none 0 0] 53))
  generalize w.alloc (.cells #[.int .i64 0, .int .i64 0, .string ⟨#[]⟩, .int .i64 0, .bool false, .int .i64 0, .int .i64 0, .slice none 0 0, .slice none 0 0] 53) = w1 at RB G0 ⊢
  have RB1 := Lib.hid (show Bx w1 rb [.int .i64 0, .int .i64 0, .string ⟨#[]⟩, .int .i64 0, .bool false, .int .i64 0, .int .i64 0, .slice none 0 0, .slice none 0 0] by rw [← hrb]; exact RB.out)
  have HRB := Lib.hid hrb
  rw [hrb]
  clear RB hrb
  go_cut [4] (fun s4 wx => ∃ mb, s4 = .pointer (some ⟨mb, 0, none⟩) ∧ w1.heap.size ≤ mb ∧ Bx wx mb [.int .i64 1, .int .i64 1, .string group, .int .i64 0, .bool false, .int .i64 0, .int .i64 0, .slice none 0 0, .slice none 0 0] ∧ Below w1.heap.size w1 wx)
  case first =>
    go_region
    all_goals
      go_wp2
      go_meet
      exact ⟨_, rfl, Nat.le_refl _, (Bx.new w1 [.int .i64 1, .int .i64 1, .string group, .int .i64 0, .bool false, .int .i64 0, .int .i64 0, .slice none 0 0, .slice none 0 0] 53).drew, (bbox1 w1 _).drew⟩
  case rest =>
    obtain ⟨mb, rfl, hmb, hM, hE⟩ := hcut
    rename World => w2
    have M2 := Lib.hid hM
    have E2 := Lib.hid hE
    have R2 := Lib.hid (RB1.out.below hE)
    have s2 := hE.size
    have s1 := G0.out.size
    have hr1 := RB1.out.1
    clear hM hE
    have c1 := M2.out.get 1 _ rfl
    have c2 := M2.out.get 2 _ rfl
    have c3 := M2.out.get 3 _ rfl
    have cf := M2.out.fz
    go_upto_region 6 with fail
    have M3 := Lib.hid (show Bx w2 mb [.int .i64 1, .int .i64 1, .string group, .int .i64 0, .bool false, .int .i64 0, .int .i64 0, .slice none 0 0, .slice none 0 0] from M2.out)
    have E3 := Lib.hid (show Below w1.heap.size w1 w2 from E2.out)
    have R3 := Lib.hid (show Bx w2 rb [.int .i64 0, .int .i64 0, .string ⟨#[]⟩, .int .i64 0, .bool false, .int .i64 0, .int .i64 0, .slice none 0 0, .slice none 0 0] from R2.out)
    obtain ⟨w3, hw3⟩ : ∃ x, x = w2 := ⟨_, rfl⟩
    rw [← hw3] at M3 E3 R3 ⊢
    clear hw3
    have s3 := E3.out.size
    clear c1 c2 c3 cf M2 E2 R2
    have c2 := M3.out.get 2 _ rfl
    go_wp2_with (go_at_call 75; (with_reducible refine (isGroup_4 group _).mono ?_); rw [hg]; rintro e w4 ⟨rfl, g4⟩; have M4 := Lib.hid (M3.out.below g4); have R4 := Lib.hid (R3.out.below g4); have E4 := Lib.hid (E3.out.trans (g4.mono s3)); clear g4; have c0 := M4.out.get 0 _ rfl; have c1 := M4.out.get 1 _ rfl; have c2 := M4.out.get 2 _ rfl; have c3 := M4.out.get 3 _ rfl; have c4 := M4.out.get 4 _ rfl; have c5 := M4.out.get 5 _ rfl; have c6 := M4.out.get 6 _ rfl; have c7 := M4.out.get 7 _ rfl; have c8 := M4.out.get 8 _ rfl; have d0 := R4.out.get 0 _ rfl; have d1 := R4.out.get 1 _ rfl; have d2 := R4.out.get 2 _ rfl; have d3 := R4.out.get 3 _ rfl; have d4 := R4.out.get 4 _ rfl; have d5 := R4.out.get 5 _ rfl; have d6 := R4.out.get 6 _ rfl; have d7 := R4.out.get 7 _ rfl; have d8 := R4.out.get 8 _ rfl; have df := R4.out.fz)
    refine bodyPost_ret (v := .tuple #[.agg #[.int .i64 1, .int .i64 1, .string group, .int .i64 0, .bool false, .int .i64 0, .int .i64 0, .slice none 0 0, .slice none 0 0], .int .i64 0]) (by simp [results, Tryz.results73, go_sem, d0, d1, d2, d3, d4, d5, d6, d7, d8]) rfl ⟨rfl, ?_⟩
    have hwb : w.heap.size ≤ rb := by have := HRB.out; omega
    have G4 := G0.out.trans (E4.out.mono s1)
    exact (((((((((G4.setCell (p := ⟨rb, 0, none⟩) hwb _).setCell (p := ⟨rb, 1, none⟩) hwb _).setCell (p := ⟨rb, 2, none⟩) hwb _).setCell (p := ⟨rb, 3, none⟩) hwb _).setCell (p := ⟨rb, 4, none⟩) hwb _).setCell (p := ⟨rb, 5, none⟩) hwb _).setCell (p := ⟨rb, 6, none⟩) hwb _).setCell (p := ⟨rb, 7, none⟩) hwb _).setCell (p := ⟨rb, 8, none⟩) hwb _)
set_option maxRecDepth 100000 in
set_option maxHeartbeats 4000000 in
theorem asks_g2 (s group : ByteArray) (c : Nat) (x y : UInt8) (hc0 : c ≠ 0) (hc : c ≤ 255) (hs : s.data.toList = [17, UInt8.ofNat c, x, y] ++ (group : ByteArray).data.toList) (hg : grp4 group = true) (w : World) :
    Calls Tryz.prog 73 #[.string s] w fun e w' => e = .returned (.tuple #[.agg #[.int .i64 1, .int .i64 2, .string group, .int .i64 c, .bool false, .int .i64 0, .int .i64 0, .slice none 0 0, .slice none 0 0], .int .i64 0]) ∧ Below w.heap.size w w' := by
  have hgz := grp4_size hg
  have hsz : s.size = 8 := by rw [← size_toList, hs, List.length_append, size_toList, hgz]; rfl
  have e1 : s.extract 4 8 = group := by
    apply ba_eq
    rw [data_extract, hs, List.drop_left' (show ([17, UInt8.ofNat c, x, y] : List UInt8).length = 4 from rfl), List.take_of_length_le (by rw [size_toList]; omega)]
  have k1 := slice_mid s 4 8 (by decide) (by omega) 4 8 rfl rfl
  rw [e1] at k1
  have hcb : ((UInt8.ofNat c).toNat : Int) = (c : Int) := by rw [UInt8.toNat_ofNat', Nat.mod_eq_of_lt (by omega)]
  have hb1 : PlainAid.bt s 1 = (c : Int) := by rw [bt_at, hs]; exact hcb
  have hbt := PlainAid.get_bt s
  have hzi : (s.size : Int) = 8 := by omega
  have hwc : wrap64 (c : Int) = (c : Int) := IntWalk.wrap64_in _ ⟨by omega, by omega⟩
  have hcne : ((c : Int) != 0) = true := by rw [bne_iff_ne]; omega
  have hgt := grp4_ne hg
  have hge := grp4_some hg
  have RB := Lib.hid (Bx.new w [.int .i64 0, .int .i64 0, .string ⟨#[]⟩, .int .i64 0, .bool false, .int .i64 0, .int .i64 0, .slice none 0 0, .slice none 0 0] 53)
  have G0 := Lib.hid (bbox1 w (.cells #[.int .i64 0, .int .i64 0, .string ⟨#[]⟩, .int .i64 0, .bool false, .int .i64 0, .int .i64 0, .slice none 0 0, .slice none 0 0] 53))
  clear hs e1 hsz hcb
  go_enter Tryz.func73, Tryz.ntmps73
  go_upto_region 1 with fail
  obtain ⟨rb, hrb⟩ : ∃ x, w.heap.size = x := ⟨_, rfl⟩
  change Code.wp _ _ _ _ (w.alloc (.cells #[.int .i64 0, .int .i64 0, .string ⟨#[]⟩, .int .i64 0, .bool false, .int .i64 0, .int .i64 0, .slice none 0 0, .slice none 0 0] 53))
  generalize w.alloc (.cells #[.int .i64 0, .int .i64 0, .string ⟨#[]⟩, .int .i64 0, .bool false, .int .i64 0, .int .i64 0, .slice none 0 0, .slice none 0 0] 53) = w1 at RB G0 ⊢
  have RB1 := Lib.hid (show Bx w1 rb [.int .i64 0, .int .i64 0, .string ⟨#[]⟩, .int .i64 0, .bool false, .int .i64 0, .int .i64 0, .slice none 0 0, .slice none 0 0] by rw [← hrb]; exact RB.out)
  have HRB := Lib.hid hrb
  rw [hrb]
  clear RB hrb
  go_cut [4] (fun s4 wx => ∃ mb, s4 = .pointer (some ⟨mb, 0, none⟩) ∧ w1.heap.size ≤ mb ∧ Bx wx mb [.int .i64 1, .int .i64 1, .string group, .int .i64 c, .bool false, .int .i64 0, .int .i64 0, .slice none 0 0, .slice none 0 0] ∧ Below w1.heap.size w1 wx)
  case first =>
    go_region
    all_goals
      go_wp2
      go_meet
      exact ⟨_, rfl, Nat.le_refl _, (Bx.new w1 [.int .i64 1, .int .i64 1, .string group, .int .i64 c, .bool false, .int .i64 0, .int .i64 0, .slice none 0 0, .slice none 0 0] 53).drew, (bbox1 w1 _).drew⟩
  case rest =>
    obtain ⟨mb, rfl, hmb, hM, hE⟩ := hcut
    rename World => w2
    have M2 := Lib.hid hM
    have E2 := Lib.hid hE
    have R2 := Lib.hid (RB1.out.below hE)
    have s2 := hE.size
    have s1 := G0.out.size
    have hr1 := RB1.out.1
    clear hM hE
    have c1 := M2.out.get 1 _ rfl
    have c2 := M2.out.get 2 _ rfl
    have c3 := M2.out.get 3 _ rfl
    have cf := M2.out.fz
    go_upto_region 6 with fail
    have M3 := Lib.hid (show Bx (w2.setCell ⟨mb, 1, none⟩ (.int .i64 2)) mb [.int .i64 1, .int .i64 2, .string group, .int .i64 c, .bool false, .int .i64 0, .int .i64 0, .slice none 0 0, .slice none 0 0] from (M2.out.set (i := 1) (x := .int .i64 2) (by simp)))
    have E3 := Lib.hid (show Below w1.heap.size w1 (w2.setCell ⟨mb, 1, none⟩ (.int .i64 2)) from (E2.out.setCell (p := ⟨mb, 1, none⟩) hmb (.int .i64 2)))
    have R3 := Lib.hid (show Bx (w2.setCell ⟨mb, 1, none⟩ (.int .i64 2)) rb [.int .i64 0, .int .i64 0, .string ⟨#[]⟩, .int .i64 0, .bool false, .int .i64 0, .int .i64 0, .slice none 0 0, .slice none 0 0] from (R2.out.put (c := mb) (o := 1) (x := .int .i64 2) (by omega)))
    generalize (w2.setCell ⟨mb, 1, none⟩ (.int .i64 2)) = w3 at M3 E3 R3 ⊢
    have s3 := E3.out.size
    clear c1 c2 c3 cf M2 E2 R2
    have c2 := M3.out.get 2 _ rfl
    go_wp2_with (go_at_call 75; (with_reducible refine (isGroup_4 group _).mono ?_); rw [hg]; rintro e w4 ⟨rfl, g4⟩; have M4 := Lib.hid (M3.out.below g4); have R4 := Lib.hid (R3.out.below g4); have E4 := Lib.hid (E3.out.trans (g4.mono s3)); clear g4; have c0 := M4.out.get 0 _ rfl; have c1 := M4.out.get 1 _ rfl; have c2 := M4.out.get 2 _ rfl; have c3 := M4.out.get 3 _ rfl; have c4 := M4.out.get 4 _ rfl; have c5 := M4.out.get 5 _ rfl; have c6 := M4.out.get 6 _ rfl; have c7 := M4.out.get 7 _ rfl; have c8 := M4.out.get 8 _ rfl; have d0 := R4.out.get 0 _ rfl; have d1 := R4.out.get 1 _ rfl; have d2 := R4.out.get 2 _ rfl; have d3 := R4.out.get 3 _ rfl; have d4 := R4.out.get 4 _ rfl; have d5 := R4.out.get 5 _ rfl; have d6 := R4.out.get 6 _ rfl; have d7 := R4.out.get 7 _ rfl; have d8 := R4.out.get 8 _ rfl; have df := R4.out.fz)
    refine bodyPost_ret (v := .tuple #[.agg #[.int .i64 1, .int .i64 2, .string group, .int .i64 c, .bool false, .int .i64 0, .int .i64 0, .slice none 0 0, .slice none 0 0], .int .i64 0]) (by simp [results, Tryz.results73, go_sem, d0, d1, d2, d3, d4, d5, d6, d7, d8]) rfl ⟨rfl, ?_⟩
    have hwb : w.heap.size ≤ rb := by have := HRB.out; omega
    have G4 := G0.out.trans (E4.out.mono s1)
    exact (((((((((G4.setCell (p := ⟨rb, 0, none⟩) hwb _).setCell (p := ⟨rb, 1, none⟩) hwb _).setCell (p := ⟨rb, 2, none⟩) hwb _).setCell (p := ⟨rb, 3, none⟩) hwb _).setCell (p := ⟨rb, 4, none⟩) hwb _).setCell (p := ⟨rb, 5, none⟩) hwb _).setCell (p := ⟨rb, 6, none⟩) hwb _).setCell (p := ⟨rb, 7, none⟩) hwb _).setCell (p := ⟨rb, 8, none⟩) hwb _)
end Go.Proofs.YticdmepplfgdiaaGreatDoor
end
section
namespace Go.Proofs.YticdmepplfgdiaaGreatDoor
open Go.RowKit
set_option maxRecDepth 100000 in
set_option maxHeartbeats 4000000 in
theorem dec_a (s : ByteArray) (l : List Rc) (x y : UInt8) (hl : l.length ≤ 20) (hok : ∀ r, r ∈ l → RcOk r) (hs : s.data.toList = [34, 0, x, y, 0, 0] ++ Pl.be 2 l.length ++ rcsB l) (hsum : Cs.sum s.data.toList = 0) (w : World) :
    Calls Tryz.prog 18 #[.string s] w fun e w' => ∃ (l' : List Rc) (a : Option Addr) (c : Nat), l'.map rcKey = l.map rcKey ∧ e = .returned (.tuple #[.agg #[.int .i64 2, .int .i64 3, .string ⟨#[]⟩, .int .i64 0, .bool false, .int .i64 0, .int .i64 0, .slice none 0 0, .slice a l'.length c], .int .i64 0]) ∧ Rcs w' (.slice a l'.length c) l' ∧ Below w.heap.size w w' := by
  have hrl := rcsB_len l hok
  have hh : ([34, 0, x, y, 0, 0] ++ Pl.be 2 l.length).length = 8 := by rw [List.length_append, Pl.be_length]; rfl
  have hsz : s.size = 8 + (rcsB l).length := by rw [← size_toList, hs, List.length_append, hh]
  have HR := Lib.hid (fun (W : World) => (show Calls Tryz.prog 72 #[.string s] W fun e w' => e = .returned (.bool true) ∧ Below W.heap.size W w' by
    have h := right_any s (by omega) W
    rw [hsum] at h
    exact h))
  have e2 : s.extract 0 1 = ⟨#[34]⟩ := by
    apply ba_eq
    rw [data_extract, hs]
    rfl
  obtain ⟨t, ht⟩ : ∃ t, t = s.extract 8 s.size := ⟨_, rfl⟩
  have htd : t.data.toList = rcsB l := by
    rw [ht, data_extract, hs, List.drop_left' hh, List.take_of_length_le (by omega)]
  obtain ⟨g4, hg4⟩ : ∃ t, t = s.extract 4 8 := ⟨_, rfl⟩
  have k1 := slice_mid s 4 8 (by decide) (by omega) 4 8 rfl rfl
  rw [← hg4] at k1
  have k2 := slice_to s 1 (by omega) 1 rfl
  rw [e2] at k2
  have k3 := slice_from s 8 (by omega) 8 rfl
  rw [← ht] at k3
  have HGt := Lib.hid (fun (W : World) => (show Calls Tryz.prog 71 #[.string s, .int .i64 6, .int .i64 2] W fun e w' => e = .returned (.tuple #[.int .i64 (l.length : Int), .int .i64 0]) ∧ Below W.heap.size W w' by
    have h := (gets_ok s 6 2 (by omega) (by decide) (by decide) (by omega)).to W
    have e : Pl.num ((s.data.toList.drop 6).take 2) = l.length := by
      rw [hs, List.append_assoc, List.drop_left' (show ([34, 0, x, y, 0, 0] : List UInt8).length = 6 from rfl), List.take_left' (Pl.be_length _ _), Pl.num_be_of_lt (by omega)]
    rw [e] at h
    exact h))
  have HRe := Lib.hid (fun (W : World) => records_4 t l hl hok htd W)
  have hz8 : 8 ≤ (s.size : Int) := by omega
  clear hs hsum e2 hsz htd ht hg4 hok hh hrl
  go_enter Tryz.func18, Tryz.ntmps18
  go_upto_region 12 with (first
    | (go_at_call 72; (with_reducible refine (HR.out _).mono ?_); rintro e w1 ⟨rfl, g1⟩; have X1 := Lib.hid ((Bx.new w [.int .i64 0, .int .i64 0, .string ⟨#[]⟩, .int .i64 0, .bool false, .int .i64 0, .int .i64 0, .slice none 0 0, .slice none 0 0] 53).below g1); have G1 := Lib.hid (bstep (bbox1 w (.cells #[.int .i64 0, .int .i64 0, .string ⟨#[]⟩, .int .i64 0, .bool false, .int .i64 0, .int .i64 0, .slice none 0 0, .slice none 0 0] 53)) g1); clear g1)
    | (go_at_call 71; (with_reducible refine (HGt.out _).mono ?_); rintro e w2 ⟨rfl, g2⟩; have X2 := Lib.hid ((X1.out.alloc (.cells #[.int .i64 2, .int .i64 2, .string g4, .int .i64 0, .bool false, .int .i64 0, .int .i64 0, .slice none 0 0, .slice none 0 0] 53)).below g2); have G2 := Lib.hid ((ball1 G1.out (.cells #[.int .i64 2, .int .i64 2, .string g4, .int .i64 0, .bool false, .int .i64 0, .int .i64 0, .slice none 0 0, .slice none 0 0] 53)).trans (g2.mono (ball1 G1.out (.cells #[.int .i64 2, .int .i64 2, .string g4, .int .i64 0, .bool false, .int .i64 0, .int .i64 0, .slice none 0 0, .slice none 0 0] 53)).size)); have s2 := G2.out.size; clear g2))
  go_wp2_with (go_at_call 74; (with_reducible refine (HRe.out _).mono ?_); rintro e w3 ⟨l', a, c, hk, rfl, hr, g3⟩; have HK := Lib.hid hk; have HRs := Lib.hid hr; have hw2 := X2.out.1; have X3 := Lib.hid (X2.out.below g3); have G3 := Lib.hid (G2.out.trans (g3.mono s2)); clear hk hr g3; have d0 := X3.out.get 0 _ rfl; have d1 := X3.out.get 1 _ rfl; have d2 := X3.out.get 2 _ rfl; have d3 := X3.out.get 3 _ rfl; have d4 := X3.out.get 4 _ rfl; have d5 := X3.out.get 5 _ rfl; have d6 := X3.out.get 6 _ rfl; have d7 := X3.out.get 7 _ rfl; have d8 := X3.out.get 8 _ rfl; have df := X3.out.fz)
  refine bodyPost_ret (v := .tuple #[.agg #[.int .i64 2, .int .i64 3, .string ⟨#[]⟩, .int .i64 0, .bool false, .int .i64 0, .int .i64 0, .slice none 0 0, .slice a l'.length c], .int .i64 0]) (by simp [results, Tryz.results18, go_sem, d0, d1, d2, d3, d4, d5, d6, d7, d8]) rfl ⟨l', a, c, HK.out, rfl, ?_, ?_⟩
  · exact (((((((((HRs.out.put (p := ⟨w.heap.size, 0, none⟩) hw2 _).put (p := ⟨w.heap.size, 1, none⟩) hw2 _).put (p := ⟨w.heap.size, 2, none⟩) hw2 _).put (p := ⟨w.heap.size, 3, none⟩) hw2 _).put (p := ⟨w.heap.size, 4, none⟩) hw2 _).put (p := ⟨w.heap.size, 5, none⟩) hw2 _).put (p := ⟨w.heap.size, 6, none⟩) hw2 _).put (p := ⟨w.heap.size, 7, none⟩) hw2 _).put (p := ⟨w.heap.size, 8, none⟩) hw2 _).rcs
  · exact ((((((((G3.out.setCell (p := ⟨w.heap.size, 0, none⟩) (Nat.le_refl _) _).setCell (p := ⟨w.heap.size, 1, none⟩) (Nat.le_refl _) _).setCell (p := ⟨w.heap.size, 2, none⟩) (Nat.le_refl _) _).setCell (p := ⟨w.heap.size, 3, none⟩) (Nat.le_refl _) _).setCell (p := ⟨w.heap.size, 4, none⟩) (Nat.le_refl _) _).setCell (p := ⟨w.heap.size, 5, none⟩) (Nat.le_refl _) _).setCell (p := ⟨w.heap.size, 6, none⟩) (Nat.le_refl _) _).setCell (p := ⟨w.heap.size, 7, none⟩) (Nat.le_refl _) _).setCell (p := ⟨w.heap.size, 8, none⟩) (Nat.le_refl _) _
end Go.Proofs.YticdmepplfgdiaaGreatDoor
end
section
namespace Go.Proofs.YticdmepplfgdiaaGreatDoor
open Go.RowKit
set_option maxRecDepth 100000 in
set_option maxHeartbeats 4000000 in
theorem dec_b1 (s group : ByteArray) (x y : UInt8) (hs : s.data.toList = [18, 0, x, y] ++ group.data.toList) (hg : grp4 group = true) (hsum : Cs.sum s.data.toList = 0) (w : World) :
    Calls Tryz.prog 18 #[.string s] w fun e w' => e = .returned (.tuple #[.agg #[.int .i64 2, .int .i64 1, .string group, .int .i64 0, .bool false, .int .i64 0, .int .i64 0, .slice none 0 0, .slice none 0 0], .int .i64 0]) ∧ Below w.heap.size w w' := by
  have hgz := grp4_size hg
  have hsz : s.size = 8 := by rw [← size_toList, hs, List.length_append, size_toList, hgz]; rfl
  have HR := Lib.hid (fun (W : World) => (show Calls Tryz.prog 72 #[.string s] W fun e w' => e = .returned (.bool true) ∧ Below W.heap.size W w' by
    have h := right_any s (by omega) W
    rw [hsum] at h
    exact h))
  have e1 : s.extract 4 8 = group := by
    apply ba_eq
    rw [data_extract, hs, List.drop_left' (show ([18, 0, x, y] : List UInt8).length = 4 from rfl), List.take_of_length_le (by rw [size_toList]; omega)]
  have e2 : s.extract 0 1 = ⟨#[18]⟩ := by
    apply ba_eq
    rw [data_extract, hs]
    rfl
  have k1 := slice_mid s 4 8 (by decide) (by omega) 4 8 rfl rfl
  rw [e1] at k1
  have k2 := slice_to s 1 (by omega) 1 rfl
  rw [e2] at k2
  have hzi : (s.size : Int) = 8 := by omega
  clear hs hsum e1 e2 hsz
  go_enter Tryz.func18, Tryz.ntmps18
  go_wp2_with (first
    | (go_at_call 72; (with_reducible refine (HR.out _).mono ?_); rintro e w1 ⟨rfl, g1⟩; have X1 := Lib.hid ((Bx.new w [.int .i64 0, .int .i64 0, .string ⟨#[]⟩, .int .i64 0, .bool false, .int .i64 0, .int .i64 0, .slice none 0 0, .slice none 0 0] 53).below g1); have G1 := Lib.hid (bstep (bbox1 w (.cells #[.int .i64 0, .int .i64 0, .string ⟨#[]⟩, .int .i64 0, .bool false, .int .i64 0, .int .i64 0, .slice none 0 0, .slice none 0 0] 53)) g1); clear g1)
    | (go_at_call 75; (with_reducible refine (isGroup_4 group _).mono ?_); rw [hg]; rintro e w2 ⟨rfl, g2⟩; have M2 := Lib.hid ((Bx.new w1 [.int .i64 2, .int .i64 1, .string group, .int .i64 0, .bool false, .int .i64 0, .int .i64 0, .slice none 0 0, .slice none 0 0] 53).below g2); have X2 := Lib.hid ((X1.out.alloc (.cells #[.int .i64 2, .int .i64 1, .string group, .int .i64 0, .bool false, .int .i64 0, .int .i64 0, .slice none 0 0, .slice none 0 0] 53)).below g2); have G2 := Lib.hid ((ball1 G1.out (.cells #[.int .i64 2, .int .i64 1, .string group, .int .i64 0, .bool false, .int .i64 0, .int .i64 0, .slice none 0 0, .slice none 0 0] 53)).trans (g2.mono (ball1 G1.out (.cells #[.int .i64 2, .int .i64 1, .string group, .int .i64 0, .bool false, .int .i64 0, .int .i64 0, .slice none 0 0, .slice none 0 0] 53)).size)); have c0 := M2.out.get 0 _ rfl; have c1 := M2.out.get 1 _ rfl; have c2 := M2.out.get 2 _ rfl; have c3 := M2.out.get 3 _ rfl; have c4 := M2.out.get 4 _ rfl; have c5 := M2.out.get 5 _ rfl; have c6 := M2.out.get 6 _ rfl; have c7 := M2.out.get 7 _ rfl; have c8 := M2.out.get 8 _ rfl; have d0 := X2.out.get 0 _ rfl; have d1 := X2.out.get 1 _ rfl; have d2 := X2.out.get 2 _ rfl; have d3 := X2.out.get 3 _ rfl; have d4 := X2.out.get 4 _ rfl; have d5 := X2.out.get 5 _ rfl; have d6 := X2.out.get 6 _ rfl; have d7 := X2.out.get 7 _ rfl; have d8 := X2.out.get 8 _ rfl; have df := X2.out.fz; clear g2))
  refine bodyPost_ret (v := .tuple #[.agg #[.int .i64 2, .int .i64 1, .string group, .int .i64 0, .bool false, .int .i64 0, .int .i64 0, .slice none 0 0, .slice none 0 0], .int .i64 0]) (by simp [results, Tryz.results18, go_sem, d0, d1, d2, d3, d4, d5, d6, d7, d8]) rfl ⟨rfl, ?_⟩
  exact ((((((((G2.out.setCell (p := ⟨w.heap.size, 0, none⟩) (Nat.le_refl _) _).setCell (p := ⟨w.heap.size, 1, none⟩) (Nat.le_refl _) _).setCell (p := ⟨w.heap.size, 2, none⟩) (Nat.le_refl _) _).setCell (p := ⟨w.heap.size, 3, none⟩) (Nat.le_refl _) _).setCell (p := ⟨w.heap.size, 4, none⟩) (Nat.le_refl _) _).setCell (p := ⟨w.heap.size, 5, none⟩) (Nat.le_refl _) _).setCell (p := ⟨w.heap.size, 6, none⟩) (Nat.le_refl _) _).setCell (p := ⟨w.heap.size, 7, none⟩) (Nat.le_refl _) _).setCell (p := ⟨w.heap.size, 8, none⟩) (Nat.le_refl _) _
set_option maxRecDepth 100000 in
set_option maxHeartbeats 4000000 in
theorem dec_b2 (s group : ByteArray) (x y : UInt8) (hs : s.data.toList = [22, 0, x, y] ++ group.data.toList) (hg : grp4 group = true) (hsum : Cs.sum s.data.toList = 0) (w : World) :
    Calls Tryz.prog 18 #[.string s] w fun e w' => e = .returned (.tuple #[.agg #[.int .i64 2, .int .i64 2, .string group, .int .i64 0, .bool false, .int .i64 0, .int .i64 0, .slice none 0 0, .slice none 0 0], .int .i64 0]) ∧ Below w.heap.size w w' := by
  have hgz := grp4_size hg
  have hsz : s.size = 8 := by rw [← size_toList, hs, List.length_append, size_toList, hgz]; rfl
  have HR := Lib.hid (fun (W : World) => (show Calls Tryz.prog 72 #[.string s] W fun e w' => e = .returned (.bool true) ∧ Below W.heap.size W w' by
    have h := right_any s (by omega) W
    rw [hsum] at h
    exact h))
  have e1 : s.extract 4 8 = group := by
    apply ba_eq
    rw [data_extract, hs, List.drop_left' (show ([22, 0, x, y] : List UInt8).length = 4 from rfl), List.take_of_length_le (by rw [size_toList]; omega)]
  have e2 : s.extract 0 1 = ⟨#[22]⟩ := by
    apply ba_eq
    rw [data_extract, hs]
    rfl
  have k1 := slice_mid s 4 8 (by decide) (by omega) 4 8 rfl rfl
  rw [e1] at k1
  have k2 := slice_to s 1 (by omega) 1 rfl
  rw [e2] at k2
  have hzi : (s.size : Int) = 8 := by omega
  clear hs hsum e1 e2 hsz
  go_enter Tryz.func18, Tryz.ntmps18
  go_wp2_with (first
    | (go_at_call 72; (with_reducible refine (HR.out _).mono ?_); rintro e w1 ⟨rfl, g1⟩; have X1 := Lib.hid ((Bx.new w [.int .i64 0, .int .i64 0, .string ⟨#[]⟩, .int .i64 0, .bool false, .int .i64 0, .int .i64 0, .slice none 0 0, .slice none 0 0] 53).below g1); have G1 := Lib.hid (bstep (bbox1 w (.cells #[.int .i64 0, .int .i64 0, .string ⟨#[]⟩, .int .i64 0, .bool false, .int .i64 0, .int .i64 0, .slice none 0 0, .slice none 0 0] 53)) g1); clear g1)
    | (go_at_call 75; (with_reducible refine (isGroup_4 group _).mono ?_); rw [hg]; rintro e w2 ⟨rfl, g2⟩; have M2 := Lib.hid ((Bx.new w1 [.int .i64 2, .int .i64 2, .string group, .int .i64 0, .bool false, .int .i64 0, .int .i64 0, .slice none 0 0, .slice none 0 0] 53).below g2); have X2 := Lib.hid ((X1.out.alloc (.cells #[.int .i64 2, .int .i64 2, .string group, .int .i64 0, .bool false, .int .i64 0, .int .i64 0, .slice none 0 0, .slice none 0 0] 53)).below g2); have G2 := Lib.hid ((ball1 G1.out (.cells #[.int .i64 2, .int .i64 2, .string group, .int .i64 0, .bool false, .int .i64 0, .int .i64 0, .slice none 0 0, .slice none 0 0] 53)).trans (g2.mono (ball1 G1.out (.cells #[.int .i64 2, .int .i64 2, .string group, .int .i64 0, .bool false, .int .i64 0, .int .i64 0, .slice none 0 0, .slice none 0 0] 53)).size)); have c0 := M2.out.get 0 _ rfl; have c1 := M2.out.get 1 _ rfl; have c2 := M2.out.get 2 _ rfl; have c3 := M2.out.get 3 _ rfl; have c4 := M2.out.get 4 _ rfl; have c5 := M2.out.get 5 _ rfl; have c6 := M2.out.get 6 _ rfl; have c7 := M2.out.get 7 _ rfl; have c8 := M2.out.get 8 _ rfl; have d0 := X2.out.get 0 _ rfl; have d1 := X2.out.get 1 _ rfl; have d2 := X2.out.get 2 _ rfl; have d3 := X2.out.get 3 _ rfl; have d4 := X2.out.get 4 _ rfl; have d5 := X2.out.get 5 _ rfl; have d6 := X2.out.get 6 _ rfl; have d7 := X2.out.get 7 _ rfl; have d8 := X2.out.get 8 _ rfl; have df := X2.out.fz; clear g2))
  refine bodyPost_ret (v := .tuple #[.agg #[.int .i64 2, .int .i64 2, .string group, .int .i64 0, .bool false, .int .i64 0, .int .i64 0, .slice none 0 0, .slice none 0 0], .int .i64 0]) (by simp [results, Tryz.results18, go_sem, d0, d1, d2, d3, d4, d5, d6, d7, d8]) rfl ⟨rfl, ?_⟩
  exact ((((((((G2.out.setCell (p := ⟨w.heap.size, 0, none⟩) (Nat.le_refl _) _).setCell (p := ⟨w.heap.size, 1, none⟩) (Nat.le_refl _) _).setCell (p := ⟨w.heap.size, 2, none⟩) (Nat.le_refl _) _).setCell (p := ⟨w.heap.size, 3, none⟩) (Nat.le_refl _) _).setCell (p := ⟨w.heap.size, 4, none⟩) (Nat.le_refl _) _).setCell (p := ⟨w.heap.size, 5, none⟩) (Nat.le_refl _) _).setCell (p := ⟨w.heap.size, 6, none⟩) (Nat.le_refl _) _).setCell (p := ⟨w.heap.size, 7, none⟩) (Nat.le_refl _) _).setCell (p := ⟨w.heap.size, 8, none⟩) (Nat.le_refl _) _
set_option maxRecDepth 100000 in
set_option maxHeartbeats 4000000 in
theorem dec_b3 (s group : ByteArray) (x y : UInt8) (hs : s.data.toList = [23, 0, x, y] ++ group.data.toList) (hg : grp4 group = true) (hsum : Cs.sum s.data.toList = 0) (w : World) :
    Calls Tryz.prog 18 #[.string s] w fun e w' => e = .returned (.tuple #[.agg #[.int .i64 3, .int .i64 2, .string group, .int .i64 0, .bool false, .int .i64 0, .int .i64 0, .slice none 0 0, .slice none 0 0], .int .i64 0]) ∧ Below w.heap.size w w' := by
  have hgz := grp4_size hg
  have hsz : s.size = 8 := by rw [← size_toList, hs, List.length_append, size_toList, hgz]; rfl
  have HR := Lib.hid (fun (W : World) => (show Calls Tryz.prog 72 #[.string s] W fun e w' => e = .returned (.bool true) ∧ Below W.heap.size W w' by
    have h := right_any s (by omega) W
    rw [hsum] at h
    exact h))
  have e1 : s.extract 4 8 = group := by
    apply ba_eq
    rw [data_extract, hs, List.drop_left' (show ([23, 0, x, y] : List UInt8).length = 4 from rfl), List.take_of_length_le (by rw [size_toList]; omega)]
  have e2 : s.extract 0 1 = ⟨#[23]⟩ := by
    apply ba_eq
    rw [data_extract, hs]
    rfl
  have k1 := slice_mid s 4 8 (by decide) (by omega) 4 8 rfl rfl
  rw [e1] at k1
  have k2 := slice_to s 1 (by omega) 1 rfl
  rw [e2] at k2
  have hzi : (s.size : Int) = 8 := by omega
  clear hs hsum e1 e2 hsz
  go_enter Tryz.func18, Tryz.ntmps18
  go_wp2_with (first
    | (go_at_call 72; (with_reducible refine (HR.out _).mono ?_); rintro e w1 ⟨rfl, g1⟩; have X1 := Lib.hid ((Bx.new w [.int .i64 0, .int .i64 0, .string ⟨#[]⟩, .int .i64 0, .bool false, .int .i64 0, .int .i64 0, .slice none 0 0, .slice none 0 0] 53).below g1); have G1 := Lib.hid (bstep (bbox1 w (.cells #[.int .i64 0, .int .i64 0, .string ⟨#[]⟩, .int .i64 0, .bool false, .int .i64 0, .int .i64 0, .slice none 0 0, .slice none 0 0] 53)) g1); clear g1)
    | (go_at_call 75; (with_reducible refine (isGroup_4 group _).mono ?_); rw [hg]; rintro e w2 ⟨rfl, g2⟩; have M2 := Lib.hid ((Bx.new w1 [.int .i64 3, .int .i64 2, .string group, .int .i64 0, .bool false, .int .i64 0, .int .i64 0, .slice none 0 0, .slice none 0 0] 53).below g2); have X2 := Lib.hid ((X1.out.alloc (.cells #[.int .i64 3, .int .i64 2, .string group, .int .i64 0, .bool false, .int .i64 0, .int .i64 0, .slice none 0 0, .slice none 0 0] 53)).below g2); have G2 := Lib.hid ((ball1 G1.out (.cells #[.int .i64 3, .int .i64 2, .string group, .int .i64 0, .bool false, .int .i64 0, .int .i64 0, .slice none 0 0, .slice none 0 0] 53)).trans (g2.mono (ball1 G1.out (.cells #[.int .i64 3, .int .i64 2, .string group, .int .i64 0, .bool false, .int .i64 0, .int .i64 0, .slice none 0 0, .slice none 0 0] 53)).size)); have c0 := M2.out.get 0 _ rfl; have c1 := M2.out.get 1 _ rfl; have c2 := M2.out.get 2 _ rfl; have c3 := M2.out.get 3 _ rfl; have c4 := M2.out.get 4 _ rfl; have c5 := M2.out.get 5 _ rfl; have c6 := M2.out.get 6 _ rfl; have c7 := M2.out.get 7 _ rfl; have c8 := M2.out.get 8 _ rfl; have d0 := X2.out.get 0 _ rfl; have d1 := X2.out.get 1 _ rfl; have d2 := X2.out.get 2 _ rfl; have d3 := X2.out.get 3 _ rfl; have d4 := X2.out.get 4 _ rfl; have d5 := X2.out.get 5 _ rfl; have d6 := X2.out.get 6 _ rfl; have d7 := X2.out.get 7 _ rfl; have d8 := X2.out.get 8 _ rfl; have df := X2.out.fz; clear g2))
  refine bodyPost_ret (v := .tuple #[.agg #[.int .i64 3, .int .i64 2, .string group, .int .i64 0, .bool false, .int .i64 0, .int .i64 0, .slice none 0 0, .slice none 0 0], .int .i64 0]) (by simp [results, Tryz.results18, go_sem, d0, d1, d2, d3, d4, d5, d6, d7, d8]) rfl ⟨rfl, ?_⟩
  exact ((((((((G2.out.setCell (p := ⟨w.heap.size, 0, none⟩) (Nat.le_refl _) _).setCell (p := ⟨w.heap.size, 1, none⟩) (Nat.le_refl _) _).setCell (p := ⟨w.heap.size, 2, none⟩) (Nat.le_refl _) _).setCell (p := ⟨w.heap.size, 3, none⟩) (Nat.le_refl _) _).setCell (p := ⟨w.heap.size, 4, none⟩) (Nat.le_refl _) _).setCell (p := ⟨w.heap.size, 5, none⟩) (Nat.le_refl _) _).setCell (p := ⟨w.heap.size, 6, none⟩) (Nat.le_refl _) _).setCell (p := ⟨w.heap.size, 7, none⟩) (Nat.le_refl _) _).setCell (p := ⟨w.heap.size, 8, none⟩) (Nat.le_refl _) _
end Go.Proofs.YticdmepplfgdiaaGreatDoor
end
section
namespace Go.Proofs.YticdmepplfgdiaaGreatDoor
open Go.RowKit
set_option maxRecDepth 100000 in
set_option maxHeartbeats 2000000 in
theorem sameaddrs (va vb : Value) (ss : List ByteArray) (hz : ss.length ≤ 1048576) (w : World) (ha : Strs w va ss) (hb : Strs w vb ss) :
    Calls Tryz.prog 76 #[va, vb] w fun e w' => e = .returned (.bool true) ∧ ∃ m, w' = w.drewN m := by
  obtain ⟨a, cap, rfl, h⟩ := ha
  obtain ⟨a2, cap2, rfl, h2⟩ := hb
  go_enter Tryz.func76, Tryz.ntmps76
  go_wp2
  go_loopw [4, 5] (fun _ i wr => ∃ k : Nat, k ≤ ss.length ∧ i = .int .i64 k ∧ ∃ m, wr = w.drewN m) (fun _ i _ => ss.length + 1 - (intOf i).toNat)
  case atStart => exact ⟨0, Nat.zero_le _, rfl, 0, rfl⟩
  case round =>
    obtain ⟨k, hk, rfl, m, rfl⟩ := hrel
    by_cases hlt : k < ss.length
    · obtain ⟨b, o, rfl, hb, hc⟩ := Strs.row h hlt
      obtain ⟨b2, o2, rfl, hb2, hc2⟩ := Strs.row h2 hlt
      obtain ⟨W, hW⟩ : ∃ W, W = w.drewN m := ⟨_, rfl⟩
      have hck : W.cell? ⟨b, o + k, none⟩ = some (.string (ss.getD k ⟨#[]⟩)) := by rw [hW]; exact hc k hlt
      have hck2 : W.cell? ⟨b2, o2 + k, none⟩ = some (.string (ss.getD k ⟨#[]⟩)) := by rw [hW]; exact hc2 k hlt
      have HW := Lib.hid hW
      rw [← hW]
      obtain ⟨x, ex⟩ : ∃ x, x = ss.getD k ⟨#[]⟩ := ⟨_, rfl⟩
      rw [← ex] at hck hck2
      have hlt' : (k : Int) < (ss.length : Int) := by omega
      have h0' : (0 : Int) ≤ (k : Int) := by omega
      clear hc h hc2 h2 hW ex
      go_upto_region 6 with fail
      go_quiet (fail)
      go_wp2
      refine ⟨⟨k + 1, by omega, by go_num, ?_⟩, ?_⟩
      · rw [HW.out]
        exact ⟨_, World.drewN_drewN _ _ _⟩
      · simp [intOf]; omega
    · have he : k = ss.length := by omega
      subst he
      go_wp2
      go_ret
      exact ⟨rfl, _, rfl⟩
theorem Strs.drewN {W : World} {v : Value} {l : List ByteArray} (h : Strs W v l) (m : Nat) : Strs (W.drewN m) v l := h
theorem key_at {l l' : List Rc} (hk : l'.map rcKey = l.map rcKey) {k : Nat} (h : k < l.length) : ∃ r r' : Rc, l[k]? = some r ∧ l'[k]? = some r' ∧ r'.kind = r.kind ∧ r'.group = r.group ∧ r'.ss = r.ss := by
  have hl : l'.length = l.length := by have := congrArg List.length hk; simpa using this
  have e := congrArg (fun x => x[k]?) hk
  simp only [List.getElem?_map] at e
  rw [List.getElem?_eq_getElem h, List.getElem?_eq_getElem (show k < l'.length by omega)] at e
  simp only [Option.map_some, Option.some.injEq, rcKey, Prod.mk.injEq] at e
  exact ⟨l[k], l'[k], List.getElem?_eq_getElem h, List.getElem?_eq_getElem (by omega), e.1, e.2.1, e.2.2⟩
set_option maxRecDepth 100000 in
set_option maxHeartbeats 4000000 in
theorem samerecords (va vb : Value) (l l' : List Rc) (hk : l'.map rcKey = l.map rcKey) (hz : l.length ≤ 1048576) (hs : ∀ r, r ∈ l → r.ss.length ≤ 1048576) (w : World) (ha : Rcs w va l') (hb : Rcs w vb l) :
    Calls Tryz.prog 77 #[va, vb] w fun e w' => e = .returned (.bool true) ∧ ∃ m, w' = w.drewN m := by
  have hl : l'.length = l.length := by have := congrArg List.length hk; simpa using this
  obtain ⟨a, cap, rfl, hS, h⟩ := ha
  obtain ⟨a2, cap2, rfl, hS2, h2⟩ := hb
  rw [hl]
  go_enter Tryz.func77, Tryz.ntmps77
  go_wp2
  go_loopw [4, 5] (fun _ i wr => ∃ k : Nat, k ≤ l.length ∧ i = .int .i64 k ∧ ∃ m, wr = w.drewN m) (fun _ i _ => l.length + 1 - (intOf i).toNat)
  case atStart => exact ⟨0, Nat.zero_le _, rfl, 0, rfl⟩
  case round =>
    obtain ⟨k, hk2, rfl, m, rfl⟩ := hrel
    by_cases hlt : k < l.length
    · obtain ⟨r, r', e1, e2, q1, q2, q3⟩ := key_at hk hlt
      obtain ⟨b, o, rfl, hb, hc⟩ := h.resolve_left (by rintro rfl; simp at e2)
      obtain ⟨b2, o2, rfl, hb2, hc2⟩ := h2.resolve_left (by rintro rfl; simp at e1)
      obtain ⟨p0, p1, p2⟩ := hc k r' e2
      obtain ⟨s0, s1, s2⟩ := hc2 k r e1
      have m1 : r' ∈ l' := List.mem_of_getElem? e2
      have m2 : r ∈ l := List.mem_of_getElem? e1
      have t1 := hS r' m1
      have t2 := hS2 r m2
      have t3 := hs r m2
      rw [q1] at p0
      rw [q2] at p1
      rw [q3] at p2 t1
      obtain ⟨kind, group, ss, sa, sc⟩ := r
      obtain ⟨kind', group', ss', sa', sc'⟩ := r'
      simp only at *
      obtain ⟨W, hW⟩ : ∃ W, W = w.drewN m := ⟨_, rfl⟩
      have c0 : W.cell? ⟨b, o + k * 3, none⟩ = some (.int .i64 kind) := by rw [hW]; exact p0
      have c1 : W.cell? ⟨b, o + k * 3 + 1, none⟩ = some (.string group) := by rw [hW]; exact p1
      have c2 : W.cell? ⟨b, o + k * 3 + 2, none⟩ = some (.slice sa' ss.length sc') := by rw [hW]; exact p2
      have d0 : W.cell? ⟨b2, o2 + k * 3, none⟩ = some (.int .i64 kind) := by rw [hW]; exact s0
      have d1 : W.cell? ⟨b2, o2 + k * 3 + 1, none⟩ = some (.string group) := by rw [hW]; exact s1
      have d2 : W.cell? ⟨b2, o2 + k * 3 + 2, none⟩ = some (.slice sa ss.length sc) := by rw [hW]; exact s2
      have HC := Lib.hid (fun n => sameaddrs (.slice sa' ss.length sc') (.slice sa ss.length sc) ss t3 (W.drewN n) (by rw [hW]; exact (t1.drewN m).drewN n) (by rw [hW]; exact (t2.drewN m).drewN n))
      have HW := Lib.hid hW
      rw [← hW]
      have hlt' : (k : Int) < (l.length : Int) := by omega
      have h0' : (0 : Int) ≤ (k : Int) := by omega
      clear p0 p1 p2 s0 s1 s2 t1 t2 t3 m1 m2 e1 e2 q1 q2 q3 hc hc2 hW h h2 hS hS2 hs hk
      go_upto_region 6 with fail
      go_quiet ((go_at_call 76; refine Calls.quiet_of (HC.out _)))
      go_wp2
      refine ⟨⟨k + 1, by omega, by go_num, ?_⟩, ?_⟩
      · rw [HW.out]
        exact ⟨_, World.drewN_drewN _ _ _⟩
      · simp [intOf]; omega
    · have he : k = l.length := by omega
      subst he
      go_wp2
      go_ret
      exact ⟨rfl, _, rfl⟩
set_option maxRecDepth 100000 in
set_option maxHeartbeats 4000000 in
theorem same_is (kind ver mx ro ev : Int) (group : ByteArray) (q : Bool) (sa sa' ra ra' : Option Addr) (sc sc' rc rc' : Nat) (ss : List ByteArray) (l l' : List Rc) (hk : l'.map rcKey = l.map rcKey) (hn : ss.length ≤ 1048576) (hz : l.length ≤ 1048576) (hs : ∀ r, r ∈ l → r.ss.length ≤ 1048576) (w : World)
    (h1 : Strs w (.slice sa' ss.length sc') ss) (h2 : Strs w (.slice sa ss.length sc) ss) (h3 : Rcs w (.slice ra' l'.length rc') l') (h4 : Rcs w (.slice ra l.length rc) l) :
    Calls Tryz.prog 19 #[.agg #[.int .i64 kind, .int .i64 ver, .string group, .int .i64 mx, .bool q, .int .i64 ro, .int .i64 ev, .slice sa' ss.length sc', .slice ra' l'.length rc'], .agg #[.int .i64 kind, .int .i64 ver, .string group, .int .i64 mx, .bool q, .int .i64 ro, .int .i64 ev, .slice sa ss.length sc, .slice ra l.length rc]] w fun e w' => e = .returned (.bool true) ∧ Below w.heap.size w w' := by
  have G1 := Lib.hid (bbox1 w (.cells #[.int .i64 kind, .int .i64 ver, .string group, .int .i64 mx, .bool q, .int .i64 ro, .int .i64 ev, .slice sa' ss.length sc', .slice ra' l'.length rc'] 53))
  have G2 := Lib.hid ((bbox1 (w.alloc (.cells #[.int .i64 kind, .int .i64 ver, .string group, .int .i64 mx, .bool q, .int .i64 ro, .int .i64 ev, .slice sa' ss.length sc', .slice ra' l'.length rc'] 53)) (.cells #[.int .i64 kind, .int .i64 ver, .string group, .int .i64 mx, .bool q, .int .i64 ro, .int .i64 ev, .slice sa ss.length sc, .slice ra l.length rc] 53)))
  have GG := Lib.hid (G1.out.trans (G2.out.mono G1.out.size))
  have HA := Lib.hid (fun (W : World) (g : Below w.heap.size w W) => sameaddrs (.slice sa' ss.length sc') (.slice sa ss.length sc) ss hn W (h1.below g) (h2.below g))
  have HR := Lib.hid (fun (W : World) (g : Below w.heap.size w W) => samerecords (.slice ra' l'.length rc') (.slice ra l.length rc) l l' hk hz hs W (h3.below g) (h4.below g))
  clear h1 h2 h3 h4 hk hz hs hn
  go_enter Tryz.func19, Tryz.ntmps19
  go_wp2_with (first
    | (go_at_call 76; (with_reducible refine (HA.out _ GG.out).mono ?_); rintro e w1 ⟨rfl, m, rfl⟩)
    | (go_at_call 77; (with_reducible refine (HR.out _ (bdrew GG.out m)).mono ?_); rintro e w2 ⟨rfl, m2, rfl⟩))
  go_ret
  exact ⟨rfl, bdrew GG.out _⟩
end Go.Proofs.YticdmepplfgdiaaGreatDoor
end
section
namespace Go.Proofs.YticdmepplfgdiaaGreatDoor
open Go.RowKit
set_option maxRecDepth 100000 in
set_option maxHeartbeats 4000000 in
theorem dec_q (s : ByteArray) (ver mx : Int) (g : ByteArray) (q : Bool) (ro ev : Int) (ss : List ByteArray) (r : List UInt8) (hs : s.data.toList = 17 :: r) (h8 : 8 ≤ s.size) (hz : s.size ≤ 140737488351232) (hsum : Cs.sum s.data.toList = 0)
    (hA : ∀ W : World, Calls Tryz.prog 73 #[.string s] W fun e w' => ∃ a k, e = .returned (.tuple #[.agg #[.int .i64 1, .int .i64 ver, .string g, .int .i64 mx, .bool q, .int .i64 ro, .int .i64 ev, .slice a ss.length k, .slice none 0 0], .int .i64 0]) ∧ Own4 W.heap.size w' (.slice a ss.length k) ss ∧ Below W.heap.size W w') (w : World) :
    Calls Tryz.prog 18 #[.string s] w fun e w' => ∃ a k, e = .returned (.tuple #[.agg #[.int .i64 1, .int .i64 ver, .string g, .int .i64 mx, .bool q, .int .i64 ro, .int .i64 ev, .slice a ss.length k, .slice none 0 0], .int .i64 0]) ∧ Strs w' (.slice a ss.length k) ss ∧ Below w.heap.size w w' := by
  have HAs := Lib.hid hA
  have HR := Lib.hid (fun (W : World) => (show Calls Tryz.prog 72 #[.string s] W fun e w' => e = .returned (.bool true) ∧ Below W.heap.size W w' by
    have h := right_any s (by omega) W
    rw [hsum] at h
    exact h))
  have e2 : s.extract 0 1 = ⟨#[17]⟩ := by
    apply ba_eq
    rw [data_extract, hs]
    rfl
  obtain ⟨g4, hg4⟩ : ∃ t, t = s.extract 4 8 := ⟨_, rfl⟩
  have k1 := slice_mid s 4 8 (by decide) (by omega) 4 8 rfl rfl
  rw [← hg4] at k1
  have k2 := slice_to s 1 (by omega) 1 rfl
  rw [e2] at k2
  have hz8 : 8 ≤ (s.size : Int) := by omega
  clear hs hsum e2 hg4 h8 hz hA
  go_enter Tryz.func18, Tryz.ntmps18
  go_wp2_with (first
    | (go_at_call 72; (with_reducible refine (HR.out _).mono ?_); rintro e w1 ⟨rfl, g1⟩; have X1 := Lib.hid ((Bx.new w [.int .i64 0, .int .i64 0, .string ⟨#[]⟩, .int .i64 0, .bool false, .int .i64 0, .int .i64 0, .slice none 0 0, .slice none 0 0] 53).below g1); have G1 := Lib.hid (bstep (bbox1 w (.cells #[.int .i64 0, .int .i64 0, .string ⟨#[]⟩, .int .i64 0, .bool false, .int .i64 0, .int .i64 0, .slice none 0 0, .slice none 0 0] 53)) g1); clear g1)
    | (go_at_call 73; (with_reducible refine (HAs.out _).mono ?_); rintro e w3 ⟨a, c, rfl, hO, g3⟩; have O3 := Lib.hid hO; have X2 := Lib.hid (X1.out.alloc (.cells #[.int .i64 2, .int .i64 2, .string g4, .int .i64 0, .bool false, .int .i64 0, .int .i64 0, .slice none 0 0, .slice none 0 0] 53)); have hw2 := X2.out.1; have X3 := Lib.hid (X2.out.below g3); have G3 := Lib.hid ((ball1 G1.out (.cells #[.int .i64 2, .int .i64 2, .string g4, .int .i64 0, .bool false, .int .i64 0, .int .i64 0, .slice none 0 0, .slice none 0 0] 53)).trans (g3.mono (ball1 G1.out (.cells #[.int .i64 2, .int .i64 2, .string g4, .int .i64 0, .bool false, .int .i64 0, .int .i64 0, .slice none 0 0, .slice none 0 0] 53)).size)); clear hO g3; have d0 := X3.out.get 0 _ rfl; have d1 := X3.out.get 1 _ rfl; have d2 := X3.out.get 2 _ rfl; have d3 := X3.out.get 3 _ rfl; have d4 := X3.out.get 4 _ rfl; have d5 := X3.out.get 5 _ rfl; have d6 := X3.out.get 6 _ rfl; have d7 := X3.out.get 7 _ rfl; have d8 := X3.out.get 8 _ rfl; have df := X3.out.fz))
  refine bodyPost_ret (v := .tuple #[.agg #[.int .i64 1, .int .i64 ver, .string g, .int .i64 mx, .bool q, .int .i64 ro, .int .i64 ev, .slice a ss.length c, .slice none 0 0], .int .i64 0]) (by simp [results, Tryz.results18, go_sem, d0, d1, d2, d3, d4, d5, d6, d7, d8]) rfl ⟨a, c, rfl, ?_, ?_⟩
  · exact (((((((((O3.out.put (p := ⟨w.heap.size, 0, none⟩) hw2 _).put (p := ⟨w.heap.size, 1, none⟩) hw2 _).put (p := ⟨w.heap.size, 2, none⟩) hw2 _).put (p := ⟨w.heap.size, 3, none⟩) hw2 _).put (p := ⟨w.heap.size, 4, none⟩) hw2 _).put (p := ⟨w.heap.size, 5, none⟩) hw2 _).put (p := ⟨w.heap.size, 6, none⟩) hw2 _).put (p := ⟨w.heap.size, 7, none⟩) hw2 _).put (p := ⟨w.heap.size, 8, none⟩) hw2 _).strs
  · exact ((((((((G3.out.setCell (p := ⟨w.heap.size, 0, none⟩) (Nat.le_refl _) _).setCell (p := ⟨w.heap.size, 1, none⟩) (Nat.le_refl _) _).setCell (p := ⟨w.heap.size, 2, none⟩) (Nat.le_refl _) _).setCell (p := ⟨w.heap.size, 3, none⟩) (Nat.le_refl _) _).setCell (p := ⟨w.heap.size, 4, none⟩) (Nat.le_refl _) _).setCell (p := ⟨w.heap.size, 5, none⟩) (Nat.le_refl _) _).setCell (p := ⟨w.heap.size, 6, none⟩) (Nat.le_refl _) _).setCell (p := ⟨w.heap.size, 7, none⟩) (Nat.le_refl _) _).setCell (p := ⟨w.heap.size, 8, none⟩) (Nat.le_refl _) _
end Go.Proofs.YticdmepplfgdiaaGreatDoor
end
section
namespace Go.Proofs.YticdmepplfgdiaaGreatDoor
open Go.RowKit
def none4 : ByteArray := ⟨#[0, 0, 0, 0]⟩
/-- the bytes of a message, its sum 0 -/
def EncG (kind ver : Int) (group : ByteArray) (mx : Int) (q : Bool) (ro ev : Int) (ss : List ByteArray) (rs : List Rc) (l : List UInt8) : Prop :=
  (kind = 1 ∧ rs.length = 0 ∧ (grp4 group = true ∨ (group = ⟨#[]⟩ ∧ ss = [])) ∧
    ((ver = 3 ∧ Ask3 (if grp4 group then group else none4) mx q ro ev ss l) ∨
     (bareB 0 q ro ev ss.length 0 = true ∧ ((ver = 1 ∧ mx = 0) ∨ (ver = 2 ∧ mx ≠ 0)) ∧ 0 ≤ mx ∧ mx < 256 ∧ l = [17, UInt8.ofNat mx.toNat, 0, 0] ++ (if grp4 group then group else none4).data.toList))) ∨
  (kind = 2 ∧ ver = 3 ∧ group = ⟨#[]⟩ ∧ bareB mx q ro ev ss.length 0 = true ∧ (∀ r, r ∈ rs → RcOk r) ∧ l = [34, 0, 0, 0, 0, 0] ++ Pl.be 2 rs.length ++ rcsB rs) ∨
  (∃ t : UInt8, ((kind = 2 ∧ ver = 1 ∧ t = 18) ∨ (kind = 2 ∧ ver = 2 ∧ t = 22) ∨ (kind = 3 ∧ ver = 2 ∧ t = 23)) ∧ grp4 group = true ∧ bareB mx q ro ev ss.length rs.length = true ∧ l = [t, 0, 0, 0] ++ group.data.toList)
theorem empty_of {a : ByteArray} (h : a.toList.isEmpty = true) : a = ⟨#[]⟩ := by
  rw [Lib.toList_data] at h
  obtain ⟨⟨l⟩⟩ := a
  have : l = [] := by simpa using h
  subst this
  rfl
theorem grp4_empty : grp4 ⟨#[]⟩ = false := by decide
theorem ask3_len {g4 : ByteArray} {mx : Int} {q : Bool} {ro ev : Int} {ss : List ByteArray} {l : List UInt8} (h : Ask3 g4 mx q ro ev ss l) : 4 ≤ l.length := by
  obtain ⟨-, -, -, -, c, d, -, -, -, -, rfl⟩ := h
  simp only [List.length_append]
  show 4 ≤ 4 + _ + _ + _ + _ + _
  omega
theorem encG_len {kind ver : Int} {group : ByteArray} {mx : Int} {q : Bool} {ro ev : Int} {ss : List ByteArray} {rs : List Rc} {l : List UInt8} (h : EncG kind ver group mx q ro ev ss rs l) : 4 ≤ l.length := by
  rcases h with ⟨-, -, -, ⟨-, h⟩ | ⟨-, -, -, -, rfl⟩⟩ | ⟨-, -, -, -, -, rfl⟩ | ⟨t, -, -, -, rfl⟩
  · exact ask3_len h
  · rw [List.length_append]; show 4 ≤ 4 + _; omega
  · rw [List.length_append, List.length_append]; show 4 ≤ 6 + _ + _; omega
  · rw [List.length_append]; show 4 ≤ 4 + _; omega
/-- what ask and tell leave behind -/
def Left (b : Nat) (w w' : World) (P : List UInt8 → Prop) : Prop := ∃ R l bd, Wr R b l bd w' ∧ R ≤ w'.heap.size ∧ w.heap.size ≤ R ∧ 1 ≤ l.length ∧ l.length ≤ 2199023255552 ∧ (bd = false → P l) ∧ Past w.heap.size b w w'
/-- what is asked of a message that comes in -/
structure MsgIn (n0 : Nat) (group : ByteArray) (mx ro ev : Int) (kind : Int) (sa ra : Option Addr) (ss : List ByteArray) (rs : List Rc) (sc rc : Nat) (w : World) : Prop where
  hs : ∀ W, Below n0 w W → Strs W (.slice sa ss.length sc) ss
  hv : ∀ W, Below n0 w W → Rcs W (.slice ra rs.length rc) rs
  gs : group.size ≤ 1048576
  ss1 : ∀ s, s ∈ ss → s.size ≤ 1048576
  ss2 : ss.length ≤ 1048576
  rl : rs.length ≤ 20
  rz : ∀ r, r ∈ rs → r.ss.length ≤ 20 ∧ r.kind ≤ 9223372036854775807
  b1 : mx ≤ 9223372036854775807
  b2 : ev ≤ 9223372036854775807
  b3 : -9223372036854775808 ≤ ro
  b4 : ro ≤ 9223372036854775807
theorem MsgIn.on {n0 : Nat} {group : ByteArray} {mx ro ev kind : Int} {sa ra : Option Addr} {ss : List ByteArray} {rs : List Rc} {sc rc : Nat} {w w' : World} (h : MsgIn n0 group mx ro ev kind sa ra ss rs sc rc w) (g : Below n0 w w') : MsgIn n0 group mx ro ev kind sa ra ss rs sc rc w' :=
  ⟨fun W hW => h.hs W (g.trans hW), fun W hW => h.hv W (g.trans hW), h.gs, h.ss1, h.ss2, h.rl, h.rz, h.b1, h.b2, h.b3, h.b4⟩
theorem ask_all {b n0 : Nat} {ver : Int} {group : ByteArray} {mx : Int} {q : Bool} {ro ev : Int} {sa ra : Option Addr} {ss : List ByteArray} {rs : List Rc} {sc rc : Nat} (w : World) (hM : MsgIn n0 group mx ro ev 1 sa ra ss rs sc rc w) (hn : n0 ≤ b) (h : Wr0 b w) :
    Calls Tryz.prog 62 #[.pointer (some ⟨b, 0, none⟩), .agg #[.int .i64 1, .int .i64 ver, .string group, .int .i64 mx, .bool q, .int .i64 ro, .int .i64 ev, .slice sa ss.length sc, .slice ra rs.length rc]] w fun e w' => e = .returned (.tuple #[]) ∧ Left b w w' (EncG 1 ver group mx q ro ev ss rs) := by
  rcases hge : group.toList.isEmpty with _ | _
  · by_cases h3 : ver = 3
    · subst h3
      rcases q with _ | _
      · refine (ask_g3f 1 mx ro ev group hge hM.gs sa ra ss sc rs.length rc hM.b1 hM.b2 hM.b3 hM.b4 hM.ss1 hM.ss2 w hM.hs hn h).mono ?_
        rintro e w' ⟨rfl, R, l, bd, a1, a2, a3, a4, a5, a6, a7⟩
        refine ⟨rfl, R, l, bd, a1, a2, a3, by omega, a5, fun e => ?_, a7⟩
        obtain ⟨k0, hg, hA⟩ := a6 e
        exact .inl ⟨rfl, k0, .inl hg, .inl ⟨rfl, by rw [if_pos hg]; exact hA⟩⟩
      · refine (ask_g3t 1 mx ro ev group hge hM.gs sa ra ss sc rs.length rc hM.b1 hM.b2 hM.b3 hM.b4 hM.ss1 hM.ss2 w hM.hs hn h).mono ?_
        rintro e w' ⟨rfl, R, l, bd, a1, a2, a3, a4, a5, a6, a7⟩
        refine ⟨rfl, R, l, bd, a1, a2, a3, by omega, a5, fun e => ?_, a7⟩
        obtain ⟨k0, hg, hA⟩ := a6 e
        exact .inl ⟨rfl, k0, .inl hg, .inl ⟨rfl, by rw [if_pos hg]; exact hA⟩⟩
    · refine (ask_gs 1 ver mx q ro ev group hge hM.gs sa ra ss sc rs.length rc h3 hM.b1 w h).mono ?_
      rintro e w' ⟨rfl, R, l, bd, a1, a2, a3, a4, a5, a6, a7⟩
      refine ⟨rfl, R, l, bd, a1, a2, a3, a4, a5, fun e => ?_, a7⟩
      obtain ⟨k0, hg, hb, hv, m0, m1, hl⟩ := a6 e
      exact .inl ⟨rfl, k0, .inl hg, .inr ⟨by rw [← k0]; exact hb, hv, m0, m1, by rw [if_pos hg]; exact hl⟩⟩
  · obtain rfl := empty_of hge
    by_cases h3 : ver = 3
    · subst h3
      rcases q with _ | _
      · refine (ask_e3f 1 mx ro ev sa ra ss sc rs.length rc hM.b1 hM.b2 hM.b3 hM.b4 hM.ss1 hM.ss2 w hM.hs hn h).mono ?_
        rintro e w' ⟨rfl, R, l, bd, a1, a2, a3, a4, a5, a6, a7⟩
        refine ⟨rfl, R, l, bd, a1, a2, a3, by omega, a5, fun e => ?_, a7⟩
        obtain ⟨k0, hg, hA⟩ := a6 e
        exact .inl ⟨rfl, k0, .inr ⟨rfl, hg⟩, .inl ⟨rfl, by rw [if_neg (by rw [grp4_empty]; decide)]; exact hA⟩⟩
      · refine (ask_e3t 1 mx ro ev sa ra ss sc rs.length rc hM.b1 hM.b2 hM.b3 hM.b4 hM.ss1 hM.ss2 w hM.hs hn h).mono ?_
        rintro e w' ⟨rfl, R, l, bd, a1, a2, a3, a4, a5, a6, a7⟩
        refine ⟨rfl, R, l, bd, a1, a2, a3, by omega, a5, fun e => ?_, a7⟩
        obtain ⟨k0, hg, hA⟩ := a6 e
        exact .inl ⟨rfl, k0, .inr ⟨rfl, hg⟩, .inl ⟨rfl, by rw [if_neg (by rw [grp4_empty]; decide)]; exact hA⟩⟩
    · refine (ask_es 1 ver mx q ro ev sa ra ss sc rs.length rc h3 hM.b1 hM.ss2 w h).mono ?_
      rintro e w' ⟨rfl, R, l, bd, a1, a2, a3, a4, a5, a6, a7⟩
      refine ⟨rfl, R, l, bd, a1, a2, a3, a4, a5, fun e => ?_, a7⟩
      obtain ⟨k0, hg, hb, hv, m0, m1, hl⟩ := a6 e
      exact .inl ⟨rfl, k0, .inr ⟨rfl, hg⟩, .inr ⟨by rw [← k0]; exact hb, hv, m0, m1, by rw [if_neg (by rw [grp4_empty]; decide)]; exact hl⟩⟩
theorem tell_all {b n0 : Nat} {kind ver : Int} {group : ByteArray} {mx : Int} {q : Bool} {ro ev : Int} {sa ra : Option Addr} {ss : List ByteArray} {rs : List Rc} {sc rc : Nat} (w : World) (hM : MsgIn n0 group mx ro ev kind sa ra ss rs sc rc w) (hn : n0 ≤ b) (h : Wr0 b w) :
    Calls Tryz.prog 63 #[.pointer (some ⟨b, 0, none⟩), .agg #[.int .i64 kind, .int .i64 ver, .string group, .int .i64 mx, .bool q, .int .i64 ro, .int .i64 ev, .slice sa ss.length sc, .slice ra rs.length rc]] w fun e w' => e = .returned (.tuple #[]) ∧ Left b w w' (EncG kind ver group mx q ro ev ss rs) := by
  by_cases h2 : kind = 2
  · subst h2
    by_cases h3 : ver = 3
    · subst h3
      refine (tell_a group mx q ro ev sa ra ss.length sc rs rc w hM.hv hn hM.rl hM.rz h).mono ?_
      rintro e w' ⟨rfl, R, l, bd, a1, a2, a3, a4, a5, a6, a7⟩
      refine ⟨rfl, R, l, bd, a1, a2, a3, a4, a5, fun e => ?_, a7⟩
      obtain ⟨hg, hb, hok, hl⟩ := a6 e
      exact .inr (.inl ⟨rfl, rfl, empty_of hg, hb, hok, hl⟩)
    · by_cases h1 : ver = 1
      · subst h1
        refine (tell_b1 group mx q ro ev sa ra ss.length sc rs rc hM.gs w h).mono ?_
        rintro e w' ⟨rfl, R, l, bd, a1, a2, a3, a4, a5, a6, a7⟩
        refine ⟨rfl, R, l, bd, a1, a2, a3, a4, a5, fun e => ?_, a7⟩
        obtain ⟨hg, hb, hl⟩ := a6 e
        exact .inr (.inr ⟨18, .inl ⟨rfl, rfl, rfl⟩, hg, hb, hl⟩)
      · by_cases h22 : ver = 2
        · subst h22
          refine (tell_b2 group mx q ro ev sa ra ss.length sc rs rc hM.gs w h).mono ?_
          rintro e w' ⟨rfl, R, l, bd, a1, a2, a3, a4, a5, a6, a7⟩
          refine ⟨rfl, R, l, bd, a1, a2, a3, a4, a5, fun e => ?_, a7⟩
          obtain ⟨hg, hb, hl⟩ := a6 e
          exact .inr (.inr ⟨22, .inr (.inl ⟨rfl, rfl, rfl⟩), hg, hb, hl⟩)
        · refine (tell_x2 ver (by simpa using h1) (by simpa using h22) (by simpa using h3) group mx q ro ev sa ra ss.length sc rs rc hM.gs w h).mono ?_
          rintro e w' ⟨rfl, R, l, bd, a1, a2, a3, a4, a5, a6, a7⟩
          exact ⟨rfl, R, l, bd, a1, a2, a3, a4, a5, fun e => (by rw [a6] at e; cases e), a7⟩
  · by_cases h3 : kind = 3
    · subst h3
      by_cases h22 : ver = 2
      · subst h22
        refine (tell_b3 group mx q ro ev sa ra ss.length sc rs rc hM.gs w h).mono ?_
        rintro e w' ⟨rfl, R, l, bd, a1, a2, a3, a4, a5, a6, a7⟩
        refine ⟨rfl, R, l, bd, a1, a2, a3, a4, a5, fun e => ?_, a7⟩
        obtain ⟨hg, hb, hl⟩ := a6 e
        exact .inr (.inr ⟨23, .inr (.inr ⟨rfl, rfl, rfl⟩), hg, hb, hl⟩)
      · refine (tell_x3 ver (by simpa using h22) group mx q ro ev sa ra ss.length sc rs rc hM.gs w h).mono ?_
        rintro e w' ⟨rfl, R, l, bd, a1, a2, a3, a4, a5, a6, a7⟩
        exact ⟨rfl, R, l, bd, a1, a2, a3, a4, a5, fun e => (by rw [a6] at e; cases e), a7⟩
    · refine (tell_x0 kind ver (by simpa using h2) (by simpa using h3) group mx q ro ev sa ra ss.length sc rs rc hM.gs w h).mono ?_
      rintro e w' ⟨rfl, R, l, bd, a1, a2, a3, a4, a5, a6, a7⟩
      exact ⟨rfl, R, l, bd, a1, a2, a3, a4, a5, fun e => (by rw [a6] at e; cases e), a7⟩
set_option maxRecDepth 100000 in
set_option maxHeartbeats 4000000 in
theorem igenc_any {n0 : Nat} (kind ver : Int) (group : ByteArray) (mx : Int) (q : Bool) (ro ev : Int) (sa ra : Option Addr) (ss : List ByteArray) (rs : List Rc) (sc rc : Nat) (w : World) (hM : MsgIn n0 group mx ro ev kind sa ra ss rs sc rc w) (hn : n0 ≤ w.heap.size) :
    Calls Tryz.prog 13 #[.agg #[.int .i64 kind, .int .i64 ver, .string group, .int .i64 mx, .bool q, .int .i64 ro, .int .i64 ev, .slice sa ss.length sc, .slice ra rs.length rc]] w fun e w' => (e = .returned (.tuple #[.string ⟨#[]⟩, .int .i64 1]) ∨ ∃ l, EncG kind ver group mx q ro ev ss rs l ∧ l.length ≤ 2199023255552 ∧ e = .returned (.tuple #[.string (Cs.filled ⟨#[]⟩ ⟨l.toArray⟩ 2), .int .i64 0])) ∧ Below w.heap.size w w' := by
  have HX1 := Lib.hid (Bt.new w [.int .i64 kind, .int .i64 ver, .string group, .int .i64 mx, .bool q, .int .i64 ro, .int .i64 ev, .slice sa ss.length sc, .slice ra rs.length rc] 53)
  have HE1 := Lib.hid (bbox1 w (.cells #[.int .i64 kind, .int .i64 ver, .string group, .int .i64 mx, .bool q, .int .i64 ro, .int .i64 ev, .slice sa ss.length sc, .slice ra rs.length rc] 53))
  have HM := Lib.hid hM
  clear hM
  go_enter Tryz.func13, Tryz.ntmps13
  go_upto_region 1 with fail
  obtain ⟨nb, hnb⟩ : ∃ x, w.heap.size = x := ⟨_, rfl⟩
  change Code.wp _ _ _ _ (w.alloc (.cells #[.int .i64 kind, .int .i64 ver, .string group, .int .i64 mx, .bool q, .int .i64 ro, .int .i64 ev, .slice sa ss.length sc, .slice ra rs.length rc] 53))
  generalize w.alloc (.cells #[.int .i64 kind, .int .i64 ver, .string group, .int .i64 mx, .bool q, .int .i64 ro, .int .i64 ev, .slice sa ss.length sc, .slice ra rs.length rc] 53) = w1 at HX1 HE1 ⊢
  have HX := Lib.hid (show Bt w1 nb [.int .i64 kind, .int .i64 ver, .string group, .int .i64 mx, .bool q, .int .i64 ro, .int .i64 ev, .slice sa ss.length sc, .slice ra rs.length rc] 53 by rw [← hnb]; exact HX1.out)
  rw [hnb]
  have HNB := Lib.hid hnb
  have s1 := HE1.out.size
  clear HX1 hnb
  go_upto_region 2 with fail
  have HO := Lib.hid (wr0_new w1)
  have HE2 := Lib.hid (bbox1 w1 (.cells #[.pointer none, .slice none 0 0, .bool false] 151))
  obtain ⟨b, hb⟩ : ∃ x, w1.heap.size = x := ⟨_, rfl⟩
  change Code.wp _ _ _ _ (w1.alloc (.cells #[.pointer none, .slice none 0 0, .bool false] 151))
  generalize w1.alloc (.cells #[.pointer none, .slice none 0 0, .bool false] 151) = w2 at HO HE2 ⊢
  have HO2 := Lib.hid (show Wr0 b w2 by rw [← hb]; exact HO.out)
  rw [hb]
  have HX2 := Lib.hid (HX.out.below HE2.out)
  have HB2 := Lib.hid (show Below w.heap.size w w2 from HE1.out.trans (HE2.out.mono s1))
  have hwb : w.heap.size ≤ b := by omega
  have HM2 := Lib.hid (HM.out.on (HB2.out.mono hn))
  have s2 := HE2.out.size
  clear HO hb
  have c0 := HX2.out.get 0 _ rfl
  have c1 := HX2.out.get 1 _ rfl
  have c2 := HX2.out.get 2 _ rfl
  have c3 := HX2.out.get 3 _ rfl
  have c4 := HX2.out.get 4 _ rfl
  have c5 := HX2.out.get 5 _ rfl
  have c6 := HX2.out.get 6 _ rfl
  have c7 := HX2.out.get 7 _ rfl
  have c8 := HX2.out.get 8 _ rfl
  have HFi := Lib.hid (fun (l : List UInt8) (W : World) (h4 : 4 ≤ l.length) (h5 : l.length ≤ 2199023255552) => (show Calls Tryz.prog 64 #[.string ⟨#[]⟩, .string ⟨l.toArray⟩, .int .i64 2] W fun e w' => e = .returned (.tuple #[.string (Cs.filled ⟨#[]⟩ ⟨l.toArray⟩ 2), .int .i64 0]) ∧ Below W.heap.size W w' from fill_ok ⟨#[]⟩ ⟨l.toArray⟩ 2 (by decide) (by show l.toArray.size ≤ _; rw [List.size_toArray]; omega) (by show 2 + 2 ≤ l.toArray.size; rw [List.size_toArray]; omega) (by decide) (by decide) W))
  rcases hk : (kind == 1) with _ | _
  · have HT := Lib.hid (tell_all (ver := ver) (q := q) w2 HM2.out (by omega) HO2.out)
    clear HM2 HM HO2
    go_upto_region 5 with (go_at_call 63; (with_reducible refine HT.out.mono ?_); rintro e w3 ⟨rfl, R, l, bd, hW, hR, hwR, hl1, hl2, hP, hG⟩; have HW := Lib.hid hW; have HP := Lib.hid hP; have HG := Lib.hid (HB2.out.trans (hG.to_below (by omega) hwb)); have f2 := hW.cell2; have hs3 := hG.size; clear hW hP hG)
    rcases bd with _ | _
    · have HE := HP.out rfl
      have HEl := Lib.hid HE
      have h4 := encG_len HE
      have HS := Lib.hid (wr_string R b l false w3 HW.out hR)
      clear HE HT c0 c1 c2 c3 c4 c5 c6 c7 c8
      go_wp2_with (first
        | (go_at_call 65; (with_reducible refine HS.out.mono ?_); rintro e w4 ⟨rfl, g4⟩; have G4 := Lib.hid (HG.out.trans (g4.mono (show w.heap.size ≤ R by omega))); have hs4 := g4.size; clear g4)
        | (go_at_call 64; (with_reducible refine (HFi.out l _ h4 hl2).mono ?_); rintro e w5 ⟨rfl, g5⟩; have G5 := Lib.hid (G4.out.trans (g5.mono (show w.heap.size ≤ w4.heap.size by omega))); clear g5))
      go_ret2
      exact ⟨.inr ⟨l, HEl.out, hl2, rfl⟩, G5.out⟩
    · clear HT c0 c1 c2 c3 c4 c5 c6 c7 c8
      go_wp2
      go_ret2
      exact ⟨.inl rfl, HG.out⟩
  · obtain rfl : kind = 1 := by simpa using hk
    have HT := Lib.hid (ask_all (ver := ver) (q := q) w2 HM2.out (by omega) HO2.out)
    clear HM2 HM HO2
    go_upto_region 5 with (go_at_call 62; (with_reducible refine HT.out.mono ?_); rintro e w3 ⟨rfl, R, l, bd, hW, hR, hwR, hl1, hl2, hP, hG⟩; have HW := Lib.hid hW; have HP := Lib.hid hP; have HG := Lib.hid (HB2.out.trans (hG.to_below (by omega) hwb)); have f2 := hW.cell2; have hs3 := hG.size; clear hW hP hG)
    rcases bd with _ | _
    · have HE := HP.out rfl
      have HEl := Lib.hid HE
      have h4 := encG_len HE
      have HS := Lib.hid (wr_string R b l false w3 HW.out hR)
      clear HE HT c0 c1 c2 c3 c4 c5 c6 c7 c8
      go_wp2_with (first
        | (go_at_call 65; (with_reducible refine HS.out.mono ?_); rintro e w4 ⟨rfl, g4⟩; have G4 := Lib.hid (HG.out.trans (g4.mono (show w.heap.size ≤ R by omega))); have hs4 := g4.size; clear g4)
        | (go_at_call 64; (with_reducible refine (HFi.out l _ h4 hl2).mono ?_); rintro e w5 ⟨rfl, g5⟩; have G5 := Lib.hid (G4.out.trans (g5.mono (show w.heap.size ≤ w4.heap.size by omega))); clear g5))
      go_ret2
      exact ⟨.inr ⟨l, HEl.out, hl2, rfl⟩, G5.out⟩
    · clear HT c0 c1 c2 c3 c4 c5 c6 c7 c8
      go_wp2
      go_ret2
      exact ⟨.inl rfl, HG.out⟩
end Go.Proofs.YticdmepplfgdiaaGreatDoor
end
