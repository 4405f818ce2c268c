/-
  igmp's writer: numbers, addresses and times are written. Conditions: those of each. Messages and records in memory; igmp.bare. Conditions: none. igmp's queries are written. Conditions: those of each. igmp's queries of version 3 are written. Conditions: those of each. igmp.Body: the records of a report in bytes. Conditions: those of each. igmp's reports and leaves are written. Conditions: those of each. igmp's reports and leaves are written. Conditions: those of each. igmp's reports and leaves are written. Conditions: those of each.
-/
import Derived.Test.YticdmepplfgdiaaGreatDoorQ05
import Derived.Test.YticdmepplfgdiaaGreatDoorQ10
import Derived.Test.YticdmepplfgdiaaGreatDoorQ14
import Derived.Test.YticdmepplfgdiaaGreatDoorQ03
set_option linter.unusedVariables false
set_option linter.unusedSimpArgs false
section
namespace Go.Proofs.YticdmepplfgdiaaGreatDoor
open Go.RowKit
set_option maxRecDepth 100000 in
set_option maxHeartbeats 1000000 in
/-- a number is written, or noted as one that does not fit -/
theorem wput {B b : Nat} {l : List UInt8} {bad : Bool} (n : Int) (m : Nat) (v : ByteArray) (c : Int) (bd : Bool) (hP : Puts n m v c) (hc : (c = 0 ∧ bd = bad) ∨ (c = 1 ∧ bd = true)) (hz : l.length + v.size ≤ 140737488355328) (w : World) (h : Wr B b l bad w) (hB : B ≤ w.heap.size) :
    Calls Tryz.prog 139 #[.pointer (some ⟨b, 0, none⟩), .int .i64 n, .int .i64 m] w fun e w' => e = .returned (.tuple #[]) ∧ Wr B b (l ++ v.data.toList) bd w' ∧ Past B b w w' := by
  have H := Lib.hid h
  have HP := Lib.hid hP
  clear h hP
  rcases bad with _ | _ <;> rcases hc with ⟨rfl, rfl⟩ | ⟨rfl, rfl⟩
  all_goals
    go_enter Tryz.func139, Tryz.ntmps139
    go_wp2_with (first
      | (go_at_call 69; (with_reducible refine (HP.out.to _).mono ?_); rintro e w1 ⟨rfl, g1⟩; have W1 := Lib.hid (H.out.below g1); have G1 := Lib.hid (Past.of_below (b := b) g1 hB); have c2 := W1.out.cell2; have cf := W1.out.frozen; have hs1 := g1.size; clear g1)
      | (go_at_call 70; (first | (with_reducible refine (wr_write B b l false v _ (W1.out.mark false) hz (by rw [World.size_setCell]; omega)).mono ?_) | (with_reducible refine (wr_write B b l true v _ (W1.out.mark true) hz (by rw [World.size_setCell]; omega)).mono ?_)); rintro e w2 ⟨rfl, W2, G2⟩))
    go_end0
    exact ⟨rfl, W2, (G1.out.setCell (p := ⟨b, 2, none⟩) rfl _).trans G2⟩
theorem byte_puts (c : Nat) (hc : c ≤ 255) : Puts c 1 ⟨#[UInt8.ofNat c]⟩ 0 := by
  have h := puts_good c 1 (by omega) (by decide) (by decide) (by omega)
  have e : Pl.be 1 c = [UInt8.ofNat c] := by
    rw [Pl.be_succ, Pl.be_zero, Nat.mod_eq_of_lt (by omega)]
    rfl
  rw [e] at h
  exact h
set_option maxRecDepth 100000 in
set_option maxHeartbeats 2000000 in
/-- a time is written as a code -/
theorem wtime {B b : Nat} {l : List UInt8} {bad : Bool} (n : Int) (hn : n ≤ 9223372036854775807) (hz : l.length ≤ 1073741824) (w : World) (h : Wr B b l bad w) (hB : B ≤ w.heap.size) :
    Calls Tryz.prog 138 #[.pointer (some ⟨b, 0, none⟩), .int .i64 n] w fun e w' => ∃ (c : Nat) (bd : Bool), c ≤ 255 ∧ (bd = false → bad = false ∧ (D8 c : Int) = n) ∧ e = .returned (.tuple #[]) ∧ Wr B b (l ++ [UInt8.ofNat c]) bd w' ∧ Past B b w w' := by
  have H := Lib.hid h
  clear h
  rcases (by omega : n < 0 ∨ 0 ≤ n) with hneg | hpos
  · have HE := Lib.hid (fun W => enc8_neg n hneg W)
    have HD := Lib.hid (fun W => (show Calls Tryz.prog 209 #[.int .i64 0] W fun e w' => e = .returned (.tuple #[.int .i64 0, .int .i64 0]) ∧ Below W.heap.size W w' from dec8_is 0 (by decide) W))
    have HP := Lib.hid (fun (W : World) (hW : Wr B b l true W) (hs : B ≤ W.heap.size) => (show Calls Tryz.prog 139 #[.pointer (some ⟨b, 0, none⟩), .int .i64 0, .int .i64 1] W fun e w' => e = .returned (.tuple #[]) ∧ Wr B b (l ++ [0]) true w' ∧ Past B b W w' from wput 0 1 _ 0 true (byte_puts 0 (by decide)) (.inl ⟨rfl, rfl⟩) (by show _ + 1 ≤ _; omega) W hW hs))
    rcases bad with _ | _
    all_goals
      go_enter Tryz.func138, Tryz.ntmps138
      go_wp2_with (first
        | (go_at_call 208; (with_reducible refine (HE.out _).mono ?_); rintro e w1 ⟨rfl, g1⟩; have W1 := Lib.hid (H.out.below g1); have G1 := Lib.hid (Past.of_below (b := b) g1 hB); have hs1 := g1.size; clear g1)
        | (go_at_call 209; (with_reducible refine (HD.out _).mono ?_); rintro e w2 ⟨rfl, g2⟩; have W2 := Lib.hid (W1.out.below g2); have G2 := Lib.hid (G1.out.trans (Past.of_below g2 (by omega))); have c2 := W2.out.cell2; have cf := W2.out.frozen; have hs2 := g2.size; clear g2)
        | (go_at_call 139; (with_reducible refine (HP.out _ (W2.out.mark true) (by rw [World.size_setCell]; omega)).mono ?_); rintro e w3 ⟨rfl, W3, G3⟩))
      go_end0
      exact ⟨0, true, by decide, (fun h => by cases h), rfl, W3, (G2.out.setCell (p := ⟨b, 2, none⟩) rfl _).trans G3⟩
  · obtain ⟨n, rfl⟩ := Int.eq_ofNat_of_zero_le hpos
    obtain ⟨c, hc, he⟩ := enc8_is n (by omega)
    have HE := Lib.hid he
    have HD := Lib.hid (fun W => dec8_is c (by omega) W)
    have HP := Lib.hid (fun (bd : Bool) (W : World) (hW : Wr B b l bd W) (hs : B ≤ W.heap.size) => (show Calls Tryz.prog 139 #[.pointer (some ⟨b, 0, none⟩), .int .i64 c, .int .i64 1] W fun e w' => e = .returned (.tuple #[]) ∧ Wr B b (l ++ [UInt8.ofNat c]) bd w' ∧ Past B b W w' from wput c 1 _ 0 bd (byte_puts c hc) (.inl ⟨rfl, rfl⟩) (by show _ + 1 ≤ _; omega) W hW hs))
    clear he
    rcases hq : ((D8 c : Int) != (n : Int)) with _ | _
    · have hqe := Lib.hid (show (D8 c : Int) = (n : Int) by simpa using hq)
      rcases bad with _ | _
      · go_enter Tryz.func138, Tryz.ntmps138
        go_wp2_with (first
          | (go_at_call 208; (with_reducible refine (HE.out _).mono ?_); rintro e w1 ⟨rfl, g1⟩; have W1 := Lib.hid (H.out.below g1); have G1 := Lib.hid (Past.of_below (b := b) g1 hB); have hs1 := g1.size; clear g1)
          | (go_at_call 209; (with_reducible refine (HD.out _).mono ?_); rintro e w2 ⟨rfl, g2⟩; have W2 := Lib.hid (W1.out.below g2); have G2 := Lib.hid (G1.out.trans (Past.of_below g2 (by omega))); have c2 := W2.out.cell2; have cf := W2.out.frozen; have hs2 := g2.size; clear g2)
          | (go_at_call 139; (with_reducible refine (HP.out _ _ (W2.out.mark false) (by rw [World.size_setCell]; omega)).mono ?_); rintro e w3 ⟨rfl, W3, G3⟩))
        go_end0
        exact ⟨c, false, hc, (fun _ => ⟨trivial, hqe.out⟩), rfl, W3, (G2.out.setCell (p := ⟨b, 2, none⟩) rfl _).trans G3⟩
      · go_enter Tryz.func138, Tryz.ntmps138
        go_wp2_with (first
          | (go_at_call 208; (with_reducible refine (HE.out _).mono ?_); rintro e w1 ⟨rfl, g1⟩; have W1 := Lib.hid (H.out.below g1); have G1 := Lib.hid (Past.of_below (b := b) g1 hB); have hs1 := g1.size; clear g1)
          | (go_at_call 209; (with_reducible refine (HD.out _).mono ?_); rintro e w2 ⟨rfl, g2⟩; have W2 := Lib.hid (W1.out.below g2); have G2 := Lib.hid (G1.out.trans (Past.of_below g2 (by omega))); have c2 := W2.out.cell2; have cf := W2.out.frozen; have hs2 := g2.size; clear g2)
          | (go_at_call 139; (with_reducible refine (HP.out _ _ (W2.out.mark true) (by rw [World.size_setCell]; omega)).mono ?_); rintro e w3 ⟨rfl, W3, G3⟩))
        go_end0
        exact ⟨c, true, hc, (fun h => by cases h), rfl, W3, (G2.out.setCell (p := ⟨b, 2, none⟩) rfl _).trans G3⟩
    · rcases bad with _ | _
      all_goals
        go_enter Tryz.func138, Tryz.ntmps138
        go_wp2_with (first
          | (go_at_call 208; (with_reducible refine (HE.out _).mono ?_); rintro e w1 ⟨rfl, g1⟩; have W1 := Lib.hid (H.out.below g1); have G1 := Lib.hid (Past.of_below (b := b) g1 hB); have hs1 := g1.size; clear g1)
          | (go_at_call 209; (with_reducible refine (HD.out _).mono ?_); rintro e w2 ⟨rfl, g2⟩; have W2 := Lib.hid (W1.out.below g2); have G2 := Lib.hid (G1.out.trans (Past.of_below g2 (by omega))); have c2 := W2.out.cell2; have cf := W2.out.frozen; have hs2 := g2.size; clear g2)
          | (go_at_call 139; (with_reducible refine (HP.out _ _ (W2.out.mark true) (by rw [World.size_setCell]; omega)).mono ?_); rintro e w3 ⟨rfl, W3, G3⟩))
        go_end0
        exact ⟨c, true, hc, (fun h => by cases h), rfl, W3, (G2.out.setCell (p := ⟨b, 2, none⟩) rfl _).trans G3⟩
/-- texts, one behind the other -/
def cat (ss : List ByteArray) : List UInt8 := ss.flatMap fun s => s.data.toList
theorem cat_push (ss : List ByteArray) (s : ByteArray) : cat (ss ++ [s]) = cat ss ++ s.data.toList := by simp [cat]
theorem cat_len (ss : List ByteArray) (h : ∀ s, s ∈ ss → s.size ≤ 1048576) : (cat ss).length ≤ ss.length * 1048576 := by
  induction ss with
  | nil => exact Nat.zero_le _
  | cons s ss ih =>
    have h1 := ih (fun x hx => h x (List.mem_cons_of_mem _ hx))
    have h2 := h s (List.mem_cons_self ..)
    have e : cat (s :: ss) = s.data.toList ++ cat ss := rfl
    rw [e, List.length_append, size_toList, List.length_cons]
    omega
set_option maxRecDepth 100000 in
set_option maxHeartbeats 2000000 in
/-- addresses are written -/
theorem waddrs {B b : Nat} {l : List UInt8} {bad : Bool} (v : Value) (ss : List ByteArray) (hss : ∀ s, s ∈ ss → s.size ≤ 1048576) (hn : ss.length ≤ 1048576) (hz : l.length ≤ 1073741824) (w : World) (hv : Strs w v ss) (h : Wr B b l bad w) (hBw : B ≤ w.heap.size) (hk : ∀ W, Past B b w W → Strs W v ss) :
    Calls Tryz.prog 140 #[.pointer (some ⟨b, 0, none⟩), v] w fun e w' => e = .returned (.tuple #[]) ∧ Wr B b (l ++ cat ss) bad w' ∧ Past B b w w' := by
  obtain ⟨a, cap, rfl, -⟩ := hv
  have H := Lib.hid h
  have HK := Lib.hid hk
  have hs := Lib.hid hss
  clear h hk hss
  go_enter Tryz.func140, Tryz.ntmps140
  go_wp2
  go_loopw [5, 8] (fun _ i wr => ∃ k : Nat, k ≤ ss.length ∧ i = .int .i64 k ∧ Wr B b (l ++ cat (ss.take k)) bad wr ∧ Past B b w wr) (fun _ i _ => ss.length + 1 - (intOf i).toNat)
  case atStart => exact ⟨0, Nat.zero_le _, rfl, by simpa [cat] using H.out, Past.refl _ _ _⟩
  case round =>
    obtain ⟨k, hk, rfl, hW, hE⟩ := hrel
    have HW := Lib.hid hW
    have HE := Lib.hid hE
    have hsz := hE.size
    clear hW hE
    by_cases hlt : k < ss.length
    · obtain ⟨a2, cap2, e, hrow⟩ := HK.out _ HE.out
      cases e
      obtain ⟨b2, o, rfl, hb2, hc⟩ := Strs.row hrow hlt
      have hck := hc k hlt
      have hxs := hs.out _ (getD_mem hlt)
      have htk := take_getD hlt
      obtain ⟨x, ex⟩ : ∃ x, x = ss.getD k ⟨#[]⟩ := ⟨_, rfl⟩
      rw [← ex] at hck hxs htk
      have HT := Lib.hid htk
      have hlen := cat_len (ss.take k) (fun s hs2 => hs.out s (List.mem_of_mem_take hs2))
      rw [List.length_take] at hlen
      have HL := Lib.hid (show (l ++ cat (ss.take k)).length + x.size ≤ 140737488355328 by
        rw [List.length_append]
        have : (min k ss.length) * 1048576 ≤ 1048576 * 1048576 := Nat.mul_le_mul_right _ (by omega)
        omega)
      clear hc hrow ex htk hxs hlen
      go_wp2_with (go_at_call 70; (with_reducible refine (wr_write B b _ bad x _ HW.out HL.out (by omega)).mono ?_); rintro e w2 ⟨rfl, W2, G2⟩; have HW2 := Lib.hid W2; have HG2 := Lib.hid (HE.out.trans G2); clear W2 G2)
      refine ⟨⟨k + 1, by omega, by go_num, by rw [HT.out, cat_push, ← List.append_assoc]; exact HW2.out, HG2.out⟩, ?_⟩
      simp [intOf]; omega
    · have he : k = ss.length := by omega
      subst he
      go_wp2
      go_end0
      exact ⟨rfl, by have := HW.out; rwa [List.take_length] at this, HE.out⟩
set_option maxRecDepth 100000 in
set_option maxHeartbeats 2000000 in
/-- one address is written -/
theorem waddr {B b : Nat} {l : List UInt8} {bad : Bool} (x cp : Nat) (s : ByteArray) (hz : l.length + s.size ≤ 140737488355328) (w : World) (hv : w.cell? ⟨x, 0, none⟩ = some (.string s)) (h : Wr B b l bad w) (hBw : B ≤ w.heap.size) :
    Calls Tryz.prog 140 #[.pointer (some ⟨b, 0, none⟩), .slice (some ⟨x, 0, none⟩) 1 cp] w fun e w' => e = .returned (.tuple #[]) ∧ Wr B b (l ++ s.data.toList) bad w' ∧ Past B b w w' := by
  have H := Lib.hid h
  clear h
  go_enter Tryz.func140, Tryz.ntmps140
  go_wp2
  go_loopw [5, 8] (fun _ i wr => ∃ k : Nat, k ≤ 1 ∧ i = .int .i64 k ∧ (k = 0 → wr = w) ∧ (k = 1 → Wr B b (l ++ s.data.toList) bad wr ∧ Past B b w wr)) (fun _ i _ => 2 - (intOf i).toNat)
  case atStart => exact ⟨0, Nat.zero_le _, rfl, fun _ => rfl, fun e => by cases e⟩
  case round =>
    obtain ⟨k, hk, rfl, h0, h1⟩ := hrel
    rcases (by omega : k = 0 ∨ k = 1) with rfl | rfl
    · obtain rfl := h0 rfl
      clear h0 h1
      go_wp2_with (go_at_call 70; (with_reducible refine (wr_write B b l bad s _ H.out hz hBw).mono ?_); rintro e w2 ⟨rfl, W2, G2⟩; have HW2 := Lib.hid W2; have HG2 := Lib.hid G2; clear W2 G2)
      refine ⟨⟨1, by omega, by go_num, (fun e => by cases e), fun _ => ⟨HW2.out, HG2.out⟩⟩, ?_⟩
      simp [intOf]
    · obtain ⟨W2, G2⟩ := h1 rfl
      have HW2 := Lib.hid W2
      have HG2 := Lib.hid G2
      clear W2 G2 h0 h1
      go_wp2
      go_end0
      exact ⟨rfl, HW2.out, HG2.out⟩
theorem puts_one (n : Int) (m : Nat) (hn : n ≤ 9223372036854775807) (h1 : 1 ≤ m) (h4 : m ≤ 4) : ∃ (v : ByteArray) (c : Int), Puts n m v c ∧ v.size ≤ 4 ∧ ((c = 1) ∨ (c = 0 ∧ 0 ≤ n ∧ n < (256 : Int) ^ m ∧ v.data.toList = Pl.be m n.toNat)) := by
  by_cases h : n < 0 ∨ (256 : Int) ^ m ≤ n
  · exact ⟨⟨#[]⟩, 1, puts_bad n m hn h1 h4 h, by decide, .inl rfl⟩
  · obtain ⟨x, rfl⟩ := Int.eq_ofNat_of_zero_le (show 0 ≤ n by omega)
    have hlt : ((x : Nat) : Int) < (256 : Int) ^ m := by omega
    have hx : x < 256 ^ m := by
      have e : ((256 ^ m : Nat) : Int) = (256 : Int) ^ m := by rw [Int.natCast_pow]; rfl
      exact Int.ofNat_lt.1 (by rw [e]; exact hlt)
    refine ⟨⟨(Pl.be m x).toArray⟩, 0, puts_good x m (by omega) h1 h4 hx, ?_, .inr ⟨rfl, by omega, hlt, rfl⟩⟩
    show (Pl.be m x).toArray.size ≤ 4
    rw [List.size_toArray, Pl.be_length]
    exact h4
/-- a number is written, whatever it is -/
theorem wput_any {B b : Nat} {l : List UInt8} {bad : Bool} (n : Int) (m : Nat) (hn : n ≤ 9223372036854775807) (h1 : 1 ≤ m) (h4 : m ≤ 4) (hz : l.length ≤ 1073741824) (w : World) (h : Wr B b l bad w) (hB : B ≤ w.heap.size) :
    Calls Tryz.prog 139 #[.pointer (some ⟨b, 0, none⟩), .int .i64 n, .int .i64 m] w fun e w' => ∃ (u : List UInt8) (bd : Bool), u.length ≤ 4 ∧ (bd = false → bad = false ∧ 0 ≤ n ∧ n < (256 : Int) ^ m ∧ u = Pl.be m n.toNat) ∧ e = .returned (.tuple #[]) ∧ Wr B b (l ++ u) bd w' ∧ Past B b w w' := by
  obtain ⟨v, c, hP, hv, hc⟩ := puts_one n m hn h1 h4
  rcases hc with rfl | ⟨rfl, h0, hlt, hb⟩
  · refine (wput n m v 1 true hP (.inr ⟨rfl, rfl⟩) (by omega) w h hB).mono ?_
    rintro e w' ⟨rfl, hW, hG⟩
    exact ⟨v.data.toList, true, by rw [size_toList]; exact hv, (fun e => by cases e), rfl, hW, hG⟩
  · refine (wput n m v 0 bad hP (.inl ⟨rfl, rfl⟩) (by omega) w h hB).mono ?_
    rintro e w' ⟨rfl, hW, hG⟩
    exact ⟨v.data.toList, bad, by rw [size_toList]; exact hv, fun e => ⟨e, h0, hlt, hb⟩, rfl, hW, hG⟩
end Go.Proofs.YticdmepplfgdiaaGreatDoor
end
section
namespace Go.Proofs.YticdmepplfgdiaaGreatDoor
open Go.RowKit
/-- a record, and where its sources lie -/
structure Rc where
  kind : Int
  group : ByteArray
  ss : List ByteArray
  sa : Option Addr
  sc : Nat
def Rc.sv (r : Rc) : Value := .slice r.sa r.ss.length r.sc
/-- a slice of records -/
def Rcs (W : World) (v : Value) (l : List Rc) : Prop :=
  ∃ (a : Option Addr) (cap : Nat), v = .slice a l.length cap ∧ (∀ r, r ∈ l → Strs W (.slice r.sa r.ss.length r.sc) r.ss) ∧ (l = [] ∨ ∃ b o, a = some ⟨b, o, none⟩ ∧ b < W.heap.size ∧ ∀ i r, l[i]? = some r → W.cell? ⟨b, o + i * 3, none⟩ = some (.int .i64 r.kind) ∧ W.cell? ⟨b, o + i * 3 + 1, none⟩ = some (.string r.group) ∧ W.cell? ⟨b, o + i * 3 + 2, none⟩ = some (.slice r.sa r.ss.length r.sc))
theorem Rcs.below {W W' : World} {v : Value} {l : List Rc} (h : Rcs W v l) (g : Below W.heap.size W W') : Rcs W' v l := by
  obtain ⟨a, cap, rfl, hs, h⟩ := h
  refine ⟨a, cap, rfl, fun r hr => (hs r hr).below g, ?_⟩
  rcases h with h | ⟨b, o, rfl, hb, hc⟩
  · exact .inl h
  · exact .inr ⟨b, o, rfl, Nat.lt_of_lt_of_le hb g.size, fun i r hi => ⟨(g.cell hb).trans (hc i r hi).1, (g.cell hb).trans (hc i r hi).2.1, (g.cell hb).trans (hc i r hi).2.2⟩⟩
/-- has a message only what all have? -/
def bareB (mx : Int) (q : Bool) (ro ev : Int) (n k : Nat) : Bool := (mx == 0) && (!q && ((ro == 0) && ((ev == 0) && (((n : Int) == 0) && ((k : Int) == 0)))))
set_option maxRecDepth 100000 in
set_option maxHeartbeats 2000000 in
theorem bare_is (kind ver : Int) (group : ByteArray) (mx : Int) (q : Bool) (ro ev : Int) (sa ra : Option Addr) (n sc k rc : Nat) (w : World) :
    Calls Tryz.prog 142 #[.agg #[.int .i64 kind, .int .i64 ver, .string group, .int .i64 mx, .bool q, .int .i64 ro, .int .i64 ev, .slice sa n sc, .slice ra k rc]] w fun e w' => e = .returned (.bool (bareB mx q ro ev n k)) ∧ Below w.heap.size w w' := by
  unfold bareB
  rcases h1 : (mx == 0) with _ | _
  · skip
    go_enter Tryz.func142, Tryz.ntmps142
    go_wp2
    go_ret
    exact ⟨rfl, bbox1 _ _⟩
  · skip
    rcases q with _ | _
    · skip
      rcases h3 : (ro == 0) with _ | _
      · skip
        go_enter Tryz.func142, Tryz.ntmps142
        go_wp2
        go_ret
        exact ⟨rfl, bbox1 _ _⟩
      · skip
        rcases h4 : (ev == 0) with _ | _
        · skip
          go_enter Tryz.func142, Tryz.ntmps142
          go_wp2
          go_ret
          exact ⟨rfl, bbox1 _ _⟩
        · skip
          rcases h5 : ((n : Int) == 0) with _ | _
          · skip
            go_enter Tryz.func142, Tryz.ntmps142
            go_wp2
            go_ret
            exact ⟨rfl, bbox1 _ _⟩
          · skip
            rcases h6 : ((k : Int) == 0) with _ | _
            · skip
              go_enter Tryz.func142, Tryz.ntmps142
              go_wp2
              go_ret
              exact ⟨rfl, bbox1 _ _⟩
            · skip
              go_enter Tryz.func142, Tryz.ntmps142
              go_wp2
              go_ret
              exact ⟨rfl, bbox1 _ _⟩
    · skip
      go_enter Tryz.func142, Tryz.ntmps142
      go_wp2
      go_ret
      exact ⟨rfl, bbox1 _ _⟩
end Go.Proofs.YticdmepplfgdiaaGreatDoor
end
section
namespace Go.Proofs.YticdmepplfgdiaaGreatDoor
open Go.RowKit
theorem wput02 {B b : Nat} {l : List UInt8} {bad : Bool} (hz : l.length ≤ 1073741824) (w : World) (h : Wr B b l bad w) (hB : B ≤ w.heap.size) :
    Calls Tryz.prog 139 #[.pointer (some ⟨b, 0, none⟩), .int .i64 0, .int .i64 2] w fun e w' => e = .returned (.tuple #[]) ∧ Wr B b (l ++ [0, 0]) bad w' ∧ Past B b w w' := by
  have hP : Puts ((0 : Nat) : Int) ((2 : Nat) : Int) ⟨(Pl.be 2 0).toArray⟩ 0 := puts_good 0 2 (by decide) (by decide) (by decide) (by decide)
  exact wput 0 2 _ 0 bad hP (.inl ⟨rfl, rfl⟩) (by show _ + 2 ≤ _; omega) w h hB
theorem wput03 {B b : Nat} {l : List UInt8} {bad : Bool} (hz : l.length ≤ 1073741824) (w : World) (h : Wr B b l bad w) (hB : B ≤ w.heap.size) :
    Calls Tryz.prog 139 #[.pointer (some ⟨b, 0, none⟩), .int .i64 0, .int .i64 3] w fun e w' => e = .returned (.tuple #[]) ∧ Wr B b (l ++ [0, 0, 0]) bad w' ∧ Past B b w w' := by
  have hP : Puts ((0 : Nat) : Int) ((3 : Nat) : Int) ⟨(Pl.be 3 0).toArray⟩ 0 := puts_good 0 3 (by decide) (by decide) (by decide) (by decide)
  exact wput 0 3 _ 0 bad hP (.inl ⟨rfl, rfl⟩) (by show _ + 3 ≤ _; omega) w h hB
theorem wput1 {B b : Nat} {l : List UInt8} {bad : Bool} (n : Int) (hn : n ≤ 9223372036854775807) (hz : l.length ≤ 1073741824) (w : World) (h : Wr B b l bad w) (hB : B ≤ w.heap.size) :
    Calls Tryz.prog 139 #[.pointer (some ⟨b, 0, none⟩), .int .i64 n, .int .i64 1] w fun e w' => ∃ (u : List UInt8) (bd : Bool), u.length ≤ 4 ∧ (bd = false → bad = false ∧ 0 ≤ n ∧ n < 256 ∧ u = [UInt8.ofNat n.toNat]) ∧ e = .returned (.tuple #[]) ∧ Wr B b (l ++ u) bd w' ∧ Past B b w w' := by
  refine (wput_any n 1 hn (by decide) (by decide) hz w h hB).mono ?_
  rintro e w' ⟨u, bd, h1, h2, rfl, h3, h4⟩
  refine ⟨u, bd, h1, fun q => ?_, rfl, h3, h4⟩
  obtain ⟨a, b, c, d⟩ := h2 q
  have c' : n < 256 := c
  refine ⟨a, b, c', ?_⟩
  rw [d, Pl.be_succ, Pl.be_zero, Nat.mod_eq_of_lt (by omega)]
  rfl
theorem wput2 {B b : Nat} {l : List UInt8} {bad : Bool} (n : Int) (hn : n ≤ 9223372036854775807) (hz : l.length ≤ 1073741824) (w : World) (h : Wr B b l bad w) (hB : B ≤ w.heap.size) :
    Calls Tryz.prog 139 #[.pointer (some ⟨b, 0, none⟩), .int .i64 n, .int .i64 2] w fun e w' => ∃ (u : List UInt8) (bd : Bool), u.length ≤ 4 ∧ (bd = false → bad = false ∧ 0 ≤ n ∧ n < 65536 ∧ u = Pl.be 2 n.toNat) ∧ e = .returned (.tuple #[]) ∧ Wr B b (l ++ u) bd w' ∧ Past B b w w' :=
  wput_any n 2 hn (by decide) (by decide) hz w h hB
/-- what a query of version 3 is written as -/
def Ask3 (g4 : ByteArray) (mx : Int) (q : Bool) (ro ev : Int) (ss : List ByteArray) (l : List UInt8) : Prop :=
  0 ≤ ro ∧ ro ≤ 7 ∧ (∀ s, s ∈ ss → s.size = 4) ∧ ss.length ≤ 60 ∧ ∃ c d : Nat, c ≤ 255 ∧ d ≤ 255 ∧ (D8 c : Int) = mx ∧ (D8 d : Int) = ev ∧ l = [17, UInt8.ofNat c, 0, 0] ++ g4.data.toList ++ [UInt8.ofNat (ro.toNat + if q then 8 else 0)] ++ [UInt8.ofNat d] ++ Pl.be 2 ss.length ++ cat ss
end Go.Proofs.YticdmepplfgdiaaGreatDoor
end
section
namespace Go.Proofs.YticdmepplfgdiaaGreatDoor
open Go.RowKit
set_option maxRecDepth 100000 in
set_option maxHeartbeats 8000000 in
theorem ask_e3t {b n0 : Nat} (kind mx ro ev : Int) (sa ra : Option Addr) (ss : List ByteArray) (sc k rc : Nat) (b1 : mx ≤ 9223372036854775807) (b2 : ev ≤ 9223372036854775807) (b3 : -9223372036854775808 ≤ ro) (b4 : ro ≤ 9223372036854775807) (hss : ∀ s, s ∈ ss → s.size ≤ 1048576) (hln : ss.length ≤ 1048576) (w : World) (hs : ∀ W, Below n0 w W → Strs W (.slice sa ss.length sc) ss) (hn0 : n0 ≤ b) (h : Wr0 b w) :
    Calls Tryz.prog 62 #[.pointer (some ⟨b, 0, none⟩), .agg #[.int .i64 kind, .int .i64 3, .string ⟨#[]⟩, .int .i64 mx, .bool true, .int .i64 ro, .int .i64 ev, .slice sa ss.length sc, .slice ra k rc]] w fun e w' => e = .returned (.tuple #[]) ∧ ∃ R l bd, Wr R b l bd w' ∧ R ≤ w'.heap.size ∧ w.heap.size ≤ R ∧ 4 ≤ l.length ∧ l.length ≤ 2199023255552 ∧ (bd = false → k = 0 ∧ ss = [] ∧ Ask3 ⟨#[0, 0, 0, 0]⟩ mx true ro ev ss l) ∧ Past w.heap.size b w w' := by
  have hbw := h.lt
  have HS := Lib.hid hs
  have HSS := Lib.hid hss
  have HO1 := Lib.hid (h.below (bbox1 w (.cells #[.int .i64 kind, .int .i64 3, .string ⟨#[]⟩, .int .i64 mx, .bool true, .int .i64 ro, .int .i64 ev, .slice sa ss.length sc, .slice ra k rc] 53)))
  have HX1 := Lib.hid (Bx.new w [.int .i64 kind, .int .i64 3, .string ⟨#[]⟩, .int .i64 mx, .bool true, .int .i64 ro, .int .i64 ev, .slice sa ss.length sc, .slice ra k rc] 53)
  have HE1 := Lib.hid (bbox1 w (.cells #[.int .i64 kind, .int .i64 3, .string ⟨#[]⟩, .int .i64 mx, .bool true, .int .i64 ro, .int .i64 ev, .slice sa ss.length sc, .slice ra k rc] 53))
  clear h hs hss
  go_enter Tryz.func62, Tryz.ntmps62
  go_upto_region 1 with fail
  obtain ⟨nb, hnb⟩ : ∃ x, w.heap.size = x := ⟨_, rfl⟩
  change Code.wp _ _ _ _ (w.alloc (.cells #[.int .i64 kind, .int .i64 3, .string ⟨#[]⟩, .int .i64 mx, .bool true, .int .i64 ro, .int .i64 ev, .slice sa ss.length sc, .slice ra k rc] 53))
  generalize w.alloc (.cells #[.int .i64 kind, .int .i64 3, .string ⟨#[]⟩, .int .i64 mx, .bool true, .int .i64 ro, .int .i64 ev, .slice sa ss.length sc, .slice ra k rc] 53) = w1 at HO1 HX1 HE1 ⊢
  have HX := Lib.hid (show Bx w1 nb [.int .i64 kind, .int .i64 3, .string ⟨#[]⟩, .int .i64 mx, .bool true, .int .i64 ro, .int .i64 ev, .slice sa ss.length sc, .slice ra k rc] by rw [← hnb]; exact HX1.out)
  rw [hnb]
  have HNB := Lib.hid hnb
  have hnR := HX.out.1
  have hnb2 : nb ≠ b := by omega
  obtain ⟨R, hR⟩ : ∃ x, w1.heap.size = x := ⟨_, rfl⟩
  rw [hR] at hnR
  have HR := Lib.hid hR
  have hRw : R ≤ w1.heap.size := by omega
  have hwR := Lib.hid (show w.heap.size ≤ R by have := HE1.out.size; omega)
  have HW := Lib.hid (HO1.out.wr R)
  clear HX1 hnb hR
  have c2 := HX.out.get 2 _ rfl
  have c8 := HX.out.get 8 _ rfl
  have f2 := HW.out.cell2
  have ff := HW.out.frozen
  go_upto_region 2 with fail
  go_cut [] (fun wx => ∃ bd, Wr R b [] bd wx ∧ (bd = false → k = 0) ∧ Past R b w1 wx)
  case first =>
    rcases hk : decide ((0 : Int) < (k : Int)) with _ | _
    · have hk0 : k = 0 := by have := of_decide_eq_false hk; omega
      subst hk0
      go_wp2
      go_meet
      exact ⟨false, HW.out.mark false, fun _ => (by first | rfl | trivial), (Past.refl R b w1).setCell rfl _⟩
    · have hk0 : (0 : Int) < (k : Int) := of_decide_eq_true hk
      go_wp2
      go_meet
      exact ⟨true, HW.out.mark true, (fun e => by cases e), (Past.refl R b w1).setCell rfl _⟩
  case rest =>
    obtain ⟨bd2, hW2, hp2, hG2⟩ := hcut
    rename World => w2
    have HW2 := Lib.hid hW2
    have HP2 := Lib.hid hp2
    have HG2 := Lib.hid hG2
    have HX2 := Lib.hid (HX.out.past hG2 hnR hnb2)
    have s2 := hG2.size
    clear hW2 hp2 hG2 c2 c8 f2 ff
    have c7 := HX2.out.get 7 _ rfl
    have f2 := HW2.out.cell2
    have ff := HW2.out.frozen
    go_upto_region 4 with fail
    go_cut [] (fun wx => ∃ bd, Wr R b [] bd wx ∧ (bd = false → bd2 = false ∧ ss = []) ∧ Past R b w2 wx)
    case first =>
      rcases bd2 with _ | _
      · rcases hk : decide ((0 : Int) < (ss.length : Int)) with _ | _
        · have hk0 : ss.length = 0 := by have := of_decide_eq_false hk; omega
          obtain rfl := List.length_eq_zero_iff.1 hk0
          go_wp2
          go_meet
          exact ⟨false, HW2.out.mark false, fun _ => ⟨(by first | rfl | trivial), (by first | rfl | trivial)⟩, (Past.refl R b w2).setCell rfl _⟩
        · have hk0 : (0 : Int) < (ss.length : Int) := of_decide_eq_true hk
          go_wp2
          go_meet
          exact ⟨decide (0 < ss.length), HW2.out.mark _, (fun e => absurd (of_decide_eq_false e) (by omega)), (Past.refl R b w2).setCell rfl _⟩
      · go_wp2
        go_meet
        exact ⟨true, HW2.out.mark true, (fun e => by cases e), (Past.refl R b w2).setCell rfl _⟩
    case rest =>
      obtain ⟨bd3, hW3, hp3, hG3⟩ := hcut
      rename World => w3
      have HW3 := Lib.hid hW3
      have HP3 := Lib.hid hp3
      have HG3 := Lib.hid (HG2.out.trans hG3)
      have HX3 := Lib.hid (HX2.out.past hG3 hnR hnb2)
      have s3 := HG3.out.size
      clear hW3 hp3 hG3 c7 f2 ff
      go_upto_region 12 with (first
        | (go_at_call 70; (with_reducible refine (wr_write R b [] bd3 ⟨#[17]⟩ _ HW3.out (by decide) (by omega)).mono ?_); rintro e w6 ⟨rfl, hW6, hG6⟩; have HW6 := Lib.hid (show Wr R b [17] bd3 w6 from hW6); have HG6 := Lib.hid (HG3.out.trans hG6); have HX6 := Lib.hid (HX3.out.past hG6 hnR hnb2); have s6 := HG6.out.size; clear hW6 hG6; have c1 := HX6.out.get 1 _ rfl; have c3 := HX6.out.get 3 _ rfl)
        | (go_at_call 138; (with_reducible refine (wtime mx b1 (by decide) _ HW6.out (by omega)).mono ?_); rintro e w8 ⟨c, bd8, hc, hp8, rfl, hW8, hG8⟩; have HC8 := Lib.hid hc; have HP8 := Lib.hid hp8; have HW8 := Lib.hid (show Wr R b [17, UInt8.ofNat c] bd8 w8 from hW8); have HG8 := Lib.hid (HG6.out.trans hG8); have HX8 := Lib.hid (HX6.out.past hG8 hnR hnb2); have s8 := HG8.out.size; have HZ8 := Lib.hid (show ([17, UInt8.ofNat c] : List UInt8).length ≤ 1073741824 by show 2 ≤ _; decide); clear hW8 hG8 hc hp8)
        | (go_at_call 139; (with_reducible refine (wput02 HZ8.out _ HW8.out (by omega)).mono ?_); rintro e w9 ⟨rfl, hW9, hG9⟩; have HW9 := Lib.hid (show Wr R b [17, UInt8.ofNat c, 0, 0] bd8 w9 from hW9); have HG9 := Lib.hid (HG8.out.trans hG9); have HX9 := Lib.hid (HX8.out.past hG9 hnR hnb2); have s9 := HG9.out.size; have HZ9 := Lib.hid (show ([17, UInt8.ofNat c, 0, 0] : List UInt8).length + (⟨#[0, 0, 0, 0]⟩ : ByteArray).size ≤ 140737488355328 by show 4 + 4 ≤ _; decide); clear hW9 hG9)
        | (go_at_call 140; (with_reducible refine (waddr w9.heap.size 1 ⟨#[0, 0, 0, 0]⟩ HZ9.out (w9.alloc (.cells #[.string ⟨#[0, 0, 0, 0]⟩] 25)) ((Bx.new w9 [.string ⟨#[0, 0, 0, 0]⟩] 25).get 0 _ rfl) (HW9.out.below (bbox1 _ _)) (by rw [World.size_alloc]; omega)).mono ?_); rintro e w10 ⟨rfl, hW10, hG10⟩; have HW10 := Lib.hid (show Wr R b ([17, UInt8.ofNat c, 0, 0] ++ (⟨#[0, 0, 0, 0]⟩ : ByteArray).data.toList) bd8 w10 from hW10); have HG10 := Lib.hid ((HG9.out.alloc (by omega) _).trans hG10); have HX10 := Lib.hid ((HX9.out.alloc (.cells #[.string ⟨#[0, 0, 0, 0]⟩] 25)).past hG10 hnR hnb2); have s10 := HG10.out.size; clear hW10 hG10; have c5 := HX10.out.get 5 _ rfl))
      have HL10 := Lib.hid (show ([17, UInt8.ofNat c, 0, 0] ++ (⟨#[0, 0, 0, 0]⟩ : ByteArray).data.toList).length ≤ 1048600 by rw [List.length_append, size_toList]; show 4 + 4 ≤ _; decide)
      have HL4 := Lib.hid (show 4 ≤ ([17, UInt8.ofNat c, 0, 0] ++ (⟨#[0, 0, 0, 0]⟩ : ByteArray).data.toList).length by rw [List.length_append]; show 4 ≤ 4 + _; omega)
      obtain ⟨l0, hl0⟩ : ∃ x, x = [17, UInt8.ofNat c, 0, 0] ++ (⟨#[0, 0, 0, 0]⟩ : ByteArray).data.toList := ⟨_, rfl⟩
      rw [← hl0] at HW10 HL10 HL4
      have HL0 := Lib.hid hl0
      clear hl0 c1 c3 c5
      have c7 := HX10.out.get 7 _ rfl
      have f2 := HW10.out.cell2
      have ff := HW10.out.frozen
      obtain ⟨r, hr⟩ : ∃ r : Bool, r = true ↔ (∀ s, s ∈ ss → s.size = 4) ∧ ss.length ≤ 60 := by
        by_cases hq : (∀ s, s ∈ ss → s.size = 4) ∧ ss.length ≤ 60
        · exact ⟨true, iff_of_true rfl hq⟩
        · exact ⟨false, iff_of_false (by decide) hq⟩
      have HRr := Lib.hid hr
      clear hr
      have HSt := Lib.hid (fun (W : World) (hW : Past R b w1 W) => HS.out W ((HE1.out.mono (show n0 ≤ w.heap.size by omega)).trans (hW.to_below (show n0 ≤ R by have := hwR.out; omega) hn0)))
      have HF := Lib.hid (fit_any _ ss r HRr.out (by omega) _ (HSt.out _ HG10.out))
      go_cut [] (fun wx => ∃ bd, Wr R b l0 bd wx ∧ (bd = false → bd8 = false ∧ ro ≤ 7 ∧ r = true) ∧ Past R b w10 wx)
      case first =>
        rcases bd8 with _ | _
        · rcases hk : decide ((7 : Int) < ro) with _ | _
          · have hk0 : ¬ (7 : Int) < ro := of_decide_eq_false hk
            have hk1 : ro ≤ 7 := by omega
            go_wp2_with ((with_reducible refine HF.out.mono ?_); rintro e w11 ⟨rfl, rfl⟩)
            go_meet
            exact ⟨!r, HW10.out.mark _, fun e => ⟨(by first | rfl | trivial), hk1, by simpa using e⟩, (Past.refl R b w10).setCell rfl _⟩
          · have hk0 : (7 : Int) < ro := of_decide_eq_true hk
            go_wp2
            go_meet
            exact ⟨true, HW10.out.mark true, (fun e => by cases e), (Past.refl R b w10).setCell rfl _⟩
        · go_wp2
          go_meet
          exact ⟨true, HW10.out.mark true, (fun e => by cases e), (Past.refl R b w10).setCell rfl _⟩
      case rest =>
        obtain ⟨bd12, hW12, hp12, hG12⟩ := hcut
        rename World => w12
        have HW12 := Lib.hid hW12
        have HP12 := Lib.hid hp12
        have HG12 := Lib.hid (HG10.out.trans hG12)
        have HX12 := Lib.hid (HX10.out.past hG12 hnR hnb2)
        have s12 := HG12.out.size
        clear hW12 hp12 hG12 c7 f2 ff HF
        have c4 := HX12.out.get 4 _ rfl
        have c5 := HX12.out.get 5 _ rfl
        have f2 := HW12.out.cell2
        have ff := HW12.out.frozen
        obtain ⟨f, hf⟩ : ∃ f, wrap64 (ro + 8) = f := ⟨_, rfl⟩
        have HFf := Lib.hid (show (ro ≤ 7 ∧ 0 ≤ ro → f = ro + 8) ∧ -9223372036854775808 ≤ f ∧ f ≤ 9223372036854775807 by rw [← hf]; exact ⟨fun h => IntWalk.wrap64_in _ ⟨by omega, by omega⟩, by unfold wrap64; omega, by unfold wrap64; omega⟩)
        go_upto_region 15 with fail
        try rw [hf]
        clear hf
        go_cut [] (fun wx => ∃ bd, Wr R b l0 bd wx ∧ (bd = false → bd12 = false ∧ 0 ≤ ro) ∧ Past R b w12 wx)
        case first =>
          rcases bd12 with _ | _
          · rcases hk : decide (ro < (0 : Int)) with _ | _
            · have hk0 : ¬ ro < (0 : Int) := of_decide_eq_false hk
              have hk1 : 0 ≤ ro := by omega
              go_wp2
              go_meet
              exact ⟨false, HW12.out.mark _, fun _ => ⟨(by first | rfl | trivial), hk1⟩, (Past.refl R b w12).setCell rfl _⟩
            · have hk0 : ro < (0 : Int) := of_decide_eq_true hk
              go_wp2
              go_meet
              exact ⟨true, HW12.out.mark true, (fun e => by cases e), (Past.refl R b w12).setCell rfl _⟩
          · go_wp2
            go_meet
            exact ⟨true, HW12.out.mark true, (fun e => by cases e), (Past.refl R b w12).setCell rfl _⟩
        case rest =>
          obtain ⟨bd15, hW15, hp15, hG15⟩ := hcut
          rename World => w15
          have HW15 := Lib.hid hW15
          have HP15 := Lib.hid hp15
          have HG15 := Lib.hid (HG12.out.trans hG15)
          have HX15 := Lib.hid (HX12.out.past hG15 hnR hnb2)
          have s15 := HG15.out.size
          clear hW15 hp15 hG15 c4 c5 f2 ff
          go_upto_region 16 with fail
          go_cut [] (fun wx => ∃ (u : List UInt8) (bd : Bool), u.length ≤ 4 ∧ Wr R b (l0 ++ u) bd wx ∧ (bd = false → bd15 = false ∧ (0 ≤ f → f < 256 ∧ u = [UInt8.ofNat (f).toNat])) ∧ Past R b w15 wx)
          case first =>
            have HQ := Lib.hid (wput1 (max f 0) (by have := HFf.out.2.2; omega) (by have := HL10.out; omega) w15 HW15.out (by omega))
            go_wp2_with (go_at_call 139; (with_reducible refine HQ.out.mono ?_); rintro e w16 ⟨u, bd16, hu, hp16, rfl, hW16, hG16⟩)
            go_meet
            exact ⟨u, bd16, hu, hW16, fun e => ⟨(hp16 e).1, fun h => ⟨by have := (hp16 e).2.2.1; omega, by rw [(hp16 e).2.2.2, show max f 0 = f by omega]⟩⟩, hG16⟩
          case rest =>
            obtain ⟨u16, bd16, hu16, hW16, hp16, hG16⟩ := hcut
            rename World => w16
            have HW16 := Lib.hid hW16
            have HP16 := Lib.hid hp16
            have HG16 := Lib.hid (HG15.out.trans hG16)
            have HX16 := Lib.hid (HX15.out.past hG16 hnR hnb2)
            have s16 := HG16.out.size
            have HL16 := Lib.hid (show (l0 ++ u16).length ≤ 1048700 by rw [List.length_append]; have := HL10.out; omega)
            clear hW16 hp16 hG16
            have c6 := HX16.out.get 6 _ rfl
            go_wp2_with (first
              | (go_at_call 138; (with_reducible refine (wtime ev b2 (by have := HL16.out; omega) _ HW16.out (by omega)).mono ?_); rintro e w17 ⟨d, bd17, hd, hp17, rfl, hW17, hG17⟩; have HD17 := Lib.hid hd; have HP17 := Lib.hid hp17; have HW17 := Lib.hid hW17; have HG17 := Lib.hid (HG16.out.trans hG17); have HX17 := Lib.hid (HX16.out.past hG17 hnR hnb2); have s17 := HG17.out.size; have HL17 := Lib.hid (show (l0 ++ u16 ++ [UInt8.ofNat d]).length ≤ 1048800 by rw [List.length_append]; have := HL16.out; show _ + 1 ≤ _; omega); clear hW17 hG17 hd hp17; have c7 := HX17.out.get 7 _ rfl)
              | (go_at_call 139; (with_reducible refine (wput2 (ss.length : Int) (by omega) (by have := HL17.out; omega) _ HW17.out (by omega)).mono ?_); rintro e w18 ⟨u18, bd18, hu18, hp18, rfl, hW18, hG18⟩; have HP18 := Lib.hid hp18; have HW18 := Lib.hid hW18; have HG18 := Lib.hid (HG17.out.trans hG18); have HX18 := Lib.hid (HX17.out.past hG18 hnR hnb2); have s18 := HG18.out.size; have HL18 := Lib.hid (show (l0 ++ u16 ++ [UInt8.ofNat d] ++ u18).length ≤ 1048900 by rw [List.length_append]; have := HL17.out; omega); clear hW18 hG18 hp18; have c7 := HX18.out.get 7 _ rfl)
              | (go_at_call 140; (with_reducible refine (waddrs _ ss HSS.out hln (by have := HL18.out; omega) _ (HSt.out _ HG18.out) HW18.out (by omega) (fun W hW => HSt.out W (HG18.out.trans hW))).mono ?_); rintro e w19 ⟨rfl, hW19, hG19⟩; have HW19 := Lib.hid hW19; have HG19 := Lib.hid (HG18.out.trans hG19); have s19 := HG19.out.size; clear hW19 hG19))
            refine bodyPost_ret (v := .tuple #[]) (by simp [results, Tryz.results62, go_sem]) rfl ?_
            refine ⟨rfl, R, _, bd18, HW19.out, by omega, hwR.out, ?_, ?_, fun e => ?_, ?_⟩
            · simp only [List.length_append]
              have := HL4.out
              omega
            · have h1 := HL18.out
              have h2 := cat_len ss HSS.out
              have h3 : ss.length * 1048576 ≤ 1048576 * 1048576 := Nat.mul_le_mul_right _ hln
              rw [List.length_append]
              omega
            · obtain ⟨e17, -, -, hu18e⟩ := HP18.out e
              obtain ⟨e16, hde⟩ := HP17.out e17
              obtain ⟨e15, hu16e⟩ := HP16.out e16
              obtain ⟨e12, hro0⟩ := HP15.out e15
              obtain ⟨e8, hro7, hre⟩ := HP12.out e12
              obtain ⟨e3, hce⟩ := HP8.out e8
              obtain ⟨e2, hsse⟩ := HP3.out e3
              have hk := HP2.out e2
              obtain ⟨hf4, hl60⟩ := HRr.out.1 hre
              refine ⟨hk, hsse, hro0, hro7, hf4, hl60, c, d, HC8.out, HD17.out, hce, hde, ?_⟩
              have hfe := HFf.out.1 ⟨hro7, hro0⟩
              rw [(hu16e (by omega)).2, hu18e, HL0.out, show f.toNat = ro.toNat + 8 by omega, Int.toNat_natCast]
              rfl
            · exact (Past.of_below (R := w.heap.size) HE1.out (Nat.le_refl _)).trans (HG19.out.mono hwR.out)
end Go.Proofs.YticdmepplfgdiaaGreatDoor
end
section
namespace Go.Proofs.YticdmepplfgdiaaGreatDoor
open Go.RowKit
/-- may a record be? -/
def RcOk (r : Rc) : Prop := 1 ≤ r.kind ∧ r.kind ≤ 6 ∧ grp4 r.group = true ∧ (∀ s, s ∈ r.ss → s.size = 4) ∧ r.ss.length ≤ 60
/-- a record's bytes -/
def rcB (r : Rc) : List UInt8 := [UInt8.ofNat r.kind.toNat, 0] ++ Pl.be 2 r.ss.length ++ r.group.data.toList ++ cat r.ss
def rcsB (l : List Rc) : List UInt8 := l.flatMap rcB
theorem rcsB_push (l : List Rc) (r : Rc) : rcsB (l ++ [r]) = rcsB l ++ rcB r := by simp [rcsB]
theorem grp4_size {a : ByteArray} (h : grp4 a = true) : a.size = 4 := by
  unfold grp4 at h
  rw [Bool.and_eq_true] at h
  simpa using h.1
theorem cat_len4 (ss : List ByteArray) (h : ∀ s, s ∈ ss → s.size = 4) : (cat ss).length = ss.length * 4 := by
  induction ss with
  | nil => rfl
  | cons s ss ih =>
    have h1 := ih (fun x hx => h x (List.mem_cons_of_mem _ hx))
    have h2 := h s (List.mem_cons_self ..)
    have e : cat (s :: ss) = s.data.toList ++ cat ss := rfl
    rw [e, List.length_append, size_toList, List.length_cons]
    omega
theorem rcB_len {r : Rc} (h : RcOk r) : (rcB r).length = 8 + r.ss.length * 4 := by
  unfold rcB
  rw [List.length_append, List.length_append, List.length_append, Pl.be_length, size_toList, grp4_size h.2.2.1, cat_len4 _ h.2.2.2.1]
  show 2 + 2 + 4 + _ = _
  omega
theorem rcsB_len (l : List Rc) (h : ∀ r, r ∈ l → RcOk r) : (rcsB l).length ≤ l.length * 248 := by
  induction l with
  | nil => exact Nat.zero_le _
  | cons r l ih =>
    have h1 := ih (fun x hx => h x (List.mem_cons_of_mem _ hx))
    have h2 := rcB_len (h r (List.mem_cons_self ..))
    have h3 := (h r (List.mem_cons_self ..)).2.2.2.2
    have e : rcsB (r :: l) = rcB r ++ rcsB l := rfl
    rw [e, List.length_append, List.length_cons]
    omega
theorem rc_getD {l : List Rc} {k : Nat} (hk : k < l.length) : ∃ r, l[k]? = some r ∧ r ∈ l ∧ l.take (k + 1) = l.take k ++ [r] := ⟨l[k], List.getElem?_eq_getElem hk, List.getElem_mem hk, by rw [List.take_succ_eq_append_getElem hk]⟩
theorem wbyte {B b : Nat} {l : List UInt8} {bad : Bool} (n : Int) (h0 : 0 ≤ n) (h1 : n ≤ 255) (hz : l.length ≤ 1073741824) (w : World) (h : Wr B b l bad w) (hB : B ≤ w.heap.size) :
    Calls Tryz.prog 139 #[.pointer (some ⟨b, 0, none⟩), .int .i64 n, .int .i64 1] w fun e w' => e = .returned (.tuple #[]) ∧ Wr B b (l ++ [UInt8.ofNat n.toNat]) bad w' ∧ Past B b w w' := by
  obtain ⟨c, rfl⟩ := Int.eq_ofNat_of_zero_le h0
  exact wput c 1 _ 0 bad (byte_puts c (by omega)) (.inl ⟨rfl, rfl⟩) (by show _ + 1 ≤ _; omega) w h hB
theorem wnum2 {B b : Nat} {l : List UInt8} {bad : Bool} (n : Nat) (h1 : n ≤ 65535) (hz : l.length ≤ 1073741824) (w : World) (h : Wr B b l bad w) (hB : B ≤ w.heap.size) :
    Calls Tryz.prog 139 #[.pointer (some ⟨b, 0, none⟩), .int .i64 n, .int .i64 2] w fun e w' => e = .returned (.tuple #[]) ∧ Wr B b (l ++ Pl.be 2 n) bad w' ∧ Past B b w w' := by
  have hP : Puts ((n : Nat) : Int) ((2 : Nat) : Int) ⟨(Pl.be 2 n).toArray⟩ 0 := puts_good n 2 (by omega) (by decide) (by decide) (by omega)
  exact wput n 2 _ 0 bad hP (.inl ⟨rfl, rfl⟩) (by show _ + (Pl.be 2 n).length ≤ _; rw [Pl.be_length]; omega) w h hB
set_option maxRecDepth 100000 in
set_option maxHeartbeats 8000000 in
theorem body_any {n0 : Nat} (v : Value) (l : List Rc) (hl : l.length ≤ 20) (hz : ∀ r, r ∈ l → r.ss.length ≤ 20 ∧ r.kind ≤ 9223372036854775807) (w : World) (hv : ∀ W, Below n0 w W → Rcs W v l) (hn : n0 ≤ w.heap.size) :
    Calls Tryz.prog 143 #[v, .int .i64 4] w fun e w' => ((e = .returned (.tuple #[.string ⟨#[]⟩, .int .i64 1])) ∨ ((∀ r, r ∈ l → RcOk r) ∧ e = .returned (.tuple #[.string ⟨(rcsB l).toArray⟩, .int .i64 0]))) ∧ Below w.heap.size w w' := by
  obtain ⟨a, cap, rfl, -⟩ := hv w (Below.refl _ _)
  have HV := Lib.hid hv
  have HZ := Lib.hid hz
  have hl30 : (l.length : Int) ≤ 30 := by omega
  have HW0 := Lib.hid (wr0_new w)
  have HE0 := Lib.hid (bbox1 w (.cells #[.pointer none, .slice none 0 0, .bool false] 151))
  clear hv hz
  go_enter Tryz.func143, Tryz.ntmps143
  go_upto_region 4 with ((with_reducible refine (isSize_4 _).mono ?_); rintro e w1 ⟨rfl, rfl⟩)
  obtain ⟨b, hb⟩ : ∃ x, w.heap.size = x := ⟨_, rfl⟩
  change Code.wp _ _ _ _ (w.alloc (.cells #[.pointer none, .slice none 0 0, .bool false] 151))
  generalize w.alloc (.cells #[.pointer none, .slice none 0 0, .bool false] 151) = w1 at HW0 HE0 ⊢
  have HW1 := Lib.hid (show Wr0 b w1 by rw [← hb]; exact HW0.out)
  rw [hb]
  have HBb := Lib.hid hb
  have s1 := HE0.out.size
  obtain ⟨R, hR⟩ : ∃ x, w1.heap.size = x := ⟨_, rfl⟩
  have HRr := Lib.hid hR
  have hRw : R ≤ w1.heap.size := by omega
  have hbR : b < R := by have := HW1.out.lt; omega
  have hnb : n0 ≤ b := by omega
  have HSt := Lib.hid (fun (W : World) (hW : Past R b w1 W) => HV.out W ((HE0.out.mono hn).trans (hW.to_below (by omega) (by omega))))
  clear HW0 hb hR
  go_upto_region 5 with fail
  go_loopw [4, 5, 8, 19] (fun _ _ _ i wr => ∃ k : Nat, k ≤ l.length ∧ i = .int .i64 k ∧ Wr R b (rcsB (l.take k)) false wr ∧ (∀ r, r ∈ l.take k → RcOk r) ∧ Past R b w1 wr) (fun _ _ _ i _ => l.length + 1 - (intOf i).toNat)
  case atStart => exact ⟨0, Nat.zero_le _, rfl, HW1.out.wr R, by intro r hr; simp at hr, Past.refl _ _ _⟩
  case round =>
  obtain ⟨k, hk, rfl, hW, hok, hG⟩ := hrel
  have HWr := Lib.hid hW
  have HOk := Lib.hid hok
  have HG := Lib.hid hG
  have hsz := hG.size
  clear hW hok hG
  by_cases hlt : k < l.length
  · obtain ⟨r, hr, hrm, htk⟩ := rc_getD hlt
    obtain ⟨a2, cap2, e, hst, hrow⟩ := HSt.out _ HG.out
    cases e
    obtain ⟨b2, o, rfl, hb2, hc⟩ := hrow.resolve_left (by rintro rfl; exact absurd hlt (Nat.not_lt_zero _))
    obtain ⟨q0, q1, q2⟩ := hc k r hr
    have HTk := Lib.hid htk
    have HZr := Lib.hid (HZ.out r hrm)
    have HSr := Lib.hid (fun (W : World) (hW : Past R b w1 W) => (show Strs W (.slice r.sa r.ss.length r.sc) r.ss by
      obtain ⟨a3, cap3, e3, hst3, -⟩ := HSt.out _ hW
      exact hst3 r hrm))
    clear hc hrow hst htk
    have HLk := Lib.hid (show (rcsB (l.take k)).length ≤ 4960 by
      have h1 := rcsB_len _ HOk.out
      rw [List.length_take] at h1
      have : (min k l.length) * 248 ≤ 20 * 248 := Nat.mul_le_mul_right _ (by omega)
      omega)
    obtain ⟨l0, hl0⟩ : ∃ x, x = rcsB (l.take k) := ⟨_, rfl⟩
    rw [← hl0] at HWr HLk
    have HL0 := Lib.hid hl0
    clear hl0
    obtain ⟨kd, gp, ss, sa, sc⟩ := r
    simp only at q0 q1 q2
    go_upto_region 7 with fail
    have X7 := Lib.hid (Bt.new wr [.int .i64 kd, .string gp, .slice sa ss.length sc] 55)
    have G7 := Lib.hid (HG.out.alloc (by omega) (.cells ([.int .i64 kd, .string gp, .slice sa ss.length sc] : List Value).toArray 55))
    have W7 := Lib.hid (HWr.out.below (bbox1 wr (.cells ([.int .i64 kd, .string gp, .slice sa ss.length sc] : List Value).toArray 55)))
    obtain ⟨nx, hnx⟩ : ∃ x, wr.heap.size = x := ⟨_, rfl⟩
    change Code.wp _ _ _ _ (wr.alloc (.cells ([.int .i64 kd, .string gp, .slice sa ss.length sc] : List Value).toArray 55))
    generalize wr.alloc (.cells ([.int .i64 kd, .string gp, .slice sa ss.length sc] : List Value).toArray 55) = w7 at X7 G7 W7 ⊢
    have X8 := Lib.hid (show Bt w7 nx [.int .i64 kd, .string gp, .slice sa ss.length sc] 55 by rw [← hnx]; exact X7.out)
    rw [hnx]
    have hxb : nx ≠ b := by omega
    have s7 := G7.out.size
    clear X7 hnx q0 q1 q2
    obtain ⟨r4, hr4⟩ : ∃ r : Bool, r = true ↔ (∀ s, s ∈ ss → s.size = 4) ∧ ss.length ≤ 60 := by
      by_cases hq : (∀ s, s ∈ ss → s.size = 4) ∧ ss.length ≤ 60
      · exact ⟨true, iff_of_true rfl hq⟩
      · exact ⟨false, iff_of_false (by decide) hq⟩
    have HR4 := Lib.hid hr4
    clear hr4
    have c0 := X8.out.get 0 _ rfl
    have c1 := X8.out.get 1 _ rfl
    have c2 := X8.out.get 2 _ rfl
    have hssl : ss.length ≤ 20 := HZr.out.1
    have hkdl : kd ≤ 9223372036854775807 := HZr.out.2
    by_cases hall : knownK kd = true ∧ grp4 gp = true ∧ r4 = true
    · obtain ⟨hk1, hg1, hr1⟩ := hall
      have HRc := Lib.hid (show RcOk ⟨kd, gp, ss, sa, sc⟩ by
        unfold knownK at hk1
        rw [Bool.and_eq_true, decide_eq_true_iff, decide_eq_true_iff] at hk1
        obtain ⟨u1, u2⟩ := HR4.out.1 hr1
        exact ⟨hk1.1, hk1.2, hg1, u1, u2⟩)
      have hgz := grp4_size hg1
      go_upto_region 9 with (first
        | (go_at_call 153; (with_reducible refine (known_is kd _).mono ?_); rw [hk1]; rintro e wq ⟨rfl, rfl⟩)
        | (go_at_call 75; (with_reducible refine (isGroup_4 gp _).mono ?_); rw [hg1]; rintro e w8 ⟨rfl, g8⟩; have X9 := Lib.hid (X8.out.below g8); have G9 := Lib.hid (G7.out.trans (Past.of_below (R := R) (b := b) g8 (by omega))); have W9 := Lib.hid (W7.out.below g8); have s9 := G9.out.size; clear g8; have c0 := X9.out.get 0 _ rfl; have c1 := X9.out.get 1 _ rfl; have c2 := X9.out.get 2 _ rfl)
        | (go_at_call 141; (with_reducible refine (fit_any _ ss r4 HR4.out (by omega) _ (HSr.out _ G9.out)).mono ?_); rw [hr1]; rintro e wq ⟨rfl, rfl⟩))
      have hkd0 : 0 ≤ kd := by have := HRc.out.1; show 0 ≤ kd; have h2 : (1 : Int) ≤ kd := this; omega
      have hkd6 : kd ≤ 255 := by have h2 : kd ≤ 6 := HRc.out.2.1; omega
      have HS4 := Lib.hid (show ∀ s, s ∈ ss → s.size ≤ 1048576 from fun s hs => by rw [HRc.out.2.2.2.1 s hs]; decide)
      have HZ0 := Lib.hid (show l0.length ≤ 1073741824 by have := HLk.out; omega)
      clear c1 c2
      go_wp2_with (first
        | (go_at_call 139; (with_reducible refine (wbyte kd hkd0 hkd6 HZ0.out _ W9.out (by omega)).mono ?_); rintro e wa ⟨rfl, hWa, hGa⟩; have Wa := Lib.hid hWa; have Ga := Lib.hid (G9.out.trans hGa); have Xa := Lib.hid (X9.out.past hGa hxb (by decide)); have sa1 := Ga.out.size; have HZa := Lib.hid (show (l0 ++ [UInt8.ofNat kd.toNat]).length ≤ 1073741824 by rw [List.length_append]; have := HLk.out; show _ + 1 ≤ _; omega); clear hWa hGa)
        | (go_at_call 139; (with_reducible refine (wbyte 0 (by decide) (by decide) HZa.out _ Wa.out (by omega)).mono ?_); rintro e wb ⟨rfl, hWb, hGb⟩; have Wb := Lib.hid hWb; have Gb := Lib.hid (Ga.out.trans hGb); have Xb := Lib.hid (Xa.out.past hGb hxb (by decide)); have sb1 := Gb.out.size; have HZb := Lib.hid (show (l0 ++ [UInt8.ofNat kd.toNat] ++ [UInt8.ofNat (0 : Int).toNat]).length ≤ 1073741824 by rw [List.length_append, List.length_append]; have := HLk.out; show _ + 1 + 1 ≤ _; omega); clear hWb hGb; have c2 := Xb.out.get 2 _ rfl)
        | (go_at_call 139; (with_reducible refine (wnum2 ss.length (by omega) HZb.out _ Wb.out (by omega)).mono ?_); rintro e wc ⟨rfl, hWc, hGc⟩; have Wc := Lib.hid hWc; have Gc := Lib.hid (Gb.out.trans hGc); have Xc := Lib.hid (Xb.out.past hGc hxb (by decide)); have sc1 := Gc.out.size; have HZc := Lib.hid (show (l0 ++ [UInt8.ofNat kd.toNat] ++ [UInt8.ofNat (0 : Int).toNat] ++ Pl.be 2 ss.length).length + gp.size ≤ 140737488355328 by rw [List.length_append, List.length_append, List.length_append, Pl.be_length, hgz]; have := HLk.out; show _ + 1 + 1 + 2 + 4 ≤ _; omega); clear hWc hGc; have c1 := Xc.out.get 1 _ rfl)
        | (go_at_call 140; (with_reducible refine (waddr wc.heap.size 1 gp HZc.out (wc.alloc (.cells #[.string gp] 25)) ((Bx.new wc [.string gp] 25).get 0 _ rfl) (Wc.out.below (bbox1 _ _)) (by rw [World.size_alloc]; omega)).mono ?_); rintro e wd ⟨rfl, hWd, hGd⟩; have Wd := Lib.hid hWd; have Gd := Lib.hid ((Gc.out.alloc (by omega) _).trans hGd); have Xd := Lib.hid ((Xc.out.below (bbox1 wc (.cells #[.string gp] 25))).past hGd hxb (by decide)); have sd1 := Gd.out.size; have HZd := Lib.hid (show (l0 ++ [UInt8.ofNat kd.toNat] ++ [UInt8.ofNat (0 : Int).toNat] ++ Pl.be 2 ss.length ++ gp.data.toList).length ≤ 1073741824 by rw [List.length_append, List.length_append, List.length_append, List.length_append, Pl.be_length, size_toList, hgz]; have := HLk.out; show _ + 1 + 1 + 2 + 4 ≤ _; omega); clear hWd hGd; have c2 := Xd.out.get 2 _ rfl)
        | (go_at_call 140; (with_reducible refine (waddrs _ ss HS4.out (by omega) HZd.out _ (HSr.out _ Gd.out) Wd.out (by omega) (fun W hW => HSr.out W (Gd.out.trans hW))).mono ?_); rintro e we ⟨rfl, hWe, hGe⟩; have We := Lib.hid hWe; have Ge := Lib.hid (Gd.out.trans hGe); clear hWe hGe))
      refine ⟨⟨k + 1, by omega, by go_num, ?_, ?_, Ge.out⟩, ?_⟩
      · rw [HTk.out, rcsB_push, ← HL0.out]
        have h := We.out
        unfold rcB
        simp only [List.append_assoc] at h ⊢
        exact h
      · rw [HTk.out]
        intro x hx
        rcases List.mem_append.1 hx with hx | hx
        · exact HOk.out x hx
        · rw [List.mem_singleton.1 hx]; exact HRc.out
      · simp [intOf]; omega
    · have HEnd := Lib.hid (show Below b w w1 from HE0.out.mono (by have := HBb.out; omega))
      have hlow : ∀ W, Past R b w1 W → Below w.heap.size w W := fun W hW => HE0.out.trans (hW.to_below (by have := HBb.out; omega) (by have := HBb.out; omega))
      have HLow := Lib.hid hlow
      clear hlow HEnd
      rcases hk1 : knownK kd with _ | _
      · go_wp2_with (go_at_call 153; (with_reducible refine (known_is kd _).mono ?_); rw [hk1]; rintro e wq ⟨rfl, rfl⟩)
        go_ret2
        exact ⟨.inl rfl, HLow.out _ G7.out⟩
      · rcases hg1 : grp4 gp with _ | _
        · go_wp2_with (first
            | (go_at_call 153; (with_reducible refine (known_is kd _).mono ?_); rw [hk1]; rintro e wq ⟨rfl, rfl⟩)
            | (go_at_call 75; (with_reducible refine (isGroup_4 gp _).mono ?_); rw [hg1]; rintro e w8 ⟨rfl, g8⟩; have G9 := Lib.hid (G7.out.trans (Past.of_below (R := R) (b := b) g8 (by omega))); clear g8))
          go_ret2
          exact ⟨.inl rfl, HLow.out _ G9.out⟩
        · have hr1 : r4 = false := by
            rcases h : r4 with _ | _
            · rfl
            · exact absurd ⟨hk1, hg1, h⟩ hall
          go_wp2_with (first
            | (go_at_call 153; (with_reducible refine (known_is kd _).mono ?_); rw [hk1]; rintro e wq ⟨rfl, rfl⟩)
            | (go_at_call 75; (with_reducible refine (isGroup_4 gp _).mono ?_); rw [hg1]; rintro e w8 ⟨rfl, g8⟩; have X9 := Lib.hid (X8.out.below g8); have G9 := Lib.hid (G7.out.trans (Past.of_below (R := R) (b := b) g8 (by omega))); have s9 := G9.out.size; clear g8; have c0 := X9.out.get 0 _ rfl; have c1 := X9.out.get 1 _ rfl; have c2 := X9.out.get 2 _ rfl)
            | (go_at_call 141; (with_reducible refine (fit_any _ ss r4 HR4.out (by omega) _ (HSr.out _ G9.out)).mono ?_); rw [hr1]; rintro e wq ⟨rfl, rfl⟩))
          go_ret2
          exact ⟨.inl rfl, HLow.out _ G9.out⟩
  · have he : k = l.length := by omega
    subst he
    have HLow := Lib.hid (show Below w.heap.size w wr from HE0.out.trans (HG.out.to_below (by have := HBb.out; omega) (by have := HBb.out; omega)))
    have HWe := Lib.hid (show Wr R b (rcsB l) false wr by have := HWr.out; rwa [List.take_length] at this)
    have HOe := Lib.hid (show ∀ r, r ∈ l → RcOk r by have := HOk.out; rwa [List.take_length] at this)
    have HS := Lib.hid (wr_string R b (rcsB l) false wr HWe.out (by omega))
    have hRwr : w.heap.size ≤ R := by have := HBb.out; omega
    clear HWr HOk
    go_wp2_with (go_at_call 65; (with_reducible refine HS.out.mono ?_); rintro e wf ⟨rfl, gf⟩; have GF := Lib.hid gf; clear gf)
    go_ret2
    exact ⟨.inr ⟨HOe.out, rfl⟩, HLow.out.trans (GF.out.mono hRwr)⟩
end Go.Proofs.YticdmepplfgdiaaGreatDoor
end
section
namespace Go.Proofs.YticdmepplfgdiaaGreatDoor
open Go.RowKit
set_option maxRecDepth 100000 in
set_option maxHeartbeats 8000000 in
theorem tell_a {b n0 : Nat} (group : ByteArray) (mx : Int) (q : Bool) (ro ev : Int) (sa ra : Option Addr) (n sc : Nat) (rs : List Rc) (rc : Nat) (w : World) (hv : ∀ W, Below n0 w W → Rcs W (.slice ra rs.length rc) rs) (hn : n0 ≤ b) (hl : rs.length ≤ 20) (hz : ∀ r, r ∈ rs → r.ss.length ≤ 20 ∧ r.kind ≤ 9223372036854775807) (h : Wr0 b w) :
    Calls Tryz.prog 63 #[.pointer (some ⟨b, 0, none⟩), .agg #[.int .i64 2, .int .i64 3, .string group, .int .i64 mx, .bool q, .int .i64 ro, .int .i64 ev, .slice sa n sc, .slice ra rs.length rc]] w fun e w' => e = .returned (.tuple #[]) ∧ ∃ R l bd, Wr R b l bd w' ∧ R ≤ w'.heap.size ∧ w.heap.size ≤ R ∧ 1 ≤ l.length ∧ l.length ≤ 2199023255552 ∧ (bd = false → group.toList.isEmpty = true ∧ bareB mx q ro ev n 0 = true ∧ (∀ r, r ∈ rs → RcOk r) ∧ l = [34, 0, 0, 0, 0, 0] ++ Pl.be 2 rs.length ++ rcsB rs) ∧ Past w.heap.size b w w' := by
  have hbw := h.lt
  have HO1 := Lib.hid (h.below (bbox1 w (.cells #[.int .i64 2, .int .i64 3, .string group, .int .i64 mx, .bool q, .int .i64 ro, .int .i64 ev, .slice sa n sc, .slice ra rs.length rc] 53)))
  have HX1 := Lib.hid (Bt.new w [.int .i64 2, .int .i64 3, .string group, .int .i64 mx, .bool q, .int .i64 ro, .int .i64 ev, .slice sa n sc, .slice ra rs.length rc] 53)
  have HE1 := Lib.hid (bbox1 w (.cells #[.int .i64 2, .int .i64 3, .string group, .int .i64 mx, .bool q, .int .i64 ro, .int .i64 ev, .slice sa n sc, .slice ra rs.length rc] 53))
  have HV := Lib.hid hv
  have HZ := Lib.hid hz
  clear hv hz
  clear h
  go_enter Tryz.func63, Tryz.ntmps63
  go_upto_region 1 with fail
  obtain ⟨nb, hnb⟩ : ∃ x, w.heap.size = x := ⟨_, rfl⟩
  change Code.wp _ _ _ _ (w.alloc (.cells #[.int .i64 2, .int .i64 3, .string group, .int .i64 mx, .bool q, .int .i64 ro, .int .i64 ev, .slice sa n sc, .slice ra rs.length rc] 53))
  generalize w.alloc (.cells #[.int .i64 2, .int .i64 3, .string group, .int .i64 mx, .bool q, .int .i64 ro, .int .i64 ev, .slice sa n sc, .slice ra rs.length rc] 53) = w1 at HO1 HX1 HE1 ⊢
  have HX := Lib.hid (show Bt w1 nb [.int .i64 2, .int .i64 3, .string group, .int .i64 mx, .bool q, .int .i64 ro, .int .i64 ev, .slice sa n sc, .slice ra rs.length rc] 53 by rw [← hnb]; exact HX1.out)
  rw [hnb]
  have HNB := Lib.hid hnb
  have hnb2 : nb ≠ b := by omega
  have s1 := HE1.out.size
  clear HX1 hnb
  have c0 := HX.out.get 0 _ rfl
  have c1 := HX.out.get 1 _ rfl
  have c2 := HX.out.get 2 _ rfl
  have c3 := HX.out.get 3 _ rfl
  have c4 := HX.out.get 4 _ rfl
  have c5 := HX.out.get 5 _ rfl
  have c6 := HX.out.get 6 _ rfl
  have c7 := HX.out.get 7 _ rfl
  have c8 := HX.out.get 8 _ rfl
  go_upto_region 3 with fail
  have D2 := Lib.hid (Bt.new w1 [.int .i64 2, .int .i64 3, .string group, .int .i64 mx, .bool q, .int .i64 ro, .int .i64 ev, .slice sa n sc, .slice ra rs.length rc] 53)
  have E2 := Lib.hid (bbox1 w1 (.cells #[.int .i64 2, .int .i64 3, .string group, .int .i64 mx, .bool q, .int .i64 ro, .int .i64 ev, .slice sa n sc, .slice ra rs.length rc] 53))
  obtain ⟨pb, hpb⟩ : ∃ x, w1.heap.size = x := ⟨_, rfl⟩
  change Code.wp _ _ _ _ (w1.alloc (.cells #[.int .i64 2, .int .i64 3, .string group, .int .i64 mx, .bool q, .int .i64 ro, .int .i64 ev, .slice sa n sc, .slice ra rs.length rc] 53))
  generalize w1.alloc (.cells #[.int .i64 2, .int .i64 3, .string group, .int .i64 mx, .bool q, .int .i64 ro, .int .i64 ev, .slice sa n sc, .slice ra rs.length rc] 53) = w2 at D2 E2 ⊢
  have D3 := Lib.hid (show Bt w2 pb [.int .i64 2, .int .i64 3, .string group, .int .i64 mx, .bool q, .int .i64 ro, .int .i64 ev, .slice sa n sc, .slice ra rs.length rc] 53 by rw [← hpb]; exact D2.out)
  rw [hpb]
  have hpw : w1.heap.size ≤ pb := by omega
  have hpb2 : pb ≠ b := by omega
  clear D2 hpb c0 c1 c2 c3 c4 c5 c6 c7 c8
  have d8 := D3.out.get 8 _ rfl
  have df : w2.frozen? ⟨pb, 8, none⟩ = false := Lib.frozen_of_heap D3.out 8
  go_upto_region 5 with fail
  have D4 := Lib.hid (show Bt (w2.setCell ⟨pb, 8, none⟩ (.slice none 0 0)) pb [.int .i64 2, .int .i64 3, .string group, .int .i64 mx, .bool q, .int .i64 ro, .int .i64 ev, .slice sa n sc, .slice none 0 0] 53 by have h := D3.out; unfold Bt at h ⊢; simp [World.setCell, Array.getElem?_modify, h])
  have E3 := Lib.hid (show Below w1.heap.size w1 (w2.setCell ⟨pb, 8, none⟩ (.slice none 0 0)) from E2.out.setCell (p := ⟨pb, 8, none⟩) (by show w1.heap.size ≤ pb; omega) _)
  generalize w2.setCell ⟨pb, 8, none⟩ (.slice none 0 0) = w3 at D4 E3 ⊢
  have HX3 := Lib.hid (HX.out.below E3.out)
  have HO3 := Lib.hid (HO1.out.below E3.out)
  have s3 := E3.out.size
  obtain ⟨R, hR⟩ : ∃ x, w3.heap.size = x := ⟨_, rfl⟩
  have HRR := Lib.hid hR
  have hRw : R ≤ w3.heap.size := by omega
  have hwR := Lib.hid (show w.heap.size ≤ R by omega)
  have HW := Lib.hid (HO3.out.wr R)
  have hpR : pb < R := by have := D4.out.lt; omega
  have hnR : nb < R := by have := HX3.out.lt; omega
  have HPw := Lib.hid (show Past w.heap.size b w w3 from (Past.of_below HE1.out (Nat.le_refl _)).trans (Past.of_below (R := w.heap.size) E3.out (by omega)))
  clear hR d8 df D3 E2
  have c0 := HX3.out.get 0 _ rfl
  have c1 := HX3.out.get 1 _ rfl
  have HB := Lib.hid (show Calls Tryz.prog 143 #[.slice ra rs.length rc, .int .i64 4] w3 fun e w' => ∃ (bs : ByteArray) (er : Int), e = .returned (.tuple #[.string bs, .int .i64 er]) ∧ (er = 1 ∨ (er = 0 ∧ (∀ r, r ∈ rs → RcOk r) ∧ bs = ⟨(rcsB rs).toArray⟩)) ∧ bs.size ≤ 5000 ∧ Below w3.heap.size w3 w' by
    refine (body_any (n0 := n0) _ rs hl HZ.out w3 (fun W hW => HV.out W (((HE1.out.trans (E3.out.mono s1)).mono (show n0 ≤ w.heap.size by omega)).trans hW)) (by omega)).mono ?_
    rintro e w' ⟨rfl | ⟨hok, rfl⟩, g⟩
    · exact ⟨⟨#[]⟩, 1, rfl, .inl rfl, by decide, g⟩
    · refine ⟨_, 0, rfl, .inr ⟨rfl, hok, rfl⟩, ?_, g⟩
      have h1 := rcsB_len rs hok
      show (rcsB rs).toArray.size ≤ 5000
      rw [List.size_toArray]
      omega)
  go_upto_region 7 with (go_at_call 143; (with_reducible refine HB.out.mono ?_); rintro e w4 ⟨bs, er, rfl, her, hbs, g4⟩; have G4 := Lib.hid g4; have HEr := Lib.hid her; have HBs := Lib.hid hbs; clear g4 her hbs)
  have W4 := Lib.hid (HW.out.below G4.out)
  have X4 := Lib.hid (HX3.out.below G4.out)
  have D5 := Lib.hid (D4.out.below G4.out)
  have P4 := Lib.hid (HPw.out.trans (Past.of_below (R := w.heap.size) G4.out (by omega)))
  have s4 := G4.out.size
  clear c0 c1 HB
  have c2 := X4.out.get 2 _ rfl
  have d0 := D5.out.get 0 _ rfl
  have d1 := D5.out.get 1 _ rfl
  have d2 := D5.out.get 2 _ rfl
  have d3 := D5.out.get 3 _ rfl
  have d4 := D5.out.get 4 _ rfl
  have d5 := D5.out.get 5 _ rfl
  have d6 := D5.out.get 6 _ rfl
  have d7 := D5.out.get 7 _ rfl
  have d8 := D5.out.get 8 _ rfl
  have f2 := W4.out.cell2
  have ff := W4.out.frozen
  obtain ⟨r, hr⟩ : ∃ r, r = bareB mx q ro ev n 0 := ⟨_, rfl⟩
  have HBa := Lib.hid (show Calls Tryz.prog 142 #[.agg #[.int .i64 2, .int .i64 3, .string group, .int .i64 mx, .bool q, .int .i64 ro, .int .i64 ev, .slice sa n sc, .slice none 0 0]] w4 fun e w' => e = .returned (.bool r) ∧ Below w4.heap.size w4 w' by rw [hr]; exact bare_is 2 3 group mx q ro ev sa none n sc 0 0 w4)
  have HRr := Lib.hid hr
  clear hr
  go_cut [] (fun wx => ∃ bd, Wr R b [] bd wx ∧ (bd = false → er = 0 ∧ group.toList.isEmpty = true ∧ r = true) ∧ Past R b w4 wx)
  case first =>
    rcases HEr.out with he | ⟨he, -, -⟩
    · subst he
      go_wp2
      go_meet
      exact ⟨true, W4.out.mark true, (fun e => by cases e), (Past.refl R b w4).setCell rfl _⟩
    · subst he
      rcases hge : group.toList.isEmpty with _ | _
      · go_wp2
        go_meet
        exact ⟨true, W4.out.mark true, (fun e => by cases e), (Past.refl R b w4).setCell rfl _⟩
      · go_wp2_with ((with_reducible refine HBa.out.mono ?_); rintro e w5 ⟨rfl, g5⟩; have W5 := Lib.hid (W4.out.below g5); have G5 := Lib.hid (Past.of_below (R := R) (b := b) g5 (by omega)); have f2 := W5.out.cell2; have ff := W5.out.frozen; clear g5)
        go_meet
        exact ⟨!r, W5.out.mark _, fun e => ⟨(by first | rfl | trivial), (by first | rfl | trivial), by simpa using e⟩, G5.out.setCell rfl _⟩
  case rest =>
    obtain ⟨bd7, hW7, hp7, hG7⟩ := hcut
    rename World => w7
    have W7 := Lib.hid hW7
    have P7 := Lib.hid hp7
    have G7 := Lib.hid (P4.out.trans (hG7.mono (show w.heap.size ≤ R from hwR.out)))
    have s7 := hG7.size
    clear hW7 hp7 hG7 c2 f2 ff HBa d0 d1 d2 d3 d4 d5 d6 d7 d8
    have hmin : min (rs.length : Int) 30 = (rs.length : Int) := by omega
    have HZ8 := Lib.hid (show ([34, 0, 0, 0, 0, 0] : List UInt8).length ≤ 1073741824 by decide)
    go_wp2_with (first
      | (go_at_call 70; (with_reducible refine (wr_write R b [] bd7 ⟨#[34, 0, 0, 0, 0, 0]⟩ _ W7.out (by decide) (by omega)).mono ?_); rintro e w8 ⟨rfl, hW8, hG8⟩; have W8 := Lib.hid (show Wr R b [34, 0, 0, 0, 0, 0] bd7 w8 from hW8); have G8 := Lib.hid (G7.out.trans (hG8.mono (show w.heap.size ≤ R from hwR.out))); have s8 := hG8.size; clear hW8 hG8)
      | (go_at_call 139; (with_reducible refine (wnum2 rs.length (by omega) HZ8.out _ W8.out (by omega)).mono ?_); rintro e w9 ⟨rfl, hW9, hG9⟩; have W9 := Lib.hid hW9; have G9 := Lib.hid (G8.out.trans (hG9.mono (show w.heap.size ≤ R from hwR.out))); have s9 := hG9.size; have HZ9 := Lib.hid (show ([34, 0, 0, 0, 0, 0] ++ Pl.be 2 rs.length).length + bs.size ≤ 6000 by rw [List.length_append, Pl.be_length]; have := HBs.out; show 6 + 2 + _ ≤ _; omega); have HY9 := Lib.hid (Nat.le_trans HZ9.out (show 6000 ≤ 140737488355328 by decide)); clear hW9 hG9)
      | (go_at_call 70; (with_reducible refine (wr_write R b _ bd7 bs _ W9.out HY9.out (by omega)).mono ?_); rintro e w10 ⟨rfl, hW10, hG10⟩; have W10 := Lib.hid hW10; have G10 := Lib.hid (G9.out.trans (hG10.mono (show w.heap.size ≤ R from hwR.out))); have s10 := hG10.size; clear hW10 hG10))
    refine bodyPost_ret (v := .tuple #[]) (by simp [results, Tryz.results63, go_sem]) rfl ?_
    refine ⟨rfl, R, _, bd7, W10.out, by omega, hwR.out, ?_, ?_, fun e => ?_, G10.out⟩
    · simp only [List.length_append]
      show 1 ≤ 6 + _ + _
      omega
    · rw [List.length_append, size_toList]
      have := HZ9.out
      omega
    · obtain ⟨he, hge, hre⟩ := P7.out e
      rcases HEr.out with h1 | ⟨-, hok, hbs⟩
      · rw [he] at h1; cases h1
      · refine ⟨hge, by rw [← HRr.out]; exact hre, hok, ?_⟩
        rw [hbs]
        rfl
end Go.Proofs.YticdmepplfgdiaaGreatDoor
end
section
namespace Go.Proofs.YticdmepplfgdiaaGreatDoor
open Go.RowKit
set_option maxRecDepth 100000 in
set_option maxHeartbeats 8000000 in
theorem tell_b1 {b : Nat} (group : ByteArray) (mx : Int) (q : Bool) (ro ev : Int) (sa ra : Option Addr) (n sc : Nat) (rs : List Rc) (rc : Nat) (hgs : group.size ≤ 1048576) (w : World) (h : Wr0 b w) :
    Calls Tryz.prog 63 #[.pointer (some ⟨b, 0, none⟩), .agg #[.int .i64 2, .int .i64 1, .string group, .int .i64 mx, .bool q, .int .i64 ro, .int .i64 ev, .slice sa n sc, .slice ra rs.length rc]] w fun e w' => e = .returned (.tuple #[]) ∧ ∃ R l bd, Wr R b l bd w' ∧ R ≤ w'.heap.size ∧ w.heap.size ≤ R ∧ 1 ≤ l.length ∧ l.length ≤ 2199023255552 ∧ (bd = false → grp4 group = true ∧ bareB mx q ro ev n rs.length = true ∧ l = [18, 0, 0, 0] ++ group.data.toList) ∧ Past w.heap.size b w w' := by
  have hbw := h.lt
  have HO1 := Lib.hid (h.below (bbox1 w (.cells #[.int .i64 2, .int .i64 1, .string group, .int .i64 mx, .bool q, .int .i64 ro, .int .i64 ev, .slice sa n sc, .slice ra rs.length rc] 53)))
  have HX1 := Lib.hid (Bt.new w [.int .i64 2, .int .i64 1, .string group, .int .i64 mx, .bool q, .int .i64 ro, .int .i64 ev, .slice sa n sc, .slice ra rs.length rc] 53)
  have HE1 := Lib.hid (bbox1 w (.cells #[.int .i64 2, .int .i64 1, .string group, .int .i64 mx, .bool q, .int .i64 ro, .int .i64 ev, .slice sa n sc, .slice ra rs.length rc] 53))
  clear h
  go_enter Tryz.func63, Tryz.ntmps63
  go_upto_region 1 with fail
  obtain ⟨nb, hnb⟩ : ∃ x, w.heap.size = x := ⟨_, rfl⟩
  change Code.wp _ _ _ _ (w.alloc (.cells #[.int .i64 2, .int .i64 1, .string group, .int .i64 mx, .bool q, .int .i64 ro, .int .i64 ev, .slice sa n sc, .slice ra rs.length rc] 53))
  generalize w.alloc (.cells #[.int .i64 2, .int .i64 1, .string group, .int .i64 mx, .bool q, .int .i64 ro, .int .i64 ev, .slice sa n sc, .slice ra rs.length rc] 53) = w1 at HO1 HX1 HE1 ⊢
  have HX := Lib.hid (show Bt w1 nb [.int .i64 2, .int .i64 1, .string group, .int .i64 mx, .bool q, .int .i64 ro, .int .i64 ev, .slice sa n sc, .slice ra rs.length rc] 53 by rw [← hnb]; exact HX1.out)
  rw [hnb]
  have HNB := Lib.hid hnb
  have hnb2 : nb ≠ b := by omega
  have s1 := HE1.out.size
  clear HX1 hnb
  have c0 := HX.out.get 0 _ rfl
  have c1 := HX.out.get 1 _ rfl
  have c2 := HX.out.get 2 _ rfl
  have c3 := HX.out.get 3 _ rfl
  have c4 := HX.out.get 4 _ rfl
  have c5 := HX.out.get 5 _ rfl
  have c6 := HX.out.get 6 _ rfl
  have c7 := HX.out.get 7 _ rfl
  have c8 := HX.out.get 8 _ rfl
  go_upto_region 3 with fail
  have D2 := Lib.hid (Bt.new w1 [.int .i64 2, .int .i64 1, .string group, .int .i64 mx, .bool q, .int .i64 ro, .int .i64 ev, .slice sa n sc, .slice ra rs.length rc] 53)
  have E2 := Lib.hid (bbox1 w1 (.cells #[.int .i64 2, .int .i64 1, .string group, .int .i64 mx, .bool q, .int .i64 ro, .int .i64 ev, .slice sa n sc, .slice ra rs.length rc] 53))
  obtain ⟨pb, hpb⟩ : ∃ x, w1.heap.size = x := ⟨_, rfl⟩
  change Code.wp _ _ _ _ (w1.alloc (.cells #[.int .i64 2, .int .i64 1, .string group, .int .i64 mx, .bool q, .int .i64 ro, .int .i64 ev, .slice sa n sc, .slice ra rs.length rc] 53))
  generalize w1.alloc (.cells #[.int .i64 2, .int .i64 1, .string group, .int .i64 mx, .bool q, .int .i64 ro, .int .i64 ev, .slice sa n sc, .slice ra rs.length rc] 53) = w2 at D2 E2 ⊢
  have D3 := Lib.hid (show Bt w2 pb [.int .i64 2, .int .i64 1, .string group, .int .i64 mx, .bool q, .int .i64 ro, .int .i64 ev, .slice sa n sc, .slice ra rs.length rc] 53 by rw [← hpb]; exact D2.out)
  rw [hpb]
  have hpw : w1.heap.size ≤ pb := by omega
  have hpb2 : pb ≠ b := by omega
  clear D2 hpb c0 c1 c2 c3 c4 c5 c6 c7 c8
  have d8 := D3.out.get 8 _ rfl
  have df : w2.frozen? ⟨pb, 8, none⟩ = false := Lib.frozen_of_heap D3.out 8
  go_upto_region 5 with fail
  have D4 := Lib.hid (show Bt (w2.setCell ⟨pb, 8, none⟩ (.slice none 0 0)) pb [.int .i64 2, .int .i64 1, .string group, .int .i64 mx, .bool q, .int .i64 ro, .int .i64 ev, .slice sa n sc, .slice none 0 0] 53 by have h := D3.out; unfold Bt at h ⊢; simp [World.setCell, Array.getElem?_modify, h])
  have E3 := Lib.hid (show Below w1.heap.size w1 (w2.setCell ⟨pb, 8, none⟩ (.slice none 0 0)) from E2.out.setCell (p := ⟨pb, 8, none⟩) (by show w1.heap.size ≤ pb; omega) _)
  generalize w2.setCell ⟨pb, 8, none⟩ (.slice none 0 0) = w3 at D4 E3 ⊢
  have HX3 := Lib.hid (HX.out.below E3.out)
  have HO3 := Lib.hid (HO1.out.below E3.out)
  have s3 := E3.out.size
  obtain ⟨R, hR⟩ : ∃ x, w3.heap.size = x := ⟨_, rfl⟩
  have HRR := Lib.hid hR
  have hRw : R ≤ w3.heap.size := by omega
  have hwR := Lib.hid (show w.heap.size ≤ R by omega)
  have HW := Lib.hid (HO3.out.wr R)
  have hpR : pb < R := by have := D4.out.lt; omega
  have hnR : nb < R := by have := HX3.out.lt; omega
  have HPw := Lib.hid (show Past w.heap.size b w w3 from (Past.of_below HE1.out (Nat.le_refl _)).trans (Past.of_below (R := w.heap.size) E3.out (by omega)))
  clear hR d8 df D3 E2
  have c0 := HX3.out.get 0 _ rfl
  have c1 := HX3.out.get 1 _ rfl
  go_upto_region 17 with (go_at_call 70; (with_reducible refine (wr_write R b [] false ⟨#[18]⟩ _ HW.out (by decide) (by omega)).mono ?_); rintro e w6 ⟨rfl, hW6, hG6⟩; have W6 := Lib.hid (show Wr R b [18] false w6 from hW6); have G6 := Lib.hid (HPw.out.trans (hG6.mono (show w.heap.size ≤ R from hwR.out))); have X6 := Lib.hid (HX3.out.past hG6 hnb2 (by decide)); have s6 := hG6.size; clear hW6 hG6)
  clear c0 c1
  have c0 := X6.out.get 0 _ rfl
  have c1 := X6.out.get 1 _ rfl
  have c2 := X6.out.get 2 _ rfl
  have c3 := X6.out.get 3 _ rfl
  have c4 := X6.out.get 4 _ rfl
  have c5 := X6.out.get 5 _ rfl
  have c6 := X6.out.get 6 _ rfl
  have c7 := X6.out.get 7 _ rfl
  have c8 := X6.out.get 8 _ rfl
  have f2 := W6.out.cell2
  have ff := W6.out.frozen
  obtain ⟨r, hr⟩ : ∃ r, r = bareB mx q ro ev n rs.length := ⟨_, rfl⟩
  have HBa := Lib.hid (fun (W : World) => (show Calls Tryz.prog 142 #[.agg #[.int .i64 2, .int .i64 1, .string group, .int .i64 mx, .bool q, .int .i64 ro, .int .i64 ev, .slice sa n sc, .slice ra rs.length rc]] W fun e w' => e = .returned (.bool r) ∧ Below W.heap.size W w' by rw [hr]; exact bare_is 2 1 group mx q ro ev sa ra n sc rs.length rc W))
  have HRr := Lib.hid hr
  clear hr
  go_cut [] (fun wx => ∃ bd, Wr R b [18] bd wx ∧ (bd = false → grp4 group = true ∧ r = true) ∧ Past R b w6 wx)
  case first =>
    rcases hg1 : grp4 group with _ | _
    · go_wp2_with (go_at_call 75; (with_reducible refine (isGroup_4 group _).mono ?_); rw [hg1]; rintro e w8 ⟨rfl, g8⟩; have W8 := Lib.hid (W6.out.below g8); have X8 := Lib.hid (X6.out.below g8); have G8 := Lib.hid (Past.of_below (R := R) (b := b) g8 (by omega)); have s8 := g8.size; clear g8; have f2 := W8.out.cell2; have ff := W8.out.frozen; have c0 := X8.out.get 0 _ rfl; have c1 := X8.out.get 1 _ rfl; have c2 := X8.out.get 2 _ rfl; have c3 := X8.out.get 3 _ rfl; have c4 := X8.out.get 4 _ rfl; have c5 := X8.out.get 5 _ rfl; have c6 := X8.out.get 6 _ rfl; have c7 := X8.out.get 7 _ rfl; have c8 := X8.out.get 8 _ rfl)
      go_meet
      exact ⟨true, W8.out.mark true, (fun e => by cases e), G8.out.setCell rfl _⟩
    · go_wp2_with (first | (go_at_call 75; (with_reducible refine (isGroup_4 group _).mono ?_); rw [hg1]; rintro e w8 ⟨rfl, g8⟩; have W8 := Lib.hid (W6.out.below g8); have X8 := Lib.hid (X6.out.below g8); have G8 := Lib.hid (Past.of_below (R := R) (b := b) g8 (by omega)); have s8 := g8.size; clear g8; have f2 := W8.out.cell2; have ff := W8.out.frozen; have c0 := X8.out.get 0 _ rfl; have c1 := X8.out.get 1 _ rfl; have c2 := X8.out.get 2 _ rfl; have c3 := X8.out.get 3 _ rfl; have c4 := X8.out.get 4 _ rfl; have c5 := X8.out.get 5 _ rfl; have c6 := X8.out.get 6 _ rfl; have c7 := X8.out.get 7 _ rfl; have c8 := X8.out.get 8 _ rfl) | (go_at_call 142; (with_reducible refine (HBa.out _).mono ?_); rintro e w9 ⟨rfl, g9⟩; have W9 := Lib.hid (W8.out.below g9); have G9 := Lib.hid (G8.out.trans (Past.of_below (R := R) (b := b) g9 (by omega))); clear g9; have f2 := W9.out.cell2; have ff := W9.out.frozen))
      go_meet
      exact ⟨!r, W9.out.mark _, fun e => ⟨(by first | rfl | trivial), by simpa using e⟩, G9.out.setCell rfl _⟩
  case rest =>
    obtain ⟨bd7, hW7, hp7, hG7⟩ := hcut
    rename World => w7
    have W7 := Lib.hid hW7
    have P7 := Lib.hid hp7
    have X7 := Lib.hid (X6.out.past hG7 hnb2 (by decide))
    have G7 := Lib.hid (G6.out.trans (hG7.mono (show w.heap.size ≤ R from hwR.out)))
    have s7 := hG7.size
    clear hW7 hp7 hG7 f2 ff HBa c0 c1 c2 c3 c4 c5 c6 c7 c8
    have HZ7 := Lib.hid (show ([18] : List UInt8).length ≤ 1073741824 by decide)
    go_wp2_with (first
      | (go_at_call 139; (with_reducible refine (wput03 HZ7.out _ W7.out (by omega)).mono ?_); rintro e w9 ⟨rfl, hW9, hG9⟩; have W9 := Lib.hid hW9; have G9 := Lib.hid (G7.out.trans (hG9.mono (show w.heap.size ≤ R from hwR.out))); have X9 := Lib.hid (X7.out.past hG9 hnb2 (by decide)); have s9 := hG9.size; have HZ9 := Lib.hid (show ([18] ++ [0, 0, 0] : List UInt8).length + group.size ≤ 2000000 by rw [List.length_append]; show 1 + 3 + _ ≤ _; omega); have HY9 := Lib.hid (Nat.le_trans HZ9.out (show 2000000 ≤ 140737488355328 by decide)); clear hW9 hG9; have c2 := X9.out.get 2 _ rfl)
      | (go_at_call 140; (with_reducible refine (waddr w9.heap.size 1 group HY9.out (w9.alloc (.cells #[.string group] 25)) ((Bx.new w9 [.string group] 25).get 0 _ rfl) (W9.out.below (bbox1 _ _)) (by rw [World.size_alloc]; omega)).mono ?_); rintro e w10 ⟨rfl, hW10, hG10⟩; have W10 := Lib.hid hW10; have G10 := Lib.hid ((G9.out.alloc (by omega) (.cells #[.string group] 25)).trans (hG10.mono (show w.heap.size ≤ R from hwR.out))); have s10 := hG10.size; rw [World.size_alloc] at s10; clear hW10 hG10))
    go_end0
    refine ⟨rfl, R, _, bd7, W10.out, by omega, hwR.out, ?_, ?_, fun e => ?_, G10.out⟩
    · simp only [List.length_append]
      show 1 ≤ 1 + 3 + _
      omega
    · rw [List.length_append, size_toList]
      have := HZ9.out
      omega
    · obtain ⟨hg1, hre⟩ := P7.out e
      exact ⟨hg1, by rw [← HRr.out]; exact hre, rfl⟩
set_option maxRecDepth 100000 in
set_option maxHeartbeats 8000000 in
theorem tell_b2 {b : Nat} (group : ByteArray) (mx : Int) (q : Bool) (ro ev : Int) (sa ra : Option Addr) (n sc : Nat) (rs : List Rc) (rc : Nat) (hgs : group.size ≤ 1048576) (w : World) (h : Wr0 b w) :
    Calls Tryz.prog 63 #[.pointer (some ⟨b, 0, none⟩), .agg #[.int .i64 2, .int .i64 2, .string group, .int .i64 mx, .bool q, .int .i64 ro, .int .i64 ev, .slice sa n sc, .slice ra rs.length rc]] w fun e w' => e = .returned (.tuple #[]) ∧ ∃ R l bd, Wr R b l bd w' ∧ R ≤ w'.heap.size ∧ w.heap.size ≤ R ∧ 1 ≤ l.length ∧ l.length ≤ 2199023255552 ∧ (bd = false → grp4 group = true ∧ bareB mx q ro ev n rs.length = true ∧ l = [22, 0, 0, 0] ++ group.data.toList) ∧ Past w.heap.size b w w' := by
  have hbw := h.lt
  have HO1 := Lib.hid (h.below (bbox1 w (.cells #[.int .i64 2, .int .i64 2, .string group, .int .i64 mx, .bool q, .int .i64 ro, .int .i64 ev, .slice sa n sc, .slice ra rs.length rc] 53)))
  have HX1 := Lib.hid (Bt.new w [.int .i64 2, .int .i64 2, .string group, .int .i64 mx, .bool q, .int .i64 ro, .int .i64 ev, .slice sa n sc, .slice ra rs.length rc] 53)
  have HE1 := Lib.hid (bbox1 w (.cells #[.int .i64 2, .int .i64 2, .string group, .int .i64 mx, .bool q, .int .i64 ro, .int .i64 ev, .slice sa n sc, .slice ra rs.length rc] 53))
  clear h
  go_enter Tryz.func63, Tryz.ntmps63
  go_upto_region 1 with fail
  obtain ⟨nb, hnb⟩ : ∃ x, w.heap.size = x := ⟨_, rfl⟩
  change Code.wp _ _ _ _ (w.alloc (.cells #[.int .i64 2, .int .i64 2, .string group, .int .i64 mx, .bool q, .int .i64 ro, .int .i64 ev, .slice sa n sc, .slice ra rs.length rc] 53))
  generalize w.alloc (.cells #[.int .i64 2, .int .i64 2, .string group, .int .i64 mx, .bool q, .int .i64 ro, .int .i64 ev, .slice sa n sc, .slice ra rs.length rc] 53) = w1 at HO1 HX1 HE1 ⊢
  have HX := Lib.hid (show Bt w1 nb [.int .i64 2, .int .i64 2, .string group, .int .i64 mx, .bool q, .int .i64 ro, .int .i64 ev, .slice sa n sc, .slice ra rs.length rc] 53 by rw [← hnb]; exact HX1.out)
  rw [hnb]
  have HNB := Lib.hid hnb
  have hnb2 : nb ≠ b := by omega
  have s1 := HE1.out.size
  clear HX1 hnb
  have c0 := HX.out.get 0 _ rfl
  have c1 := HX.out.get 1 _ rfl
  have c2 := HX.out.get 2 _ rfl
  have c3 := HX.out.get 3 _ rfl
  have c4 := HX.out.get 4 _ rfl
  have c5 := HX.out.get 5 _ rfl
  have c6 := HX.out.get 6 _ rfl
  have c7 := HX.out.get 7 _ rfl
  have c8 := HX.out.get 8 _ rfl
  go_upto_region 3 with fail
  have D2 := Lib.hid (Bt.new w1 [.int .i64 2, .int .i64 2, .string group, .int .i64 mx, .bool q, .int .i64 ro, .int .i64 ev, .slice sa n sc, .slice ra rs.length rc] 53)
  have E2 := Lib.hid (bbox1 w1 (.cells #[.int .i64 2, .int .i64 2, .string group, .int .i64 mx, .bool q, .int .i64 ro, .int .i64 ev, .slice sa n sc, .slice ra rs.length rc] 53))
  obtain ⟨pb, hpb⟩ : ∃ x, w1.heap.size = x := ⟨_, rfl⟩
  change Code.wp _ _ _ _ (w1.alloc (.cells #[.int .i64 2, .int .i64 2, .string group, .int .i64 mx, .bool q, .int .i64 ro, .int .i64 ev, .slice sa n sc, .slice ra rs.length rc] 53))
  generalize w1.alloc (.cells #[.int .i64 2, .int .i64 2, .string group, .int .i64 mx, .bool q, .int .i64 ro, .int .i64 ev, .slice sa n sc, .slice ra rs.length rc] 53) = w2 at D2 E2 ⊢
  have D3 := Lib.hid (show Bt w2 pb [.int .i64 2, .int .i64 2, .string group, .int .i64 mx, .bool q, .int .i64 ro, .int .i64 ev, .slice sa n sc, .slice ra rs.length rc] 53 by rw [← hpb]; exact D2.out)
  rw [hpb]
  have hpw : w1.heap.size ≤ pb := by omega
  have hpb2 : pb ≠ b := by omega
  clear D2 hpb c0 c1 c2 c3 c4 c5 c6 c7 c8
  have d8 := D3.out.get 8 _ rfl
  have df : w2.frozen? ⟨pb, 8, none⟩ = false := Lib.frozen_of_heap D3.out 8
  go_upto_region 5 with fail
  have D4 := Lib.hid (show Bt (w2.setCell ⟨pb, 8, none⟩ (.slice none 0 0)) pb [.int .i64 2, .int .i64 2, .string group, .int .i64 mx, .bool q, .int .i64 ro, .int .i64 ev, .slice sa n sc, .slice none 0 0] 53 by have h := D3.out; unfold Bt at h ⊢; simp [World.setCell, Array.getElem?_modify, h])
  have E3 := Lib.hid (show Below w1.heap.size w1 (w2.setCell ⟨pb, 8, none⟩ (.slice none 0 0)) from E2.out.setCell (p := ⟨pb, 8, none⟩) (by show w1.heap.size ≤ pb; omega) _)
  generalize w2.setCell ⟨pb, 8, none⟩ (.slice none 0 0) = w3 at D4 E3 ⊢
  have HX3 := Lib.hid (HX.out.below E3.out)
  have HO3 := Lib.hid (HO1.out.below E3.out)
  have s3 := E3.out.size
  obtain ⟨R, hR⟩ : ∃ x, w3.heap.size = x := ⟨_, rfl⟩
  have HRR := Lib.hid hR
  have hRw : R ≤ w3.heap.size := by omega
  have hwR := Lib.hid (show w.heap.size ≤ R by omega)
  have HW := Lib.hid (HO3.out.wr R)
  have hpR : pb < R := by have := D4.out.lt; omega
  have hnR : nb < R := by have := HX3.out.lt; omega
  have HPw := Lib.hid (show Past w.heap.size b w w3 from (Past.of_below HE1.out (Nat.le_refl _)).trans (Past.of_below (R := w.heap.size) E3.out (by omega)))
  clear hR d8 df D3 E2
  have c0 := HX3.out.get 0 _ rfl
  have c1 := HX3.out.get 1 _ rfl
  go_upto_region 17 with (go_at_call 70; (with_reducible refine (wr_write R b [] false ⟨#[22]⟩ _ HW.out (by decide) (by omega)).mono ?_); rintro e w6 ⟨rfl, hW6, hG6⟩; have W6 := Lib.hid (show Wr R b [22] false w6 from hW6); have G6 := Lib.hid (HPw.out.trans (hG6.mono (show w.heap.size ≤ R from hwR.out))); have X6 := Lib.hid (HX3.out.past hG6 hnb2 (by decide)); have s6 := hG6.size; clear hW6 hG6)
  clear c0 c1
  have c0 := X6.out.get 0 _ rfl
  have c1 := X6.out.get 1 _ rfl
  have c2 := X6.out.get 2 _ rfl
  have c3 := X6.out.get 3 _ rfl
  have c4 := X6.out.get 4 _ rfl
  have c5 := X6.out.get 5 _ rfl
  have c6 := X6.out.get 6 _ rfl
  have c7 := X6.out.get 7 _ rfl
  have c8 := X6.out.get 8 _ rfl
  have f2 := W6.out.cell2
  have ff := W6.out.frozen
  obtain ⟨r, hr⟩ : ∃ r, r = bareB mx q ro ev n rs.length := ⟨_, rfl⟩
  have HBa := Lib.hid (fun (W : World) => (show Calls Tryz.prog 142 #[.agg #[.int .i64 2, .int .i64 2, .string group, .int .i64 mx, .bool q, .int .i64 ro, .int .i64 ev, .slice sa n sc, .slice ra rs.length rc]] W fun e w' => e = .returned (.bool r) ∧ Below W.heap.size W w' by rw [hr]; exact bare_is 2 2 group mx q ro ev sa ra n sc rs.length rc W))
  have HRr := Lib.hid hr
  clear hr
  go_cut [] (fun wx => ∃ bd, Wr R b [22] bd wx ∧ (bd = false → grp4 group = true ∧ r = true) ∧ Past R b w6 wx)
  case first =>
    rcases hg1 : grp4 group with _ | _
    · go_wp2_with (go_at_call 75; (with_reducible refine (isGroup_4 group _).mono ?_); rw [hg1]; rintro e w8 ⟨rfl, g8⟩; have W8 := Lib.hid (W6.out.below g8); have X8 := Lib.hid (X6.out.below g8); have G8 := Lib.hid (Past.of_below (R := R) (b := b) g8 (by omega)); have s8 := g8.size; clear g8; have f2 := W8.out.cell2; have ff := W8.out.frozen; have c0 := X8.out.get 0 _ rfl; have c1 := X8.out.get 1 _ rfl; have c2 := X8.out.get 2 _ rfl; have c3 := X8.out.get 3 _ rfl; have c4 := X8.out.get 4 _ rfl; have c5 := X8.out.get 5 _ rfl; have c6 := X8.out.get 6 _ rfl; have c7 := X8.out.get 7 _ rfl; have c8 := X8.out.get 8 _ rfl)
      go_meet
      exact ⟨true, W8.out.mark true, (fun e => by cases e), G8.out.setCell rfl _⟩
    · go_wp2_with (first | (go_at_call 75; (with_reducible refine (isGroup_4 group _).mono ?_); rw [hg1]; rintro e w8 ⟨rfl, g8⟩; have W8 := Lib.hid (W6.out.below g8); have X8 := Lib.hid (X6.out.below g8); have G8 := Lib.hid (Past.of_below (R := R) (b := b) g8 (by omega)); have s8 := g8.size; clear g8; have f2 := W8.out.cell2; have ff := W8.out.frozen; have c0 := X8.out.get 0 _ rfl; have c1 := X8.out.get 1 _ rfl; have c2 := X8.out.get 2 _ rfl; have c3 := X8.out.get 3 _ rfl; have c4 := X8.out.get 4 _ rfl; have c5 := X8.out.get 5 _ rfl; have c6 := X8.out.get 6 _ rfl; have c7 := X8.out.get 7 _ rfl; have c8 := X8.out.get 8 _ rfl) | (go_at_call 142; (with_reducible refine (HBa.out _).mono ?_); rintro e w9 ⟨rfl, g9⟩; have W9 := Lib.hid (W8.out.below g9); have G9 := Lib.hid (G8.out.trans (Past.of_below (R := R) (b := b) g9 (by omega))); clear g9; have f2 := W9.out.cell2; have ff := W9.out.frozen))
      go_meet
      exact ⟨!r, W9.out.mark _, fun e => ⟨(by first | rfl | trivial), by simpa using e⟩, G9.out.setCell rfl _⟩
  case rest =>
    obtain ⟨bd7, hW7, hp7, hG7⟩ := hcut
    rename World => w7
    have W7 := Lib.hid hW7
    have P7 := Lib.hid hp7
    have X7 := Lib.hid (X6.out.past hG7 hnb2 (by decide))
    have G7 := Lib.hid (G6.out.trans (hG7.mono (show w.heap.size ≤ R from hwR.out)))
    have s7 := hG7.size
    clear hW7 hp7 hG7 f2 ff HBa c0 c1 c2 c3 c4 c5 c6 c7 c8
    have HZ7 := Lib.hid (show ([22] : List UInt8).length ≤ 1073741824 by decide)
    go_wp2_with (first
      | (go_at_call 139; (with_reducible refine (wput03 HZ7.out _ W7.out (by omega)).mono ?_); rintro e w9 ⟨rfl, hW9, hG9⟩; have W9 := Lib.hid hW9; have G9 := Lib.hid (G7.out.trans (hG9.mono (show w.heap.size ≤ R from hwR.out))); have X9 := Lib.hid (X7.out.past hG9 hnb2 (by decide)); have s9 := hG9.size; have HZ9 := Lib.hid (show ([22] ++ [0, 0, 0] : List UInt8).length + group.size ≤ 2000000 by rw [List.length_append]; show 1 + 3 + _ ≤ _; omega); have HY9 := Lib.hid (Nat.le_trans HZ9.out (show 2000000 ≤ 140737488355328 by decide)); clear hW9 hG9; have c2 := X9.out.get 2 _ rfl)
      | (go_at_call 140; (with_reducible refine (waddr w9.heap.size 1 group HY9.out (w9.alloc (.cells #[.string group] 25)) ((Bx.new w9 [.string group] 25).get 0 _ rfl) (W9.out.below (bbox1 _ _)) (by rw [World.size_alloc]; omega)).mono ?_); rintro e w10 ⟨rfl, hW10, hG10⟩; have W10 := Lib.hid hW10; have G10 := Lib.hid ((G9.out.alloc (by omega) (.cells #[.string group] 25)).trans (hG10.mono (show w.heap.size ≤ R from hwR.out))); have s10 := hG10.size; rw [World.size_alloc] at s10; clear hW10 hG10))
    go_end0
    refine ⟨rfl, R, _, bd7, W10.out, by omega, hwR.out, ?_, ?_, fun e => ?_, G10.out⟩
    · simp only [List.length_append]
      show 1 ≤ 1 + 3 + _
      omega
    · rw [List.length_append, size_toList]
      have := HZ9.out
      omega
    · obtain ⟨hg1, hre⟩ := P7.out e
      exact ⟨hg1, by rw [← HRr.out]; exact hre, rfl⟩
set_option maxRecDepth 100000 in
set_option maxHeartbeats 8000000 in
theorem tell_b3 {b : Nat} (group : ByteArray) (mx : Int) (q : Bool) (ro ev : Int) (sa ra : Option Addr) (n sc : Nat) (rs : List Rc) (rc : Nat) (hgs : group.size ≤ 1048576) (w : World) (h : Wr0 b w) :
    Calls Tryz.prog 63 #[.pointer (some ⟨b, 0, none⟩), .agg #[.int .i64 3, .int .i64 2, .string group, .int .i64 mx, .bool q, .int .i64 ro, .int .i64 ev, .slice sa n sc, .slice ra rs.length rc]] w fun e w' => e = .returned (.tuple #[]) ∧ ∃ R l bd, Wr R b l bd w' ∧ R ≤ w'.heap.size ∧ w.heap.size ≤ R ∧ 1 ≤ l.length ∧ l.length ≤ 2199023255552 ∧ (bd = false → grp4 group = true ∧ bareB mx q ro ev n rs.length = true ∧ l = [23, 0, 0, 0] ++ group.data.toList) ∧ Past w.heap.size b w w' := by
  have hbw := h.lt
  have HO1 := Lib.hid (h.below (bbox1 w (.cells #[.int .i64 3, .int .i64 2, .string group, .int .i64 mx, .bool q, .int .i64 ro, .int .i64 ev, .slice sa n sc, .slice ra rs.length rc] 53)))
  have HX1 := Lib.hid (Bt.new w [.int .i64 3, .int .i64 2, .string group, .int .i64 mx, .bool q, .int .i64 ro, .int .i64 ev, .slice sa n sc, .slice ra rs.length rc] 53)
  have HE1 := Lib.hid (bbox1 w (.cells #[.int .i64 3, .int .i64 2, .string group, .int .i64 mx, .bool q, .int .i64 ro, .int .i64 ev, .slice sa n sc, .slice ra rs.length rc] 53))
  clear h
  go_enter Tryz.func63, Tryz.ntmps63
  go_upto_region 1 with fail
  obtain ⟨nb, hnb⟩ : ∃ x, w.heap.size = x := ⟨_, rfl⟩
  change Code.wp _ _ _ _ (w.alloc (.cells #[.int .i64 3, .int .i64 2, .string group, .int .i64 mx, .bool q, .int .i64 ro, .int .i64 ev, .slice sa n sc, .slice ra rs.length rc] 53))
  generalize w.alloc (.cells #[.int .i64 3, .int .i64 2, .string group, .int .i64 mx, .bool q, .int .i64 ro, .int .i64 ev, .slice sa n sc, .slice ra rs.length rc] 53) = w1 at HO1 HX1 HE1 ⊢
  have HX := Lib.hid (show Bt w1 nb [.int .i64 3, .int .i64 2, .string group, .int .i64 mx, .bool q, .int .i64 ro, .int .i64 ev, .slice sa n sc, .slice ra rs.length rc] 53 by rw [← hnb]; exact HX1.out)
  rw [hnb]
  have HNB := Lib.hid hnb
  have hnb2 : nb ≠ b := by omega
  have s1 := HE1.out.size
  clear HX1 hnb
  have c0 := HX.out.get 0 _ rfl
  have c1 := HX.out.get 1 _ rfl
  have c2 := HX.out.get 2 _ rfl
  have c3 := HX.out.get 3 _ rfl
  have c4 := HX.out.get 4 _ rfl
  have c5 := HX.out.get 5 _ rfl
  have c6 := HX.out.get 6 _ rfl
  have c7 := HX.out.get 7 _ rfl
  have c8 := HX.out.get 8 _ rfl
  go_upto_region 3 with fail
  have D2 := Lib.hid (Bt.new w1 [.int .i64 3, .int .i64 2, .string group, .int .i64 mx, .bool q, .int .i64 ro, .int .i64 ev, .slice sa n sc, .slice ra rs.length rc] 53)
  have E2 := Lib.hid (bbox1 w1 (.cells #[.int .i64 3, .int .i64 2, .string group, .int .i64 mx, .bool q, .int .i64 ro, .int .i64 ev, .slice sa n sc, .slice ra rs.length rc] 53))
  obtain ⟨pb, hpb⟩ : ∃ x, w1.heap.size = x := ⟨_, rfl⟩
  change Code.wp _ _ _ _ (w1.alloc (.cells #[.int .i64 3, .int .i64 2, .string group, .int .i64 mx, .bool q, .int .i64 ro, .int .i64 ev, .slice sa n sc, .slice ra rs.length rc] 53))
  generalize w1.alloc (.cells #[.int .i64 3, .int .i64 2, .string group, .int .i64 mx, .bool q, .int .i64 ro, .int .i64 ev, .slice sa n sc, .slice ra rs.length rc] 53) = w2 at D2 E2 ⊢
  have D3 := Lib.hid (show Bt w2 pb [.int .i64 3, .int .i64 2, .string group, .int .i64 mx, .bool q, .int .i64 ro, .int .i64 ev, .slice sa n sc, .slice ra rs.length rc] 53 by rw [← hpb]; exact D2.out)
  rw [hpb]
  have hpw : w1.heap.size ≤ pb := by omega
  have hpb2 : pb ≠ b := by omega
  clear D2 hpb c0 c1 c2 c3 c4 c5 c6 c7 c8
  have d8 := D3.out.get 8 _ rfl
  have df : w2.frozen? ⟨pb, 8, none⟩ = false := Lib.frozen_of_heap D3.out 8
  go_upto_region 5 with fail
  have D4 := Lib.hid (show Bt (w2.setCell ⟨pb, 8, none⟩ (.slice none 0 0)) pb [.int .i64 3, .int .i64 2, .string group, .int .i64 mx, .bool q, .int .i64 ro, .int .i64 ev, .slice sa n sc, .slice none 0 0] 53 by have h := D3.out; unfold Bt at h ⊢; simp [World.setCell, Array.getElem?_modify, h])
  have E3 := Lib.hid (show Below w1.heap.size w1 (w2.setCell ⟨pb, 8, none⟩ (.slice none 0 0)) from E2.out.setCell (p := ⟨pb, 8, none⟩) (by show w1.heap.size ≤ pb; omega) _)
  generalize w2.setCell ⟨pb, 8, none⟩ (.slice none 0 0) = w3 at D4 E3 ⊢
  have HX3 := Lib.hid (HX.out.below E3.out)
  have HO3 := Lib.hid (HO1.out.below E3.out)
  have s3 := E3.out.size
  obtain ⟨R, hR⟩ : ∃ x, w3.heap.size = x := ⟨_, rfl⟩
  have HRR := Lib.hid hR
  have hRw : R ≤ w3.heap.size := by omega
  have hwR := Lib.hid (show w.heap.size ≤ R by omega)
  have HW := Lib.hid (HO3.out.wr R)
  have hpR : pb < R := by have := D4.out.lt; omega
  have hnR : nb < R := by have := HX3.out.lt; omega
  have HPw := Lib.hid (show Past w.heap.size b w w3 from (Past.of_below HE1.out (Nat.le_refl _)).trans (Past.of_below (R := w.heap.size) E3.out (by omega)))
  clear hR d8 df D3 E2
  have c0 := HX3.out.get 0 _ rfl
  have c1 := HX3.out.get 1 _ rfl
  go_upto_region 17 with (go_at_call 70; (with_reducible refine (wr_write R b [] false ⟨#[23]⟩ _ HW.out (by decide) (by omega)).mono ?_); rintro e w6 ⟨rfl, hW6, hG6⟩; have W6 := Lib.hid (show Wr R b [23] false w6 from hW6); have G6 := Lib.hid (HPw.out.trans (hG6.mono (show w.heap.size ≤ R from hwR.out))); have X6 := Lib.hid (HX3.out.past hG6 hnb2 (by decide)); have s6 := hG6.size; clear hW6 hG6)
  clear c0 c1
  have c0 := X6.out.get 0 _ rfl
  have c1 := X6.out.get 1 _ rfl
  have c2 := X6.out.get 2 _ rfl
  have c3 := X6.out.get 3 _ rfl
  have c4 := X6.out.get 4 _ rfl
  have c5 := X6.out.get 5 _ rfl
  have c6 := X6.out.get 6 _ rfl
  have c7 := X6.out.get 7 _ rfl
  have c8 := X6.out.get 8 _ rfl
  have f2 := W6.out.cell2
  have ff := W6.out.frozen
  obtain ⟨r, hr⟩ : ∃ r, r = bareB mx q ro ev n rs.length := ⟨_, rfl⟩
  have HBa := Lib.hid (fun (W : World) => (show Calls Tryz.prog 142 #[.agg #[.int .i64 3, .int .i64 2, .string group, .int .i64 mx, .bool q, .int .i64 ro, .int .i64 ev, .slice sa n sc, .slice ra rs.length rc]] W fun e w' => e = .returned (.bool r) ∧ Below W.heap.size W w' by rw [hr]; exact bare_is 3 2 group mx q ro ev sa ra n sc rs.length rc W))
  have HRr := Lib.hid hr
  clear hr
  go_cut [] (fun wx => ∃ bd, Wr R b [23] bd wx ∧ (bd = false → grp4 group = true ∧ r = true) ∧ Past R b w6 wx)
  case first =>
    rcases hg1 : grp4 group with _ | _
    · go_wp2_with (go_at_call 75; (with_reducible refine (isGroup_4 group _).mono ?_); rw [hg1]; rintro e w8 ⟨rfl, g8⟩; have W8 := Lib.hid (W6.out.below g8); have X8 := Lib.hid (X6.out.below g8); have G8 := Lib.hid (Past.of_below (R := R) (b := b) g8 (by omega)); have s8 := g8.size; clear g8; have f2 := W8.out.cell2; have ff := W8.out.frozen; have c0 := X8.out.get 0 _ rfl; have c1 := X8.out.get 1 _ rfl; have c2 := X8.out.get 2 _ rfl; have c3 := X8.out.get 3 _ rfl; have c4 := X8.out.get 4 _ rfl; have c5 := X8.out.get 5 _ rfl; have c6 := X8.out.get 6 _ rfl; have c7 := X8.out.get 7 _ rfl; have c8 := X8.out.get 8 _ rfl)
      go_meet
      exact ⟨true, W8.out.mark true, (fun e => by cases e), G8.out.setCell rfl _⟩
    · go_wp2_with (first | (go_at_call 75; (with_reducible refine (isGroup_4 group _).mono ?_); rw [hg1]; rintro e w8 ⟨rfl, g8⟩; have W8 := Lib.hid (W6.out.below g8); have X8 := Lib.hid (X6.out.below g8); have G8 := Lib.hid (Past.of_below (R := R) (b := b) g8 (by omega)); have s8 := g8.size; clear g8; have f2 := W8.out.cell2; have ff := W8.out.frozen; have c0 := X8.out.get 0 _ rfl; have c1 := X8.out.get 1 _ rfl; have c2 := X8.out.get 2 _ rfl; have c3 := X8.out.get 3 _ rfl; have c4 := X8.out.get 4 _ rfl; have c5 := X8.out.get 5 _ rfl; have c6 := X8.out.get 6 _ rfl; have c7 := X8.out.get 7 _ rfl; have c8 := X8.out.get 8 _ rfl) | (go_at_call 142; (with_reducible refine (HBa.out _).mono ?_); rintro e w9 ⟨rfl, g9⟩; have W9 := Lib.hid (W8.out.below g9); have G9 := Lib.hid (G8.out.trans (Past.of_below (R := R) (b := b) g9 (by omega))); clear g9; have f2 := W9.out.cell2; have ff := W9.out.frozen))
      go_meet
      exact ⟨!r, W9.out.mark _, fun e => ⟨(by first | rfl | trivial), by simpa using e⟩, G9.out.setCell rfl _⟩
  case rest =>
    obtain ⟨bd7, hW7, hp7, hG7⟩ := hcut
    rename World => w7
    have W7 := Lib.hid hW7
    have P7 := Lib.hid hp7
    have X7 := Lib.hid (X6.out.past hG7 hnb2 (by decide))
    have G7 := Lib.hid (G6.out.trans (hG7.mono (show w.heap.size ≤ R from hwR.out)))
    have s7 := hG7.size
    clear hW7 hp7 hG7 f2 ff HBa c0 c1 c2 c3 c4 c5 c6 c7 c8
    have HZ7 := Lib.hid (show ([23] : List UInt8).length ≤ 1073741824 by decide)
    go_wp2_with (first
      | (go_at_call 139; (with_reducible refine (wput03 HZ7.out _ W7.out (by omega)).mono ?_); rintro e w9 ⟨rfl, hW9, hG9⟩; have W9 := Lib.hid hW9; have G9 := Lib.hid (G7.out.trans (hG9.mono (show w.heap.size ≤ R from hwR.out))); have X9 := Lib.hid (X7.out.past hG9 hnb2 (by decide)); have s9 := hG9.size; have HZ9 := Lib.hid (show ([23] ++ [0, 0, 0] : List UInt8).length + group.size ≤ 2000000 by rw [List.length_append]; show 1 + 3 + _ ≤ _; omega); have HY9 := Lib.hid (Nat.le_trans HZ9.out (show 2000000 ≤ 140737488355328 by decide)); clear hW9 hG9; have c2 := X9.out.get 2 _ rfl)
      | (go_at_call 140; (with_reducible refine (waddr w9.heap.size 1 group HY9.out (w9.alloc (.cells #[.string group] 25)) ((Bx.new w9 [.string group] 25).get 0 _ rfl) (W9.out.below (bbox1 _ _)) (by rw [World.size_alloc]; omega)).mono ?_); rintro e w10 ⟨rfl, hW10, hG10⟩; have W10 := Lib.hid hW10; have G10 := Lib.hid ((G9.out.alloc (by omega) (.cells #[.string group] 25)).trans (hG10.mono (show w.heap.size ≤ R from hwR.out))); have s10 := hG10.size; rw [World.size_alloc] at s10; clear hW10 hG10))
    go_end0
    refine ⟨rfl, R, _, bd7, W10.out, by omega, hwR.out, ?_, ?_, fun e => ?_, G10.out⟩
    · simp only [List.length_append]
      show 1 ≤ 1 + 3 + _
      omega
    · rw [List.length_append, size_toList]
      have := HZ9.out
      omega
    · obtain ⟨hg1, hre⟩ := P7.out e
      exact ⟨hg1, by rw [← HRr.out]; exact hre, rfl⟩
end Go.Proofs.YticdmepplfgdiaaGreatDoor
end
section
namespace Go.Proofs.YticdmepplfgdiaaGreatDoor
open Go.RowKit
set_option maxRecDepth 100000 in
set_option maxHeartbeats 8000000 in
theorem tell_x2 {b : Nat} (ver : Int) (h1 : (ver == 1) = false) (h2 : (ver == 2) = false) (h3 : (ver == 3) = false) (group : ByteArray) (mx : Int) (q : Bool) (ro ev : Int) (sa ra : Option Addr) (n sc : Nat) (rs : List Rc) (rc : Nat) (hgs : group.size ≤ 1048576) (w : World) (h : Wr0 b w) :
    Calls Tryz.prog 63 #[.pointer (some ⟨b, 0, none⟩), .agg #[.int .i64 2, .int .i64 ver, .string group, .int .i64 mx, .bool q, .int .i64 ro, .int .i64 ev, .slice sa n sc, .slice ra rs.length rc]] w fun e w' => e = .returned (.tuple #[]) ∧ ∃ R l bd, Wr R b l bd w' ∧ R ≤ w'.heap.size ∧ w.heap.size ≤ R ∧ 1 ≤ l.length ∧ l.length ≤ 2199023255552 ∧ (bd = true) ∧ Past w.heap.size b w w' := by
  have hbw := h.lt
  have HO1 := Lib.hid (h.below (bbox1 w (.cells #[.int .i64 2, .int .i64 ver, .string group, .int .i64 mx, .bool q, .int .i64 ro, .int .i64 ev, .slice sa n sc, .slice ra rs.length rc] 53)))
  have HX1 := Lib.hid (Bt.new w [.int .i64 2, .int .i64 ver, .string group, .int .i64 mx, .bool q, .int .i64 ro, .int .i64 ev, .slice sa n sc, .slice ra rs.length rc] 53)
  have HE1 := Lib.hid (bbox1 w (.cells #[.int .i64 2, .int .i64 ver, .string group, .int .i64 mx, .bool q, .int .i64 ro, .int .i64 ev, .slice sa n sc, .slice ra rs.length rc] 53))
  clear h
  go_enter Tryz.func63, Tryz.ntmps63
  go_upto_region 1 with fail
  obtain ⟨nb, hnb⟩ : ∃ x, w.heap.size = x := ⟨_, rfl⟩
  change Code.wp _ _ _ _ (w.alloc (.cells #[.int .i64 2, .int .i64 ver, .string group, .int .i64 mx, .bool q, .int .i64 ro, .int .i64 ev, .slice sa n sc, .slice ra rs.length rc] 53))
  generalize w.alloc (.cells #[.int .i64 2, .int .i64 ver, .string group, .int .i64 mx, .bool q, .int .i64 ro, .int .i64 ev, .slice sa n sc, .slice ra rs.length rc] 53) = w1 at HO1 HX1 HE1 ⊢
  have HX := Lib.hid (show Bt w1 nb [.int .i64 2, .int .i64 ver, .string group, .int .i64 mx, .bool q, .int .i64 ro, .int .i64 ev, .slice sa n sc, .slice ra rs.length rc] 53 by rw [← hnb]; exact HX1.out)
  rw [hnb]
  have HNB := Lib.hid hnb
  have hnb2 : nb ≠ b := by omega
  have s1 := HE1.out.size
  clear HX1 hnb
  have c0 := HX.out.get 0 _ rfl
  have c1 := HX.out.get 1 _ rfl
  have c2 := HX.out.get 2 _ rfl
  have c3 := HX.out.get 3 _ rfl
  have c4 := HX.out.get 4 _ rfl
  have c5 := HX.out.get 5 _ rfl
  have c6 := HX.out.get 6 _ rfl
  have c7 := HX.out.get 7 _ rfl
  have c8 := HX.out.get 8 _ rfl
  go_upto_region 3 with fail
  have D2 := Lib.hid (Bt.new w1 [.int .i64 2, .int .i64 ver, .string group, .int .i64 mx, .bool q, .int .i64 ro, .int .i64 ev, .slice sa n sc, .slice ra rs.length rc] 53)
  have E2 := Lib.hid (bbox1 w1 (.cells #[.int .i64 2, .int .i64 ver, .string group, .int .i64 mx, .bool q, .int .i64 ro, .int .i64 ev, .slice sa n sc, .slice ra rs.length rc] 53))
  obtain ⟨pb, hpb⟩ : ∃ x, w1.heap.size = x := ⟨_, rfl⟩
  change Code.wp _ _ _ _ (w1.alloc (.cells #[.int .i64 2, .int .i64 ver, .string group, .int .i64 mx, .bool q, .int .i64 ro, .int .i64 ev, .slice sa n sc, .slice ra rs.length rc] 53))
  generalize w1.alloc (.cells #[.int .i64 2, .int .i64 ver, .string group, .int .i64 mx, .bool q, .int .i64 ro, .int .i64 ev, .slice sa n sc, .slice ra rs.length rc] 53) = w2 at D2 E2 ⊢
  have D3 := Lib.hid (show Bt w2 pb [.int .i64 2, .int .i64 ver, .string group, .int .i64 mx, .bool q, .int .i64 ro, .int .i64 ev, .slice sa n sc, .slice ra rs.length rc] 53 by rw [← hpb]; exact D2.out)
  rw [hpb]
  have hpw : w1.heap.size ≤ pb := by omega
  have hpb2 : pb ≠ b := by omega
  clear D2 hpb c0 c1 c2 c3 c4 c5 c6 c7 c8
  have d8 := D3.out.get 8 _ rfl
  have df : w2.frozen? ⟨pb, 8, none⟩ = false := Lib.frozen_of_heap D3.out 8
  go_upto_region 5 with fail
  have D4 := Lib.hid (show Bt (w2.setCell ⟨pb, 8, none⟩ (.slice none 0 0)) pb [.int .i64 2, .int .i64 ver, .string group, .int .i64 mx, .bool q, .int .i64 ro, .int .i64 ev, .slice sa n sc, .slice none 0 0] 53 by have h := D3.out; unfold Bt at h ⊢; simp [World.setCell, Array.getElem?_modify, h])
  have E3 := Lib.hid (show Below w1.heap.size w1 (w2.setCell ⟨pb, 8, none⟩ (.slice none 0 0)) from E2.out.setCell (p := ⟨pb, 8, none⟩) (by show w1.heap.size ≤ pb; omega) _)
  generalize w2.setCell ⟨pb, 8, none⟩ (.slice none 0 0) = w3 at D4 E3 ⊢
  have HX3 := Lib.hid (HX.out.below E3.out)
  have HO3 := Lib.hid (HO1.out.below E3.out)
  have s3 := E3.out.size
  obtain ⟨R, hR⟩ : ∃ x, w3.heap.size = x := ⟨_, rfl⟩
  have HRR := Lib.hid hR
  have hRw : R ≤ w3.heap.size := by omega
  have hwR := Lib.hid (show w.heap.size ≤ R by omega)
  have HW := Lib.hid (HO3.out.wr R)
  have hpR : pb < R := by have := D4.out.lt; omega
  have hnR : nb < R := by have := HX3.out.lt; omega
  have HPw := Lib.hid (show Past w.heap.size b w w3 from (Past.of_below HE1.out (Nat.le_refl _)).trans (Past.of_below (R := w.heap.size) E3.out (by omega)))
  clear hR d8 df D3 E2
  have c0 := HX3.out.get 0 _ rfl
  have c1 := HX3.out.get 1 _ rfl
  have f2 := HW.out.cell2
  have ff := HW.out.frozen
  go_upto_region 17 with fail
  have W5 := Lib.hid (HW.out.mark true)
  have G5 := Lib.hid (HPw.out.setCell (p := ⟨b, 2, none⟩) rfl (.bool true))
  have X5 := Lib.hid (HX3.out.past (R := R) ((Past.refl R b w3).setCell (p := ⟨b, 2, none⟩) rfl (.bool true)) hnb2 (by decide))
  have s5 : w3.heap.size ≤ (w3.setCell ⟨b, 2, none⟩ (.bool true)).heap.size := by rw [World.size_setCell]; exact Nat.le_refl _
  generalize w3.setCell ⟨b, 2, none⟩ (.bool true) = w5 at W5 G5 X5 s5 ⊢
  clear f2 ff c0 c1
  have f2 := W5.out.cell2
  have ff := W5.out.frozen
  go_upto_region 18 with fail
  have W7 := Lib.hid (W5.out.mark true)
  have G7 := Lib.hid (G5.out.setCell (p := ⟨b, 2, none⟩) rfl (.bool true))
  have X7 := Lib.hid (X5.out.past (R := R) ((Past.refl R b w5).setCell (p := ⟨b, 2, none⟩) rfl (.bool true)) hnb2 (by decide))
  have s7 : w5.heap.size ≤ (w5.setCell ⟨b, 2, none⟩ (.bool true)).heap.size := by rw [World.size_setCell]; exact Nat.le_refl _
  generalize w5.setCell ⟨b, 2, none⟩ (.bool true) = w7 at W7 G7 X7 s7 ⊢
  clear f2 ff
  have HZ7 := Lib.hid (show ([] : List UInt8).length ≤ 1073741824 by decide)
  go_wp2_with (first
    | (go_at_call 139; (with_reducible refine (wput03 HZ7.out _ W7.out (by omega)).mono ?_); rintro e w9 ⟨rfl, hW9, hG9⟩; have W9 := Lib.hid hW9; have G9 := Lib.hid (G7.out.trans (hG9.mono (show w.heap.size ≤ R from hwR.out))); have X9 := Lib.hid (X7.out.past hG9 hnb2 (by decide)); have s9 := hG9.size; have HZ9 := Lib.hid (show ([] ++ [0, 0, 0] : List UInt8).length + group.size ≤ 2000000 by rw [List.length_append]; show 0 + 3 + _ ≤ _; omega); have HY9 := Lib.hid (Nat.le_trans HZ9.out (show 2000000 ≤ 140737488355328 by decide)); clear hW9 hG9; have c2 := X9.out.get 2 _ rfl)
    | (go_at_call 140; (with_reducible refine (waddr w9.heap.size 1 group HY9.out (w9.alloc (.cells #[.string group] 25)) ((Bx.new w9 [.string group] 25).get 0 _ rfl) (W9.out.below (bbox1 _ _)) (by rw [World.size_alloc]; omega)).mono ?_); rintro e w10 ⟨rfl, hW10, hG10⟩; have W10 := Lib.hid hW10; have G10 := Lib.hid ((G9.out.alloc (by omega) (.cells #[.string group] 25)).trans (hG10.mono (show w.heap.size ≤ R from hwR.out))); have s10 := hG10.size; rw [World.size_alloc] at s10; clear hW10 hG10))
  go_end0
  refine ⟨rfl, R, _, true, W10.out, by omega, hwR.out, ?_, ?_, rfl, G10.out⟩
  · simp only [List.length_append]
    show 1 ≤ 0 + 3 + _
    omega
  · rw [List.length_append, size_toList]
    have := HZ9.out
    omega
set_option maxRecDepth 100000 in
set_option maxHeartbeats 8000000 in
theorem tell_x3 {b : Nat} (ver : Int) (h2 : (ver == 2) = false) (group : ByteArray) (mx : Int) (q : Bool) (ro ev : Int) (sa ra : Option Addr) (n sc : Nat) (rs : List Rc) (rc : Nat) (hgs : group.size ≤ 1048576) (w : World) (h : Wr0 b w) :
    Calls Tryz.prog 63 #[.pointer (some ⟨b, 0, none⟩), .agg #[.int .i64 3, .int .i64 ver, .string group, .int .i64 mx, .bool q, .int .i64 ro, .int .i64 ev, .slice sa n sc, .slice ra rs.length rc]] w fun e w' => e = .returned (.tuple #[]) ∧ ∃ R l bd, Wr R b l bd w' ∧ R ≤ w'.heap.size ∧ w.heap.size ≤ R ∧ 1 ≤ l.length ∧ l.length ≤ 2199023255552 ∧ (bd = true) ∧ Past w.heap.size b w w' := by
  have hbw := h.lt
  have HO1 := Lib.hid (h.below (bbox1 w (.cells #[.int .i64 3, .int .i64 ver, .string group, .int .i64 mx, .bool q, .int .i64 ro, .int .i64 ev, .slice sa n sc, .slice ra rs.length rc] 53)))
  have HX1 := Lib.hid (Bt.new w [.int .i64 3, .int .i64 ver, .string group, .int .i64 mx, .bool q, .int .i64 ro, .int .i64 ev, .slice sa n sc, .slice ra rs.length rc] 53)
  have HE1 := Lib.hid (bbox1 w (.cells #[.int .i64 3, .int .i64 ver, .string group, .int .i64 mx, .bool q, .int .i64 ro, .int .i64 ev, .slice sa n sc, .slice ra rs.length rc] 53))
  clear h
  go_enter Tryz.func63, Tryz.ntmps63
  go_upto_region 1 with fail
  obtain ⟨nb, hnb⟩ : ∃ x, w.heap.size = x := ⟨_, rfl⟩
  change Code.wp _ _ _ _ (w.alloc (.cells #[.int .i64 3, .int .i64 ver, .string group, .int .i64 mx, .bool q, .int .i64 ro, .int .i64 ev, .slice sa n sc, .slice ra rs.length rc] 53))
  generalize w.alloc (.cells #[.int .i64 3, .int .i64 ver, .string group, .int .i64 mx, .bool q, .int .i64 ro, .int .i64 ev, .slice sa n sc, .slice ra rs.length rc] 53) = w1 at HO1 HX1 HE1 ⊢
  have HX := Lib.hid (show Bt w1 nb [.int .i64 3, .int .i64 ver, .string group, .int .i64 mx, .bool q, .int .i64 ro, .int .i64 ev, .slice sa n sc, .slice ra rs.length rc] 53 by rw [← hnb]; exact HX1.out)
  rw [hnb]
  have HNB := Lib.hid hnb
  have hnb2 : nb ≠ b := by omega
  have s1 := HE1.out.size
  clear HX1 hnb
  have c0 := HX.out.get 0 _ rfl
  have c1 := HX.out.get 1 _ rfl
  have c2 := HX.out.get 2 _ rfl
  have c3 := HX.out.get 3 _ rfl
  have c4 := HX.out.get 4 _ rfl
  have c5 := HX.out.get 5 _ rfl
  have c6 := HX.out.get 6 _ rfl
  have c7 := HX.out.get 7 _ rfl
  have c8 := HX.out.get 8 _ rfl
  go_upto_region 3 with fail
  have D2 := Lib.hid (Bt.new w1 [.int .i64 3, .int .i64 ver, .string group, .int .i64 mx, .bool q, .int .i64 ro, .int .i64 ev, .slice sa n sc, .slice ra rs.length rc] 53)
  have E2 := Lib.hid (bbox1 w1 (.cells #[.int .i64 3, .int .i64 ver, .string group, .int .i64 mx, .bool q, .int .i64 ro, .int .i64 ev, .slice sa n sc, .slice ra rs.length rc] 53))
  obtain ⟨pb, hpb⟩ : ∃ x, w1.heap.size = x := ⟨_, rfl⟩
  change Code.wp _ _ _ _ (w1.alloc (.cells #[.int .i64 3, .int .i64 ver, .string group, .int .i64 mx, .bool q, .int .i64 ro, .int .i64 ev, .slice sa n sc, .slice ra rs.length rc] 53))
  generalize w1.alloc (.cells #[.int .i64 3, .int .i64 ver, .string group, .int .i64 mx, .bool q, .int .i64 ro, .int .i64 ev, .slice sa n sc, .slice ra rs.length rc] 53) = w2 at D2 E2 ⊢
  have D3 := Lib.hid (show Bt w2 pb [.int .i64 3, .int .i64 ver, .string group, .int .i64 mx, .bool q, .int .i64 ro, .int .i64 ev, .slice sa n sc, .slice ra rs.length rc] 53 by rw [← hpb]; exact D2.out)
  rw [hpb]
  have hpw : w1.heap.size ≤ pb := by omega
  have hpb2 : pb ≠ b := by omega
  clear D2 hpb c0 c1 c2 c3 c4 c5 c6 c7 c8
  have d8 := D3.out.get 8 _ rfl
  have df : w2.frozen? ⟨pb, 8, none⟩ = false := Lib.frozen_of_heap D3.out 8
  go_upto_region 5 with fail
  have D4 := Lib.hid (show Bt (w2.setCell ⟨pb, 8, none⟩ (.slice none 0 0)) pb [.int .i64 3, .int .i64 ver, .string group, .int .i64 mx, .bool q, .int .i64 ro, .int .i64 ev, .slice sa n sc, .slice none 0 0] 53 by have h := D3.out; unfold Bt at h ⊢; simp [World.setCell, Array.getElem?_modify, h])
  have E3 := Lib.hid (show Below w1.heap.size w1 (w2.setCell ⟨pb, 8, none⟩ (.slice none 0 0)) from E2.out.setCell (p := ⟨pb, 8, none⟩) (by show w1.heap.size ≤ pb; omega) _)
  generalize w2.setCell ⟨pb, 8, none⟩ (.slice none 0 0) = w3 at D4 E3 ⊢
  have HX3 := Lib.hid (HX.out.below E3.out)
  have HO3 := Lib.hid (HO1.out.below E3.out)
  have s3 := E3.out.size
  obtain ⟨R, hR⟩ : ∃ x, w3.heap.size = x := ⟨_, rfl⟩
  have HRR := Lib.hid hR
  have hRw : R ≤ w3.heap.size := by omega
  have hwR := Lib.hid (show w.heap.size ≤ R by omega)
  have HW := Lib.hid (HO3.out.wr R)
  have hpR : pb < R := by have := D4.out.lt; omega
  have hnR : nb < R := by have := HX3.out.lt; omega
  have HPw := Lib.hid (show Past w.heap.size b w w3 from (Past.of_below HE1.out (Nat.le_refl _)).trans (Past.of_below (R := w.heap.size) E3.out (by omega)))
  clear hR d8 df D3 E2
  have c0 := HX3.out.get 0 _ rfl
  have c1 := HX3.out.get 1 _ rfl
  have f2 := HW.out.cell2
  have ff := HW.out.frozen
  go_upto_region 17 with fail
  have W5 := Lib.hid (HW.out.mark true)
  have G5 := Lib.hid (HPw.out.setCell (p := ⟨b, 2, none⟩) rfl (.bool true))
  have X5 := Lib.hid (HX3.out.past (R := R) ((Past.refl R b w3).setCell (p := ⟨b, 2, none⟩) rfl (.bool true)) hnb2 (by decide))
  have s5 : w3.heap.size ≤ (w3.setCell ⟨b, 2, none⟩ (.bool true)).heap.size := by rw [World.size_setCell]; exact Nat.le_refl _
  generalize w3.setCell ⟨b, 2, none⟩ (.bool true) = w5 at W5 G5 X5 s5 ⊢
  clear f2 ff c0 c1
  have f2 := W5.out.cell2
  have ff := W5.out.frozen
  go_upto_region 18 with fail
  have W7 := Lib.hid (W5.out.mark true)
  have G7 := Lib.hid (G5.out.setCell (p := ⟨b, 2, none⟩) rfl (.bool true))
  have X7 := Lib.hid (X5.out.past (R := R) ((Past.refl R b w5).setCell (p := ⟨b, 2, none⟩) rfl (.bool true)) hnb2 (by decide))
  have s7 : w5.heap.size ≤ (w5.setCell ⟨b, 2, none⟩ (.bool true)).heap.size := by rw [World.size_setCell]; exact Nat.le_refl _
  generalize w5.setCell ⟨b, 2, none⟩ (.bool true) = w7 at W7 G7 X7 s7 ⊢
  clear f2 ff
  have HZ7 := Lib.hid (show ([] : List UInt8).length ≤ 1073741824 by decide)
  go_wp2_with (first
    | (go_at_call 139; (with_reducible refine (wput03 HZ7.out _ W7.out (by omega)).mono ?_); rintro e w9 ⟨rfl, hW9, hG9⟩; have W9 := Lib.hid hW9; have G9 := Lib.hid (G7.out.trans (hG9.mono (show w.heap.size ≤ R from hwR.out))); have X9 := Lib.hid (X7.out.past hG9 hnb2 (by decide)); have s9 := hG9.size; have HZ9 := Lib.hid (show ([] ++ [0, 0, 0] : List UInt8).length + group.size ≤ 2000000 by rw [List.length_append]; show 0 + 3 + _ ≤ _; omega); have HY9 := Lib.hid (Nat.le_trans HZ9.out (show 2000000 ≤ 140737488355328 by decide)); clear hW9 hG9; have c2 := X9.out.get 2 _ rfl)
    | (go_at_call 140; (with_reducible refine (waddr w9.heap.size 1 group HY9.out (w9.alloc (.cells #[.string group] 25)) ((Bx.new w9 [.string group] 25).get 0 _ rfl) (W9.out.below (bbox1 _ _)) (by rw [World.size_alloc]; omega)).mono ?_); rintro e w10 ⟨rfl, hW10, hG10⟩; have W10 := Lib.hid hW10; have G10 := Lib.hid ((G9.out.alloc (by omega) (.cells #[.string group] 25)).trans (hG10.mono (show w.heap.size ≤ R from hwR.out))); have s10 := hG10.size; rw [World.size_alloc] at s10; clear hW10 hG10))
  go_end0
  refine ⟨rfl, R, _, true, W10.out, by omega, hwR.out, ?_, ?_, rfl, G10.out⟩
  · simp only [List.length_append]
    show 1 ≤ 0 + 3 + _
    omega
  · rw [List.length_append, size_toList]
    have := HZ9.out
    omega
set_option maxRecDepth 100000 in
set_option maxHeartbeats 8000000 in
theorem tell_x0 {b : Nat} (kind ver : Int) (k2 : (kind == 2) = false) (k3 : (kind == 3) = false) (group : ByteArray) (mx : Int) (q : Bool) (ro ev : Int) (sa ra : Option Addr) (n sc : Nat) (rs : List Rc) (rc : Nat) (hgs : group.size ≤ 1048576) (w : World) (h : Wr0 b w) :
    Calls Tryz.prog 63 #[.pointer (some ⟨b, 0, none⟩), .agg #[.int .i64 kind, .int .i64 ver, .string group, .int .i64 mx, .bool q, .int .i64 ro, .int .i64 ev, .slice sa n sc, .slice ra rs.length rc]] w fun e w' => e = .returned (.tuple #[]) ∧ ∃ R l bd, Wr R b l bd w' ∧ R ≤ w'.heap.size ∧ w.heap.size ≤ R ∧ 1 ≤ l.length ∧ l.length ≤ 2199023255552 ∧ (bd = true) ∧ Past w.heap.size b w w' := by
  have hbw := h.lt
  have HO1 := Lib.hid (h.below (bbox1 w (.cells #[.int .i64 kind, .int .i64 ver, .string group, .int .i64 mx, .bool q, .int .i64 ro, .int .i64 ev, .slice sa n sc, .slice ra rs.length rc] 53)))
  have HX1 := Lib.hid (Bt.new w [.int .i64 kind, .int .i64 ver, .string group, .int .i64 mx, .bool q, .int .i64 ro, .int .i64 ev, .slice sa n sc, .slice ra rs.length rc] 53)
  have HE1 := Lib.hid (bbox1 w (.cells #[.int .i64 kind, .int .i64 ver, .string group, .int .i64 mx, .bool q, .int .i64 ro, .int .i64 ev, .slice sa n sc, .slice ra rs.length rc] 53))
  clear h
  go_enter Tryz.func63, Tryz.ntmps63
  go_upto_region 1 with fail
  obtain ⟨nb, hnb⟩ : ∃ x, w.heap.size = x := ⟨_, rfl⟩
  change Code.wp _ _ _ _ (w.alloc (.cells #[.int .i64 kind, .int .i64 ver, .string group, .int .i64 mx, .bool q, .int .i64 ro, .int .i64 ev, .slice sa n sc, .slice ra rs.length rc] 53))
  generalize w.alloc (.cells #[.int .i64 kind, .int .i64 ver, .string group, .int .i64 mx, .bool q, .int .i64 ro, .int .i64 ev, .slice sa n sc, .slice ra rs.length rc] 53) = w1 at HO1 HX1 HE1 ⊢
  have HX := Lib.hid (show Bt w1 nb [.int .i64 kind, .int .i64 ver, .string group, .int .i64 mx, .bool q, .int .i64 ro, .int .i64 ev, .slice sa n sc, .slice ra rs.length rc] 53 by rw [← hnb]; exact HX1.out)
  rw [hnb]
  have HNB := Lib.hid hnb
  have hnb2 : nb ≠ b := by omega
  have s1 := HE1.out.size
  clear HX1 hnb
  have c0 := HX.out.get 0 _ rfl
  have c1 := HX.out.get 1 _ rfl
  have c2 := HX.out.get 2 _ rfl
  have c3 := HX.out.get 3 _ rfl
  have c4 := HX.out.get 4 _ rfl
  have c5 := HX.out.get 5 _ rfl
  have c6 := HX.out.get 6 _ rfl
  have c7 := HX.out.get 7 _ rfl
  have c8 := HX.out.get 8 _ rfl
  go_upto_region 3 with fail
  have D2 := Lib.hid (Bt.new w1 [.int .i64 kind, .int .i64 ver, .string group, .int .i64 mx, .bool q, .int .i64 ro, .int .i64 ev, .slice sa n sc, .slice ra rs.length rc] 53)
  have E2 := Lib.hid (bbox1 w1 (.cells #[.int .i64 kind, .int .i64 ver, .string group, .int .i64 mx, .bool q, .int .i64 ro, .int .i64 ev, .slice sa n sc, .slice ra rs.length rc] 53))
  obtain ⟨pb, hpb⟩ : ∃ x, w1.heap.size = x := ⟨_, rfl⟩
  change Code.wp _ _ _ _ (w1.alloc (.cells #[.int .i64 kind, .int .i64 ver, .string group, .int .i64 mx, .bool q, .int .i64 ro, .int .i64 ev, .slice sa n sc, .slice ra rs.length rc] 53))
  generalize w1.alloc (.cells #[.int .i64 kind, .int .i64 ver, .string group, .int .i64 mx, .bool q, .int .i64 ro, .int .i64 ev, .slice sa n sc, .slice ra rs.length rc] 53) = w2 at D2 E2 ⊢
  have D3 := Lib.hid (show Bt w2 pb [.int .i64 kind, .int .i64 ver, .string group, .int .i64 mx, .bool q, .int .i64 ro, .int .i64 ev, .slice sa n sc, .slice ra rs.length rc] 53 by rw [← hpb]; exact D2.out)
  rw [hpb]
  have hpw : w1.heap.size ≤ pb := by omega
  have hpb2 : pb ≠ b := by omega
  clear D2 hpb c0 c1 c2 c3 c4 c5 c6 c7 c8
  have d8 := D3.out.get 8 _ rfl
  have df : w2.frozen? ⟨pb, 8, none⟩ = false := Lib.frozen_of_heap D3.out 8
  go_upto_region 5 with fail
  have D4 := Lib.hid (show Bt (w2.setCell ⟨pb, 8, none⟩ (.slice none 0 0)) pb [.int .i64 kind, .int .i64 ver, .string group, .int .i64 mx, .bool q, .int .i64 ro, .int .i64 ev, .slice sa n sc, .slice none 0 0] 53 by have h := D3.out; unfold Bt at h ⊢; simp [World.setCell, Array.getElem?_modify, h])
  have E3 := Lib.hid (show Below w1.heap.size w1 (w2.setCell ⟨pb, 8, none⟩ (.slice none 0 0)) from E2.out.setCell (p := ⟨pb, 8, none⟩) (by show w1.heap.size ≤ pb; omega) _)
  generalize w2.setCell ⟨pb, 8, none⟩ (.slice none 0 0) = w3 at D4 E3 ⊢
  have HX3 := Lib.hid (HX.out.below E3.out)
  have HO3 := Lib.hid (HO1.out.below E3.out)
  have s3 := E3.out.size
  obtain ⟨R, hR⟩ : ∃ x, w3.heap.size = x := ⟨_, rfl⟩
  have HRR := Lib.hid hR
  have hRw : R ≤ w3.heap.size := by omega
  have hwR := Lib.hid (show w.heap.size ≤ R by omega)
  have HW := Lib.hid (HO3.out.wr R)
  have hpR : pb < R := by have := D4.out.lt; omega
  have hnR : nb < R := by have := HX3.out.lt; omega
  have HPw := Lib.hid (show Past w.heap.size b w w3 from (Past.of_below HE1.out (Nat.le_refl _)).trans (Past.of_below (R := w.heap.size) E3.out (by omega)))
  clear hR d8 df D3 E2
  have c0 := HX3.out.get 0 _ rfl
  have c1 := HX3.out.get 1 _ rfl
  have f2 := HW.out.cell2
  have ff := HW.out.frozen
  go_upto_region 17 with fail
  have W5 := Lib.hid (HW.out.mark true)
  have G5 := Lib.hid (HPw.out.setCell (p := ⟨b, 2, none⟩) rfl (.bool true))
  have X5 := Lib.hid (HX3.out.past (R := R) ((Past.refl R b w3).setCell (p := ⟨b, 2, none⟩) rfl (.bool true)) hnb2 (by decide))
  have s5 : w3.heap.size ≤ (w3.setCell ⟨b, 2, none⟩ (.bool true)).heap.size := by rw [World.size_setCell]; exact Nat.le_refl _
  generalize w3.setCell ⟨b, 2, none⟩ (.bool true) = w5 at W5 G5 X5 s5 ⊢
  clear f2 ff c0 c1
  have f2 := W5.out.cell2
  have ff := W5.out.frozen
  go_upto_region 18 with fail
  have W7 := Lib.hid (W5.out.mark true)
  have G7 := Lib.hid (G5.out.setCell (p := ⟨b, 2, none⟩) rfl (.bool true))
  have X7 := Lib.hid (X5.out.past (R := R) ((Past.refl R b w5).setCell (p := ⟨b, 2, none⟩) rfl (.bool true)) hnb2 (by decide))
  have s7 : w5.heap.size ≤ (w5.setCell ⟨b, 2, none⟩ (.bool true)).heap.size := by rw [World.size_setCell]; exact Nat.le_refl _
  generalize w5.setCell ⟨b, 2, none⟩ (.bool true) = w7 at W7 G7 X7 s7 ⊢
  clear f2 ff
  have HZ7 := Lib.hid (show ([] : List UInt8).length ≤ 1073741824 by decide)
  go_wp2_with (first
    | (go_at_call 139; (with_reducible refine (wput03 HZ7.out _ W7.out (by omega)).mono ?_); rintro e w9 ⟨rfl, hW9, hG9⟩; have W9 := Lib.hid hW9; have G9 := Lib.hid (G7.out.trans (hG9.mono (show w.heap.size ≤ R from hwR.out))); have X9 := Lib.hid (X7.out.past hG9 hnb2 (by decide)); have s9 := hG9.size; have HZ9 := Lib.hid (show ([] ++ [0, 0, 0] : List UInt8).length + group.size ≤ 2000000 by rw [List.length_append]; show 0 + 3 + _ ≤ _; omega); have HY9 := Lib.hid (Nat.le_trans HZ9.out (show 2000000 ≤ 140737488355328 by decide)); clear hW9 hG9; have c2 := X9.out.get 2 _ rfl)
    | (go_at_call 140; (with_reducible refine (waddr w9.heap.size 1 group HY9.out (w9.alloc (.cells #[.string group] 25)) ((Bx.new w9 [.string group] 25).get 0 _ rfl) (W9.out.below (bbox1 _ _)) (by rw [World.size_alloc]; omega)).mono ?_); rintro e w10 ⟨rfl, hW10, hG10⟩; have W10 := Lib.hid hW10; have G10 := Lib.hid ((G9.out.alloc (by omega) (.cells #[.string group] 25)).trans (hG10.mono (show w.heap.size ≤ R from hwR.out))); have s10 := hG10.size; rw [World.size_alloc] at s10; clear hW10 hG10))
  go_end0
  refine ⟨rfl, R, _, true, W10.out, by omega, hwR.out, ?_, ?_, rfl, G10.out⟩
  · simp only [List.length_append]
    show 1 ≤ 0 + 3 + _
    omega
  · rw [List.length_append, size_toList]
    have := HZ9.out
    omega
end Go.Proofs.YticdmepplfgdiaaGreatDoor
end
