/-
  What the switch's Tick computes, of two ports in one VLAN, where nothing is known of groups and stations and no querier asks. Conditions: the time is one, what the tree tells fits. What the switch's Take computes of a message of the tree. Conditions: the port is there, up and has a role, the message fits, the time is one. The small net's ports and its one frame: what vlan.In, vlan.Out and ether.Encode make of it; a switch's open ports; where a frame may go. Conditions: both ports are open. Where the small net's one frame may go in a switch, and what is sent. Conditions: both ports are open.
-/
import Derived.BigQuiet
import Derived.Deep.RegionHeld3
import Derived.Test.YticdmepplfgdiaaGreatDoorQ20
import Derived.Test.YticdmepplfgdiaaGreatDoorQ35
import Derived.Test.YticdmepplfgdiaaGreatDoorQ25
import Derived.Test.YticdmepplfgdiaaGreatDoorQ04
import Derived.Test.YticdmepplfgdiaaGreatDoorQ32
import Derived.Test.YticdmepplfgdiaaGreatDoorQ24
set_option linter.unusedVariables false
set_option linter.unusedSimpArgs false
section
namespace Go.Proofs.YticdmepplfgdiaaGreatDoor
open Go.RowKit
def outB (id : Nat) (l : List (Nat × Msg)) : List (Nat × ByteArray) := l.map fun x => (x.1, x.2.wire id)
def wcells (l : List (Nat × ByteArray)) : List Value := l.flatMap fun x => [.int .i64 x.1, .string x.2]
theorem wcells_push (l : List (Nat × ByteArray)) (k : Nat) (s : ByteArray) : wcells (l ++ [(k, s)]) = wcells l ++ [.int .i64 k, .string s] := by simp [wcells]
theorem wcells_len (l : List (Nat × ByteArray)) : (wcells l).length = l.length * 2 := by
  induction l with
  | nil => rfl
  | cons x l ih =>
    show ([.int .i64 x.1, .string x.2] ++ wcells l : List Value).length = _
    rw [List.length_append, ih]
    simp
    omega
theorem outB_take (id : Nat) (l : List (Nat × Msg)) (k : Nat) (x : Nat × Msg) (h : l[k]? = some x) : outB id (l.take (k + 1)) = outB id (l.take k) ++ [(x.1, x.2.wire id)] := by
  unfold outB
  rw [List.take_add_one, h, List.map_append]
  rfl
theorem ocells_get : ∀ (l : List (Nat × Msg)) (k : Nat) (x : Nat × Msg), l[k]? = some x → ∀ (j : Nat) (v : Value), (.int .i64 x.1 :: x.2.cells : List Value)[j]? = some v → (ocells l)[k * 9 + j]? = some v
  | [], k, x, h, _, _, _ => by simp at h
  | y :: l, 0, x, h, j, v, hj => by
    simp at h
    subst h
    show ((.int .i64 y.1 :: y.2.cells : List Value) ++ ocells l)[0 * 9 + j]? = some v
    rw [Nat.zero_mul, Nat.zero_add, List.getElem?_append_left (List.getElem?_eq_some_iff.1 hj).1]
    exact hj
  | y :: l, k + 1, x, h, j, v, hj => by
    have hl : (.int .i64 y.1 :: y.2.cells : List Value).length = 9 := rfl
    show ((.int .i64 y.1 :: y.2.cells : List Value) ++ ocells l)[(k + 1) * 9 + j]? = some v
    rw [List.getElem?_append_right (by rw [hl]; omega), hl, show (k + 1) * 9 + j - 9 = k * 9 + j by omega]
    exact ocells_get l k x (by simpa using h) j v hj
theorem RowIn.form {W : World} {lo : Nat} {v : Value} {n : Nat} {vs : List Value} (h : RowIn W lo v n vs) : ∃ a c, v = .slice a n c ∧ (n ≠ 0 → ∃ g, a = some ⟨g, 0, none⟩ ∧ lo ≤ g ∧ Bx W g vs) := by
  rcases h with ⟨rfl, a, c, rfl⟩ | ⟨hn, g, c, rfl, hg, hx⟩
  · exact ⟨a, c, rfl, fun e => absurd rfl e⟩
  · exact ⟨_, c, rfl, fun _ => ⟨g, rfl, hg, hx⟩⟩
theorem RowIn.beside {W W' : World} {lo : Nat} {v : Value} {n : Nat} {vs : List Value} {S : List Nat} (h : RowIn W lo v n vs) (g : Beside S W W') (hs : ∀ x, x ∈ S → x < lo) : RowIn W' lo v n vs := by
  rcases h with h | ⟨hn, b, c, rfl, hg, hx⟩
  · exact .inl h
  · exact .inr ⟨hn, b, c, rfl, hg, hx.beside g (fun e => by have := hs b e; omega)⟩
theorem tinfo140 : (Tryz.prog.info? 140).map (fun i => (i.zero, i.size, i.bytes)) = some (some (.agg #[.int .i64 0, .string ⟨#[]⟩]), 2, 24) := by kernel_rfl
theorem BrAt.lt {W : World} {B : Brs} {T : Tre} {ch : Int} (h : BrAt W B T ch) : ∀ x, x ∈ B.muts → x < W.heap.size := by
  intro x hx
  obtain ⟨_, _, k4⟩ := h.k4
  obtain ⟨_, _, k16⟩ := h.k16
  simp only [Brs.muts, List.mem_cons, List.not_mem_nil, or_false] at hx
  rcases hx with rfl | rfl | rfl | rfl | rfl
  · exact h.cells.1
  · exact h.tree.1.1
  · exact h.tree.2.1.1
  · exact k4.1
  · exact k16.1
theorem mem_tp {B : Brs} : ∀ x, x ∈ [B.t, B.p] → x ∈ B.muts := fun x hx => by
  simp only [List.mem_cons, List.not_mem_nil, or_false] at hx
  rcases hx with rfl | rfl <;> simp [Brs.muts]
theorem mem_b {B : Brs} : ∀ x, x ∈ [B.b] → x ∈ B.muts := fun x hx => by rw [List.mem_singleton.1 hx]; simp [Brs.muts]
theorem mem_4 {B : Brs} : ∀ x, x ∈ [B.q4] → x ∈ B.muts := fun x hx => by rw [List.mem_singleton.1 hx]; simp [Brs.muts]
theorem mem_16 {B : Brs} : ∀ x, x ∈ [B.q16] → x ∈ B.muts := fun x hx => by rw [List.mem_singleton.1 hx]; simp [Brs.muts]
set_option maxRecDepth 100000 in
set_option maxHeartbeats 8000000 in
theorem brtick_any {B : Brs} {T : Tre} {ch now : Int} (h0 : 1 ≤ now) (h1 : now ≤ 1099511627776) (hf : ∀ x, x ∈ (T.ticked now).outs now → x.2.fits = true) (w : World) (h : BrAt w B T ch) :
    Calls Tryz.prog 11 #[.pointer (some ⟨B.b, 0, none⟩), .int .i64 now] w fun e w' => ∃ v, e = .returned v ∧ RowIn w' w.heap.size v ((T.ticked now).outs now).length (wcells (outB B.id ((T.ticked now).outs now))) ∧ BrAt w' B (T.ticked now) (T.ticked now).change ∧ Beside B.muts w w' := by
  have HG := Lib.hid (goes_any B.b now h0 h1 w)
  have HE1 := Lib.hid (bare_expire B.gr B.gsm B.gom 50 60 2 now h0 h1 w h.bare)
  have HE2 := Lib.hid (fun (W : World) (hW : BrAt W B T ch) => none_expire B.st B.smb 50 100 now (by omega) h1 W hW.dark)
  have HE3 := Lib.hid (fun (W : World) (hW : BrAt W B T ch) => ports_expire B.ro B.rfm B.rhm 100 now W hW.ports)
  have HT := Lib.hid (fun (W : World) (hW : BrAt W B T ch) => tick_any (now := now) (by omega) h1 W hW.tree)
  have HLt := Lib.hid h.lt
  have c15 := h.cells.get 15 _ rfl
  have H := Lib.hid h
  clear h
  generalize hU : T.ticked now = U at hf HT ⊢
  generalize hO : U.outs now = O at hf HT ⊢
  have hOl : O.length ≤ 2 := by rw [← hO]; unfold Tre.outs; split; simp; exact outsAt_le U 2
  have HFt := Lib.hid hf
  clear hO hf hU
  go_enter Tryz.func11, Tryz.ntmps11
  go_upto_region 8 with (first
    | (go_at_call 34; (with_reducible refine HG.out.mono ?_); rintro e w0 ⟨rfl, hw0⟩; subst hw0)
    | (go_at_call 52; (with_reducible refine HE1.out.mono ?_); rintro e w1 ⟨rfl, g1⟩; have A1 := Lib.hid (H.out.below g1); have E1 := Lib.hid (Beside.of_below (S := B.muts) g1); have c14 := A1.out.cells.get 14 _ rfl)
    | (go_at_call 53; (with_reducible refine (HE2.out _ A1.out).mono ?_); rintro e w2 ⟨rfl, g2⟩; have A2 := Lib.hid (A1.out.below g2); have E2 := Lib.hid (E1.out.below g2); have c16 := A2.out.cells.get 16 _ rfl)
    | (go_at_call 54; (with_reducible refine (HE3.out _ A2.out).mono ?_); rintro e w3 ⟨rfl, g3⟩; have A3 := Lib.hid (A2.out.below g3); have E3 := Lib.hid (E2.out.below g3); have c13 := A3.out.cells.get 13 _ rfl)
    | (go_at_call 55; (with_reducible refine (HT.out _ A3.out).mono ?_); rintro e w4 ⟨v4, rfl, R4, T4, B4⟩; have A4 := Lib.hid (A3.out.treed B4 T4); have E4 := Lib.hid (E3.out.trans (B4.mono mem_tp)); obtain ⟨a4, n4, rfl, R4f⟩ := R4.form; have R4h := Lib.hid R4f; clear R4 T4 B4 R4f))
  clear c13 c14 c15 c16
  have HEn := Lib.hid (fun (W : World) (m : Msg) => (show EncE ⟨#[1, 128, 194, 0, 0, 0]⟩ (macB B.id) false 0 0 39 ⟨m.bytes.toArray⟩ (m.wire B.id) 0 from ence_msg B.id m).to W)
  have HTo := Lib.hid to_any
  go_loopw [5, 7, 8, 9, 46] (fun l _ _ _ i wr => ∃ k : Nat, k ≤ O.length ∧ i = .int .i64 k ∧ wr.ownsRow w4.heap.size 140 2 l k (wcells (outB B.id (O.take k))) ∧ Below w4.heap.size w4 wr) (fun _ _ _ _ i _ => 3 - (intOf i).toNat)
  case atStart => exact ⟨0, Nat.zero_le _, rfl, World.ownsRow_nil _ _ _ _, Below.refl _ _⟩
  case round =>
    obtain ⟨k, hk, rfl, own, bel⟩ := hrel
    by_cases hlt : k < O.length
    · obtain ⟨x, hx⟩ : ∃ x, O[k]? = some x := ⟨_, List.getElem?_eq_getElem hlt⟩
      obtain ⟨g, rfl, hg, bx⟩ := R4h.out (by omega)
      have bx := bx.below bel
      have hm := HFt.out x (List.mem_of_getElem? hx)
      have HX := Lib.hid (outB_take B.id O k x hx)
      have d0 := bx.get (k * 9) _ (ocells_get O k x hx 0 _ rfl)
      have d1 := bx.get (k * 9 + 1) _ (ocells_get O k x hx 1 _ rfl)
      have d2 := bx.get (k * 9 + 2) _ (ocells_get O k x hx 2 _ rfl)
      have d3 := bx.get (k * 9 + 3) _ (ocells_get O k x hx 3 _ rfl)
      have d4 := bx.get (k * 9 + 4) _ (ocells_get O k x hx 4 _ rfl)
      have d5 := bx.get (k * 9 + 5) _ (ocells_get O k x hx 5 _ rfl)
      have d6 := bx.get (k * 9 + 6) _ (ocells_get O k x hx 6 _ rfl)
      have d7 := bx.get (k * 9 + 7) _ (ocells_get O k x hx 7 _ rfl)
      have d8 := bx.get (k * 9 + 8) _ (ocells_get O k x hx 8 _ rfl)
      have A5 := Lib.hid (A4.out.below bel)
      have HBp := Lib.hid (fun W => bpenc_msg hm W)
      have HOw := Lib.hid own
      have HBl := Lib.hid bel
      have hsz : w4.heap.size ≤ wr.heap.size := bel.size
      clear own bel bx hx hm
      go_upto_region 10 with fail
      have M7 := Lib.hid (Bx.new wr (.int .i64 x.1 :: x.2.cells) 137)
      have A7 := Lib.hid (A5.out.below (bbox1 wr (.cells (.int .i64 x.1 :: x.2.cells : List Value).toArray 137)))
      have O7 := Lib.hid (HOw.out.alloc (.cells (.int .i64 x.1 :: x.2.cells : List Value).toArray 137))
      have B7 := Lib.hid (ball1 HBl.out (.cells (.int .i64 x.1 :: x.2.cells : List Value).toArray 137))
      have N7 := Lib.hid (fun (b : Nat) (hb : wr.heap.size ≤ b) => own_ne HOw.out hb)
      obtain ⟨w7, hw7⟩ : ∃ y : World, y = wr.alloc (.cells (.int .i64 x.1 :: x.2.cells : List Value).toArray 137) := ⟨_, rfl⟩
      have hs7 : w7.heap.size = wr.heap.size + 1 := by rw [hw7]; exact World.size_alloc ..
      rw [← hw7] at M7 A7 O7 B7
      change Code.wp _ _ _ _ (wr.alloc (.cells (.int .i64 x.1 :: x.2.cells : List Value).toArray 137))
      rw [← hw7]
      clear hw7 d0 d1 d2 d3 d4 d5 d6 d7 d8 A5 HOw HBl
      have e1 := M7.out.get 1 _ rfl
      have e2 := M7.out.get 2 _ rfl
      have e3 := M7.out.get 3 _ rfl
      have e4 := M7.out.get 4 _ rfl
      have e5 := M7.out.get 5 _ rfl
      have e6 := M7.out.get 6 _ rfl
      have e7 := M7.out.get 7 _ rfl
      have e8 := M7.out.get 8 _ rfl
      go_wp2_with (first
        | (go_at_call 56; (with_reducible refine (HBp.out _).mono ?_); rintro e wA ⟨rfl, gA⟩; have MA := Lib.hid (M7.out.below gA); have AA := Lib.hid (A7.out.below gA); have OA := Lib.hid (own_below O7.out gA); have BA := Lib.hid (B7.out.trans (gA.mono (by omega))); have sA := gA.size; clear gA e1 e2 e3 e4 e5 e6 e7 e8)
        | (go_at_call 41; (with_reducible refine (HTo.out _).mono ?_); rintro e wT ⟨rfl, hwT⟩; subst hwT)
        | (go_at_call 57; (with_reducible refine (own_made B.b B.id _ (AA.out.cells.get 0 _ rfl)).mono ?_); rintro e wB ⟨rfl, gB⟩; have MB := Lib.hid (MA.out.below gB); have AB := Lib.hid (AA.out.below gB); have OB := Lib.hid (own_below OA.out gB); have BB := Lib.hid (BA.out.trans (gB.mono (by omega))); have sB := gB.size; clear gB)
        | (go_at_call 15; (with_reducible refine (HEn.out _ x.2).mono ?_); rintro e wC ⟨rfl, gC⟩; have MC := Lib.hid (MB.out.below gC); have AC := Lib.hid (AB.out.below gC); have OC := Lib.hid (own_below OB.out gC); have BC := Lib.hid (BB.out.trans (gC.mono (by omega))); have sC := gC.size; clear gC; have c0 := MC.out.get 0 _ rfl)
        | (at_builtin; refine push_any rfl _ _ _ 140 rfl w4.heap.size Tryz.underlying39 tinfo140 rfl (by decide) u5 k _ [.int .i64 x.1, .string (x.2.wire B.id)] wC.heap.size rfl (OC.out.alloc _) rfl (Bx.new _ _ _) rfl (by intro u hu; simp only [List.mem_cons, List.not_mem_nil, or_false] at hu; rcases hu with rfl | rfl <;> rfl) (by omega) (by decide) (by rw [World.size_alloc]; omega) ?_; intro v' w9 hown' hgr hB hs9; have HO9 := Lib.hid hown'; have HB9 := Lib.hid ((ball1 BC.out _).trans hB); clear hown' hgr hB))
      refine ⟨⟨k + 1, by omega, by go_num, by rw [HX.out, wcells_push]; exact HO9.out, HB9.out⟩, ?_⟩
      simp [intOf]; omega
    · have he : k = O.length := by omega
      subst he
      rw [List.take_length] at own
      have R5 := Lib.hid (row_in own (by rw [wcells_len]; unfold outB; rw [List.length_map]) E4.out.size)
      have A5 := Lib.hid (A4.out.below bel)
      have E5 := Lib.hid (E4.out.below bel)
      have HS := Lib.hid A5.out.settles
      clear own bel hk hlt R4h HEn HTo
      go_upto_region 16 with (go_at_call 36; (with_reducible refine HS.out.mono ?_); rintro e w6 ⟨rfl, A6q, B6⟩; have A6 := Lib.hid A6q; have R6 := Lib.hid (R5.out.beside B6 (fun x hx => HLt.out x (mem_b x hx))); have E6 := Lib.hid (E5.out.trans (B6.mono mem_b)); have c18 := A6.out.cells.get 18 _ rfl; clear A6q B6)
      clear c18 HS
      go_loopw [5, 11, 13, 80] (fun l _ _ i wr => ∃ k : Nat, k ≤ 1 ∧ i = .int .i64 k ∧ RowIn wr w0.heap.size l O.length (wcells (outB B.id O)) ∧ BrAt wr B U U.change ∧ Beside B.muts w0 wr) (fun _ _ _ i _ => 2 - (intOf i).toNat)
      case atStart => exact ⟨0, Nat.zero_le _, rfl, R6.out, A6.out, E6.out⟩
      case round =>
        obtain ⟨k, hk, hi, R7q, A7q, E7q⟩ := hrel
        have R7 := Lib.hid R7q
        have A7 := Lib.hid A7q
        have E7 := Lib.hid E7q
        clear R7q A7q E7q
        by_cases hlt : k < 1
        · have hz : k = 0 := by omega
          subst hz
          have hi : _ = Value.int .i64 0 := hi
          subst hi
          have v0 := A7.out.vl.get 0 _ rfl
          go_upto_region 19 with fail
          have X8 := Lib.hid (Bx.new wr [.int .i64 4, .int .i64 16] 3)
          have A8 := Lib.hid (A7.out.below (bbox1 wr (.cells #[.int .i64 4, .int .i64 16] 3)))
          have R8 := Lib.hid (R7.out.beside (.of_below (S := []) (bbox1 wr (.cells #[.int .i64 4, .int .i64 16] 3))) (fun _ hx => absurd hx List.not_mem_nil))
          have E8 := Lib.hid (E7.out.below (bbox1 wr (.cells #[.int .i64 4, .int .i64 16] 3)))
          have hwr : w0.heap.size ≤ wr.heap.size := E7.out.size
          obtain ⟨n8, hn8⟩ : ∃ n, wr.heap.size = n := ⟨_, rfl⟩
          rw [hn8] at X8 hwr ⊢
          clear v0 hn8
          go_loopw [5, 13, 86] (fun l _ j wq => ∃ m : Nat, m ≤ 2 ∧ j = .int .i64 m ∧ RowIn wq w0.heap.size l O.length (wcells (outB B.id O)) ∧ BrAt wq B U U.change ∧ Bx wq n8 [.int .i64 4, .int .i64 16] ∧ Beside B.muts w0 wq) (fun _ _ j _ => 3 - (intOf j).toNat)
          case atStart => exact ⟨0, Nat.zero_le _, rfl, R8.out, A8.out, X8.out, E8.out⟩
          case round =>
            obtain ⟨m, hm, rfl, R9q, A9q, X9q, E9q⟩ := hrel
            have R9 := Lib.hid R9q
            have A9 := Lib.hid A9q
            have X9 := Lib.hid X9q
            have E9 := Lib.hid E9q
            clear R9q A9q X9q E9q
            rcases (by omega : m = 0 ∨ m = 1 ∨ m = 2) with rfl | rfl | rfl
            · have x0 := X9.out.get 0 _ rfl
              have c19 := A9.out.cells.get 19 _ rfl
              have hl := ask_4 A9.out.map
              have HQ := Lib.hid (quiet_tick B.q4 20 2 0 now (by omega) h1 wr A9.out.k4)
              go_wp2_with (go_at_call 58; (with_reducible refine HQ.out.mono ?_); rintro e wz ⟨rfl, K9, B9⟩; have A10 := Lib.hid (A9.out.hushed4 B9 K9); have R10 := Lib.hid (R9.out.beside B9 (fun x hx => HLt.out x (mem_4 x hx))); have E10 := Lib.hid (E9.out.trans (B9.mono mem_4)); have X10 := Lib.hid (X9.out.beside B9 (fun e => by have := HLt.out _ (mem_4 _ e); omega)); clear K9 B9)
              go_roundw
              case rel => exact ⟨0 + 1, by omega, by go_num, R10.out, A10.out, X10.out, E10.out⟩
              case measure => simp [intOf]
            · have x0 := X9.out.get 1 _ rfl
              have c19 := A9.out.cells.get 19 _ rfl
              have hl := ask_16 A9.out.map
              have HQ := Lib.hid (quiet_tick B.q16 20 2 0 now (by omega) h1 wr A9.out.k16)
              go_wp2_with (go_at_call 58; (with_reducible refine HQ.out.mono ?_); rintro e wz ⟨rfl, K9, B9⟩; have A10 := Lib.hid (A9.out.hushed16 B9 K9); have R10 := Lib.hid (R9.out.beside B9 (fun x hx => HLt.out x (mem_16 x hx))); have E10 := Lib.hid (E9.out.trans (B9.mono mem_16)); have X10 := Lib.hid (X9.out.beside B9 (fun e => by have := HLt.out _ (mem_16 _ e); omega)); clear K9 B9)
              go_roundw
              case rel => exact ⟨1 + 1, by omega, by go_num, R10.out, A10.out, X10.out, E10.out⟩
              case measure => simp [intOf]
            · go_wp2
              refine ⟨⟨0 + 1, by omega, by go_num, R9.out, A9.out, E9.out⟩, ?_⟩
              simp [intOf]
        · have he : k = 1 := by omega
          subst he
          have hi : _ = Value.int .i64 1 := hi
          subst hi
          have HD := Lib.hid (asks_due B.aq B.wq B.wmb B.qb 2 2 0 200 0 now wr A7.out.asks)
          have c17 := A7.out.cells.get 17 _ rfl
          go_upto_region 26 with (go_at_call 60; (with_reducible refine HD.out.mono ?_); rintro e wd ⟨rfl, hwd⟩; subst hwd)
          go_loopw [5, 15, 16, 117] (fun l _ _ i wq => i = .int .i64 0 ∧ RowIn wq w0.heap.size l O.length (wcells (outB B.id O)) ∧ BrAt wq B U U.change ∧ Beside B.muts w0 wq) (fun _ _ _ _ _ => 0)
          case atStart => exact ⟨rfl, R7.out, A7.out, E7.out⟩
          case round =>
            obtain ⟨rfl, R9q, A9q, E9q⟩ := hrel
            have R9 := Lib.hid R9q
            have A9 := Lib.hid A9q
            have E9 := Lib.hid E9q
            clear R9q A9q E9q
            go_wp2
            go_ret
            exact ⟨_, rfl, R9.out, A9.out, E9.out⟩
end Go.Proofs.YticdmepplfgdiaaGreatDoor
end
section
namespace Go.Proofs.YticdmepplfgdiaaGreatDoor
open Go.RowKit
theorem dece_lit (id : Nat) (m : Msg) (W : World) : Calls Tryz.prog 16 #[.string (m.wire id)] W fun e w' => e = .returned (.tuple #[.agg #[.string ⟨#[1, 128, 194, 0, 0, 0]⟩, .string (macB id), .bool false, .int .i64 0, .int .i64 0, .int .i64 39, .string ⟨m.bytes.toArray⟩], .int .i64 0]) ∧ Below W.heap.size W w' := (dece_msg id m).to W
set_option maxRecDepth 100000 in
set_option maxHeartbeats 8000000 in
theorem brhear_any {B : Brs} {T : Tre} {ch now : Int} {k id : Nat} {m : Msg} (hk : k < 2) (h0 : 1 ≤ now) (h1 : now ≤ 1099511627776) (hr : (T.prt k).role ≠ 0) (hup : (T.prt k).up = true) (hm : m.fits = true) (w : World) (h : BrAt w B T ch) :
    Calls Tryz.prog 10 #[.pointer (some ⟨B.b, 0, none⟩), .int .i64 k, .string (m.wire id), .int .i64 now] w fun e w' => e = .returned (.slice none 0 0) ∧ BrAt w' B (T.heard k m now) (T.heard k m now).change ∧ Beside B.muts w w' := by
  have HG := Lib.hid (goes_any B.b now h0 h1 w)
  have HR := Lib.hid (role_any hk w h.tree)
  have HD := Lib.hid (dece_lit id m)
  have HTo := Lib.hid to_any
  have HB := Lib.hid (fun W => bpdec_msg hm W)
  have HH := Lib.hid (fun (W : World) (hW : BrAt W B T ch) => hear_any (m := m) (now := now) hk (by omega) h1 hup W hW.tree)
  have c13 := h.cells.get 13 _ rfl
  have hr2 : ((T.prt k).role == 0) = false := by simpa using hr
  have H := Lib.hid h
  clear h hr
  generalize hE : T.heard k m now = E at HH ⊢
  clear hE
  go_enter Tryz.func10, Tryz.ntmps10
  go_upto_region 6 with (first
    | (go_at_call 34; (with_reducible refine HG.out.mono ?_); rintro e w0 ⟨rfl, hw0⟩; subst hw0)
    | (go_at_call 40; (with_reducible refine HR.out.mono ?_); rintro e w1 ⟨rfl, hw1⟩; subst hw1)
    | (go_at_call 16; (with_reducible refine (HD.out _).mono ?_); rintro e w2 ⟨rfl, g2⟩; have A2 := Lib.hid (H.out.below g2); have E2 := Lib.hid (Beside.of_below (S := B.muts) g2); clear g2))
  have M3 := Lib.hid (Bx.new w2 [.string ⟨#[1, 128, 194, 0, 0, 0]⟩, .string (macB id), .bool false, .int .i64 0, .int .i64 0, .int .i64 39, .string ⟨m.bytes.toArray⟩] 47)
  have A3 := Lib.hid (A2.out.below (bbox1 w2 (.cells #[.string ⟨#[1, 128, 194, 0, 0, 0]⟩, .string (macB id), .bool false, .int .i64 0, .int .i64 0, .int .i64 39, .string ⟨m.bytes.toArray⟩] 47)))
  have E3 := Lib.hid (E2.out.below (bbox1 w2 (.cells #[.string ⟨#[1, 128, 194, 0, 0, 0]⟩, .string (macB id), .bool false, .int .i64 0, .int .i64 0, .int .i64 39, .string ⟨m.bytes.toArray⟩] 47)))
  obtain ⟨n2, hn2⟩ : ∃ n, w2.heap.size = n := ⟨_, rfl⟩
  obtain ⟨w3, hw3⟩ : ∃ y : World, y = w2.alloc (.cells #[.string ⟨#[1, 128, 194, 0, 0, 0]⟩, .string (macB id), .bool false, .int .i64 0, .int .i64 0, .int .i64 39, .string ⟨m.bytes.toArray⟩] 47) := ⟨_, rfl⟩
  have hs3 : w3.heap.size = n2 + 1 := by rw [hw3, ← hn2]; exact World.size_alloc ..
  have hbn : w1.heap.size ≤ n2 := by rw [← hn2]; exact E2.out.size
  rw [← hw3] at M3 A3 E3
  change Code.wp _ _ _ _ (w2.alloc (.cells #[.string ⟨#[1, 128, 194, 0, 0, 0]⟩, .string (macB id), .bool false, .int .i64 0, .int .i64 0, .int .i64 39, .string ⟨m.bytes.toArray⟩] 47))
  rw [← hw3]
  rw [hn2] at M3 ⊢
  clear hw3 hn2 c13
  have f0 := M3.out.get 0 _ rfl
  go_quiet ((go_at_call 41; refine Calls.quiet_of_same (HTo.out _)))
  have gq : Below w3.heap.size w3 (w3.drewN nq) := bdrew (Below.refl _ _) nq
  have M3 := Lib.hid (M3.out.below gq)
  have A3 := Lib.hid (A3.out.below gq)
  have E3 := Lib.hid (E3.out.below gq)
  have hs3 : (w3.drewN nq).heap.size = n2 + 1 := hs3
  generalize w3.drewN nq = w3q at M3 A3 E3 hs3 ⊢
  clear gq
  have f6 := M3.out.get 6 _ rfl
  have f2 := M3.out.get 2 _ rfl
  go_upto_region 9 with (go_at_call 42; (with_reducible refine (HB.out _).mono ?_); rintro e w4 ⟨rfl, g4⟩; have A4 := Lib.hid (A3.out.below g4); have E4 := Lib.hid (E3.out.below g4); have M4 := Lib.hid (M3.out.below g4); have s4 := g4.size; clear g4; have f2 := (M4.out.alloc (.cells #[.int .u64 m.v.root, .int .i64 m.v.cost, .int .u64 m.v.bridge, .int .i64 m.v.port, .int .i64 m.age, .bool m.chg, .bool m.lrn, .bool m.fwd] 118)).get 2 _ rfl)
  clear f0 f2 f6
  have X5 := Lib.hid (show Bx (w4.alloc (.cells #[.int .u64 m.v.root, .int .i64 m.v.cost, .int .u64 m.v.bridge, .int .i64 m.v.port, .int .i64 m.age, .bool m.chg, .bool m.lrn, .bool m.fwd] 118)) w4.heap.size m.cells from Bx.new w4 m.cells 118)
  have A5 := Lib.hid (A4.out.below (bbox1 w4 (.cells #[.int .u64 m.v.root, .int .i64 m.v.cost, .int .u64 m.v.bridge, .int .i64 m.v.port, .int .i64 m.age, .bool m.chg, .bool m.lrn, .bool m.fwd] 118)))
  have E5 := Lib.hid (E4.out.below (bbox1 w4 (.cells #[.int .u64 m.v.root, .int .i64 m.v.cost, .int .u64 m.v.bridge, .int .i64 m.v.port, .int .i64 m.age, .bool m.chg, .bool m.lrn, .bool m.fwd] 118)))
  obtain ⟨n4, hn4⟩ : ∃ n, w4.heap.size = n := ⟨_, rfl⟩
  obtain ⟨w5, hw5⟩ : ∃ y : World, y = w4.alloc (.cells #[.int .u64 m.v.root, .int .i64 m.v.cost, .int .u64 m.v.bridge, .int .i64 m.v.port, .int .i64 m.age, .bool m.chg, .bool m.lrn, .bool m.fwd] 118) := ⟨_, rfl⟩
  have hb4 : w1.heap.size ≤ n4 := by rw [← hn4]; exact E4.out.size
  rw [← hw5] at X5 A5 E5
  change Code.wp _ _ _ _ (w4.alloc (.cells #[.int .u64 m.v.root, .int .i64 m.v.cost, .int .u64 m.v.bridge, .int .i64 m.v.port, .int .i64 m.age, .bool m.chg, .bool m.lrn, .bool m.fwd] 118))
  rw [← hw5]
  rw [hn4] at X5 ⊢
  clear hw5 hn4 M3 A3 E3 A4 E4 M4
  have HK := Lib.hid (fun (w' : World) (c : Int) (h1 : Bx w' B.b (B.cells c)) (h2 : Bx w' n4 m.cells) => (⟨h1.get 13 _ rfl, h2.get 0 _ rfl, h2.get 1 _ rfl, h2.get 2 _ rfl, h2.get 3 _ rfl, h2.get 4 _ rfl, h2.get 5 _ rfl, h2.get 6 _ rfl, h2.get 7 _ rfl⟩ : w'.cell? ⟨B.b, 13, none⟩ = some (.pointer (some ⟨B.t, 0, none⟩)) ∧ w'.cell? ⟨n4, 0, none⟩ = some (.int .u64 m.v.root) ∧ w'.cell? ⟨n4, 1, none⟩ = some (.int .i64 m.v.cost) ∧ w'.cell? ⟨n4, 2, none⟩ = some (.int .u64 m.v.bridge) ∧ w'.cell? ⟨n4, 3, none⟩ = some (.int .i64 m.v.port) ∧ w'.cell? ⟨n4, 4, none⟩ = some (.int .i64 m.age) ∧ w'.cell? ⟨n4, 5, none⟩ = some (.bool m.chg) ∧ w'.cell? ⟨n4, 6, none⟩ = some (.bool m.lrn) ∧ w'.cell? ⟨n4, 7, none⟩ = some (.bool m.fwd)))
  have HLt := Lib.hid H.out.lt
  have HH5 := Lib.hid (HH.out w5.drew (A5.out.below (Below.refl _ _).drew))
  go_region_held3 (fun w' => w'.cell? ⟨B.b, 13, none⟩ = some (.pointer (some ⟨B.t, 0, none⟩)) ∧ w'.cell? ⟨n4, 0, none⟩ = some (.int .u64 m.v.root) ∧ w'.cell? ⟨n4, 1, none⟩ = some (.int .i64 m.v.cost) ∧ w'.cell? ⟨n4, 2, none⟩ = some (.int .u64 m.v.bridge) ∧ w'.cell? ⟨n4, 3, none⟩ = some (.int .i64 m.v.port) ∧ w'.cell? ⟨n4, 4, none⟩ = some (.int .i64 m.age) ∧ w'.cell? ⟨n4, 5, none⟩ = some (.bool m.chg) ∧ w'.cell? ⟨n4, 6, none⟩ = some (.bool m.lrn) ∧ w'.cell? ⟨n4, 7, none⟩ = some (.bool m.fwd)) (first | exact HK.out _ _ A5.out.cells X5.out | exact HK.out _ _ AH.out.cells XH.out) (first | (go_at_call 43; (with_reducible refine HH5.out.mono ?_); rintro e wH ⟨rfl, TH, BH⟩; have AH := Lib.hid ((A5.out.below (Below.refl _ _).drew).treed BH TH); have XH := Lib.hid ((X5.out.drew).beside BH (fun e => by have := HLt.out _ (mem_tp _ e); omega)); have EH := Lib.hid (E5.out.drew.trans (BH.mono mem_tp)); clear TH BH))
  have HS := Lib.hid AH.out.settles
  go_wp2_with (go_at_call 36; (with_reducible refine HS.out.mono ?_); rintro e w6 ⟨rfl, A6q, B6⟩; have A6 := Lib.hid A6q; have E6 := Lib.hid (EH.out.trans (B6.mono mem_b)); clear A6q B6)
  go_ret
  exact ⟨rfl, A6.out, E6.out⟩
end Go.Proofs.YticdmepplfgdiaaGreatDoor
end
section
namespace Go.Proofs.YticdmepplfgdiaaGreatDoor
open Go.RowKit
/-- what of a switch a frame's way out hangs on -/
structure BrL (W : World) (B : Brs) (T : Tre) (ch : Int) : Prop where
  cells : Bx W B.b (B.cells ch)
  tree : TreeAt W B.t B.p B.cap T
  ports : PortsAt W B.ro B.rfm B.rhm 100
  cfg : Bx W B.pp B.cfg
  l0 : Bx W B.pl0 [.int .i64 10]
  l1 : Bx W B.pl1 [.int .i64 10]
theorem BrL.below {W W' : World} {B : Brs} {T : Tre} {ch : Int} (h : BrL W B T ch) (g : Below W.heap.size W W') : BrL W' B T ch := ⟨h.cells.below g, h.tree.below g, h.ports.below g, h.cfg.below g, h.l0.below g, h.l1.below g⟩
theorem BrL.beside {S : List Nat} {W W' : World} {B : Brs} {T : Tre} {ch : Int} (h : BrL W B T ch) (g : Beside S W W') (n : ∀ x, x ∈ [B.b, B.t, B.p, B.ro, B.rfm, B.rhm, B.pp, B.pl0, B.pl1] → x ∉ S) : BrL W' B T ch := by
  simp only [List.mem_cons, List.not_mem_nil, or_false] at n
  exact ⟨h.cells.beside g (n _ (by simp)), h.tree.beside g (n _ (by simp)) (n _ (by simp)), h.ports.beside g (n _ (by simp)) (n _ (by simp)) (n _ (by simp)), h.cfg.beside g (n _ (by simp)), h.l0.beside g (n _ (by simp)), h.l1.beside g (n _ (by simp))⟩
theorem BrAt.lit {W : World} {B : Brs} {T : Tre} {ch : Int} (h : BrAt W B T ch) : BrL W B T ch := ⟨h.cells, h.tree, h.ports, h.cfg, h.l0, h.l1⟩
def Brs.pts (B : Brs) : List Pt := [⟨10, [], [10], none, 0, some ⟨B.pl0, 0, none⟩, B.c0⟩, ⟨10, [], [10], none, 0, some ⟨B.pl1, 0, none⟩, B.c1⟩]
theorem ints_one {W : World} {b c : Nat} (h : Bx W b [.int .i64 10]) : Ints W (.slice (some ⟨b, 0, none⟩) ([10] : List Int).length c) [10] :=
  ⟨_, c, rfl, .inr ⟨b, 0, rfl, h.1, fun i hi => by
    have e : i = 0 := by simp at hi; exact hi
    subst e
    exact h.get 0 _ rfl⟩⟩
theorem ports_two {W : World} {pp pl0 pl1 pc c0 c1 : Nat} (h : Bx W pp [.int .i64 10, .slice none 0 0, .slice (some ⟨pl0, 0, none⟩) 1 c0, .int .i64 10, .slice none 0 0, .slice (some ⟨pl1, 0, none⟩) 1 c1]) (h0 : Bx W pl0 [.int .i64 10]) (h1 : Bx W pl1 [.int .i64 10]) :
    Ports W (.slice (some ⟨pp, 0, none⟩) 2 pc) [⟨10, [], [10], none, 0, some ⟨pl0, 0, none⟩, c0⟩, ⟨10, [], [10], none, 0, some ⟨pl1, 0, none⟩, c1⟩] := by
  refine ⟨some ⟨pp, 0, none⟩, pc, rfl, by show (2 : Nat) ≤ 9223372036854775807; decide, fun x hx => ?_, .inr ⟨pp, 0, rfl, h.1, fun i x hx => ?_⟩⟩
  · simp only [List.mem_cons, List.not_mem_nil, or_false] at hx
    rcases hx with rfl | rfl
    · exact ⟨⟨none, 0, rfl, .inl rfl⟩, ints_one h0, by show (0 : Nat) ≤ 9223372036854775807; decide, by show (1 : Nat) ≤ 9223372036854775807; decide⟩
    · exact ⟨⟨none, 0, rfl, .inl rfl⟩, ints_one h1, by show (0 : Nat) ≤ 9223372036854775807; decide, by show (1 : Nat) ≤ 9223372036854775807; decide⟩
  · match i, hx with
    | 0, hx => simp at hx; subst hx; exact ⟨h.get 0 _ rfl, h.get 1 _ rfl, h.get 2 _ rfl⟩
    | 1, hx => simp at hx; subst hx; exact ⟨h.get 3 _ rfl, h.get 4 _ rfl, h.get 5 _ rfl⟩
theorem BrL.pts {W : World} {B : Brs} {T : Tre} {ch : Int} (h : BrL W B T ch) : Ports W (.slice (some ⟨B.pp, 0, none⟩) 2 B.pc) B.pts := ports_two h.cfg h.l0 h.l1
theorem rises_nil : Rises [] := fun i hi => absurd hi (Nat.not_lt_zero _)
theorem rises_ten : Rises [10] := fun i hi => by
  have e : i = 0 := by simp at hi; exact hi
  subst e
  exact ⟨by decide, by decide, .inl rfl⟩
theorem fine_ten : Fine 10 [] [10] := ⟨rises_nil, rises_ten, fun ⟨n, h, _⟩ => by simp at h, .inr (.inr (by simp))⟩
theorem ok_two (x y : Option Addr) (c d : Nat) : OkPorts [⟨10, [], [10], none, 0, x, c⟩, ⟨10, [], [10], none, 0, y, d⟩] := ⟨by show (1 : Nat) ≤ 2; decide, by show (2 : Nat) ≤ 16; decide, fun z hz => by
  simp only [List.mem_cons, List.not_mem_nil, or_false] at hz
  rcases hz with rfl | rfl <;> exact fine_ten⟩
theorem good_plain : Good3 allB srcB false 0 0 99 ⟨#[]⟩ := ⟨rfl, rfl, by decide, by decide, by decide, by decide, by decide, by decide, by decide, .inr ⟨rfl, rfl, by decide⟩⟩
theorem good_tagged : Good3 allB srcB true 10 0 99 ⟨#[]⟩ := ⟨rfl, rfl, by decide, by decide, by decide, by decide, by decide, by decide, by decide, .inl rfl⟩
theorem pts_at (B : Brs) (k : Nat) (hk : k < 2) : ∃ y, B.pts[k]? = some y ∧ y ∈ B.pts ∧ y.d = 10 ∧ y.t = [] ∧ y.p = [10] := by
  rcases (by omega : k = 0 ∨ k = 1) with rfl | rfl
  · exact ⟨_, rfl, by simp [Brs.pts], rfl, rfl, rfl⟩
  · exact ⟨_, rfl, by simp [Brs.pts], rfl, rfl, rfl⟩
/-- the frame as bytes -/
def dataW : ByteArray := ⟨(Et.enc allB.data.toList srcB.data.toList false 0 0 99 (⟨#[]⟩ : ByteArray).data.toList).toArray⟩
theorem in_lit {B : Brs} {T : Tre} {ch : Int} (k : Nat) (hk : k < 2) (w : World) (h : BrL w B T ch) :
    Calls Tryz.prog 44 #[.slice (some ⟨B.pp, 0, none⟩) 2 B.pc, .int .i64 k, .agg #[.string ⟨#[255, 255, 255, 255, 255, 255]⟩, .string ⟨#[2, 98, 98, 98, 98, 98]⟩, .bool false, .int .i64 0, .int .i64 0, .int .i64 99, .string ⟨#[]⟩]] w fun e w' =>
      e = .returned (.tuple #[.agg #[.string ⟨#[255, 255, 255, 255, 255, 255]⟩, .string ⟨#[2, 98, 98, 98, 98, 98]⟩, .bool true, .int .i64 10, .int .i64 0, .int .i64 99, .string ⟨#[]⟩], .int .i64 0]) ∧ Below w.heap.size w w' := by
  obtain ⟨y, hy, hm, hd, ht, hp⟩ := pts_at B k hk
  exact in_new _ B.pts k allB srcB ⟨#[]⟩ false 0 99 0 y true (fr allB srcB true 10 0 99 ⟨#[]⟩) (by decide) (.inr (.inr ⟨ok_two _ _ _ _, rfl, good_plain, k, y, rfl, hy, rfl⟩)) hm (by rw [hd, hp]; simp) (.inr (.inr ⟨by rw [hd]; decide, rfl, by rw [hd], rfl⟩)) w h.pts
theorem out_lit {B : Brs} {T : Tre} {ch : Int} (k : Nat) (hk : k < 2) (w : World) (h : BrL w B T ch) :
    Calls Tryz.prog 184 #[.slice (some ⟨B.pp, 0, none⟩) 2 B.pc, .int .i64 k, .agg #[.string ⟨#[255, 255, 255, 255, 255, 255]⟩, .string ⟨#[2, 98, 98, 98, 98, 98]⟩, .bool true, .int .i64 10, .int .i64 0, .int .i64 99, .string ⟨#[]⟩]] w fun e w' =>
      e = .returned (.tuple #[.agg #[.string ⟨#[255, 255, 255, 255, 255, 255]⟩, .string ⟨#[2, 98, 98, 98, 98, 98]⟩, .bool false, .int .i64 0, .int .i64 0, .int .i64 99, .string ⟨#[]⟩], .int .i64 0]) ∧ Below w.heap.size w w' := by
  obtain ⟨y, hy, hm, hd, ht, hp⟩ := pts_at B k hk
  exact out_had _ B.pts k allB srcB ⟨#[]⟩ 10 0 99 0 y (fr allB srcB false 0 0 99 ⟨#[]⟩) (by decide) (.inr (.inr ⟨ok_two _ _ _ _, rfl, good_tagged, k, y, rfl, hy, rfl⟩)) hm (by decide) (.inr (.inr (.inr ⟨by rw [ht]; simp, by rw [hp]; simp, good_plain, rfl, rfl⟩))) w h.pts
theorem enc_lit (w : World) : Calls Tryz.prog 15 #[.agg #[.string ⟨#[255, 255, 255, 255, 255, 255]⟩, .string ⟨#[2, 98, 98, 98, 98, 98]⟩, .bool false, .int .i64 0, .int .i64 0, .int .i64 99, .string ⟨#[]⟩]] w fun e w' => e = .returned (.tuple #[.string dataW, .int .i64 0]) ∧ Below w.heap.size w w' :=
  (ence_ok allB srcB ⟨#[]⟩ false 0 0 99 good_plain).to w
theorem dec_lit (w : World) : Calls Tryz.prog 16 #[.string dataW] w fun e w' => e = .returned (.tuple #[.agg #[.string ⟨#[255, 255, 255, 255, 255, 255]⟩, .string ⟨#[2, 98, 98, 98, 98, 98]⟩, .bool false, .int .i64 0, .int .i64 0, .int .i64 99, .string ⟨#[]⟩], .int .i64 0]) ∧ Below w.heap.size w w' :=
  (dec_enc allB srcB ⟨#[]⟩ false 0 0 99 good_plain).to w
theorem mem_lit {B : Brs} {T : Tre} {ch : Int} (w : World) (h : BrL w B T ch) :
    Calls Tryz.prog 187 #[.slice (some ⟨B.pp, 0, none⟩) 2 B.pc, .int .i64 10] w fun e w' => (∃ g c, e = .returned (.slice (some ⟨g, 0, none⟩) 2 c) ∧ w.heap.size ≤ g ∧ Bx w' g [.int .i64 0, .int .i64 1]) ∧ Below w.heap.size w w' := by
  refine (members_any _ B.pts 10 (by show (2 : Nat) ≤ 20; decide) w h.pts).mono ?_
  rintro e w' ⟨⟨u, rfl, h⟩, g⟩
  have h : w'.ownsRow w.heap.size 3 1 u 2 [.int .i64 0, .int .i64 1] := h
  obtain ⟨b, c, rfl, hb, hx⟩ := row_bx h (by decide) rfl
  exact ⟨⟨b, c, rfl, hb, hx⟩, g⟩
theorem ints_two {W : World} {b c : Nat} (h : Bx W b [.int .i64 0, .int .i64 1]) : Ints W (.slice (some ⟨b, 0, none⟩) 2 c) [0, 1] :=
  ⟨_, c, rfl, .inr ⟨b, 0, rfl, h.1, fun i hi => by
    rcases (by simp at hi; omega : i = 0 ∨ i = 1) with rfl | rfl
    · exact h.get 0 _ rfl
    · exact h.get 1 _ rfl⟩⟩
def openAt : Nat → List Int
  | 0 => []
  | 1 => [0]
  | _ => [0, 1]
set_option maxRecDepth 100000 in
set_option maxHeartbeats 2000000 in
theorem open_both {B : Brs} {T : Tre} {ch : Int} (h0 : T.p0.fwd = true) (h1 : T.p1.fwd = true) (w : World) (h : BrL w B T ch) :
    Calls Tryz.prog 188 #[.pointer (some ⟨B.b, 0, none⟩)] w fun e w' => ∃ v, e = .returned v ∧ w'.ownsRow w.heap.size 3 1 v 2 [.int .i64 0, .int .i64 1] ∧ Below w.heap.size w w' := by
  have HF := Lib.hid (fun (k : Nat) (hk : k < 2) (W : World) (hW : BrL W B T ch) => (show Calls Tryz.prog 47 #[.pointer (some ⟨B.t, 0, none⟩), .int .i64 k] W fun e w' => e = .returned (.bool true) ∧ w' = W from by
    have hq := forwards_any hk W hW.tree
    rwa [show (T.prt k).fwd = true by rcases (by omega : k = 0 ∨ k = 1) with rfl | rfl; exact h0; exact h1] at hq))
  have c2 := h.cells.get 2 _ rfl
  have H := Lib.hid h
  clear h h0 h1
  go_enter Tryz.func188, Tryz.ntmps188
  go_upto_region 5 with fail
  clear c2
  go_loopw [3, 4, 13] (fun l _ i wr => ∃ k : Nat, k ≤ 2 ∧ i = .int .i64 k ∧ wr.ownsRow w.heap.size 3 1 l k ((openAt k).map (Value.int .i64)) ∧ Below w.heap.size w wr) (fun _ _ i _ => 3 - (intOf i).toNat)
  case atStart => exact ⟨0, Nat.zero_le _, rfl, World.ownsRow_nil _ _ _ _, Below.refl _ _⟩
  case round =>
    obtain ⟨k, hk, rfl, own, bel⟩ := hrel
    by_cases hlt : k < 2
    · have hA := H.out.below bel
      have c13 := hA.cells.get 13 _ rfl
      have HC := Lib.hid (HF.out k hlt wr hA)
      have HO := Lib.hid own
      have HB := Lib.hid bel
      have hsz := bel.size
      have HN := Lib.hid (show ((openAt (k + 1)).map (Value.int .i64)) = (openAt k).map (Value.int .i64) ++ [.int .i64 k] by rcases (by omega : k = 0 ∨ k = 1) with rfl | rfl <;> rfl)
      clear own bel hA
      go_wp2_with (first
        | (go_at_call 47; (with_reducible refine HC.out.mono ?_); rintro e w3 ⟨rfl, hq⟩; subst hq)
        | (at_builtin; refine push_any rfl _ _ _ 3 rfl w.heap.size Tryz.underlying23 tinfo3 rfl (by decide) u3 k _ [.int .i64 k] _ rfl (HO.out.alloc _) rfl (Bx.new _ _ _) rfl (by simp [Value.oneCell']) (by omega) (by decide) (by rw [World.size_alloc]; omega) ?_; intro v4 w4 hown4 hgr4 hB4 hs4; have H4 := Lib.hid hown4; have B4 := Lib.hid ((ball1 HB.out _).trans hB4); clear hown4 hgr4 hB4))
      refine ⟨⟨k + 1, by omega, by go_num, by rw [HN.out]; exact H4.out, B4.out⟩, ?_⟩
      simp [intOf]; omega
    · have he : k = 2 := by omega
      subst he
      have HO := Lib.hid own
      have HB := Lib.hid bel
      clear own bel
      go_wp2
      go_ret
      exact ⟨_, rfl, HO.out, HB.out⟩
set_option maxRecDepth 100000 in
set_option maxHeartbeats 2000000 in
theorem list_none (b fm hm : Nat) (age v now : Int) (w : World) (h : PortsAt w b fm hm age) : Calls Tryz.prog 189 #[.pointer (some ⟨b, 0, none⟩), .int .i64 v, .int .i64 now] w fun e w' => e = .returned (.slice none 0 0) ∧ Below w.heap.size w w' := by
  obtain ⟨hb, ⟨c1, m1⟩, c2, m2⟩ := h
  have b1 := hb.get 1 _ rfl
  have b2 := hb.get 2 _ rfl
  have hbl := hb.1
  have l1 : fm < w.heap.size := by
    rcases Nat.lt_or_ge fm w.heap.size with h' | h'
    · exact h'
    · simp [Array.getElem?_eq_none h'] at m1
  have l2 : hm < w.heap.size := by
    rcases Nat.lt_or_ge hm w.heap.size with h' | h'
    · exact h'
    · simp [Array.getElem?_eq_none h'] at m2
  have hr1 := run_range_map (P := Tryz.prog) w 204 _ _ fm #[] c1 Tryz.underlying204 m1
  have hx1 := fun ty => next_empty w ty fm c1 m1
  have G1 := bbox1 w (.mapIter (some fm) c1 #[] c1)
  have m2' : (w.alloc (.mapIter (some fm) c1 #[] c1)).heap[hm]? = some (.map #[] c2) := (G1.block hm l2).trans m2
  have hr2 := run_range_map (P := Tryz.prog) (w.alloc (.mapIter (some fm) c1 #[] c1)) 205 _ _ hm #[] c2 Tryz.underlying205 m2'
  have hx2 := fun ty => next_empty (w.alloc (.mapIter (some fm) c1 #[] c1)) ty hm c2 m2'
  simp only [World.size_alloc] at hx2
  have HS := Lib.hid (sort_nil none 0)
  have HC := Lib.hid (compact_few none 0 0 (by decide))
  clear m1 m2 m2' hb
  go_enter Tryz.func189, Tryz.ntmps189
  go_upto_region 5 with fail
  go_loopw [7, 8] (fun l _ wr => l = .slice none 0 0 ∧ wr = w.alloc (.mapIter (some fm) c1 #[] c1)) (fun _ _ _ => 0)
  case atStart => exact ⟨rfl, rfl⟩
  case round =>
    obtain ⟨rfl, rfl⟩ := hrel
    go_upto_region 10 with fail
    go_loopw [7, 9, 10] (fun l _ _ wr => l = .slice none 0 0 ∧ wr = (w.alloc (.mapIter (some fm) c1 #[] c1)).alloc (.mapIter (some hm) c2 #[] c2)) (fun _ _ _ _ => 0)
    case atStart => exact ⟨rfl, rfl⟩
    case round =>
      obtain ⟨rfl, rfl⟩ := hrel
      go_wp2_with (first | (go_at_call 87; refine (HS.out _).mono ?_; rintro e w3 ⟨rfl, hq⟩; subst hq) | (go_at_call 88; refine (HC.out _).mono ?_; rintro e w3 ⟨rfl, hq⟩; subst hq))
      go_ret
      exact ⟨rfl, ball1 G1 _⟩
end Go.Proofs.YticdmepplfgdiaaGreatDoor
end
section
namespace Go.Proofs.YticdmepplfgdiaaGreatDoor
open Go.RowKit
/-- the one port -/
def OneInt (W : World) (v : Value) (n : Int) : Prop := ∃ g c, v = .slice (some ⟨g, 0, none⟩) 1 c ∧ Bx W g [.int .i64 n]
theorem OneInt.below {W W' : World} {v : Value} {n : Int} (h : OneInt W v n) (g : Below W.heap.size W W') : OneInt W' v n := by
  obtain ⟨b, c, rfl, hb⟩ := h
  exact ⟨b, c, rfl, hb.below g⟩
set_option maxRecDepth 100000 in
set_option maxHeartbeats 2000000 in
theorem flood_both (k : Nat) (hk : k < 2) (ob oc : Nat) (mv rv : Value) (w : World) (ho : Bx w ob [.int .i64 0, .int .i64 1]) (hv : Ints w mv [0, 1]) :
    Calls Tryz.prog 119 #[.agg #[.int .i64 k, mv, .slice (some ⟨ob, 0, none⟩) 2 oc, rv, .slice none 0 0, .bool false, .bool false, .bool false, .bool false, .bool false]] w fun e w' => ∃ v, e = .returned v ∧ OneInt w' v (1 - k) ∧ Below w.heap.size w w' := by
  have G1 := bbox1 w (.cells (caseV k mv (.slice (some ⟨ob, 0, none⟩) 2 oc) rv).toArray 254)
  have hW : ∀ W v, (W : World).ownsRow (w.heap.size + 2) 3 1 v 1 [.int .i64 (1 - k)] → OneInt W v (1 - k) := fun W v h => by
    obtain ⟨g, c, rfl, -, hb⟩ := row_bx h (by decide) rfl
    exact ⟨g, c, rfl, hb⟩
  have HC := Lib.hid (show Calls Tryz.prog 185 #[.slice (some ⟨ob, 0, none⟩) 2 oc, .func (.func 186) #[] #[.pointer (some ⟨w.heap.size, 0, none⟩)]] (w.alloc (.cells (caseV k mv (.slice (some ⟨ob, 0, none⟩) 2 oc) rv).toArray 254)) fun e w' => ∃ v, e = .returned v ∧ OneInt w' v (1 - k) ∧ Below (w.heap.size + 1) (w.alloc (.cells (caseV k mv (.slice (some ⟨ob, 0, none⟩) 2 oc) rv).toArray 254)) w' from by
    have hs : (w.alloc (.cells (caseV k mv (.slice (some ⟨ob, 0, none⟩) 2 oc) rv).toArray 254)).heap.size = w.heap.size + 1 := World.size_alloc ..
    rcases (by omega : k = 0 ∨ k = 1) with rfl | rfl
    · refine (which_0 w.heap.size ob oc mv rv _ (ho.below G1) (hv.below G1) (Bx.new w (caseV 0 mv (.slice (some ⟨ob, 0, none⟩) 2 oc) rv) _)).mono ?_
      rintro e w' ⟨v, rfl, h, g⟩
      rw [hs] at h g
      exact ⟨v, rfl, hW _ _ h, g⟩
    · refine (which_1 w.heap.size ob oc mv rv _ (ho.below G1) (hv.below G1) (Bx.new w (caseV 1 mv (.slice (some ⟨ob, 0, none⟩) 2 oc) rv) _)).mono ?_
      rintro e w' ⟨v, rfl, h, g⟩
      rw [hs] at h g
      exact ⟨v, rfl, hW _ _ h, g⟩)
  clear ho hv hW
  have HC := Lib.hid (show Calls Tryz.prog 185 #[.slice (some ⟨ob, 0, none⟩) 2 oc, .func (.func 186) #[] #[.pointer (some ⟨w.heap.size, 0, none⟩)]] (w.alloc (.cells #[.int .i64 k, mv, .slice (some ⟨ob, 0, none⟩) 2 oc, rv, .slice none 0 0, .bool false, .bool false, .bool false, .bool false, .bool false] 254)) fun e w' => ∃ v, e = .returned v ∧ OneInt w' v (1 - k) ∧ Below (w.heap.size + 1) (w.alloc (.cells #[.int .i64 k, mv, .slice (some ⟨ob, 0, none⟩) 2 oc, rv, .slice none 0 0, .bool false, .bool false, .bool false, .bool false, .bool false] 254)) w' from HC.out)
  go_enter Tryz.func119, Tryz.ntmps119
  go_wp2_with (go_at_call 185; (with_reducible refine HC.out.mono ?_); rintro e w3 ⟨v3, rfl, h3, g3⟩)
  go_ret
  exact ⟨_, rfl, h3, G1.trans (g3.mono (Nat.le_succ _))⟩
theorem Bx.put10 {W : World} {b c : Nat} {x0 x1 x2 x3 x4 x5 x6 x7 x8 x9 : Value} {vs : List Value} (h : Bx W b vs) (hc : b ≠ c) : Bx ((((((((((W.setCell ⟨c, 0, none⟩ x0).setCell ⟨c, 1, none⟩ x1).setCell ⟨c, 2, none⟩ x2).setCell ⟨c, 3, none⟩ x3).setCell ⟨c, 4, none⟩ x4).setCell ⟨c, 5, none⟩ x5).setCell ⟨c, 6, none⟩ x6).setCell ⟨c, 7, none⟩ x7).setCell ⟨c, 8, none⟩ x8).setCell ⟨c, 9, none⟩ x9) b vs := (((((((((h.put hc).put hc).put hc).put hc).put hc).put hc).put hc).put hc).put hc).put hc
theorem Bx.set10 {W : World} {c : Nat} {x0 x1 x2 x3 x4 x5 x6 x7 x8 x9 : Value} {y0 y1 y2 y3 y4 y5 y6 y7 y8 y9 : Value} (h : Bx W c [y0, y1, y2, y3, y4, y5, y6, y7, y8, y9]) : Bx ((((((((((W.setCell ⟨c, 0, none⟩ x0).setCell ⟨c, 1, none⟩ x1).setCell ⟨c, 2, none⟩ x2).setCell ⟨c, 3, none⟩ x3).setCell ⟨c, 4, none⟩ x4).setCell ⟨c, 5, none⟩ x5).setCell ⟨c, 6, none⟩ x6).setCell ⟨c, 7, none⟩ x7).setCell ⟨c, 8, none⟩ x8).setCell ⟨c, 9, none⟩ x9) c [x0, x1, x2, x3, x4, x5, x6, x7, x8, x9] := (((((((((h.set (i := 0) (by simp)).set (i := 1) (by simp)).set (i := 2) (by simp)).set (i := 3) (by simp)).set (i := 4) (by simp)).set (i := 5) (by simp)).set (i := 6) (by simp)).set (i := 7) (by simp)).set (i := 8) (by simp)).set (i := 9) (by simp)
theorem below10 {w W : World} {c : Nat} {x0 x1 x2 x3 x4 x5 x6 x7 x8 x9 : Value} (h : Below w.heap.size w W) (hc : w.heap.size ≤ c) : Below w.heap.size w ((((((((((W.setCell ⟨c, 0, none⟩ x0).setCell ⟨c, 1, none⟩ x1).setCell ⟨c, 2, none⟩ x2).setCell ⟨c, 3, none⟩ x3).setCell ⟨c, 4, none⟩ x4).setCell ⟨c, 5, none⟩ x5).setCell ⟨c, 6, none⟩ x6).setCell ⟨c, 7, none⟩ x7).setCell ⟨c, 8, none⟩ x8).setCell ⟨c, 9, none⟩ x9) := (((((((((h.setCell hc x0).setCell hc x1).setCell hc x2).setCell hc x3).setCell hc x4).setCell hc x5).setCell hc x6).setCell hc x7).setCell hc x8).setCell hc x9
/-- a frame that has come in, its port and when -/
def pasV (b : Nat) (k : Nat) (now : Int) : List Value := [.pointer (some ⟨b, 0, none⟩), .string ⟨#[255, 255, 255, 255, 255, 255]⟩, .string ⟨#[2, 98, 98, 98, 98, 98]⟩, .bool true, .int .i64 10, .int .i64 0, .int .i64 99, .string ⟨#[]⟩, .int .i64 k, .int .i64 now]
set_option maxRecDepth 100000 in
set_option maxHeartbeats 16000000 in
theorem around_both {B : Brs} {T : Tre} {ch now : Int} (k : Nat) (h0 : T.p0.fwd = true) (h1 : T.p1.fwd = true) (w : World) (h : BrL w B T ch) :
    Calls Tryz.prog 120 #[.agg (pasV B.b k now).toArray] w fun e w' => ∃ mb mc ob oc, e = .returned (.agg #[.int .i64 k, .slice (some ⟨mb, 0, none⟩) 2 mc, .slice (some ⟨ob, 0, none⟩) 2 oc, .slice none 0 0, .slice none 0 0, .bool false, .bool false, .bool false, .bool false, .bool false]) ∧ Bx w' mb [.int .i64 0, .int .i64 1] ∧ Bx w' ob [.int .i64 0, .int .i64 1] ∧ Below w.heap.size w w' := by
  have H := Lib.hid h
  have HO := Lib.hid (fun (W : World) (hW : BrL W B T ch) => open_both h0 h1 W hW)
  have HM := Lib.hid (fun (W : World) (hW : BrL W B T ch) => mem_lit W hW)
  have HL := Lib.hid (fun (W : World) (hW : BrL W B T ch) => list_none B.ro B.rfm B.rhm 100 10 now W hW.ports)
  clear h h0 h1
  unfold pasV
  go_enter Tryz.func120, Tryz.ntmps120
  go_upto_region 1 with fail
  have P2 := (Bx.new w (pasV B.b k now) 125).alloc (.cells (caseV 0 (.slice none 0 0) (.slice none 0 0) (.slice none 0 0)).toArray 254)
  have C2 := Bx.new2 w (.cells (pasV B.b k now).toArray 125) (caseV 0 (.slice none 0 0) (.slice none 0 0) (.slice none 0 0)) 254
  have G2 := ball1 (bbox1 w (.cells (pasV B.b k now).toArray 125)) (.cells (caseV 0 (.slice none 0 0) (.slice none 0 0) (.slice none 0 0)).toArray 254)
  obtain ⟨n, hn⟩ : ∃ n, w.heap.size = n := ⟨_, rfl⟩
  change Code.wp _ _ _ _ ((w.alloc (.cells (pasV B.b k now).toArray 125)).alloc (.cells (caseV 0 (.slice none 0 0) (.slice none 0 0) (.slice none 0 0)).toArray 254))
  generalize (w.alloc (.cells (pasV B.b k now).toArray 125)).alloc (.cells (caseV 0 (.slice none 0 0) (.slice none 0 0) (.slice none 0 0)).toArray 254) = w2 at P2 C2 G2 ⊢
  rw [hn] at P2 C2 ⊢
  have A2 := Lib.hid (H.out.below (G2.drew))
  have HP2 := Lib.hid P2
  have HC2 := Lib.hid C2
  have HK := Lib.hid (fun (W : World) (h1 : Bx W n (pasV B.b k now)) (h2 : Bx W B.b (B.cells ch)) => (⟨h1.get 0 _ rfl, h1.get 4 _ rfl, h1.get 8 _ rfl, h1.get 9 _ rfl, h2.get 2 _ rfl, h2.get 16 _ rfl⟩ : W.cell? ⟨n, 0, none⟩ = some (.pointer (some ⟨B.b, 0, none⟩)) ∧ W.cell? ⟨n, 4, none⟩ = some (.int .i64 10) ∧ W.cell? ⟨n, 8, none⟩ = some (.int .i64 k) ∧ W.cell? ⟨n, 9, none⟩ = some (.int .i64 now) ∧ W.cell? ⟨B.b, 2, none⟩ = some (.slice (some ⟨B.pp, 0, none⟩) 2 B.pc) ∧ W.cell? ⟨B.b, 16, none⟩ = some (.pointer (some ⟨B.ro, 0, none⟩))))
  have hbn : B.b ≠ n + 1 := by have := H.out.cells.1; omega
  clear P2 C2
  go_region_held3 (fun w' => w'.cell? ⟨n, 0, none⟩ = some (.pointer (some ⟨B.b, 0, none⟩)) ∧ w'.cell? ⟨n, 4, none⟩ = some (.int .i64 10) ∧ w'.cell? ⟨n, 8, none⟩ = some (.int .i64 k) ∧ w'.cell? ⟨n, 9, none⟩ = some (.int .i64 now) ∧ w'.cell? ⟨B.b, 2, none⟩ = some (.slice (some ⟨B.pp, 0, none⟩) 2 B.pc) ∧ w'.cell? ⟨B.b, 16, none⟩ = some (.pointer (some ⟨B.ro, 0, none⟩)))
    (first | with_reducible exact HK.out _ HP2.out.drew A2.out.cells | with_reducible exact HK.out _ PA.out AA.out.cells | with_reducible exact HK.out _ PB.out AB.out.cells | with_reducible exact HK.out _ PC.out AC.out.cells | with_reducible exact HK.out _ (PC.out.put10 (Nat.ne_of_lt (Nat.lt_succ_self n))) (AC.out.cells.put10 hbn))
    (first
      | (go_at_call 187; (with_reducible refine (HM.out _ A2.out).mono ?_); rintro e wA ⟨⟨mb, mc, rfl, hmg, hmv⟩, gA⟩; have AA := Lib.hid (A2.out.below gA); have sA := gA.size; have PA := Lib.hid (HP2.out.drew.below gA); have CA := Lib.hid (HC2.out.drew.below gA); have GA := Lib.hid (G2.drew.trans (gA.mono G2.size)); have MA := Lib.hid hmv; clear gA hmv)
      | (go_at_call 188; (with_reducible refine (HO.out _ AA.out).mono ?_); rintro e wB ⟨ov, rfl, hov, gB⟩; have AB := Lib.hid (AA.out.below gB); have PB := Lib.hid (PA.out.below gB); have CB := Lib.hid (CA.out.below gB); have GB := Lib.hid (GA.out.trans (gB.mono GA.out.size)); have MB := Lib.hid (MA.out.below gB); obtain ⟨ob, oc, rfl, hog, hob⟩ := row_bx hov (by decide) rfl; have OB := Lib.hid hob; clear gB hov hob)
      | (go_at_call 189; (with_reducible refine (HL.out _ AB.out).mono ?_); rintro e wC ⟨rfl, gC⟩; have AC := Lib.hid (AB.out.below gC); have PC := Lib.hid (PB.out.below gC); have CC := Lib.hid (CB.out.below gC); have GC := Lib.hid (GB.out.trans (gC.mono GB.out.size)); have MC := Lib.hid (MB.out.below gC); have OC := Lib.hid (OB.out.below gC); clear gC; have z0 := CC.out.get 0 _ rfl; have z1 := CC.out.get 1 _ rfl; have z2 := CC.out.get 2 _ rfl; have z3 := CC.out.get 3 _ rfl; have z4 := CC.out.get 4 _ rfl; have z5 := CC.out.get 5 _ rfl; have z6 := CC.out.get 6 _ rfl; have z7 := CC.out.get 7 _ rfl; have z8 := CC.out.get 8 _ rfl; have z9 := CC.out.get 9 _ rfl; have zf := CC.out.fz))
  have hs2 : n + 2 ≤ w2.heap.size := HC2.out.1
  have hsA := AA.out.cells.1
  have CS := Lib.hid (Bx.set10 (x0 := .int .i64 k) (x1 := .slice (some ⟨mb, 0, none⟩) 2 mc) (x2 := .slice (some ⟨ob, 0, none⟩) 2 oc) (x3 := .slice none 0 0) (x4 := .slice none 0 0) (x5 := .bool false) (x6 := .bool false) (x7 := .bool false) (x8 := .bool false) (x9 := .bool false) CC.out)
  have MS := Lib.hid (Bx.put10 (c := n + 1) (x0 := .int .i64 k) (x1 := .slice (some ⟨mb, 0, none⟩) 2 mc) (x2 := .slice (some ⟨ob, 0, none⟩) 2 oc) (x3 := .slice none 0 0) (x4 := .slice none 0 0) (x5 := .bool false) (x6 := .bool false) (x7 := .bool false) (x8 := .bool false) (x9 := .bool false) MC.out (by have : w2.heap.size ≤ mb := hmg; omega))
  have OS := Lib.hid (Bx.put10 (c := n + 1) (x0 := .int .i64 k) (x1 := .slice (some ⟨mb, 0, none⟩) 2 mc) (x2 := .slice (some ⟨ob, 0, none⟩) 2 oc) (x3 := .slice none 0 0) (x4 := .slice none 0 0) (x5 := .bool false) (x6 := .bool false) (x7 := .bool false) (x8 := .bool false) (x9 := .bool false) OC.out (by have q1 : wA.heap.size ≤ ob := hog; have q2 : w2.heap.size ≤ wA.heap.size := sA; omega))
  have GS := Lib.hid (below10 (c := n + 1) (x0 := .int .i64 k) (x1 := .slice (some ⟨mb, 0, none⟩) 2 mc) (x2 := .slice (some ⟨ob, 0, none⟩) 2 oc) (x3 := .slice none 0 0) (x4 := .slice none 0 0) (x5 := .bool false) (x6 := .bool false) (x7 := .bool false) (x8 := .bool false) (x9 := .bool false) GC.out (by omega))
  clear z0 z1 z2 z3 z4 z5 z6 z7 z8 z9 zf
  generalize (((((((((wC.setCell ⟨n + 1, 0, none⟩ (.int .i64 k)).setCell ⟨n + 1, 1, none⟩ (.slice (some ⟨mb, 0, none⟩) 2 mc)).setCell ⟨n + 1, 2, none⟩ (.slice (some ⟨ob, 0, none⟩) 2 oc)).setCell ⟨n + 1, 3, none⟩ (.slice none 0 0)).setCell ⟨n + 1, 4, none⟩ (.slice none 0 0)).setCell ⟨n + 1, 5, none⟩ (.bool false)).setCell ⟨n + 1, 6, none⟩ (.bool false)).setCell ⟨n + 1, 7, none⟩ (.bool false)).setCell ⟨n + 1, 8, none⟩ (.bool false)).setCell ⟨n + 1, 9, none⟩ (.bool false) = w5 at CS MS OS GS ⊢
  have z0 := CS.out.get 0 _ rfl
  have z1 := CS.out.get 1 _ rfl
  have z2 := CS.out.get 2 _ rfl
  have z3 := CS.out.get 3 _ rfl
  have z4 := CS.out.get 4 _ rfl
  have z5 := CS.out.get 5 _ rfl
  have z6 := CS.out.get 6 _ rfl
  have z7 := CS.out.get 7 _ rfl
  have z8 := CS.out.get 8 _ rfl
  have z9 := CS.out.get 9 _ rfl
  go_wp2
  exact bodyPost_ret (v := .agg #[.int .i64 k, .slice (some ⟨mb, 0, none⟩) 2 mc, .slice (some ⟨ob, 0, none⟩) 2 oc, .slice none 0 0, .slice none 0 0, .bool false, .bool false, .bool false, .bool false, .bool false]) (by simp [results, Tryz.results120, go_sem, z0, z1, z2, z3, z4, z5, z6, z7, z8, z9]) rfl ⟨mb, mc, ob, oc, rfl, MS.out, OS.out, GS.out⟩
end Go.Proofs.YticdmepplfgdiaaGreatDoor
end
