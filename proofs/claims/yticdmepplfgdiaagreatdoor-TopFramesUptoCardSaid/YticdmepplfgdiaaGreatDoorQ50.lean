/-
  The walk of 'TopFrames': it returns true and leaves what was there alone. Conditions: the message lies in memory, its texts are short.
-/
import Derived.Test.YticdmepplfgdiaaGreatDoorQ49
import Derived.Test.YticdmepplfgdiaaGreatDoorQ48
import Derived.Test.YticdmepplfgdiaaGreatDoorQ34
import Derived.Test.YticdmepplfgdiaaGreatDoorQ14
import Derived.Test.YticdmepplfgdiaaGreatDoorQ40
set_option linter.unusedVariables false
set_option linter.unusedSimpArgs false
namespace Go.Proofs.YticdmepplfgdiaaGreatDoor
open Go.RowKit
theorem good3_natT {dst src data : ByteArray} {tg : Bool} {vl pr ty : Int} (h : Good3 dst src tg vl pr ty data) : ∃ a b c : Nat, vl = a ∧ pr = b ∧ ty = c := by
  obtain ⟨k1, k2, k3, k4, k5, k6, k7, k8, k9, k10⟩ := h
  obtain ⟨a, ha⟩ := Int.eq_ofNat_of_zero_le k4
  obtain ⟨b, hb⟩ := Int.eq_ofNat_of_zero_le k6
  obtain ⟨c, hc⟩ := Int.eq_ofNat_of_zero_le k8
  exact ⟨a, b, c, ha, hb, hc⟩
/-- what is asked of a message that comes in, whatever its lists' lengths are -/
structure MsgAt (group : ByteArray) (mx ro ev : Int) (sa ra : Option Addr) (ss : List ByteArray) (rs : List Rc) (sc rc : Nat) (w : World) : Prop where
  hs : Strs w (.slice sa ss.length sc) ss
  hv : Rcs w (.slice ra rs.length rc) rs
  gs : group.size ≤ 1048576
  ss1 : ∀ s, s ∈ ss → s.size ≤ 1048576
  ss2 : ss.length ≤ 1048576
  rl : rs.length ≤ 1048576
  rz : ∀ r, r ∈ rs → r.ss.length ≤ 1048576 ∧ r.kind ≤ 9223372036854775807
  b1 : mx ≤ 9223372036854775807
  b2 : ev ≤ 9223372036854775807
  b3 : -9223372036854775808 ≤ ro
  b4 : ro ≤ 9223372036854775807
theorem MsgAt.to {group : ByteArray} {mx ro ev : Int} (kind : Int) {sa ra : Option Addr} {ss : List ByteArray} {rs : List Rc} {sc rc : Nat} {w : World} (h : MsgAt group mx ro ev sa ra ss rs sc rc w) (h1 : rs.length ≤ 20) (h2 : ∀ r, r ∈ rs → r.ss.length ≤ 20) : MsgIn w.heap.size group mx ro ev kind sa ra ss rs sc rc w :=
  ⟨fun _ g => h.hs.below g, fun _ g => h.hv.below g, h.gs, h.ss1, h.ss2, h1, fun r hr => ⟨h2 r hr, (h.rz r hr).2⟩, h.b1, h.b2, h.b3, h.b4⟩
theorem boxes3 (w : World) (vf vp vm : List Value) (tf tp tm : TypeId) (oF oP oM : Obj) (hF : oF = .cells vf.toArray tf) (hP : oP = .cells vp.toArray tp) (hM : oM = .cells vm.toArray tm) :
    ∃ fb pb mb, w.heap.size = fb ∧ fb + 1 = pb ∧ pb + 1 = mb ∧ Bx (((w.alloc oF).alloc oP).alloc oM) fb vf ∧ Bx (((w.alloc oF).alloc oP).alloc oM) pb vp ∧ Bx (((w.alloc oF).alloc oP).alloc oM) mb vm ∧ Below w.heap.size w (((w.alloc oF).alloc oP).alloc oM) := by
  subst hF hP hM
  refine ⟨_, _, _, rfl, rfl, rfl, ((Bx.new w vf tf).alloc _).alloc _, (Bx.new2 w _ vp tp).alloc _, ?_, ball1 (ball1 (bbox1 _ _) _) _⟩
  have h := Bx.new2 (w.alloc (.cells vf.toArray tf)) (.cells vp.toArray tp) vm tm
  have e : (w.alloc (.cells vf.toArray tf)).heap.size = w.heap.size + 1 := by simp
  rw [e] at h
  exact h
set_option maxRecDepth 100000 in
set_option maxHeartbeats 4000000 in
/-- too many sources or records -/
theorem top_far (dst src : ByteArray) (tg : Bool) (vl pr ty : Int) (fd : ByteArray) (id ttl pv : Int) (s4 d4 op pd : ByteArray) (kind ver : Int) (group : ByteArray) (mx : Int) (q : Bool) (ro ev : Int) (sa ra : Option Addr) (n k sc rc : Nat) (h : 60 < n ∨ 20 < k) (w : World) :
    Calls Tryz.prog 4 #[.agg #[.string dst, .string src, .bool tg, .int .i64 vl, .int .i64 pr, .int .i64 ty, .string fd], .agg #[.int .i64 id, .int .i64 ttl, .int .i64 pv, .string s4, .string d4, .string op, .string pd], .agg #[.int .i64 kind, .int .i64 ver, .string group, .int .i64 mx, .bool q, .int .i64 ro, .int .i64 ev, .slice sa n sc, .slice ra k rc]] w fun e w' => e = .returned (.bool true) ∧ Below w.heap.size w w' := by
  have HW := Lib.hid works_true
  rcases (by omega : 60 < n ∨ (¬ 60 < n ∧ 20 < k)) with h1 | ⟨h1, h2⟩
  · have q1 : decide (60 < (n : Int)) = true := decide_eq_true (by omega)
    go_enter Tryz.func4, Tryz.ntmps4
    go_upto_region 1 with fail
    obtain ⟨fb, pb, mb, hfb, hpb, hmb, XF0, XP0, XM0, G00⟩ := boxes3 w [.string dst, .string src, .bool tg, .int .i64 vl, .int .i64 pr, .int .i64 ty, .string fd] [.int .i64 id, .int .i64 ttl, .int .i64 pv, .string s4, .string d4, .string op, .string pd] [.int .i64 kind, .int .i64 ver, .string group, .int .i64 mx, .bool q, .int .i64 ro, .int .i64 ev, .slice sa n sc, .slice ra k rc] 47 49 53 (.cells #[.string dst, .string src, .bool tg, .int .i64 vl, .int .i64 pr, .int .i64 ty, .string fd] 47) (.cells #[.int .i64 id, .int .i64 ttl, .int .i64 pv, .string s4, .string d4, .string op, .string pd] 49) (.cells #[.int .i64 kind, .int .i64 ver, .string group, .int .i64 mx, .bool q, .int .i64 ro, .int .i64 ev, .slice sa n sc, .slice ra k rc] 53) rfl rfl rfl
    change Code.wp _ _ _ _ (((w.alloc (.cells #[.string dst, .string src, .bool tg, .int .i64 vl, .int .i64 pr, .int .i64 ty, .string fd] 47)).alloc (.cells #[.int .i64 id, .int .i64 ttl, .int .i64 pv, .string s4, .string d4, .string op, .string pd] 49)).alloc (.cells #[.int .i64 kind, .int .i64 ver, .string group, .int .i64 mx, .bool q, .int .i64 ro, .int .i64 ev, .slice sa n sc, .slice ra k rc] 53))
    generalize (((w.alloc (.cells #[.string dst, .string src, .bool tg, .int .i64 vl, .int .i64 pr, .int .i64 ty, .string fd] 47)).alloc (.cells #[.int .i64 id, .int .i64 ttl, .int .i64 pv, .string s4, .string d4, .string op, .string pd] 49)).alloc (.cells #[.int .i64 kind, .int .i64 ver, .string group, .int .i64 mx, .bool q, .int .i64 ro, .int .i64 ev, .slice sa n sc, .slice ra k rc] 53)) = W0 at XF0 XP0 XM0 G00 ⊢
    rw [hfb, hpb, hmb]
    have XF := Lib.hid XF0
    have XP := Lib.hid XP0
    have XM := Lib.hid XM0
    have G0 := Lib.hid G00
    have HFB := Lib.hid hfb
    have hfp : fb < pb := by omega
    have hpm : pb < mb := by omega
    have hmz := XM0.1
    have s0 := G00.size
    clear XF0 XP0 XM0 G00 hfb hpb hmb
    have c7 := XM.out.get 7 _ rfl
    have c8 := XM.out.get 8 _ rfl
    go_wp2_with (go_at_call 6; (with_reducible refine (HW.out _).mono ?_); rintro e wk ⟨rfl, gk⟩)
    go_ret
    exact ⟨rfl, G0.out.trans (gk.mono s0)⟩
  · have q1 : decide (60 < (n : Int)) = false := decide_eq_false (by omega)
    have q2 : decide (20 < (k : Int)) = true := decide_eq_true (by omega)
    go_enter Tryz.func4, Tryz.ntmps4
    go_upto_region 1 with fail
    obtain ⟨fb, pb, mb, hfb, hpb, hmb, XF0, XP0, XM0, G00⟩ := boxes3 w [.string dst, .string src, .bool tg, .int .i64 vl, .int .i64 pr, .int .i64 ty, .string fd] [.int .i64 id, .int .i64 ttl, .int .i64 pv, .string s4, .string d4, .string op, .string pd] [.int .i64 kind, .int .i64 ver, .string group, .int .i64 mx, .bool q, .int .i64 ro, .int .i64 ev, .slice sa n sc, .slice ra k rc] 47 49 53 (.cells #[.string dst, .string src, .bool tg, .int .i64 vl, .int .i64 pr, .int .i64 ty, .string fd] 47) (.cells #[.int .i64 id, .int .i64 ttl, .int .i64 pv, .string s4, .string d4, .string op, .string pd] 49) (.cells #[.int .i64 kind, .int .i64 ver, .string group, .int .i64 mx, .bool q, .int .i64 ro, .int .i64 ev, .slice sa n sc, .slice ra k rc] 53) rfl rfl rfl
    change Code.wp _ _ _ _ (((w.alloc (.cells #[.string dst, .string src, .bool tg, .int .i64 vl, .int .i64 pr, .int .i64 ty, .string fd] 47)).alloc (.cells #[.int .i64 id, .int .i64 ttl, .int .i64 pv, .string s4, .string d4, .string op, .string pd] 49)).alloc (.cells #[.int .i64 kind, .int .i64 ver, .string group, .int .i64 mx, .bool q, .int .i64 ro, .int .i64 ev, .slice sa n sc, .slice ra k rc] 53))
    generalize (((w.alloc (.cells #[.string dst, .string src, .bool tg, .int .i64 vl, .int .i64 pr, .int .i64 ty, .string fd] 47)).alloc (.cells #[.int .i64 id, .int .i64 ttl, .int .i64 pv, .string s4, .string d4, .string op, .string pd] 49)).alloc (.cells #[.int .i64 kind, .int .i64 ver, .string group, .int .i64 mx, .bool q, .int .i64 ro, .int .i64 ev, .slice sa n sc, .slice ra k rc] 53)) = W0 at XF0 XP0 XM0 G00 ⊢
    rw [hfb, hpb, hmb]
    have XF := Lib.hid XF0
    have XP := Lib.hid XP0
    have XM := Lib.hid XM0
    have G0 := Lib.hid G00
    have HFB := Lib.hid hfb
    have hfp : fb < pb := by omega
    have hpm : pb < mb := by omega
    have hmz := XM0.1
    have s0 := G00.size
    clear XF0 XP0 XM0 G00 hfb hpb hmb
    have c7 := XM.out.get 7 _ rfl
    have c8 := XM.out.get 8 _ rfl
    go_wp2_with (go_at_call 6; (with_reducible refine (HW.out _).mono ?_); rintro e wk ⟨rfl, gk⟩)
    go_ret
    exact ⟨rfl, G0.out.trans (gk.mono s0)⟩
/-- igmp.Encode's answer in one form -/
theorem igenc_one {n0 : Nat} (kind ver : Int) (group : ByteArray) (mx : Int) (q : Bool) (ro ev : Int) (sa ra : Option Addr) (ss : List ByteArray) (rs : List Rc) (sc rc : Nat) (w : World) (hM : MsgIn n0 group mx ro ev kind sa ra ss rs sc rc w) (hn : n0 ≤ w.heap.size) :
    Calls Tryz.prog 13 #[.agg #[.int .i64 kind, .int .i64 ver, .string group, .int .i64 mx, .bool q, .int .i64 ro, .int .i64 ev, .slice sa ss.length sc, .slice ra rs.length rc]] w fun e w' => ∃ s x, e = .returned (.tuple #[.string s, .int .i64 x]) ∧ (x = 1 ∨ (x = 0 ∧ ∃ l, EncG kind ver group mx q ro ev ss rs l ∧ s = Cs.filled ⟨#[]⟩ ⟨l.toArray⟩ 2)) ∧ Below w.heap.size w w' := by
  refine (igenc_any kind ver group mx q ro ev sa ra ss rs sc rc w hM hn).mono ?_
  rintro e w' ⟨rfl | ⟨l, h1, h2, rfl⟩, g⟩
  · exact ⟨_, _, rfl, .inl rfl, g⟩
  · exact ⟨_, _, rfl, .inr ⟨rfl, l, h1, rfl⟩, g⟩
set_option maxRecDepth 100000 in
set_option maxHeartbeats 8000000 in
theorem top_near (dst src : ByteArray) (tg : Bool) (vl pr ty : Int) (fd : ByteArray) (id ttl pv : Int) (s4 d4 op pd : ByteArray) (kind ver : Int) (group : ByteArray) (mx : Int) (q : Bool) (ro ev : Int) (sa ra : Option Addr) (ss : List ByteArray) (rs : List Rc) (sc rc : Nat) (h1 : ss.length ≤ 60) (h2 : rs.length ≤ 20) (zo : op.size ≤ 140737488351232) (i1 : id ≤ 9223372036854775807) (i2 : ttl ≤ 9223372036854775807) (i3 : pv ≤ 9223372036854775807) (w : World) (hA : MsgAt group mx ro ev sa ra ss rs sc rc w) :
    Calls Tryz.prog 4 #[.agg #[.string dst, .string src, .bool tg, .int .i64 vl, .int .i64 pr, .int .i64 ty, .string fd], .agg #[.int .i64 id, .int .i64 ttl, .int .i64 pv, .string s4, .string d4, .string op, .string pd], .agg #[.int .i64 kind, .int .i64 ver, .string group, .int .i64 mx, .bool q, .int .i64 ro, .int .i64 ev, .slice sa ss.length sc, .slice ra rs.length rc]] w fun e w' => e = .returned (.bool true) ∧ Below w.heap.size w w' := by
  have HW := Lib.hid works_true
  have HA := Lib.hid hA
  have hvr := hA.hv
  obtain ⟨ra2, rc2, hve, hS, hrow⟩ := hvr
  cases hve
  have q1 : decide (60 < (ss.length : Int)) = false := decide_eq_false (by omega)
  have q2 : decide (20 < (rs.length : Int)) = false := decide_eq_false (by omega)
  clear hA hS
  go_enter Tryz.func4, Tryz.ntmps4
  go_upto_region 1 with fail
  obtain ⟨fb, pb, mb, hfb, hpb, hmb, XF0, XP0, XM0, G00⟩ := boxes3 w [.string dst, .string src, .bool tg, .int .i64 vl, .int .i64 pr, .int .i64 ty, .string fd] [.int .i64 id, .int .i64 ttl, .int .i64 pv, .string s4, .string d4, .string op, .string pd] [.int .i64 kind, .int .i64 ver, .string group, .int .i64 mx, .bool q, .int .i64 ro, .int .i64 ev, .slice sa ss.length sc, .slice ra rs.length rc] 47 49 53 (.cells #[.string dst, .string src, .bool tg, .int .i64 vl, .int .i64 pr, .int .i64 ty, .string fd] 47) (.cells #[.int .i64 id, .int .i64 ttl, .int .i64 pv, .string s4, .string d4, .string op, .string pd] 49) (.cells #[.int .i64 kind, .int .i64 ver, .string group, .int .i64 mx, .bool q, .int .i64 ro, .int .i64 ev, .slice sa ss.length sc, .slice ra rs.length rc] 53) rfl rfl rfl
  change Code.wp _ _ _ _ (((w.alloc (.cells #[.string dst, .string src, .bool tg, .int .i64 vl, .int .i64 pr, .int .i64 ty, .string fd] 47)).alloc (.cells #[.int .i64 id, .int .i64 ttl, .int .i64 pv, .string s4, .string d4, .string op, .string pd] 49)).alloc (.cells #[.int .i64 kind, .int .i64 ver, .string group, .int .i64 mx, .bool q, .int .i64 ro, .int .i64 ev, .slice sa ss.length sc, .slice ra rs.length rc] 53))
  generalize (((w.alloc (.cells #[.string dst, .string src, .bool tg, .int .i64 vl, .int .i64 pr, .int .i64 ty, .string fd] 47)).alloc (.cells #[.int .i64 id, .int .i64 ttl, .int .i64 pv, .string s4, .string d4, .string op, .string pd] 49)).alloc (.cells #[.int .i64 kind, .int .i64 ver, .string group, .int .i64 mx, .bool q, .int .i64 ro, .int .i64 ev, .slice sa ss.length sc, .slice ra rs.length rc] 53)) = W0 at XF0 XP0 XM0 G00 ⊢
  rw [hfb, hpb, hmb]
  have XF := Lib.hid XF0
  have XP := Lib.hid XP0
  have XM := Lib.hid XM0
  have G0 := Lib.hid G00
  have HFB := Lib.hid hfb
  have hfp : fb < pb := by omega
  have hpm : pb < mb := by omega
  have hmz := XM0.1
  have s0 := G00.size
  clear XF0 XP0 XM0 G00 hfb hpb hmb
  have c7 := XM.out.get 7 _ rfl
  have c8 := XM.out.get 8 _ rfl
  have hrow : rs = [] ∨ ∃ b o, ra = some ⟨b, o, none⟩ ∧ b < w.heap.size ∧ ∀ i r, rs[i]? = some r → W0.cell? ⟨b, o + i * 3 + 2, none⟩ = some (.slice r.sa r.ss.length r.sc) := by
    rcases hrow with h | ⟨b, o, e, hb, hc⟩
    · exact .inl h
    · exact .inr ⟨b, o, e, hb, fun i r hi => (G0.out.cell hb).trans (hc i r hi).2.2⟩
  go_wp2
  go_loopw [6, 7] (fun _ i wr => ∃ k : Nat, k ≤ rs.length ∧ i = .int .i64 k ∧ Hid (∀ j r, j < k → rs[j]? = some r → r.ss.length ≤ 20) ∧ W0 = wr) (fun _ i _ => rs.length + 1 - (intOf i).toNat)
  case atStart => exact ⟨0, Nat.zero_le _, rfl, fun j x hj => absurd hj (Nat.not_lt_zero _), rfl⟩
  case round =>
    obtain ⟨k, hk, rfl, hno, rfl⟩ := hrel
    by_cases hlt : k < rs.length
    · obtain ⟨b, o, rfl, hb, hc⟩ := hrow.resolve_left (by rintro rfl; exact absurd hlt (Nat.not_lt_zero _))
      obtain ⟨r, hr⟩ : ∃ r, rs[k]? = some r := ⟨_, List.getElem?_eq_getElem hlt⟩
      have e2 := hc k r hr
      have hlt2 : (k : Int) < (rs.length : Int) := by omega
      have h0' : (0 : Int) ≤ (k : Int) := by omega
      by_cases c3 : 20 < r.ss.length
      · have q3 : decide (20 < (r.ss.length : Int)) = true := decide_eq_true (by omega)
        clear hrow hc hno hr c3
        go_wp2_with (go_at_call 6; (with_reducible refine (HW.out _).mono ?_); rintro e wk ⟨rfl, gk⟩)
        go_ret
        exact ⟨rfl, G0.out.trans (gk.mono s0)⟩
      · have q3 : decide (20 < (r.ss.length : Int)) = false := decide_eq_false (by omega)
        have HN := Lib.hid (show ∀ j y, j < k + 1 → rs[j]? = some y → y.ss.length ≤ 20 from fun j y hj hy => by
          rcases Nat.lt_succ_iff_lt_or_eq.1 hj with h2 | rfl
          · exact hno.out j y h2 hy
          · rw [hr] at hy; obtain rfl := Option.some.inj hy; omega)
        clear hrow hc hno hr c3
        go_wp2
        refine ⟨⟨k + 1, by omega, by go_num, HN, trivial⟩, ?_⟩
        simp [intOf]; omega
    · have h20 : ∀ r, r ∈ rs → r.ss.length ≤ 20 := fun r hr => by
        obtain ⟨j, hj, rfl⟩ := List.getElem_of_mem hr
        exact hno.out j _ (by omega) (List.getElem?_eq_getElem hj)
      have hM := (HA.out.to kind h2 h20).on G0.out
      have HE := Lib.hid (igenc_one kind ver group mx q ro ev sa ra ss rs sc rc W0 hM s0)
      have HI := Lib.hid hM
      have H20 := Lib.hid h20
      have hle : rs.length ≤ k := by omega
      clear hrow hno hM h20
      obtain ⟨n0, hn0⟩ : ∃ x, x = w.heap.size := ⟨_, rfl⟩
      have c0 := XM.out.get 0 _ rfl; have c1 := XM.out.get 1 _ rfl; have c2 := XM.out.get 2 _ rfl; have c3 := XM.out.get 3 _ rfl; have c4 := XM.out.get 4 _ rfl; have c5 := XM.out.get 5 _ rfl; have c6 := XM.out.get 6 _ rfl; have c7 := XM.out.get 7 _ rfl; have c8 := XM.out.get 8 _ rfl
      go_upto_region 9 with (go_at_call 13; (with_reducible refine HE.out.mono ?_); rintro e w1 ⟨s, x, rfl, hx, g1⟩; have HX := Lib.hid hx; have XF1 := Lib.hid (XF.out.below g1); have XP1 := Lib.hid (XP.out.below g1); have XM1 := Lib.hid (XM.out.below g1); have G1 := Lib.hid (G0.out.trans (g1.mono s0)); have s1 := G1.out.size; have z1 := g1.size; clear hx g1)
      clear c0 c1 c2 c3 c4 c5 c6 c7 c8
      rcases HX.out with rfl | ⟨rfl, l, hE, hl⟩
      · go_wp2_with (go_at_call 6; (with_reducible refine (HW.out _).mono ?_); rintro e wk ⟨rfl, gk⟩)
        go_ret
        exact ⟨rfl, G1.out.trans (gk.mono s1)⟩
      · have HEG := Lib.hid hE
        have HL := Lib.hid hl
        clear hE hl HX
        go_upto_region 11 with fail
        have c6 := XP1.out.get 6 _ rfl
        have cf := XP1.out.fz
        go_upto_region 12 with fail
        have XF2 := Lib.hid (XF1.out.put (c := pb) (o := 6) (x := .string s) (by omega))
        have XP2 := Lib.hid (XP1.out.set (i := 6) (x := .string s) (by simp))
        have XM2 := Lib.hid (XM1.out.put (c := pb) (o := 6) (x := .string s) (by omega))
        have G2 := Lib.hid (G1.out.setCell (p := ⟨pb, 6, none⟩) (by show w.heap.size ≤ pb; have := HFB.out; omega) (.string s))
        generalize w1.setCell ⟨pb, 6, none⟩ (.string s) = w2 at XF2 XP2 XM2 G2 ⊢
        have s2 := G2.out.size
        clear c6 cf XF1 XP1 XM1 G1 s1
        rcases enc4_case id ttl pv s4 d4 op s i1 i2 i3 zo with hV | ⟨i, t, p, d0, d1, u, rfl, rfl, rfl, y1, y2, y3, y4, j1, j2, j3, m1, hV, dS, zS, hsum⟩
        · have p0 := XP2.out.get 0 _ rfl; have p1 := XP2.out.get 1 _ rfl; have p2 := XP2.out.get 2 _ rfl; have p3 := XP2.out.get 3 _ rfl; have p4 := XP2.out.get 4 _ rfl; have p5 := XP2.out.get 5 _ rfl; have p6 := XP2.out.get 6 _ rfl
          go_wp2_with (first | (go_at_call 14; (with_reducible refine (hV.to _).mono ?_); rintro e w3 ⟨rfl, g3⟩) | (go_at_call 6; (with_reducible refine (HW.out _).mono ?_); rintro e wk ⟨rfl, gk⟩))
          go_ret
          have G3 := G2.out.trans (g3.mono s2)
          exact ⟨rfl, G3.trans (gk.mono G3.size)⟩
        · have hD4 : Dec4 u (v4 i t p s4 d4 op s) 0 := dec4_enc u s4 d4 op s 0 d0 d1 i t p [] y1 y2 y3 y4 j1 j2 j3 m1 (by rw [dS, List.append_nil]) hsum (by rw [zS]; exact Nat.le_trans m1 (by decide))
          unfold v4 at hD4
          have zu : u.size ≤ 140737488351232 := by rw [zS]; exact Nat.le_trans m1 (by decide)
          clear y1 y2 y3 y4 j1 j2 j3 m1 dS zS hsum i1 i2 i3 zo
          have p0 := XP2.out.get 0 _ rfl; have p1 := XP2.out.get 1 _ rfl; have p2 := XP2.out.get 2 _ rfl; have p3 := XP2.out.get 3 _ rfl; have p4 := XP2.out.get 4 _ rfl; have p5 := XP2.out.get 5 _ rfl; have p6 := XP2.out.get 6 _ rfl
          go_upto_region 13 with (go_at_call 14; (with_reducible refine (hV.to _).mono ?_); rintro e w3 ⟨rfl, g3⟩; have XF3 := Lib.hid (XF2.out.below g3); have XP3 := Lib.hid (XP2.out.below g3); have XM3 := Lib.hid (XM2.out.below g3); have G3 := Lib.hid (G2.out.trans (g3.mono G2.out.size)); have s3 := G3.out.size; clear g3; clear p0 p1 p2 p3 p4 p5 p6 XF2 XP2 XM2 G2 s2)
          go_upto_region 15 with fail
          have c6 := XF3.out.get 6 _ rfl
          have cf := XF3.out.fz
          go_upto_region 16 with fail
          have XF4 := Lib.hid (XF3.out.set (i := 6) (x := .string u) (by simp))
          have XP4 := Lib.hid (XP3.out.put (c := fb) (o := 6) (x := .string u) (by omega))
          have XM4 := Lib.hid (XM3.out.put (c := fb) (o := 6) (x := .string u) (by omega))
          have G4 := Lib.hid (G3.out.setCell (p := ⟨fb, 6, none⟩) (by show w.heap.size ≤ fb; have := HFB.out; omega) (.string u))
          generalize w3.setCell ⟨fb, 6, none⟩ (.string u) = w4 at XF4 XP4 XM4 G4 ⊢
          have s4 := G4.out.size
          clear c6 cf XF3 XP3 XM3 G3 s3
          by_cases hg : Good3 dst src tg vl pr ty u
          · obtain ⟨vl, pr, ty, rfl, rfl, rfl⟩ := good3_natT hg
            have hE3 := ence_ok dst src u tg vl pr ty hg
            have hD3 := dec_enc dst src u tg vl pr ty hg
            generalize (⟨(Et.enc dst.data.toList src.data.toList tg vl pr ty u.data.toList).toArray⟩ : ByteArray) = U at hE3 hD3
            unfold fr at hD3
            clear hg zu hV
            have f0 := XF4.out.get 0 _ rfl; have f1 := XF4.out.get 1 _ rfl; have f2 := XF4.out.get 2 _ rfl; have f3 := XF4.out.get 3 _ rfl; have f4 := XF4.out.get 4 _ rfl; have f5 := XF4.out.get 5 _ rfl; have f6 := XF4.out.get 6 _ rfl
            go_upto_region 17 with (go_at_call 15; (with_reducible refine (hE3.to _).mono ?_); rintro e w5 ⟨rfl, g5⟩; have XF5 := Lib.hid (XF4.out.below g5); have XP5 := Lib.hid (XP4.out.below g5); have XM5 := Lib.hid (XM4.out.below g5); have G5 := Lib.hid (G4.out.trans (g5.mono G4.out.size)); have s5 := G5.out.size; clear g5; clear f0 f1 f2 f3 f4 f5 f6 XF4 XP4 XM4 G4 s4)
            go_upto_region 19 with fail
            go_upto_region 20 with (go_at_call 16; (with_reducible refine (hD3.to _).mono ?_); rintro e w6 ⟨rfl, g6⟩; have XF6 := Lib.hid (XF5.out.below g6); have XP6 := Lib.hid (XP5.out.below g6); have XM6 := Lib.hid (XM5.out.below g6); have G6 := Lib.hid (G5.out.trans (g6.mono G5.out.size)); have s6 := G6.out.size; clear g6; clear XF5 XP5 XM5 G5 s5)
            have XF7 := Lib.hid (XF6.out.alloc (.cells #[.string dst, .string src, .bool tg, .int .i64 vl, .int .i64 pr, .int .i64 ty, .string u] 47))
            have XP7 := Lib.hid (XP6.out.alloc (.cells #[.string dst, .string src, .bool tg, .int .i64 vl, .int .i64 pr, .int .i64 ty, .string u] 47))
            have XM7 := Lib.hid (XM6.out.alloc (.cells #[.string dst, .string src, .bool tg, .int .i64 vl, .int .i64 pr, .int .i64 ty, .string u] 47))
            have XX0 := Lib.hid (Bx.new w6 [.string dst, .string src, .bool tg, .int .i64 vl, .int .i64 pr, .int .i64 ty, .string u] 47)
            have G7 := Lib.hid (ball1 G6.out (.cells #[.string dst, .string src, .bool tg, .int .i64 vl, .int .i64 pr, .int .i64 ty, .string u] 47))
            obtain ⟨xb, hxb⟩ : ∃ x, w6.heap.size = x := ⟨_, rfl⟩
            change Code.wp _ _ _ _ (w6.alloc (.cells #[.string dst, .string src, .bool tg, .int .i64 vl, .int .i64 pr, .int .i64 ty, .string u] 47))
            generalize w6.alloc (.cells #[.string dst, .string src, .bool tg, .int .i64 vl, .int .i64 pr, .int .i64 ty, .string u] 47) = w7 at XF7 XP7 XM7 XX0 G7 ⊢
            rw [hxb] at XX0 ⊢
            have XX7 := XX0
            have s7 := G7.out.size
            clear XX0 XF6 XP6 XM6 G6 s6 hxb
            have x6 := XX7.out.get 6 _ rfl
            go_upto_region 21 with (go_at_call 17; (with_reducible refine (hD4.to _).mono ?_); rintro e w8 ⟨rfl, g8⟩; have XF8 := Lib.hid (XF7.out.below g8); have XP8 := Lib.hid (XP7.out.below g8); have XM8 := Lib.hid (XM7.out.below g8); have XX8 := Lib.hid (XX7.out.below g8); have G8 := Lib.hid (G7.out.trans (g8.mono G7.out.size)); have s8 := G8.out.size; clear g8; clear x6 XF7 XP7 XM7 XX7 G7 s7)
            have XF9 := Lib.hid (XF8.out.alloc (.cells #[.int .i64 i, .int .i64 t, .int .i64 p, .string s4, .string d4, .string op, .string s] 49))
            have XP9 := Lib.hid (XP8.out.alloc (.cells #[.int .i64 i, .int .i64 t, .int .i64 p, .string s4, .string d4, .string op, .string s] 49))
            have XM9 := Lib.hid (XM8.out.alloc (.cells #[.int .i64 i, .int .i64 t, .int .i64 p, .string s4, .string d4, .string op, .string s] 49))
            have XX9 := Lib.hid (XX8.out.alloc (.cells #[.int .i64 i, .int .i64 t, .int .i64 p, .string s4, .string d4, .string op, .string s] 49))
            have XY0 := Lib.hid (Bx.new w8 [.int .i64 i, .int .i64 t, .int .i64 p, .string s4, .string d4, .string op, .string s] 49)
            have G9 := Lib.hid (ball1 G8.out (.cells #[.int .i64 i, .int .i64 t, .int .i64 p, .string s4, .string d4, .string op, .string s] 49))
            obtain ⟨yb, hyb⟩ : ∃ x, w8.heap.size = x := ⟨_, rfl⟩
            change Code.wp _ _ _ _ (w8.alloc (.cells #[.int .i64 i, .int .i64 t, .int .i64 p, .string s4, .string d4, .string op, .string s] 49))
            generalize w8.alloc (.cells #[.int .i64 i, .int .i64 t, .int .i64 p, .string s4, .string d4, .string op, .string s] 49) = w9 at XF9 XP9 XM9 XX9 XY0 G9 ⊢
            rw [hyb] at XY0 ⊢
            have XY9 := XY0
            have s9 := G9.out.size
            clear XY0 XF8 XP8 XM8 XX8 G8 s8 hyb
            have y6 := XY9.out.get 6 _ rfl
            have HB := Lib.hid (fun (W : World) => show Calls Tryz.prog 18 #[.string s] W fun e w' => ∃ v, e = .returned v ∧ Back8 kind ver group mx q ro ev ss rs W v w' by rw [HL.out]; exact igback kind ver group mx q ro ev ss rs l HEG.out h2 W)
            go_upto_region 22 with (go_at_call 18; (with_reducible refine (HB.out _).mono ?_); rintro e w10 ⟨_, rfl, l9, a9, k9, a8, k8, hk, rfl, hs9, hv9, g10⟩; have HK := Lib.hid hk; have HS9 := Lib.hid hs9; have HV9 := Lib.hid hv9; clear hk hs9 hv9; have XF10 := Lib.hid (XF9.out.below g10); have XP10 := Lib.hid (XP9.out.below g10); have XM10 := Lib.hid (XM9.out.below g10); have XX10 := Lib.hid (XX9.out.below g10); have XY10 := Lib.hid (XY9.out.below g10); have G10 := Lib.hid (G9.out.trans (g10.mono G9.out.size)); have s10 := G10.out.size; clear g10; clear y6 XF9 XP9 XM9 XX9 XY9 G9 s9)
            have XF11 := Lib.hid (XF10.out.alloc (.cells #[.int .i64 kind, .int .i64 ver, .string group, .int .i64 mx, .bool q, .int .i64 ro, .int .i64 ev, .slice a9 ss.length k9, .slice a8 l9.length k8] 53))
            have XP11 := Lib.hid (XP10.out.alloc (.cells #[.int .i64 kind, .int .i64 ver, .string group, .int .i64 mx, .bool q, .int .i64 ro, .int .i64 ev, .slice a9 ss.length k9, .slice a8 l9.length k8] 53))
            have XM11 := Lib.hid (XM10.out.alloc (.cells #[.int .i64 kind, .int .i64 ver, .string group, .int .i64 mx, .bool q, .int .i64 ro, .int .i64 ev, .slice a9 ss.length k9, .slice a8 l9.length k8] 53))
            have XX11 := Lib.hid (XX10.out.alloc (.cells #[.int .i64 kind, .int .i64 ver, .string group, .int .i64 mx, .bool q, .int .i64 ro, .int .i64 ev, .slice a9 ss.length k9, .slice a8 l9.length k8] 53))
            have XY11 := Lib.hid (XY10.out.alloc (.cells #[.int .i64 kind, .int .i64 ver, .string group, .int .i64 mx, .bool q, .int .i64 ro, .int .i64 ev, .slice a9 ss.length k9, .slice a8 l9.length k8] 53))
            have XZ0 := Lib.hid (Bx.new w10 [.int .i64 kind, .int .i64 ver, .string group, .int .i64 mx, .bool q, .int .i64 ro, .int .i64 ev, .slice a9 ss.length k9, .slice a8 l9.length k8] 53)
            have G11 := Lib.hid (ball1 G10.out (.cells #[.int .i64 kind, .int .i64 ver, .string group, .int .i64 mx, .bool q, .int .i64 ro, .int .i64 ev, .slice a9 ss.length k9, .slice a8 l9.length k8] 53))
            obtain ⟨zb, hzb⟩ : ∃ x, w10.heap.size = x := ⟨_, rfl⟩
            change Code.wp _ _ _ _ (w10.alloc (.cells #[.int .i64 kind, .int .i64 ver, .string group, .int .i64 mx, .bool q, .int .i64 ro, .int .i64 ev, .slice a9 ss.length k9, .slice a8 l9.length k8] 53))
            have HS10 := Lib.hid (HS9.out.below (bbox1 w10 (.cells #[.int .i64 kind, .int .i64 ver, .string group, .int .i64 mx, .bool q, .int .i64 ro, .int .i64 ev, .slice a9 ss.length k9, .slice a8 l9.length k8] 53)))
            have HV10 := Lib.hid (HV9.out.below (bbox1 w10 (.cells #[.int .i64 kind, .int .i64 ver, .string group, .int .i64 mx, .bool q, .int .i64 ro, .int .i64 ev, .slice a9 ss.length k9, .slice a8 l9.length k8] 53)))
            generalize w10.alloc (.cells #[.int .i64 kind, .int .i64 ver, .string group, .int .i64 mx, .bool q, .int .i64 ro, .int .i64 ev, .slice a9 ss.length k9, .slice a8 l9.length k8] 53) = w11 at XF11 XP11 XM11 XX11 XY11 XZ0 G11 HS10 HV10 ⊢
            rw [hzb] at XZ0 ⊢
            have XZ11 := XZ0
            have s11 := G11.out.size
            clear XZ0 XF10 XP10 XM10 XX10 XY10 G10 s10 hzb
            have HC := Lib.hid (same_is kind ver mx ro ev group q sa a9 ra a8 sc k9 rc k8 ss rs l9 HK.out HA.out.ss2 HA.out.rl (fun r hr => (HA.out.rz r hr).1) w11 HS10.out (HA.out.hs.below G11.out) HV10.out (HA.out.hv.below G11.out))
            clear HK HS9 HV9 HS10 HV10 HB HL HEG hD3 hD4 hE3 HI H20 HE
            have f_0 := XF11.out.get 0 _ rfl; have f_1 := XF11.out.get 1 _ rfl; have f_2 := XF11.out.get 2 _ rfl; have f_3 := XF11.out.get 3 _ rfl; have f_4 := XF11.out.get 4 _ rfl; have f_5 := XF11.out.get 5 _ rfl; have f_6 := XF11.out.get 6 _ rfl
            have p_0 := XP11.out.get 0 _ rfl; have p_1 := XP11.out.get 1 _ rfl; have p_2 := XP11.out.get 2 _ rfl; have p_3 := XP11.out.get 3 _ rfl; have p_4 := XP11.out.get 4 _ rfl; have p_5 := XP11.out.get 5 _ rfl; have p_6 := XP11.out.get 6 _ rfl
            have m_0 := XM11.out.get 0 _ rfl; have m_1 := XM11.out.get 1 _ rfl; have m_2 := XM11.out.get 2 _ rfl; have m_3 := XM11.out.get 3 _ rfl; have m_4 := XM11.out.get 4 _ rfl; have m_5 := XM11.out.get 5 _ rfl; have m_6 := XM11.out.get 6 _ rfl; have m_7 := XM11.out.get 7 _ rfl; have m_8 := XM11.out.get 8 _ rfl
            have x_0 := XX11.out.get 0 _ rfl; have x_1 := XX11.out.get 1 _ rfl; have x_2 := XX11.out.get 2 _ rfl; have x_3 := XX11.out.get 3 _ rfl; have x_4 := XX11.out.get 4 _ rfl; have x_5 := XX11.out.get 5 _ rfl; have x_6 := XX11.out.get 6 _ rfl
            have y_0 := XY11.out.get 0 _ rfl; have y_1 := XY11.out.get 1 _ rfl; have y_2 := XY11.out.get 2 _ rfl; have y_3 := XY11.out.get 3 _ rfl; have y_4 := XY11.out.get 4 _ rfl; have y_5 := XY11.out.get 5 _ rfl; have y_6 := XY11.out.get 6 _ rfl
            have z_0 := XZ11.out.get 0 _ rfl; have z_1 := XZ11.out.get 1 _ rfl; have z_2 := XZ11.out.get 2 _ rfl; have z_3 := XZ11.out.get 3 _ rfl; have z_4 := XZ11.out.get 4 _ rfl; have z_5 := XZ11.out.get 5 _ rfl; have z_6 := XZ11.out.get 6 _ rfl; have z_7 := XZ11.out.get 7 _ rfl; have z_8 := XZ11.out.get 8 _ rfl
            go_wp2_with (first | (go_at_call 19; (with_reducible refine HC.out.mono ?_); rintro e w12 ⟨rfl, g12⟩) | (go_at_call 6; (with_reducible refine (HW.out _).mono ?_); rintro e wk ⟨rfl, gk⟩))
            go_ret
            have G12 := G11.out.trans (g12.mono s11)
            exact ⟨rfl, G12.trans (gk.mono G12.size)⟩
          · have hE3 := ence_arg dst src u tg vl pr ty zu hg
            clear hg zu hV hD4
            have f0 := XF4.out.get 0 _ rfl; have f1 := XF4.out.get 1 _ rfl; have f2 := XF4.out.get 2 _ rfl; have f3 := XF4.out.get 3 _ rfl; have f4 := XF4.out.get 4 _ rfl; have f5 := XF4.out.get 5 _ rfl; have f6 := XF4.out.get 6 _ rfl
            go_wp2_with (first | (go_at_call 15; (with_reducible refine (hE3.to _).mono ?_); rintro e w5 ⟨rfl, g5⟩) | (go_at_call 6; (with_reducible refine (HW.out _).mono ?_); rintro e wk ⟨rfl, gk⟩))
            go_ret
            have G5 := G4.out.trans (g5.mono s4)
            exact ⟨rfl, G5.trans (gk.mono G5.size)⟩
theorem top_walk (dst src : ByteArray) (tg : Bool) (vl pr ty : Int) (fd : ByteArray) (id ttl pv : Int) (s4 d4 op pd : ByteArray) (kind ver : Int) (group : ByteArray) (mx : Int) (q : Bool) (ro ev : Int) (sa ra : Option Addr) (ss : List ByteArray) (rs : List Rc) (sc rc : Nat) (zo : op.size ≤ 140737488351232) (i1 : id ≤ 9223372036854775807) (i2 : ttl ≤ 9223372036854775807) (i3 : pv ≤ 9223372036854775807) (w : World) (hA : MsgAt group mx ro ev sa ra ss rs sc rc w) :
    Calls Tryz.prog 4 #[.agg #[.string dst, .string src, .bool tg, .int .i64 vl, .int .i64 pr, .int .i64 ty, .string fd], .agg #[.int .i64 id, .int .i64 ttl, .int .i64 pv, .string s4, .string d4, .string op, .string pd], .agg #[.int .i64 kind, .int .i64 ver, .string group, .int .i64 mx, .bool q, .int .i64 ro, .int .i64 ev, .slice sa ss.length sc, .slice ra rs.length rc]] w fun e w' => e = .returned (.bool true) ∧ Below w.heap.size w w' := by
  by_cases h : 60 < ss.length ∨ 20 < rs.length
  · exact top_far dst src tg vl pr ty fd id ttl pv s4 d4 op pd kind ver group mx q ro ev sa ra ss.length rs.length sc rc h w
  · exact top_near dst src tg vl pr ty fd id ttl pv s4 d4 op pd kind ver group mx q ro ev sa ra ss rs sc rc (by omega) (by omega) zo i1 i2 i3 w hA
end Go.Proofs.YticdmepplfgdiaaGreatDoor
