/-
  What rstp's Hear computes, of two ports. Conditions: the port is there and up, the time is one. What rstp's Tick computes, of two ports. Conditions: the time is one, and not before the last.
-/
import Derived.Deep.DeepCutAuto
import Derived.Deep.CutRange
import Derived.Deep.RegionHeld3
import Derived.Test.YticdmepplfgdiaaGreatDoorQ23
import Derived.Test.YticdmepplfgdiaaGreatDoorQ03
set_option linter.unusedVariables false
set_option linter.unusedSimpArgs false
section
namespace Go.Proofs.YticdmepplfgdiaaGreatDoor
open Go.RowKit
/-- a message -/
structure Msg where
  v : Vec
  age : Int
  chg : Bool
  lrn : Bool
  fwd : Bool
  deriving DecidableEq
def Msg.cells (m : Msg) : List Value := [.int .u64 m.v.root, .int .i64 m.v.cost, .int .u64 m.v.bridge, .int .i64 m.v.port, .int .i64 m.age, .bool m.chg, .bool m.lrn, .bool m.fwd]
def Prt.takes (q : Prt) (m : Msg) : Bool := !q.keeps || ((q.kept.bridge == m.v.bridge && q.kept.port == m.v.port) || decide (vcmp m.v q.kept ≤ 0))
def Prt.took (q : Prt) (m : Msg) (now : Int) : Prt := { q with keeps := true, kept := m.v, age := m.age, chg := m.chg, lrn := m.lrn, kfwd := m.fwd, at_ := now }
def Tre.took (U : Tre) (k : Nat) (m : Msg) : Tre := { U.setP k ((U.prt k).took m U.now) with change := if m.chg && (m.v.bridge != U.bridge) then U.now else U.change }
def Tre.heard (T : Tre) (k : Nat) (m : Msg) (now : Int) : Tre :=
  (if ((T.later now).dropped.prt k).takes m then (T.later now).dropped.took k m else (T.later now).dropped).settled
theorem Bx.newS (W : World) (a : Addr) (x : Value) (vs : List Value) (t : TypeId) : Bx ((W.setCell a x).alloc (.cells vs.toArray t)) W.heap.size vs := by
  have h := Bx.new (W.setCell a x) vs t
  rwa [World.size_setCell] at h
/-- a message is laid into a port -/
def tookWorld (W : World) (p k : Nat) (m : Msg) (now : Int) : World := ((((((((((W).setCell ⟨p, k * 15 + 4, none⟩ (.bool true)).setCell ⟨p, k * 15 + 6, none⟩ (.int .u64 m.v.root)).setCell ⟨p, k * 15 + 6 + 1, none⟩ (.int .i64 m.v.cost)).setCell ⟨p, k * 15 + 6 + 2, none⟩ (.int .u64 m.v.bridge)).setCell ⟨p, k * 15 + 6 + 3, none⟩ (.int .i64 m.v.port)).setCell ⟨p, k * 15 + 6 + 4, none⟩ (.int .i64 m.age)).setCell ⟨p, k * 15 + 6 + 5, none⟩ (.bool m.chg)).setCell ⟨p, k * 15 + 6 + 6, none⟩ (.bool m.lrn)).setCell ⟨p, k * 15 + 6 + 7, none⟩ (.bool m.fwd)).setCell ⟨p, k * 15 + 14, none⟩ (.int .i64 now)
theorem TreeAt.tookW {W : World} {t p cap k : Nat} {U : Tre} (h : TreeAt W t p cap U) (hk : k < 2) (m : Msg) (now : Int) : TreeAt (tookWorld W p k m now) t p cap (U.setP k ((U.prt k).took m now)) := by
  have h0 : TreeAt _ t p cap (U.setP k ({ U.prt k with keeps := true })) := h.setP (j := 4) (x := .bool true) hk (by decide) rfl
  have h1 : TreeAt _ t p cap (U.setP k ({ U.prt k with keeps := true, kept := { (U.prt k).kept with root := m.v.root } })) := h0.setQ (j := 6) (x := .int .u64 m.v.root) hk (by decide) rfl
  have h2 : TreeAt _ t p cap (U.setP k ({ U.prt k with keeps := true, kept := { (U.prt k).kept with root := m.v.root, cost := m.v.cost } })) := h1.setQ (j := 7) (x := .int .i64 m.v.cost) hk (by decide) rfl
  have h3 : TreeAt _ t p cap (U.setP k ({ U.prt k with keeps := true, kept := { (U.prt k).kept with root := m.v.root, cost := m.v.cost, bridge := m.v.bridge } })) := h2.setQ (j := 8) (x := .int .u64 m.v.bridge) hk (by decide) rfl
  have h4 : TreeAt _ t p cap (U.setP k ({ U.prt k with keeps := true, kept := { (U.prt k).kept with root := m.v.root, cost := m.v.cost, bridge := m.v.bridge, port := m.v.port } })) := h3.setQ (j := 9) (x := .int .i64 m.v.port) hk (by decide) rfl
  have h5 : TreeAt _ t p cap (U.setP k ({ U.prt k with keeps := true, kept := { (U.prt k).kept with root := m.v.root, cost := m.v.cost, bridge := m.v.bridge, port := m.v.port }, age := m.age })) := h4.setQ (j := 10) (x := .int .i64 m.age) hk (by decide) rfl
  have h6 : TreeAt _ t p cap (U.setP k ({ U.prt k with keeps := true, kept := { (U.prt k).kept with root := m.v.root, cost := m.v.cost, bridge := m.v.bridge, port := m.v.port }, age := m.age, chg := m.chg })) := h5.setQ (j := 11) (x := .bool m.chg) hk (by decide) rfl
  have h7 : TreeAt _ t p cap (U.setP k ({ U.prt k with keeps := true, kept := { (U.prt k).kept with root := m.v.root, cost := m.v.cost, bridge := m.v.bridge, port := m.v.port }, age := m.age, chg := m.chg, lrn := m.lrn })) := h6.setQ (j := 12) (x := .bool m.lrn) hk (by decide) rfl
  have h8 : TreeAt _ t p cap (U.setP k ({ U.prt k with keeps := true, kept := { (U.prt k).kept with root := m.v.root, cost := m.v.cost, bridge := m.v.bridge, port := m.v.port }, age := m.age, chg := m.chg, lrn := m.lrn, kfwd := m.fwd })) := h7.setQ (j := 13) (x := .bool m.fwd) hk (by decide) rfl
  exact h8.setQ (j := 14) (x := .int .i64 now) hk (by decide) rfl
theorem Bx.tookW {W : World} {p k b : Nat} {vs : List Value} (h : Bx W b vs) (hb : b ≠ p) (m : Msg) (now : Int) : Bx (tookWorld W p k m now) b vs := (((((((((h.put hb).put hb).put hb).put hb).put hb).put hb).put hb).put hb).put hb).put hb
theorem Beside.tookW {S : List Nat} {a W : World} {p k : Nat} (h : Beside S a W) (hp : p ∈ S) (m : Msg) (now : Int) : Beside S a (tookWorld W p k m now) := (((((((((h.putQ hp).putQ hp).putQ hp).putQ hp).putQ hp).putQ hp).putQ hp).putQ hp).putQ hp).putQ hp
theorem setP_change (T : Tre) (k : Nat) (q : Prt) (hk : k < 2) : { T.setP k q with change := T.change } = T.setP k q := by
  rcases (by omega : k = 0 ∨ k = 1) with rfl | rfl <;> rfl
theorem bridge_setP (T : Tre) (k : Nat) (q : Prt) (hk : k < 2) : (T.setP k q).bridge = T.bridge := by
  rcases (by omega : k = 0 ∨ k = 1) with rfl | rfl <;> rfl
theorem TreeAt.drewN {W : World} {t p cap : Nat} {T : Tre} (h : TreeAt W t p cap T) (n : Nat) : TreeAt (W.drewN n) t p cap T := h
theorem Beside.drewN {S : List Nat} {a b : World} (h : Beside S a b) (n : Nat) : Beside S a (b.drewN n) := ⟨h.os, h.tape, h.output, h.size, h.block⟩
theorem later_up (T : Tre) (now : Int) (k : Nat) : ((T.later now).dropped.prt k).up = (T.prt k).up := by
  unfold Tre.prt
  split <;> rfl
set_option maxRecDepth 100000 in
set_option maxHeartbeats 4000000 in
theorem hear_any {t p cap : Nat} {T : Tre} {k : Nat} {m : Msg} {now : Int} (hk : k < 2) (h0 : 0 ≤ now) (h1 : now ≤ 1099511627776) (hup : (T.prt k).up = true) (w : World) (h : TreeAt w t p cap T) :
    Calls Tryz.prog 43 #[.pointer (some ⟨t, 0, none⟩), .int .i64 k, .agg #[.int .u64 m.v.root, .int .i64 m.v.cost, .int .u64 m.v.bridge, .int .i64 m.v.port, .int .i64 m.age, .bool m.chg, .bool m.lrn, .bool m.fwd], .int .i64 now] w fun e w' => e = .returned (.tuple #[]) ∧ TreeAt w' t p cap (T.heard k m now) ∧ Beside [t, p] w w' := by
  have hpm : p ∈ [t, p] := List.mem_cons_of_mem _ (List.mem_singleton.2 rfl)
  have htm : t ∈ [t, p] := List.mem_cons_self ..
  have htl : t < w.heap.size := h.1.1
  have hpl : p < w.heap.size := h.2.1.1
  have hN := h.below (bbox1 w (.cells m.cells.toArray 118))
  have HA := Lib.hid (at_in hk h0 h1 _ hN)
  have H1 := (h.later now).below (bbox1 _ (.cells m.cells.toArray 118))
  have M1 := Lib.hid (Bx.newS w ⟨t, 2, none⟩ (.int .i64 (max T.now now)) m.cells 118)
  have B1 := Lib.hid (((Beside.refl [t, p] w).putQ (p := t) (o := 2) (x := .int .i64 (max T.now now)) htm).alloc (.cells m.cells.toArray 118))
  have HD := Lib.hid (drop_any t p cap _ _ H1)
  obtain ⟨t0, t1, t2, t3, t4, t5, t6, t7, t8, tf⟩ := hN.tree
  obtain ⟨c0, c1, c2, c3, c4, c5, c6, c7, c8, c9, c10, c11, c12, c13, c14, cf⟩ := hN.prt k hk
  rw [hup] at c3
  have HU := Lib.hid hup
  generalize hE : T.heard k m now = E
  have HE := Lib.hid hE
  clear hE
  clear h hN H1 hup
  have HT := Lib.hid (later_up T now k)
  generalize hW : (T.later now).dropped = U at HD HT
  have HWh := Lib.hid hW
  clear hW
  obtain ⟨mx, hmx⟩ : ∃ x, max T.now now = x := ⟨_, rfl⟩
  rw [hmx] at HD M1 B1
  have hm : (T.now < now ∧ mx = now) ∨ (now ≤ T.now ∧ mx = T.now) := by omega
  clear hmx
  have HC := Lib.hid compare_any
  have HSt := Lib.hid (fun (V : Tre) (W : World) (hV : TreeAt W t p cap V) => settle_any t p cap V W hV)
  obtain ⟨kp, hkp⟩ : ∃ x, (U.prt k).keeps = x := ⟨_, rfl⟩
  obtain ⟨a1, ha1⟩ : ∃ x, ((U.prt k).kept.bridge == m.v.bridge) = x := ⟨_, rfl⟩
  obtain ⟨a2, ha2⟩ : ∃ x, ((U.prt k).kept.port == m.v.port) = x := ⟨_, rfl⟩
  obtain ⟨cq, hcq⟩ : ∃ x, decide (vcmp m.v (U.prt k).kept ≤ 0) = x := ⟨_, rfl⟩
  have htk : (U.prt k).takes m = (!kp || (a1 && a2 || cq)) := by unfold Prt.takes; rw [hkp, ha1, ha2, hcq]
  have HTK := Lib.hid htk
  clear htk
  go_enter Tryz.func43, Tryz.ntmps43
  go_upto_region 3 with (go_at_call 94; refine HA.out.mono ?_; rintro e w1 ⟨rfl, rfl⟩)
  go_cut [30] (fun s30 wx => s30 = .int .i64 mx ∧ wx = (w.setCell ⟨t, 2, none⟩ (.int .i64 mx)).alloc (.cells m.cells.toArray 118))
  case first =>
    rcases hm with ⟨hm, rfl⟩ | ⟨hm, rfl⟩ <;> (go_wp2; go_meet; exact ⟨rfl, rfl⟩)
  case rest =>
    obtain ⟨rfl, rfl⟩ := hcut
    clear t0 t1 t2 t3 t4 t5 t6 t7 t8 tf c0 c1 c2 c3 c4 c5 c6 c7 c8 c9 c10 c11 c12 c13 c14 cf hm
    go_upto_region 6 with (go_at_call 105; refine HD.out.mono ?_; rintro e w2 ⟨rfl, H2, B2⟩; have M2 := M1.out.beside B2 (fun e => by have := List.mem_singleton.1 e; omega); have B2h := Lib.hid (B1.out.trans (B2.mono (fun x hx => List.mem_cons_of_mem _ hx))); obtain ⟨e0, e1, e2, e3, e4, e5, e6, e7, e8, e9, e10, e11, e12, e13, e14, ef⟩ := H2.prt k hk; have M2h := Lib.hid M2; have H2h := Lib.hid H2; clear H2 M2 B2)
    have H7 := H2h.out.below (bbox1 w2 (.cells (vcells (U.prt k).kept).toArray 116))
    have M7 := M2h.out.alloc (.cells (vcells (U.prt k).kept).toArray 116)
    have B7 := B2h.out.alloc (.cells (vcells (U.prt k).kept).toArray 116)
    have N7 := Bx.new w2 (vcells (U.prt k).kept) 116
    obtain ⟨w7, hw7⟩ : ∃ x : World, x = w2.alloc (.cells (vcells (U.prt k).kept).toArray 116) := ⟨_, rfl⟩
    rw [← hw7] at H7 M7 B7 N7
    change Code.wp _ _ _ _ (w2.alloc (.cells (vcells (U.prt k).kept).toArray 116))
    rw [← hw7]
    clear hw7 e0 e1 e2 e3 e4 e5 e6 e7 e8 e9 e10 e11 e12 e13 e14 ef
    obtain ⟨-, -, -, -, e4, -⟩ := H7.prt k hk
    rw [hkp] at e4
    have n0 := M7.get 0 _ rfl
    have n1 := M7.get 1 _ rfl
    have n2 := M7.get 2 _ rfl
    have n3 := M7.get 3 _ rfl
    have v0 := N7.get 0 _ rfl
    have v1 := N7.get 1 _ rfl
    have v2 := N7.get 2 _ rfl
    have v3 := N7.get 3 _ rfl
    have H7h := Lib.hid H7
    have M7h := Lib.hid M7
    have B7h := Lib.hid B7
    clear H7 M7 B7 N7 H2h M2h B2h
    go_cut [10] (fun s10 wx => s10 = .bool (a1 && a2) ∧ wx = w7)
    case first =>
      rcases a1 with _ | _ <;> rcases a2 with _ | _ <;> (go_wp2; go_meet; exact ⟨rfl, rfl⟩)
    case rest =>
      obtain ⟨rfl, rfl⟩ := hcut
      generalize hag : (a1 && a2) = ag at HTK
      clear ha1 ha2 hag
      go_upto_region 7 with fail
      go_cut [68] (fun s68 wx => s68 = .bool (!kp || (ag || cq)) ∧ TreeAt wx t p cap U ∧ Bx wx w.heap.size m.cells ∧ Beside [t, p] w wx)
      case first =>
        rcases kp with _ | _ <;> rcases ag with _ | _ <;> rcases cq with _ | _
        all_goals
          go_wp2_with (go_at_call 106; refine (HC.out m.v (U.prt k).kept _ rfl _).mono ?_; rintro e w3 ⟨rfl, g3⟩; have H3h := Lib.hid (H7h.out.below g3); have M3h := Lib.hid (M7h.out.below g3); have B3h := Lib.hid (B7h.out.below g3))
          go_meet
          first | exact ⟨rfl, H7h.out, M7h.out, B7h.out⟩ | exact ⟨rfl, H3h.out, M3h.out, B3h.out⟩
      case rest =>
        obtain ⟨rfl, H8, M8, B8⟩ := hcut
        generalize hw8 : wc = w8 at H8 M8 B8 ⊢
        clear hw8 e4 n0 n1 n2 n3 v0 v1 v2 v3 H7h M7h B7h hkp hcq
        generalize (!kp || (ag || cq)) = tk at HTK ⊢
        rcases tk with _ | _
        · have H8h := Lib.hid H8
          have B8h := Lib.hid B8
          clear H8 B8 M8
          have HV : E = Tre.settled U := by
            rw [← HE.out]
            unfold Tre.heard
            rw [HWh.out, HTK.out, if_neg (by decide)]
          go_wp2_with (go_at_call 95; refine (HSt.out _ _ H8h.out).mono ?_; rintro e w10 ⟨rfl, H10, B10⟩)
          go_end0
          exact ⟨rfl, by rw [HV]; exact H10, B8h.out.trans B10⟩
        ·
          obtain ⟨d0, d1, d2, d3, d4, d5, d6, d7, d8, df⟩ := H8.tree
          obtain ⟨e0, e1, e2, e3, e4, e5, e6, e7, e8, e9, e10, e11, e12, e13, e14, ef⟩ := H8.prt k hk
          have n0 := M8.get 0 _ rfl
          have n1 := M8.get 1 _ rfl
          have n2 := M8.get 2 _ rfl
          have n3 := M8.get 3 _ rfl
          have n4 := M8.get 4 _ rfl
          have n5 := M8.get 5 _ rfl
          have n6 := M8.get 6 _ rfl
          have n7 := M8.get 7 _ rfl
          have H8h := Lib.hid H8
          have M8h := Lib.hid M8
          have B8h := Lib.hid B8
          clear H8 M8 B8
          go_upto_region 8 with fail
          go_region
          have H9 := (H8h.out.tookW hk m U.now).drew
          have M9 := (M8h.out.tookW (p := p) (k := k) (Nat.ne_of_gt hpl) m U.now).drew
          have B9 := (B8h.out.tookW (k := k) hpm m U.now).drew
          obtain ⟨w9, hw9⟩ : ∃ x : World, x = (tookWorld w8 p k m U.now).drew := ⟨_, rfl⟩
          rw [← hw9] at H9 M9 B9
          change Exit.then _ _ _ _ (tookWorld w8 p k m U.now).drew
          rw [← hw9]
          clear hw9 d0 d1 d2 d3 d4 d5 d6 d7 d8 df e0 e1 e2 e3 e4 e5 e6 e7 e8 e9 e10 e11 e12 e13 e14 ef n0 n1 n2 n3 n4 n5 n6 n7
          obtain ⟨d0, d1, d2, d3, d4, d5, d6, d7, d8, df⟩ := H9.tree
          rw [bridge_setP _ _ _ hk] at d0
          rw [now_setP _ _ _ hk] at d2
          have n2 := M9.get 2 _ rfl
          have n5 := M9.get 5 _ rfl
          have H9h := Lib.hid H9
          have B9h := Lib.hid B9
          clear H9 M9 B9
          obtain ⟨a3, ha3⟩ : ∃ x, (m.v.bridge != U.bridge) = x := ⟨_, rfl⟩
          obtain ⟨a4, ha4⟩ : ∃ x, m.chg = x := ⟨_, rfl⟩
          rw [ha4] at n5
          rcases a4 with _ | _ <;> rcases a3 with _ | _
          case true.true =>
            go_upto_region 9 with fail
            go_quiet (fail)
            have HV : E = Tre.settled { U.setP k ((U.prt k).took m U.now) with change := U.now } := by
              rw [← HE.out]
              unfold Tre.heard
              rw [HWh.out, HTK.out, if_pos (by rfl)]
              unfold Tre.took
              rw [ha4, ha3]
              rfl
            go_wp2_with (go_at_call 95; refine (HSt.out _ _ ((H9h.out.drewN nq).setC hk U.now)).mono ?_; rintro e w10 ⟨rfl, H10, B10⟩)
            go_end0
            exact ⟨rfl, by rw [HV]; exact H10, ((B9h.out.drewN nq).putQ (p := t) (o := 4) (x := .int .i64 U.now) htm).trans B10⟩
          all_goals
            go_upto_region 9 with fail
            go_quiet (fail)
            have HV : E = Tre.settled (U.setP k ((U.prt k).took m U.now)) := by
              rw [← HE.out]
              unfold Tre.heard
              rw [HWh.out, HTK.out, if_pos (by rfl)]
              unfold Tre.took
              rw [ha4, ha3]
              exact congrArg Tre.settled (setP_change U k _ hk)
            go_wp2_with (go_at_call 95; refine (HSt.out _ _ (H9h.out.drewN nq)).mono ?_; rintro e w10 ⟨rfl, H10, B10⟩)
            go_end0
            exact ⟨rfl, by rw [HV]; exact H10, (B9h.out.drewN nq).trans B10⟩
end Go.Proofs.YticdmepplfgdiaaGreatDoor
end
section
namespace Go.Proofs.YticdmepplfgdiaaGreatDoor
open Go.RowKit
/-- an append to a row of one's own, as one step of a region that draws its order -/
theorem step_append_own {P : Program} {ops : Array Oper} {o : Oper} {a : Act} {w : World} {K : Act → World → Prop} {Q : Exit → Act → World → Prop} {E : Prop}
    (hg : o.guard = none) (s x : Operand) (t : TypeId) (hop : o.op = Op.call { callee := Callee.builtin Builtin.append, args := #[s, x], argTypes := #[t, t] })
    (B : Nat) (e : TypeId) (i : TypeInfo) (z : Value) (size bytes : Nat) (h1 : P.underlying t = some (.slice e)) (h2 : P.info? e = some i) (h3 : i.zero = some z) (h4 : i.size = size) (h5 : i.bytes = bytes) (h6 : z.cells.size = size) (h7 : 0 < size)
    (v : Value) (n : Nat) (xs : List Value) (hs : a.eval s = v) (hown : w.ownsRow B e size v n xs)
    (ad : Addr) (m c : Nat) (news : List Value) (hx : a.eval x = .slice (some ad) m c) (hn : news.length = m * size) (hc : ∀ j u, news[j]? = some u → w.cell? (ad.add j) = some u) (h1c : ∀ u ∈ news, u.oneCell' = true)
    (b1 : n + m ≤ maxLen) (b2 : (n + m) * bytes ≤ 140737488355328) (hb : B ≤ w.heap.size)
    (hK : ∀ v' w', w'.ownsRow B e size v' (n + m) (xs ++ news) → w.grownBy w' v.ownBlock → K (a.put o.dst v') w') :
    if Region.wanted o (yielded ops a.tmps) = true then Oper.wp P o a w K Q else E := by
  have hw : Region.wanted o (yielded ops a.tmps) = true := by simp [Region.wanted, hg]
  rw [if_pos hw]
  obtain ⟨v', w', hrun, r1, r2, _⟩ := run_append_own (P := P) w B t o.type e i z size bytes h1 h2 h3 h4 h5 h6 h7 v n xs hown ad m c news hn hc h1c b1 b2 hb
  unfold Oper.wp
  simp [execOp, hop, resolve, invoke, builtin, hs, hx, hrun, Result.andThen]
  exact hK v' w' r1 r2
theorem tinfo137 : (Tryz.prog.info? 137).map (fun i => (i.zero, i.size, i.bytes)) = some (some (.agg #[.int .i64 0, .int .u64 0, .int .i64 0, .int .u64 0, .int .i64 0, .int .i64 0, .bool false, .bool false, .bool false]), 9, 56) := by kernel_rfl
/-- an Out is appended to a row of one's own -/
theorem push_out {ops : Array Oper} {o : Oper} {a : Act} {w : World} {K : Act → World → Prop} {Q : Exit → Act → World → Prop} {E : Prop}
    (hg : o.guard = none) (s x : Operand) (hop : o.op = Op.call { callee := Callee.builtin Builtin.append, args := #[s, x], argTypes := #[134, 134] })
    (B : Nat) (v : Value) (n : Nat) (xs : List Value) (c : Nat) (news : List Value) (hs : a.eval s = v) (hown : w.ownsRow B 137 9 v n xs)
    (hx : a.eval x = .slice (some ⟨c, 0, none⟩) 1 1) (hc : Bx w c news) (hl : news.length = 9) (h1c : ∀ u ∈ news, u.oneCell' = true) (hn : n ≤ 100000) (hb : B ≤ w.heap.size)
    (hK : ∀ v' w', w'.ownsRow B 137 9 v' (n + 1) (xs ++ news) → w.grownBy w' v.ownBlock → K (a.put o.dst v') w') :
    if Region.wanted o (yielded ops a.tmps) = true then Oper.wp Tryz.prog o a w K Q else E := by
  obtain ⟨i0, hi, hz0, hz1, hz2⟩ := info_parts tinfo137
  refine step_append_own hg s x _ hop B 137 i0 _ 9 56 Tryz.underlying134 hi hz0 hz1 hz2 rfl (by decide) v n xs hs hown ⟨c, 0, none⟩ 1 1 news hx hl ?_ h1c ?_ ?_ hb hK
  · intro j u hj
    have e : (⟨c, 0, none⟩ : Addr).add j = ⟨c, j, none⟩ := by simp [Addr.add]; omega
    rw [e]
    exact hc.get j u hj
  · unfold maxLen; omega
  · omega
/-- how old what a switch tells is -/
def Tre.age (T : Tre) : Int := if T.root = -1 then 0 else wrap64 ((T.prt T.root.toNat).age + 1)
def Tre.chg (T : Tre) : Bool := (T.change != -1) && decide (wrap64 (T.now - T.change) < 4)
/-- what it tells at a port -/
def Tre.msg (T : Tre) (k : Nat) : Msg := ⟨⟨T.best.root, T.best.cost, T.bridge, k⟩, T.age, T.chg, T.learns k, (T.prt k).fwd⟩
def Tre.outs1 (T : Tre) (k : Nat) : List (Nat × Msg) := if (T.prt k).role != 2 then [] else [(k, T.msg k)]
def outsAt (T : Tre) : Nat → List (Nat × Msg)
  | 0 => []
  | 1 => T.outs1 0
  | _ => T.outs1 0 ++ T.outs1 1
theorem outsAt_succ (T : Tre) (k : Nat) (hk : k < 2) : outsAt T (k + 1) = outsAt T k ++ T.outs1 k := by
  rcases (by omega : k = 0 ∨ k = 1) with rfl | rfl <;> rfl
theorem outsAt_le (T : Tre) (k : Nat) : (outsAt T k).length ≤ 2 := by
  have h : ∀ j, (T.outs1 j).length ≤ 1 := fun j => by unfold Tre.outs1; split <;> simp
  have h0 := h 0
  have h1 := h 1
  unfold outsAt
  split <;> simp <;> omega
def ocells (l : List (Nat × Msg)) : List Value := l.flatMap fun x => .int .i64 x.1 :: x.2.cells
def odd (now : Int) : Bool := bits .and .i64 now 1 == 1
def Tre.outs (T : Tre) (now : Int) : List (Nat × Msg) := if odd now || decide (20 ≤ T.age) then [] else outsAt T 2
/-- a row of so many things of so many cells -/
def RowIn (W : World) (lo : Nat) (v : Value) (n : Nat) (vs : List Value) : Prop := (n = 0 ∧ ∃ a c, v = .slice a 0 c) ∨ (n ≠ 0 ∧ ∃ g c, v = .slice (some ⟨g, 0, none⟩) n c ∧ lo ≤ g ∧ Bx W g vs)
theorem row_in {W : World} {B lo : Nat} {t : TypeId} {s : Nat} {v : Value} {n : Nat} {l : List Value} (h : W.ownsRow B t s v n l) (hl : l.length = n * s) (hb : lo ≤ B) : RowIn W lo v n l := by
  by_cases hn : n = 0
  · subst hn
    rcases h.2 with ⟨rfl, _⟩ | ⟨g, cap, cur, rfl, _⟩
    · exact .inl ⟨rfl, _, _, rfl⟩
    · exact .inl ⟨rfl, _, _, rfl⟩
  · obtain ⟨g, c, rfl, hg, hx⟩ := row_bx h hn hl
    exact .inr ⟨hn, g, c, rfl, Nat.le_trans hb hg, hx⟩
theorem ocells_push (l : List (Nat × Msg)) (k : Nat) (m : Msg) : ocells (l ++ [(k, m)]) = ocells l ++ (.int .i64 k :: m.cells) := by simp [ocells]
theorem ocells_len (l : List (Nat × Msg)) : (ocells l).length = l.length * 9 := by
  induction l with
  | nil => rfl
  | cons x l ih =>
    show ((.int .i64 x.1 :: x.2.cells : List Value) ++ ocells l).length = _
    rw [List.length_append, ih]
    simp [Msg.cells]
    omega
theorem out_one (k : Nat) (m : Msg) : ∀ u ∈ (.int .i64 k :: m.cells : List Value), u.oneCell' = true := by
  intro u hu
  simp only [Msg.cells, List.mem_cons, List.not_mem_nil, or_false] at hu
  rcases hu with rfl | rfl | rfl | rfl | rfl | rfl | rfl | rfl | rfl <;> rfl
def Tre.ticked (T : Tre) (now : Int) : Tre := (T.later now).settled
theorem best_root (b : Int) (h0 h1 : Hd) : (best2 b h0 h1).1 = -1 ∨ (best2 b h0 h1).1 = 0 ∨ (best2 b h0 h1).1 = 1 := by
  unfold best2 bestStep
  split <;> split <;> simp
theorem settleP_root (T : Tre) (k : Nat) (r : Int) : (T.settleP k r).root = T.root := by
  unfold Tre.settleP Tre.setP
  dsimp only
  split <;> rfl
theorem settled_root (T : Tre) : T.settled.root = -1 ∨ T.settled.root = 0 ∨ T.settled.root = 1 := by
  have e : T.settled.root = (best2 T.dropped.bridge T.dropped.p0.heard T.dropped.p1.heard).1 := by
    unfold Tre.settled settleAt
    exact (settleP_root _ _ _).trans (settleP_root _ _ _)
  rw [e]
  exact best_root _ _ _
set_option maxRecDepth 100000 in
set_option maxHeartbeats 8000000 in
theorem tick_any {t p cap : Nat} {T : Tre} {now : Int} (h0 : 0 ≤ now) (h1 : now ≤ 1099511627776) (w : World) (h : TreeAt w t p cap T) :
    Calls Tryz.prog 55 #[.pointer (some ⟨t, 0, none⟩), .int .i64 now] w fun e w' => ∃ v, e = .returned v ∧ RowIn w' w.heap.size v ((T.ticked now).outs now).length (ocells ((T.ticked now).outs now)) ∧ TreeAt w' t p cap (T.ticked now) ∧ Beside [t, p] w w' := by
  have hpm : p ∈ [t, p] := List.mem_cons_of_mem _ (List.mem_singleton.2 rfl)
  have htm : t ∈ [t, p] := List.mem_cons_self ..
  have HA := Lib.hid (at_in (k := 0) (by decide) h0 h1 _ h)
  have H1 := h.later now
  have B1 := Lib.hid ((Beside.refl [t, p] w).putQ (p := t) (o := 2) (x := .int .i64 (max T.now now)) htm)
  have HS := Lib.hid (settle_any t p cap _ _ H1)
  have HR := Lib.hid (settled_root (T.later now))
  obtain ⟨t0, t1, t2, t3, t4, t5, t6, t7, t8, tf⟩ := h.tree
  have hsz : (w.setCell ⟨t, 2, none⟩ (.int .i64 (max T.now now))).heap.size = w.heap.size := World.size_setCell ..
  have HZ := Lib.hid hsz
  clear h H1 hsz
  unfold Tre.ticked
  generalize (T.later now).settled = U at HS HR ⊢
  obtain ⟨mx, hmx⟩ : ∃ x, max T.now now = x := ⟨_, rfl⟩
  rw [hmx] at B1 HS HZ
  have hm : (T.now < now ∧ mx = now) ∨ (now ≤ T.now ∧ mx = T.now) := by omega
  clear hmx
  go_enter Tryz.func55, Tryz.ntmps55
  go_upto_region 3 with (go_at_call 94; refine HA.out.mono ?_; rintro e w1 ⟨rfl, hw1⟩; subst w1)
  go_cut [21] (fun s21 wx => s21 = .int .i64 mx ∧ wx = w.setCell ⟨t, 2, none⟩ (.int .i64 mx))
  case first =>
    rcases hm with ⟨hm, rfl⟩ | ⟨hm, rfl⟩ <;> (go_wp2; go_meet; exact ⟨rfl, rfl⟩)
  case rest =>
    obtain ⟨rfl, rfl⟩ := hcut
    clear t0 t1 t2 t3 t4 t5 t6 t7 t8 tf hm
    go_upto_if 30 with (go_at_call 95; refine HS.out.mono ?_; rintro e w2 ⟨rfl, H2, B2⟩; have B3 := Lib.hid (B1.out.trans B2); have H2h := Lib.hid H2; obtain ⟨t0, t1, t2, t3, t4, t5, t6, t7, t8, tf⟩ := H2.tree; have P2 := H2.2.1; clear H2 B2)
    go_cut [5] (fun s5 wx => s5 = .int .i64 U.age ∧ TreeAt wx t p cap U ∧ Beside [t, p] w wx)
    case first =>
      have q0 := P2.get 10 _ rfl
      have q1 := P2.get 25 _ rfl
      clear P2
      rcases HR.out with hr | hr | hr
      · have ha : U.age = 0 := by unfold Tre.age; rw [if_pos hr]
        have hb : (U.root != -1) = false := by rw [hr]; rfl
        have HA2 := Lib.hid ha
        clear ha hr
        go_wp2
        go_meet
        exact ⟨by rw [HA2.out], H2h.out, B3.out⟩
      · have ha : U.age = wrap64 (U.p0.age + 1) := by unfold Tre.age; rw [if_neg (by omega), hr]; rfl
        have hb : (U.root != -1) = true := by rw [hr]; rfl
        rw [hr] at t3
        have HA2 := Lib.hid ha
        clear ha hr
        go_upto_region 7 with fail
        go_quiet (fail)
        go_wp2
        go_meet
        exact ⟨by rw [HA2.out], H2h.out.drewN _, B3.out.drewN _⟩
      · have ha : U.age = wrap64 (U.p1.age + 1) := by unfold Tre.age; rw [if_neg (by omega), hr]; rfl
        have hb : (U.root != -1) = true := by rw [hr]; rfl
        rw [hr] at t3
        have HA2 := Lib.hid ha
        clear ha hr
        go_upto_region 7 with fail
        go_quiet (fail)
        go_wp2
        go_meet
        exact ⟨by rw [HA2.out], H2h.out.drewN _, B3.out.drewN _⟩
    case rest =>
      obtain ⟨rfl, H4, B4⟩ := hcut
      clear t0 t1 t2 t3 t4 t5 t6 t7 t8 tf P2
      obtain ⟨od, hod⟩ : ∃ x, odd now = x := ⟨_, rfl⟩
      obtain ⟨ol, hol⟩ : ∃ x, decide (20 ≤ U.age) = x := ⟨_, rfl⟩
      have hou : U.outs now = if od || ol then [] else outsAt U 2 := by unfold Tre.outs; rw [hod, hol]
      have HO := Lib.hid hou
      have hod : (bits .and .i64 now 1 == 1) = od := hod
      have H4h := Lib.hid H4
      have B4h := Lib.hid B4
      generalize hAg : U.age = A at hol ⊢
      have HAG := Lib.hid hAg
      clear hAg hou
      rcases od with _ | _
      case true =>
        clear H4 B4
        go_wp2
        go_ret
        exact ⟨.slice none 0 0, rfl, by rw [HO.out]; exact .inl ⟨rfl, none, 0, rfl⟩, H4h.out, B4h.out⟩
      rcases ol with _ | _
      case true =>
        clear H4 B4
        go_wp2
        go_ret
        exact ⟨.slice none 0 0, rfl, by rw [HO.out]; exact .inl ⟨rfl, none, 0, rfl⟩, H4h.out, B4h.out⟩
      clear HA HS B1
      obtain ⟨w5, hw5⟩ : ∃ x : World, x = wc := ⟨_, rfl⟩
      rw [← hw5] at H4 B4 H4h B4h ⊢
      clear hw5
      have HLn := Lib.hid (fun (k : Nat) (hk : k < 2) (W : World) (hW : TreeAt W t p cap U) => learns_any hk (U.learns k) rfl W hW)
      obtain ⟨q0, q1, q2, q3, q4, q5, q6, q7, q8, qf⟩ := H4.tree
      clear H4 B4
      go_upto_region 12 with fail
      go_loopw [6, 7, 8, 9, 10, 56] (fun l _ _ _ _ i wr => ∃ k : Nat, k ≤ 2 ∧ i = .int .i64 k ∧ wr.ownsRow w5.heap.size 137 9 l (outsAt U k).length (ocells (outsAt U k)) ∧ Below w5.heap.size w5 wr) (fun _ _ _ _ _ i _ => 3 - (intOf i).toNat)
      case atStart => exact ⟨0, Nat.zero_le _, rfl, World.ownsRow_nil _ _ _ _, Below.refl _ _⟩
      case round =>
        obtain ⟨k, hk, rfl, own, bel⟩ := hrel
        have ht := H4h.out.below bel
        by_cases hlt : k < 2
        · have HSu := Lib.hid (outsAt_succ U k hlt)
          have hol := outsAt_le U k
          have hww : w5.heap.size ≤ wr.heap.size := bel.size
          obtain ⟨c0, c1, c2, c3, c4, c5, c6, c7, c8, c9, c10, c11, c12, c13, c14, cf⟩ := ht.prt k hlt
          obtain ⟨d0, d1, d2, d3, d4, d5, d6, d7, d8, df⟩ := ht.tree
          have HO9 := Lib.hid own
          have HNe := Lib.hid (fun (b : Nat) (hb : wr.heap.size ≤ b) => own_ne own hb)
          have HBel := Lib.hid bel
          have HTr := Lib.hid ht
          obtain ⟨rl, hrl⟩ : ∃ x, ((U.prt k).role != 2) = x := ⟨_, rfl⟩
          have h1 : U.outs1 k = if rl then [] else [(k, U.msg k)] := by unfold Tre.outs1; rw [hrl]
          have HO1 := Lib.hid h1
          clear own bel ht h1
          rcases rl with _ | _
          case true =>
            go_wp2
            refine ⟨⟨k + 1, by omega, by go_num, ?_, ball1 HBel.out _⟩, ?_⟩
            · rw [HSu.out, HO1.out, if_pos rfl, List.append_nil]
              exact HO9.out.alloc _
            · simp [intOf]; omega
          case false =>
            go_upto_region 15 with fail
            have M8 := Bx.new wr (U.prt k).cells 196
            have T8 := HTr.out.below (bbox1 wr (.cells (U.prt k).cells.toArray 196))
            have O8 := HO9.out.alloc (.cells (U.prt k).cells.toArray 196)
            have B8 := ball1 HBel.out (.cells (U.prt k).cells.toArray 196)
            obtain ⟨w8, hw8⟩ : ∃ x : World, x = wr.alloc (.cells (U.prt k).cells.toArray 196) := ⟨_, rfl⟩
            have hs8 : w8.heap.size = wr.heap.size + 1 := by rw [hw8]; exact World.size_alloc ..
            rw [← hw8] at M8 T8 O8 B8
            change Code.wp _ _ _ _ (wr.alloc (.cells (U.prt k).cells.toArray 196))
            rw [← hw8]
            clear hw8 c0 c1 c2 c3 c4 c5 c6 c7 c8 c9 c10 c11 c12 c13 c14 cf d0 d1 d2 d3 d4 d5 d6 d7 d8 df
            obtain ⟨e0, e1, e2, e3, e4, e5, e6, e7, e8, ef⟩ := T8.tree
            have htl8 : t < w8.heap.size := T8.1.1
            have M8h := Lib.hid M8
            have T8h := Lib.hid T8
            have O8h := Lib.hid O8
            have B8h := Lib.hid B8
            clear M8 T8 O8 B8
            have K3 := Lib.hid (fun (W : World) (h : Bx W t (U.cells p cap)) => (⟨h.get 0 _ rfl, h.get 5 _ rfl, h.get 6 _ rfl⟩ : W.cell? ⟨t, 0, none⟩ = some (.int .u64 U.bridge) ∧ W.cell? ⟨t, 5, none⟩ = some (.int .u64 U.best.root) ∧ W.cell? ⟨t, 6, none⟩ = some (.int .i64 U.best.cost)))
            go_region_held3 (fun w' => w'.cell? ⟨t, 0, none⟩ = some (.int .u64 U.bridge) ∧ w'.cell? ⟨t, 5, none⟩ = some (.int .u64 U.best.root) ∧ w'.cell? ⟨t, 6, none⟩ = some (.int .i64 U.best.cost)) (first | exact ⟨e0, e5, e6⟩ | exact K3.out _ (T8h.out.1.alloc _) | exact K3.out _ ((T8h.out.1.alloc _).put4 (Nat.ne_of_lt htl8))) (fail)
            have V9 : Bx (w8.alloc (.cells (vcells ⟨U.best.root, U.best.cost, U.bridge, k⟩).toArray 116)).drew w8.heap.size (vcells ⟨U.best.root, U.best.cost, U.bridge, k⟩) := Bx.new w8 (vcells ⟨U.best.root, U.best.cost, U.bridge, k⟩) 116
            have M9 : Bx (w8.alloc (.cells (vcells ⟨U.best.root, U.best.cost, U.bridge, k⟩).toArray 116)).drew wr.heap.size (U.prt k).cells := M8h.out.alloc (.cells (vcells ⟨U.best.root, U.best.cost, U.bridge, k⟩).toArray 116)
            have T9 : TreeAt (w8.alloc (.cells (vcells ⟨U.best.root, U.best.cost, U.bridge, k⟩).toArray 116)).drew t p cap U := T8h.out.below ((bbox1 w8 (.cells (vcells ⟨U.best.root, U.best.cost, U.bridge, k⟩).toArray 116)).drew)
            have O9 : (w8.alloc (.cells (vcells ⟨U.best.root, U.best.cost, U.bridge, k⟩).toArray 116)).drew.ownsRow w5.heap.size 137 9 u6 (outsAt U k).length (ocells (outsAt U k)) := O8h.out.alloc (.cells (vcells ⟨U.best.root, U.best.cost, U.bridge, k⟩).toArray 116)
            have B9 := (ball1 B8h.out (.cells (vcells ⟨U.best.root, U.best.cost, U.bridge, k⟩).toArray 116)).drew
            have hs9 : (w8.alloc (.cells (vcells ⟨U.best.root, U.best.cost, U.bridge, k⟩).toArray 116)).drew.heap.size = wr.heap.size + 2 := by rw [World.size_drew, World.size_alloc, hs8]
            obtain ⟨w9, hw9⟩ : ∃ x : World, x = (w8.alloc (.cells (vcells ⟨U.best.root, U.best.cost, U.bridge, k⟩).toArray 116)).drew := ⟨_, rfl⟩
            rw [← hw9] at V9 M9 T9 O9 B9 hs9
            change Exit.then _ _ _ _ (w8.alloc (.cells (vcells ⟨U.best.root, U.best.cost, U.bridge, k⟩).toArray 116)).drew
            rw [← hw9]
            rw [hs8] at V9
            clear hw9 M8h T8h O8h B8h K3 e0 e1 e2 e3 e4 e5 e6 e7 e8 ef htl8 HO9 HBel HTr
            obtain ⟨-, -, e2, -, e4, -⟩ := T9.tree
            have V9h := Lib.hid V9
            have M9h := Lib.hid M9
            have T9h := Lib.hid T9
            have O9h := Lib.hid O9
            have B9h := Lib.hid B9
            clear V9 M9 T9 O9 B9
            go_upto_region 16 with fail
            go_cut [10] (fun s10 wx => s10 = .bool U.chg ∧ Bx wx (wr.heap.size + 1) (vcells ⟨U.best.root, U.best.cost, U.bridge, k⟩) ∧ Bx wx wr.heap.size (U.prt k).cells ∧ TreeAt wx t p cap U ∧ wx.ownsRow w5.heap.size 137 9 u6 (outsAt U k).length (ocells (outsAt U k)) ∧ Below w5.heap.size w5 wx ∧ wx.heap.size = wr.heap.size + 2)
            case first =>
              have hch : U.chg = ((U.change != -1) && decide (wrap64 (U.now - U.change) < 4)) := rfl
              have HCh := Lib.hid hch
              clear hch
              obtain ⟨s1, hs1⟩ : ∃ x, (U.change != -1) = x := ⟨_, rfl⟩
              rw [hs1] at HCh
              rcases s1 with _ | _
              · go_quiet (fail)
                go_wp2
                go_meet
                exact ⟨by rw [HCh.out]; rfl, V9h.out, M9h.out, T9h.out, O9h.out, bdrew B9h.out _, hs9⟩
              · go_quiet (fail)
                go_wp2
                go_meet
                exact ⟨by rw [HCh.out]; rfl, V9h.out, M9h.out, T9h.out, O9h.out, bdrew B9h.out _, hs9⟩
            case rest =>
              obtain ⟨rfl, V10, M10, T10, O10, B10, hs10⟩ := hcut
              have V10h := Lib.hid V10.drew
              have M10h := Lib.hid M10.drew
              have O10h := Lib.hid O10.drew
              have B10h := Lib.hid B10.drew
              have HL10 := Lib.hid (HLn.out k hlt (World.drew _) (show TreeAt (World.drew _) t p cap U from T10))
              have hs11 : (World.drew wc).heap.size = wr.heap.size + 2 := by rw [World.size_drew]; exact hs10
              have HK17 := Lib.hid (fun (W : World) (h1 : Bx W wr.heap.size (U.prt k).cells) (h2 : Bx W (wr.heap.size + 1) (vcells ⟨U.best.root, U.best.cost, U.bridge, k⟩)) => (⟨h1.get 5 _ rfl, h2.get 0 _ rfl, h2.get 1 _ rfl, h2.get 2 _ rfl, h2.get 3 _ rfl⟩ : W.cell? ⟨wr.heap.size, 5, none⟩ = some (.bool (U.prt k).fwd) ∧ W.cell? ⟨wr.heap.size + 1, 0, none⟩ = some (.int .u64 U.best.root) ∧ W.cell? ⟨wr.heap.size + 1, 1, none⟩ = some (.int .i64 U.best.cost) ∧ W.cell? ⟨wr.heap.size + 1, 2, none⟩ = some (.int .u64 U.bridge) ∧ W.cell? ⟨wr.heap.size + 1, 3, none⟩ = some (.int .i64 k)))
              obtain ⟨lq, hlq⟩ : ∃ x, U.learns k = x := ⟨_, rfl⟩
              rw [hlq] at HL10
              have HMs := Lib.hid (show U.msg k = ⟨⟨U.best.root, U.best.cost, U.bridge, k⟩, A, U.chg, lq, (U.prt k).fwd⟩ by unfold Tre.msg; rw [HAG.out, hlq])
              clear V10 M10 T10 O10 B10 hlq e2 e4
              go_upto_region 17 with fail
              go_region_held3 (fun w' => w'.cell? ⟨wr.heap.size, 5, none⟩ = some (.bool (U.prt k).fwd) ∧ w'.cell? ⟨wr.heap.size + 1, 0, none⟩ = some (.int .u64 U.best.root) ∧ w'.cell? ⟨wr.heap.size + 1, 1, none⟩ = some (.int .i64 U.best.cost) ∧ w'.cell? ⟨wr.heap.size + 1, 2, none⟩ = some (.int .u64 U.bridge) ∧ w'.cell? ⟨wr.heap.size + 1, 3, none⟩ = some (.int .i64 k))
                (first | exact HK17.out _ M10h.out V10h.out | exact HK17.out _ MAh.out VAh.out | exact HK17.out _ (MAh.out.alloc _) (VAh.out.alloc _) | exact HK17.out _ MFh.out VFh.out)
                (first
                  | (go_at_call 45; (with_reducible refine HL10.out.mono ?_); rintro e wA ⟨rfl, gA⟩; have MAh := Lib.hid (M10h.out.below gA); have VAh := Lib.hid (V10h.out.below gA); have OAh := Lib.hid (own_below O10h.out gA); have BAh := Lib.hid (B10h.out.trans (gA.mono (by omega))); have sA := gA.size)
                  | (refine push_out rfl _ _ rfl w5.heap.size u6 _ _ wA.heap.size (.int .i64 k :: (⟨⟨U.best.root, U.best.cost, U.bridge, k⟩, A, U.chg, lq, (U.prt k).fwd⟩ : Msg).cells) rfl (OAh.out.alloc _) rfl (Bx.new wA _ _) rfl (out_one _ _) (by omega) (by rw [World.size_alloc]; omega) ?_; intro v' wF hF gF; have MFh := Lib.hid ((MAh.out.alloc _).grown gF (HNe.out _ (by omega))); have VFh := Lib.hid ((VAh.out.alloc _).grown gF (HNe.out _ (by omega)))))
              have HF := Lib.hid hF
              have HBF := Lib.hid ((ball1 BAh.out (.cells (.int .i64 k :: (⟨⟨U.best.root, U.best.cost, U.bridge, k⟩, A, U.chg, lq, (U.prt k).fwd⟩ : Msg).cells).toArray 137)).trans (grown_below O10h.out gF (by rw [World.size_alloc]; omega)))
              clear hF gF gA
              go_wp2
              refine ⟨⟨k + 1, by omega, by go_num, ?_, HBF.out⟩, ?_⟩
              · rw [HSu.out, HO1.out, if_neg (by decide), ocells_push, List.length_append, HMs.out]
                exact HF.out
              · simp [intOf]; omega
        · have he : k = 2 := by omega
          subst he
          have HRi := Lib.hid (row_in own (ocells_len _) B4h.out.size)
          have HT := Lib.hid ht
          have HB := Lib.hid (B4h.out.below bel)
          clear own bel ht hk hlt
          go_wp2
          go_ret
          exact ⟨_, rfl, by rw [HO.out, if_neg (by decide)]; exact HRi.out, HT.out, HB.out⟩
end Go.Proofs.YticdmepplfgdiaaGreatDoor
end
