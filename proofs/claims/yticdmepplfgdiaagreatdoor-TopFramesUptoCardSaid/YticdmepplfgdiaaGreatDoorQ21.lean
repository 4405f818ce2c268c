/-
  What rstp's settle computes, of two ports. Conditions: none.
-/
import Derived.StillTailTactics
import Derived.Test.YticdmepplfgdiaaGreatDoorQ20
set_option linter.unusedVariables false
set_option linter.unusedSimpArgs false
namespace Go.Proofs.YticdmepplfgdiaaGreatDoor
open Go.RowKit
theorem tinfo305 : (Tryz.prog.info? 305).map (fun i => (i.zero, i.size, i.bytes)) = some (some (.agg #[.bool false, .int .u64 0, .int .i64 0, .int .u64 0, .int .i64 0, .int .i64 0]), 6, 48) := by kernel_rfl
/-- a heard one is appended to a row of one's own -/
theorem push_hd {ops : Array Oper} {rest : List Oper} {o : Oper} {a : Act} {w : World} {Q : Exit → Act → World → Prop} (hgd : o.guard = none) (s x : Operand)
    (ho : o.op = .call { callee := .builtin .append, args := #[s, x], argTypes := #[303, 303] }) (B : Nat) (v : Value) (k : Nat) (l : List Value) (n : Hd) (b : Nat) (hs : a.eval s = v)
    (hown : w.ownsRow B 305 6 v k l) (hx : a.eval x = .slice (some ⟨b, 0, none⟩) 1 1) (hc : Bx w b n.cells) (hl : k ≤ 100000) (hb : B ≤ w.heap.size)
    (h : ∀ v' w', w'.ownsRow B 305 6 v' (k + 1) (l ++ n.cells) → Below B w w' → B ≤ w'.heap.size → wpList Tryz.prog ops Q rest (a.put o.dst v') w') : wpList Tryz.prog ops Q (o :: rest) a w := by
  obtain ⟨i0, hi, hz0, hz1, hz2⟩ := info_parts tinfo305
  refine wpList_append_own _ hgd s x 303 ho B 305 i0 _ 6 48 Tryz.underlying303 hi hz0 hz1 hz2 rfl (by decide) v _ _ hs hown ⟨b, 0, none⟩ 1 1 n.cells hx rfl ?_ ?_ ?_ ?_ hb ?_
  · intro j u hj
    have e : (⟨b, 0, none⟩ : Addr).add j = ⟨b, j, none⟩ := by simp [Addr.add]; omega
    rw [e]
    exact hc.get j u hj
  · intro u hu
    simp only [Hd.cells, List.mem_cons, List.not_mem_nil, or_false] at hu
    rcases hu with rfl | rfl | rfl | rfl | rfl | rfl <;> rfl
  · unfold maxLen; omega
  · omega
  · intro v' w' h1 h2 _
    refine h v' w' h1 ⟨h2.os, h2.tape, h2.output, h2.size, fun k hk => h2.block k (by omega) (fun e => ?_)⟩ (Nat.le_trans hb h2.size)
    have := (hown.lt k e.symm).1
    omega
/-- what the ports have heard -/
def Prt.heard (q : Prt) : Hd := ⟨q.up && q.keeps, q.kept, q.cost⟩
def heardAt (T : Tre) : Nat → List Value
  | 0 => []
  | 1 => T.p0.heard.cells
  | _ => T.p0.heard.cells ++ T.p1.heard.cells
theorem heardAt_succ (T : Tre) (k : Nat) (hk : k < 2) : heardAt T (k + 1) = heardAt T k ++ (T.prt k).heard.cells := by
  rcases (by omega : k = 0 ∨ k = 1) with rfl | rfl <;> rfl
/-- the tree's root and best are laid -/
def rbWorld (W : World) (t : Nat) (r : Int) (b : Vec) : World := ((((W.setCell ⟨t, 3, none⟩ (.int .i64 r)).setCell ⟨t, 5, none⟩ (.int .u64 b.root)).setCell ⟨t, 6, none⟩ (.int .i64 b.cost)).setCell ⟨t, 7, none⟩ (.int .u64 b.bridge)).setCell ⟨t, 8, none⟩ (.int .i64 b.port)
theorem TreeAt.rb {W : World} {t p cap : Nat} {T : Tre} (h : TreeAt W t p cap T) (r : Int) (b : Vec) : TreeAt (rbWorld W t r b) t p cap { T with root := r, best := b } := by
  have h1 : TreeAt _ t p cap { T with root := r } := h.setT (j := 3) (x := .int .i64 r) (by decide) rfl rfl rfl
  have h2 : TreeAt _ t p cap { T with root := r, best := { T.best with root := b.root } } := h1.setT (j := 5) (x := .int .u64 b.root) (by decide) rfl rfl rfl
  have h3 : TreeAt _ t p cap { T with root := r, best := { T.best with root := b.root, cost := b.cost } } := h2.setT (j := 6) (x := .int .i64 b.cost) (by decide) rfl rfl rfl
  have h4 : TreeAt _ t p cap { T with root := r, best := { T.best with root := b.root, cost := b.cost, bridge := b.bridge } } := h3.setT (j := 7) (x := .int .u64 b.bridge) (by decide) rfl rfl rfl
  exact h4.setT (j := 8) (x := .int .i64 b.port) (by decide) rfl rfl rfl
theorem Bx.rb {W : World} {t g : Nat} {vs : List Value} (h : Bx W g vs) (hg : g ≠ t) (r : Int) (b : Vec) : Bx (rbWorld W t r b) g vs := ((((h.put hg).put hg).put hg).put hg).put hg
theorem Beside.rb {S : List Nat} {a W : World} {t : Nat} (h : Beside S a W) (ht : t ∈ S) (r : Int) (b : Vec) : Beside S a (rbWorld W t r b) := ((((h.setCell (.inl ht) _).setCell (.inl ht) _).setCell (.inl ht) _).setCell (.inl ht) _).setCell (.inl ht) _
/-- a port, set right -/
def Prt.settled (now : Int) (q : Prt) (r : Int) : Prt :=
  { q with
    role := if q.up then r else 0
    since := if isActive (if q.up then r else 0) then (if q.since = -1 then now else q.since) else -1
    fwd := isActive (if q.up then r else 0) && decide (30 ≤ wrap64 (now - (if q.since = -1 then now else q.since))) }
def Tre.settleP (T : Tre) (k : Nat) (r : Int) : Tre :=
  { T.setP k ((T.prt k).settled T.now r) with change := if ((T.prt k).settled T.now r).fwd && !(T.prt k).fwd then T.now else T.change }
def settleAt (T : Tre) (r0 r1 : Int) : Nat → Tre
  | 0 => T
  | 1 => T.settleP 0 r0
  | _ => (T.settleP 0 r0).settleP 1 r1
theorem settleAt_succ (T : Tre) (r0 r1 : Int) (k : Nat) (hk : k < 2) : settleAt T r0 r1 (k + 1) = (settleAt T r0 r1 k).settleP k (([r0, r1] : List Int).getD k 0) := by
  rcases (by omega : k = 0 ∨ k = 1) with rfl | rfl <;> rfl
def Tre.settled (T : Tre) : Tre :=
  settleAt { T.dropped with root := (best2 T.dropped.bridge T.dropped.p0.heard T.dropped.p1.heard).1, best := (best2 T.dropped.bridge T.dropped.p0.heard T.dropped.p1.heard).2 }
    (roleOf (best2 T.dropped.bridge T.dropped.p0.heard T.dropped.p1.heard) T.dropped.bridge 0 T.dropped.p0.heard) (roleOf (best2 T.dropped.bridge T.dropped.p0.heard T.dropped.p1.heard) T.dropped.bridge 1 T.dropped.p1.heard) 2
theorem prt_setP (T : Tre) (k : Nat) (q : Prt) (hk : k < 2) : (T.setP k q).prt k = q := by
  rcases (by omega : k = 0 ∨ k = 1) with rfl | rfl <;> rfl
theorem setP_setP (T : Tre) (k : Nat) (q r : Prt) (hk : k < 2) : (T.setP k q).setP k r = T.setP k r := by
  rcases (by omega : k = 0 ∨ k = 1) with rfl | rfl <;> rfl
theorem now_setP (T : Tre) (k : Nat) (q : Prt) (hk : k < 2) : (T.setP k q).now = T.now := by
  rcases (by omega : k = 0 ∨ k = 1) with rfl | rfl <;> rfl
/-- one more store into that port -/
theorem TreeAt.setQ {W : World} {t p cap k j : Nat} {T : Tre} {q q' : Prt} {x : Value} (h : TreeAt W t p cap (T.setP k q)) (hk : k < 2) (hj : j < 15) (hq : q'.cells = q.cells.set j x) : TreeAt (W.setCell ⟨p, k * 15 + j, none⟩ x) t p cap (T.setP k q') := by
  have h2 := h.setP (q := q') (x := x) hk hj (by rw [prt_setP _ _ _ hk]; exact hq)
  rwa [setP_setP _ _ _ _ hk] at h2
theorem TreeAt.setC {W : World} {t p cap k : Nat} {T : Tre} {q : Prt} (h : TreeAt W t p cap (T.setP k q)) (hk : k < 2) (c : Int) : TreeAt (W.setCell ⟨t, 4, none⟩ (.int .i64 c)) t p cap { T.setP k q with change := c } :=
  h.setT (j := 4) (by decide) rfl rfl rfl
theorem settleP_keep {Z : Tre} {k : Nat} {r : Int} {q : Prt} (hk : k < 2) (h : (Z.prt k).settled Z.now r = q) (hf : (q.fwd && !(Z.prt k).fwd) = false) : Z.settleP k r = Z.setP k q := by
  unfold Tre.settleP
  rw [h, hf]
  rcases (by omega : k = 0 ∨ k = 1) with rfl | rfl <;> rfl
theorem settleP_turn {Z : Tre} {k : Nat} {r : Int} {q : Prt} (h : (Z.prt k).settled Z.now r = q) (hf : (q.fwd && !(Z.prt k).fwd) = true) : Z.settleP k r = { Z.setP k q with change := Z.now } := by
  unfold Tre.settleP
  rw [h, hf]
  rfl
/-- a goal that no tactic looks into -/
structure Shut (p : Prop) : Prop where
  out : p
section
variable {P : Program} {ops : Array Oper} {w : World} {Q : Act → Prop} {a : Act} {o : Oper} {rest : List Oper}
theorem shut_skip (hw : Region.wanted o (yielded ops a.tmps) = false) (h : Shut (wpStill P ops w Q rest (a.put o.dst undef))) : Shut (wpStill P ops w Q (o :: rest) a) := by
  refine ⟨?_⟩
  unfold wpStill
  rw [if_neg (by rw [hw]; decide)]
  exact h.out
theorem shut_take (hw : Region.wanted o (yielded ops a.tmps) = true) (h : ∀ K : Act → Prop, (∀ b, Shut (wpStill P ops w Q rest b) → K b) → o.still P a w K) : Shut (wpStill P ops w Q (o :: rest) a) := by
  refine ⟨?_⟩
  unfold wpStill
  rw [if_pos hw]
  exact h _ fun b hb => hb.out
end
theorem Beside.putQ {S : List Nat} {a W : World} {p o : Nat} {x : Value} (h : Beside S a W) (hp : p ∈ S) : Beside S a (W.setCell ⟨p, o, none⟩ x) := h.setCell (.inl hp) x
set_option maxRecDepth 100000 in
set_option maxHeartbeats 8000000 in
theorem settle_any (t p cap : Nat) (T : Tre) (w : World) (h : TreeAt w t p cap T) :
    Calls Tryz.prog 95 #[.pointer (some ⟨t, 0, none⟩)] w fun e w' => e = .returned (.tuple #[]) ∧ TreeAt w' t p cap T.settled ∧ Beside [t, p] w w' := by
  have HD := Lib.hid (drop_any t p cap T w h)
  clear h
  generalize hE : T.settled = E
  have HE := Lib.hid hE
  clear hE
  go_enter Tryz.func95, Tryz.ntmps95
  go_wp2_with ((with_reducible refine HD.out.mono ?_); rintro e w1 ⟨rfl, H1, B1⟩; obtain ⟨t0, t1, t2, t3, t4, t5, t6, t7, t8, tf⟩ := H1.tree)
  have HT := Lib.hid H1
  have HB := Lib.hid B1
  generalize hU : T.dropped = U at HT t0 t1 t2 t3 t4 t5 t6 t7 t8
  have HU := Lib.hid hU
  clear hU
  clear H1 B1 HD
  go_loopw [2, 4, 16] (fun u _ i wr => ∃ k : Nat, k ≤ 2 ∧ i = .int .i64 k ∧ wr.ownsRow w1.heap.size 305 6 u k (heardAt U k) ∧ Below w1.heap.size w1 wr) (fun _ _ i _ => 3 - (intOf i).toNat)
  case atStart => exact ⟨0, Nat.zero_le _, rfl, World.ownsRow_nil _ _ _ _, Below.refl _ _⟩
  case round =>
    obtain ⟨k, hk, rfl, own, bel⟩ := hrel
    have ht := HT.out.below bel
    by_cases hlt : k < 2
    · have hs := heardAt_succ U k hlt
      obtain ⟨c0, c1, c2, c3, c4, c5, c6, c7, c8, c9, c10, c11, c12, c13, c14, cf⟩ := ht.prt k hlt
      obtain ⟨d0, d1, d2, d3, d4, d5, d6, d7, d8, df⟩ := ht.tree
      have HS := Lib.hid hs
      have HO := Lib.hid own
      have HBel := Lib.hid bel
      obtain ⟨ku, hku⟩ : ∃ x, (U.prt k).up = x := ⟨_, rfl⟩
      obtain ⟨kk, hkk⟩ : ∃ x, (U.prt k).keeps = x := ⟨_, rfl⟩
      have hv : (U.prt k).heard = ⟨ku && kk, (U.prt k).kept, (U.prt k).cost⟩ := by unfold Prt.heard; rw [hku, hkk]
      rw [hku] at c3
      rw [hkk] at c4
      have HV := Lib.hid hv
      clear hs own bel ht hku hkk hv
      rcases ku with _ | _ <;> rcases kk with _ | _
      case false.false =>
        go_wp2_with (at_builtin; refine push_hd rfl _ _ rfl w1.heap.size _ k _ ⟨false, (U.prt k).kept, (U.prt k).cost⟩ (wr.heap.size + 1) rfl ((HO.out.alloc _).alloc _) rfl (Bx.new2 _ _ _ _) (by omega) (by have := HBel.out.size; simp; omega) ?_; intro v' w2 hown' hg2 hB2)
        refine ⟨⟨k + 1, by omega, by go_num, by rw [HS.out, HV.out]; exact hown', (ball1 (ball1 HBel.out _) _).trans hg2⟩, ?_⟩
        simp [intOf]; omega
      case false.true =>
        go_wp2_with (at_builtin; refine push_hd rfl _ _ rfl w1.heap.size _ k _ ⟨false, (U.prt k).kept, (U.prt k).cost⟩ (wr.heap.size + 1) rfl ((HO.out.alloc _).alloc _) rfl (Bx.new2 _ _ _ _) (by omega) (by have := HBel.out.size; simp; omega) ?_; intro v' w2 hown' hg2 hB2)
        refine ⟨⟨k + 1, by omega, by go_num, by rw [HS.out, HV.out]; exact hown', (ball1 (ball1 HBel.out _) _).trans hg2⟩, ?_⟩
        simp [intOf]; omega
      case true.false =>
        go_wp2_with (at_builtin; refine push_hd rfl _ _ rfl w1.heap.size _ k _ ⟨false, (U.prt k).kept, (U.prt k).cost⟩ (wr.heap.size + 1) rfl ((HO.out.alloc _).alloc _) rfl (Bx.new2 _ _ _ _) (by omega) (by have := HBel.out.size; simp; omega) ?_; intro v' w2 hown' hg2 hB2)
        refine ⟨⟨k + 1, by omega, by go_num, by rw [HS.out, HV.out]; exact hown', (ball1 (ball1 HBel.out _) _).trans hg2⟩, ?_⟩
        simp [intOf]; omega
      case true.true =>
        go_wp2_with (at_builtin; refine push_hd rfl _ _ rfl w1.heap.size _ k _ ⟨true, (U.prt k).kept, (U.prt k).cost⟩ (wr.heap.size + 1) rfl ((HO.out.alloc _).alloc _) rfl (Bx.new2 _ _ _ _) (by omega) (by have := HBel.out.size; simp; omega) ?_; intro v' w2 hown' hg2 hB2)
        refine ⟨⟨k + 1, by omega, by go_num, by rw [HS.out, HV.out]; exact hown', (ball1 (ball1 HBel.out _) _).trans hg2⟩, ?_⟩
        simp [intOf]; omega
    · have e2 : k = 2 := by omega
      subst e2
      obtain ⟨g, gc, rfl, hg, hx⟩ := row_bx own (by decide) (by rfl)
      have hx : Bx wr g (U.p0.heard.cells ++ U.p1.heard.cells) := hx
      have HX := Lib.hid hx
      have HQ := Lib.hid ht
      have HBel := Lib.hid bel
      have HG := Lib.hid hg
      obtain ⟨d0, d1, d2, d3, d4, d5, d6, d7, d8, df⟩ := ht.tree
      clear own hx ht bel hg t1 tf
      have hgt : g ≠ t := fun e => by have := HG.out; have := HT.out.1.1; omega
      go_upto_region 8 with (go_at_call 161; (with_reducible refine (best_any _ _ _ _ rfl g gc _ HX.out).mono ?_); rintro e w2 ⟨rfl, g2⟩; have H2 := HQ.out.below g2; obtain ⟨e0, e1, e2, e3, e4, e5, e6, e7, e8, ef⟩ := H2.tree; have HQ2 := Lib.hid H2; clear H2)
      have HBR := Lib.hid (fun W (hX : Bx W g (U.p0.heard.cells ++ U.p1.heard.cells)) => roles_any U.bridge U.p0.heard U.p1.heard g gc W hX)
      have hro : (roles2 U.bridge U.p0.heard U.p1.heard).map (Value.int .i64) = [.int .i64 (roleOf (best2 U.bridge U.p0.heard U.p1.heard) U.bridge 0 U.p0.heard), .int .i64 (roleOf (best2 U.bridge U.p0.heard U.p1.heard) U.bridge 1 U.p1.heard)] := rfl
      rw [hro] at HBR
      clear hro
      generalize hr0 : roleOf (best2 U.bridge U.p0.heard U.p1.heard) U.bridge 0 U.p0.heard = r0 at HBR
      generalize hr1 : roleOf (best2 U.bridge U.p0.heard U.p1.heard) U.bridge 1 U.p1.heard = r1 at HBR
      generalize hR : best2 U.bridge U.p0.heard U.p1.heard = R at HBR hr0 hr1 ⊢
      have hE2 : E = settleAt { U with root := R.1, best := R.2 } r0 r1 2 := by rw [← HE.out]; unfold Tre.settled; rw [HU.out, hR, hr0, hr1]
      have HE2 := Lib.hid hE2
      clear hE2 hR hr0 hr1 HE HU
      have H3 := HQ2.out.rb R.1 R.2
      have X3 := (HX.out.below g2).rb hgt R.1 R.2
      have B3 := (((Beside.mono (T := [t, p]) HB.out (fun x hx => List.mem_cons_of_mem _ hx)).trans (Beside.of_below HBel.out)).trans (Beside.of_below g2)).rb (List.mem_cons_self ..) R.1 R.2
      change Code.wp _ _ _ _ (rbWorld w2 t R.1 R.2)
      generalize rbWorld w2 t R.1 R.2 = w3 at H3 X3 B3
      generalize hV : ({ bridge := U.bridge, p0 := U.p0, p1 := U.p1, now := U.now, root := R.fst, change := U.change, best := R.snd } : Tre) = V at H3 HE2
      have hVb : V.bridge = U.bridge := by rw [← hV]
      obtain ⟨d0, d1, d2, d3, d4, d5, d6, d7, d8, df⟩ := H3.tree
      rw [hVb] at d0
      have HR2 := Lib.hid (HBR.out w3 X3)
      have H3h := Lib.hid H3
      have B3h := Lib.hid B3
      clear e0 e1 e2 e3 e4 e5 e6 e7 e8 ef H3 X3 B3 hV hVb HBR
      go_wp2_with ((with_reducible refine HR2.out.mono ?_); rintro e w4 ⟨⟨u, uc, rfl, hu, hx⟩, g4⟩; have HX4 := Lib.hid hx; have HU4 := Lib.hid hu; clear hx hu)
      have hut : u ≠ t := fun e => by have := HU4.out; have := H3h.out.1.1; omega
      have hup : u ≠ p := fun e => by have := HU4.out; have := H3h.out.2.1.1; omega
      have H4 := H3h.out.below g4
      have B4 := B3h.out.below g4
      have HA := Lib.hid active_any
      clear d0 d1 d2 d3 d4 d5 d6 d7 d8 df HR2 HQ2 HQ HX HT
      go_loopw [58] (fun i wr => ∃ k : Nat, k ≤ 2 ∧ i = .int .i64 k ∧ TreeAt wr t p cap (settleAt V r0 r1 k) ∧ Bx wr u [.int .i64 r0, .int .i64 r1] ∧ Beside [t, p] w wr) (fun i _ => 3 - (intOf i).toNat)
      case atStart => exact ⟨0, Nat.zero_le _, rfl, H4, HX4.out, B4⟩
      case round =>
        obtain ⟨k, hk, rfl, ht, hx, bes⟩ := hrel
        have HE3 := HE2
        clear H4 B4 HX4 HU4 H3h B3h HE2
        by_cases hlt : k < 2
        · have hs := settleAt_succ V r0 r1 k hlt
          have hrk : wr.cell? ⟨u, k, none⟩ = some (.int .i64 (([r0, r1] : List Int).getD k 0)) := by
            rcases (by omega : k = 0 ∨ k = 1) with rfl | rfl
            · exact hx.get 0 _ rfl
            · exact hx.get 1 _ rfl
          generalize ([r0, r1] : List Int).getD k 0 = r at hrk hs
          generalize settleAt V r0 r1 k = Z at ht hs
          obtain ⟨c0, c1, c2, c3, c4, c5, c6, c7, c8, c9, c10, c11, c12, c13, c14, cf⟩ := ht.prt k hlt
          obtain ⟨z0, z1, z2, z3, z4, z5, z6, z7, z8, zf⟩ := ht.tree
          have HQ := Lib.hid ht
          have HS := Lib.hid hs
          have HX := Lib.hid hx
          have HB := Lib.hid bes
          have htp := ht.2.2
          obtain ⟨ku, hku⟩ : ∃ x, (Z.prt k).up = x := ⟨_, rfl⟩
          rw [hku] at c3
          have HKu := Lib.hid hku
          have hpm : p ∈ [t, p] := List.mem_cons_of_mem _ (List.mem_singleton.2 rfl)
          have htm : t ∈ [t, p] := List.mem_cons_self ..
          clear ht hs hx bes hku
          obtain ⟨was, hwas⟩ : ∃ x, (Z.prt k).fwd = x := ⟨_, rfl⟩
          rw [hwas] at c5
          have HW := Lib.hid hwas
          clear hwas
          rcases ku with _ | _
          · -- the port is down
            go_upto_region 20 with (go_at_call 163; (with_reducible refine (HA.out p (k * 15) 0 false rfl _ ?_).mono ?_); (· go_simp); rintro e w6 ⟨rfl, rfl⟩)
            have H5 := ((HQ.out.setP (k := k) (j := 1) (x := .int .i64 r) (q := { Z.prt k with role := r }) hlt (by decide) rfl).setQ (j := 1) (x := .int .i64 0) (q' := { Z.prt k with role := 0 }) hlt (by decide) rfl).setQ (j := 2) (x := .int .i64 (-1)) (q' := { Z.prt k with role := 0, since := -1 }) hlt (by decide) rfl
            have B5 := (((HB.out).putQ (p := p) (o := k * 15 + 1) (x := .int .i64 r) hpm).putQ (p := p) (o := k * 15 + 1) (x := .int .i64 0) hpm).putQ (p := p) (o := k * 15 + 2) (x := .int .i64 (-1)) hpm
            have X5 := (((HX.out).put (o := k * 15 + 1) (x := .int .i64 r) hup).put (o := k * 15 + 1) (x := .int .i64 0) hup).put (o := k * 15 + 2) (x := .int .i64 (-1)) hup
            obtain ⟨w5, hw5⟩ : ∃ x : World, x = (((wr).setCell ⟨p, k * 15 + 1, none⟩ (.int .i64 r)).setCell ⟨p, k * 15 + 1, none⟩ (.int .i64 0)).setCell ⟨p, k * 15 + 2, none⟩ (.int .i64 (-1)) := ⟨_, rfl⟩
            rw [← hw5] at H5 B5 X5 ⊢
            clear hw5 c0 c1 c2 c3 c4 c5 c6 c7 c8 c9 c10 c11 c12 c13 c14 cf z0 z1 z2 z3 z4 z5 z6 z7 z8 zf hrk
            obtain ⟨c0, c1, c2, c3, c4, c5, c6, c7, c8, c9, c10, c11, c12, c13, c14, cf⟩ := H5.prt k hlt
            rw [prt_setP _ _ _ hlt] at c1 c2 c5
            obtain ⟨z0, z1, z2, z3, z4, z5, z6, z7, z8, zf⟩ := H5.tree
            rw [now_setP _ _ _ hlt] at z2
            dsimp only at c1 c2 c5
            refine wp_region_still_tail 17 (by kernel_rfl) (by kernel_rfl) ?_
            simp only [List.take_succ_cons, List.take_zero, List.drop_succ_cons, List.drop_zero]
            refine Shut.out ?_
            (refine shut_take (by kernel_rfl) (fun K hK => ?_); go_simp; refine hK _ ?_; clear hK K)
            (refine shut_take (by kernel_rfl) (fun K hK => ?_); go_simp; refine hK _ ?_; clear hK K)
            (refine shut_take (by kernel_rfl) (fun K hK => ?_); go_simp; refine ⟨_, HA.out p (k * 15) 0 false rfl _ (by exact c1), hK _ ?_⟩; clear hK K)
            (refine shut_take (by kernel_rfl) (fun K hK => ?_); go_simp; refine hK _ ?_; clear hK K)
            refine shut_skip (by kernel_rfl) ?_
            refine shut_skip (by kernel_rfl) ?_
            refine shut_skip (by kernel_rfl) ?_
            refine shut_skip (by kernel_rfl) ?_
            refine shut_skip (by kernel_rfl) ?_
            refine shut_skip (by kernel_rfl) ?_
            refine shut_skip (by kernel_rfl) ?_
            refine shut_skip (by kernel_rfl) ?_
            refine shut_skip (by kernel_rfl) ?_
            refine shut_skip (by kernel_rfl) ?_
            (refine shut_take (by kernel_rfl) (fun K hK => ?_); go_simp; refine hK _ ?_; clear hK K)
            (refine shut_take (by kernel_rfl) (fun K hK => ?_); go_simp; refine hK _ ?_; clear hK K)
            (refine shut_take (by kernel_rfl) (fun K hK => ?_); go_simp; refine hK _ ?_; clear hK K)
            refine ⟨wpStill_nil ?_⟩
            change wpList _ _ _ _ _ w5.drew
            generalize hw6 : w5.drew = w6
            have H6 := H5.drew
            have B6 := B5.drew
            have X6 := X5.drew
            rw [hw6] at H6 B6 X6
            clear hw6 H5 B5 X5 c0 c1 c2 c3 c4 c5 c6 c7 c8 c9 c10 c11 c12 c13 c14 cf z0 z1 z2 z3 z4 z5 z6 z7 z8 zf
            obtain ⟨c0, c1, c2, c3, c4, c5, c6, c7, c8, c9, c10, c11, c12, c13, c14, cf⟩ := H6.prt k hlt
            rw [prt_setP _ _ _ hlt] at c1 c2 c5
            obtain ⟨z0, z1, z2, z3, z4, z5, z6, z7, z8, zf⟩ := H6.tree
            rw [now_setP _ _ _ hlt] at z2
            dsimp only at c1 c2 c5
            have H6h := Lib.hid H6
            have X6h := Lib.hid X6
            have B6h := Lib.hid B6
            clear H6 B6 X6
            go_wp2
            refine ⟨⟨k + 1, by omega, by go_num, ?_, X6h.out.put (o := k * 15 + 5) hup, B6h.out.putQ (o := k * 15 + 5) hpm⟩, ?_⟩
            · rw [HS.out, settleP_keep hlt (show (Z.prt k).settled Z.now r = { Z.prt k with role := 0, since := -1, fwd := false } by unfold Prt.settled; simp [HKu.out, isActive]) rfl]
              exact H6h.out.setQ (j := 5) hlt (by decide) rfl
            · simp [intOf]; omega
          · -- the port is up
            obtain ⟨ac, hac⟩ : ∃ x, isActive r = x := ⟨_, rfl⟩
            have HAC := Lib.hid hac
            clear hac
            rcases ac with _ | _
            ·
              go_upto_region 20 with (go_at_call 163; (with_reducible refine (HA.out p (k * 15) r false HAC.out _ ?_).mono ?_); (· go_simp); rintro e w6 ⟨rfl, rfl⟩)
              have H5 := (HQ.out.setP (k := k) (j := 1) (x := .int .i64 r) (q := { Z.prt k with role := r }) hlt (by decide) rfl).setQ (j := 2) (x := .int .i64 (-1)) (q' := { Z.prt k with role := r, since := -1 }) hlt (by decide) rfl
              have B5 := ((HB.out).putQ (p := p) (o := k * 15 + 1) (x := .int .i64 r) hpm).putQ (p := p) (o := k * 15 + 2) (x := .int .i64 (-1)) hpm
              have X5 := ((HX.out).put (o := k * 15 + 1) (x := .int .i64 r) hup).put (o := k * 15 + 2) (x := .int .i64 (-1)) hup
              obtain ⟨w5, hw5⟩ : ∃ x : World, x = ((wr).setCell ⟨p, k * 15 + 1, none⟩ (.int .i64 r)).setCell ⟨p, k * 15 + 2, none⟩ (.int .i64 (-1)) := ⟨_, rfl⟩
              rw [← hw5] at H5 B5 X5 ⊢
              clear hw5 c0 c1 c2 c3 c4 c5 c6 c7 c8 c9 c10 c11 c12 c13 c14 cf z0 z1 z2 z3 z4 z5 z6 z7 z8 zf hrk
              obtain ⟨c0, c1, c2, c3, c4, c5, c6, c7, c8, c9, c10, c11, c12, c13, c14, cf⟩ := H5.prt k hlt
              rw [prt_setP _ _ _ hlt] at c1 c2 c5
              obtain ⟨z0, z1, z2, z3, z4, z5, z6, z7, z8, zf⟩ := H5.tree
              rw [now_setP _ _ _ hlt] at z2
              dsimp only at c1 c2 c5
              refine wp_region_still_tail 17 (by kernel_rfl) (by kernel_rfl) ?_
              simp only [List.take_succ_cons, List.take_zero, List.drop_succ_cons, List.drop_zero]
              refine Shut.out ?_
              (refine shut_take (by kernel_rfl) (fun K hK => ?_); go_simp; refine hK _ ?_; clear hK K)
              (refine shut_take (by kernel_rfl) (fun K hK => ?_); go_simp; refine hK _ ?_; clear hK K)
              (refine shut_take (by kernel_rfl) (fun K hK => ?_); go_simp; refine ⟨_, HA.out p (k * 15) r false HAC.out _ (by exact c1), hK _ ?_⟩; clear hK K)
              (refine shut_take (by kernel_rfl) (fun K hK => ?_); go_simp; refine hK _ ?_; clear hK K)
              refine shut_skip (by kernel_rfl) ?_
              refine shut_skip (by kernel_rfl) ?_
              refine shut_skip (by kernel_rfl) ?_
              refine shut_skip (by kernel_rfl) ?_
              refine shut_skip (by kernel_rfl) ?_
              refine shut_skip (by kernel_rfl) ?_
              refine shut_skip (by kernel_rfl) ?_
              refine shut_skip (by kernel_rfl) ?_
              refine shut_skip (by kernel_rfl) ?_
              refine shut_skip (by kernel_rfl) ?_
              (refine shut_take (by kernel_rfl) (fun K hK => ?_); go_simp; refine hK _ ?_; clear hK K)
              (refine shut_take (by kernel_rfl) (fun K hK => ?_); go_simp; refine hK _ ?_; clear hK K)
              (refine shut_take (by kernel_rfl) (fun K hK => ?_); go_simp; refine hK _ ?_; clear hK K)
              refine ⟨wpStill_nil ?_⟩
              change wpList _ _ _ _ _ w5.drew
              generalize hw6 : w5.drew = w6
              have H6 := H5.drew
              have B6 := B5.drew
              have X6 := X5.drew
              rw [hw6] at H6 B6 X6
              clear hw6 H5 B5 X5 c0 c1 c2 c3 c4 c5 c6 c7 c8 c9 c10 c11 c12 c13 c14 cf z0 z1 z2 z3 z4 z5 z6 z7 z8 zf
              obtain ⟨c0, c1, c2, c3, c4, c5, c6, c7, c8, c9, c10, c11, c12, c13, c14, cf⟩ := H6.prt k hlt
              rw [prt_setP _ _ _ hlt] at c1 c2 c5
              obtain ⟨z0, z1, z2, z3, z4, z5, z6, z7, z8, zf⟩ := H6.tree
              rw [now_setP _ _ _ hlt] at z2
              dsimp only at c1 c2 c5
              have H6h := Lib.hid H6
              have X6h := Lib.hid X6
              have B6h := Lib.hid B6
              clear H6 B6 X6
              go_wp2
              refine ⟨⟨k + 1, by omega, by go_num, ?_, X6h.out.put (o := k * 15 + 5) hup, B6h.out.putQ (o := k * 15 + 5) hpm⟩, ?_⟩
              · rw [HS.out, settleP_keep hlt (show (Z.prt k).settled Z.now r = { Z.prt k with role := r, since := -1, fwd := false } by unfold Prt.settled; simp [HKu.out, HAC.out]) rfl]
                exact H6h.out.setQ (j := 5) hlt (by decide) rfl
              · simp [intOf]; omega
            · obtain ⟨s1, hs1⟩ : ∃ x, ((Z.prt k).since == -1) = x := ⟨_, rfl⟩
              rcases s1 with _ | _
              · obtain ⟨ge, hge⟩ : ∃ x, decide (30 ≤ wrap64 (Z.now - (Z.prt k).since)) = x := ⟨_, rfl⟩
                have hs2 : (Z.prt k).since ≠ -1 := by simpa using hs1
                have HS2 := Lib.hid hs2
                have HGE := Lib.hid hge
                clear hs2
                rcases ge with _ | _
                ·
                  go_upto_region 20 with (go_at_call 163; (with_reducible refine (HA.out p (k * 15) r true HAC.out _ ?_).mono ?_); (· go_simp); rintro e w6 ⟨rfl, rfl⟩)
                  have H5 := HQ.out.setP (k := k) (j := 1) (x := .int .i64 r) (q := { Z.prt k with role := r }) hlt (by decide) rfl
                  have B5 := (HB.out).putQ (p := p) (o := k * 15 + 1) (x := .int .i64 r) hpm
                  have X5 := (HX.out).put (o := k * 15 + 1) (x := .int .i64 r) hup
                  obtain ⟨w5, hw5⟩ : ∃ x : World, x = (wr).setCell ⟨p, k * 15 + 1, none⟩ (.int .i64 r) := ⟨_, rfl⟩
                  rw [← hw5] at H5 B5 X5 ⊢
                  clear hw5 c0 c1 c2 c3 c4 c5 c6 c7 c8 c9 c10 c11 c12 c13 c14 cf z0 z1 z2 z3 z4 z5 z6 z7 z8 zf hrk
                  obtain ⟨c0, c1, c2, c3, c4, c5, c6, c7, c8, c9, c10, c11, c12, c13, c14, cf⟩ := H5.prt k hlt
                  rw [prt_setP _ _ _ hlt] at c1 c2 c5
                  obtain ⟨z0, z1, z2, z3, z4, z5, z6, z7, z8, zf⟩ := H5.tree
                  rw [now_setP _ _ _ hlt] at z2
                  dsimp only at c1 c2 c5
                  refine wp_region_still_tail 17 (by kernel_rfl) (by kernel_rfl) ?_
                  simp only [List.take_succ_cons, List.take_zero, List.drop_succ_cons, List.drop_zero]
                  refine Shut.out ?_
                  (refine shut_take (by kernel_rfl) (fun K hK => ?_); go_simp; refine hK _ ?_; clear hK K)
                  (refine shut_take (by kernel_rfl) (fun K hK => ?_); go_simp; refine hK _ ?_; clear hK K)
                  (refine shut_take (by kernel_rfl) (fun K hK => ?_); go_simp; refine ⟨_, HA.out p (k * 15) r true HAC.out _ (by exact c1), hK _ ?_⟩; clear hK K)
                  (refine shut_take (by kernel_rfl) (fun K hK => ?_); go_simp; refine hK _ ?_; clear hK K)
                  (refine shut_take (by kernel_rfl) (fun K hK => ?_); go_simp; refine hK _ ?_; clear hK K)
                  (refine shut_take (by kernel_rfl) (fun K hK => ?_); go_simp; refine hK _ ?_; clear hK K)
                  (refine shut_take (by kernel_rfl) (fun K hK => ?_); go_simp; refine hK _ ?_; clear hK K)
                  (refine shut_take (by kernel_rfl) (fun K hK => ?_); go_simp; refine hK _ ?_; clear hK K)
                  (refine shut_take (by kernel_rfl) (fun K hK => ?_); go_simp; refine hK _ ?_; clear hK K)
                  (refine shut_take (by kernel_rfl) (fun K hK => ?_); go_simp; refine hK _ ?_; clear hK K)
                  (refine shut_take (by kernel_rfl) (fun K hK => ?_); go_simp; refine hK _ ?_; clear hK K)
                  (refine shut_take (by kernel_rfl) (fun K hK => ?_); go_simp; refine hK _ ?_; clear hK K)
                  (refine shut_take (by kernel_rfl) (fun K hK => ?_); go_simp; refine hK _ ?_; clear hK K)
                  (refine shut_take (by kernel_rfl) (fun K hK => ?_); go_simp; refine hK _ ?_; clear hK K)
                  (refine shut_take (by kernel_rfl) (fun K hK => ?_); go_simp; refine hK _ ?_; clear hK K)
                  (refine shut_take (by kernel_rfl) (fun K hK => ?_); go_simp; refine hK _ ?_; clear hK K)
                  (refine shut_take (by kernel_rfl) (fun K hK => ?_); go_simp; refine hK _ ?_; clear hK K)
                  refine ⟨wpStill_nil ?_⟩
                  change wpList _ _ _ _ _ w5.drew
                  generalize hw6 : w5.drew = w6
                  have H6 := H5.drew
                  have B6 := B5.drew
                  have X6 := X5.drew
                  rw [hw6] at H6 B6 X6
                  clear hw6 H5 B5 X5 c0 c1 c2 c3 c4 c5 c6 c7 c8 c9 c10 c11 c12 c13 c14 cf z0 z1 z2 z3 z4 z5 z6 z7 z8 zf
                  obtain ⟨c0, c1, c2, c3, c4, c5, c6, c7, c8, c9, c10, c11, c12, c13, c14, cf⟩ := H6.prt k hlt
                  rw [prt_setP _ _ _ hlt] at c1 c2 c5
                  obtain ⟨z0, z1, z2, z3, z4, z5, z6, z7, z8, zf⟩ := H6.tree
                  rw [now_setP _ _ _ hlt] at z2
                  dsimp only at c1 c2 c5
                  have H6h := Lib.hid H6
                  have X6h := Lib.hid X6
                  have B6h := Lib.hid B6
                  clear H6 B6 X6
                  go_wp2
                  refine ⟨⟨k + 1, by omega, by go_num, ?_, X6h.out.put (o := k * 15 + 5) hup, B6h.out.putQ (o := k * 15 + 5) hpm⟩, ?_⟩
                  · rw [HS.out, settleP_keep hlt (show (Z.prt k).settled Z.now r = { Z.prt k with role := r, fwd := false } by unfold Prt.settled; simp [HKu.out, HAC.out, HS2.out, HGE.out]) rfl]
                    exact H6h.out.setQ (j := 5) hlt (by decide) rfl
                  · simp [intOf]; omega
                · rcases was with _ | _
                  ·
                    go_upto_region 20 with (go_at_call 163; (with_reducible refine (HA.out p (k * 15) r true HAC.out _ ?_).mono ?_); (· go_simp); rintro e w6 ⟨rfl, rfl⟩)
                    have H5 := HQ.out.setP (k := k) (j := 1) (x := .int .i64 r) (q := { Z.prt k with role := r }) hlt (by decide) rfl
                    have B5 := (HB.out).putQ (p := p) (o := k * 15 + 1) (x := .int .i64 r) hpm
                    have X5 := (HX.out).put (o := k * 15 + 1) (x := .int .i64 r) hup
                    obtain ⟨w5, hw5⟩ : ∃ x : World, x = (wr).setCell ⟨p, k * 15 + 1, none⟩ (.int .i64 r) := ⟨_, rfl⟩
                    rw [← hw5] at H5 B5 X5 ⊢
                    clear hw5 c0 c1 c2 c3 c4 c5 c6 c7 c8 c9 c10 c11 c12 c13 c14 cf z0 z1 z2 z3 z4 z5 z6 z7 z8 zf hrk
                    obtain ⟨c0, c1, c2, c3, c4, c5, c6, c7, c8, c9, c10, c11, c12, c13, c14, cf⟩ := H5.prt k hlt
                    rw [prt_setP _ _ _ hlt] at c1 c2 c5
                    obtain ⟨z0, z1, z2, z3, z4, z5, z6, z7, z8, zf⟩ := H5.tree
                    rw [now_setP _ _ _ hlt] at z2
                    dsimp only at c1 c2 c5
                    refine wp_region_still_tail 17 (by kernel_rfl) (by kernel_rfl) ?_
                    simp only [List.take_succ_cons, List.take_zero, List.drop_succ_cons, List.drop_zero]
                    refine Shut.out ?_
                    (refine shut_take (by kernel_rfl) (fun K hK => ?_); go_simp; refine hK _ ?_; clear hK K)
                    (refine shut_take (by kernel_rfl) (fun K hK => ?_); go_simp; refine hK _ ?_; clear hK K)
                    (refine shut_take (by kernel_rfl) (fun K hK => ?_); go_simp; refine ⟨_, HA.out p (k * 15) r true HAC.out _ (by exact c1), hK _ ?_⟩; clear hK K)
                    (refine shut_take (by kernel_rfl) (fun K hK => ?_); go_simp; refine hK _ ?_; clear hK K)
                    (refine shut_take (by kernel_rfl) (fun K hK => ?_); go_simp; refine hK _ ?_; clear hK K)
                    (refine shut_take (by kernel_rfl) (fun K hK => ?_); go_simp; refine hK _ ?_; clear hK K)
                    (refine shut_take (by kernel_rfl) (fun K hK => ?_); go_simp; refine hK _ ?_; clear hK K)
                    (refine shut_take (by kernel_rfl) (fun K hK => ?_); go_simp; refine hK _ ?_; clear hK K)
                    (refine shut_take (by kernel_rfl) (fun K hK => ?_); go_simp; refine hK _ ?_; clear hK K)
                    (refine shut_take (by kernel_rfl) (fun K hK => ?_); go_simp; refine hK _ ?_; clear hK K)
                    (refine shut_take (by kernel_rfl) (fun K hK => ?_); go_simp; refine hK _ ?_; clear hK K)
                    (refine shut_take (by kernel_rfl) (fun K hK => ?_); go_simp; refine hK _ ?_; clear hK K)
                    (refine shut_take (by kernel_rfl) (fun K hK => ?_); go_simp; refine hK _ ?_; clear hK K)
                    (refine shut_take (by kernel_rfl) (fun K hK => ?_); go_simp; refine hK _ ?_; clear hK K)
                    (refine shut_take (by kernel_rfl) (fun K hK => ?_); go_simp; refine hK _ ?_; clear hK K)
                    (refine shut_take (by kernel_rfl) (fun K hK => ?_); go_simp; refine hK _ ?_; clear hK K)
                    (refine shut_take (by kernel_rfl) (fun K hK => ?_); go_simp; refine hK _ ?_; clear hK K)
                    refine ⟨wpStill_nil ?_⟩
                    change wpList _ _ _ _ _ w5.drew
                    generalize hw6 : w5.drew = w6
                    have H6 := H5.drew
                    have B6 := B5.drew
                    have X6 := X5.drew
                    rw [hw6] at H6 B6 X6
                    clear hw6 H5 B5 X5 c0 c1 c2 c3 c4 c5 c6 c7 c8 c9 c10 c11 c12 c13 c14 cf z0 z1 z2 z3 z4 z5 z6 z7 z8 zf
                    obtain ⟨c0, c1, c2, c3, c4, c5, c6, c7, c8, c9, c10, c11, c12, c13, c14, cf⟩ := H6.prt k hlt
                    rw [prt_setP _ _ _ hlt] at c1 c2 c5
                    obtain ⟨z0, z1, z2, z3, z4, z5, z6, z7, z8, zf⟩ := H6.tree
                    rw [now_setP _ _ _ hlt] at z2
                    dsimp only at c1 c2 c5
                    have H6h := Lib.hid H6
                    have X6h := Lib.hid X6
                    have B6h := Lib.hid B6
                    clear H6 B6 X6
                    go_wp2
                    refine ⟨⟨k + 1, by omega, by go_num, ?_, (X6h.out.put (o := k * 15 + 5) hup).put (o := 4) hut, (B6h.out.putQ (o := k * 15 + 5) hpm).putQ (o := 4) htm⟩, ?_⟩
                    · rw [HS.out, settleP_turn (show (Z.prt k).settled Z.now r = { Z.prt k with role := r, fwd := true } by unfold Prt.settled; simp [HKu.out, HAC.out, HS2.out, HGE.out]) (by rw [HW.out]; rfl)]
                      exact (H6h.out.setQ (j := 5) (x := .bool true) (q' := { Z.prt k with role := r, fwd := true }) hlt (by decide) rfl).setC hlt Z.now
                    · simp [intOf]; omega
                  ·
                    go_upto_region 20 with (go_at_call 163; (with_reducible refine (HA.out p (k * 15) r true HAC.out _ ?_).mono ?_); (· go_simp); rintro e w6 ⟨rfl, rfl⟩)
                    have H5 := HQ.out.setP (k := k) (j := 1) (x := .int .i64 r) (q := { Z.prt k with role := r }) hlt (by decide) rfl
                    have B5 := (HB.out).putQ (p := p) (o := k * 15 + 1) (x := .int .i64 r) hpm
                    have X5 := (HX.out).put (o := k * 15 + 1) (x := .int .i64 r) hup
                    obtain ⟨w5, hw5⟩ : ∃ x : World, x = (wr).setCell ⟨p, k * 15 + 1, none⟩ (.int .i64 r) := ⟨_, rfl⟩
                    rw [← hw5] at H5 B5 X5 ⊢
                    clear hw5 c0 c1 c2 c3 c4 c5 c6 c7 c8 c9 c10 c11 c12 c13 c14 cf z0 z1 z2 z3 z4 z5 z6 z7 z8 zf hrk
                    obtain ⟨c0, c1, c2, c3, c4, c5, c6, c7, c8, c9, c10, c11, c12, c13, c14, cf⟩ := H5.prt k hlt
                    rw [prt_setP _ _ _ hlt] at c1 c2 c5
                    obtain ⟨z0, z1, z2, z3, z4, z5, z6, z7, z8, zf⟩ := H5.tree
                    rw [now_setP _ _ _ hlt] at z2
                    dsimp only at c1 c2 c5
                    refine wp_region_still_tail 17 (by kernel_rfl) (by kernel_rfl) ?_
                    simp only [List.take_succ_cons, List.take_zero, List.drop_succ_cons, List.drop_zero]
                    refine Shut.out ?_
                    (refine shut_take (by kernel_rfl) (fun K hK => ?_); go_simp; refine hK _ ?_; clear hK K)
                    (refine shut_take (by kernel_rfl) (fun K hK => ?_); go_simp; refine hK _ ?_; clear hK K)
                    (refine shut_take (by kernel_rfl) (fun K hK => ?_); go_simp; refine ⟨_, HA.out p (k * 15) r true HAC.out _ (by exact c1), hK _ ?_⟩; clear hK K)
                    (refine shut_take (by kernel_rfl) (fun K hK => ?_); go_simp; refine hK _ ?_; clear hK K)
                    (refine shut_take (by kernel_rfl) (fun K hK => ?_); go_simp; refine hK _ ?_; clear hK K)
                    (refine shut_take (by kernel_rfl) (fun K hK => ?_); go_simp; refine hK _ ?_; clear hK K)
                    (refine shut_take (by kernel_rfl) (fun K hK => ?_); go_simp; refine hK _ ?_; clear hK K)
                    (refine shut_take (by kernel_rfl) (fun K hK => ?_); go_simp; refine hK _ ?_; clear hK K)
                    (refine shut_take (by kernel_rfl) (fun K hK => ?_); go_simp; refine hK _ ?_; clear hK K)
                    (refine shut_take (by kernel_rfl) (fun K hK => ?_); go_simp; refine hK _ ?_; clear hK K)
                    (refine shut_take (by kernel_rfl) (fun K hK => ?_); go_simp; refine hK _ ?_; clear hK K)
                    (refine shut_take (by kernel_rfl) (fun K hK => ?_); go_simp; refine hK _ ?_; clear hK K)
                    (refine shut_take (by kernel_rfl) (fun K hK => ?_); go_simp; refine hK _ ?_; clear hK K)
                    (refine shut_take (by kernel_rfl) (fun K hK => ?_); go_simp; refine hK _ ?_; clear hK K)
                    (refine shut_take (by kernel_rfl) (fun K hK => ?_); go_simp; refine hK _ ?_; clear hK K)
                    (refine shut_take (by kernel_rfl) (fun K hK => ?_); go_simp; refine hK _ ?_; clear hK K)
                    (refine shut_take (by kernel_rfl) (fun K hK => ?_); go_simp; refine hK _ ?_; clear hK K)
                    refine ⟨wpStill_nil ?_⟩
                    change wpList _ _ _ _ _ w5.drew
                    generalize hw6 : w5.drew = w6
                    have H6 := H5.drew
                    have B6 := B5.drew
                    have X6 := X5.drew
                    rw [hw6] at H6 B6 X6
                    clear hw6 H5 B5 X5 c0 c1 c2 c3 c4 c5 c6 c7 c8 c9 c10 c11 c12 c13 c14 cf z0 z1 z2 z3 z4 z5 z6 z7 z8 zf
                    obtain ⟨c0, c1, c2, c3, c4, c5, c6, c7, c8, c9, c10, c11, c12, c13, c14, cf⟩ := H6.prt k hlt
                    rw [prt_setP _ _ _ hlt] at c1 c2 c5
                    obtain ⟨z0, z1, z2, z3, z4, z5, z6, z7, z8, zf⟩ := H6.tree
                    rw [now_setP _ _ _ hlt] at z2
                    dsimp only at c1 c2 c5
                    have H6h := Lib.hid H6
                    have X6h := Lib.hid X6
                    have B6h := Lib.hid B6
                    clear H6 B6 X6
                    go_wp2
                    refine ⟨⟨k + 1, by omega, by go_num, ?_, X6h.out.put (o := k * 15 + 5) hup, B6h.out.putQ (o := k * 15 + 5) hpm⟩, ?_⟩
                    · rw [HS.out, settleP_keep hlt (show (Z.prt k).settled Z.now r = { Z.prt k with role := r, fwd := true } by unfold Prt.settled; simp [HKu.out, HAC.out, HS2.out, HGE.out]) (by rw [HW.out]; rfl)]
                      exact H6h.out.setQ (j := 5) hlt (by decide) rfl
                    · simp [intOf]; omega
              · have hs2 : (Z.prt k).since = -1 := by simpa using hs1
                have HS2 := Lib.hid hs2
                have hge : decide (30 ≤ wrap64 (Z.now - Z.now)) = false := by rw [Int.sub_self, IntWalk.wrap64_in 0 ⟨by decide, by decide⟩]; rfl
                have HGE := Lib.hid hge
                clear hs2
                go_upto_region 20 with (go_at_call 163; (with_reducible refine (HA.out p (k * 15) r true HAC.out _ ?_).mono ?_); (· go_simp); rintro e w6 ⟨rfl, rfl⟩)
                have H5 := (HQ.out.setP (k := k) (j := 1) (x := .int .i64 r) (q := { Z.prt k with role := r }) hlt (by decide) rfl).setQ (j := 2) (x := .int .i64 Z.now) (q' := { Z.prt k with role := r, since := Z.now }) hlt (by decide) rfl
                have B5 := ((HB.out).putQ (p := p) (o := k * 15 + 1) (x := .int .i64 r) hpm).putQ (p := p) (o := k * 15 + 2) (x := .int .i64 Z.now) hpm
                have X5 := ((HX.out).put (o := k * 15 + 1) (x := .int .i64 r) hup).put (o := k * 15 + 2) (x := .int .i64 Z.now) hup
                obtain ⟨w5, hw5⟩ : ∃ x : World, x = ((wr).setCell ⟨p, k * 15 + 1, none⟩ (.int .i64 r)).setCell ⟨p, k * 15 + 2, none⟩ (.int .i64 Z.now) := ⟨_, rfl⟩
                rw [← hw5] at H5 B5 X5 ⊢
                clear hw5 c0 c1 c2 c3 c4 c5 c6 c7 c8 c9 c10 c11 c12 c13 c14 cf z0 z1 z2 z3 z4 z5 z6 z7 z8 zf hrk
                obtain ⟨c0, c1, c2, c3, c4, c5, c6, c7, c8, c9, c10, c11, c12, c13, c14, cf⟩ := H5.prt k hlt
                rw [prt_setP _ _ _ hlt] at c1 c2 c5
                obtain ⟨z0, z1, z2, z3, z4, z5, z6, z7, z8, zf⟩ := H5.tree
                rw [now_setP _ _ _ hlt] at z2
                dsimp only at c1 c2 c5
                refine wp_region_still_tail 17 (by kernel_rfl) (by kernel_rfl) ?_
                simp only [List.take_succ_cons, List.take_zero, List.drop_succ_cons, List.drop_zero]
                refine Shut.out ?_
                (refine shut_take (by kernel_rfl) (fun K hK => ?_); go_simp; refine hK _ ?_; clear hK K)
                (refine shut_take (by kernel_rfl) (fun K hK => ?_); go_simp; refine hK _ ?_; clear hK K)
                (refine shut_take (by kernel_rfl) (fun K hK => ?_); go_simp; refine ⟨_, HA.out p (k * 15) r true HAC.out _ (by exact c1), hK _ ?_⟩; clear hK K)
                (refine shut_take (by kernel_rfl) (fun K hK => ?_); go_simp; refine hK _ ?_; clear hK K)
                (refine shut_take (by kernel_rfl) (fun K hK => ?_); go_simp; refine hK _ ?_; clear hK K)
                (refine shut_take (by kernel_rfl) (fun K hK => ?_); go_simp; refine hK _ ?_; clear hK K)
                (refine shut_take (by kernel_rfl) (fun K hK => ?_); go_simp; refine hK _ ?_; clear hK K)
                (refine shut_take (by kernel_rfl) (fun K hK => ?_); go_simp; refine hK _ ?_; clear hK K)
                (refine shut_take (by kernel_rfl) (fun K hK => ?_); go_simp; refine hK _ ?_; clear hK K)
                (refine shut_take (by kernel_rfl) (fun K hK => ?_); go_simp; refine hK _ ?_; clear hK K)
                (refine shut_take (by kernel_rfl) (fun K hK => ?_); go_simp; refine hK _ ?_; clear hK K)
                (refine shut_take (by kernel_rfl) (fun K hK => ?_); go_simp; refine hK _ ?_; clear hK K)
                (refine shut_take (by kernel_rfl) (fun K hK => ?_); go_simp; refine hK _ ?_; clear hK K)
                (refine shut_take (by kernel_rfl) (fun K hK => ?_); go_simp; refine hK _ ?_; clear hK K)
                (refine shut_take (by kernel_rfl) (fun K hK => ?_); go_simp; refine hK _ ?_; clear hK K)
                (refine shut_take (by kernel_rfl) (fun K hK => ?_); go_simp; refine hK _ ?_; clear hK K)
                (refine shut_take (by kernel_rfl) (fun K hK => ?_); go_simp; refine hK _ ?_; clear hK K)
                refine ⟨wpStill_nil ?_⟩
                change wpList _ _ _ _ _ w5.drew
                generalize hw6 : w5.drew = w6
                have H6 := H5.drew
                have B6 := B5.drew
                have X6 := X5.drew
                rw [hw6] at H6 B6 X6
                clear hw6 H5 B5 X5 c0 c1 c2 c3 c4 c5 c6 c7 c8 c9 c10 c11 c12 c13 c14 cf z0 z1 z2 z3 z4 z5 z6 z7 z8 zf
                obtain ⟨c0, c1, c2, c3, c4, c5, c6, c7, c8, c9, c10, c11, c12, c13, c14, cf⟩ := H6.prt k hlt
                rw [prt_setP _ _ _ hlt] at c1 c2 c5
                obtain ⟨z0, z1, z2, z3, z4, z5, z6, z7, z8, zf⟩ := H6.tree
                rw [now_setP _ _ _ hlt] at z2
                dsimp only at c1 c2 c5
                have H6h := Lib.hid H6
                have X6h := Lib.hid X6
                have B6h := Lib.hid B6
                clear H6 B6 X6
                go_wp2
                refine ⟨⟨k + 1, by omega, by go_num, ?_, X6h.out.put (o := k * 15 + 5) hup, B6h.out.putQ (o := k * 15 + 5) hpm⟩, ?_⟩
                · rw [HS.out, settleP_keep hlt (show (Z.prt k).settled Z.now r = { Z.prt k with role := r, since := Z.now, fwd := false } by unfold Prt.settled; simp [HKu.out, HAC.out, HS2.out, IntWalk.wrap64_in 0 ⟨by decide, by decide⟩]) rfl]
                  exact H6h.out.setQ (j := 5) hlt (by decide) rfl
                · simp [intOf]; omega
        · have e2 : k = 2 := by omega
          subst e2
          have HQ := Lib.hid ht
          have HB := Lib.hid bes
          clear ht bes hx
          go_wp2
          go_end0
          exact ⟨rfl, by rw [HE3.out]; exact HQ.out, HB.out⟩
end Go.Proofs.YticdmepplfgdiaaGreatDoor
