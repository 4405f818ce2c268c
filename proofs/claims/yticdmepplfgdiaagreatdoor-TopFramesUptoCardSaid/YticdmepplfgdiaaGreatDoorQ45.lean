/-
  What net's Send computes of the small net's one frame. Conditions: all ports are open, those that take it learn, no station is known yet, the time is one. What net.New leans on: the switch's Link as one fact; where an appended row lies. Conditions: those of each. A net on its way: so many of its switches are made. Conditions: those of each.
-/
import Derived.Test.YticdmepplfgdiaaGreatDoorQ41
import Derived.Test.YticdmepplfgdiaaGreatDoorQ44
import Derived.Test.YticdmepplfgdiaaGreatDoorQ23
import Derived.Test.YticdmepplfgdiaaGreatDoorQ43
set_option linter.unusedVariables false
set_option linter.unusedSimpArgs false
section
namespace Go.Proofs.YticdmepplfgdiaaGreatDoor
open Go.RowKit
/-- the frame has its turn -/
def drel (s : Nat) (d : Dv) (s' : Nat) (c : Bool) (m : List Dv) : Prop :=
  (s = 0 ∧ d = (0, 1, dataW) ∧ s' = 1 ∧ c = false ∧ m = [(1, 1, dataW)]) ∨ (s = 1 ∧ d = (1, 1, dataW) ∧ s' = 1 ∧ c = true ∧ m = [])
theorem data_runs : Runs drel 0 [(0, 1, dataW)] [] 1 [(1, 1, dataW)] 2 :=
  .more (m := [(1, 1, dataW)]) (.inl ⟨rfl, rfl, rfl, rfl, rfl⟩) (by decide) (.quiet (c := true) (.inr ⟨rfl, rfl, rfl, rfl, rfl⟩) (.nil 1 [(1, 1, dataW)]))
/-- what the frame's turns hang on -/
structure DatS (N : Nts) (B1 : Brs) (T1 : Tre) (s : Nat) (W : World) : Prop where
  net : NetAt W N
  br1 : s = 0 → BrAt W B1 T1 T1.change
structure Pass (T : Tre) : Prop where
  role : (T.prt 0).role ≠ 0
  learns : T.learns 0 = true
  f0 : T.p0.fwd = true
  f1 : T.p1.fwd = true
theorem data_turns {N : Nts} {B0 B1 : Brs} {T1 : Tre} {now : Int} {n0 : Nat} (hL : Lies2 N B0 B1) (hN : ∀ x, x ∈ N.all → x ∉ B1.all) (hn0 : 1 ≤ now) (hn1 : now ≤ 1099511627776) (hlt : ∀ x, x ∈ N.all ++ B0.all ++ B1.all → x < n0) (hP : Pass T1) :
    Turns drel N.n now (DatS N B1 T1) [B1.smb] n0 := by
  have l1 : ∀ x, x ∈ B1.all → x < n0 := fun x hx => hlt x (List.mem_append_right _ hx)
  have ln : ∀ x, x ∈ N.all → x < n0 := fun x hx => hlt x (List.mem_append_left _ (List.mem_append_left _ hx))
  have hsm : B1.smb ∈ B1.all := List.mem_append_right _ (by simp [Brs.still])
  rintro s d s' c m hr W bx left hI hbx hb1 h1 h2
  rcases hr with ⟨rfl, rfl, rfl, rfl, rfl⟩ | ⟨rfl, rfl, rfl, rfl, rfl⟩
  · refine (turn_on (N := N) 0 1 1 0 (.inl ⟨rfl, rfl, rfl, rfl⟩) dataW now bx left h1 h2 W hI.net hbx (fun e => by have := ln _ e; omega) [B1.smb] (fun e => by have := l1 _ hsm; have := List.mem_singleton.1 e; omega) (fun x hx e => hN x hx (by rw [List.mem_singleton.1 e]; exact hsm)) (fun x hx => by have := l1 _ hsm; rw [List.mem_singleton.1 hx]; have := hbx.1; omega) [(1, dataW)] (by simp) (fun W => NetAt W N) (fun _ _ h g => h.below g) ?_).mono ?_
    · intro W1 g
      have hB1 := (hI.br1 rfl).beside g (fun y hy e => by have := l1 _ e; rw [List.mem_singleton.1 hy] at this; omega)
      have hN1 := hI.net.beside g (fun x hx e => by have := ln x hx; rw [List.mem_singleton.1 e] at this; omega)
      rw [if_neg (by decide), hL.e1]
      refine (brdata_any (k := 0) (by decide) hn0 hn1 hP.role hP.learns hP.f0 hP.f1 W1 hB1).mono ?_
      rintro e w' ⟨v, rfl, hr, g2⟩
      exact ⟨v, rfl, hr.mono (Nat.zero_le _), hN1.beside g2 (fun x hx e => hN x hx (by rw [List.mem_singleton.1 e]; exact hsm)), g2⟩
    · rintro e w' ⟨v, b, rfl, hr, hp, hcc, hB⟩
      exact ⟨v, b, left - 1, rfl, hr, ⟨hp, fun e => absurd e (by decide)⟩, hcc, by omega, by omega, hB⟩
  · refine (turn_out (N := N) 1 dataW now bx (.inr rfl) W hI.net).mono ?_
    rintro e w' ⟨rfl, g⟩
    exact ⟨.slice none 0 0, W.heap.size, left, rfl, ⟨none, 0, 0, rfl, ⟨Nat.le_refl _, fun h => absurd h (Nat.lt_irrefl _), fun h => absurd h (Nat.lt_irrefl _), rfl, fun j u hj => by simp [dcells] at hj, fun j hj => by simp at hj⟩, Nat.zero_le _⟩, ⟨hI.net.below g, fun e => absurd e (by decide)⟩, hbx.below g, by omega, by omega, .of_below g⟩
theorem DatS.under {N : Nts} {B1 : Brs} {T1 : Tre} {s n : Nat} {W W' : World} (h : DatS N B1 T1 s W) (hlt : ∀ x, x ∈ N.all ++ B1.all → x < n) (g : Below n W W') : DatS N B1 T1 s W' := by
  have hb : Beside (List.range' n W.heap.size) W W' := ⟨g.os, g.tape, g.output, g.size, fun k hk hs => g.block k (by simp [List.mem_range'_1] at hs; omega)⟩
  refine ⟨h.net.beside hb (fun x hx => ?_), fun e => (h.br1 e).beside hb (fun x hx e => ?_)⟩
  · have := hlt x (List.mem_append_left _ hx); simp [List.mem_range'_1]; omega
  · have := hlt x (List.mem_append_right _ e); simp [List.mem_range'_1] at hx; omega
set_option maxRecDepth 100000 in
set_option maxHeartbeats 1000000 in
theorem net_is {N : Nts} (w : World) (h : NetAt w N) : Calls Tryz.prog 82 #[.pointer (some ⟨N.n, 0, none⟩), .int .i64 0] w fun e w' => e = .returned (.bool true) ∧ w' = w := by
  have n0 := h.cells.get 0 _ rfl
  clear h
  go_enter Tryz.func82, Tryz.ntmps82
  go_wp2
  go_ret
  exact ⟨rfl, rfl⟩
set_option maxRecDepth 100000 in
set_option maxHeartbeats 4000000 in
theorem netsend_any {N : Nts} {B0 B1 : Brs} {T0 T1 : Tre} {now : Int} (hL : Lies2 N B0 B1) (hN0 : ∀ x, x ∈ N.all → x ∉ B0.all) (hN : ∀ x, x ∈ N.all → x ∉ B1.all) (h01 : ∀ x, x ∈ B0.all → x ∉ B1.all) (h0 : 1 ≤ now) (h1 : now ≤ 1099511627776) (w : World) (hlt : ∀ x, x ∈ N.all ++ B0.all ++ B1.all → x < w.heap.size) (hP0 : Pass T0) (hP1 : Pass T1) (h : NetS N B0 B1 (T0, T1) w) :
    Calls Tryz.prog 22 #[.pointer (some ⟨N.n, 0, none⟩), .int .i64 0, .int .i64 0, .string dataW, .int .i64 now] w fun e w' => ∃ v, e = .returned v ∧ RowIn w' w.heap.size v 1 (dcells [(1, 1, dataW)]) ∧ Beside [B0.smb, B1.smb] w w' := by
  have hs0 : B0.smb ∈ B0.all := List.mem_append_right _ (by simp [Brs.still])
  have hs1 : B1.smb ∈ B1.all := List.mem_append_right _ (by simp [Brs.still])
  have HI := Lib.hid (net_is w h.net)
  have HT := Lib.hid (show Calls Tryz.prog 10 #[.pointer (some ⟨B0.b, 0, none⟩), .int .i64 0, .string dataW, .int .i64 now] w fun e w' => ∃ v, e = .returned v ∧ RowIn w' w.heap.size v 1 (wcells [(1, dataW)]) ∧ Beside [B0.smb] w w' from brdata_any (k := 0) (by decide) h0 h1 hP0.role hP0.learns hP0.f0 hP0.f1 w h.br0)
  have HTv := Lib.hid (fun (W : World) (v : Value) (b : Nat) (hv : RowC W v b [(0, 1, dataW)]) (hb : 0 < capOf v → w.heap.size ≤ b) (hn : w.heap.size ≤ W.heap.size) (hI : DatS N B1 T1 0 W) => travel_any (data_turns hL hN h0 h1 hlt hP1) (fun s W W' (hI : DatS N B1 T1 s W) g => hI.under (n := w.heap.size) (fun x hx => hlt x (by rcases List.mem_append.1 hx with hx | hx; exact List.mem_append_left _ (List.mem_append_left _ hx); exact List.mem_append_right _ hx)) g) (fun x hx => by rw [List.mem_singleton.1 hx]; exact hlt _ (List.mem_append_right _ hs1)) data_runs (by decide) W v hv hb hn hI)
  have n0 := h.net.cells.get 0 _ rfl
  have s0 := h.net.sws.get 0 _ rfl
  rw [hL.e0] at s0
  have H := Lib.hid h
  clear h
  go_enter Tryz.func22, Tryz.ntmps22
  go_wp2_with (first
    | (go_at_call 82; (with_reducible refine HI.out.mono ?_); rintro e w1 ⟨rfl, hq⟩; subst hq)
    | (go_at_call 10; (with_reducible refine HT.out.mono ?_); rintro e w2 ⟨v2, rfl, R2q, B2q⟩; have R2 := Lib.hid R2q; have B2 := Lib.hid B2q; have N2 := Lib.hid (H.out.net.beside B2q (fun x hx e => hN0 x hx (by rw [List.mem_singleton.1 e]; exact hs0))); have A2 := Lib.hid (H.out.br1.beside B2q (fun y hy e => h01 B0.smb hs0 (by rw [← List.mem_singleton.1 hy]; exact e))); obtain ⟨a2, c2, rfl, -⟩ := R2q.form; have sz2 := B2q.size; clear R2q B2q)
    | (go_at_call 84; (with_reducible refine (sent_0 [(1, dataW)] _ w1.heap.size (by decide) w2 R2.out).mono ?_); rintro e w3 ⟨v3, b3, rfl, R3q, hb3, g3⟩; have N3 := N2.out.below g3; have A3 := A2.out.below g3; have B3 := Lib.hid (B2.out.below g3); have sz3 := g3.size; have HV := Lib.hid (HTv.out w3 v3 b3 R3q (fun hc => by have := hb3 (R3q.lt hc); omega) (by omega) ⟨N3, fun _ => A3⟩); have hb3' := Lib.hid hb3; clear R3q g3 N3 A3)
    | (go_at_call 83; (with_reducible refine HV.out.mono ?_); rintro e w4 ⟨v4, rfl, R4q, -, B4q⟩; have R4 := Lib.hid R4q; have B4 := Lib.hid B4q; clear R4q B4q))
  go_ret
  refine ⟨_, rfl, R4.out.mono (by omega), ?_⟩
  have e1 := B3.out
  have e2 := B4.out
  refine ⟨e2.os.trans e1.os, e2.tape.trans e1.tape, e2.output.trans e1.output, Nat.le_trans e1.size e2.size, fun j hj hs => (e2.block j (by omega) (fun e => ?_)).trans (e1.block j hj (fun e => hs (by rw [List.mem_singleton.1 e]; simp)))⟩
  rcases List.mem_cons.1 e with e | e
  · have := hb3'.out (by rw [← e]; omega); omega
  · exact hs (by rw [List.mem_singleton.1 e]; simp)
end Go.Proofs.YticdmepplfgdiaaGreatDoor
end
section
namespace Go.Proofs.YticdmepplfgdiaaGreatDoor
open Go.RowKit
theorem brlink_at {B : Brs} {T : Tre} {k : Nat} (hk : k < 2) (w : World) (h : BrAt w B T T.change) :
    Calls Tryz.prog 9 #[.pointer (some ⟨B.b, 0, none⟩), .int .i64 k, .bool true, .int .i64 1] w fun e w' => e = .returned (.tuple #[]) ∧ BrAt w' B (T.linked k true 1) (T.linked k true 1).change ∧ Beside B.muts w w' := by
  obtain ⟨k1, k2, k3, k4, k5, k6, k7, k8, k9, k10⟩ := h.ne
  have hs : ∀ y, y ∈ [B.b, B.t, B.p] → y ∈ B.muts := by
    intro y hy
    simp only [List.mem_cons, List.not_mem_nil, or_false] at hy
    rcases hy with rfl | rfl | rfl <;> simp [Brs.muts]
  have a1 : B.st ∉ B.muts := Brs.apart h.nd (by simp [Brs.still])
  have a2 : B.smb ∉ B.muts := Brs.apart h.nd (by simp [Brs.still])
  have hp : ∀ x, x ∉ B.muts → x ∉ [B.t, B.p] := fun x hx e => hx (hs x (List.mem_cons_of_mem _ e))
  refine (brlink_any B.b B.t B.p B.cap B.st B.smb B.gr B.ro B.aq B.q B.pp B.pc k B.id T.change 1 B.costs (.slice (some ⟨B.vb, 0, none⟩) 1 B.vc) T hk (by decide) (by decide) w h.cells h.tree h.dark (fun e => a1 (by rw [e]; simp [Brs.muts])) (fun e => a2 (by rw [e]; simp [Brs.muts])) (hp _ a1) (hp _ a2) ?_).mono ?_
  · simp only [List.mem_cons, List.not_mem_nil, or_false, not_or]
    exact ⟨k1, k2⟩
  · rintro e w' ⟨rfl, hX, hT, hB⟩
    refine ⟨rfl, h.turned hB hs hX hT (h.k4.beside hB ?_) (h.k16.beside hB ?_), hB.mono hs⟩
    all_goals simp only [List.mem_cons, List.not_mem_nil, or_false, not_or]
    · exact ⟨Ne.symm k3, Ne.symm k6, Ne.symm k8⟩
    · exact ⟨Ne.symm k4, Ne.symm k7, Ne.symm k9⟩
/-- an appended row lies where it was, or anew -/
theorem append_where {P : Program} (w : World) (base : Nat) (t ty e : TypeId) (i : TypeInfo) (z : Value) (size bytes : Nat) (ht : P.underlying t = some (.slice e)) (hi : P.info? e = some i) (hz : i.zero = some z)
    (hsize : i.size = size) (hby : i.bytes = bytes) (hzs : z.cells.size = size) (hsz : 0 < size)
    (v : Value) (n : Nat) (xs : List Value) (hown : w.ownsRow base e size v n xs)
    (a : Addr) (m c : Nat) (news : List Value) (hl : news.length = m * size) (hnews : ∀ j u, news[j]? = some u → w.cell? (a.add j) = some u) (h1 : ∀ u ∈ news, u.oneCell' = true)
    (h63 : n + m ≤ maxLen) (hbytes : (n + m) * bytes ≤ 140737488355328) (hm : 0 < m) {v' : Value} {w' : World} (hr : (Builtin.append_ #[t, t] ty #[v, .slice (some a) m c]).run P w = .ok v' w') :
    v'.ownBlock = v.ownBlock ∨ v'.ownBlock = some w.heap.size := by
  subst hsize
  subst hby
  have hsmall : n + m ≤ 9223372036854775807 := by simp only [maxLen] at h63; omega
  have hh := hown
  rcases hown.2 with ⟨rfl, rfl⟩ | ⟨g, cap, cur, rfl, hbg, hg, hnc, hcm, hcs, htake⟩
  · right
    have hx : xs = [] := List.eq_nil_of_length_eq_zero (by simpa using hown.1)
    subst hx
    have hq := run_append_nil (P := P) w t ty e i z ht hi hz a m c news hl hnews (by omega) (by omega) (by have hb := hbytes; simp only [Nat.zero_add] at hb; omega)
    rw [hq] at hr
    cases hr
    rfl
  · by_cases hroom : n + m ≤ cap
    · left
      have hfit : n * i.size + news.length ≤ cur.size := by rw [hl, hcs, ← Nat.add_mul]; exact Nat.mul_le_mul_right _ hroom
      have hq := run_append_room (P := P) w t ty e i ht hi g n cap cur hg a m c news hl hnews h1 hroom hfit
      rw [hq] at hr
      cases hr
      rfl
    · right
      have holds : ∀ j u, xs[j]? = some u → w.cell? ((⟨g, 0, none⟩ : Addr).add j) = some u := hh.cells (g := g) rfl
      have hq := run_append_grow (P := P) w t ty e i z ht hi hz ⟨g, 0, none⟩ n cap xs hh.1 holds a m c news hl hnews (by omega) (by omega) (growslice_fits (by omega) hbytes)
      rw [hq] at hr
      cases hr
      rfl
theorem wpList_append_where {P : Program} {ops : Array Oper} {rest : List Oper} {o : Oper} {act : Act} {w : World} {Q : Exit → Act → World → Prop} (hgd : o.guard = none) (s x : Operand) (t : TypeId)
    (ho : o.op = .call { callee := .builtin .append, args := #[s, x], argTypes := #[t, t] })
    (base : Nat) (e : TypeId) (i : TypeInfo) (z : Value) (size bytes : Nat) (ht : P.underlying t = some (.slice e)) (hi : P.info? e = some i) (hz : i.zero = some z)
    (hsize : i.size = size) (hby : i.bytes = bytes) (hzs : z.cells.size = size) (hsz : 0 < size)
    (v : Value) (n : Nat) (xs : List Value) (hs : act.eval s = v) (hown : w.ownsRow base e size v n xs)
    (ad : Addr) (m c : Nat) (news : List Value) (hx : act.eval x = .slice (some ad) m c) (hl : news.length = m * size) (hnews : ∀ j u, news[j]? = some u → w.cell? (ad.add j) = some u) (h1 : ∀ u ∈ news, u.oneCell' = true)
    (h63 : n + m ≤ maxLen) (hbytes : (n + m) * bytes ≤ 140737488355328) (hbase : base ≤ w.heap.size) (hm : 0 < m)
    (h : ∀ v' w', w'.ownsRow base e size v' (n + m) (xs ++ news) → w.grownBy w' v.ownBlock → v'.ownBlock = v.ownBlock ∨ v'.ownBlock = some w.heap.size → wpList P ops Q rest (act.put o.dst v') w') : wpList P ops Q (o :: rest) act w := by
  obtain ⟨v1, w1, hr1, -, -, -⟩ := run_append_own (P := P) w base t o.type e i z size bytes ht hi hz hsize hby hzs hsz v n xs hown ad m c news hl hnews h1 h63 hbytes hbase
  have hw := append_where w base t o.type e i z size bytes ht hi hz hsize hby hzs hsz v n xs hown ad m c news hl hnews h1 h63 hbytes hm hr1
  refine wpList_plain hgd fun _ hK => ?_
  obtain ⟨v2, w2, hr2, g2, g3, -⟩ := run_append_own (P := P) w base t o.type e i z size bytes ht hi hz hsize hby hzs hsz v n xs hown ad m c news hl hnews h1 h63 hbytes hbase
  rw [hr1] at hr2
  cases hr2
  unfold Oper.wp execOp
  simp only [ho, resolve, invoke, builtin, Sem.run_bind, Sem.run_pure, Result.andThen_ok, List.map_toArray, List.map_cons, List.map_nil, hs, hx, hr1]
  exact hK _ _ (h v1 w1 g2 g3 hw)
end Go.Proofs.YticdmepplfgdiaaGreatDoor
end
section
namespace Go.Proofs.YticdmepplfgdiaaGreatDoor
open Go.RowKit
def bptr (B : Brs) : Value := .pointer (some ⟨B.b, 0, none⟩)
structure NewS (w : World) (n fm : Nat) (Bs : List Brs) (v : Value) (W : World) : Prop where
  net : Bx W n [v, .slice none 0 0, .slice none 0 0, .map (some fm)]
  map : W.heap[fm]? = some (.map #[] 0)
  own : W.ownsRow w.heap.size 31 1 v Bs.length (Bs.map bptr)
  row : ∀ g, v.ownBlock = some g → g ≠ n ∧ g ≠ fm ∧ ∀ B, B ∈ Bs → g ∉ B.all
  sws : ∀ (i : Nat) (B : Brs), Bs[i]? = some B → B.id = i + 1 ∧ BrAt W B (beginT (i + 1 : Nat)) (beginT (i + 1 : Nat)).change ∧ ∀ x, x ∈ B.all → n < x ∧ fm < x ∧ w.heap.size ≤ x ∧ x < W.heap.size
  sep : ∀ (i j : Nat) (B C : Brs), i < j → Bs[i]? = some B → Bs[j]? = some C → ∀ x, x ∈ B.all → x ∉ C.all
  lo : w.heap.size ≤ n ∧ w.heap.size ≤ fm ∧ fm < W.heap.size ∧ n ≠ fm
  bel : Below w.heap.size w W
theorem NewS.below {w : World} {n fm : Nat} {Bs : List Brs} {v : Value} {W W' : World} (h : NewS w n fm Bs v W) (g : Below W.heap.size W W') : NewS w n fm Bs v W' where
  net := h.net.below g
  map := (g.block fm h.lo.2.2.1).trans h.map
  own := own_below h.own g
  row := h.row
  sws := fun i B hB => by
    obtain ⟨a, b, c⟩ := h.sws i B hB
    exact ⟨a, b.below g, fun x hx => ⟨(c x hx).1, (c x hx).2.1, (c x hx).2.2.1, Nat.lt_of_lt_of_le (c x hx).2.2.2 g.size⟩⟩
  sep := h.sep
  lo := ⟨h.lo.1, h.lo.2.1, Nat.lt_of_lt_of_le h.lo.2.2.1 g.size, h.lo.2.2.2⟩
  bel := h.bel.trans (g.mono h.bel.size)
theorem grown_beside {W V : World} {r : Option Nat} (h : W.grownBy V r) : Beside r.toList W V := ⟨h.os, h.tape, h.output, h.size, fun k hk hs => h.block k hk (fun e => hs (by rw [← e]; simp))⟩
theorem NewS.push {w : World} {n fm : Nat} {Bs : List Brs} {v : Value} {W0 W : World} (h0 : NewS w n fm Bs v W0) (hW : Below W0.heap.size W0 W) {B : Brs} (hid : B.id = Bs.length + 1) (hb : BrAt W B (beginT (Bs.length + 1 : Nat)) (beginT (Bs.length + 1 : Nat)).change) (hr : ∀ x, x ∈ B.all → W0.heap.size ≤ x ∧ x < W.heap.size)
    {V : World} {v' : Value} (ho : V.ownsRow w.heap.size 31 1 v' (Bs.length + 1) (Bs.map bptr ++ [bptr B])) (o : Obj) (hg : (W.alloc o).grownBy V v.ownBlock) (hw : v'.ownBlock = v.ownBlock ∨ v'.ownBlock = some (W.alloc o).heap.size) :
    NewS w n fm (Bs ++ [B]) v' (V.setCell ⟨n, 0, none⟩ v') := by
  have h := h0.below hW
  have hvlt : ∀ g, v.ownBlock = some g → g < W0.heap.size ∧ w.heap.size ≤ g := fun g e => ⟨(h0.own.lt g e).2, (h0.own.lt g e).1⟩
  have hnlt : n < W0.heap.size := h0.net.1
  have hflt := h0.lo.2.2.1
  have hWs : W0.heap.size ≤ W.heap.size := hW.size
  have hB1 : Beside (v.ownBlock.toList ++ [n]) W V := ((Beside.refl _ W).alloc o).trans ((grown_beside hg).mono (fun x hx => List.mem_append_left _ hx))
  have hBs : Beside (v.ownBlock.toList ++ [n]) W (V.setCell ⟨n, 0, none⟩ v') := hB1.setCell (p := ⟨n, 0, none⟩) (.inl (List.mem_append_right _ (List.mem_singleton.2 rfl))) v'
  have hS : ∀ x, x ∈ v.ownBlock.toList ++ [n] → x < W0.heap.size ∧ x ≠ fm := by
    intro x hx
    rcases List.mem_append.1 hx with hx | hx
    · rw [Option.mem_toList] at hx
      exact ⟨(hvlt x hx).1, (h0.row x hx).2.1⟩
    · rw [List.mem_singleton.1 hx]
      exact ⟨hnlt, h0.lo.2.2.2⟩
  have hv'n : v'.ownBlock ≠ some n := by
    rcases hw with e | e
    · rw [e]
      intro e
      exact (h0.row n e).1 rfl
    · rw [e, World.size_alloc]
      intro e
      cases e
      omega
  have hold : ∀ (i : Nat) (C : Brs), Bs[i]? = some C → ∀ x, x ∈ C.all → x < W0.heap.size := fun i C hC x hx => ((h0.sws i C hC).2.2 x hx).2.2.2
  have hget : ∀ (i : Nat) (C : Brs), (Bs ++ [B])[i]? = some C → Bs[i]? = some C ∨ (i = Bs.length ∧ C = B) := by
    intro i C hC
    rcases Nat.lt_or_ge i Bs.length with hi | hi
    · left; rwa [List.getElem?_append_left hi] at hC
    · right
      rw [List.getElem?_append_right hi] at hC
      rcases hk : i - Bs.length with _ | k
      · rw [hk] at hC
        simp at hC
        exact ⟨by omega, hC.symm⟩
      · rw [hk] at hC
        simp at hC
  refine ⟨?_, ?_, ?_, ?_, ?_, ?_, ⟨h.lo.1, h.lo.2.1, Nat.lt_of_lt_of_le h.lo.2.2.1 hBs.size, h.lo.2.2.2⟩, ?_⟩
  · have hx : Bx V n [v, .slice none 0 0, .slice none 0 0, .map (some fm)] := (h.net.alloc o).grown hg (fun e => (h0.row n e).1 rfl)
    exact hx.set (i := 0) (x := v') (by simp)
  · exact (hBs.block fm h.lo.2.2.1 (fun e => (hS fm e).2 rfl)).trans h.map
  · rw [List.length_append, List.map_append]
    exact ho.kept (row := some n) ⟨rfl, rfl, rfl, by simp [World.setCell], fun k _ hk => Below.heap_setCell _ _ _ _ (fun e => hk (by simp [e]))⟩ (Or.inr hv'n)
  · intro g e
    rcases hw with e2 | e2
    · rw [e] at e2
      have hgv := e2.symm
      refine ⟨(h0.row g hgv).1, (h0.row g hgv).2.1, fun C hC hx => ?_⟩
      rcases List.mem_append.1 hC with hC | hC
      · exact (h0.row g hgv).2.2 C hC hx
      · rw [List.mem_singleton.1 hC] at hx
        have := (hr g hx).1
        have := (hvlt g hgv).1
        omega
    · rw [e, World.size_alloc] at e2
      cases e2
      refine ⟨by omega, by omega, fun C hC hx => ?_⟩
      rcases List.mem_append.1 hC with hC | hC
      · obtain ⟨i, hi⟩ := List.getElem?_of_mem hC
        have := hold i C hi _ hx
        omega
      · rw [List.mem_singleton.1 hC] at hx
        have := (hr _ hx).2
        omega
  · intro i C hC
    rcases hget i C hC with hC | ⟨rfl, rfl⟩
    · obtain ⟨a, b, c⟩ := h.sws i C hC
      refine ⟨a, b.beside hBs (fun y hy e => ?_), fun x hx => ⟨(c x hx).1, (c x hx).2.1, (c x hx).2.2.1, Nat.lt_of_lt_of_le (c x hx).2.2.2 hBs.size⟩⟩
      rcases List.mem_append.1 hy with hy | hy
      · rw [Option.mem_toList] at hy
        exact (h0.row y hy).2.2 C (List.mem_of_getElem? hC) e
      · rw [List.mem_singleton.1 hy] at e
        exact Nat.lt_irrefl _ (c n e).1
    · refine ⟨hid, hb.beside hBs (fun y hy e => ?_), fun x hx => ?_⟩
      · have := (hS y hy).1
        have := (hr y e).1
        omega
      · have := hr x hx
        have := h0.bel.size
        have := hBs.size
        exact ⟨by omega, by omega, by omega, by omega⟩
  · intro i j C D hij hC hD x hx hxD
    rcases hget j D hD with kD | ⟨rfl, rfl⟩
    · obtain ⟨hl, -⟩ := List.getElem?_eq_some_iff.1 kD
      rcases hget i C hC with kC | ⟨rfl, rfl⟩
      · exact h0.sep i j C D hij kC kD x hx hxD
      · skip
        exact absurd (Nat.lt_trans hij hl) (Nat.lt_irrefl _)
    · rcases hget i C hC with hC | ⟨rfl, rfl⟩
      · have := hold i C hC x hx
        have := (hr x hxD).1
        omega
      · omega
  · refine (h.bel.trans (hBs.to_below h.bel.size ?_))
    intro x hx
    rcases List.mem_append.1 hx with hx | hx
    · rw [Option.mem_toList] at hx
      exact (hvlt x hx).2
    · rw [List.mem_singleton.1 hx]
      exact h.lo.1
end Go.Proofs.YticdmepplfgdiaaGreatDoor
end
