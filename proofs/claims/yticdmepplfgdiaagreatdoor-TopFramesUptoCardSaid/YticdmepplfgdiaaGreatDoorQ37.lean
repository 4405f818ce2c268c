/-
  What net.sent computes: what a switch sends, as deliveries. Condition: they are not too many. What bridge.vlans and bridge.Check compute of the small net's switches; slices.Clone of their ports. Conditions: just that. What bridge.Check computes of the small net's switches; slices.Clone of their ports. Conditions: just that.
-/
import Derived.Deep.Upon
import Derived.Deep.RegionHeld3
import Derived.Test.YticdmepplfgdiaaGreatDoorQ19
import Derived.Test.YticdmepplfgdiaaGreatDoorQ36
import Derived.Test.YticdmepplfgdiaaGreatDoorQ33
import Derived.Test.YticdmepplfgdiaaGreatDoorQ20
import Derived.Test.YticdmepplfgdiaaGreatDoorQ25
set_option linter.unusedVariables false
set_option linter.unusedSimpArgs false
section
namespace Go.Proofs.YticdmepplfgdiaaGreatDoor
open Go.RowKit
def dvs (s : Nat) (l : List (Nat × ByteArray)) : List Dv := l.map fun x => (s, x.1, x.2)
theorem dvs_take (s : Nat) (l : List (Nat × ByteArray)) (k : Nat) (x : Nat × ByteArray) (h : l[k]? = some x) : dcells (dvs s (l.take (k + 1))) = dcells (dvs s (l.take k)) ++ [.int .i64 s, .int .i64 x.1, .string x.2] := by
  unfold dvs
  rw [List.take_add_one, h, List.map_append]
  exact dcells_push _ (s, x.1, x.2)
theorem wcells_get : ∀ (l : List (Nat × ByteArray)) (k : Nat) (x : Nat × ByteArray), l[k]? = some x → ∀ (j : Nat) (v : Value), ([.int .i64 x.1, .string x.2] : List Value)[j]? = some v → (wcells l)[k * 2 + j]? = some v
  | [], k, x, h, _, _, _ => by simp at h
  | y :: l, 0, x, h, j, v, hj => by
    simp at h
    subst h
    show ([.int .i64 y.1, .string y.2] ++ wcells l : List Value)[0 * 2 + j]? = some v
    rw [Nat.zero_mul, Nat.zero_add, List.getElem?_append_left (List.getElem?_eq_some_iff.1 hj).1]
    exact hj
  | y :: l, k + 1, x, h, j, v, hj => by
    show ([.int .i64 y.1, .string y.2] ++ wcells l : List Value)[(k + 1) * 2 + j]? = some v
    rw [List.getElem?_append_right (by simp; omega), show (k + 1) * 2 + j - ([.int .i64 y.1, .string y.2] : List Value).length = k * 2 + j by simp; omega]
    exact wcells_get l k x (by simpa using h) j v hj
theorem dv_one (s p : Int) (b : ByteArray) : ∀ u ∈ ([.int .i64 s, .int .i64 p, .string b] : List Value), u.oneCell' = true := by
  intro u hu
  simp only [List.mem_cons, List.not_mem_nil, or_false] at hu
  rcases hu with rfl | rfl | rfl <;> rfl
set_option maxRecDepth 100000 in
set_option maxHeartbeats 4000000 in
theorem sent_any (s : Nat) (l : List (Nat × ByteArray)) (v : Value) (lo : Nat) (hl : l.length ≤ 1000) (w : World) (hv : RowIn w lo v l.length (wcells l)) :
    Calls Tryz.prog 84 #[.int .i64 s, v] w fun e w' => ∃ v' b, e = .returned v' ∧ RowC w' v' b (dvs s l) ∧ (b < w'.heap.size → w.heap.size ≤ b) ∧ Below w.heap.size w w' := by
  obtain ⟨a, c, rfl, hf⟩ := hv.form
  have HF := Lib.hid hf
  clear hv hf
  go_enter Tryz.func84, Tryz.ntmps84
  go_upto_region 3 with fail
  go_loopw [5, 7, 10] (fun l5 _ i wr => ∃ k : Nat, k ≤ l.length ∧ i = .int .i64 k ∧ wr.ownsRow w.heap.size 81 3 l5 k (dcells (dvs s (l.take k))) ∧ Below w.heap.size w wr) (fun _ _ i _ => 1001 - (intOf i).toNat)
  case atStart => exact ⟨0, Nat.zero_le _, rfl, World.ownsRow_nil _ _ _ _, Below.refl _ _⟩
  case round =>
    obtain ⟨k, hk, rfl, own, bel⟩ := hrel
    by_cases hlt : k < l.length
    · obtain ⟨x, hx⟩ : ∃ x, l[k]? = some x := ⟨_, List.getElem?_eq_getElem hlt⟩
      obtain ⟨g, rfl, hg, bx⟩ := HF.out (by omega)
      have bx := bx.below bel
      have HX := Lib.hid (dvs_take s l k x hx)
      have d0 := bx.get (k * 2) _ (wcells_get l k x hx 0 _ rfl)
      have d1 := bx.get (k * 2 + 1) _ (wcells_get l k x hx 1 _ rfl)
      have HOw := Lib.hid own
      have HBl := Lib.hid bel
      have hsz : w.heap.size ≤ wr.heap.size := bel.size
      clear own bel bx hx
      go_wp2_with (at_builtin; refine push_any rfl _ _ _ 81 rfl w.heap.size Tryz.underlying78 tinfo81 rfl (by decide) u5 k _ [.int .i64 s, .int .i64 x.1, .string x.2] (wr.heap.size + 1) rfl ((HOw.out.alloc _).alloc _) rfl (Bx.new2 _ _ _ _) rfl (dv_one _ _ _) (by omega) (by decide) (by rw [World.size_alloc, World.size_alloc]; omega) ?_; intro v' w9 hown' hgr hB hs9; have HO9 := Lib.hid hown'; have HB9 := Lib.hid ((ball1 (ball1 HBl.out _) _).trans hB); clear hown' hgr hB)
      refine ⟨⟨k + 1, by omega, by go_num, by rw [HX.out]; exact HO9.out, HB9.out⟩, ?_⟩
      simp [intOf]; omega
    · have he : k = l.length := by omega
      subst he
      rw [List.take_length] at own
      obtain ⟨b, hb, hbl⟩ := own_rowC (q := dvs s l) (by rw [show (dvs s l).length = l.length from List.length_map ..]; exact own)
      have HB := Lib.hid hb
      have HBl := Lib.hid bel
      clear own bel hk hlt hb HF
      go_wp2
      go_ret
      exact ⟨_, b, rfl, HB.out, hbl, HBl.out⟩
end Go.Proofs.YticdmepplfgdiaaGreatDoor
end
section
namespace Go.Proofs.YticdmepplfgdiaaGreatDoor
open Go.RowKit
/-- two ports' cells -/
def ptCells (a b c d : Nat) : List Value := [.int .i64 10, .slice none 0 0, .slice (some ⟨a, 0, none⟩) 1 c, .int .i64 10, .slice none 0 0, .slice (some ⟨b, 0, none⟩) 1 d]
/-- nothing is appended to a row of one's own -/
theorem step_nil {ops : Array Oper} {o : Oper} {a : Act} {w : World} {K : Act → World → Prop} {Q : Exit → Act → World → Prop} {E : Prop}
    (hg : o.guard = none) (s x : Operand) (hop : o.op = Op.call { callee := Callee.builtin Builtin.append, args := #[s, x], argTypes := #[23, 23] })
    (B : Nat) (v : Value) (k : Nat) (l : List Value) (hs : a.eval s = v) (hown : w.ownsRow B 3 1 v k l) (hx : a.eval x = .slice none 0 0) (hK : K (a.put o.dst v) w) :
    if Region.wanted o (yielded ops a.tmps) = true then Oper.wp Tryz.prog o a w K Q else E := by
  have hw : Region.wanted o (yielded ops a.tmps) = true := by simp [Region.wanted, hg]
  rw [if_pos hw]
  obtain ⟨i, hi, hz, hsz, hby⟩ := info_parts tinfo3
  have key : ∃ ao cap, v = .slice ao k cap ∧ k ≤ cap := by
    rcases hown.2 with ⟨rfl, h0⟩ | ⟨g, cap, cur, rfl, _, _, hle, _⟩
    · exact ⟨none, 0, by rw [h0], by omega⟩
    · exact ⟨_, cap, rfl, hle⟩
  obtain ⟨ao, cap, rfl, hle⟩ := key
  have hrun := run_append_nothing (P := Tryz.prog) w 23 23 o.type 3 i Tryz.underlying23 hi ao k cap hle (.slice none 0 0) (by rw [hsz]; exact Src.ofNil w Tryz.underlying23 0)
  unfold Oper.wp
  simp [execOp, hop, resolve, invoke, builtin, hs, hx, hrun, Result.andThen]
  exact hK
/-- numbers are appended to a row of one's own -/
theorem step_ints {ops : Array Oper} {o : Oper} {a : Act} {w : World} {K : Act → World → Prop} {Q : Exit → Act → World → Prop} {E : Prop}
    (hg : o.guard = none) (s x : Operand) (hop : o.op = Op.call { callee := Callee.builtin Builtin.append, args := #[s, x], argTypes := #[23, 23] })
    (B : Nat) (v : Value) (k : Nat) (l : List Value) (b m c : Nat) (news : List Value) (hs : a.eval s = v) (hown : w.ownsRow B 3 1 v k l) (hx : a.eval x = .slice (some ⟨b, 0, none⟩) m c) (hc : Bx w b news) (hn : news.length = m * 1) (h1 : ∀ u ∈ news, u.oneCell' = true) (hl : k + m ≤ 100000) (hb : B ≤ w.heap.size)
    (hK : ∀ v' w', w'.ownsRow B 3 1 v' (k + m) (l ++ news) → w.grownBy w' v.ownBlock → K (a.put o.dst v') w') :
    if Region.wanted o (yielded ops a.tmps) = true then Oper.wp Tryz.prog o a w K Q else E := by
  obtain ⟨i0, hi, hz0, hz1, hz2⟩ := info_parts tinfo3
  refine step_append_own hg s x _ hop B 3 i0 _ 1 8 Tryz.underlying23 hi hz0 hz1 hz2 rfl (by decide) v k l hs hown ⟨b, 0, none⟩ m c news hx hn ?_ h1 ?_ ?_ hb hK
  · intro j u hj
    have e : (⟨b, 0, none⟩ : Addr).add j = ⟨b, j, none⟩ := by simp [Addr.add]; omega
    rw [e]
    exact hc.get j u hj
  · unfold maxLen; omega
  · omega
set_option maxRecDepth 100000 in
set_option maxHeartbeats 4000000 in
theorem vlans_two (g cp a b c d : Nat) (w : World) (h : Bx w g (ptCells a b c d)) (ha : Bx w a [.int .i64 10]) (hb : Bx w b [.int .i64 10]) :
    Calls Tryz.prog 27 #[.slice (some ⟨g, 0, none⟩) 2 cp] w fun e w' => ∃ v n, e = .returned (.slice (some ⟨v, 0, none⟩) 1 n) ∧ w.heap.size ≤ v ∧ Bx w' v [.int .i64 10] ∧ Below w.heap.size w w' := by
  have HX := Lib.hid h
  have HA := Lib.hid ha
  have HB := Lib.hid hb
  clear h ha hb
  go_enter Tryz.func27, Tryz.ntmps27
  go_upto_region 3 with fail
  go_loopw [3, 5, 8] (fun l _ i wr => ∃ k : Nat, k ≤ 2 ∧ i = .int .i64 k ∧ wr.ownsRow w.heap.size 3 1 l k (List.replicate k (.int .i64 10)) ∧ Below w.heap.size w wr) (fun _ _ i _ => 3 - (intOf i).toNat)
  case atStart => exact ⟨0, Nat.zero_le _, rfl, World.ownsRow_nil _ _ _ _, Below.refl _ _⟩
  case round =>
    obtain ⟨k, hk, rfl, own, bel⟩ := hrel
    by_cases hlt : k < 2
    · obtain ⟨q, e, hq, h0, h1, h2⟩ : ∃ q e, Bx w q [.int .i64 10] ∧ wr.cell? ⟨g, k * 3, none⟩ = some (.int .i64 10) ∧ wr.cell? ⟨g, k * 3 + 1, none⟩ = some (.slice none 0 0) ∧ wr.cell? ⟨g, k * 3 + 2, none⟩ = some (.slice (some ⟨q, 0, none⟩) 1 e) := by
        have hx := HX.out.below bel
        rcases (by omega : k = 0 ∨ k = 1) with rfl | rfl
        · exact ⟨a, c, HA.out, hx.get 0 _ rfl, hx.get 1 _ rfl, hx.get 2 _ rfl⟩
        · exact ⟨b, d, HB.out, hx.get 3 _ rfl, hx.get 4 _ rfl, hx.get 5 _ rfl⟩
      have HQ := Lib.hid (hq.below bel)
      have HO := Lib.hid own
      have HBl := Lib.hid bel
      have hsz := bel.size
      clear own bel hq
      go_upto_region 5 with fail
      have M5 := Lib.hid (Bx.new wr [.int .i64 10, .slice none 0 0, .slice (some ⟨q, 0, none⟩) 1 e] 69)
      have Q5 := Lib.hid (HQ.out.alloc (.cells #[.int .i64 10, .slice none 0 0, .slice (some ⟨q, 0, none⟩) 1 e] 69))
      have O5 := Lib.hid (HO.out.alloc (.cells #[.int .i64 10, .slice none 0 0, .slice (some ⟨q, 0, none⟩) 1 e] 69))
      have B5 := Lib.hid (ball1 HBl.out (.cells #[.int .i64 10, .slice none 0 0, .slice (some ⟨q, 0, none⟩) 1 e] 69))
      have N5 := Lib.hid (fun (b : Nat) (hb : wr.heap.size ≤ b) => own_ne HO.out hb)
      obtain ⟨n5, hn5⟩ : ∃ n, wr.heap.size = n := ⟨_, rfl⟩
      change Code.wp _ _ _ _ (wr.alloc (.cells #[.int .i64 10, .slice none 0 0, .slice (some ⟨q, 0, none⟩) 1 e] 69))
      generalize wr.alloc (.cells #[.int .i64 10, .slice none 0 0, .slice (some ⟨q, 0, none⟩) 1 e] 69) = w5 at M5 Q5 O5 B5 ⊢
      rw [hn5] at M5 N5 ⊢
      have HK := Lib.hid (fun (W : World) (h1 : Bx W n5 [.int .i64 10, .slice none 0 0, .slice (some ⟨q, 0, none⟩) 1 e]) => (⟨h1.get 1 _ rfl, h1.get 2 _ rfl⟩ : W.cell? ⟨n5, 1, none⟩ = some (.slice none 0 0) ∧ W.cell? ⟨n5, 2, none⟩ = some (.slice (some ⟨q, 0, none⟩) 1 e)))
      have hsz5 : w.heap.size ≤ w5.heap.size := B5.out.size
      clear h0 h1 h2 HQ HO HBl
      go_region_held3 (fun W => W.cell? ⟨n5, 1, none⟩ = some (.slice none 0 0) ∧ W.cell? ⟨n5, 2, none⟩ = some (.slice (some ⟨q, 0, none⟩) 1 e))
        (first | with_reducible exact HK.out _ M5.out.drew | with_reducible exact HK.out _ M6.out)
        (first
          | refine step_nil rfl _ _ rfl w.heap.size u3 k _ rfl (by exact O5.out) rfl ?_
          | (refine step_ints rfl _ _ rfl w.heap.size u3 k _ q 1 e [.int .i64 10] rfl (by exact O5.out) rfl (Q5.out.drew) rfl (by simp [Value.oneCell']) (by omega) hsz5 ?_; intro v' w6 O6q g6; have M6 := Lib.hid (M5.out.drew.grown g6 (N5.out _ (Nat.le_refl _)))))
      have HO6 := Lib.hid O6q
      have HB6 := Lib.hid (B5.out.drew.trans (show Below w.heap.size w5.drew w6 from grown_below (W := w5.drew) (W0 := w5.drew) (by exact O5.out) g6 hsz5))
      clear O6q g6
      go_wp2
      refine ⟨⟨k + 1, by omega, by go_num, by rw [List.replicate_succ']; exact HO6.out, HB6.out⟩, ?_⟩
      simp [intOf]; omega
    · have he : k = 2 := by omega
      subst he
      obtain ⟨v, n, rfl, hv, hx⟩ := row_bx own (by decide) rfl
      have hcap : 2 ≤ n := by
        rcases own.2 with ⟨e, _⟩ | ⟨g', cap, cur, e, _, _, hle, _⟩
        · cases e
        · cases e; exact hle
      have HV := Lib.hid (show Bx wr v [.int .i64 10, .int .i64 10] from hx)
      have HBl := Lib.hid bel
      have HS := Lib.hid (sort_same v n 10 wr (hx.get 0 _ rfl) (hx.get 1 _ rfl))
      clear own bel hx
      go_wp2_with (first
        | (go_at_call 87; (with_reducible refine HS.out.mono ?_); rintro e w3 ⟨rfl, g3⟩; have V3 := HV.out.below g3; have B3 := Lib.hid (HBl.out.trans (g3.mono HBl.out.size)); have HC := Lib.hid (compact_same v n hcap 10 w3 V3); clear g3 V3)
        | (go_at_call 88; (with_reducible refine HC.out.mono ?_); rintro e w4 ⟨rfl, V4q, E4q⟩; have V4 := Lib.hid V4q; have B4 := Lib.hid (B3.out.trans (E4q.to_below B3.out.size (fun x hx => by rw [List.mem_singleton.1 hx]; exact hv))); clear V4q E4q))
      go_ret
      exact ⟨v, n, rfl, hv, ⟨V4.out.1, fun i u hu => by
        have e : i = 0 := by
          rcases i with _ | i
          · rfl
          · simp at hu
        subst e
        simp at hu
        subst hu
        exact V4.out.get 0 _ rfl, V4.out.fz⟩, B4.out⟩
end Go.Proofs.YticdmepplfgdiaaGreatDoor
end
section
namespace Go.Proofs.YticdmepplfgdiaaGreatDoor
open Go.RowKit
def cfgV (id : Int) (cb cc g cp : Nat) : List Value := [.int .u64 id, .slice (some ⟨cb, 0, none⟩) 2 cc, .slice (some ⟨g, 0, none⟩) 2 cp, .string ⟨#[]⟩, .string ⟨#[]⟩, .int .i64 20, .int .i64 2, .int .i64 60, .int .i64 2, .int .i64 100, .int .i64 50, .bool false, .bool false]
/-- a small switch's costs and ports in memory -/
structure CfgAt (W : World) (cb g a b c d : Nat) : Prop where
  costs : Bx W cb [.int .i64 10, .int .i64 10]
  ports : Bx W g (ptCells a b c d)
  la : Bx W a [.int .i64 10]
  lb : Bx W b [.int .i64 10]
theorem CfgAt.below {W W' : World} {cb g a b c d : Nat} (h : CfgAt W cb g a b c d) (k : Below W.heap.size W W') : CfgAt W' cb g a b c d := ⟨h.costs.below k, h.ports.below k, h.la.below k, h.lb.below k⟩
theorem CfgAt.drew {W : World} {cb g a b c d : Nat} (h : CfgAt W cb g a b c d) : CfgAt W.drew cb g a b c d := h.below (Below.refl _ _).drew
theorem vcheck_small {cb g a b c d : Nat} (cp : Nat) (w : World) (h : CfgAt w cb g a b c d) : Calls Tryz.prog 85 #[.slice (some ⟨g, 0, none⟩) 2 cp] w fun e w' => e = .returned (.int .i64 0) ∧ Below w.heap.size w w' :=
  check_any _ _ 0 (.inl ⟨rfl, ok_two (some ⟨a, 0, none⟩) (some ⟨b, 0, none⟩) c d⟩) w (ports_two h.ports h.la h.lb)
set_option maxRecDepth 100000 in
set_option maxHeartbeats 4000000 in
theorem check_small (id : Int) {cb g a b c d : Nat} (cc cp : Nat) (w : World) (h : CfgAt w cb g a b c d) :
    Calls Tryz.prog 23 #[.agg #[.int .u64 id, .slice (some ⟨cb, 0, none⟩) 2 cc, .slice (some ⟨g, 0, none⟩) 2 cp, .string ⟨#[]⟩, .string ⟨#[]⟩, .int .i64 20, .int .i64 2, .int .i64 60, .int .i64 2, .int .i64 100, .int .i64 50, .bool false, .bool false]] w fun e w' => e = .returned (.int .i64 0) ∧ Below w.heap.size w w' := by
  have HR := Lib.hid (fun (W : World) (hW : CfgAt W cb g a b c d) => rstp_new id (b := cb) (c := cc) W hW.costs)
  have HV := Lib.hid (fun (W : World) (hW : CfgAt W cb g a b c d) => vcheck_small cp W hW)
  have HL := Lib.hid (fun (W : World) (hW : CfgAt W cb g a b c d) => vlans_two g cp a b c d W hW.ports hW.la hW.lb)
  have HS := Lib.hid self_none
  have HW0 := Lib.hid (fun W => bridge_in (n := 20) (a := 4) (b := 1000) (by decide) W)
  have HW1 := Lib.hid (fun W => bridge_in (n := 2) (a := 1) (b := 7) (by decide) W)
  have HW2 := Lib.hid (fun W => bridge_in (n := 60) (a := 1) (b := 1000) (by decide) W)
  have HW3 := Lib.hid (fun W => bridge_in (n := 2) (a := 1) (b := 1000) (by decide) W)
  have HW4 := Lib.hid (fun W => bridge_in (n := 100) (a := 1) (b := 10000) (by decide) W)
  have HW5 := Lib.hid (fun W => bridge_in (n := 50) (a := 1) (b := 1000) (by decide) W)
  have C1 := Lib.hid (h.below (bbox1 w (.cells #[.int .u64 id, .slice (some ⟨cb, 0, none⟩) 2 cc, .slice (some ⟨g, 0, none⟩) 2 cp, .string ⟨#[]⟩, .string ⟨#[]⟩, .int .i64 20, .int .i64 2, .int .i64 60, .int .i64 2, .int .i64 100, .int .i64 50, .bool false, .bool false] 35)))
  have P1 := Lib.hid (show Bx (w.alloc (.cells #[.int .u64 id, .slice (some ⟨cb, 0, none⟩) 2 cc, .slice (some ⟨g, 0, none⟩) 2 cp, .string ⟨#[]⟩, .string ⟨#[]⟩, .int .i64 20, .int .i64 2, .int .i64 60, .int .i64 2, .int .i64 100, .int .i64 50, .bool false, .bool false] 35)) w.heap.size (cfgV id cb cc g cp) from Bx.new w (cfgV id cb cc g cp) 35)
  have G1 := Lib.hid (bbox1 w (.cells #[.int .u64 id, .slice (some ⟨cb, 0, none⟩) 2 cc, .slice (some ⟨g, 0, none⟩) 2 cp, .string ⟨#[]⟩, .string ⟨#[]⟩, .int .i64 20, .int .i64 2, .int .i64 60, .int .i64 2, .int .i64 100, .int .i64 50, .bool false, .bool false] 35))
  clear h
  go_enter Tryz.func23, Tryz.ntmps23
  go_wp2_with (first
    | (go_at_call 28; (with_reducible refine (HR.out _ C1.out).mono ?_); rintro e w2 ⟨t2, q2, k2, rfl, -, -, -, g2⟩; have C2 := Lib.hid (C1.out.below g2); have P2 := Lib.hid (P1.out.below g2); have G2 := Lib.hid (bstep G1.out g2); clear g2; have p12 := P2.out.get 1 _ rfl; have p22 := P2.out.get 2 _ rfl)
    | (go_at_call 85; (with_reducible refine (HV.out _ C2.out).mono ?_); rintro e w3 ⟨rfl, g3⟩; have C3 := Lib.hid (C2.out.below g3); have P3 := Lib.hid (P2.out.below g3); have G3 := Lib.hid (bstep G2.out g3); clear g3; have p13 := P3.out.get 1 _ rfl; have p23 := P3.out.get 2 _ rfl)
    | (go_at_call 27; (with_reducible refine (HL.out _ C3.out).mono ?_); rintro e w4 ⟨v4, n4, rfl, -, -, g4⟩; have P4 := Lib.hid (P3.out.below g4); have G4 := Lib.hid (bstep G3.out g4); clear g4; have p34 := P4.out.get 3 _ rfl; have p44 := P4.out.get 4 _ rfl; have p54 := P4.out.get 5 _ rfl; have p64 := P4.out.get 6 _ rfl; have p74 := P4.out.get 7 _ rfl; have p84 := P4.out.get 8 _ rfl; have p94 := P4.out.get 9 _ rfl; have p104 := P4.out.get 10 _ rfl; have p114 := P4.out.get 11 _ rfl; have p124 := P4.out.get 12 _ rfl)
    | (go_at_call 86; (with_reducible refine (HS.out _ _).mono ?_); rintro e wq ⟨rfl, hq⟩; subst hq)
    | (go_at_call 24; (with_reducible refine (HW0.out _).mono ?_); rintro e wq ⟨rfl, hq⟩; subst hq)
    | (go_at_call 24; (with_reducible refine (HW1.out _).mono ?_); rintro e wq ⟨rfl, hq⟩; subst hq)
    | (go_at_call 24; (with_reducible refine (HW2.out _).mono ?_); rintro e wq ⟨rfl, hq⟩; subst hq)
    | (go_at_call 24; (with_reducible refine (HW3.out _).mono ?_); rintro e wq ⟨rfl, hq⟩; subst hq)
    | (go_at_call 24; (with_reducible refine (HW4.out _).mono ?_); rintro e wq ⟨rfl, hq⟩; subst hq)
    | (go_at_call 24; (with_reducible refine (HW5.out _).mono ?_); rintro e wq ⟨rfl, hq⟩; subst hq))
  go_ret
  exact ⟨rfl, G4.out⟩
theorem tinfo69 : (Tryz.prog.info? 69).map (fun i => (i.zero, i.size, i.bytes)) = some (some (.agg #[.int .i64 0, .slice none 0 0, .slice none 0 0]), 3, 56) := by kernel_rfl
set_option maxRecDepth 100000 in
set_option maxHeartbeats 1000000 in
theorem clone_ports {g a b c d : Nat} (cp : Nat) (w : World) (h : Bx w g (ptCells a b c d)) : Calls Tryz.prog 25 #[.slice (some ⟨g, 0, none⟩) 2 cp] w fun e w' => ∃ q n, e = .returned (.slice (some ⟨q, 0, none⟩) 2 n) ∧ w.heap.size ≤ q ∧ Bx w' q (ptCells a b c d) ∧ Below w.heap.size w w' := by
  have HX := Lib.hid h
  clear h
  have he := fun W => @Lib.run_eql_slice_nil Tryz.prog W
  go_enter Tryz.func25, Tryz.ntmps25
  go_wp2_with (at_builtin; refine push_from rfl _ _ _ 69 rfl w.heap.size Tryz.underlying24 tinfo69 rfl (by decide) _ 0 [] (ptCells a b c d) g 2 cp rfl (own_empty w _ 3) rfl (HX.out.alloc _) rfl (by simp [ptCells, Value.oneCell']) (by omega) (by decide) (by rw [World.size_alloc]; omega) ?_; intro v' w9 hown' hgr hB hs9; obtain ⟨q, n, rfl, hb, hx9⟩ := row_bx hown' (by decide) rfl; have HX9 := Lib.hid hx9; have HB9 := Lib.hid ((bbox1 w (.cells #[] 69)).trans hB); clear hown' hgr hB hx9)
  go_ret
  exact ⟨q, n, rfl, hb, HX9.out, HB9.out⟩
end Go.Proofs.YticdmepplfgdiaaGreatDoor
end
