/-
  What bridge.New makes of the small net's switches. Conditions: just that.
-/
import Derived.Test.YticdmepplfgdiaaGreatDoorQ37
import Derived.Test.YticdmepplfgdiaaGreatDoorQ20
import Derived.Test.YticdmepplfgdiaaGreatDoorQ22
set_option linter.unusedVariables false
set_option linter.unusedSimpArgs false
namespace Go.Proofs.YticdmepplfgdiaaGreatDoor
open Go.RowKit
/-- a switch's cells before its parts are made -/
def brNew (id : Int) (costs ports vl : Value) (q : Nat) : List Value :=
  [.int .u64 id, costs, ports, .string ⟨#[]⟩, .string ⟨#[]⟩, .int .i64 20, .int .i64 2, .int .i64 60, .int .i64 2, .int .i64 100, .int .i64 50, .bool false, .bool false, .pointer none, .pointer none, .pointer none, .pointer none, .pointer none, vl, .map (some q), .int .i64 (-1)]
/-- the switch as it is made first -/
def NewAt (w7 wx : World) (b vb vc q : Nat) (id : Int) (costs ports : Value) : Prop :=
  Bx wx b (brNew id costs ports (.slice (some ⟨vb, 0, none⟩) 1 vc) q) ∧ Bx wx vb [.int .i64 10] ∧ wx.heap[q]? = some (.map #[] 0) ∧ w7.heap.size ≤ vb ∧ w7.heap.size ≤ q ∧ vb ≠ q ∧ vb < b ∧ q < b ∧ Below w7.heap.size w7 wx
theorem new_a {w7 wV : World} {vb : Nat} (vc : Nat) (id : Int) (costs ports : Value) (t : TypeId) (hvb : w7.heap.size ≤ vb) (V : Bx wV vb [.int .i64 10]) (G : Below w7.heap.size w7 wV) :
    NewAt w7 ((wV.alloc (.map #[] 0)).alloc (.cells (brNew id costs ports (.slice (some ⟨vb, 0, none⟩) 1 vc) wV.heap.size).toArray t)) (wV.heap.size + 1) vb vc wV.heap.size id costs ports := by
  have hv := V.1
  have hs := G.size
  exact ⟨Bx.new2 wV _ _ t, (V.alloc _).alloc _, ((bbox1 _ _).block _ (by rw [World.size_alloc]; omega)).trans Array.getElem?_push_size, hvb, hs, by omega, by omega, by omega, (G.alloc hs _).alloc (by rw [World.size_alloc]; omega) _⟩
theorem new_b {w7 wV : World} {vb q : Nat} (vc : Nat) (id : Int) (costs ports : Value) (t : TypeId) (hvb : q < vb) (hq : w7.heap.size ≤ q) (V : Bx wV vb [.int .i64 10]) (M : wV.heap[q]? = some (.map #[] 0)) (G : Below w7.heap.size w7 wV) :
    NewAt w7 (wV.alloc (.cells (brNew id costs ports (.slice (some ⟨vb, 0, none⟩) 1 vc) q).toArray t)) wV.heap.size vb vc q id costs ports := by
  have hv := V.1
  have hs := G.size
  exact ⟨Bx.new wV _ t, V.alloc _, ((bbox1 _ _).block _ (by omega)).trans M, by omega, hq, by omega, by omega, by omega, G.alloc hs _⟩
set_option maxRecDepth 100000 in
set_option maxHeartbeats 16000000 in
theorem brnew_small (id : Nat) {cb g a b c d : Nat} (cc cp : Nat) (w : World) (h : CfgAt w cb g a b c d) :
    Calls Tryz.prog 7 #[.agg #[.int .u64 id, .slice (some ⟨cb, 0, none⟩) 2 cc, .slice (some ⟨g, 0, none⟩) 2 cp, .string ⟨#[]⟩, .string ⟨#[]⟩, .int .i64 20, .int .i64 2, .int .i64 60, .int .i64 2, .int .i64 100, .int .i64 50, .bool false, .bool false], .int .i64 1] w fun e w' => ∃ B : Brs, e = .returned (.tuple #[.pointer (some ⟨B.b, 0, none⟩), .int .i64 0]) ∧ B.id = id ∧ BrAt w' B (freshT id) (-1) ∧ (∀ x, x ∈ B.all → w.heap.size ≤ x ∧ x < w'.heap.size) ∧ Below w.heap.size w w' := by
  have HCk := Lib.hid (fun (W : World) (hW : CfgAt W cb g a b c d) => check_small id cc cp W hW)
  have HW1 := Lib.hid (fun W => bridge_in (n := 1) (a := 1) (b := 1099511627776) (by decide) W)
  have HC0 := Lib.hid clone_none
  have HCp := Lib.hid (fun (W : World) (hW : CfgAt W cb g a b c d) => clone_ports cp W hW.ports)
  have C1 := Lib.hid (h.below (bbox1 w (.cells #[.int .u64 id, .slice (some ⟨cb, 0, none⟩) 2 cc, .slice (some ⟨g, 0, none⟩) 2 cp, .string ⟨#[]⟩, .string ⟨#[]⟩, .int .i64 20, .int .i64 2, .int .i64 60, .int .i64 2, .int .i64 100, .int .i64 50, .bool false, .bool false] 35)))
  have N1 := Lib.hid (show Bx (w.alloc (.cells #[.int .u64 id, .slice (some ⟨cb, 0, none⟩) 2 cc, .slice (some ⟨g, 0, none⟩) 2 cp, .string ⟨#[]⟩, .string ⟨#[]⟩, .int .i64 20, .int .i64 2, .int .i64 60, .int .i64 2, .int .i64 100, .int .i64 50, .bool false, .bool false] 35)) w.heap.size (cfgV id cb cc g cp) from Bx.new w (cfgV id cb cc g cp) 35)
  have G1 := Lib.hid (bbox1 w (.cells #[.int .u64 id, .slice (some ⟨cb, 0, none⟩) 2 cc, .slice (some ⟨g, 0, none⟩) 2 cp, .string ⟨#[]⟩, .string ⟨#[]⟩, .int .i64 20, .int .i64 2, .int .i64 60, .int .i64 2, .int .i64 100, .int .i64 50, .bool false, .bool false] 35))
  have hcb := h.costs.1
  have hg := h.ports.1
  have ha := h.la.1
  have hb := h.lb.1
  clear h
  go_enter Tryz.func7, Tryz.ntmps7
  go_upto_region 8 with (first
    | (go_at_call 23; (with_reducible refine (HCk.out _ C1.out).mono ?_); rintro e w2 ⟨rfl, g2⟩; have C2 := Lib.hid (C1.out.below g2); have N2 := Lib.hid (N1.out.below g2); have G2 := Lib.hid (bstep G1.out g2); clear g2; have n2x := N2.out.get 2 _ rfl)
    | (go_at_call 24; (with_reducible refine (HW1.out _).mono ?_); rintro e wq ⟨rfl, hq⟩; subst hq)
    | (go_at_call 25; (with_reducible refine (HCp.out _ C2.out).mono ?_); rintro e w3 ⟨pp, pc, rfl, hpp, P3q, g3⟩; have C3 := Lib.hid (C2.out.below g3); have N3 := Lib.hid (N2.out.below g3); have G3 := Lib.hid (bstep G2.out g3); have P3 := Lib.hid P3q; have hsz2 := N2.out.1; have hppw := Nat.le_trans G2.out.size hpp; clear g3 P3q n2x))
  obtain ⟨n0, hn0⟩ : ∃ n, w.heap.size = n := ⟨_, rfl⟩
  rw [hn0] at N3 hsz2 ⊢
  go_loopw [8, 9, 26] (fun _ _ i wr => ∃ (k a1 b1 c1 d1 : Nat), k ≤ 2 ∧ i = .int .i64 k ∧ Below w.heap.size w wr ∧ Bx wr n0 (cfgV id cb cc g cp) ∧ CfgAt wr cb g a b c d ∧ Bx wr pp (ptCells a1 b1 c1 d1) ∧ Bx wr a1 [.int .i64 10] ∧ Bx wr b1 [.int .i64 10] ∧ (1 ≤ k → pp < a1) ∧ (2 ≤ k → a1 < b1) ∧ a1 ≠ pp ∧ b1 ≠ pp) (fun _ _ i _ => 3 - (intOf i).toNat)
  case atStart => exact ⟨0, a, b, c, d, Nat.zero_le _, rfl, G3.out, N3.out, C3.out, P3.out, C3.out.la, C3.out.lb, fun e => absurd e (by omega), fun e => absurd e (by omega), by omega, by omega⟩
  case round =>
    obtain ⟨k, a1, b1, c1, d1, hk, rfl, be0, nb0, cf0, pp0, la0, lb0, ho1, ho2, hap, hbp⟩ := hrel
    have BE0 := Lib.hid be0
    have NB0 := Lib.hid nb0
    have CF0 := Lib.hid cf0
    have PP0 := Lib.hid pp0
    have LA0 := Lib.hid la0
    have LB0 := Lib.hid lb0
    clear be0 nb0 cf0 pp0 la0 lb0 C1 C2 C3 N1 N2 N3 G1 G2 G3 P3
    rcases (by omega : k = 0 ∨ k = 1 ∨ k = 2) with rfl | rfl | rfl
    · have r0 := PP0.out.get 0 _ rfl
      have r1 := PP0.out.get 1 _ rfl
      have r2 := PP0.out.get 2 _ rfl
      have LC := Lib.hid (LA0.out.below (bbox1 wr (.cells #[.int .i64 10, .slice none 0 0, .slice (some ⟨a1, 0, none⟩) 1 c1] 69)))
      go_upto_region 10 with fail
      have M1 := Lib.hid (Bx.new wr [.int .i64 10, .slice none 0 0, .slice (some ⟨a1, 0, none⟩) 1 c1] 69)
      have P1 := Lib.hid (PP0.out.alloc (.cells #[.int .i64 10, .slice none 0 0, .slice (some ⟨a1, 0, none⟩) 1 c1] 69))
      have N1 := Lib.hid (NB0.out.alloc (.cells #[.int .i64 10, .slice none 0 0, .slice (some ⟨a1, 0, none⟩) 1 c1] 69))
      have A1 := Lib.hid (LA0.out.alloc (.cells #[.int .i64 10, .slice none 0 0, .slice (some ⟨a1, 0, none⟩) 1 c1] 69))
      have B1 := Lib.hid (LB0.out.alloc (.cells #[.int .i64 10, .slice none 0 0, .slice (some ⟨a1, 0, none⟩) 1 c1] 69))
      have G1 := Lib.hid (ball1 BE0.out (.cells #[.int .i64 10, .slice none 0 0, .slice (some ⟨a1, 0, none⟩) 1 c1] 69))
      have Q1 := Lib.hid (CF0.out.below (bbox1 wr (.cells #[.int .i64 10, .slice none 0 0, .slice (some ⟨a1, 0, none⟩) 1 c1] 69)))
      obtain ⟨n5, hn5⟩ : ∃ n, wr.heap.size = n := ⟨_, rfl⟩
      have hpn5 : pp < n5 := by rw [← hn5]; exact PP0.out.1
      have hpn : pp ≠ n5 := by omega
      have ha5 : a1 < n5 := by rw [← hn5]; exact LA0.out.1
      have hn5w : w.heap.size ≤ n5 := by rw [← hn5]; exact BE0.out.size
      change Code.wp _ _ _ _ (wr.alloc (.cells #[.int .i64 10, .slice none 0 0, .slice (some ⟨a1, 0, none⟩) 1 c1] 69))
      generalize wr.alloc (.cells #[.int .i64 10, .slice none 0 0, .slice (some ⟨a1, 0, none⟩) 1 c1] 69) = w5 at LC M1 P1 N1 A1 B1 G1 Q1 ⊢
      rw [hn5] at M1 ⊢
      clear r0 r1 r2 PP0 NB0 LA0 LB0 BE0 CF0
      have hs5 : n5 + 1 ≤ w5.heap.size := M1.out.1
      have HK := Lib.hid (fun (W : World) (h1 : Bx W n5 [.int .i64 10, .slice none 0 0, .slice (some ⟨a1, 0, none⟩) 1 c1]) => (⟨h1.get 1 _ rfl, h1.get 2 _ rfl⟩ : W.cell? ⟨n5, 1, none⟩ = some (.slice none 0 0) ∧ W.cell? ⟨n5, 2, none⟩ = some (.slice (some ⟨a1, 0, none⟩) 1 c1)))
      have HC1 := Lib.hid (clone_one a1 c1 10 w5.drew LC.out.drew)
      go_region_held3 (fun W => W.cell? ⟨n5, 1, none⟩ = some (.slice none 0 0) ∧ W.cell? ⟨n5, 2, none⟩ = some (.slice (some ⟨a1, 0, none⟩) 1 c1))
        (first | with_reducible exact HK.out _ M1.out.drew | with_reducible exact HK.out _ M6.out | with_reducible exact HK.out _ (M6.out.put hnp) | with_reducible exact HK.out _ ((M6.out.put hnp).put hnp))
        (first
          | (go_at_call 26; (with_reducible refine (HC0.out _).mono ?_); rintro e wq ⟨rfl, hq⟩; subst hq)
          | (go_at_call 26; (with_reducible refine HC1.out.mono ?_); rintro e w6 ⟨x1, n1, rfl, hx1, X1q, g6⟩; have M6 := Lib.hid (M1.out.drew.below g6); have P6 := Lib.hid (P1.out.drew.below g6); have N6 := Lib.hid (N1.out.drew.below g6); have A6 := Lib.hid (A1.out.drew.below g6); have B6 := Lib.hid (B1.out.drew.below g6); have X6 := Lib.hid X1q; have G6 := Lib.hid (G1.out.drew.trans (g6.mono G1.out.size)); have Q6 := Lib.hid (Q1.out.drew.below g6); have hnp : n5 ≠ pp := Ne.symm hpn; have hsx := X1q.1; clear X1q g6; have z1 := P6.out.get 1 _ rfl; have z2 := P6.out.get 2 _ rfl; have zf := P6.out.fz))
      have hx5 : w5.heap.size ≤ x1 := hx1
      clear z1 z2 zf
      go_wp2
      refine ⟨⟨1, x1, b1, n1, d1, by omega, by go_num, (G6.out.setCell hppw _).setCell hppw _, (N6.out.put (by omega)).put (by omega), ⟨(Q6.out.costs.put (by omega)).put (by omega), (Q6.out.ports.put (by omega)).put (by omega), (Q6.out.la.put (by omega)).put (by omega), (Q6.out.lb.put (by omega)).put (by omega)⟩, (P6.out.set (i := 1) (by simp [ptCells])).set (i := 2) (by simp [ptCells]), (X6.out.put (by omega)).put (by omega), (B6.out.put hbp).put hbp, fun _ => by omega, fun e => absurd e (by omega), by omega, hbp⟩, ?_⟩
      simp [intOf]
    · have r0 := PP0.out.get 3 _ rfl
      have r1 := PP0.out.get 4 _ rfl
      have r2 := PP0.out.get 5 _ rfl
      have LC := Lib.hid (LB0.out.below (bbox1 wr (.cells #[.int .i64 10, .slice none 0 0, .slice (some ⟨b1, 0, none⟩) 1 d1] 69)))
      go_upto_region 10 with fail
      have M1 := Lib.hid (Bx.new wr [.int .i64 10, .slice none 0 0, .slice (some ⟨b1, 0, none⟩) 1 d1] 69)
      have P1 := Lib.hid (PP0.out.alloc (.cells #[.int .i64 10, .slice none 0 0, .slice (some ⟨b1, 0, none⟩) 1 d1] 69))
      have N1 := Lib.hid (NB0.out.alloc (.cells #[.int .i64 10, .slice none 0 0, .slice (some ⟨b1, 0, none⟩) 1 d1] 69))
      have A1 := Lib.hid (LA0.out.alloc (.cells #[.int .i64 10, .slice none 0 0, .slice (some ⟨b1, 0, none⟩) 1 d1] 69))
      have B1 := Lib.hid (LB0.out.alloc (.cells #[.int .i64 10, .slice none 0 0, .slice (some ⟨b1, 0, none⟩) 1 d1] 69))
      have G1 := Lib.hid (ball1 BE0.out (.cells #[.int .i64 10, .slice none 0 0, .slice (some ⟨b1, 0, none⟩) 1 d1] 69))
      have Q1 := Lib.hid (CF0.out.below (bbox1 wr (.cells #[.int .i64 10, .slice none 0 0, .slice (some ⟨b1, 0, none⟩) 1 d1] 69)))
      obtain ⟨n5, hn5⟩ : ∃ n, wr.heap.size = n := ⟨_, rfl⟩
      have hpn5 : pp < n5 := by rw [← hn5]; exact PP0.out.1
      have hpn : pp ≠ n5 := by omega
      have ha5 : a1 < n5 := by rw [← hn5]; exact LA0.out.1
      have hn5w : w.heap.size ≤ n5 := by rw [← hn5]; exact BE0.out.size
      change Code.wp _ _ _ _ (wr.alloc (.cells #[.int .i64 10, .slice none 0 0, .slice (some ⟨b1, 0, none⟩) 1 d1] 69))
      generalize wr.alloc (.cells #[.int .i64 10, .slice none 0 0, .slice (some ⟨b1, 0, none⟩) 1 d1] 69) = w5 at LC M1 P1 N1 A1 B1 G1 Q1 ⊢
      rw [hn5] at M1 ⊢
      clear r0 r1 r2 PP0 NB0 LA0 LB0 BE0 CF0
      have hs5 : n5 + 1 ≤ w5.heap.size := M1.out.1
      have HK := Lib.hid (fun (W : World) (h1 : Bx W n5 [.int .i64 10, .slice none 0 0, .slice (some ⟨b1, 0, none⟩) 1 d1]) => (⟨h1.get 1 _ rfl, h1.get 2 _ rfl⟩ : W.cell? ⟨n5, 1, none⟩ = some (.slice none 0 0) ∧ W.cell? ⟨n5, 2, none⟩ = some (.slice (some ⟨b1, 0, none⟩) 1 d1)))
      have HC1 := Lib.hid (clone_one b1 d1 10 w5.drew LC.out.drew)
      go_region_held3 (fun W => W.cell? ⟨n5, 1, none⟩ = some (.slice none 0 0) ∧ W.cell? ⟨n5, 2, none⟩ = some (.slice (some ⟨b1, 0, none⟩) 1 d1))
        (first | with_reducible exact HK.out _ M1.out.drew | with_reducible exact HK.out _ M6.out | with_reducible exact HK.out _ (M6.out.put hnp) | with_reducible exact HK.out _ ((M6.out.put hnp).put hnp))
        (first
          | (go_at_call 26; (with_reducible refine (HC0.out _).mono ?_); rintro e wq ⟨rfl, hq⟩; subst hq)
          | (go_at_call 26; (with_reducible refine HC1.out.mono ?_); rintro e w6 ⟨x1, n1, rfl, hx1, X1q, g6⟩; have M6 := Lib.hid (M1.out.drew.below g6); have P6 := Lib.hid (P1.out.drew.below g6); have N6 := Lib.hid (N1.out.drew.below g6); have A6 := Lib.hid (A1.out.drew.below g6); have B6 := Lib.hid (B1.out.drew.below g6); have X6 := Lib.hid X1q; have G6 := Lib.hid (G1.out.drew.trans (g6.mono G1.out.size)); have Q6 := Lib.hid (Q1.out.drew.below g6); have hnp : n5 ≠ pp := Ne.symm hpn; have hsx := X1q.1; clear X1q g6; have z1 := P6.out.get 4 _ rfl; have z2 := P6.out.get 5 _ rfl; have zf := P6.out.fz))
      have hx5 : w5.heap.size ≤ x1 := hx1
      clear z1 z2 zf
      go_wp2
      refine ⟨⟨2, a1, x1, c1, n1, by omega, by go_num, (G6.out.setCell hppw _).setCell hppw _, (N6.out.put (by omega)).put (by omega), ⟨(Q6.out.costs.put (by omega)).put (by omega), (Q6.out.ports.put (by omega)).put (by omega), (Q6.out.la.put (by omega)).put (by omega), (Q6.out.lb.put (by omega)).put (by omega)⟩, (P6.out.set (i := 4) (by simp [ptCells])).set (i := 5) (by simp [ptCells]), (A6.out.put hap).put hap, (X6.out.put (by omega)).put (by omega), fun _ => ho1 (by omega), fun _ => by omega, hap, by omega⟩, ?_⟩
      simp [intOf]
    · have hpa := ho1 (by omega)
      have hab := ho2 (by omega)
      clear ho1 ho2 hk
      have x2 := NB0.out.get 2 _ rfl
      have xf := NB0.out.fz
      go_upto_region 13 with fail
      have N7 := Lib.hid (show Bx (wr.setCell ⟨n0, 2, none⟩ (.slice (some ⟨pp, 0, none⟩) 2 pc)) n0 (cfgV id cb cc pp pc) from NB0.out.set (i := 2) (by simp [cfgV]))
      have E7 := Lib.hid ((Beside.refl [n0] wr).setCell (p := ⟨n0, 2, none⟩) (.inl (List.mem_singleton.2 rfl)) (.slice (some ⟨pp, 0, none⟩) 2 pc))
      have G7 := Lib.hid (BE0.out.setCell (p := ⟨n0, 2, none⟩) (by rw [hn0]; exact Nat.le_refl _) (.slice (some ⟨pp, 0, none⟩) 2 pc))
      have hnn : ∀ x, x ≠ n0 → x ∉ [n0] := fun x h e => h (List.mem_singleton.1 e)
      have CO7 := Lib.hid (CF0.out.costs.beside E7.out (hnn _ (by omega)))
      have PP7 := Lib.hid (PP0.out.beside E7.out (hnn _ (by omega)))
      have LA7 := Lib.hid (LA0.out.beside E7.out (hnn _ (by omega)))
      have LB7 := Lib.hid (LB0.out.beside E7.out (hnn _ (by omega)))
      change Code.wp _ _ _ _ (wr.setCell ⟨n0, 2, none⟩ (.slice (some ⟨pp, 0, none⟩) 2 pc))
      generalize wr.setCell ⟨n0, 2, none⟩ (.slice (some ⟨pp, 0, none⟩) 2 pc) = w7 at N7 G7 CO7 PP7 LA7 LB7 ⊢
      clear E7 x2 xf BE0 NB0 CF0 PP0 LA0 LB0 HCk HCp HC0
      have HL7 := Lib.hid (vlans_two pp pc a1 b1 c1 d1 w7.drew PP7.out.drew LA7.out.drew LB7.out.drew)
      have HM7 := Lib.hid (vlans_two pp pc a1 b1 c1 d1 (w7.alloc (.map #[] 0)).drew (PP7.out.alloc _).drew (LA7.out.alloc _).drew (LB7.out.alloc _).drew)
      have hmm := @run_makeMap Tryz.prog
      have y0a := N7.out.get 0 _ rfl; have y1a := N7.out.get 1 _ rfl; have y2a := N7.out.get 2 _ rfl; have y3a := N7.out.get 3 _ rfl; have y4a := N7.out.get 4 _ rfl; have y5a := N7.out.get 5 _ rfl; have y6a := N7.out.get 6 _ rfl; have y7a := N7.out.get 7 _ rfl; have y8a := N7.out.get 8 _ rfl; have y9a := N7.out.get 9 _ rfl; have y10a := N7.out.get 10 _ rfl; have y11a := N7.out.get 11 _ rfl; have y12a := N7.out.get 12 _ rfl
      have y0b := (N7.out.alloc (.map #[] 0)).get 0 _ rfl; have y1b := (N7.out.alloc (.map #[] 0)).get 1 _ rfl; have y2b := (N7.out.alloc (.map #[] 0)).get 2 _ rfl; have y3b := (N7.out.alloc (.map #[] 0)).get 3 _ rfl; have y4b := (N7.out.alloc (.map #[] 0)).get 4 _ rfl; have y5b := (N7.out.alloc (.map #[] 0)).get 5 _ rfl; have y6b := (N7.out.alloc (.map #[] 0)).get 6 _ rfl; have y7b := (N7.out.alloc (.map #[] 0)).get 7 _ rfl; have y8b := (N7.out.alloc (.map #[] 0)).get 8 _ rfl; have y9b := (N7.out.alloc (.map #[] 0)).get 9 _ rfl; have y10b := (N7.out.alloc (.map #[] 0)).get 10 _ rfl; have y11b := (N7.out.alloc (.map #[] 0)).get 11 _ rfl; have y12b := (N7.out.alloc (.map #[] 0)).get 12 _ rfl
      have hn7 : n0 < w7.heap.size := N7.out.1
      go_cut [10] (fun s10 wx => ∃ b vb vc q, s10 = .pointer (some ⟨b, 0, none⟩) ∧ NewAt w7 wx b vb vc q id (.slice (some ⟨cb, 0, none⟩) 2 cc) (.slice (some ⟨pp, 0, none⟩) 2 pc))
      case first =>
        go_region_with (first
          | (go_at_call 27; (with_reducible refine HL7.out.mono ?_); rintro e wV ⟨vb, vc, rfl, hvb, V8q, g8⟩; have N8 := N7.out.drew.below g8; have GV := Lib.hid ((Below.refl w7.heap.size w7).drew.trans g8); have HA := Lib.hid (new_a vc (id : Int) (.slice (some ⟨cb, 0, none⟩) 2 cc) (.slice (some ⟨pp, 0, none⟩) 2 pc) 94 (w7 := w7) hvb V8q GV.out); clear V8q; have y0c := N8.get 0 _ rfl; have y1c := N8.get 1 _ rfl; have y2c := N8.get 2 _ rfl; have y3c := N8.get 3 _ rfl; have y4c := N8.get 4 _ rfl; have y5c := N8.get 5 _ rfl; have y6c := N8.get 6 _ rfl; have y7c := N8.get 7 _ rfl; have y8c := N8.get 8 _ rfl; have y9c := N8.get 9 _ rfl; have y10c := N8.get 10 _ rfl; have y11c := N8.get 11 _ rfl; have y12c := N8.get 12 _ rfl; have y0d := (N8.alloc (.map #[] 0)).get 0 _ rfl; have y1d := (N8.alloc (.map #[] 0)).get 1 _ rfl; have y2d := (N8.alloc (.map #[] 0)).get 2 _ rfl; have y3d := (N8.alloc (.map #[] 0)).get 3 _ rfl; have y4d := (N8.alloc (.map #[] 0)).get 4 _ rfl; have y5d := (N8.alloc (.map #[] 0)).get 5 _ rfl; have y6d := (N8.alloc (.map #[] 0)).get 6 _ rfl; have y7d := (N8.alloc (.map #[] 0)).get 7 _ rfl; have y8d := (N8.alloc (.map #[] 0)).get 8 _ rfl; have y9d := (N8.alloc (.map #[] 0)).get 9 _ rfl; have y10d := (N8.alloc (.map #[] 0)).get 10 _ rfl; have y11d := (N8.alloc (.map #[] 0)).get 11 _ rfl; have y12d := (N8.alloc (.map #[] 0)).get 12 _ rfl)
          | (go_at_call 27; (with_reducible refine HM7.out.mono ?_); rintro e wV ⟨vb, vc, rfl, hvb, V8q, g8⟩; have N8 := (N7.out.alloc (.map #[] 0)).drew.below g8; have GV := Lib.hid ((bbox1 w7 (.map #[] 0)).drew.trans (g8.mono (by rw [World.size_drew, World.size_alloc]; omega))); have MV := Lib.hid ((g8.block w7.heap.size (by rw [World.size_drew, World.size_alloc]; omega)).trans (show (w7.alloc (.map #[] 0)).drew.heap[w7.heap.size]? = some (.map #[] 0) from Array.getElem?_push_size)); have HB := Lib.hid (new_b vc (id : Int) (.slice (some ⟨cb, 0, none⟩) 2 cc) (.slice (some ⟨pp, 0, none⟩) 2 pc) 94 (w7 := w7) (q := w7.heap.size) (by rw [World.size_drew, World.size_alloc] at hvb; omega) (Nat.le_refl _) V8q MV.out GV.out); clear V8q; have y0c := N8.get 0 _ rfl; have y1c := N8.get 1 _ rfl; have y2c := N8.get 2 _ rfl; have y3c := N8.get 3 _ rfl; have y4c := N8.get 4 _ rfl; have y5c := N8.get 5 _ rfl; have y6c := N8.get 6 _ rfl; have y7c := N8.get 7 _ rfl; have y8c := N8.get 8 _ rfl; have y9c := N8.get 9 _ rfl; have y10c := N8.get 10 _ rfl; have y11c := N8.get 11 _ rfl; have y12c := N8.get 12 _ rfl))
        all_goals
          go_wp2
          go_meet
          first
            | exact ⟨_, _, _, _, rfl, HA.out⟩
            | exact ⟨_, _, _, _, rfl, HB.out⟩
      case rest =>
        obtain ⟨b0, vb, vc, q0, rfl, X9q, V9q, M9q, hvb, hqv, hvq, hvb2, hqb, G9q⟩ := hcut
        have X9 := Lib.hid X9q
        have V9 := Lib.hid V9q
        have M9 := Lib.hid M9q
        have G9 := Lib.hid G9q
        have N9 := Lib.hid (N7.out.below G9q)
        have CO9 := Lib.hid (CO7.out.below G9q)
        have hs9 := X9q.1
        have hsz9 := G9q.size
        clear X9q V9q M9q G9q HL7 HM7 hmm
        clear y0a y1a y2a y3a y4a y5a y6a y7a y8a y9a y10a y11a y12a y0b y1b y2b y3b y4b y5b y6b y7b y8b y9b y10b y11b y12b
        have e0 := N9.out.get 0 _ rfl
        have e1 := N9.out.get 1 _ rfl
        have hnb : n0 ≠ b0 := by omega
        have HRt := Lib.hid (rstp_new id (c := cc) wc CO9.out)
        go_upto_region 19 with (first
          | (go_at_call 28; (with_reducible refine HRt.out.mono ?_); rintro e wa ⟨t0, p0, cap0, rfl, T1, ht, hp, ga⟩; have XA := Lib.hid (X9.out.below ga); have NA := Lib.hid (N9.out.below ga); have TA := Lib.hid T1; have GA := Lib.hid ga; have SA := Lib.hid (XA.out.set (i := 13) (x := .pointer (some ⟨t0, 0, none⟩)) (by simp [brNew])); have a1x := XA.out.get 13 _ rfl; have a2x := XA.out.fz; have e9 := NA.out.get 9 _ rfl; have e10 := NA.out.get 10 _ rfl; clear T1 ga)
          | (go_at_call 29; (with_reducible refine (fdb_new _).mono ?_); rintro e wb ⟨rfl, D1q, gb⟩; rw [World.size_setCell] at D1q; have D1 := Lib.hid D1q; have GB := Lib.hid gb; have XB := Lib.hid (SA.out.below gb); have NB := Lib.hid ((NA.out.put hnb).below gb); have SB := Lib.hid (XB.out.set (i := 14) (x := .pointer (some ⟨wa.heap.size + 1, 0, none⟩)) (by simp [brNew])); have b1x := XB.out.get 14 _ rfl; have b2x := XB.out.fz; have f10 := NB.out.get 10 _ rfl; have f7 := NB.out.get 7 _ rfl; have f8 := NB.out.get 8 _ rfl; clear D1q gb)
          | (go_at_call 30; (with_reducible refine (table_new _).mono ?_); rintro e we ⟨rfl, E1q, ge⟩; rw [World.size_setCell] at E1q; have E1 := Lib.hid E1q; have GE := Lib.hid ge; have XE := Lib.hid (SB.out.below ge); have NE := Lib.hid ((NB.out.put hnb).below ge); have SE := Lib.hid (XE.out.set (i := 15) (x := .pointer (some ⟨wb.heap.size + 3, 0, none⟩)) (by simp [brNew])); have c1x := XE.out.get 15 _ rfl; have c2x := XE.out.fz; have h9 := NE.out.get 9 _ rfl; clear E1q ge)
          | (go_at_call 31; (with_reducible refine (router_new _).mono ?_); rintro e wf ⟨rfl, F1q, gf⟩; rw [World.size_setCell] at F1q; have F1 := Lib.hid F1q; have GF := Lib.hid gf; have XF := Lib.hid (SE.out.below gf); have NF := Lib.hid ((NE.out.put hnb).below gf); have SF := Lib.hid (XF.out.set (i := 16) (x := .pointer (some ⟨we.heap.size + 2, 0, none⟩)) (by simp [brNew])); have d1x := XF.out.get 16 _ rfl; have d2x := XF.out.fz; have k6 := NF.out.get 6 _ rfl; have k8 := NF.out.get 8 _ rfl; clear F1q gf)
          | (go_at_call 32; (with_reducible refine (asks_new _).mono ?_); rintro e wg ⟨aq, wq, wmb, qb, rfl, A1q, hq1, hq2, hq3, hq4, hq5, gg⟩; have A1 := Lib.hid A1q; have GG := Lib.hid gg; have XG := Lib.hid (SF.out.below gg); have NG := Lib.hid ((NF.out.put hnb).below gg); have SG := Lib.hid (XG.out.set (i := 17) (x := .pointer (some ⟨aq, 0, none⟩)) (by simp [brNew])); have l1x := XG.out.get 17 _ rfl; have l2x := XG.out.fz; rw [World.size_setCell] at hq1; clear A1q gg))
        obtain ⟨BE, hBE⟩ : ∃ l, brCells id (.slice (some ⟨cb, 0, none⟩) 2 cc) (.slice (some ⟨pp, 0, none⟩) 2 pc) (.slice (some ⟨vb, 0, none⟩) 1 vc) t0 (wa.heap.size + 1) (wb.heap.size + 3) (we.heap.size + 2) aq q0 (-1) = l := ⟨_, rfl⟩
        have HBE := Lib.hid hBE
        have bm : b0 ∈ [b0] := List.mem_singleton.2 rfl
        have DG := Lib.hid ((Beside.refl [b0] wg).setCell (p := ⟨b0, 17, none⟩) (.inl bm) (.pointer (some ⟨aq, 0, none⟩)))
        have DF := Lib.hid (((Beside.refl [b0] wf).setCell (p := ⟨b0, 16, none⟩) (.inl bm) (.pointer (some ⟨we.heap.size + 2, 0, none⟩))).below GG.out |>.trans DG.out)
        have DE := Lib.hid (((Beside.refl [b0] we).setCell (p := ⟨b0, 15, none⟩) (.inl bm) (.pointer (some ⟨wb.heap.size + 3, 0, none⟩))).below GF.out |>.trans DF.out)
        have DB := Lib.hid (((Beside.refl [b0] wb).setCell (p := ⟨b0, 14, none⟩) (.inl bm) (.pointer (some ⟨wa.heap.size + 1, 0, none⟩))).below GE.out |>.trans DE.out)
        have DA := Lib.hid (((Beside.refl [b0] wa).setCell (p := ⟨b0, 13, none⟩) (.inl bm) (.pointer (some ⟨t0, 0, none⟩))).below GB.out |>.trans DB.out)
        have D9 := Lib.hid ((Beside.of_below (S := [b0]) GA.out).trans DA.out)
        have hnb0 : ∀ x, x ≠ b0 → x ∉ [b0] := fun x h e => h (List.mem_singleton.1 e)
        have XH := Lib.hid (show Bx (wg.setCell ⟨b0, 17, none⟩ (.pointer (some ⟨aq, 0, none⟩))) b0 BE by rw [← hBE]; exact SG.out)
        have NH := Lib.hid (NG.out.beside DG.out (hnb0 _ (by omega)))
        have VH := Lib.hid (V9.out.beside D9.out (hnb0 _ (by omega)))
        have hqs : q0 < wc.heap.size := by omega
        have hs9h := D9.out.size
        have MH := Lib.hid ((D9.out.block q0 hqs (hnb0 _ (by omega))).trans M9.out)
        have hwh : (wg.setCell ⟨b0, 17, none⟩ (.pointer (some ⟨aq, 0, none⟩))).heap.size = wg.heap.size := World.size_setCell ..
        have HWH := Lib.hid hwh
        have x18 : (wg.setCell ⟨b0, 17, none⟩ (.pointer (some ⟨aq, 0, none⟩))).cell? ⟨b0, 18, none⟩ = some (.slice (some ⟨vb, 0, none⟩) 1 vc) := SG.out.get 18 _ rfl
        clear a1x a2x b1x b2x c1x c2x d1x d2x l1x l2x e0 e1 e9 e10 f10 f7 f8 h9 k6 k8 hwh hBE
        change Code.wp _ _ _ _ (wg.setCell ⟨b0, 17, none⟩ (.pointer (some ⟨aq, 0, none⟩)))
        generalize wg.setCell ⟨b0, 17, none⟩ (.pointer (some ⟨aq, 0, none⟩)) = wh at DG DF DE DB DA D9 XH NH VH MH HWH x18 hs9h ⊢
        go_upto_region 20 with fail
        clear x18
        go_loopw [12, 116] (fun _ i wr => ∃ k : Nat, k ≤ 1 ∧ i = .int .i64 k ∧ Bx wr b0 BE ∧ Bx wr n0 (cfgV id cb cc pp pc) ∧ Beside [q0] wh wr ∧ (k = 0 → wr.heap[q0]? = some (.map #[] 0)) ∧ (k = 1 → ∃ q4 q16, AskMap wr q0 q4 q16 ∧ QuietAt wr q4 20 2 0 ∧ QuietAt wr q16 20 2 0 ∧ wh.heap.size ≤ q4 ∧ q4 < q16 ∧ q16 < wr.heap.size)) (fun _ i _ => 2 - (intOf i).toNat)
        case atStart => exact ⟨0, Nat.zero_le _, rfl, XH.out, NH.out, Beside.refl _ _, fun _ => MH.out, fun e => absurd e (by omega)⟩
        case round =>
          obtain ⟨k, hk, rfl, xr, nr, er, hm0, hm1⟩ := hrel
          have ER := Lib.hid er
          have hqq : ∀ x, x ≠ q0 → x ∉ [q0] := fun x h e => h (List.mem_singleton.1 e)
          have hsr : wh.heap.size ≤ wr.heap.size := er.size
          have hwg := HWH.out
          rcases (by omega : k = 0 ∨ k = 1) with rfl | rfl
          · have v0 := (VH.out.beside er (hqq _ (by omega))).get 0 _ rfl
            have XR := Lib.hid xr
            have NR := Lib.hid nr
            have MR := Lib.hid (hm0 rfl)
            have hqr : q0 < wr.heap.size := by omega
            clear xr nr er hm0 hm1
            go_upto_region 22 with fail
            have HK3 := Lib.hid (fun (W : World) (h1 : Bx W b0 BE) (h2 : Bx W n0 (cfgV id cb cc pp pc)) => (⟨by rw [← HBE.out] at h1; exact h1.get 19 _ rfl, h2.get 3 _ rfl, h2.get 5 _ rfl, h2.get 6 _ rfl⟩ : W.cell? ⟨b0, 19, none⟩ = some (.map (some q0)) ∧ W.cell? ⟨n0, 3, none⟩ = some (.string ⟨#[]⟩) ∧ W.cell? ⟨n0, 5, none⟩ = some (.int .i64 20) ∧ W.cell? ⟨n0, 6, none⟩ = some (.int .i64 2)))
            have HK4 := Lib.hid (fun (W : World) (h1 : Bx W b0 BE) (h2 : Bx W n0 (cfgV id cb cc pp pc)) => (⟨by rw [← HBE.out] at h1; exact h1.get 19 _ rfl, h2.get 4 _ rfl, h2.get 5 _ rfl, h2.get 6 _ rfl⟩ : W.cell? ⟨b0, 19, none⟩ = some (.map (some q0)) ∧ W.cell? ⟨n0, 4, none⟩ = some (.string ⟨#[]⟩) ∧ W.cell? ⟨n0, 5, none⟩ = some (.int .i64 20) ∧ W.cell? ⟨n0, 6, none⟩ = some (.int .i64 2)))
            have HQ := Lib.hid (querier_new wr.drew)
            obtain ⟨kd, hkd, hkn⟩ := under_part
            go_region_held3 (fun W => W.cell? ⟨b0, 19, none⟩ = some (.map (some q0)) ∧ W.cell? ⟨n0, 3, none⟩ = some (.string ⟨#[]⟩) ∧ W.cell? ⟨n0, 5, none⟩ = some (.int .i64 20) ∧ W.cell? ⟨n0, 6, none⟩ = some (.int .i64 2))
              (first | with_reducible exact HK3.out _ XR.out.drew NR.out.drew | with_reducible exact HK3.out _ X6.out N6.out | with_reducible exact HK3.out _ (X6.out.beside LB6.out hbq) (N6.out.beside LB6.out hnq))
              (first
                | (go_at_call 33; (with_reducible refine HQ.out.mono ?_); rintro e w6 ⟨rfl, Q4q, g6⟩; have X6 := Lib.hid (XR.out.drew.below g6); have N6 := Lib.hid (NR.out.drew.below g6); have Q4 := Lib.hid Q4q; have M6 := Lib.hid ((g6.block q0 hqr).trans (show wr.drew.heap[q0]? = _ from MR.out)); have G6 := Lib.hid g6; have LB6 := Lib.hid (laid_beside w6 q0 (.map #[{ key := .agg #[.int .i64 10, .int .i64 4], val := .pointer (some ⟨wr.heap.size + 1, 0, none⟩), born := 0 }] 1)); have hbq := hqq b0 (by omega); have hnq := hqq n0 (by omega); have hu : (Instr.mapUpdate 87 (.map (some q0)) (.agg #[.int .i64 10, .int .i64 4]) (.pointer (some ⟨wr.heap.size + 1, 0, none⟩))).run Tryz.prog w6 = .ok () (World.laid w6 q0 (.map #[{ key := .agg #[.int .i64 10, .int .i64 4], val := .pointer (some ⟨wr.heap.size + 1, 0, none⟩), born := 0 }] 1)) := update_new Tryz.underlying87 M6.out (part_key w6 10 4) (findKey_nil hkd) _; clear Q4q g6))
            have X7 := Lib.hid (X6.out.beside LB6.out hbq)
            have N7b := Lib.hid (N6.out.beside LB6.out hnq)
            have hs6 : wr.heap.size ≤ w6.heap.size := G6.out.size
            have K7 := Lib.hid (laid_same (W := w6) (r := q0) (o := (.map #[{ key := .agg #[.int .i64 10, .int .i64 4], val := .pointer (some ⟨wr.heap.size + 1, 0, none⟩), born := 0 }] 1)) (by omega))
            have Q7 := Lib.hid (QuietAt.beside (S := [q0]) Q4.out LB6.out (hqq _ (by rw [World.size_drew]; omega)))
            have E7 := Lib.hid ((ER.out.drew.below G6.out).trans LB6.out)
            have hs7 := LB6.out.size
            obtain ⟨x4, hx4⟩ := Q4.out
            obtain ⟨x5, hx5⟩ := hx4
            have hs8 := hx5.1
            rw [World.size_drew] at hs8
            have hsl : (World.laid w6 q0 (.map #[{ key := .agg #[.int .i64 10, .int .i64 4], val := .pointer (some ⟨wr.heap.size + 1, 0, none⟩), born := 0 }] 1)).heap.size = w6.heap.size := by show (w6.heap.setIfInBounds _ _).size = _; simp
            have HSL := Lib.hid hsl
            clear hsl hu hx5
            obtain ⟨q4, hq4⟩ : ∃ n, wr.heap.size + 1 = n := ⟨_, rfl⟩
            rw [World.size_drew] at Q7
            rw [hq4] at Q7 K7 E7 N7b X7 HSL hs7 hs8 ⊢
            change Exit.then _ _ _ _ (World.laid w6 q0 (.map #[{ key := .agg #[.int .i64 10, .int .i64 4], val := .pointer (some ⟨q4, 0, none⟩), born := 0 }] 1))
            generalize World.laid w6 q0 (.map #[{ key := .agg #[.int .i64 10, .int .i64 4], val := .pointer (some ⟨q4, 0, none⟩), born := 0 }] 1) = w7b at Q7 K7 E7 N7b X7 HSL hs7 ⊢
            go_upto_region 23 with fail
            have HQ2 := Lib.hid (querier_new w7b.drew)
            have hqs7 : q0 < w7b.heap.size := by omega
            go_region_held3 (fun W => W.cell? ⟨b0, 19, none⟩ = some (.map (some q0)) ∧ W.cell? ⟨n0, 4, none⟩ = some (.string ⟨#[]⟩) ∧ W.cell? ⟨n0, 5, none⟩ = some (.int .i64 20) ∧ W.cell? ⟨n0, 6, none⟩ = some (.int .i64 2))
              (first | with_reducible exact HK4.out _ X7.out.drew N7b.out.drew | with_reducible exact HK4.out _ X8.out N8.out | with_reducible exact HK4.out _ (X8.out.beside LB8.out hbq) (N8.out.beside LB8.out hnq))
              (first
                | (go_at_call 33; (with_reducible refine HQ2.out.mono ?_); rintro e w8 ⟨rfl, Q5q, g8⟩; have X8 := Lib.hid (X7.out.drew.below g8); have N8 := Lib.hid (N7b.out.drew.below g8); have Q5 := Lib.hid Q5q; have Q48 := Lib.hid (QuietAt.beside (S := []) Q7.out ((Beside.refl [] w7b).drew.below g8) List.not_mem_nil); have M8 := Lib.hid ((g8.block q0 hqs7).trans (show w7b.drew.heap[q0]? = _ from K7.out)); have G8 := Lib.hid g8; have LB8 := Lib.hid (laid_beside w8 q0 (.map (twoE q4 (w7b.heap.size + 1)) 2)); have hu2 : (Instr.mapUpdate 87 (.map (some q0)) (.agg #[.int .i64 10, .int .i64 16]) (.pointer (some ⟨w7b.heap.size + 1, 0, none⟩))).run Tryz.prog w8 = .ok () (World.laid w8 q0 (.map (twoE q4 (w7b.heap.size + 1)) 2)) := update_new Tryz.underlying87 M8.out (part_key w8 10 16) (findKey_asks hkd (hkn _ _ _ _) (findAsking_no (part_164 w8) findAsking_nil)) _; clear Q5q g8))
            have hs9b : w7b.heap.size ≤ w8.heap.size := G8.out.size
            have hqs8 : q0 < w8.heap.size := by omega
            have X9b := Lib.hid (X8.out.beside LB8.out hbq)
            have N9b := Lib.hid (N8.out.beside LB8.out hnq)
            have K9 := Lib.hid (laid_same (W := w8) (r := q0) (o := .map (twoE q4 (w7b.heap.size + 1)) 2) hqs8)
            have Q9 := Lib.hid (QuietAt.beside (S := [q0]) Q5.out LB8.out (hqq _ (by rw [World.size_drew]; omega)))
            have Q49 := Lib.hid (QuietAt.beside (S := [q0]) Q48.out LB8.out (hqq _ (by omega)))
            have E9 := Lib.hid ((E7.out.drew.below G8.out).trans LB8.out)
            have hs10 := LB8.out.size
            obtain ⟨x6, x7, hx6⟩ := Q5.out
            have hs11 := hx6.1
            rw [World.size_drew] at hs11
            clear hx6 hu2
            go_wp2
            refine ⟨⟨1, by omega, by go_num, X9b.out, N9b.out, E9.out, fun e => absurd e (by omega), fun _ => ⟨q4, w7b.heap.size + 1, K9.out, Q49.out, Q9.out, by omega, by omega, by omega⟩⟩, ?_⟩
            simp [intOf]
          · obtain ⟨q4, q16, ask, k4, k16, o1, o2, o3⟩ := hm1 rfl
            clear hm0 hm1
            have ASK := Lib.hid ask
            have K4 := Lib.hid k4
            have K16 := Lib.hid k16
            have XR := Lib.hid xr
            clear xr nr er ask k4 k16
            go_wp2
            go_ret2
            have zb7 := LB7.out.1
            have zt := TA.out.1.1
            have zp := TA.out.2.1.1
            have ztp := TA.out.2.2
            have zd := D1.out.1.1
            have ze := E1.out.1.1
            have zf := F1.out.1.1
            have hE := ER.out
            have hqm : ∀ x, x ≠ q0 → x ∉ [q0] := fun x h e => h (List.mem_singleton.1 e)
            refine ⟨{ id, b := b0, t := t0, p := p0, cap := cap0, q4, q16, st := wa.heap.size + 1, smb := wa.heap.size, gr := wb.heap.size + 3, gsm := wb.heap.size + 1, gom := wb.heap.size + 2, ro := we.heap.size + 2, rfm := we.heap.size, rhm := we.heap.size + 1, aq, wq, wmb, qb, q := q0, pp, pc, pl0 := a1, pl1 := b1, c0 := c1, c1 := d1, vb, vc, costs := .slice (some ⟨cb, 0, none⟩) 2 cc }, rfl, rfl, ⟨?_, ?_, ?_, ?_, ?_, ?_, ?_, ASK.out, K4.out, K16.out, ?_, ?_, ?_, ?_⟩, ?_, ?_⟩
            · have h1 := XR.out
              rw [← HBE.out] at h1
              exact h1
            · exact (TA.out.beside DA.out (hnb0 _ (by omega)) (hnb0 _ (by omega))).beside hE (hqm _ (by omega)) (hqm _ (by omega))
            · exact (NoneAt.beside D1.out DB.out (hnb0 _ (by omega)) (hnb0 _ (by omega))).beside hE (hqm _ (by omega)) (hqm _ (by omega))
            · exact (BareAt.beside E1.out DE.out (hnb0 _ (by omega)) (hnb0 _ (by omega)) (hnb0 _ (by omega))).beside hE (hqm _ (by omega)) (hqm _ (by omega)) (hqm _ (by omega))
            · exact (PortsAt.beside F1.out DF.out (hnb0 _ (by omega)) (hnb0 _ (by omega)) (hnb0 _ (by omega))).beside hE (hqm _ (by omega)) (hqm _ (by omega)) (hqm _ (by omega))
            · exact (AsksAt.beside A1.out DG.out (hnb0 _ (by omega)) (hnb0 _ (by omega)) (hnb0 _ (by omega))).beside hE (hqm _ (by omega)) (hqm _ (by omega)) (hqm _ (by omega))
            · exact VH.out.beside hE (hqm _ (by omega))
            · exact ((PP7.out.below G9.out).beside D9.out (hnb0 _ (by omega))).beside hE (hqm _ (by omega))
            · exact ((LA7.out.below G9.out).beside D9.out (hnb0 _ (by omega))).beside hE (hqm _ (by omega))
            · exact ((LB7.out.below G9.out).beside D9.out (hnb0 _ (by omega))).beside hE (hqm _ (by omega))
            · simp only [Brs.all, Brs.muts, Brs.still, List.cons_append, List.nil_append, List.nodup_cons, List.mem_cons, List.not_mem_nil, or_false, not_or, not_false_eq_true, List.nodup_nil, and_true]
              repeat' apply And.intro
              all_goals omega
            · intro x hx
              simp only [Brs.all, Brs.muts, Brs.still, List.cons_append, List.nil_append, List.mem_cons, List.not_mem_nil, or_false] at hx
              omega
            · have g9 := G9.out.mono (show w.heap.size ≤ w7.heap.size from G7.out.size)
              exact ((G7.out.trans g9).trans (D9.out.to_below (by omega) (fun x hx => by rw [List.mem_singleton.1 hx]; omega))).trans (hE.to_below (by omega) (fun x hx => by rw [List.mem_singleton.1 hx]; omega))
end Go.Proofs.YticdmepplfgdiaaGreatDoor
