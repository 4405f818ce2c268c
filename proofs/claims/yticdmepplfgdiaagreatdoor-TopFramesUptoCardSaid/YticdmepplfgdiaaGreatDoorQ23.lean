/-
  What rstp's Link computes, of two ports. Conditions: the port is there, the time is one. What the switch's Link computes, of a port that comes up, where no station is known. Conditions: two ports, the time is one.
-/
import Derived.Test.YticdmepplfgdiaaGreatDoorQ20
import Derived.Test.YticdmepplfgdiaaGreatDoorQ21
import Derived.Test.YticdmepplfgdiaaGreatDoorQ03
set_option linter.unusedVariables false
set_option linter.unusedSimpArgs false
section
namespace Go.Proofs.YticdmepplfgdiaaGreatDoor
open Go.RowKit
/-- the time goes on -/
def Tre.later (T : Tre) (now : Int) : Tre := { T with now := max T.now now }
theorem TreeAt.later {W : World} {t p cap : Nat} {T : Tre} (h : TreeAt W t p cap T) (now : Int) : TreeAt (W.setCell ⟨t, 2, none⟩ (.int .i64 (max T.now now))) t p cap (T.later now) := h.setT (j := 2) (by decide) rfl rfl rfl
theorem later_prt (T : Tre) (now : Int) (k : Nat) : (T.later now).prt k = T.prt k := by
  unfold Tre.prt
  split <;> rfl
def Prt.linked (q : Prt) (up : Bool) : Prt := { q with up := up, keeps := q.keeps && up }
def Tre.linked (T : Tre) (k : Nat) (up : Bool) (now : Int) : Tre := ((T.later now).setP k ((T.prt k).linked up)).settled
set_option maxRecDepth 100000 in
set_option maxHeartbeats 4000000 in
theorem link_any {t p cap : Nat} {T : Tre} {k : Nat} {up : Bool} {now : Int} (hk : k < 2) (h0 : 0 ≤ now) (h1 : now ≤ 1099511627776) (w : World) (h : TreeAt w t p cap T) :
    Calls Tryz.prog 35 #[.pointer (some ⟨t, 0, none⟩), .int .i64 k, .bool up, .int .i64 now] w fun e w' => e = .returned (.tuple #[]) ∧ TreeAt w' t p cap (T.linked k up now) ∧ Beside [t, p] w w' := by
  have HA := Lib.hid (at_in hk h0 h1 w h)
  have H1 := h.later now
  have H2 := H1.setP (j := 3) (q := { T.prt k with up := up }) (x := .bool up) hk (by decide) (by rw [later_prt]; rfl)
  have H3 : TreeAt _ t p cap _ := H2.setQ (j := 4) (q' := (T.prt k).linked up) (x := .bool ((T.prt k).keeps && up)) hk (by decide) rfl
  have hpm : p ∈ [t, p] := List.mem_cons_of_mem _ (List.mem_singleton.2 rfl)
  have htm : t ∈ [t, p] := List.mem_cons_self ..
  have HB := Lib.hid ((((Beside.refl [t, p] w).putQ (p := t) (o := 2) (x := .int .i64 (max T.now now)) htm).putQ (p := p) (o := k * 15 + 3) (x := .bool up) hpm).putQ (p := p) (o := k * 15 + 4) (x := .bool ((T.prt k).keeps && up)) hpm)
  obtain ⟨t0, t1, t2, t3, t4, t5, t6, t7, t8, tf⟩ := h.tree
  obtain ⟨c0, c1, c2, c3, c4, c5, c6, c7, c8, c9, c10, c11, c12, c13, c14, cf⟩ := h.prt k hk
  have htp := h.2.2
  have HS := Lib.hid (settle_any t p cap _ _ H3)
  clear h H1 H2 H3
  obtain ⟨mx, hmx⟩ : ∃ x, max T.now now = x := ⟨_, rfl⟩
  obtain ⟨kp, hkp⟩ : ∃ x, (T.prt k).keeps = x := ⟨_, rfl⟩
  rw [hmx, hkp] at HS HB
  rw [hkp] at c4
  have hm : (T.now < now ∧ mx = now) ∨ (now ≤ T.now ∧ mx = T.now) := by omega
  clear hmx
  rcases hm with ⟨hm, rfl⟩ | ⟨hm, rfl⟩ <;> rcases kp with _ | _
  all_goals
    go_enter Tryz.func35, Tryz.ntmps35
    go_wp2_with (first | (go_at_call 94; (with_reducible refine HA.out.mono ?_); rintro e w1 ⟨rfl, rfl⟩) | (go_at_call 95; refine HS.out.mono ?_; rintro e w2 ⟨rfl, H9, B9⟩))
    go_end0
    exact ⟨rfl, H9, HB.out.trans B9⟩
end Go.Proofs.YticdmepplfgdiaaGreatDoor
end
section
namespace Go.Proofs.YticdmepplfgdiaaGreatDoor
open Go.RowKit
set_option maxRecDepth 100000 in
set_option maxHeartbeats 2000000 in
theorem brlink_any (b t p cap st smb gr ro aq q pp pc k : Nat) (id ch now : Int) (costs vl : Value) (T : Tre) (hk : k < 2) (h0 : 1 ≤ now) (h1 : now ≤ 1099511627776) (w : World) (hb : Bx w b (brCells id costs (.slice (some ⟨pp, 0, none⟩) 2 pc) vl t st gr ro aq q ch)) (hT : TreeAt w t p cap T) (hS : NoneAt w st smb 50 100)
    (n1 : st ≠ b) (n2 : smb ≠ b) (n3 : st ∉ [t, p]) (n4 : smb ∉ [t, p]) (n5 : b ∉ [t, p]) :
    Calls Tryz.prog 9 #[.pointer (some ⟨b, 0, none⟩), .int .i64 k, .bool true, .int .i64 now] w fun e w' => e = .returned (.tuple #[]) ∧ Bx w' b (brCells id costs (.slice (some ⟨pp, 0, none⟩) 2 pc) vl t st gr ro aq q (T.linked k true now).change) ∧ TreeAt w' t p cap (T.linked k true now) ∧ Beside [b, t, p] w w' := by
  have HG := Lib.hid (goes_any b now h0 h1 w)
  have HL := Lib.hid (link_any (up := true) hk (by omega) h1 w hT)
  have b13 := hb.get 13 _ rfl
  have HX := Lib.hid hb
  have HS := Lib.hid hS
  have n6 : t ≠ b := fun e => n5 (by rw [e]; exact List.mem_cons_self ..)
  have n7 : p ≠ b := fun e => n5 (by rw [e]; exact List.mem_cons_of_mem _ (List.mem_singleton.2 rfl))
  clear hb hT hS
  go_enter Tryz.func9, Tryz.ntmps9
  go_wp2_with (first | (go_at_call 34; (with_reducible refine HG.out.mono ?_); rintro e w1 ⟨rfl, rfl⟩) | (go_at_call 35; (with_reducible refine HL.out.mono ?_); rintro e w2 ⟨rfl, H2, B2⟩; have X2 := HX.out.beside B2 n5; have S2 := HS.out.beside B2 n3 n4; have HQ := Lib.hid (brsettle_any b t p cap st smb gr ro aq q pp pc id ch costs vl _ w2 X2 H2 S2 n1 n2); have H2h := Lib.hid H2; have B2h := Lib.hid B2; clear H2 B2 X2 S2) | (go_at_call 36; (with_reducible refine HQ.out.mono ?_); rintro e w3 ⟨rfl, X3, B3⟩; have X3h := Lib.hid X3; have B3h := Lib.hid B3; clear X3 B3))
  go_end0
  exact ⟨rfl, X3h.out, H2h.out.beside B3h.out (fun e => n6 (List.mem_singleton.1 e)) (fun e => n7 (List.mem_singleton.1 e)), (B2h.out.mono (fun x hx => List.mem_cons_of_mem _ hx)).trans (B3h.out.mono (fun x hx => by rw [List.mem_singleton.1 hx]; exact List.mem_cons_self ..))⟩
end Go.Proofs.YticdmepplfgdiaaGreatDoor
end
