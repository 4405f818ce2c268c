/-
  What net.New makes of the two small configs and one wire. Conditions: just that. What siphontop.begun makes of the two small configs and one wire: a net behind 80 ticks. Conditions: just that. siphontop.works returns true. Conditions: none.
-/
import Derived.Test.YticdmepplfgdiaaGreatDoorQ45
import Derived.Test.YticdmepplfgdiaaGreatDoorQ46
import Derived.Test.YticdmepplfgdiaaGreatDoorQ41
import Derived.Test.YticdmepplfgdiaaGreatDoorQ03
import Derived.Test.YticdmepplfgdiaaGreatDoorQ15
set_option linter.unusedVariables false
set_option linter.unusedSimpArgs false
section
namespace Go.Proofs.YticdmepplfgdiaaGreatDoor
open Go.RowKit
def lnk (id : Nat) : Nat → Tre
  | 0 => freshT id
  | 1 => (freshT id).linked 0 true 1
  | _ => beginT id
theorem infoJ31 : (Tryz.prog.info? 31).map (fun i => (i.zero, i.size, i.bytes)) = some (some (.pointer none), 1, 8) := by kernel_rfl
/-- a net is made, and two switches in it -/
def Made (w W : World) (N : Nts) (B0 B1 : Brs) : Prop :=
  B0.id = 1 ∧ B1.id = 2 ∧ NetS N B0 B1 (beginT 1, beginT 2) W ∧ Lies2 N B0 B1 ∧ (∀ x, x ∈ N.all → x ∉ B0.all) ∧ (∀ x, x ∈ N.all → x ∉ B1.all) ∧ (∀ x, x ∈ B0.all → x ∉ B1.all) ∧ (∀ x, x ∈ N.all ++ B0.all ++ B1.all → w.heap.size ≤ x ∧ x < W.heap.size) ∧ Below w.heap.size w W
theorem made_of {w : World} {n fm sb sc : Nat} {B0 B1 : Brs} {wr W : World} (h0 : NewS w n fm [B0, B1] (.slice (some ⟨sb, 0, none⟩) 2 sc) wr) {V : World} (hV : Below wr.heap.size wr V) {v : Value} {ub uc : Nat}
    (h1 : Bx W n [.slice (some ⟨sb, 0, none⟩) 2 sc, v, .slice (some ⟨ub, 0, none⟩) 1 uc, .map (some fm)]) (h2 : Bx W ub [.bool true]) (h3 : V.heap.size ≤ ub) (h4 : FarMap W fm) (h5 : Beside [n, fm] V W) :
    Made w W ⟨n, sb, sc, v, ub, uc, fm, B0.b, B1.b⟩ B0 B1 := by
  have h := h0.below hV
  obtain ⟨i0, a0, r0⟩ := h.sws 0 B0 rfl
  obtain ⟨i1, a1, r1⟩ := h.sws 1 B1 rfl
  have hsb : sb ≠ n ∧ sb ≠ fm ∧ ∀ B, B ∈ [B0, B1] → sb ∉ B.all := h.row sb rfl
  have hsl : w.heap.size ≤ sb ∧ sb < V.heap.size := h.own.lt sb rfl
  have hrow : Bx V sb [bptr B0, bptr B1] := by
    obtain ⟨q, cap, e, _, hx⟩ := row_bx h.own (by simp) rfl
    cases e
    exact hx
  have hS : ∀ x, x ∈ [n, fm] → x = n ∨ x = fm := by
    intro x hx
    simpa using hx
  have n0 : ∀ x, x ∈ B0.all → n < x ∧ fm < x ∧ w.heap.size ≤ x ∧ x < V.heap.size := r0
  have n1 : ∀ x, x ∈ B1.all → n < x ∧ fm < x ∧ w.heap.size ≤ x ∧ x < V.heap.size := r1
  have hVs := h5.size
  have hN : ∀ x, x ∈ ([n, sb, ub, fm] : List Nat) → x = n ∨ x = sb ∨ x = ub ∨ x = fm := by
    intro x hx
    simpa using hx
  have d0 : ∀ x, x ∈ ([n, sb, ub, fm] : List Nat) → x ∉ B0.all := by
    intro x hx e
    have := n0 x e
    rcases hN x hx with rfl | rfl | rfl | rfl
    · omega
    · exact hsb.2.2 B0 (by simp) e
    · omega
    · omega
  have d1 : ∀ x, x ∈ ([n, sb, ub, fm] : List Nat) → x ∉ B1.all := by
    intro x hx e
    have := n1 x e
    rcases hN x hx with rfl | rfl | rfl | rfl
    · omega
    · exact hsb.2.2 B1 (by simp) e
    · omega
    · omega
  have d01 : ∀ x, x ∈ B0.all → x ∉ B1.all := h.sep 0 1 B0 B1 (by decide) rfl rfl
  refine ⟨i0, i1, ⟨⟨h1, hrow.beside h5 (fun e => ?_), h2, h4⟩, a0.beside h5 (fun y hy e => ?_), a1.beside h5 (fun y hy e => ?_)⟩, ⟨rfl, rfl, fun x hx e => d0 x hx (Brs.mut_all x e), fun x hx e => d1 x hx (Brs.mut_all x e), fun x hx e => d01 x (Brs.mut_all x hx) e, fun x hx e => d01 x e (Brs.mut_all x hx)⟩, d0, d1, d01, fun x hx => ?_, h.bel.trans (h5.to_below h.bel.size (fun x hx => ?_))⟩
  · rcases hS _ e with e | e
    · exact hsb.1 e
    · exact hsb.2.1 e
  · have := n0 y e
    rcases hS y hy with rfl | rfl <;> omega
  · have := n1 y e
    rcases hS y hy with rfl | rfl <;> omega
  · have hl := h.lo
    have hn := h.net.1
    have hb := h.bel.size
    have hu := h2.1
    rcases List.mem_append.1 hx with hx | hx
    · rcases List.mem_append.1 hx with hx | hx
      · rcases hN x hx with rfl | rfl | rfl | rfl <;> omega
      · have := n0 x hx; omega
    · have := n1 x hx; omega
  · have hl := h.lo
    rcases hS x hx with rfl | rfl <;> omega
set_option maxRecDepth 100000 in
set_option maxHeartbeats 16000000 in
theorem netnew_small {l wb cb g a b c d : Nat} (lc wc cc cp : Nat) (w : World) (hl : Bx w l (cfgV 1 cb cc g cp ++ cfgV 2 cb cc g cp)) (hw : Bx w wb [.int .i64 0, .int .i64 1, .int .i64 1, .int .i64 0]) (h : CfgAt w cb g a b c d) :
    Calls Tryz.prog 78 #[.slice (some ⟨l, 0, none⟩) 2 lc, .slice (some ⟨wb, 0, none⟩) 1 wc] w fun e w' => ∃ N B0 B1, e = .returned (.tuple #[.pointer (some ⟨N.n, 0, none⟩), .int .i64 0]) ∧ Made w w' N B0 B1 := by
  obtain ⟨i0, hi, hz0, hz1, hz2⟩ := info_parts infoJ31
  have hmm := @run_makeMap Tryz.prog
  have HL := Lib.hid hl
  have HW := Lib.hid hw
  have HC := Lib.hid h
  have M1 := Lib.hid (show ((w.alloc (.map #[] 0)).alloc (.cells ([.slice none 0 0, .slice none 0 0, .slice none 0 0, .map (some w.heap.size)] : List Value).toArray 188)).heap[w.heap.size]? = some (.map #[] 0) by
    rw [(bbox1 (w.alloc (.map #[] 0)) _).block _ (by simp)]
    show (w.heap.push _)[w.heap.size]? = _
    simp)
  have N1 := Lib.hid (Bx.new2 w (.map #[] 0) [.slice none 0 0, .slice none 0 0, .slice none 0 0, .map (some w.heap.size)] 188)
  have B1 := Lib.hid (ball1 (bbox1 w (.map #[] 0)) (.cells ([.slice none 0 0, .slice none 0 0, .slice none 0 0, .map (some w.heap.size)] : List Value).toArray 188))
  clear hl hw h
  go_enter Tryz.func78, Tryz.ntmps78
  go_upto_region 4 with fail
  have ZS := Lib.hid (show NewS w (w.heap.size + 1) w.heap.size [] (.slice none 0 0) ((w.alloc (.map #[] 0)).alloc (.cells ([.slice none 0 0, .slice none 0 0, .slice none 0 0, .map (some w.heap.size)] : List Value).toArray 188)) from
    ⟨N1.out, M1.out, World.ownsRow_nil _ _ _ _, fun g e => by simp [Value.ownBlock] at e, fun i B e => by simp at e, fun i j B C _ e => by simp at e, ⟨by omega, Nat.le_refl _, by simp; omega, by omega⟩, B1.out⟩)
  clear N1 M1 B1
  change Code.wp _ _ _ _ ((w.alloc (.map #[] 0)).alloc (.cells ([.slice none 0 0, .slice none 0 0, .slice none 0 0, .map (some w.heap.size)] : List Value).toArray 188))
  generalize (w.alloc (.map #[] 0)).alloc (.cells ([.slice none 0 0, .slice none 0 0, .slice none 0 0, .map (some w.heap.size)] : List Value).toArray 188) = w1 at ZS ⊢
  obtain ⟨n, hn⟩ : ∃ x, x = w.heap.size + 1 := ⟨_, rfl⟩
  obtain ⟨fm, hfm⟩ : ∃ x, x = w.heap.size := ⟨_, rfl⟩
  rw [← hn] at ZS ⊢
  have ZT := Lib.hid (show NewS w n fm [] (.slice none 0 0) w1 by rw [hfm]; exact ZS.out)
  rw [← hfm]
  clear ZS hn hfm
  go_upto_region 5 with fail
  go_loopw [4, 5, 8, 9, 10, 11, 32] (fun _ _ _ _ _ _ i wr => ∃ (k : Nat) (Bs : List Brs) (ao : Option Addr) (cap : Nat), k ≤ 2 ∧ i = .int .i64 k ∧ Bs.length = k ∧ (k = 0 → ao = none ∧ cap = 0) ∧ NewS w n fm Bs (.slice ao k cap) wr) (fun _ _ _ _ _ _ i _ => 3 - (intOf i).toNat)
  case atStart => exact ⟨0, [], none, 0, Nat.zero_le _, rfl, rfl, fun _ => ⟨rfl, rfl⟩, ZT.out⟩
  case round =>
  rename World => w5
  obtain ⟨k, Bs, ao, cap, hk, rfl, hBs, hao, hS⟩ := hrel
  have HS := Lib.hid hS
  have HLr := Lib.hid (HL.out.under hS.bel HL.out.1)
  have HCr := Lib.hid (HC.out.below hS.bel)
  have HWr := Lib.hid (HW.out.under hS.bel HW.out.1)
  have s1 := hS.bel.size
  clear hS ZT
  rcases (by omega : k = 0 ∨ k = 1 ∨ k = 2) with rfl | rfl | rfl
  · obtain ⟨rfl, rfl⟩ := hao rfl
    have hBl : Bs = [] := List.length_eq_zero_iff.1 hBs
    have r0 := HLr.out.get 0 _ rfl
    have r1 := HLr.out.get 1 _ rfl
    have r2 := HLr.out.get 2 _ rfl
    have r3 := HLr.out.get 3 _ rfl
    have r4 := HLr.out.get 4 _ rfl
    have r5 := HLr.out.get 5 _ rfl
    have r6 := HLr.out.get 6 _ rfl
    have r7 := HLr.out.get 7 _ rfl
    have r8 := HLr.out.get 8 _ rfl
    have r9 := HLr.out.get 9 _ rfl
    have r10 := HLr.out.get 10 _ rfl
    have r11 := HLr.out.get 11 _ rfl
    have r12 := HLr.out.get 12 _ rfl
    go_upto_region 7 with fail
    have X7 := Lib.hid (Bx.new w5 (cfgV 1 cb cc g cp) 35)
    have C7 := Lib.hid (HCr.out.below (bbox1 w5 (.cells (cfgV 1 cb cc g cp).toArray 35)))
    have E7 := Lib.hid (bbox1 w5 (.cells (cfgV 1 cb cc g cp).toArray 35))
    obtain ⟨nb, hnb⟩ : ∃ x, w5.heap.size = x := ⟨_, rfl⟩
    change Code.wp _ _ _ _ (w5.alloc (.cells (cfgV 1 cb cc g cp).toArray 35))
    generalize w5.alloc (.cells (cfgV 1 cb cc g cp).toArray 35) = w7 at X7 C7 E7 ⊢
    have hs7 := X7.out.1
    have X7 := Lib.hid (show Bx w7 nb (cfgV 1 cb cc g cp) by rw [← hnb]; exact X7.out)
    rw [hnb]
    have HNb := Lib.hid hnb
    clear hnb r0 r1 r2 r3 r4 r5 r6 r7 r8 r9 r10 r11 r12
    have q0 := X7.out.get 0 _ rfl
    have q1 := X7.out.get 1 _ rfl
    have q2 := X7.out.get 2 _ rfl
    have q3 := X7.out.get 3 _ rfl
    have q4 := X7.out.get 4 _ rfl
    have q5 := X7.out.get 5 _ rfl
    have q6 := X7.out.get 6 _ rfl
    have q7 := X7.out.get 7 _ rfl
    have q8 := X7.out.get 8 _ rfl
    have q9 := X7.out.get 9 _ rfl
    have q10 := X7.out.get 10 _ rfl
    have q11 := X7.out.get 11 _ rfl
    have q12 := X7.out.get 12 _ rfl
    have HB := Lib.hid (show Calls Tryz.prog 7 #[.agg #[.int .u64 1, .slice (some ⟨cb, 0, none⟩) 2 cc, .slice (some ⟨g, 0, none⟩) 2 cp, .string ⟨#[]⟩, .string ⟨#[]⟩, .int .i64 20, .int .i64 2, .int .i64 60, .int .i64 2, .int .i64 100, .int .i64 50, .bool false, .bool false], .int .i64 1] w7 _ from brnew_small 1 cc cp w7 C7.out)
    go_upto_region 10 with (first | (go_at_call 7; (with_reducible refine HB.out.mono ?_); rintro e w8 ⟨B, rfl, hidB, hbrB, hrng, hbel⟩; have HId := Lib.hid hidB; have HBr := Lib.hid hbrB; have HRn := Lib.hid hrng; have E8 := Lib.hid hbel; have X8 := Lib.hid (X7.out.below hbel); clear hidB hbrB hrng hbel q0 q1 q2 q3 q4 q5 q6 q7 q8 q9 q10 q11 q12; have q2 := X8.out.get 2 _ rfl))
    go_upto_region 11 with fail
    clear q2
    go_loopw [11, 47] (fun _ i wx => ∃ p : Nat, p ≤ 2 ∧ i = .int .i64 p ∧ BrAt wx B (lnk 1 p) (lnk 1 p).change ∧ Beside B.muts w8 wx) (fun _ i _ => 3 - (intOf i).toNat)
    case atStart => exact ⟨0, Nat.zero_le _, rfl, HBr.out, Beside.refl _ _⟩
    case round =>
    obtain ⟨p, hp, rfl, hb, hE⟩ := hrel
    have HP := Lib.hid hb
    have HE := Lib.hid hE
    clear hb hE
    rcases (by omega : p = 0 ∨ p = 1 ∨ p = 2) with rfl | rfl | rfl
    · have HK := Lib.hid (brlink_at (k := 0) (by decide) _ HP.out)
      have HK2 := Lib.hid (show Calls Tryz.prog 9 #[.pointer (some ⟨B.b, 0, none⟩), .int .i64 0, .bool true, .int .i64 1] wr _ from HK.out)
      go_wp2_with (go_at_call 9; (first | (with_reducible refine HK2.out.mono ?_) | (with_reducible refine HK.out.mono ?_)); rintro e w9 ⟨rfl, hb9, hE9⟩; have HP9 := Lib.hid hb9; have HE9 := Lib.hid (HE.out.trans hE9); clear hb9 hE9)
      refine ⟨⟨1, by omega, by go_num, HP9.out, HE9.out⟩, ?_⟩
      simp [intOf]
    · have HK := Lib.hid (brlink_at (k := 1) (by decide) _ HP.out)
      have HK2 := Lib.hid (show Calls Tryz.prog 9 #[.pointer (some ⟨B.b, 0, none⟩), .int .i64 1, .bool true, .int .i64 1] wr _ from HK.out)
      go_wp2_with (go_at_call 9; (first | (with_reducible refine HK2.out.mono ?_) | (with_reducible refine HK.out.mono ?_)); rintro e w9 ⟨rfl, hb9, hE9⟩; have HP9 := Lib.hid hb9; have HE9 := Lib.hid (HE.out.trans hE9); clear hb9 hE9)
      refine ⟨⟨2, by omega, by go_num, HP9.out, HE9.out⟩, ?_⟩
      simp [intOf]
    · have hW : Below w5.heap.size w5 wr := (E7.out.trans (E8.out.mono (Nat.le_of_lt hs7))).trans (HE.out.to_below (Nat.le_trans (Nat.le_of_lt hs7) E8.out.size) (fun x hx => Nat.le_trans (Nat.le_of_lt hs7) (HRn.out x (Brs.mut_all x hx)).1))
      have HNx := Lib.hid (HS.out.below hW)
      have HWx := Lib.hid hW
      have hsx := hW.size
      clear hW
      have n0 := HNx.out.net.get 0 _ rfl
      have hox := HNx.out.own
      rw [hBs] at hox
      have HOx := Lib.hid hox
      clear hox
      go_wp2_with (at_builtin; refine wpList_append_where rfl _ _ 184 rfl w.heap.size 31 i0 _ 1 8 Tryz.underlying184 hi hz0 hz1 hz2 rfl (by decide) _ 0 (Bs.map bptr) rfl (HOx.out.alloc _) ⟨wr.heap.size, 0, none⟩ 1 1 [bptr B] rfl rfl ?cz ?cone (by decide) (by decide) (by rw [World.size_alloc]; omega) (by decide) ?_)
      case cz =>
        intro j u hj
        rw [plain_add]
        exact (Bx.new wr [bptr B] 31).get j u hj
      case cone => intro u hu; simp at hu; subst hu; rfl
      intro v' V hoV hgV hwV
      obtain ⟨gq, cq, rfl, -, -⟩ := row_bx hoV (by decide) (by first | rfl | simp [hBs])
      have hne : (Value.slice none 0 0).ownBlock ≠ some n := by simp [Value.ownBlock]
      have BV := (HNx.out.net.alloc (.cells #[bptr B] 31)).grown hgV hne
      have v0 := BV.get 0 _ rfl
      have vf := BV.fz
      have HP2 := Lib.hid (NewS.push HS.out HWx.out (B := B) (by rw [hBs]; exact HId.out) (by rw [hBs]; exact HP.out) (fun x hx => ⟨Nat.le_trans (Nat.le_of_lt hs7) (HRn.out x hx).1, Nat.lt_of_lt_of_le (HRn.out x hx).2 HE.out.size⟩) (by first | exact hoV | (rw [hBs]; exact hoV) | (subst hBl; exact hoV) | simpa [hBs] using hoV) _ hgV (by rw [World.size_alloc]; exact hwV))
      clear hoV hgV hwV BV n0
      go_wp2
      refine ⟨⟨1, Bs ++ [B], some ⟨gq, 0, none⟩, cq, by omega, by go_num, by simp [hBs], (fun e => by cases e), HP2.out⟩, ?_⟩
      simp [intOf]
  · clear hao
    obtain ⟨Bz, hBl⟩ : ∃ Bz, Bs = [Bz] := List.length_eq_one_iff.1 hBs
    have r0 := HLr.out.get 13 _ rfl
    have r1 := HLr.out.get 14 _ rfl
    have r2 := HLr.out.get 15 _ rfl
    have r3 := HLr.out.get 16 _ rfl
    have r4 := HLr.out.get 17 _ rfl
    have r5 := HLr.out.get 18 _ rfl
    have r6 := HLr.out.get 19 _ rfl
    have r7 := HLr.out.get 20 _ rfl
    have r8 := HLr.out.get 21 _ rfl
    have r9 := HLr.out.get 22 _ rfl
    have r10 := HLr.out.get 23 _ rfl
    have r11 := HLr.out.get 24 _ rfl
    have r12 := HLr.out.get 25 _ rfl
    go_upto_region 7 with fail
    have X7 := Lib.hid (Bx.new w5 (cfgV 2 cb cc g cp) 35)
    have C7 := Lib.hid (HCr.out.below (bbox1 w5 (.cells (cfgV 2 cb cc g cp).toArray 35)))
    have E7 := Lib.hid (bbox1 w5 (.cells (cfgV 2 cb cc g cp).toArray 35))
    obtain ⟨nb, hnb⟩ : ∃ x, w5.heap.size = x := ⟨_, rfl⟩
    change Code.wp _ _ _ _ (w5.alloc (.cells (cfgV 2 cb cc g cp).toArray 35))
    generalize w5.alloc (.cells (cfgV 2 cb cc g cp).toArray 35) = w7 at X7 C7 E7 ⊢
    have hs7 := X7.out.1
    have X7 := Lib.hid (show Bx w7 nb (cfgV 2 cb cc g cp) by rw [← hnb]; exact X7.out)
    rw [hnb]
    have HNb := Lib.hid hnb
    clear hnb r0 r1 r2 r3 r4 r5 r6 r7 r8 r9 r10 r11 r12
    have q0 := X7.out.get 0 _ rfl
    have q1 := X7.out.get 1 _ rfl
    have q2 := X7.out.get 2 _ rfl
    have q3 := X7.out.get 3 _ rfl
    have q4 := X7.out.get 4 _ rfl
    have q5 := X7.out.get 5 _ rfl
    have q6 := X7.out.get 6 _ rfl
    have q7 := X7.out.get 7 _ rfl
    have q8 := X7.out.get 8 _ rfl
    have q9 := X7.out.get 9 _ rfl
    have q10 := X7.out.get 10 _ rfl
    have q11 := X7.out.get 11 _ rfl
    have q12 := X7.out.get 12 _ rfl
    have HB := Lib.hid (show Calls Tryz.prog 7 #[.agg #[.int .u64 2, .slice (some ⟨cb, 0, none⟩) 2 cc, .slice (some ⟨g, 0, none⟩) 2 cp, .string ⟨#[]⟩, .string ⟨#[]⟩, .int .i64 20, .int .i64 2, .int .i64 60, .int .i64 2, .int .i64 100, .int .i64 50, .bool false, .bool false], .int .i64 1] w7 _ from brnew_small 2 cc cp w7 C7.out)
    go_upto_region 10 with (first | (go_at_call 7; (with_reducible refine HB.out.mono ?_); rintro e w8 ⟨B, rfl, hidB, hbrB, hrng, hbel⟩; have HId := Lib.hid hidB; have HBr := Lib.hid hbrB; have HRn := Lib.hid hrng; have E8 := Lib.hid hbel; have X8 := Lib.hid (X7.out.below hbel); clear hidB hbrB hrng hbel q0 q1 q2 q3 q4 q5 q6 q7 q8 q9 q10 q11 q12; have q2 := X8.out.get 2 _ rfl))
    go_upto_region 11 with fail
    clear q2
    go_loopw [11, 47] (fun _ i wx => ∃ p : Nat, p ≤ 2 ∧ i = .int .i64 p ∧ BrAt wx B (lnk 2 p) (lnk 2 p).change ∧ Beside B.muts w8 wx) (fun _ i _ => 3 - (intOf i).toNat)
    case atStart => exact ⟨0, Nat.zero_le _, rfl, HBr.out, Beside.refl _ _⟩
    case round =>
    obtain ⟨p, hp, rfl, hb, hE⟩ := hrel
    have HP := Lib.hid hb
    have HE := Lib.hid hE
    clear hb hE
    rcases (by omega : p = 0 ∨ p = 1 ∨ p = 2) with rfl | rfl | rfl
    · have HK := Lib.hid (brlink_at (k := 0) (by decide) _ HP.out)
      have HK2 := Lib.hid (show Calls Tryz.prog 9 #[.pointer (some ⟨B.b, 0, none⟩), .int .i64 0, .bool true, .int .i64 1] wr _ from HK.out)
      go_wp2_with (go_at_call 9; (first | (with_reducible refine HK2.out.mono ?_) | (with_reducible refine HK.out.mono ?_)); rintro e w9 ⟨rfl, hb9, hE9⟩; have HP9 := Lib.hid hb9; have HE9 := Lib.hid (HE.out.trans hE9); clear hb9 hE9)
      refine ⟨⟨1, by omega, by go_num, HP9.out, HE9.out⟩, ?_⟩
      simp [intOf]
    · have HK := Lib.hid (brlink_at (k := 1) (by decide) _ HP.out)
      have HK2 := Lib.hid (show Calls Tryz.prog 9 #[.pointer (some ⟨B.b, 0, none⟩), .int .i64 1, .bool true, .int .i64 1] wr _ from HK.out)
      go_wp2_with (go_at_call 9; (first | (with_reducible refine HK2.out.mono ?_) | (with_reducible refine HK.out.mono ?_)); rintro e w9 ⟨rfl, hb9, hE9⟩; have HP9 := Lib.hid hb9; have HE9 := Lib.hid (HE.out.trans hE9); clear hb9 hE9)
      refine ⟨⟨2, by omega, by go_num, HP9.out, HE9.out⟩, ?_⟩
      simp [intOf]
    · have hW : Below w5.heap.size w5 wr := (E7.out.trans (E8.out.mono (Nat.le_of_lt hs7))).trans (HE.out.to_below (Nat.le_trans (Nat.le_of_lt hs7) E8.out.size) (fun x hx => Nat.le_trans (Nat.le_of_lt hs7) (HRn.out x (Brs.mut_all x hx)).1))
      have HNx := Lib.hid (HS.out.below hW)
      have HWx := Lib.hid hW
      have hsx := hW.size
      clear hW
      have n0 := HNx.out.net.get 0 _ rfl
      have hox := HNx.out.own
      rw [hBs] at hox
      have HOx := Lib.hid hox
      clear hox
      go_wp2_with (at_builtin; refine wpList_append_where rfl _ _ 184 rfl w.heap.size 31 i0 _ 1 8 Tryz.underlying184 hi hz0 hz1 hz2 rfl (by decide) _ 1 (Bs.map bptr) rfl (HOx.out.alloc _) ⟨wr.heap.size, 0, none⟩ 1 1 [bptr B] rfl rfl ?cz ?cone (by decide) (by decide) (by rw [World.size_alloc]; omega) (by decide) ?_)
      case cz =>
        intro j u hj
        rw [plain_add]
        exact (Bx.new wr [bptr B] 31).get j u hj
      case cone => intro u hu; simp at hu; subst hu; rfl
      intro v' V hoV hgV hwV
      obtain ⟨gq, cq, rfl, -, -⟩ := row_bx hoV (by decide) (by first | rfl | simp [hBs])
      have hne : (Value.slice ao 1 cap).ownBlock ≠ some n := fun e => (HNx.out.row n e).1 rfl
      have BV := (HNx.out.net.alloc (.cells #[bptr B] 31)).grown hgV hne
      have v0 := BV.get 0 _ rfl
      have vf := BV.fz
      have HP2 := Lib.hid (NewS.push HS.out HWx.out (B := B) (by rw [hBs]; exact HId.out) (by rw [hBs]; exact HP.out) (fun x hx => ⟨Nat.le_trans (Nat.le_of_lt hs7) (HRn.out x hx).1, Nat.lt_of_lt_of_le (HRn.out x hx).2 HE.out.size⟩) (by first | exact hoV | (rw [hBs]; exact hoV) | (subst hBl; exact hoV) | simpa [hBs] using hoV) _ hgV (by rw [World.size_alloc]; exact hwV))
      clear hoV hgV hwV BV n0
      go_wp2
      refine ⟨⟨2, Bs ++ [B], some ⟨gq, 0, none⟩, cq, by omega, by go_num, by simp [hBs], (fun e => by cases e), HP2.out⟩, ?_⟩
      simp [intOf]
  · clear hao
    obtain ⟨B0, B1, hBl⟩ : ∃ B0 B1, Bs = [B0, B1] := by
      rcases Bs with _ | ⟨B0, _ | ⟨B1, _ | ⟨B2, r⟩⟩⟩
      · cases hBs
      · cases hBs
      · exact ⟨B0, B1, rfl⟩
      · simp at hBs
    subst hBl
    obtain ⟨sb, sc, e, -, -⟩ := row_bx HS.out.own (by simp) rfl
    cases e
    clear hBs
    go_upto_region 18 with fail
    go_loopw [4, 5, 12, 13, 67] (fun _ _ _ _ i wx => ∃ k : Nat, k ≤ 1 ∧ i = .int .i64 k ∧ (k = 0 → wx = w5) ∧ (k = 1 → ∃ v ub uc, Made w wx ⟨n, sb, cap, v, ub, uc, fm, B0.b, B1.b⟩ B0 B1)) (fun _ _ _ _ i _ => 2 - (intOf i).toNat)
    case atStart => exact ⟨0, Nat.zero_le _, rfl, fun _ => rfl, fun e => by cases e⟩
    case round =>
    obtain ⟨k, hk, rfl, hk0, hk1⟩ := hrel
    rcases (by omega : k = 0 ∨ k = 1) with rfl | rfl
    · obtain rfl := hk0 rfl
      clear hk0 hk1
      have r0 := HWr.out.get 0 _ rfl
      have r1 := HWr.out.get 1 _ rfl
      have r2 := HWr.out.get 2 _ rfl
      have r3 := HWr.out.get 3 _ rfl
      go_upto_region 20 with fail
      have X20 := Lib.hid (Bx.new wr [.int .i64 0, .int .i64 1, .int .i64 1, .int .i64 0] 177)
      have E20 := Lib.hid (bbox1 wr (.cells ([.int .i64 0, .int .i64 1, .int .i64 1, .int .i64 0] : List Value).toArray 177))
      obtain ⟨nx, hnx⟩ : ∃ x, wr.heap.size = x := ⟨_, rfl⟩
      change Code.wp _ _ _ _ (wr.alloc (.cells ([.int .i64 0, .int .i64 1, .int .i64 1, .int .i64 0] : List Value).toArray 177))
      generalize wr.alloc (.cells ([.int .i64 0, .int .i64 1, .int .i64 1, .int .i64 0] : List Value).toArray 177) = w20 at X20 E20 ⊢
      have X21 := Lib.hid (show Bx w20 nx [.int .i64 0, .int .i64 1, .int .i64 1, .int .i64 0] by rw [← hnx]; exact X20.out)
      rw [hnx]
      have HJ := Lib.hid (join_small lc g g cp cp (cfgV 1 cb cc g cp ++ cfgV 2 cb cc g cp) w20 ⟨HS.out.net.below E20.out, (E20.out.block fm HS.out.lo.2.2.1).trans HS.out.map, HLr.out.below E20.out⟩ rfl rfl HS.out.lo.2.2.2)
      clear X20 hnx r0 r1 r2 r3
      have r0 := X21.out.get 0 _ rfl
      have r1 := X21.out.get 1 _ rfl
      have r2 := X21.out.get 2 _ rfl
      have r3 := X21.out.get 3 _ rfl
      go_wp2_with (go_at_call 154; (with_reducible refine HJ.out.mono ?_); rintro e w21 ⟨rfl, v, ub, uc, j1, j2, j3, j4, j5⟩; have HMd := Lib.hid (made_of HS.out E20.out j1 j2 j3 j4 j5); clear j1 j2 j3 j4 j5)
      refine ⟨⟨_, _, _, _, _, _, _, _, _, _, _, _, _, _, _, _, ⟨1, by omega, by go_num, (fun e => by cases e), fun _ => ⟨v, ub, uc, HMd.out⟩⟩, rfl⟩, ?_⟩
      simp [intOf]
    · obtain ⟨v, ub, uc, hM⟩ := hk1 rfl
      have HM := Lib.hid hM
      clear hM hk0 hk1
      go_wp2
      go_ret2
      exact ⟨⟨n, sb, cap, v, ub, uc, fm, B0.b, B1.b⟩, B0, B1, rfl, HM.out⟩
end Go.Proofs.YticdmepplfgdiaaGreatDoor
end
section
namespace Go.Proofs.YticdmepplfgdiaaGreatDoor
open Go.RowKit
theorem infoJ35 : (Tryz.prog.info? 35).map (fun i => (i.zero, i.size, i.bytes)) = some (some (.agg #[.int .u64 0, .slice none 0 0, .slice none 0 0, .string ⟨#[]⟩, .string ⟨#[]⟩, .int .i64 0, .int .i64 0, .int .i64 0, .int .i64 0, .int .i64 0, .int .i64 0, .bool false, .bool false]), 13, 144) := by kernel_rfl
theorem cfg_one (id : Int) (cb cc g cp : Nat) : ∀ u ∈ cfgV id cb cc g cp, u.oneCell' = true := by
  intro u hu
  simp only [cfgV, List.mem_cons, List.not_mem_nil, or_false] at hu
  rcases hu with rfl | rfl | rfl | rfl | rfl | rfl | rfl | rfl | rfl | rfl | rfl | rfl | rfl <;> rfl
theorem wire_one : ∀ u ∈ ([.int .i64 0, .int .i64 1, .int .i64 1, .int .i64 0] : List Value), u.oneCell' = true := by
  intro u hu
  simp only [List.mem_cons, List.not_mem_nil, or_false] at hu
  rcases hu with rfl | rfl | rfl | rfl <;> rfl
def cfgRow (cb cc g cp : Nat) : Nat → List Value
  | 0 => []
  | 1 => cfgV 1 cb cc g cp
  | _ => cfgV 1 cb cc g cp ++ cfgV 2 cb cc g cp
/-- a net is begun, and 80 ticks behind -/
def Gone (w W : World) (N : Nts) (B0 B1 : Brs) : Prop :=
  NetS N B0 B1 (stAt 80) W ∧ Lies2 N B0 B1 ∧ (∀ x, x ∈ N.all → x ∉ B0.all) ∧ (∀ x, x ∈ N.all → x ∉ B1.all) ∧ (∀ x, x ∈ B0.all → x ∉ B1.all) ∧ (∀ x, x ∈ N.all ++ B0.all ++ B1.all → w.heap.size ≤ x ∧ x < W.heap.size) ∧ Below w.heap.size w W
set_option maxRecDepth 100000 in
set_option maxHeartbeats 16000000 in
theorem begun_small {l wb cb g a b c d : Nat} (lc wc cc cp : Nat) (w : World) (hl : Bx w l (cfgV 1 cb cc g cp ++ cfgV 2 cb cc g cp)) (hw : Bx w wb [.int .i64 0, .int .i64 1, .int .i64 1, .int .i64 0]) (h : CfgAt w cb g a b c d) :
    Calls Tryz.prog 20 #[.agg #[.slice (some ⟨l, 0, none⟩) 2 lc, .slice (some ⟨wb, 0, none⟩) 1 wc]] w fun e w' => ∃ N B0 B1, e = .returned (.pointer (some ⟨N.n, 0, none⟩)) ∧ Gone w w' N B0 B1 := by
  obtain ⟨i0, hi, hz0, hz1, hz2⟩ := info_parts infoJ35
  obtain ⟨j0, hj, hj0, hj1, hj2⟩ := info_parts infoJ177
  have HL := Lib.hid (hl.alloc (.cells ([.slice (some ⟨l, 0, none⟩) 2 lc, .slice (some ⟨wb, 0, none⟩) 1 wc] : List Value).toArray 77))
  have HW := Lib.hid (hw.alloc (.cells ([.slice (some ⟨l, 0, none⟩) 2 lc, .slice (some ⟨wb, 0, none⟩) 1 wc] : List Value).toArray 77))
  have HC := Lib.hid (h.below (bbox1 w (.cells ([.slice (some ⟨l, 0, none⟩) 2 lc, .slice (some ⟨wb, 0, none⟩) 1 wc] : List Value).toArray 77)))
  have HB := Lib.hid (Bx.new w [.slice (some ⟨l, 0, none⟩) 2 lc, .slice (some ⟨wb, 0, none⟩) 1 wc] 77)
  have E1 := Lib.hid (bbox1 w (.cells ([.slice (some ⟨l, 0, none⟩) 2 lc, .slice (some ⟨wb, 0, none⟩) 1 wc] : List Value).toArray 77))
  clear hl hw h
  go_enter Tryz.func20, Tryz.ntmps20
  go_upto_region 1 with fail
  obtain ⟨nb, hnb⟩ : ∃ x, w.heap.size = x := ⟨_, rfl⟩
  change Code.wp _ _ _ _ (w.alloc (.cells ([.slice (some ⟨l, 0, none⟩) 2 lc, .slice (some ⟨wb, 0, none⟩) 1 wc] : List Value).toArray 77))
  generalize w.alloc (.cells ([.slice (some ⟨l, 0, none⟩) 2 lc, .slice (some ⟨wb, 0, none⟩) 1 wc] : List Value).toArray 77) = w1 at HL HW HC HB E1 ⊢
  have HB1 := Lib.hid (show Bx w1 nb [.slice (some ⟨l, 0, none⟩) 2 lc, .slice (some ⟨wb, 0, none⟩) 1 wc] by rw [← hnb]; exact HB.out)
  rw [hnb]
  clear HB hnb
  go_upto_region 3 with fail
  go_loopw [3, 4] (fun v i wr => ∃ k : Nat, k ≤ 2 ∧ i = .int .i64 k ∧ wr.ownsRow w1.heap.size 35 13 v k (cfgRow cb cc g cp k) ∧ Below w1.heap.size w1 wr) (fun _ i _ => 3 - (intOf i).toNat)
  case atStart => exact ⟨0, Nat.zero_le _, rfl, World.ownsRow_nil _ _ _ _, Below.refl _ _⟩
  case round =>
  obtain ⟨k, hk, rfl, ho, hbl⟩ := hrel
  have HO := Lib.hid ho
  have HE := Lib.hid hbl
  have hsz := hbl.size
  have b0 := (HB1.out.below hbl).get 0 _ rfl
  have HLr := Lib.hid (HL.out.below hbl)
  clear ho
  rcases (by omega : k = 0 ∨ k = 1 ∨ k = 2) with rfl | rfl | rfl
  · skip
    have r0 := HLr.out.get 0 _ rfl
    have r1 := HLr.out.get 1 _ rfl
    have r2 := HLr.out.get 2 _ rfl
    have r3 := HLr.out.get 3 _ rfl
    have r4 := HLr.out.get 4 _ rfl
    have r5 := HLr.out.get 5 _ rfl
    have r6 := HLr.out.get 6 _ rfl
    have r7 := HLr.out.get 7 _ rfl
    have r8 := HLr.out.get 8 _ rfl
    have r9 := HLr.out.get 9 _ rfl
    have r10 := HLr.out.get 10 _ rfl
    have r11 := HLr.out.get 11 _ rfl
    have r12 := HLr.out.get 12 _ rfl
    go_wp2_with (first
      | (go_at_call 8; (with_reducible refine (config_is 1 (some ⟨cb, 0, none⟩) (some ⟨g, 0, none⟩) 2 cc 2 cp ⟨#[]⟩ ⟨#[]⟩ 20 2 60 2 100 50 false false wr).mono ?_); rintro e w3 ⟨rfl, g3⟩; have HO3 := Lib.hid (own_below HO.out g3); have G3 := Lib.hid (hbl.trans (g3.mono hsz)); have hs3 := g3.size; clear g3)
      | (at_builtin; refine wpList_append_own _ rfl _ _ 175 rfl w1.heap.size 35 i0 _ 13 144 Tryz.underlying175 hi hz0 hz1 hz2 rfl (by decide) _ 0 (cfgRow cb cc g cp 0) rfl (HO3.out.alloc _) ⟨w3.heap.size, 0, none⟩ 1 1 (cfgV 1 cb cc g cp) rfl rfl (fun j u hju => by rw [plain_add]; exact (Bx.new w3 (cfgV 1 cb cc g cp) 35).get j u hju) (cfg_one _ _ _ _ _) (by decide) (by decide) (by rw [World.size_alloc]; omega) ?_; intro v4 w4 h4 g4 _; have HO4 := Lib.hid h4; have G4 := Lib.hid ((G3.out.alloc (by omega) (.cells (cfgV 1 cb cc g cp).toArray 35)).trans (grown_below HO3.out g4 (by rw [World.size_alloc]; omega))); clear h4 g4))
    refine ⟨⟨1, by omega, by go_num, HO4.out, G4.out⟩, ?_⟩
    simp [intOf]
  · skip
    have r0 := HLr.out.get 13 _ rfl
    have r1 := HLr.out.get 14 _ rfl
    have r2 := HLr.out.get 15 _ rfl
    have r3 := HLr.out.get 16 _ rfl
    have r4 := HLr.out.get 17 _ rfl
    have r5 := HLr.out.get 18 _ rfl
    have r6 := HLr.out.get 19 _ rfl
    have r7 := HLr.out.get 20 _ rfl
    have r8 := HLr.out.get 21 _ rfl
    have r9 := HLr.out.get 22 _ rfl
    have r10 := HLr.out.get 23 _ rfl
    have r11 := HLr.out.get 24 _ rfl
    have r12 := HLr.out.get 25 _ rfl
    go_wp2_with (first
      | (go_at_call 8; (with_reducible refine (config_is 2 (some ⟨cb, 0, none⟩) (some ⟨g, 0, none⟩) 2 cc 2 cp ⟨#[]⟩ ⟨#[]⟩ 20 2 60 2 100 50 false false wr).mono ?_); rintro e w3 ⟨rfl, g3⟩; have HO3 := Lib.hid (own_below HO.out g3); have G3 := Lib.hid (hbl.trans (g3.mono hsz)); have hs3 := g3.size; clear g3)
      | (at_builtin; refine wpList_append_own _ rfl _ _ 175 rfl w1.heap.size 35 i0 _ 13 144 Tryz.underlying175 hi hz0 hz1 hz2 rfl (by decide) _ 1 (cfgRow cb cc g cp 1) rfl (HO3.out.alloc _) ⟨w3.heap.size, 0, none⟩ 1 1 (cfgV 2 cb cc g cp) rfl rfl (fun j u hju => by rw [plain_add]; exact (Bx.new w3 (cfgV 2 cb cc g cp) 35).get j u hju) (cfg_one _ _ _ _ _) (by decide) (by decide) (by rw [World.size_alloc]; omega) ?_; intro v4 w4 h4 g4 _; have HO4 := Lib.hid h4; have G4 := Lib.hid ((G3.out.alloc (by omega) (.cells (cfgV 2 cb cc g cp).toArray 35)).trans (grown_below HO3.out g4 (by rw [World.size_alloc]; omega))); clear h4 g4))
    refine ⟨⟨2, by omega, by go_num, HO4.out, G4.out⟩, ?_⟩
    simp [intOf]
  · clear b0
    rw [show ((2 : Nat) : Int) = 2 from rfl]
    obtain ⟨lb, lcap, rfl, hlb, hlx⟩ := row_bx HO.out (by decide) rfl
    have HLx := Lib.hid (show Bx wr lb (cfgV 1 cb cc g cp ++ cfgV 2 cb cc g cp) from hlx)
    have b0 := (HB1.out.below hbl).get 0 _ rfl
    have hs2 := hsz
    rename World => w2
    go_upto_region 8 with fail
    clear b0
    go_loopw [5, 6, 7] (fun v i _ wr => ∃ k : Nat, k ≤ 1 ∧ i = .int .i64 k ∧ wr.ownsRow w2.heap.size 177 4 v k (if k = 0 then [] else [.int .i64 0, .int .i64 1, .int .i64 1, .int .i64 0]) ∧ Below w2.heap.size w2 wr) (fun _ i _ _ => 2 - (intOf i).toNat)
    case atStart => exact ⟨0, Nat.zero_le _, rfl, World.ownsRow_nil _ _ _ _, Below.refl _ _⟩
    case round =>
    obtain ⟨k, hk, rfl, ho, hbl2⟩ := hrel
    have hE := hbl.trans (hbl2.mono hbl.size)
    have b1 := (HB1.out.below hE).get 1 _ rfl
    have hszr := hbl2.size
    rcases (by omega : k = 0 ∨ k = 1) with rfl | rfl
    · have r0 := (HW.out.below hE).get 0 _ rfl
      have r1 := (HW.out.below hE).get 1 _ rfl
      have r2 := (HW.out.below hE).get 2 _ rfl
      have r3 := (HW.out.below hE).get 3 _ rfl
      have HO2 := Lib.hid ho
      have HE2 := Lib.hid hbl2
      clear ho hbl2 hE
      go_upto_region 11 with fail
      have X11 := Lib.hid (Bx.new wr [.int .i64 0, .int .i64 1, .int .i64 1, .int .i64 0] 74)
      have E11 := Lib.hid (bbox1 wr (.cells ([.int .i64 0, .int .i64 1, .int .i64 1, .int .i64 0] : List Value).toArray 74))
      have O11 := Lib.hid (HO2.out.alloc (.cells ([.int .i64 0, .int .i64 1, .int .i64 1, .int .i64 0] : List Value).toArray 74))
      obtain ⟨nx, hnx⟩ : ∃ x, wr.heap.size = x := ⟨_, rfl⟩
      change Code.wp _ _ _ _ (wr.alloc (.cells ([.int .i64 0, .int .i64 1, .int .i64 1, .int .i64 0] : List Value).toArray 74))
      generalize wr.alloc (.cells ([.int .i64 0, .int .i64 1, .int .i64 1, .int .i64 0] : List Value).toArray 74) = w11 at X11 E11 O11 ⊢
      have X12 := Lib.hid (show Bx w11 nx [.int .i64 0, .int .i64 1, .int .i64 1, .int .i64 0] by rw [← hnx]; exact X11.out)
      rw [hnx]
      clear X11 hnx r0 r1 r2 r3 b1
      have r0 := X12.out.get 0 _ rfl
      have r1 := X12.out.get 1 _ rfl
      have r2 := X12.out.get 2 _ rfl
      have r3 := X12.out.get 3 _ rfl
      have hs11 := E11.out.size
      go_wp2_with (at_builtin; refine wpList_append_own _ rfl _ _ 176 rfl w2.heap.size 177 j0 _ 4 32 Tryz.underlying176 hj hj0 hj1 hj2 rfl (by decide) _ 0 [] rfl (O11.out.alloc _) ⟨w11.heap.size, 0, none⟩ 1 1 [.int .i64 0, .int .i64 1, .int .i64 1, .int .i64 0] rfl rfl (fun j u hju => by rw [plain_add]; exact (Bx.new w11 [.int .i64 0, .int .i64 1, .int .i64 1, .int .i64 0] 177).get j u hju) wire_one (by decide) (by decide) (by rw [World.size_alloc]; omega) ?_)
      intro v' V hoV hgV _
      have HV := Lib.hid hoV
      have HG := Lib.hid (((HE2.out.trans (E11.out.mono hszr)).alloc (by omega) (.cells #[.int .i64 0, .int .i64 1, .int .i64 1, .int .i64 0] 177)).trans (grown_below O11.out hgV (by rw [World.size_alloc]; omega)))
      clear hoV hgV
      go_wp2
      refine ⟨⟨1, by omega, by go_num, HV.out, HG.out⟩, ?_⟩
      simp [intOf]
    · rw [show ((1 : Nat) : Int) = 1 from rfl]
      have HE3 := Lib.hid hE
      obtain ⟨wb2, wcap, rfl, hwb, hwx⟩ := row_bx ho (by decide) rfl
      have HN := Lib.hid (netnew_small lcap wcap cc cp wr (HLx.out.below hbl2) (show Bx wr wb2 [.int .i64 0, .int .i64 1, .int .i64 1, .int .i64 0] from hwx) (HC.out.below hE))
      clear ho hbl2 hE hwx
      have e1s := E1.out.size
      have e3s := HE3.out.size
      rename World => w3
      go_upto_region 15 with (go_at_call 78; (with_reducible refine HN.out.mono ?_); rintro e w4 ⟨N, B0, B1, rfl, hM⟩; have HM := Lib.hid hM; clear hM)
      clear b1
      obtain ⟨m0, m1, m2, m3, m4, m5, m6, m7, m8⟩ := HM.out
      have M3 := Lib.hid m3
      have M4 := Lib.hid m4
      have M5 := Lib.hid m5
      have M6 := Lib.hid m6
      have M7 := Lib.hid m7
      have M8 := Lib.hid m8
      have S0 := Lib.hid (show NetS N B0 B1 (stAt 0) w4 by rw [st_begin]; exact m2)
      clear m0 m1 m2 m3 m4 m5 m6 m7 m8 HM HN
      go_upto_region 16 with fail
      go_loopw [10] (fun i wr => ∃ k : Nat, k ≤ 80 ∧ i = .int .i64 (1 + k) ∧ NetS N B0 B1 (stAt k) wr ∧ Beside (B0.muts ++ B1.muts) w4 wr) (fun i _ => 82 - (intOf i).toNat)
      case atStart => exact ⟨0, Nat.zero_le _, rfl, S0.out, Beside.refl _ _⟩
      case round =>
      obtain ⟨k, hk, rfl, hN, hB⟩ := hrel
      have HNr := Lib.hid hN
      have HBr := Lib.hid hB
      clear hN hB
      rcases Nat.lt_or_ge k 80 with hlt | hge
      · have hc : (1 + (k : Int)) ≤ 80 := by omega
        have HT := Lib.hid (nettick_two (now := 1 + (k : Int)) M3.out (by omega) (by omega) wr (fun x hx => Nat.lt_of_lt_of_le (M7.out x hx).2 HBr.out.size) (st_step k hlt).1 HNr.out)
        have hst := (st_step k hlt).2
        rw [hst] at HT
        clear hst
        go_wp2_with (go_at_call 79; (with_reducible refine HT.out.mono ?_); rintro e w5 ⟨⟨v5, rfl⟩, hN5, hB5⟩; have HN5 := Lib.hid hN5; have HB5 := Lib.hid (HBr.out.trans hB5); clear hN5 hB5)
        refine ⟨⟨k + 1, by omega, by go_num, HN5.out, HB5.out⟩, ?_⟩
        simp [intOf]
        omega
      · have he : k = 80 := by omega
        subst he
        go_wp2
        go_ret
        refine ⟨N, B0, B1, rfl, HNr.out, M3.out, M4.out, M5.out, M6.out, fun x hx => ⟨?_, Nat.lt_of_lt_of_le (M7.out x hx).2 HBr.out.size⟩, ?_⟩
        · have := (M7.out x hx).1
          omega
        · exact ((E1.out.trans (HE3.out.mono e1s)).trans (M8.out.mono (by omega))).trans (HBr.out.to_below (by have := M8.out.size; omega) (fun x hx => by
            have hx2 : x ∈ N.all ++ B0.all ++ B1.all := by
              rcases List.mem_append.1 hx with hx | hx
              · exact List.mem_append_left _ (List.mem_append_right _ (Brs.mut_all x hx))
              · exact List.mem_append_right _ (Brs.mut_all x hx)
            have := (M7.out x hx2).1
            omega))
end Go.Proofs.YticdmepplfgdiaaGreatDoor
end
section
namespace Go.Proofs.YticdmepplfgdiaaGreatDoor
open Go.RowKit
theorem renc_lit (w : World) : Calls Tryz.prog 21 #[.agg #[.string ⟨#[255, 255, 255, 255, 255, 255]⟩, .string ⟨#[2, 98, 98, 98, 98, 98]⟩, .bool false, .int .i64 0, .int .i64 0, .int .i64 99, .string ⟨#[]⟩]] w fun e w' => e = .returned (.tuple #[.string dataW, .int .i64 0]) ∧ Below w.heap.size w w' :=
  (rence_ok allB srcB ⟨#[]⟩ false 0 0 99 good_plain).to w
theorem pass_of {T : Tre} (h : passB T = true) : Pass T := by
  unfold passB at h
  rw [Bool.and_eq_true, Bool.and_eq_true, Bool.and_eq_true] at h
  exact ⟨by simpa using h.1, h.2.1, h.2.2.1, h.2.2.2⟩
theorem pass_both : Pass (stAt 80).1 ∧ Pass (stAt 80).2 := by
  have h := st_end
  rw [Bool.and_eq_true] at h
  exact ⟨pass_of h.1, pass_of h.2⟩
set_option maxRecDepth 100000 in
set_option maxHeartbeats 16000000 in
theorem works_true (w : World) : Calls Tryz.prog 6 #[] w fun e w' => e = .returned (.bool true) ∧ Below w.heap.size w w' := by
  go_enter Tryz.func6, Tryz.ntmps6
  go_upto_region 2 with fail
  have A2 := Lib.hid ((Bx.new w [.int .i64 10] 3).alloc (.cells ([.int .i64 10, .slice none 0 0, .slice (some ⟨w.heap.size, 0, none⟩) 1 1] : List Value).toArray 69))
  have P2 := Lib.hid (Bx.new2 w (.cells ([.int .i64 10] : List Value).toArray 3) [.int .i64 10, .slice none 0 0, .slice (some ⟨w.heap.size, 0, none⟩) 1 1] 69)
  have E2 := Lib.hid (ball1 (bbox1 w (.cells ([.int .i64 10] : List Value).toArray 3)) (.cells ([.int .i64 10, .slice none 0 0, .slice (some ⟨w.heap.size, 0, none⟩) 1 1] : List Value).toArray 69))
  change Code.wp _ _ _ _ ((w.alloc (.cells ([.int .i64 10] : List Value).toArray 3)).alloc (.cells ([.int .i64 10, .slice none 0 0, .slice (some ⟨w.heap.size, 0, none⟩) 1 1] : List Value).toArray 69))
  generalize (w.alloc (.cells ([.int .i64 10] : List Value).toArray 3)).alloc (.cells ([.int .i64 10, .slice none 0 0, .slice (some ⟨w.heap.size, 0, none⟩) 1 1] : List Value).toArray 69) = w2 at A2 P2 E2 ⊢
  obtain ⟨p, hp⟩ : ∃ x, x = w.heap.size + 1 := ⟨_, rfl⟩
  obtain ⟨a, ha⟩ : ∃ x, x = w.heap.size := ⟨_, rfl⟩
  rw [← hp, ← ha] at P2 ⊢
  have A3 := Lib.hid (show Bx w2 a [.int .i64 10] by rw [ha]; exact A2.out)
  have E3 := Lib.hid E2.out
  clear A2 E2 hp
  have HA := Lib.hid ha
  clear ha
  have q0 := (P2.out.alloc (.cells ([.int .i64 10, .int .i64 10] : List Value).toArray 3)).get 0 _ rfl
  have q1 := (P2.out.alloc (.cells ([.int .i64 10, .int .i64 10] : List Value).toArray 3)).get 1 _ rfl
  have q2 := (P2.out.alloc (.cells ([.int .i64 10, .int .i64 10] : List Value).toArray 3)).get 2 _ rfl
  go_upto_region 3 with fail
  have C3 := Lib.hid (((Bx.new w2 [.int .i64 10, .int .i64 10] 3).alloc (.cells ([.int .i64 10, .slice none 0 0, .slice (some ⟨a, 0, none⟩) 1 1, .int .i64 10, .slice none 0 0, .slice (some ⟨a, 0, none⟩) 1 1] : List Value).toArray 69)).alloc (.cells ([.int .u64 1, .slice (some ⟨w2.heap.size, 0, none⟩) 2 2, .slice (some ⟨w2.heap.size + 1, 0, none⟩) 2 2, .string ⟨#[]⟩, .string ⟨#[]⟩, .int .i64 20, .int .i64 2, .int .i64 60, .int .i64 2, .int .i64 100, .int .i64 50, .bool false, .bool false] : List Value).toArray 27))
  have G3 := Lib.hid ((Bx.new2 w2 (.cells ([.int .i64 10, .int .i64 10] : List Value).toArray 3) [.int .i64 10, .slice none 0 0, .slice (some ⟨a, 0, none⟩) 1 1, .int .i64 10, .slice none 0 0, .slice (some ⟨a, 0, none⟩) 1 1] 69).alloc (.cells ([.int .u64 1, .slice (some ⟨w2.heap.size, 0, none⟩) 2 2, .slice (some ⟨w2.heap.size + 1, 0, none⟩) 2 2, .string ⟨#[]⟩, .string ⟨#[]⟩, .int .i64 20, .int .i64 2, .int .i64 60, .int .i64 2, .int .i64 100, .int .i64 50, .bool false, .bool false] : List Value).toArray 27))
  have K3 := Lib.hid (Bx.new3 w2 (.cells ([.int .i64 10, .int .i64 10] : List Value).toArray 3) (.cells ([.int .i64 10, .slice none 0 0, .slice (some ⟨a, 0, none⟩) 1 1, .int .i64 10, .slice none 0 0, .slice (some ⟨a, 0, none⟩) 1 1] : List Value).toArray 69) [.int .u64 1, .slice (some ⟨w2.heap.size, 0, none⟩) 2 2, .slice (some ⟨w2.heap.size + 1, 0, none⟩) 2 2, .string ⟨#[]⟩, .string ⟨#[]⟩, .int .i64 20, .int .i64 2, .int .i64 60, .int .i64 2, .int .i64 100, .int .i64 50, .bool false, .bool false] 27)
  have A4 := Lib.hid (((A3.out.alloc (.cells ([.int .i64 10, .int .i64 10] : List Value).toArray 3)).alloc (.cells ([.int .i64 10, .slice none 0 0, .slice (some ⟨a, 0, none⟩) 1 1, .int .i64 10, .slice none 0 0, .slice (some ⟨a, 0, none⟩) 1 1] : List Value).toArray 69)).alloc (.cells ([.int .u64 1, .slice (some ⟨w2.heap.size, 0, none⟩) 2 2, .slice (some ⟨w2.heap.size + 1, 0, none⟩) 2 2, .string ⟨#[]⟩, .string ⟨#[]⟩, .int .i64 20, .int .i64 2, .int .i64 60, .int .i64 2, .int .i64 100, .int .i64 50, .bool false, .bool false] : List Value).toArray 27))
  have E4 := Lib.hid (ball1 (ball1 (ball1 E3.out (.cells ([.int .i64 10, .int .i64 10] : List Value).toArray 3)) (.cells ([.int .i64 10, .slice none 0 0, .slice (some ⟨a, 0, none⟩) 1 1, .int .i64 10, .slice none 0 0, .slice (some ⟨a, 0, none⟩) 1 1] : List Value).toArray 69)) (.cells ([.int .u64 1, .slice (some ⟨w2.heap.size, 0, none⟩) 2 2, .slice (some ⟨w2.heap.size + 1, 0, none⟩) 2 2, .string ⟨#[]⟩, .string ⟨#[]⟩, .int .i64 20, .int .i64 2, .int .i64 60, .int .i64 2, .int .i64 100, .int .i64 50, .bool false, .bool false] : List Value).toArray 27))
  change Code.wp _ _ _ _ (((w2.alloc (.cells ([.int .i64 10, .int .i64 10] : List Value).toArray 3)).alloc (.cells ([.int .i64 10, .slice none 0 0, .slice (some ⟨a, 0, none⟩) 1 1, .int .i64 10, .slice none 0 0, .slice (some ⟨a, 0, none⟩) 1 1] : List Value).toArray 69)).alloc (.cells ([.int .u64 1, .slice (some ⟨w2.heap.size, 0, none⟩) 2 2, .slice (some ⟨w2.heap.size + 1, 0, none⟩) 2 2, .string ⟨#[]⟩, .string ⟨#[]⟩, .int .i64 20, .int .i64 2, .int .i64 60, .int .i64 2, .int .i64 100, .int .i64 50, .bool false, .bool false] : List Value).toArray 27))
  generalize ((w2.alloc (.cells ([.int .i64 10, .int .i64 10] : List Value).toArray 3)).alloc (.cells ([.int .i64 10, .slice none 0 0, .slice (some ⟨a, 0, none⟩) 1 1, .int .i64 10, .slice none 0 0, .slice (some ⟨a, 0, none⟩) 1 1] : List Value).toArray 69)).alloc (.cells ([.int .u64 1, .slice (some ⟨w2.heap.size, 0, none⟩) 2 2, .slice (some ⟨w2.heap.size + 1, 0, none⟩) 2 2, .string ⟨#[]⟩, .string ⟨#[]⟩, .int .i64 20, .int .i64 2, .int .i64 60, .int .i64 2, .int .i64 100, .int .i64 50, .bool false, .bool false] : List Value).toArray 27) = w3 at C3 G3 K3 A4 E4 ⊢
  obtain ⟨bx, hbx⟩ : ∃ x, x = w2.heap.size + 2 := ⟨_, rfl⟩
  obtain ⟨g, hg⟩ : ∃ x, x = w2.heap.size + 1 := ⟨_, rfl⟩
  obtain ⟨cb, hcb⟩ : ∃ x, x = w2.heap.size := ⟨_, rfl⟩
  have C4 := Lib.hid (show Bx w3 cb [.int .i64 10, .int .i64 10] by rw [hcb]; exact C3.out)
  have G4 := Lib.hid (show Bx w3 g (ptCells a a 1 1) by rw [hg]; exact G3.out)
  have K4 := Lib.hid (show Bx w3 bx (cfgV 1 cb 2 g 2) by rw [hbx, hcb, hg]; exact K3.out)
  rw [← hbx, ← hg, ← hcb]
  clear C3 G3 K3 A3 E3 P2 hbx hg hcb q0 q1 q2
  have r0 := K4.out.get 0 _ rfl
  have r1 := K4.out.get 1 _ rfl
  have r2 := K4.out.get 2 _ rfl
  have r3 := K4.out.get 3 _ rfl
  have r4 := K4.out.get 4 _ rfl
  have r5 := K4.out.get 5 _ rfl
  have r6 := K4.out.get 6 _ rfl
  have r7 := K4.out.get 7 _ rfl
  have r8 := K4.out.get 8 _ rfl
  have r9 := K4.out.get 9 _ rfl
  have r10 := K4.out.get 10 _ rfl
  have r11 := K4.out.get 11 _ rfl
  have r12 := K4.out.get 12 _ rfl
  go_upto_region 4 with fail
  have D5 := Lib.hid (Bx.new w3 [.int .u64 1, .slice (some ⟨cb, 0, none⟩) 2 2, .slice (some ⟨g, 0, none⟩) 2 2, .string ⟨#[]⟩, .string ⟨#[]⟩, .int .i64 20, .int .i64 2, .int .i64 60, .int .i64 2, .int .i64 100, .int .i64 50, .bool false, .bool false] 27)
  have E5 := Lib.hid (bbox1 w3 (.cells ([.int .u64 1, .slice (some ⟨cb, 0, none⟩) 2 2, .slice (some ⟨g, 0, none⟩) 2 2, .string ⟨#[]⟩, .string ⟨#[]⟩, .int .i64 20, .int .i64 2, .int .i64 60, .int .i64 2, .int .i64 100, .int .i64 50, .bool false, .bool false] : List Value).toArray 27))
  change Code.wp _ _ _ _ (w3.alloc (.cells ([.int .u64 1, .slice (some ⟨cb, 0, none⟩) 2 2, .slice (some ⟨g, 0, none⟩) 2 2, .string ⟨#[]⟩, .string ⟨#[]⟩, .int .i64 20, .int .i64 2, .int .i64 60, .int .i64 2, .int .i64 100, .int .i64 50, .bool false, .bool false] : List Value).toArray 27))
  generalize w3.alloc (.cells ([.int .u64 1, .slice (some ⟨cb, 0, none⟩) 2 2, .slice (some ⟨g, 0, none⟩) 2 2, .string ⟨#[]⟩, .string ⟨#[]⟩, .int .i64 20, .int .i64 2, .int .i64 60, .int .i64 2, .int .i64 100, .int .i64 50, .bool false, .bool false] : List Value).toArray 27) = w4 at D5 E5 ⊢
  obtain ⟨dx, hdx⟩ : ∃ x, x = w3.heap.size := ⟨_, rfl⟩
  have D6 := Lib.hid (show Bx w4 dx (cfgV 1 cb 2 g 2) by rw [hdx]; exact D5.out)
  rw [← hdx]
  have HD := Lib.hid hdx
  clear D5 hdx r0 r1 r2 r3 r4 r5 r6 r7 r8 r9 r10 r11 r12
  have d0 := D6.out.get 0 _ rfl
  have df := D6.out.fz
  go_upto_region 5 with fail
  have T5 : Beside [dx] w3 (w4.setCell ⟨dx, 0, none⟩ (.int .u64 2)) := (Beside.of_below E5.out).setCell (p := ⟨dx, 0, none⟩) (.inl (List.mem_singleton.2 rfl)) _
  have D7 := Lib.hid (show Bx (w4.setCell ⟨dx, 0, none⟩ (.int .u64 2)) dx (cfgV 2 cb 2 g 2) from D6.out.set (i := 0) (by simp [cfgV]))
  have hne : ∀ x, x < w3.heap.size → x ∉ [dx] := fun x hx e => by have := List.mem_singleton.1 e; have := HD.out; omega
  have K7 := Lib.hid (K4.out.beside T5 (hne _ K4.out.1))
  have C7 := Lib.hid (show CfgAt (w4.setCell ⟨dx, 0, none⟩ (.int .u64 2)) cb g a a 1 1 from ⟨C4.out.beside T5 (hne _ C4.out.1), G4.out.beside T5 (hne _ G4.out.1), A4.out.beside T5 (hne _ A4.out.1), A4.out.beside T5 (hne _ A4.out.1)⟩)
  have E7 := Lib.hid (E4.out.trans (T5.to_below E4.out.size (fun x hx => by have h1 := List.mem_singleton.1 hx; have h2 := HD.out; have h3 := E4.out.size; omega)))
  generalize w4.setCell ⟨dx, 0, none⟩ (.int .u64 2) = w5 at D7 K7 C7 E7 ⊢
  clear T5 D6 K4 C4 G4 A4 E4 d0 df E5 hne
  have r0 := K7.out.get 0 _ rfl
  have r1 := K7.out.get 1 _ rfl
  have r2 := K7.out.get 2 _ rfl
  have r3 := K7.out.get 3 _ rfl
  have r4 := K7.out.get 4 _ rfl
  have r5 := K7.out.get 5 _ rfl
  have r6 := K7.out.get 6 _ rfl
  have r7 := K7.out.get 7 _ rfl
  have r8 := K7.out.get 8 _ rfl
  have r9 := K7.out.get 9 _ rfl
  have r10 := K7.out.get 10 _ rfl
  have r11 := K7.out.get 11 _ rfl
  have r12 := K7.out.get 12 _ rfl
  have s0 := D7.out.get 0 _ rfl
  have s1 := D7.out.get 1 _ rfl
  have s2 := D7.out.get 2 _ rfl
  have s3 := D7.out.get 3 _ rfl
  have s4 := D7.out.get 4 _ rfl
  have s5 := D7.out.get 5 _ rfl
  have s6 := D7.out.get 6 _ rfl
  have s7 := D7.out.get 7 _ rfl
  have s8 := D7.out.get 8 _ rfl
  have s9 := D7.out.get 9 _ rfl
  have s10 := D7.out.get 10 _ rfl
  have s11 := D7.out.get 11 _ rfl
  have s12 := D7.out.get 12 _ rfl
  have HL := Lib.hid ((Bx.new w5 (cfgV 1 cb 2 g 2 ++ cfgV 2 cb 2 g 2) 27).alloc (.cells ([.int .i64 0, .int .i64 1, .int .i64 1, .int .i64 0] : List Value).toArray 74))
  have HW := Lib.hid (Bx.new2 w5 (.cells (cfgV 1 cb 2 g 2 ++ cfgV 2 cb 2 g 2).toArray 27) [.int .i64 0, .int .i64 1, .int .i64 1, .int .i64 0] 74)
  have HC := Lib.hid ((C7.out.below (bbox1 w5 (.cells (cfgV 1 cb 2 g 2 ++ cfgV 2 cb 2 g 2).toArray 27))).below (bbox1 _ (.cells ([.int .i64 0, .int .i64 1, .int .i64 1, .int .i64 0] : List Value).toArray 74)))
  have E8 := Lib.hid (ball1 (ball1 E7.out (.cells (cfgV 1 cb 2 g 2 ++ cfgV 2 cb 2 g 2).toArray 27)) (.cells ([.int .i64 0, .int .i64 1, .int .i64 1, .int .i64 0] : List Value).toArray 74))
  have HG := Lib.hid (begun_small 2 1 2 2 ((w5.alloc (.cells (cfgV 1 cb 2 g 2 ++ cfgV 2 cb 2 g 2).toArray 27)).alloc (.cells ([.int .i64 0, .int .i64 1, .int .i64 1, .int .i64 0] : List Value).toArray 74)) HL.out HW.out HC.out)
  go_upto_region 6 with (go_at_call 20; refine HG.out.mono ?_; rintro e w6 ⟨N, B0, B1, rfl, hG⟩; have HGo := Lib.hid hG; clear hG)
  have hs8 := Lib.hid E8.out.size
  have E9 := Lib.hid (E8.out.trans (HGo.out.2.2.2.2.2.2.mono E8.out.size))
  have M0 := Lib.hid (show NetS N B0 B1 ((stAt 80).1, (stAt 80).2) w6 from HGo.out.1)
  have M1 := Lib.hid HGo.out.2.1
  have M2 := Lib.hid HGo.out.2.2.1
  have M3 := Lib.hid HGo.out.2.2.2.1
  have M4 := Lib.hid HGo.out.2.2.2.2.1
  have M5 := Lib.hid HGo.out.2.2.2.2.2.1
  obtain ⟨P0, P1⟩ := pass_both
  have HP0 := Lib.hid P0
  have HP1 := Lib.hid P1
  clear HGo HG HL HW HC E8 E7 C7 K7 D7 P0 P1
  go_upto_region 7 with ((with_reducible refine (renc_lit _).mono ?_); rintro e w7 ⟨rfl, g7⟩; have E10 := Lib.hid (E9.out.trans (g7.mono E9.out.size)); have N7 := Lib.hid (M0.out.below g7); have H7 := Lib.hid (netsend_any (now := 81) M1.out M2.out M3.out M4.out (by decide) (by decide) w7 (fun x hx => Nat.lt_of_lt_of_le (M5.out x hx).2 g7.size) HP0.out HP1.out N7.out); clear g7)
  go_upto_region 8 with (go_at_call 22; (with_reducible refine H7.out.mono ?_); rintro e w8 ⟨v, rfl, r8, b8⟩; have R8 := Lib.hid r8; have B8 := Lib.hid b8; clear r8 b8)
  rcases R8.out with ⟨h, -⟩ | ⟨-, b, c, rfl, -, hx⟩
  · cases h
  · have y0 : w8.cell? ⟨b, 0, none⟩ = some (.int .i64 1) := hx.get 0 _ rfl
    have y1 : w8.cell? ⟨b, 1, none⟩ = some (.int .i64 1) := hx.get 1 _ rfl
    have E11 := Lib.hid (E10.out.trans (B8.out.to_below E10.out.size (fun x hx => by
      have hm : x ∈ N.all ++ B0.all ++ B1.all := by
        simp only [List.mem_cons, List.not_mem_nil, or_false] at hx
        rcases hx with rfl | rfl
        · exact List.mem_append_left _ (List.mem_append_right _ (List.mem_append_right _ (by simp [Brs.still])))
        · exact List.mem_append_right _ (List.mem_append_right _ (by simp [Brs.still]))
      exact Nat.le_trans hs8.out (M5.out x hm).1)))
    clear hx R8 B8
    go_wp2
    go_ret
    exact ⟨rfl, E11.out⟩
end Go.Proofs.YticdmepplfgdiaaGreatDoor
end
