/-
  What the program's ipv6.Options tells. Condition: a text's length lies well within an int.
-/
import Derived.Test.YtjhppbooakekcaaEach6
import Derived.Lib.Strings
namespace Go.Proofs.Ytjhppbooakekcaa
open Go.RowKit Go.Shelf

attribute [local go_sem] Oper.semAt_some

/-- a variable's box -/
def Holds (W : World) (b : Nat) (v : Value) : Prop := W.cell? ⟨b, 0, none⟩ = some v ∧ W.frozen? ⟨b, 0, none⟩ = false
theorem Holds.spared {B b k : Nat} {W W' : World} {v : Value} (h : Holds W k v) (hs : Spared B b W W') (h1 : k < B) (h2 : k ≠ b) : Holds W' k v := ⟨(hs.cell h1 h2).trans h.1, (hs.frozen h1 h2).trans h.2⟩
theorem Holds.put {W : World} {b : Nat} {u v : Value} (h : Holds W b u) : Holds (W.setCell ⟨b, 0, none⟩ v) b v := ⟨World.cell?_setCell_same W _ _ h.1, by rw [World.frozen?_setCell]; exact h.2⟩
theorem Holds.far {W : World} {b c : Nat} {u v : Value} (h : Holds W b u) (hb : c ≠ b) : Holds (W.setCell ⟨c, 0, none⟩ v) b u := ⟨(World.cell?_setCell_other W _ _ _ (by intro e; cases e; exact hb rfl)).trans h.1, by rw [World.frozen?_setCell]; exact h.2⟩

/-- what the loop over the options keeps -/
structure OptI (n0 : Nat) (w : World) (pre : List (List UInt8)) (W : World) : Prop where
  fine : pre.any Op6.bad = false
  a : Holds W n0 (.bool false)
  b : Holds W (n0 + 1) (.int .i64 0)
  c : Holds W (n0 + 1 + 1) (.bool (pre.any Op6.look))
  d : Below n0 w W
/-- what it leaves where it gives up -/
structure OptX (n0 : Nat) (w : World) (l : List UInt8) (W : World) : Prop where
  bad : Op6.good l = false
  a : Holds W n0 (.bool false)
  b : Holds W (n0 + 1) (.int .i64 3)
  d : Below n0 w W

theorem Holds.obj {W : World} {b l : Nat} {v : Value} (o : Obj) (h : Holds W b v) (hl : b ≠ l) : Holds (W.putObj l o) b v :=
  ⟨(World.cell?_of_block (w := W) (a := ⟨b, 0, none⟩) (World.putObj_heap_other hl)).trans h.1, (World.frozen?_of_block (w := W) (a := ⟨b, 0, none⟩) (World.putObj_heap_other hl)).trans h.2⟩

/-- OUT OF THE FUNCTION: the block for deferred calls is shut, the two results are read -/
theorem leave_two {n n0 D : Nat} {tmps : Array Value} {w W : World} {v : Bool} {x : Int} (h2 : tmps[2]? = some (.pointer (some ⟨n0, 0, none⟩))) (h3 : tmps[3]? = some (.pointer (some ⟨n0 + 1, 0, none⟩)))
    (ha : Holds W n0 (.bool v)) (hb : Holds W (n0 + 1) (.int .i64 x)) (hD : W.heap[D]? = some (.deferred (some []))) (hn : n0 + 1 < D) (hw : Below n0 w W) :
    bodyPostM Fence.wide n Try.prog Try.f15 (fun e W' => e = .returned (.tuple #[.bool v, .int .i64 x]) ∧ Below n0 w W') Exit.ret { tmps := tmps, defers := [{ target := .collected D, args := #[] }] } W := by
  refine ⟨by simp, .inl ⟨D, _, rfl, run_takeDeferred hD, ?_⟩⟩
  have k1 := (ha.obj (.deferred none) (show n0 ≠ D by omega)).1
  have k2 := (hb.obj (.deferred none) (show n0 + 1 ≠ D by omega)).1
  have hw2 : Below n0 w (W.putObj D (.deferred none)) := hw.grown (grownBy_putObj' W D _) (Nat.le_trans (by have := World.block_lt_of_cell? W _ ha.1; exact Nat.le_of_lt this) (Nat.le_refl _)) (fun k e => by cases e; omega)
  generalize W.putObj D (.deferred none) = W3 at k1 k2 hw2 ⊢
  refine ⟨.tuple #[.bool v, .int .i64 x], ?_, rfl, hw2⟩
  simp [results, Try.results15, go_sem, k1, k2, h2, h3]

/-- a round that gives up -/
theorem opt_ret {n0 : Nat} {w W : World} {l : List UInt8} {J : World → Prop} (a : Act) (hg : Hid (Op6.good l = false)) (k2 : Holds W n0 (.bool false)) (k3 : Holds W (n0 + 1) (.int .i64 0)) (k5 : Below n0 w W) :
    roundEnd (n0 + 1 + 1 + 1 + 1) (n0 + 1 + 1 + 1) J (OptX n0 w l) W Exit.ret a ((W.setCell ⟨n0, 0, none⟩ (.bool false)).setCell ⟨n0 + 1, 0, none⟩ (.int .i64 3)) := by
  refine ⟨?_, hg.out, Holds.far (Holds.put k2) (by omega), Holds.put (Holds.far k3 (by omega)), (k5.setCell (Nat.le_refl _) _).setCell (by simp) _⟩
  intro k hk
  exact (Below.heap_setCell _ _ _ _ (by simp; omega)).trans (Below.heap_setCell _ _ _ _ (by simp; omega))
/-- a round that goes on -/
theorem opt_on {n0 : Nat} {w W : World} {pre : List (List UInt8)} {x : List UInt8} {Jx : World → Prop} {f : Bool} (a : Act) (hk : Hid (pre.any Op6.bad = false)) (hb : Hid (Op6.bad x = false)) (hf : Hid (f = (pre.any Op6.look || Op6.look x)))
    (k2 : Holds W n0 (.bool false)) (k3 : Holds W (n0 + 1) (.int .i64 0)) (k4 : Holds W (n0 + 1 + 1) (.bool (pre.any Op6.look))) (k5 : Below n0 w W) :
    roundEnd (n0 + 1 + 1 + 1 + 1) (n0 + 1 + 1 + 1) (OptI n0 w (pre ++ [x])) Jx W Exit.normal a (W.setCell ⟨n0 + 1 + 1, 0, none⟩ (.bool f)) := by
  refine ⟨?_, ?_, Holds.far k2 (by omega), Holds.far k3 (by omega), ?_, k5.setCell (by simp; omega) _⟩
  · intro k hk
    exact Below.heap_setCell _ _ _ _ (by simp; omega)
  · rw [List.any_append, hk.out]; simp [hb.out]
  · have e : (pre ++ [x]).any Op6.look = f := by rw [hf.out, List.any_append]; simp
    rw [e]
    exact Holds.put k4

set_option maxRecDepth 100000 in
set_option maxHeartbeats 2000000 in
theorem options_in (n : Nat) (hn : 4 ≤ n) (s : ByteArray) (hs : s.size ≤ 281474976710656) (w : World) :
    CallsIn Fence.wide n Try.prog 15 #[.string s] w fun e W' => e = .returned (.tuple #[.bool (Op6.val s.data.toList), .int .i64 (Op6.err s.data.toList)]) ∧ Below w.heap.size w W' := by
  have h1 : 1 ≤ n := by omega
  have hfe : Fence.wide.fn 22 := trivial
  refine callsIn_of_wp_marks Try.func15 rfl trivial ?_ rfl
  simp only [Try.ntmps15, List.size_toArray, List.length_cons, List.length_nil, Nat.reduceAdd, Nat.reduceSub, Array.replicate_succ, Array.replicate_zero, List.push_toArray, List.append_toArray, List.nil_append, List.cons_append]
  gi_wp2_with (gi_at_call 22; refine (each_in (n - 1) s _).mono ?_; rintro e w' ⟨rfl, rfl⟩)
  have hb4 : Below w.heap.size w ((((w.alloc (.cells #[.bool false] 4)).alloc (.cells #[.int .i64 0] 25)).alloc (.cells #[.bool false] 4)).alloc (.cells #[.string s] 9)) :=
    ((((Below.refl _ w).alloc (Nat.le_refl _) _).alloc (by simp) _).alloc (by simp; omega) _).alloc (by simp; omega) _
  refine wp_range_box rfl h1 (gf := 28) (b := w.heap.size + 1 + 1 + 1) (lb := #[.pointer (some ⟨w.heap.size + 1 + 1 + 1, 0, none⟩)]) rfl trivial (enters_of Try.func28 (by kernel_rfl) rfl)
    (each1_gives (n - 1) (w.heap.size + 1 + 1 + 1) (by omega) s hs) (by simp) (by simp [go_sem]) (by simp [go_sem])
    (OptI w.heap.size w) (OptX w.heap.size w s.data.toList) ?keepI ?keepX ?start
    (fun x => { tmps := #[.string s, undef, .pointer (some ⟨w.heap.size, 0, none⟩), .pointer (some ⟨w.heap.size + 1, 0, none⟩), .pointer (some ⟨w.heap.size + 1 + 1, 0, none⟩), textV x, .string s, .func (.func 28) #[] #[.pointer (some ⟨w.heap.size + 1 + 1 + 1, 0, none⟩)], textV x,
      undef, undef, undef, undef, undef, undef, undef, undef, undef, undef, undef, undef, undef, undef, undef, undef, undef, undef, undef, undef, undef, undef, undef, undef, undef, undef], defers := [] }) ?assign ?body ?done ?stop
  case keepI =>
    rintro pre W W' ⟨k1, k2, k3, k4, k5⟩ hsp
    simp only [World.size_alloc] at hsp
    exact ⟨k1, k2.spared hsp (by omega) (by omega), k3.spared hsp (by omega) (by omega), k4.spared hsp (by omega) (by omega), k5.trans (hsp.below (by omega) (by omega))⟩
  case keepX =>
    rintro W W' ⟨k1, k2, k3, k5⟩ hsp
    simp only [World.size_alloc] at hsp
    exact ⟨k1, k2.spared hsp (by omega) (by omega), k3.spared hsp (by omega) (by omega), k5.trans (hsp.below (by omega) (by omega))⟩
  case start =>
    refine ⟨rfl, ⟨?_, ?_⟩, ⟨?_, ?_⟩, ⟨?_, ?_⟩, hb4⟩
    all_goals simp [go_sem]
  case assign =>
    intro l x W K hK
    gi_wp2
    exact hK
  case body =>
    rintro l pre x W hsz ⟨k1, ⟨k2, k2f⟩, ⟨k3, k3f⟩, ⟨k4, k4f⟩, k5⟩ hpre
    have hmem : x ∈ Op6.items s.data.toList := hpre.subset (by simp)
    simp only [World.size_alloc] at hsz ⊢
    have hbadx : Op6.bad x = true → Op6.good s.data.toList = false := Op6.bad_mem hmem
    have HB := Lib.hid hbadx
    have HK := Lib.hid k1
    clear hmem hbadx hpre k1
    rcases x with _ | ⟨k, u⟩
    · -- bytes are lacking
      have hg := HB.out Op6.bad_nil
      have HG := Lib.hid hg
      clear hg HB HK
      unfold textV
      gi_wp2
      exact opt_ret _ HG ⟨k2, k2f⟩ ⟨k3, k3f⟩ k5
    · obtain ⟨X, hX⟩ : ∃ X : ByteArray, X = ⟨(k :: u).toArray⟩ := ⟨_, rfl⟩
      have hv : textV (k :: u) = .string X := by rw [hX]; rfl
      have hd : X.data.toList = k :: u := by rw [hX]
      have hbt := PlainAid.get_bt X
      have hb0 := bt_cons hd
      have hpos : 0 < X.size := by rw [← size_toList, hd]; simp
      have hne : (X.toList == []) = false := by rw [Lib.toList_data, hd]; rfl
      have hlk : (X.toList == [5, 2, 0, 0]) = Op6.look (k :: u) := by rw [Lib.toList_data, hd]; rfl
      have hsz4 : X.size = u.length + 1 := by rw [← size_toList, hd]; rfl
      have hb : ∀ c : UInt8, (PlainAid.bt X 0 == (c.toNat : Int)) = (k == c) := by
        intro c
        rw [hb0, Bool.eq_iff_iff, beq_iff_eq, beq_iff_eq, ← UInt8.toNat_inj]
        omega
      have hc1 : (PlainAid.bt X 0 == 1) = (k == 1) := hb 1
      have hc5 : (PlainAid.bt X 0 == 5) = (k == 5) := hb 5
      have hc64 : decide (64 ≤ PlainAid.bt X 0) = decide (64 ≤ k.toNat) := by rw [hb0]; exact decide_eq_decide.2 (by omega)
      have h4 : ((X.size : Int) != 4) = ((k :: u).length != 4) := by
        rw [Bool.eq_iff_iff, bne_iff_ne, bne_iff_ne, hsz4, List.length_cons]
        omega
      have hbad : Op6.bad (k :: u) = (k != 1 && ((k == 5 && (k :: u).length != 4) || decide (64 ≤ k.toNat))) := rfl
      have HBX : Hid (Op6.bad (k :: u) = true → Op6.good s.data.toList = false) := HB.out
      obtain ⟨b1, e1⟩ : ∃ b, b = (k == 1) := ⟨_, rfl⟩
      obtain ⟨b5, e5⟩ : ∃ b, b = (k == 5) := ⟨_, rfl⟩
      obtain ⟨b4, e4⟩ : ∃ b, b = ((k :: u).length != 4) := ⟨_, rfl⟩
      obtain ⟨b6, e6⟩ : ∃ b, b = decide (64 ≤ k.toNat) := ⟨_, rfl⟩
      obtain ⟨q, eq⟩ : ∃ q, q = Op6.look (k :: u) := ⟨_, rfl⟩
      obtain ⟨f, ef⟩ : ∃ q, q = pre.any Op6.look := ⟨_, rfl⟩
      rw [← e1] at hc1
      rw [← e5] at hc5
      rw [← e4] at h4
      rw [← e6] at hc64
      rw [← eq] at hlk
      have hbad2 : Op6.bad (k :: u) = (!b1 && ((b5 && b4) || b6)) := by rw [hbad, e1, e5, e4, e6]; rfl
      have HBAD := Lib.hid hbad2
      have k4' := k4
      rw [← ef] at k4
      have HF := Lib.hid ef
      have HQ := Lib.hid eq
      have HK4 := Lib.hid k4'
      rw [hv]
      clear hX hv hd hb0 hb hsz4 hbad hbad2 e1 e5 e4 e6 eq ef HB k4'
      have go : ∀ (a : Act), Hid (Op6.bad (k :: u) = false → roundEnd (w.heap.size + 1 + 1 + 1 + 1) (w.heap.size + 1 + 1 + 1) (OptI w.heap.size w (pre ++ [k :: u])) (OptX w.heap.size w s.data.toList) W Exit.normal a (W.setCell ⟨w.heap.size + 1 + 1, 0, none⟩ (.bool (f || q)))) :=
        fun a hb => opt_on a HK hb (by show _ = _; rw [HF.out, HQ.out]) ⟨k2, k2f⟩ ⟨k3, k3f⟩ ⟨HK4.out, k4f⟩ k5
      have up : ∀ (a : Act), Hid (Op6.bad (k :: u) = true → roundEnd (w.heap.size + 1 + 1 + 1 + 1) (w.heap.size + 1 + 1 + 1) (OptI w.heap.size w (pre ++ [k :: u])) (OptX w.heap.size w s.data.toList) W Exit.ret a ((W.setCell ⟨w.heap.size, 0, none⟩ (.bool false)).setCell ⟨w.heap.size + 1, 0, none⟩ (.int .i64 3))) :=
        fun a hb => opt_ret a (HBX.out hb) ⟨k2, k2f⟩ ⟨k3, k3f⟩ k5
      have GO := Lib.hid go
      have UP := Lib.hid up
      clear go up HK4
      rcases b1 with _ | _ <;> rcases b5 with _ | _ <;> rcases b4 with _ | _ <;> rcases b6 with _ | _ <;> rcases f with _ | _
      all_goals
        gi_wp2
        first | exact (GO.out _).out HBAD.out | exact (UP.out _).out HBAD.out
  case done =>
    rintro W ⟨k1, ⟨k2, k2f⟩, ⟨k3, k3f⟩, ⟨k4, k4f⟩, k5⟩ hD
    simp only [World.size_alloc] at hD
    have hgood : Op6.good s.data.toList = true := by unfold Op6.good; rw [k1]; rfl
    have hval : ((Op6.items s.data.toList).any Op6.look) = Op6.val s.data.toList := (Op6.val_good hgood).symm
    have herr := Op6.err_good hgood
    have hlt := World.block_lt_of_cell? W _ k4
    have HE := Lib.hid herr
    rw [hval] at k4
    clear hval herr hgood k1
    gi_wp2
    rw [HE.out]
    exact leave_two rfl rfl (Holds.far (Holds.put ⟨k2, k2f⟩) (by omega)) (Holds.put ((Holds.far ⟨k3, k3f⟩ (by omega)))) ((Below.heap_setCell _ _ _ _ (by simp; omega)).trans ((Below.heap_setCell _ _ _ _ (by simp; omega)).trans hD)) (by omega) ((k5.setCell (by simp) _).setCell (by simp) _)
  case stop =>
    rintro W ⟨k1, k2, k3, k5⟩ hD
    have HV := Lib.hid (Op6.val_bad k1)
    have HE := Lib.hid (Op6.err_bad k1)
    clear k1
    gi_wp2
    rw [HV.out, HE.out]
    exact leave_two rfl rfl k2 k3 hD (by simp) k5

/-- a contract as a fact that the walk does not look into -/
def Opts (s : ByteArray) (v : Bool) (x : Int) : Prop :=
  ∀ w : World, Calls Try.prog 15 #[.string s] w fun e w' => e = .returned (.tuple #[.bool v, .int .i64 x]) ∧ Below w.heap.size w w'
theorem Opts.to {s : ByteArray} {v : Bool} {x : Int} (h : Opts s v x) (w : World) : Calls Try.prog 15 #[.string s] w fun e w' => e = .returned (.tuple #[.bool v, .int .i64 x]) ∧ Below w.heap.size w w' := h w
theorem opts_any (s : ByteArray) (hs : s.size ≤ 281474976710656) : Opts s (Op6.val s.data.toList) (Op6.err s.data.toList) := fun w => (callsIn_wide (n := 4)).1 (options_in 4 (Nat.le_refl _) s hs w)
end Go.Proofs.Ytjhppbooakekcaa
