/-
  What net's travel does, whatever a frame's turn does: deliveries wait in a channel, one by one each has its turn, until none waits. Conditions: the turn's contract; not too many turns.
-/
import Derived.Deep.AppendLies
import Derived.Test.YticdmepplfgdiaaGreatDoorQ19
import Derived.Test.YticdmepplfgdiaaGreatDoorQ07
import Derived.Test.YticdmepplfgdiaaGreatDoorQ25
set_option linter.unusedVariables false
set_option linter.unusedSimpArgs false
namespace Go.Proofs.YticdmepplfgdiaaGreatDoor
open Go.RowKit Go.Conc
theorem RowC.lt {W : World} {v : Value} {b : Nat} {q : List Dv} (h : RowC W v b q) (hc : 0 < capOf v) : b < W.heap.size := by
  obtain ⟨ao, off, cap, rfl, k, _⟩ := h
  exact k.lt hc
theorem RowC.kept {W W' : World} {v : Value} {b : Nat} {q : List Dv} (h : RowC W v b q) (hs : W.heap.size ≤ W'.heap.size) (hb : 0 < capOf v → W'.heap[b]? = W.heap[b]?) : RowC W' v b q := by
  obtain ⟨ao, off, cap, rfl, hc, hm⟩ := h
  exact ⟨ao, off, cap, rfl, came_block hc hs hb, hm⟩
section
variable {σ : Type} (rel : σ → Dv → σ → Bool → List Dv → Prop)
/-- deliveries have their turns, one by one; what is told more is told before anything comes out -/
inductive Runs : σ → List Dv → List Dv → σ → List Dv → Nat → Prop
  | nil (s : σ) (done : List Dv) : Runs s [] done s done 0
  | quiet {s s' sE : σ} {d : Dv} {c : Bool} {q done o : List Dv} {k : Nat} (h : rel s d s' c []) (r : Runs s' q (done ++ if c then [d] else []) sE o k) : Runs s (d :: q) done sE o (k + 1)
  | more {s s' sE : σ} {d : Dv} {m q o : List Dv} {k : Nat} (h : rel s d s' false m) (hm : m.length ≤ 100) (r : Runs s' (q ++ m) [] sE o k) : Runs s (d :: q) [] sE o (k + 1)
theorem Runs.len {s sE : σ} {q done o : List Dv} {k : Nat} (h : Runs rel s q done sE o k) : q.length ≤ k := by
  induction h with
  | nil => exact Nat.le_refl _
  | quiet _ _ ih => simp; omega
  | more _ _ _ ih => simp at ih ⊢; omega
/-- a frame's turn -/
def Turns (n : Nat) (now : Int) (Inv : σ → World → Prop) (M : List Nat) (n0 : Nat) : Prop :=
  ∀ s d s' c m, rel s d s' c m → ∀ (W : World) (bx : Nat) (left : Int), Inv s W → Bx W bx [.int .i64 left] → n0 ≤ bx → 1 ≤ left → left ≤ 2000 →
    Calls Tryz.prog 156 #[.pointer (some ⟨n, 0, none⟩), .agg #[.int .i64 d.1, .int .i64 d.2.1, .string d.2.2], .int .i64 now, .pointer (some ⟨bx, 0, none⟩)] W fun e w' =>
      ∃ v b left', e = .returned (.tuple #[.bool c, v]) ∧ RowC w' v b m ∧ Inv s' w' ∧ Bx w' bx [.int .i64 left'] ∧ left - 1 ≤ left' ∧ left' ≤ left ∧ Beside (bx :: M) W w'
end
theorem own_beside {S : List Nat} {W W' : World} {B : Nat} {t : TypeId} {n : Nat} {v : Value} {m : Nat} {xs : List Value} (h : W.ownsRow B t n v m xs) (g : Beside S W W') (hS : ∀ x, x ∈ S → x < B) : W'.ownsRow B t n v m xs := by
  have hh := h
  refine ⟨h.1, ?_⟩
  rcases h.2 with h | ⟨gb, cap, cur, rfl, hb, hg, hr⟩
  · exact .inl h
  · exact .inr ⟨gb, cap, cur, rfl, hb, (g.block gb (hh.lt gb rfl).2 (fun e => by have := hS gb e; omega)).trans hg, hr⟩
section
variable {σ : Type} (Inv : σ → World → Prop) (M : List Nat) (n0 b0 : Nat) (w0 : World) (N0 : Nat)
/-- what lies in travel's own memory -/
structure TrW (W : World) (s : σ) (buf : Array Value) (vr : Value) (r : List Dv) (vo : Value) (done : List Dv) (left : Int) (sN rN B : Nat) : Prop where
  inv : Inv s W
  chan : W.heap[N0 + 1]? = some (.chan 2000 buf false sN rN false)
  lft : Bx W N0 [.int .i64 left]
  row : ∃ b, RowC W vr b r ∧ (0 < capOf vr → n0 ≤ b ∧ b ≠ N0 ∧ b ≠ N0 + 1 ∧ b < B ∧ (b < N0 → b = b0))
  out : W.ownsRow B 81 3 vo done.length (dcells done)
  bare : done = [] → vo = .slice none 0 0
  bes : Beside (b0 :: M) w0 W
  big : N0 + 2 ≤ B
  top : B ≤ W.heap.size
end
section
variable {σ : Type} {Inv : σ → World → Prop} {M : List Nat} {n0 b0 : Nat} {w0 : World} {N0 : Nat} {W : World} {s : σ} {buf : Array Value} {vr : Value} {r : List Dv} {vo : Value} {done : List Dv} {left : Int} {sN rN B : Nat}
theorem TrW.under {W' : World} (h : TrW Inv M n0 b0 w0 N0 W s buf vr r vo done left sN rN B) (hI : ∀ s W W', Inv s W → Below n0 W W' → Inv s W') (hn : n0 ≤ N0) (g : Below W.heap.size W W') : TrW Inv M n0 b0 w0 N0 W' s buf vr r vo done left sN rN B := by
  have hb := h.big
  have ht := h.top
  obtain ⟨b, hr, ho⟩ := h.row
  exact ⟨hI _ _ _ h.inv (g.mono (by omega)), (g.block _ (by omega)).trans h.chan, h.lft.below g, ⟨b, hr.below g, ho⟩, own_below h.out g, h.bare, h.bes.below g, hb, Nat.le_trans ht g.size⟩
/-- the channel turns -/
theorem TrW.chans (h : TrW Inv M n0 b0 w0 N0 W s buf vr r vo done left sN rN B) (hI : ∀ s W W', Inv s W → Below n0 W W' → Inv s W') (hn : n0 ≤ N0) (h0 : w0.heap.size = N0) (buf' : Array Value) (sN' rN' : Nat) :
    TrW Inv M n0 b0 w0 N0 (W.setChan (N0 + 1) 2000 buf' false sN' rN' false) s buf' vr r vo done left sN' rN' B := by
  have hb := h.big
  have ht := h.top
  have g : Below (N0 + 1) W (W.setChan (N0 + 1) 2000 buf' false sN' rN' false) := below_setChan (Below.refl _ _) (Nat.le_refl _) _ _ _ _ _ _
  have hk : ∀ k, k ≠ N0 + 1 → (W.setChan (N0 + 1) 2000 buf' false sN' rN' false).heap[k]? = W.heap[k]? := fun k hk => by simp only [World.setChan]; rw [Array.getElem?_setIfInBounds_ne (fun e => hk e.symm)]
  have hs := size_setChan W (N0 + 1) 2000 buf' false sN' rN' false
  obtain ⟨b, hr, ho⟩ := h.row
  refine ⟨hI _ _ _ h.inv (g.mono (by omega)), heap_setChan W _ _ _ _ _ _ _ (by omega), h.lft.under g (Nat.lt_succ_self _), ⟨b, hr.kept (by omega) (fun hc => hk b (ho hc).2.2.1), ho⟩, ?_, h.bare, ⟨g.os.trans h.bes.os, g.tape.trans h.bes.tape, g.output.trans h.bes.output, Nat.le_trans h.bes.size g.size, fun k h1 h2 => (hk k (by omega)).trans (h.bes.block k h1 h2)⟩, hb, by omega⟩
  exact own_beside h.out (S := [N0 + 1]) ⟨g.os, g.tape, g.output, g.size, fun k h1 h2 => hk k (fun e => h2 (List.mem_singleton.2 e))⟩ (fun x hx => by rw [List.mem_singleton.1 hx]; omega)
/-- the row loses its first -/
theorem TrW.cut {d : Dv} (h : TrW Inv M n0 b0 w0 N0 W s buf vr (d :: r) vo done left sN rN B) : ∃ b off cap ao, vr = .slice (some ⟨b, off, none⟩) (r.length + 1) cap ∧ W.cell? ⟨b, off, none⟩ = some (.int .i64 d.1) ∧ W.cell? ⟨b, off + 1, none⟩ = some (.int .i64 d.2.1) ∧ W.cell? ⟨b, off + 2, none⟩ = some (.string d.2.2) ∧
    (∀ w : World, (Instr.slice 78 (.slice (some ⟨b, off, none⟩) (r.length + 1) cap) (some (.int .i64 1)) none none).run Tryz.prog w = .ok (.slice ao r.length (cap - 1)) w) ∧ TrW Inv M n0 b0 w0 N0 W s buf (.slice ao r.length (cap - 1)) r vo done left sN rN B := by
  obtain ⟨b, hr, ho⟩ := h.row
  obtain ⟨off, cap, rfl, c0, c1, c2⟩ := hr.head
  obtain ⟨ao, hrun, hr2⟩ := hr.cut
  exact ⟨b, off, cap, ao, rfl, c0, c1, c2, hrun, h.inv, h.chan, h.lft, ⟨b, hr2, fun hc => ho (by simp only [capOf] at hc ⊢; omega)⟩, h.out, h.bare, h.bes, h.big, h.top⟩
/-- a frame has had its turn -/
theorem TrW.turned {W' : World} {s' : σ} {left' : Int} (h : TrW Inv M n0 b0 w0 N0 W s buf vr r vo done left sN rN B) (hM : ∀ x, x ∈ M → x < n0) (hn : n0 ≤ N0) (h0 : w0.heap.size = N0) (hi : Inv s' W') (g : Beside (N0 :: M) W W') (c : Bx W' N0 [.int .i64 left']) :
    TrW Inv M n0 b0 w0 N0 W' s' buf vr r vo done left' sN rN B := by
  have hb := h.big
  have ht := h.top
  have hS : ∀ x, x ∈ N0 :: M → x ≤ N0 := fun x hx => by
    rcases List.mem_cons.1 hx with rfl | hx
    · exact Nat.le_refl _
    · have := hM x hx; omega
  obtain ⟨b, hr, ho⟩ := h.row
  refine ⟨hi, (g.block _ (by omega) (fun e => by have := hS _ e; omega)).trans h.chan, c, ⟨b, hr.kept g.size (fun hc => g.block b (hr.lt hc) (fun e => ?_)), ho⟩, own_beside h.out g (fun x hx => by have := hS x hx; omega), h.bare, ?_, hb, Nat.le_trans ht g.size⟩
  · have h1 := ho hc
    rcases List.mem_cons.1 e with e | e
    · exact h1.2.1 e
    · have := hM b e; omega
  · have hbs := h.bes
    refine ⟨g.os.trans hbs.os, g.tape.trans hbs.tape, g.output.trans hbs.output, Nat.le_trans hbs.size g.size, fun k h1 h2 => (g.block k (by have := hbs.size; omega) (fun e => ?_)).trans (hbs.block k h1 h2)⟩
    rcases List.mem_cons.1 e with e | e
    · omega
    · exact h2 (List.mem_cons_of_mem _ e)
/-- one more comes out -/
theorem TrW.came {W' : World} {v' : Value} {d : Dv} {B' : Nat} (h : TrW Inv M n0 b0 w0 N0 W s buf vr r vo done left sN rN B) (hI : ∀ s W W', Inv s W → Below n0 W W' → Inv s W') (hn : n0 ≤ N0) (h0 : w0.heap.size = N0) (hB : B ≤ B') (hB' : B' ≤ W.heap.size) (ho : W'.ownsRow B' 81 3 v' (done.length + 1) (dcells done ++ dcell d)) (g : Below B' W W') :
    TrW Inv M n0 b0 w0 N0 W' s buf vr r v' (done ++ [d]) left sN rN B' := by
  have hb := h.big
  obtain ⟨b, hr, hc⟩ := h.row
  refine ⟨hI _ _ _ h.inv (g.mono (by omega)), (g.block _ (by omega)).trans h.chan, h.lft.under g (by omega), ⟨b, hr.kept g.size (fun q => g.block b (by have := (hc q).2.2.2.1; omega)), fun q => by obtain ⟨q1, q2, q3, q4, q5⟩ := hc q; exact ⟨q1, q2, q3, by omega, q5⟩⟩, by rw [List.length_append, dcells_push]; exact ho, fun e => by simp at e, ?_, by omega, Nat.le_trans hB' g.size⟩
  have hbs := h.bes
  exact ⟨g.os.trans hbs.os, g.tape.trans hbs.tape, g.output.trans hbs.output, Nat.le_trans hbs.size g.size, fun k h1 h2 => (g.block k (by omega)).trans (hbs.block k h1 h2)⟩
end
section
variable {σ : Type} {Inv : σ → World → Prop} {M : List Nat} {n0 b0 : Nat} {w0 : World} {N0 : Nat} {W : World} {s : σ} {buf : Array Value} {vr : Value} {vo : Value} {left : Int} {sN rN B : Nat}
/-- the row is told anew -/
theorem TrW.rowed {W' : World} {v' : Value} {b' br : Nat} {m : List Dv} (h : TrW Inv M n0 b0 w0 N0 W s buf vr [] vo [] left sN rN B) (hI : ∀ s W W', Inv s W → Below n0 W W' → Inv s W') (hn : n0 ≤ N0) (h0 : w0.heap.size = N0)
    (ho : 0 < capOf vr → n0 ≤ br ∧ br ≠ N0 ∧ br ≠ N0 + 1 ∧ br < B ∧ (br < N0 → br = b0)) (hr : RowC W' v' b' m) (hc : (0 < capOf vr ∧ b' = br ∧ Beside [br] W W') ∨ ((0 < capOf v' → W.heap.size ≤ b') ∧ Beside [] W W')) :
    TrW Inv M n0 b0 w0 N0 W' s buf v' m vo [] left sN rN W'.heap.size := by
  have hb := h.big
  have ht := h.top
  have hbs := h.bes
  have key : ∀ S : List Nat, Beside S W W' → (∀ x, x ∈ S → n0 ≤ x ∧ x ≠ N0 ∧ x ≠ N0 + 1 ∧ (x < N0 → x = b0)) → (0 < capOf v' → n0 ≤ b' ∧ b' ≠ N0 ∧ b' ≠ N0 + 1 ∧ (b' < N0 → b' = b0)) → TrW Inv M n0 b0 w0 N0 W' s buf v' m vo [] left sN rN W'.heap.size := by
    intro S g hS hb'
    refine ⟨hI _ _ _ h.inv (g.to_below (by omega) (fun x hx => (hS x hx).1)), (g.block _ (by omega) (fun e => (hS _ e).2.2.1 rfl)).trans h.chan, h.lft.beside g (fun e => (hS _ e).2.1 rfl), ⟨b', hr, fun q => ?_⟩, ?_, h.bare, ⟨g.os.trans hbs.os, g.tape.trans hbs.tape, g.output.trans hbs.output, Nat.le_trans hbs.size g.size, fun k h1 h2 => (g.block k (by omega) (fun e => ?_)).trans (hbs.block k h1 h2)⟩, by have := g.size; omega, Nat.le_refl _⟩
    · obtain ⟨q1, q2, q3, q4⟩ := hb' q
      exact ⟨q1, q2, q3, hr.lt q, q4⟩
    · rw [h.bare rfl]
      exact World.ownsRow_nil _ _ _ _
    · exact h2 (by rw [(hS k e).2.2.2 (by omega)]; exact List.mem_cons_self ..)
  rcases hc with ⟨q, rfl, g⟩ | ⟨q, g⟩
  · obtain ⟨q1, q2, q3, q4, q5⟩ := ho q
    exact key _ g (fun x hx => by rw [List.mem_singleton.1 hx]; exact ⟨q1, q2, q3, q5⟩) (fun _ => ⟨q1, q2, q3, q5⟩)
  · exact key _ g (fun x hx => absurd hx List.not_mem_nil) (fun e => by have := q e; exact ⟨by omega, by omega, by omega, fun e2 => by omega⟩)
end
theorem dcell_one (d : Dv) : ∀ u ∈ ([.int .i64 d.1, .int .i64 d.2.1, .string d.2.2] : List Value), u.oneCell' = true := by
  intro u hu
  simp only [List.mem_cons, List.not_mem_nil, or_false] at hu
  rcases hu with rfl | rfl | rfl <;> rfl
/-- travel's frame between two turns of its loops -/
def TrAct (n : Nat) (now : Int) (N0 : Nat) (vr vo : Value) (a : Act) : Prop := ∃ u3 u4 u5 u10 u11 u12 u14 u15 u16 u17 u18 u19 u20 u21 u22 u23 u24 u25 u26 u27 u28 u29 u30 u31 u32 u33 u34 u35 u36 u37 u38 u39 u40 u41 u42 u43 u44 u45 u46 : Value, a = ({ tmps := #[.pointer (some ⟨n, 0, none⟩), vr, .int .i64 now, u3, u4, u5, .slice none 0 0, vo, .pointer (some ⟨N0, 0, none⟩), .chan (some (N0 + 1)), u10, u11, u12, .chan (some (N0 + 1)), u14, u15, u16, u17, u18, u19, u20, u21, u22, u23, u24, u25, u26, u27, u28, u29, u30, u31, u32, u33, u34, u35, u36, u37, u38, u39, u40, u41, u42, u43, u44, u45, u46], defers := [] } : Act)
/-- between two turns -/
def TrI {σ : Type} (rel : σ → Dv → σ → Bool → List Dv → Prop) (Inv : σ → World → Prop) (M : List Nat) (n n0 b0 : Nat) (now : Int) (w0 : World) (N0 : Nat) (sE : σ) (o : List Dv) (k : Nat) (a : Act) (w : World) : Prop :=
  ∃ (vr vo : Value) (s : σ) (r qb done : List Dv) (left : Int) (sN rN B : Nat), TrAct n now N0 vr vo a ∧ TrW Inv M n0 b0 w0 N0 w s (qb.map dval).toArray vr r vo done left sN rN B ∧ Runs rel s (qb ++ r) done sE o k ∧ done.length + k ≤ 1000 ∧ 1000 + (k : Int) ≤ left ∧ left ≤ 2000
set_option maxRecDepth 100000 in
set_option maxHeartbeats 8000000 in
theorem travel_any {σ : Type} {rel : σ → Dv → σ → Bool → List Dv → Prop} {Inv : σ → World → Prop} {M : List Nat} {n n0 b0 : Nat} {now : Int} (hT : Turns rel n now Inv M n0) (hI : ∀ s W W', Inv s W → Below n0 W W' → Inv s W') (hM : ∀ x, x ∈ M → x < n0)
    {s sE : σ} {q o : List Dv} {k : Nat} (hr : Runs rel s q [] sE o k) (hk : k ≤ 1000) (w : World) (v : Value) (hv : RowC w v b0 q) (hb : 0 < capOf v → n0 ≤ b0) (hn : n0 ≤ w.heap.size) (h : Inv s w) :
    Calls Tryz.prog 83 #[.pointer (some ⟨n, 0, none⟩), v, .int .i64 now] w fun e w' => ∃ v', e = .returned v' ∧ RowIn w' w.heap.size v' o.length (dcells o) ∧ Inv sE w' ∧ Beside (b0 :: M) w w' := by
  have hmc : ∀ W : World, (Instr.makeChan 292 (.int .i64 2000)).run Tryz.prog W = .ok (.chan (some W.heap.size)) (W.alloc (.chan 2000 #[] false 0 0 false)) := by
    obtain ⟨i, hi, hz, hsz, hby⟩ := info_parts tinfo81
    exact fun W => run_makeChan Tryz.underlying292 hi .i64 2000 (by decide) (by rw [hby]; decide)
  have HV := Lib.hid hv
  have HR := Lib.hid hr
  have HH := Lib.hid h
  clear hv hr h
  refine callsN Tryz.func83 rfl ?_
  simp only [Tryz.ntmps83, List.size_toArray, List.length_cons, List.length_nil, Nat.reduceAdd, Nat.reduceSub, Array.replicate_succ, Array.replicate_zero, List.push_toArray, List.append_toArray, List.nil_append, List.cons_append]
  refine wpN_seq (wpN_of_wp ?_)
  go_wp2
  show wpN _ _ _ _ _
  refine wpN_seq (wpN_of_wp ?_)
  go_wp2
  show wpN _ _ _ _ _
  refine wpN_seq (wpN_of_wp ?_)
  go_wp2
  show wpN _ _ _ _ _
  refine wpN_seq (wpN_of_wp ?_)
  go_wp2
  show wpN _ _ _ _ _
  refine wpN_block ?_
  refine wpN_loopI (fun k a W => TrI rel Inv M n n0 b0 now w w.heap.size sE o k a W) (k := k) ?start ?round
  case start =>
    refine ⟨v, .slice none 0 0, s, q, [], [], 2000, 0, 0, w.heap.size + 2, ?_, ⟨hI _ _ _ HH.out ((ball1 (bbox1 _ _) _).mono hn), ?_, (Bx.new w [.int .i64 2000] 3).alloc _, ⟨b0, HV.out.below (ball1 (bbox1 _ _) _), fun hc => ⟨hb hc, ?_, ?_, ?_, fun _ => rfl⟩⟩, World.ownsRow_nil _ _ _ _, fun _ => rfl, .of_below (ball1 (bbox1 _ _) _), Nat.le_refl _, by simp⟩, HR.out, by simpa using hk, by omega, by omega⟩
    · repeat' apply Exists.intro
      rfl
    · have h1 : (w.alloc (.cells #[.int .i64 2000] 3)).heap.size = w.heap.size + 1 := World.size_alloc ..
      rw [← h1]
      exact Array.getElem?_push_size
    · have := HV.out.lt hc; omega
    · have := HV.out.lt hc; omega
    · have := HV.out.lt hc; omega
  case round =>
    rintro k a W ⟨vr, vo, s, r, qb, done, left, sN, rN, B, ⟨u3, u4, u5, u10, u11, u12, u14, u15, u16, u17, u18, u19, u20, u21, u22, u23, u24, u25, u26, u27, u28, u29, u30, u31, u32, u33, u34, u35, u36, u37, u38, u39, u40, u41, u42, u43, u44, u45, u46, rfl⟩, HT0, HR0, hk, hl1, hl2⟩
    refine wpN_block ?_
    refine wpN_scope ?_
    refine wpN_seq (wpN_of_wp ?_)
    go_step3
    show wpN _ _ _ _ _
    refine wpN_seq (wpN_block ?_)
    obtain ⟨q0, hq0⟩ : ∃ q0, qb ++ r = q0 := ⟨_, rfl⟩
    rw [hq0] at HR0
    have hqk : q0.length ≤ k := HR0.len
    refine wpN_loopI (fun j a W => ∃ (vr : Value) (r qb : List Dv) (sN : Nat), TrAct n now w.heap.size vr vo a ∧ TrW Inv M n0 b0 w w.heap.size W s (qb.map dval).toArray vr r vo done left sN rN B ∧ qb ++ r = q0 ∧ r.length = j) (k := r.length) ⟨vr, r, qb, sN, ⟨u3, u4, u5, u10, u11, u12, u14, u15, u16, u17, u18, u19, u20, u21, u22, u23, u24, u25, u26, u27, u28, u29, u30, u31, u32, u33, u34, u35, u36, u37, u38, u39, u40, u41, u42, u43, u44, u45, u46, rfl⟩, HT0, hq0, rfl⟩ ?_
    clear HT0 hq0
    rintro j a W1 ⟨vr, r, qb, sN, ⟨u3, u4, u5, u10, u11, u12, u14, u15, u16, u17, u18, u19, u20, u21, u22, u23, u24, u25, u26, u27, u28, u29, u30, u31, u32, u33, u34, u35, u36, u37, u38, u39, u40, u41, u42, u43, u44, u45, u46, rfl⟩, HT0, hq, hj⟩
    have hzv : (Tryz.prog.info? 81).map (fun i => (i.zero, i.size, i.bytes)) = some (some (.agg #[.int .i64 0, .int .i64 0, .string ⟨#[]⟩]), 3, 32) := tinfo81
    rcases r with _ | ⟨d, r⟩
    case nil =>
      obtain ⟨ao, cp, rfl⟩ : ∃ ao cp, vr = .slice ao 0 cp := by
        obtain ⟨b, ⟨ao, off, cap, rfl, _⟩, _⟩ := HT0.row
        exact ⟨ao, cap, rfl⟩
      rw [List.append_nil] at hq
      subst hq
      have hch := HT0.chan
      have HT1 := Lib.hid HT0
      clear HT0 hj
      refine wpN_seq (wpN_of_wp ?_)
      go_wp2
      show wpN _ _ _ _ _
      refine wpN_seq (wpN_of_wp ?_)
      go_wp2
      show wpN _ _ _ _ _
      rcases qb with _ | ⟨d, qb⟩
      case nil =>
        refine wpN_seq (wpN_sel_none (c := w.heap.size + 1) (z := .agg #[.int .i64 0, .int .i64 0, .string ⟨#[]⟩]) ?hw ?hx hch ?_)
        case hw => rfl
        case hx => simp [execOp, go_sem, rcase]
        cases HR0
        have HO := HT1.out.out
        have HRi := Lib.hid (row_in HO (dcells_len _) (show w.heap.size ≤ B by have := HT1.out.big; omega))
        have HBs := Lib.hid HT1.out.bes
        have HIv := Lib.hid HT1.out.inv
        clear HO
        go_wp2
        show wpN _ _ _ _ _
        refine wpN_of_wp ?_
        go_wp2
        (try rw [Exit.noGoto_ret])
        go_ret
        exact ⟨_, rfl, HRi.out, HIv.out, HBs.out⟩
      case cons =>
        have hget : (List.map dval (d :: qb)).toArray.getD 0 undef = .agg #[.int .i64 d.1, .int .i64 d.2.1, .string d.2.2] := rfl
        have hext : (List.map dval (d :: qb)).toArray.extract 1 (List.map dval (d :: qb)).toArray.size = (List.map dval qb).toArray := by
          apply Array.toList_inj.1
          simp
          exact List.take_of_length_le (by simp)
        refine wpN_seq (wpN_sel_recv (c := w.heap.size + 1) (z := .agg #[.int .i64 0, .int .i64 0, .string ⟨#[]⟩]) ?hw ?hx hch ?hsome ?_)
        case hw => rfl
        case hx => simp [execOp, go_sem, rcase]
        case hsome => simp
        rw [hget, hext]
        have HT2 := Lib.hid (HT1.out.chans hI hn rfl (List.map dval qb).toArray sN (rN + 1))
        clear HT1 hget hext hch
        generalize W1.setChan (w.heap.size + 1) 2000 (List.map dval qb).toArray false sN (rN + 1) false = W2 at HT2 ⊢
        go_wp2
        show wpN _ _ _ _ _
        refine wpN_of_wp ?_
        have HX := Lib.hid (HT2.out.under hI hn (bbox1 W2 (.cells #[.int .i64 d.1, .int .i64 d.2.1, .string d.2.2] 81)))
        have DB := Lib.hid (Bx.new W2 [.int .i64 d.1, .int .i64 d.2.1, .string d.2.2] 81)
        have hs2 : w.heap.size + 2 ≤ W2.heap.size := by have := HT2.out.big; have := HT2.out.top; omega
        have hBt : B ≤ W2.heap.size := HT2.out.top
        have hMd : W2.heap.size ∉ w.heap.size :: M := fun e => by
          rcases List.mem_cons.1 e with e | e
          · omega
          · have := hM _ e; omega
        cases HR0 with
        | @quiet _ s' _ _ c _ _ _ k' h hr =>
          have HTu := Lib.hid (hT _ _ _ _ _ h (W2.alloc (.cells #[.int .i64 d.1, .int .i64 d.2.1, .string d.2.2] 81)) w.heap.size left HX.out.inv HX.out.lft hn (by omega) hl2)
          have HRn := Lib.hid hr
          clear h hr
          rcases c with _ | _
          · have hr2 : Runs rel s' qb done sE o k' := by simpa using HRn.out
            have HRn := Lib.hid hr2
            clear hr2
            go_wp2_with (first
              | (go_at_call 156; (with_reducible refine HTu.out.mono ?_); rintro e W3 ⟨vm, bm, left', rfl, ⟨am, om, cm, rfl, -, -⟩, hi', hc', hl1', hl2', hB'⟩; have HT3 := Lib.hid (HX.out.turned hM hn rfl hi' hB' hc'); clear hi' hc' hB')
              | (at_builtin; obtain ⟨br, hbr, -⟩ := HT3.out.row; refine push_none rfl _ _ rfl (.slice ao 0 cp) am cm br [] rfl rfl hbr ?_))
            refine ⟨k', Nat.lt_succ_self _, .slice ao 0 cp, vo, s', [], qb, done, left', sN, rN + 1, B, ?_, HT3.out, by rw [List.append_nil]; exact HRn.out, by omega, by omega, by omega⟩
            repeat' apply Exists.intro
            rfl
          · have hr2 : Runs rel s' qb (done ++ [d]) sE o k' := by simpa using HRn.out
            have HRn := Lib.hid hr2
            clear hr2
            go_wp2_with (first
              | (go_at_call 156; (with_reducible refine HTu.out.mono ?_); rintro e W3 ⟨vm, bm, left', rfl, ⟨am, om, cm, rfl, -, -⟩, hi', hc', hl1', hl2', hB'⟩; have HT3 := Lib.hid (HX.out.turned hM hn rfl hi' hB' hc'); have DB3 := Lib.hid (DB.out.beside hB' hMd); have e0 := DB3.out.get 0 _ rfl; have e1 := DB3.out.get 1 _ rfl; have e2 := DB3.out.get 2 _ rfl; have hB3 : B ≤ W3.heap.size := HT3.out.top; clear hi' hc' hB')
              | (at_builtin; refine push_any rfl _ _ _ 81 rfl B Tryz.underlying78 tinfo81 rfl (by decide) vo done.length _ [.int .i64 d.1, .int .i64 d.2.1, .string d.2.2] W3.heap.size rfl (HT3.out.out.alloc _) rfl (Bx.new _ _ _) rfl (dcell_one d) (by omega) (by decide) (by rw [World.size_alloc]; omega) ?_; intro v' W5 hown' hgr hB5 hs5; have HT5 := Lib.hid ((HT3.out.under hI hn (bbox1 W3 _)).came hI hn rfl (Nat.le_refl B) (by rw [World.size_alloc]; omega) hown' hB5); clear hown' hgr hB5)
              | (at_builtin; obtain ⟨br, hbr, -⟩ := HT5.out.row; refine push_none rfl _ _ rfl (.slice ao 0 cp) am cm br [] rfl rfl hbr ?_))
            refine ⟨k', Nat.lt_succ_self _, .slice ao 0 cp, v', s', [], qb, done ++ [d], left', sN, rN + 1, B, ?_, HT5.out, by rw [List.append_nil]; exact HRn.out, by rw [List.length_append, List.length_singleton]; omega, by omega, by omega⟩
            repeat' apply Exists.intro
            rfl
        | @more _ s' _ _ m _ _ k' h hm hr =>
          have HTu := Lib.hid (hT _ _ _ _ _ h (W2.alloc (.cells #[.int .i64 d.1, .int .i64 d.2.1, .string d.2.2] 81)) w.heap.size left HX.out.inv HX.out.lft hn (by omega) hl2)
          have HRn := Lib.hid hr
          clear h hr
          go_wp2_with (first
              | (go_at_call 156; (with_reducible refine HTu.out.mono ?_); rintro e W3 ⟨vm, bm, left', rfl, hm3, hi', hc', hl1', hl2', hB'⟩; have HT3 := Lib.hid (HX.out.turned hM hn rfl hi' hB' hc'); have HM3 := Lib.hid hm3; clear hi' hc' hB' hm3)
              | (at_builtin; obtain ⟨br, hbr, hbo⟩ := HT3.out.row; refine push_rows rfl _ _ rfl (.slice ao 0 cp) vm br bm m rfl rfl hbr HM3.out (by omega) ?_; intro v' W5 b5 hr5 hc5; have HT5 := Lib.hid (HT3.out.rowed hI hn rfl hbo hr5 hc5); clear hr5 hc5 hbr hbo))
          refine ⟨k', Nat.lt_succ_self _, v', vo, s', m, qb, [], left', sN, rN + 1, W5.heap.size, ?_, HT5.out, HRn.out, by simp at hk ⊢; omega, by omega, by omega⟩
          repeat' apply Exists.intro
          rfl
    case cons =>
      obtain ⟨b, off, cap, ao, rfl, c0, c1, c2, hcut, HTc⟩ := HT0.cut
      have hch := HTc.chan
      obtain ⟨bf, hbf⟩ : ∃ bf, bf = ((qb ++ [d]).map dval).toArray := ⟨_, rfl⟩
      have HBf := Lib.hid hbf
      have HT1 := Lib.hid (HTc.chans hI hn rfl bf (sN + 1) rN)
      clear HT0 HTc
      refine wpN_seq (wpN_of_wp ?_)
      go_wp2
      show wpN _ _ _ _ _
      refine wpN_block ?_
      refine wpN_seq (wpN_of_wp ?_)
      go_wp2
      show wpN _ _ _ _ _
      have hpush : ((qb.map dval).toArray.push (dval d)) = bf := by rw [hbf]; simp
      clear hbf
      refine wpN_seq (wpN_sel_send (c := w.heap.size + 1) (v := dval d) (z := .agg #[.int .i64 0, .int .i64 0, .string ⟨#[]⟩]) ?hw ?hx hch ?hroom ?_)
      case hw => rfl
      case hx => simp [execOp, go_sem, scase, dval]
      case hroom =>
        rw [List.size_toArray, List.length_map]
        rw [← hq] at hqk
        simp at hqk
        omega
      rw [hpush]
      go_wp2
      show wpN _ _ _ _ _
      refine wpN_block ?_
      refine wpN_of_wp ?_
      go_wp2
      refine ⟨r.length, by rw [← hj]; exact Nat.lt_succ_self _, .slice ao r.length (cap - 1), r, qb ++ [d], sN + 1, ?_, HBf.out ▸ HT1.out, by rw [List.append_assoc]; exact hq, rfl⟩
      repeat' apply Exists.intro
      rfl
end Go.Proofs.YticdmepplfgdiaaGreatDoor
