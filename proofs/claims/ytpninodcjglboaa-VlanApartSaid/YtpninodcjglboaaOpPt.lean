/-
  A slice of ports that comes in, opened: its ports. Conditions: none.
-/
import Derived.Test.YtpninodcjglboaaRows
import Derived.Test.YtpninodcjglboaaVCheck
import Derived.OpenShut
import Derived.ChangeArms
import Derived.ChangeSlices
import Derived.Deep.Slices
import Derived.WideShapes
import Derived.WalkKit
import Derived.ProofKit
import Derived.ShutString
import Derived.ChangeOld
import Derived.SizedLaws
import Derived.Lib.SmallJoins
namespace Go.Proofs.Ytpninodcjglboaa
open Go.ChangeShapes Go.WideShapes Go.ChangeAt Go.RowKit Go.Joins

section
variable {H : Type} {enc : TypeId × Value → H} {w : World}

/-- a slice of ints -/
theorem open_list {fuel : Nat} {v : Value} {x : DataW H × List MemPlace} (h : DataW.trod enc Try.prog w 0 (fun _ => true) true fuel 32 [v] = some x) :
    ∃ (a : Option Addr) (cap : Nat) (l : List Int), v = .slice a l.length cap ∧ Ints w v l ∧ l.length ≤ maxLen := by
  rcases open_ints Try.underlying32 Try.underlying3 (by kernel_rfl) h with ⟨hc, _⟩ | ⟨a, len, cap, zs, hc, _, hl, hm, hz, _, hcell, _⟩
  · obtain rfl := List.head_eq_of_cons_eq hc
    exact ⟨none, 0, [], rfl, ⟨none, 0, rfl, .inl rfl⟩, Nat.zero_le _⟩
  · obtain rfl := List.head_eq_of_cons_eq hc
    simp only [if_true] at hz
    have hlen : (zs.take len).length = len := by rw [List.length_take]; omega
    refine ⟨some a, cap, zs.take len, by rw [hlen], ⟨some a, cap, by rw [hlen], ?_⟩, by rw [hlen]; omega⟩
    rcases Nat.eq_zero_or_pos len with h0 | hp
    · exact .inl (List.length_eq_zero_iff.1 (by rw [hlen]; exact h0))
    · right
      obtain ⟨b, o, spot⟩ := a
      have hspot : spot = none := by simpa [Addr.add] using World.cell?_spot (hcell 0 (by omega))
      subst hspot
      refine ⟨b, o, rfl, World.block_lt_of_cell? w _ (hcell 0 (by omega)), fun i hi => ?_⟩
      rw [hlen] at hi
      have h1 := hcell i (by omega)
      rw [add_plain] at h1
      rw [h1, List.getD_eq_getElem?_getD, List.getD_eq_getElem?_getD, List.getElem?_take, if_pos hi]

/-- one port -/
theorem open_pt {fuel : Nat} {cs : List Value} {x : DataW H × List MemPlace} (hsz : cs.length = 3) (h : DataW.trod enc Try.prog w 0 (fun _ => true) true fuel 34 cs = some x) :
    ∃ y : Pt, cs = [.int .i64 y.d, .slice y.ta y.t.length y.tc, .slice y.pa y.p.length y.pc] ∧ Ints w (.slice y.ta y.t.length y.tc) y.t ∧ Ints w (.slice y.pa y.p.length y.pc) y.p ∧ y.t.length ≤ maxLen ∧ y.p.length ≤ maxLen := by
  match cs, hsz with
  | [c0, c1, c2], _ =>
    obtain ⟨xs, n, _, hx, _, hlen, hg⟩ := DataW.trod_struct Try.underlying34 h
    have e0 : Try.prog.cellsOf 3 = 1 := by kernel_rfl
    have e1 : Try.prog.cellsOf 32 = 1 := by kernel_rfl
    match xs, hlen with
    | [y0, y1, y2], _ =>
      have g0 : DataW.trod enc Try.prog w 0 (fun _ => true) true n 3 [c0] = some y0 := by simpa [Value.cells, e0, e1] using hg 0 _ rfl
      have g1 : DataW.trod enc Try.prog w 0 (fun _ => true) true n 32 [c1] = some y1 := by simpa [Value.cells, e0, e1] using hg 1 _ rfl
      have g2 : DataW.trod enc Try.prog w 0 (fun _ => true) true n 32 [c2] = some y2 := by simpa [Value.cells, e0, e1] using hg 2 _ rfl
      obtain ⟨d, q0, _, _⟩ := DataW.trod_int (k := .i64) (by kernel_rfl) g0
      obtain rfl := List.head_eq_of_cons_eq q0
      obtain ⟨ta, tc, t, rfl, it, lt⟩ := open_list g1
      obtain ⟨pa, pc, p, rfl, ip, lp⟩ := open_list g2
      exact ⟨⟨d, t, p, ta, tc, pa, pc⟩, rfl, it, ip, lt, lp⟩

theorem open_ports {r : Reach} {b0 : Nat} {v : Value} {d : DataW H} {q : List MemPlace} (hv : Value.okWide Try.prog w r b0 22 v) (h : DataW.Trod enc Try.prog w 0 (fun _ => true) true 22 v d q) : ∃ ps, Ports w v ps := by
  obtain ⟨a, len, cap, rfl⟩ := okWide_slice Try.underlying22 hv
  obtain ⟨fuel, hf⟩ := h
  rcases Go.Deep.open_slice Try.underlying22 hf with ⟨hc, _⟩ | ⟨a', len', cap', m, n, D, Pl, hc, _, hl, hm, hmm, _, hx⟩
  · have hc2 := List.head_eq_of_cons_eq hc
    cases hc2
    exact ⟨[], none, 0, rfl, Nat.zero_le _, by simp, .inl rfl⟩
  · have hc2 := List.head_eq_of_cons_eq hc
    cases hc2
    simp only [if_true] at hmm
    subst hmm
    have e3 : Try.prog.cellsOf 34 = 3 := by kernel_rfl
    have each : ∀ i, i < len → ∃ y : Pt, (∃ cs', w.cells? 0 (a'.add (i * 3)) 3 = some cs' ∧ cs' = [.int .i64 y.d, .slice y.ta y.t.length y.tc, .slice y.pa y.p.length y.pc]) ∧ Ints w (.slice y.ta y.t.length y.tc) y.t ∧ Ints w (.slice y.pa y.p.length y.pc) y.p ∧ y.t.length ≤ maxLen ∧ y.p.length ≤ maxLen := by
      intro i hi
      obtain ⟨cs', h1, h2⟩ := hx i (by omega)
      rw [e3] at h1
      obtain ⟨_, hlen, _⟩ := World.cells?_some h1
      obtain ⟨y, hy, k1, k2, k3, k4⟩ := open_pt hlen h2
      exact ⟨y, ⟨cs', h1, hy⟩, k1, k2, k3, k4⟩
    let ps : List Pt := (List.range len).attach.map fun i => Classical.choose (each i.1 (List.mem_range.1 i.2))
    have hpl : ps.length = len := by simp [ps]
    have hps : ∀ i (hi : i < len), ps[i]? = some (Classical.choose (each i hi)) := fun i hi => by
      simp [ps, hi]
    have hmax : maxLen ≤ 9223372036854775807 := by decide
    refine ⟨ps, some a', _, by rw [hpl], by rw [hpl]; omega, ?_, ?_⟩
    · intro x hxm
      obtain ⟨i, hi⟩ := List.getElem?_of_mem hxm
      have hil : i < len := by rw [← hpl]; exact (List.getElem?_eq_some_iff.1 hi).1
      rw [hps i hil] at hi
      obtain rfl := Option.some.inj hi
      obtain ⟨_, k1, k2, k3, k4⟩ := Classical.choose_spec (each i hil)
      exact ⟨k1, k2, by omega, by omega⟩
    · rcases Nat.eq_zero_or_pos len with h0 | hp
      · exact .inl (List.length_eq_zero_iff.1 (by rw [hpl]; exact h0))
      · right
        obtain ⟨b, o, spot⟩ := a'
        have c0 : ∀ i (hi : i < len) j, j < 3 → w.cell? ((⟨b, o, spot⟩ : Addr).add (i * 3 + j)) = [.int .i64 (Classical.choose (each i hi)).d, .slice (Classical.choose (each i hi)).ta (Classical.choose (each i hi)).t.length (Classical.choose (each i hi)).tc, .slice (Classical.choose (each i hi)).pa (Classical.choose (each i hi)).p.length (Classical.choose (each i hi)).pc][j]? := by
          intro i hi j hj
          obtain ⟨⟨cs', h1, h2⟩, _⟩ := Classical.choose_spec (each i hi)
          obtain ⟨_, hlen, hcell⟩ := World.cells?_some h1
          have h3 := hcell j hj
          rw [Addr.add_add] at h3
          rw [h3, ← h2, List.getElem?_eq_getElem (by omega)]
        have hspot : spot = none := by
          have h1 := c0 0 hp 0 (by decide)
          simpa [Addr.add] using World.cell?_spot h1
        subst hspot
        refine ⟨b, o, rfl, World.block_lt_of_cell? w _ (c0 0 hp 0 (by decide)), fun i x hix => ?_⟩
        have hil : i < len := by rw [← hpl]; exact (List.getElem?_eq_some_iff.1 hix).1
        rw [hps i hil] at hix
        obtain rfl := Option.some.inj hix
        have g0 := c0 i hil 0 (by decide)
        have g1 := c0 i hil 1 (by decide)
        have g2 := c0 i hil 2 (by decide)
        rw [add_plain] at g0 g1 g2
        exact ⟨g0, g1, g2⟩
end
end Go.Proofs.Ytpninodcjglboaa
