/-
  The walks of chapter 04's laws 'Ipv4Decodes' and 'Ipv4Alerts', and of what all of them ask at last: each returns true and leaves what was there alone. Conditions: a text's length lies within the form's own reach.
-/
import Derived.Test.YtoljmeemejmjfaaV4Law
import Derived.Test.YtoljmeemejmjfaaRV4Dec
namespace Go.Proofs.Ytoljmeemejmjfaa
open Go.RowKit

def abcdT : ByteArray := ⟨#[97, 98, 99, 100]⟩
def efghT : ByteArray := ⟨#[101, 102, 103, 104]⟩
def noneT : ByteArray := ⟨#[]⟩
def xT : ByteArray := ⟨#[120]⟩
def behindT : ByteArray := ⟨#[98, 101, 104, 105, 110, 100]⟩

set_option maxRecDepth 100000 in
set_option maxHeartbeats 1000000 in
theorem live04 (w : World) : Calls Try.prog 12 #[] w fun e w' => e = .returned (.bool true) ∧ Below w.heap.size w w' := by
  obtain ⟨d0, d1, hf, hsum⟩ := V4.filled_pre 0 0 0 0 0 0 abcdT.data.toList efghT.data.toList noneT.data.toList xT.size rfl rfl
  obtain ⟨L, hL⟩ : ∃ L : ByteArray, L = Cs.filled ⟨#[]⟩ ⟨(V4.pre 0 0 0 0 0 0 abcdT.data.toList efghT.data.toList noneT.data.toList xT.size).toArray⟩ 10 ++ xT := ⟨_, rfl⟩
  obtain ⟨M, hM⟩ : ∃ M : ByteArray, L ++ behindT = M := ⟨_, rfl⟩
  have hE : Enc4 0 0 0 ⟨#[97, 98, 99, 100]⟩ ⟨#[101, 102, 103, 104]⟩ ⟨#[]⟩ ⟨#[120]⟩ L 0 := by
    rw [hL]; exact enc4_ok 0 0 0 abcdT efghT noneT xT rfl rfl (by decide) (by decide) (by decide) (by decide) (by decide) (by decide)
  have dL : L.data.toList = V4.pre 0 0 0 0 d0 d1 abcdT.data.toList efghT.data.toList noneT.data.toList xT.size ++ xT.data.toList := by rw [hL, hf, data_add]
  have hs : L.size = 21 := by rw [← size_toList, dL, List.length_append, V4.pre_length _ _ _ _ _ _ _ _ _ _ rfl rfl]; rfl
  have hMs : M.size = 27 := by rw [← hM, size_add, hs]; rfl
  have hD : Dec4 M (v4 0 0 0 ⟨#[97, 98, 99, 100]⟩ ⟨#[101, 102, 103, 104]⟩ ⟨#[]⟩ ⟨#[120]⟩) 0 :=
    dec4_enc M abcdT efghT noneT xT 0 d0 d1 0 0 0 behindT.data.toList rfl rfl (by decide) (by decide) (by decide) (by decide) (by decide) (by decide) (by rw [← hM, data_add, dL]) hsum (by omega)
  have hA : Alerts ⟨#[148, 4, 0, 0]⟩ true 0 := fun w => alert_any ⟨#[148, 4, 0, 0]⟩ (by decide) true 0 (by
    show Al.tell [148, 4, 0, 0] false = (true, 0)
    rw [Al.tell.eq_def]
    show Al.tell [] true = (true, 0)
    rw [Al.tell.eq_def]) w
  have hB : Alerts ⟨#[148, 1]⟩ false 3 := fun w => alert_any ⟨#[148, 1]⟩ (by decide) false 3 (by
    show Al.tell [148, 1] false = (false, 3)
    rw [Al.tell.eq_def]
    rfl) w
  have hN : Dec4 ⟨#[]⟩ zeroV4 2 := dec4_cut ⟨#[]⟩ (by decide)
  have j1 := join2 L ⟨#[98, 101, 104, 105, 110, 100]⟩ (by rw [hs]; decide)
  rw [show (L ++ ⟨#[98, 101, 104, 105, 110, 100]⟩ : ByteArray) = M from hM] at j1
  unfold v4 at hD
  unfold zeroV4 at hN
  clear hL hM dL hf hsum hMs
  go_enter Try.func12, Try.ntmps12
  go_wp2_with (first | ((with_reducible refine (hA.to _).mono ?_); rintro e w1 ⟨rfl, g1⟩) | ((with_reducible refine (hB.to _).mono ?_); rintro e w2 ⟨rfl, g2⟩) | ((with_reducible refine (hE.to _).mono ?_); rintro e w3 ⟨rfl, g3⟩) | ((with_reducible refine (hD.to _).mono ?_); rintro e w4 ⟨rfl, g4⟩) | ((with_reducible refine (hN.to _).mono ?_); rintro e w5 ⟨rfl, g5⟩; obtain ⟨y1, c0, c1, c2, c3, c4, c5, c6, cf⟩ := (Box7.new _ _ _ _ _ _ _ _ _).below g5))
  go_ret
  exact ⟨rfl, ball (bstep (ball (bstep (bstep (bstep g1 g2) g3) g4) _) g5) _⟩

def RDec4 (s : ByteArray) (v : Value) (x : Int) : Prop :=
  ∀ w : World, Calls Try.prog 11 #[.string s] w fun e w' => e = .returned (.tuple #[v, .int .i64 x]) ∧ Below w.heap.size w w'
theorem RDec4.to {s : ByteArray} {v : Value} {x : Int} (h : RDec4 s v x) (w : World) : Calls Try.prog 11 #[.string s] w fun e w' => e = .returned (.tuple #[v, .int .i64 x]) ∧ Below w.heap.size w w' := h w

theorem v4case_total (s : ByteArray) (n : Nat) : ∃ id ttl pr src dst opts data e0, V4Case s n (v4 id ttl pr src dst opts data) e0 := by
  by_cases h1 : b1 s 0 / 16 ≠ 4 ∨ 4 * n < 20
  · exact ⟨0, 0, 0, ⟨#[]⟩, ⟨#[]⟩, ⟨#[]⟩, ⟨#[]⟩, 3, .inl ⟨h1, rfl, rfl⟩⟩
  · have g1 : b1 s 0 / 16 = 4 := by omega
    have g2 : 20 ≤ 4 * n := by omega
    by_cases h2 : s.size < 4 * n
    · exact ⟨0, 0, 0, ⟨#[]⟩, ⟨#[]⟩, ⟨#[]⟩, ⟨#[]⟩, 2, .inr (.inl ⟨g1, g2, h2, rfl, rfl⟩)⟩
    · have g3 : 4 * n ≤ s.size := by omega
      by_cases h3 : Cs.sum (s.extract 0 (4 * n)).data.toList = 0
      · by_cases h4 : w2 s 2 < 4 * n
        · exact ⟨0, 0, 0, ⟨#[]⟩, ⟨#[]⟩, ⟨#[]⟩, ⟨#[]⟩, 3, .inr (.inr ⟨g1, g2, g3, _, rfl, .inr ⟨h3, .inl ⟨h4, rfl, rfl⟩⟩⟩)⟩
        · by_cases h5 : s.size < w2 s 2
          · exact ⟨0, 0, 0, ⟨#[]⟩, ⟨#[]⟩, ⟨#[]⟩, ⟨#[]⟩, 2, .inr (.inr ⟨g1, g2, g3, _, rfl, .inr ⟨h3, .inr (.inl ⟨Nat.le_of_not_lt h4, h5, rfl, rfl⟩)⟩⟩)⟩
          · by_cases h6 : w2 s 6 = 0 ∨ w2 s 6 = 16384
            · exact ⟨_, _, _, _, _, _, _, 0, .inr (.inr ⟨g1, g2, g3, _, rfl, .inr ⟨h3, .inr (.inr (.inr ⟨Nat.le_of_not_lt h4, Nat.le_of_not_lt h5, h6, _, _, _, _, rfl, rfl, rfl, rfl, rfl, rfl⟩))⟩⟩)⟩
            · exact ⟨0, 0, 0, ⟨#[]⟩, ⟨#[]⟩, ⟨#[]⟩, ⟨#[]⟩, 3, .inr (.inr ⟨g1, g2, g3, _, rfl, .inr ⟨h3, .inr (.inr (.inl ⟨Nat.le_of_not_lt h4, Nat.le_of_not_lt h5, fun e => h6 (.inl e), fun e => h6 (.inr e), rfl, rfl⟩))⟩⟩)⟩
      · exact ⟨0, 0, 0, ⟨#[]⟩, ⟨#[]⟩, ⟨#[]⟩, ⟨#[]⟩, 4, .inr (.inr ⟨g1, g2, g3, _, rfl, .inl ⟨h3, rfl, rfl⟩⟩)⟩

theorem both4 (s : ByteArray) (hl : s.size ≤ 140737488351232) : ∃ id ttl pr src dst opts data e0, Dec4 s (v4 id ttl pr src dst opts data) e0 ∧ RDec4 s (v4 id ttl pr src dst opts data) e0 := by
  by_cases hs : s.size < 20
  · exact ⟨0, 0, 0, ⟨#[]⟩, ⟨#[]⟩, ⟨#[]⟩, ⟨#[]⟩, 2, fun w => v4dec_cut s hs w, fun w => rv4dec_cut s hs w⟩
  · obtain ⟨id, ttl, pr, src, dst, opts, data, e0, hc⟩ := v4case_total s (b1 s 0 % 16)
    exact ⟨id, ttl, pr, src, dst, opts, data, e0, fun w => v4dec_in s _ _ _ (by omega) (by omega) rfl hc w, fun w => rv4dec_in s _ _ _ (by omega) (by omega) rfl hc w⟩

set_option maxRecDepth 100000 in
set_option maxHeartbeats 1000000 in
theorem v4decodes_walk (s : ByteArray) (hs : s.size ≤ 140737488351232) (w : World) :
    Calls Try.prog 3 #[.string s] w fun e w' => e = .returned (.bool true) ∧ Below w.heap.size w w' := by
  obtain ⟨id, ttl, pr, src, dst, opts, data, e0, hD, hR⟩ := both4 s hs
  unfold v4 at hD hR
  have HL := Lib.hid live04
  clear hs
  go_enter Try.func3, Try.ntmps3
  go_wp2_with (first | ((with_reducible refine (hD.to _).mono ?_); rintro e w2 ⟨rfl, g2⟩) | ((with_reducible refine (hR.to _).mono ?_); rintro e w3 ⟨rfl, g3⟩; obtain ⟨y1, c0, c1, c2, c3, c4, c5, c6, cf⟩ := (Box7.new _ _ _ _ _ _ _ _ _).below g3) | ((with_reducible refine (HL.out _).mono ?_); rintro e w4 ⟨rfl, g4⟩))
  go_ret
  exact ⟨rfl, bstep (ball (bstep (ball g2 _) g3) _) g4⟩

set_option maxRecDepth 100000 in
set_option maxHeartbeats 1000000 in
theorem v4alerts_walk (s : ByteArray) (hs : s.size ≤ 140737488351232) (w : World) :
    Calls Try.prog 5 #[.string s] w fun e w' => e = .returned (.bool true) ∧ Below w.heap.size w w' := by
  obtain ⟨⟨v, x⟩, hv⟩ : ∃ p, Al.tell s.data.toList false = p := ⟨_, rfl⟩
  have hO : Alerts s v x := fun w => alert_any s (by omega) v x hv w
  have hR : RAlerts s v x := fun w => ralert_any s (by omega) v x hv w
  have HL := Lib.hid live04
  clear hs hv
  go_enter Try.func5, Try.ntmps5
  go_wp2_with (first | ((with_reducible refine (hO.to _).mono ?_); rintro e w2 ⟨rfl, g2⟩) | ((with_reducible refine (hR.to _).mono ?_); rintro e w3 ⟨rfl, g3⟩) | ((with_reducible refine (HL.out _).mono ?_); rintro e w4 ⟨rfl, g4⟩))
  go_ret
  exact ⟨rfl, bstep (bstep g2 g3) g4⟩
end Go.Proofs.Ytoljmeemejmjfaa
