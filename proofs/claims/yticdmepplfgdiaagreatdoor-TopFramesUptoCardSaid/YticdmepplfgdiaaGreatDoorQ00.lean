/-
  A value of type api.Frame that comes in, opened: its cells. Conditions: none. A value of type api.V4 that comes in, opened: its cells. Conditions: none. Plain laws on numbers in bytes, with no program in sight: 'num' (the number of some bytes, the greatest first) and 'be' (the bytes of a number). Conditions: none. The tree's messages in bytes, with no program in sight. Conditions: none. Plain laws on the Internet's sums, with no program in sight: a text's words, their sum by ones' addition. Conditions: none. Ethernet frames in bytes, with no program in sight. Conditions: none. Plain laws on the tree's messages, with no program in sight: what was encoded is decoded, whatever stands behind it. Conditions: those of each law. A text with its sum put in, with no program in sight. Conditions: none. Plain laws on the Internet's sums, with no program in sight: a text with its sum put in is right, and has it put in again; the order of words turns nothing; a bit turns the sum. Conditions: those of each law.
-/
import Derived.Test.YticdmepplfgdiaaGreatDoorRows
import Derived.OpenShut
import Derived.ChangeArms
import Derived.WideShapes
import Derived.WalkKit
import Derived.ProofKit
import Derived.ShutString
import Derived.ChangeOld
import Derived.SizedLaws
import Derived.Lib.SmallJoins
set_option linter.unusedVariables false
set_option linter.unusedSimpArgs false
section
namespace Go.Proofs.YticdmepplfgdiaaGreatDoor
open Go.ChangeShapes Go.WideShapes Go.ChangeAt Go.RowKit Go.Joins
section
variable {H : Type} {enc : TypeId × Value → H} {w : World} {base : Nat} {spare : Nat → Bool} {held : Bool}
set_option maxRecDepth 100000 in
/-- the cells of such a value -/
theorem open_frame_cells {fuel : Nat} {cs : List Value} {x : DataW H × List MemPlace} (hsz : cs.length = 7) (h : DataW.trod enc Tryz.prog w base spare held fuel 47 cs = some x) :
    ∃ (a0 : ByteArray) (a1 : ByteArray) (a2 : Bool) (a3 : Int) (a4 : Int) (a5 : Int) (a6 : ByteArray), cs = [.string a0, .string a1, .bool a2, .int .i64 a3, .int .i64 a4, .int .i64 a5, .string a6] ∧ x.1 = .agg [.lit (.string a0.data.toList), .lit (.string a1.data.toList), .lit (.bool a2), .lit (.int .i64 a3), .lit (.int .i64 a4), .lit (.int .i64 a5), .lit (.string a6.data.toList)] ∧ (Lit.int .i64 a3).wf = true ∧ (Lit.int .i64 a4).wf = true ∧ (Lit.int .i64 a5).wf = true := by
  match cs, hsz with
  | [c0, c1, c2, c3, c4, c5, c6], _ =>
    obtain ⟨xs, n, _, hx, _, hlen, hg⟩ := DataW.trod_struct Tryz.underlying47 h
    have e0 : Tryz.prog.cellsOf 45 = 1 := by kernel_rfl
    have e1 : Tryz.prog.cellsOf 4 = 1 := by kernel_rfl
    have e2 : Tryz.prog.cellsOf 3 = 1 := by kernel_rfl
    have e3 : Tryz.prog.cellsOf 9 = 1 := by kernel_rfl
    match xs, hlen with
    | [y0, y1, y2, y3, y4, y5, y6], _ =>
      have g0 : DataW.trod enc Tryz.prog w base spare held n 45 [c0] = some y0 := by simpa [Value.cells, e0, e1, e2, e3] using hg 0 _ rfl
      have g1 : DataW.trod enc Tryz.prog w base spare held n 45 [c1] = some y1 := by simpa [Value.cells, e0, e1, e2, e3] using hg 1 _ rfl
      have g2 : DataW.trod enc Tryz.prog w base spare held n 4 [c2] = some y2 := by simpa [Value.cells, e0, e1, e2, e3] using hg 2 _ rfl
      have g3 : DataW.trod enc Tryz.prog w base spare held n 3 [c3] = some y3 := by simpa [Value.cells, e0, e1, e2, e3] using hg 3 _ rfl
      have g4 : DataW.trod enc Tryz.prog w base spare held n 3 [c4] = some y4 := by simpa [Value.cells, e0, e1, e2, e3] using hg 4 _ rfl
      have g5 : DataW.trod enc Tryz.prog w base spare held n 3 [c5] = some y5 := by simpa [Value.cells, e0, e1, e2, e3] using hg 5 _ rfl
      have g6 : DataW.trod enc Tryz.prog w base spare held n 9 [c6] = some y6 := by simpa [Value.cells, e0, e1, e2, e3] using hg 6 _ rfl
      obtain ⟨a0, q0, d0, _⟩ := DataW.trod_string (by kernel_rfl) g0
      obtain ⟨a1, q1, d1, _⟩ := DataW.trod_string (by kernel_rfl) g1
      obtain ⟨a2, q2, d2⟩ := DataW.trod_bool (by kernel_rfl) g2
      obtain ⟨a3, q3, d3, w3⟩ := DataW.trod_int (k := .i64) (by kernel_rfl) g3
      obtain ⟨a4, q4, d4, w4⟩ := DataW.trod_int (k := .i64) (by kernel_rfl) g4
      obtain ⟨a5, q5, d5, w5⟩ := DataW.trod_int (k := .i64) (by kernel_rfl) g5
      obtain ⟨a6, q6, d6, _⟩ := DataW.trod_string (by kernel_rfl) g6
      obtain rfl := List.head_eq_of_cons_eq q0
      obtain rfl := List.head_eq_of_cons_eq q1
      obtain rfl := List.head_eq_of_cons_eq q2
      obtain rfl := List.head_eq_of_cons_eq q3
      obtain rfl := List.head_eq_of_cons_eq q4
      obtain rfl := List.head_eq_of_cons_eq q5
      obtain rfl := List.head_eq_of_cons_eq q6
      refine ⟨a0, a1, a2, a3, a4, a5, a6, rfl, ?_, w3, w4, w5⟩
      rw [hx]
      show DataW.agg [y0.1, y1.1, y2.1, y3.1, y4.1, y5.1, y6.1] = _
      rw [d0, d1, d2, d3, d4, d5, d6]
set_option maxRecDepth 100000 in
theorem open_frame {r : Reach} {b0 : Nat} {v : Value} {d : DataW H} {q : List MemPlace} (hv : Value.okWide Tryz.prog w r b0 47 v) (h : DataW.Trod enc Tryz.prog w base spare held 47 v d q) :
    ∃ (a0 : ByteArray) (a1 : ByteArray) (a2 : Bool) (a3 : Int) (a4 : Int) (a5 : Int) (a6 : ByteArray), v = .agg #[.string a0, .string a1, .bool a2, .int .i64 a3, .int .i64 a4, .int .i64 a5, .string a6] ∧ d = .agg [.lit (.string a0.data.toList), .lit (.string a1.data.toList), .lit (.bool a2), .lit (.int .i64 a3), .lit (.int .i64 a4), .lit (.int .i64 a5), .lit (.string a6.data.toList)] ∧ (Lit.int .i64 a3).wf = true ∧ (Lit.int .i64 a4).wf = true ∧ (Lit.int .i64 a5).wf = true := by
  obtain ⟨cs, rfl, hsz⟩ := okWide_struct Tryz.underlying47 hv
  obtain ⟨fuel, hf⟩ := h
  obtain ⟨l⟩ := cs
  obtain ⟨a0, a1, a2, a3, a4, a5, a6, rfl, hd, hw⟩ := open_frame_cells (hsz.trans (show Tryz.prog.cellsOf 47 = 7 by kernel_rfl)) hf
  exact ⟨a0, a1, a2, a3, a4, a5, a6, rfl, hd, hw⟩
end
end Go.Proofs.YticdmepplfgdiaaGreatDoor
end
section
namespace Go.Proofs.YticdmepplfgdiaaGreatDoor
open Go.ChangeShapes Go.WideShapes Go.ChangeAt Go.RowKit Go.Joins
section
variable {H : Type} {enc : TypeId × Value → H} {w : World} {base : Nat} {spare : Nat → Bool} {held : Bool}
set_option maxRecDepth 100000 in
/-- the cells of such a value -/
theorem open_v4_cells {fuel : Nat} {cs : List Value} {x : DataW H × List MemPlace} (hsz : cs.length = 7) (h : DataW.trod enc Tryz.prog w base spare held fuel 49 cs = some x) :
    ∃ (a0 : Int) (a1 : Int) (a2 : Int) (a3 : ByteArray) (a4 : ByteArray) (a5 : ByteArray) (a6 : ByteArray), cs = [.int .i64 a0, .int .i64 a1, .int .i64 a2, .string a3, .string a4, .string a5, .string a6] ∧ x.1 = .agg [.lit (.int .i64 a0), .lit (.int .i64 a1), .lit (.int .i64 a2), .lit (.string a3.data.toList), .lit (.string a4.data.toList), .lit (.string a5.data.toList), .lit (.string a6.data.toList)] ∧ (Lit.int .i64 a0).wf = true ∧ (Lit.int .i64 a1).wf = true ∧ (Lit.int .i64 a2).wf = true := by
  match cs, hsz with
  | [c0, c1, c2, c3, c4, c5, c6], _ =>
    obtain ⟨xs, n, _, hx, _, hlen, hg⟩ := DataW.trod_struct Tryz.underlying49 h
    have e0 : Tryz.prog.cellsOf 3 = 1 := by kernel_rfl
    have e1 : Tryz.prog.cellsOf 25 = 1 := by kernel_rfl
    have e2 : Tryz.prog.cellsOf 9 = 1 := by kernel_rfl
    match xs, hlen with
    | [y0, y1, y2, y3, y4, y5, y6], _ =>
      have g0 : DataW.trod enc Tryz.prog w base spare held n 3 [c0] = some y0 := by simpa [Value.cells, e0, e1, e2] using hg 0 _ rfl
      have g1 : DataW.trod enc Tryz.prog w base spare held n 3 [c1] = some y1 := by simpa [Value.cells, e0, e1, e2] using hg 1 _ rfl
      have g2 : DataW.trod enc Tryz.prog w base spare held n 3 [c2] = some y2 := by simpa [Value.cells, e0, e1, e2] using hg 2 _ rfl
      have g3 : DataW.trod enc Tryz.prog w base spare held n 25 [c3] = some y3 := by simpa [Value.cells, e0, e1, e2] using hg 3 _ rfl
      have g4 : DataW.trod enc Tryz.prog w base spare held n 25 [c4] = some y4 := by simpa [Value.cells, e0, e1, e2] using hg 4 _ rfl
      have g5 : DataW.trod enc Tryz.prog w base spare held n 9 [c5] = some y5 := by simpa [Value.cells, e0, e1, e2] using hg 5 _ rfl
      have g6 : DataW.trod enc Tryz.prog w base spare held n 9 [c6] = some y6 := by simpa [Value.cells, e0, e1, e2] using hg 6 _ rfl
      obtain ⟨a0, q0, d0, w0⟩ := DataW.trod_int (k := .i64) (by kernel_rfl) g0
      obtain ⟨a1, q1, d1, w1⟩ := DataW.trod_int (k := .i64) (by kernel_rfl) g1
      obtain ⟨a2, q2, d2, w2⟩ := DataW.trod_int (k := .i64) (by kernel_rfl) g2
      obtain ⟨a3, q3, d3, _⟩ := DataW.trod_string (by kernel_rfl) g3
      obtain ⟨a4, q4, d4, _⟩ := DataW.trod_string (by kernel_rfl) g4
      obtain ⟨a5, q5, d5, _⟩ := DataW.trod_string (by kernel_rfl) g5
      obtain ⟨a6, q6, d6, _⟩ := DataW.trod_string (by kernel_rfl) g6
      obtain rfl := List.head_eq_of_cons_eq q0
      obtain rfl := List.head_eq_of_cons_eq q1
      obtain rfl := List.head_eq_of_cons_eq q2
      obtain rfl := List.head_eq_of_cons_eq q3
      obtain rfl := List.head_eq_of_cons_eq q4
      obtain rfl := List.head_eq_of_cons_eq q5
      obtain rfl := List.head_eq_of_cons_eq q6
      refine ⟨a0, a1, a2, a3, a4, a5, a6, rfl, ?_, w0, w1, w2⟩
      rw [hx]
      show DataW.agg [y0.1, y1.1, y2.1, y3.1, y4.1, y5.1, y6.1] = _
      rw [d0, d1, d2, d3, d4, d5, d6]
set_option maxRecDepth 100000 in
theorem open_v4 {r : Reach} {b0 : Nat} {v : Value} {d : DataW H} {q : List MemPlace} (hv : Value.okWide Tryz.prog w r b0 49 v) (h : DataW.Trod enc Tryz.prog w base spare held 49 v d q) :
    ∃ (a0 : Int) (a1 : Int) (a2 : Int) (a3 : ByteArray) (a4 : ByteArray) (a5 : ByteArray) (a6 : ByteArray), v = .agg #[.int .i64 a0, .int .i64 a1, .int .i64 a2, .string a3, .string a4, .string a5, .string a6] ∧ d = .agg [.lit (.int .i64 a0), .lit (.int .i64 a1), .lit (.int .i64 a2), .lit (.string a3.data.toList), .lit (.string a4.data.toList), .lit (.string a5.data.toList), .lit (.string a6.data.toList)] ∧ (Lit.int .i64 a0).wf = true ∧ (Lit.int .i64 a1).wf = true ∧ (Lit.int .i64 a2).wf = true := by
  obtain ⟨cs, rfl, hsz⟩ := okWide_struct Tryz.underlying49 hv
  obtain ⟨fuel, hf⟩ := h
  obtain ⟨l⟩ := cs
  obtain ⟨a0, a1, a2, a3, a4, a5, a6, rfl, hd, hw⟩ := open_v4_cells (hsz.trans (show Tryz.prog.cellsOf 49 = 7 by kernel_rfl)) hf
  exact ⟨a0, a1, a2, a3, a4, a5, a6, rfl, hd, hw⟩
end
end Go.Proofs.YticdmepplfgdiaaGreatDoor
end
section
namespace Go.Proofs.YticdmepplfgdiaaGreatDoor.Pl
/-- the number that some bytes are -/
def num (l : List UInt8) : Nat := l.foldl (fun n b => 256 * n + b.toNat) 0
/-- so many bytes of a number -/
def be : Nat → Nat → List UInt8
  | 0, _ => []
  | w + 1, n => be w (n / 256) ++ [UInt8.ofNat (n % 256)]
theorem num_nil : num [] = 0 := rfl
theorem num_snoc (l : List UInt8) (b : UInt8) : num (l ++ [b]) = 256 * num l + b.toNat := by
  simp [num, List.foldl_append]
theorem num_cons_go (l : List UInt8) (n : Nat) : l.foldl (fun n b => 256 * n + b.toNat) n = n * 256 ^ l.length + num l := by
  induction l generalizing n with
  | nil => simp [num]
  | cons b l ih =>
    simp only [List.foldl_cons, num, List.length_cons]
    rw [ih, ih (256 * 0 + b.toNat), Nat.pow_succ, Nat.add_mul, Nat.mul_zero, Nat.zero_add, Nat.mul_comm 256 n, Nat.mul_assoc, Nat.mul_comm (256 ^ l.length) 256, Nat.add_assoc]
theorem num_append (a b : List UInt8) : num (a ++ b) = num a * 256 ^ b.length + num b := by
  conv => lhs; unfold num
  rw [List.foldl_append, num_cons_go b]
  rfl
theorem num_cons (b : UInt8) (l : List UInt8) : num (b :: l) = b.toNat * 256 ^ l.length + num l := by
  have h := num_append [b] l
  simp only [List.singleton_append] at h
  rw [h]
  simp [num]
theorem num_one (b : UInt8) : num [b] = b.toNat := by simp [num]
theorem num_lt (l : List UInt8) : num l < 256 ^ l.length := by
  induction l with
  | nil => simp [num]
  | cons b l ih =>
    rw [num_cons, List.length_cons, Nat.pow_succ]
    have hb := b.toNat_lt
    have h1 : b.toNat * 256 ^ l.length ≤ 255 * 256 ^ l.length := Nat.mul_le_mul_right _ (by omega)
    omega
theorem be_zero (n : Nat) : be 0 n = [] := rfl
theorem be_succ (w n : Nat) : be (w + 1) n = be w (n / 256) ++ [UInt8.ofNat (n % 256)] := rfl
theorem be_length (w n : Nat) : (be w n).length = w := by
  induction w generalizing n with
  | zero => rfl
  | succ w ih => simp [be_succ, ih]
theorem num_be (w n : Nat) : num (be w n) = n % 256 ^ w := by
  induction w generalizing n with
  | zero => simp [be_zero, num_nil, Nat.mod_one]
  | succ w ih =>
    rw [be_succ, num_snoc, ih, Nat.pow_succ, Nat.mul_comm (256 ^ w) 256]
    have h : (UInt8.ofNat (n % 256)).toNat = n % 256 := by simp
    rw [h, Nat.mod_mul]
    omega
theorem num_be_of_lt {w n : Nat} (h : n < 256 ^ w) : num (be w n) = n := by
  rw [num_be, Nat.mod_eq_of_lt h]
/-- the j-th of a number's bytes -/
theorem be_get (w n j : Nat) (h : j < w) : (be w n)[j]? = some (UInt8.ofNat (n / 256 ^ (w - 1 - j) % 256)) := by
  induction w generalizing n with
  | zero => omega
  | succ w ih =>
    rw [be_succ]
    by_cases hj : j < w
    · rw [List.getElem?_append_left (by rw [be_length]; exact hj), ih _ hj, Nat.div_div_eq_div_mul, ← Nat.pow_succ']
      congr 6
      omega
    · have : j = w := by omega
      subst this
      rw [List.getElem?_append_right (by rw [be_length]; omega), be_length]
      simp
end Go.Proofs.YticdmepplfgdiaaGreatDoor.Pl
end
section
namespace Go.Proofs.YticdmepplfgdiaaGreatDoor.Bp
/-- the flags: two bits that are always there, and three that are told -/
def flags (x y z : Bool) : Nat := 12 + (if x then 1 else 0) + (if y then 16 else 0) + (if z then 32 else 0)
theorem flags_lt (x y z : Bool) : flags x y z < 64 := by cases x <;> cases y <;> cases z <;> decide
def front : List UInt8 := [66, 66, 3, 0, 0, 2, 2]
def back : List UInt8 := [0, 20, 0, 2, 0, 15, 0, 0]
/-- a message's bytes -/
def enc (r c b p a : Nat) (x y z : Bool) : List UInt8 :=
  front ++ Pl.be 1 (flags x y z) ++ Pl.be 8 r ++ Pl.be 4 c ++ Pl.be 8 b ++ Pl.be 2 p ++ Pl.be 1 a ++ back
theorem enc_length (r c b p a : Nat) (x y z : Bool) : (enc r c b p a x y z).length = 39 := by
  simp [enc, front, back, Pl.be_length]
/-- what a message's bytes say -/
def root (l : List UInt8) : Nat := Pl.num ((l.drop 8).take 8)
def cost (l : List UInt8) : Nat := Pl.num ((l.drop 16).take 4)
def bridge (l : List UInt8) : Nat := Pl.num ((l.drop 20).take 8)
def port (l : List UInt8) : Nat := Pl.num ((l.drop 28).take 2)
def age (l : List UInt8) : Nat := Pl.num ((l.drop 30).take 1)
def bit (l : List UInt8) (k : Nat) : Bool := (l.getD 7 0).toNat / 2 ^ k % 2 == 1
/-- are they a message's? -/
def pre (l : List UInt8) : Bool := l.take 7 == front
def good (l : List UInt8) : Bool := pre l && (l.getD 31 0 == 0) && (l.getD 38 0 == 0)
end Go.Proofs.YticdmepplfgdiaaGreatDoor.Bp
end
section
namespace Go.Proofs.YticdmepplfgdiaaGreatDoor.Cs
/-- a text's word number k, two bytes each; what is lacking counts as a byte 0 -/
def wordAt (l : List UInt8) (k : Nat) : Nat := 256 * (l.getD (2 * k) 0).toNat + (l.getD (2 * k + 1) 0).toNat
theorem wordAt_le (l : List UInt8) (k : Nat) : wordAt l k ≤ 65535 := by
  have h1 := (l.getD (2 * k) 0).toNat_lt
  have h2 := (l.getD (2 * k + 1) 0).toNat_lt
  unfold wordAt; omega
/-- the first k words -/
def upto (l : List UInt8) (k : Nat) : List Nat := (List.range k).map (wordAt l)
theorem upto_succ (l : List UInt8) (k : Nat) : upto l (k + 1) = upto l k ++ [wordAt l k] := by
  simp [upto, List.range_succ]
/-- ones' addition -/
def plus (a b : Nat) : Nat := if 65536 ≤ a + b then a + b - 65535 else a + b
theorem plus_le {a b : Nat} (ha : a ≤ 65535) (hb : b ≤ 65535) : plus a b ≤ 65535 := by unfold plus; split <;> omega
/-- the sum of some words by ones' addition -/
def tot (ws : List Nat) : Nat := ws.foldl plus 0
theorem tot_snoc (ws : List Nat) (w : Nat) : tot (ws ++ [w]) = plus (tot ws) w := by simp [tot]
/-- what a plain sum comes to by ones' addition -/
def norm (n : Nat) : Nat := if n = 0 then 0 else (n - 1) % 65535 + 1
theorem norm_plus (n w : Nat) (hw : w ≤ 65535) : plus (norm n) w = norm (n + w) := by
  unfold plus norm
  split <;> split <;> split <;> omega
theorem upto_tot (l : List UInt8) (k : Nat) : tot (upto l k) = norm ((upto l k).sum) := by
  induction k with
  | zero => rfl
  | succ k ih => rw [upto_succ, tot_snoc, ih, norm_plus _ _ (wordAt_le _ _)]; simp
/-- the plain sum of a text's words -/
def wsum : List UInt8 → Nat
  | [] => 0
  | [a] => 256 * a.toNat
  | a :: b :: r => 256 * a.toNat + b.toNat + wsum r
/-- how many words -/
def cnt (l : List UInt8) : Nat := (l.length + 1) / 2
theorem upto_sum : ∀ (l : List UInt8), (upto l (cnt l)).sum = wsum l
  | [] => rfl
  | [a] => by simp [upto, cnt, wordAt, wsum]
  | a :: b :: r => by
    have ih := upto_sum r
    have hc : cnt (a :: b :: r) = cnt r + 1 := by simp only [cnt, List.length_cons]; omega
    have h0 : wordAt (a :: b :: r) 0 = 256 * a.toNat + b.toNat := by simp [wordAt]
    rw [hc, wsum, ← ih]
    unfold upto
    rw [List.range_succ_eq_map, List.map_cons, List.sum_cons, List.map_map, h0]
    congr 1
/-- the sum of a text -/
def sum (l : List UInt8) : Nat := 65535 - norm (wsum l)
theorem sum_le (l : List UInt8) : sum l ≤ 65535 := by unfold sum; omega
theorem sum_of (l : List UInt8) : sum l = 65535 - tot (upto l (cnt l)) := by rw [upto_tot, upto_sum]; rfl
end Go.Proofs.YticdmepplfgdiaaGreatDoor.Cs
end
section
namespace Go.Proofs.YticdmepplfgdiaaGreatDoor.Et
/-- a tag's bytes -/
def tag (tg : Bool) (vl pr : Nat) : List UInt8 := if tg then Pl.be 2 33024 ++ Pl.be 2 (pr * 8192 + vl) else []
/-- a frame's bytes -/
def enc (dst src : List UInt8) (tg : Bool) (vl pr ty : Nat) (data : List UInt8) : List UInt8 := dst ++ src ++ tag tg vl pr ++ Pl.be 2 ty ++ data
theorem tag_length (tg : Bool) (vl pr : Nat) : (tag tg vl pr).length = if tg then 4 else 0 := by cases tg <;> simp [tag, Pl.be_length]
theorem enc_length (dst src : List UInt8) (tg : Bool) (vl pr ty : Nat) (data : List UInt8) (h1 : dst.length = 6) (h2 : src.length = 6) : (enc dst src tg vl pr ty data).length = 14 + (if tg then 4 else 0) + data.length := by
  simp [enc, tag_length, Pl.be_length, h1, h2]; omega
end Go.Proofs.YticdmepplfgdiaaGreatDoor.Et
end
section
namespace Go.Proofs.YticdmepplfgdiaaGreatDoor.Bp
theorem len1 : ∀ l : List UInt8, l.length = 1 → ∃ x0, l = [x0]
  | [x0], _ => ⟨x0, rfl⟩
theorem len2 : ∀ l : List UInt8, l.length = 2 → ∃ x0 x1, l = [x0, x1]
  | [x0, x1], _ => ⟨x0, x1, rfl⟩
theorem len4 : ∀ l : List UInt8, l.length = 4 → ∃ x0 x1 x2 x3, l = [x0, x1, x2, x3]
  | [x0, x1, x2, x3], _ => ⟨x0, x1, x2, x3, rfl⟩
theorem len8 : ∀ l : List UInt8, l.length = 8 → ∃ x0 x1 x2 x3 x4 x5 x6 x7, l = [x0, x1, x2, x3, x4, x5, x6, x7]
  | [x0, x1, x2, x3, x4, x5, x6, x7], _ => ⟨x0, x1, x2, x3, x4, x5, x6, x7, rfl⟩
/-- a message, byte by byte -/
theorem enc_out (r c b p a : Nat) (x y z : Bool) : ∃ F r0 r1 r2 r3 r4 r5 r6 r7 c0 c1 c2 c3 b0 b1 b2 b3 b4 b5 b6 b7 p0 p1 a0, Pl.be 1 (flags x y z) = [F] ∧ Pl.be 8 r = [r0, r1, r2, r3, r4, r5, r6, r7] ∧ Pl.be 4 c = [c0, c1, c2, c3] ∧ Pl.be 8 b = [b0, b1, b2, b3, b4, b5, b6, b7] ∧ Pl.be 2 p = [p0, p1] ∧ Pl.be 1 a = [a0] ∧
    enc r c b p a x y z = [66, 66, 3, 0, 0, 2, 2, F, r0, r1, r2, r3, r4, r5, r6, r7, c0, c1, c2, c3, b0, b1, b2, b3, b4, b5, b6, b7, p0, p1, a0, 0, 20, 0, 2, 0, 15, 0, 0] := by
  obtain ⟨F, hF⟩ := len1 (Pl.be 1 (flags x y z)) (Pl.be_length _ _)
  obtain ⟨r0, r1, r2, r3, r4, r5, r6, r7, hR⟩ := len8 (Pl.be 8 r) (Pl.be_length _ _)
  obtain ⟨c0, c1, c2, c3, hC⟩ := len4 (Pl.be 4 c) (Pl.be_length _ _)
  obtain ⟨b0, b1, b2, b3, b4, b5, b6, b7, hB⟩ := len8 (Pl.be 8 b) (Pl.be_length _ _)
  obtain ⟨p0, p1, hP⟩ := len2 (Pl.be 2 p) (Pl.be_length _ _)
  obtain ⟨a0, hA⟩ := len1 (Pl.be 1 a) (Pl.be_length _ _)
  exact ⟨F, r0, r1, r2, r3, r4, r5, r6, r7, c0, c1, c2, c3, b0, b1, b2, b3, b4, b5, b6, b7, p0, p1, a0, hF, hR, hC, hB, hP, hA, by rw [enc, hF, hR, hC, hB, hP, hA]; rfl⟩
/-- the flags' byte, with other bits turned -/
theorem flag_bit : ∀ (x y z : Bool), (flags x y z % 2 = 1 ↔ x = true) ∧ (flags x y z / 16 % 2 = 1 ↔ y = true) ∧ (flags x y z / 32 % 2 = 1 ↔ z = true) := by decide
/-- what is read of a message -/
structure Reads (l : List UInt8) (r c b p a : Nat) (x y z : Bool) : Prop where
  good : good l = true
  root : root l = r
  cost : cost l = c
  bridge : bridge l = b
  port : port l = p
  age : age l = a
  b0 : bit l 0 = x
  b4 : bit l 4 = y
  b5 : bit l 5 = z
/-- WHAT WAS ENCODED IS READ, whatever stands behind it, and in the places that are free -/
theorem reads_enc (r c b p a : Nat) (x y z : Bool) (hr : r < 18446744073709551616) (hc : c < 4294967296) (hb : b < 18446744073709551616) (hp : p < 65536) (ha : a < 256)
    (G : UInt8) (h0 : (G.toNat % 2 = 1 ↔ x = true)) (h4 : (G.toNat / 16 % 2 = 1 ↔ y = true)) (h5 : (G.toNat / 32 % 2 = 1 ↔ z = true)) (n0 n1 n2 n3 n4 n5 : UInt8) (t : List UInt8) :
    Reads ([66, 66, 3, 0, 0, 2, 2, G] ++ (Pl.be 8 r ++ Pl.be 4 c ++ Pl.be 8 b ++ Pl.be 2 p ++ Pl.be 1 a) ++ [0, n0, n1, n2, n3, n4, n5, 0] ++ t) r c b p a x y z := by
  obtain ⟨F, r0, r1, r2, r3, r4, r5, r6, r7, c0, c1, c2, c3, b0, b1, b2, b3, b4, b5, b6, b7, p0, p1, a0, hF, hR, hC, hB, hP, hA, -⟩ := enc_out r c b p a x y z
  rw [hR, hC, hB, hP, hA]
  refine ⟨rfl, ?_, ?_, ?_, ?_, ?_, ?_, ?_, ?_⟩
  · exact (congrArg Pl.num hR.symm).trans (Pl.num_be_of_lt (by simpa using hr))
  · exact (congrArg Pl.num hC.symm).trans (Pl.num_be_of_lt (by simpa using hc))
  · exact (congrArg Pl.num hB.symm).trans (Pl.num_be_of_lt (by simpa using hb))
  · exact (congrArg Pl.num hP.symm).trans (Pl.num_be_of_lt (by simpa using hp))
  · exact (congrArg Pl.num hA.symm).trans (Pl.num_be_of_lt (by simpa using ha))
  · show (G.toNat / 2 ^ 0 % 2 == 1) = x
    rw [Bool.eq_iff_iff, beq_iff_eq, Nat.pow_zero, Nat.div_one]; exact h0
  · show (G.toNat / 2 ^ 4 % 2 == 1) = y
    rw [Bool.eq_iff_iff, beq_iff_eq]; exact h4
  · show (G.toNat / 2 ^ 5 % 2 == 1) = z
    rw [Bool.eq_iff_iff, beq_iff_eq]; exact h5
theorem reads_back (r c b p a : Nat) (x y z : Bool) (hr : r < 18446744073709551616) (hc : c < 4294967296) (hb : b < 18446744073709551616) (hp : p < 65536) (ha : a < 256) (t : List UInt8) :
    Reads (enc r c b p a x y z ++ t) r c b p a x y z := by
  obtain ⟨F, r0, r1, r2, r3, r4, r5, r6, r7, c0, c1, c2, c3, b0, b1, b2, b3, b4, b5, b6, b7, p0, p1, a0, hF, hR, hC, hB, hP, hA, -⟩ := enc_out r c b p a x y z
  have hf : F.toNat = flags x y z := by
    have h := congrArg Pl.num hF
    rw [Pl.num_one] at h
    rw [← h, Pl.num_be_of_lt (by have := flags_lt x y z; omega)]
  obtain ⟨f0, f4, f5⟩ := flag_bit x y z
  have h := reads_enc r c b p a x y z hr hc hb hp ha F (hf ▸ f0) (hf ▸ f4) (hf ▸ f5) 20 0 2 0 15 0 t
  have e : enc r c b p a x y z ++ t = [66, 66, 3, 0, 0, 2, 2, F] ++ (Pl.be 8 r ++ Pl.be 4 c ++ Pl.be 8 b ++ Pl.be 2 p ++ Pl.be 1 a) ++ [0, 20, 0, 2, 0, 15, 0, 0] ++ t := by
    rw [enc, hF, hR, hC, hB, hP, hA]; rfl
  rw [e]; exact h
end Go.Proofs.YticdmepplfgdiaaGreatDoor.Bp
end
section
namespace Go.Proofs.YticdmepplfgdiaaGreatDoor.Cs
/-- what is summed: two bytes 0 where the sum will stand -/
def gap (p s : ByteArray) (a : Nat) : ByteArray := p ++ s.extract 0 a ++ ⟨#[0, 0]⟩ ++ s.extract (a + 2) s.size
def filled (p s : ByteArray) (a : Nat) : ByteArray := s.extract 0 a ++ ⟨(Pl.be 2 (sum (gap p s a).data.toList)).toArray⟩ ++ s.extract (a + 2) s.size
end Go.Proofs.YticdmepplfgdiaaGreatDoor.Cs
end
section
namespace Go.Proofs.YticdmepplfgdiaaGreatDoor.Cs
theorem wsum_append : ∀ (a b : List UInt8), a.length % 2 = 0 → wsum (a ++ b) = wsum a + wsum b
  | [], b, _ => by simp [wsum]
  | [x], b, h => by simp at h
  | x :: y :: r, b, h => by
    have ih := wsum_append r b (by simp only [List.length_cons] at h; omega)
    simp only [List.cons_append, wsum, ih]
    omega
theorem wsum_be2 (c : Nat) (h : c < 65536) : wsum (Pl.be 2 c) = c := by
  have e : Pl.be 2 c = [UInt8.ofNat (c / 256 % 256), UInt8.ofNat (c % 256)] := rfl
  rw [e]
  simp only [wsum, UInt8.toNat_ofNat']
  omega
theorem data_join (a b : ByteArray) : (a ++ b).data.toList = a.data.toList ++ b.data.toList := by simp [ByteArray.data_append]
theorem len_data (s : ByteArray) : s.data.toList.length = s.size := by rw [Array.length_toList]; rfl
theorem data_ext (s : ByteArray) (a b : Nat) : (s.extract a b).data.toList = (s.data.toList.drop a).take (b - a) := by simp [ByteArray.data_extract]
theorem size_join (a b : ByteArray) : (a ++ b).size = a.size + b.size := by rw [← len_data, data_join, List.length_append, len_data, len_data]
theorem head_len (s : ByteArray) (a : Nat) (h : a ≤ s.size) : (s.extract 0 a).data.toList.length = a := by
  rw [data_ext, List.length_take, List.length_drop, len_data]; omega
theorem tail_len (s : ByteArray) (a : Nat) (_ : a ≤ s.size) : (s.extract a s.size).data.toList.length = s.size - a := by
  rw [data_ext, List.length_take, List.length_drop, len_data]; omega
/-- the plain sum where something of two bytes stands in the gap -/
theorem wsum_in (p s : ByteArray) (a : Nat) (v : List UInt8) (hv : v.length = 2) (hp : p.size % 2 = 0) (ha : a % 2 = 0) (h : a + 2 ≤ s.size) :
    wsum ((p ++ (s.extract 0 a ++ ⟨v.toArray⟩ ++ s.extract (a + 2) s.size)).data.toList) = wsum p.data.toList + wsum (s.extract 0 a).data.toList + wsum v + wsum (s.extract (a + 2) s.size).data.toList := by
  have h1 := head_len s a (by omega)
  rw [data_join, data_join, data_join, wsum_append _ _ (by rw [len_data]; exact hp), List.append_assoc, wsum_append _ _ (by rw [h1]; exact ha), show (⟨v.toArray⟩ : ByteArray).data.toList = v from rfl, wsum_append _ _ (by rw [hv])]
  omega
theorem gap_eq (p s : ByteArray) (a : Nat) : gap p s a = p ++ (s.extract 0 a ++ ⟨[0, 0].toArray⟩ ++ s.extract (a + 2) s.size) := by
  unfold gap
  simp only [ByteArray.append_assoc]
/-- A TEXT WITH ITS SUM PUT IN IS RIGHT -/
theorem filled_right (p s : ByteArray) (a : Nat) (hp : p.size % 2 = 0) (ha : a % 2 = 0) (h : a + 2 ≤ s.size) : sum ((p ++ filled p s a).data.toList) = 0 := by
  have h0 := wsum_in p s a [0, 0] rfl hp ha h
  have h1 := wsum_in p s a (Pl.be 2 (sum (gap p s a).data.toList)) (Pl.be_length _ _) hp ha h
  have hc := sum_le (gap p s a).data.toList
  rw [wsum_be2 _ (by omega)] at h1
  rw [← gap_eq] at h0
  have z : wsum [0, 0] = 0 := rfl
  have e : sum (gap p s a).data.toList = 65535 - norm (wsum (gap p s a).data.toList) := rfl
  unfold filled
  generalize sum (gap p s a).data.toList = c at *
  unfold sum
  rw [h1]
  generalize wsum (gap p s a).data.toList = W at *
  rw [show wsum p.data.toList + wsum (s.extract 0 a).data.toList + c + wsum (s.extract (a + 2) s.size).data.toList = W + c from by omega, e]
  unfold norm
  split <;> split <;> omega
theorem filled_size (p s : ByteArray) (a : Nat) (h : a + 2 ≤ s.size) : (filled p s a).size = s.size := by
  have h1 := head_len s a (by omega)
  have h2 := tail_len s (a + 2) (by omega)
  rw [len_data] at h1 h2
  have h3 : (⟨(Pl.be 2 (sum (gap p s a).data.toList)).toArray⟩ : ByteArray).size = 2 := by
    rw [← len_data]; exact Pl.be_length _ _
  unfold filled
  rw [size_join, size_join, h1, h2, h3]
  omega
end Go.Proofs.YticdmepplfgdiaaGreatDoor.Cs
end
