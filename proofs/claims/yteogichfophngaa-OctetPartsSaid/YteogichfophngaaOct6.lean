/-
  The contracts of octet and of its reference in one form each, whatever the arguments. Condition: a text's length fits an int; a number is none below nothing nor above what its kind holds.
-/
import Derived.Test.YteogichfophngaaOct5
namespace Go.Proofs.Yteogichfophngaa
open Go.RowKit

def getV (s : ByteArray) (a n : Int) : Int := if a < 0 ∨ n < 1 ∨ 4 < n then 0 else if (s.size : Int) < a ∨ (s.size : Int) - a < n then 0 else (Pl.num ((s.data.toList.drop a.toNat).take n.toNat) : Int)
def getE (s : ByteArray) (a n : Int) : Int := if a < 0 ∨ n < 1 ∨ 4 < n then 1 else if (s.size : Int) < a ∨ (s.size : Int) - a < n then 2 else 0

theorem get_cases (s : ByteArray) (a n : Int) {P : Int → Int → Prop} (h1 : a < 0 ∨ n < 1 ∨ 4 < n → P 0 1) (h2 : 0 ≤ a → 1 ≤ n → n ≤ 4 → ((s.size : Int) < a ∨ (s.size : Int) - a < n) → P 0 2)
    (h3 : ∀ x m : Nat, a = x → n = m → 1 ≤ m → m ≤ 4 → x + m ≤ s.size → P (Pl.num ((s.data.toList.drop x).take m)) 0) : P (getV s a n) (getE s a n) := by
  unfold getV getE
  by_cases c1 : a < 0 ∨ n < 1 ∨ 4 < n
  · rw [if_pos c1, if_pos c1]; exact h1 c1
  · rw [if_neg c1, if_neg c1]
    by_cases c2 : (s.size : Int) < a ∨ (s.size : Int) - a < n
    · rw [if_pos c2, if_pos c2]; exact h2 (by omega) (by omega) (by omega) c2
    · rw [if_neg c2, if_neg c2]
      obtain ⟨x, rfl⟩ := Int.eq_ofNat_of_zero_le (show 0 ≤ a by omega)
      obtain ⟨m, rfl⟩ := Int.eq_ofNat_of_zero_le (show 0 ≤ n by omega)
      exact h3 x m rfl rfl (by omega) (by omega) (by omega)

theorem get_any (s : ByteArray) (a n : Int) (hs : s.size ≤ 9223372036854775807) (w : World) :
    Calls Try.prog 10 #[.string s, .int .i64 a, .int .i64 n] w fun e w' => e = .returned (.tuple #[.int .i64 (getV s a n), .int .i64 (getE s a n)]) ∧ Below w.heap.size w w' :=
  get_cases s a n (P := fun v c => Calls Try.prog 10 #[.string s, .int .i64 a, .int .i64 n] w fun e w' => e = .returned (.tuple #[.int .i64 v, .int .i64 c]) ∧ Below w.heap.size w w')
    (fun h => (get_arg s a n h w).mono fun _ _ ⟨h1, h2⟩ => ⟨h1, h2 ▸ Below.refl _ _⟩)
    (fun h0 h1 h4 h => (get_cut s a n hs h0 h1 h4 h w).mono fun _ _ ⟨h1, h2⟩ => ⟨h1, h2 ▸ Below.refl _ _⟩)
    (fun x m ea en h1 h4 h => by subst ea en; exact get_ok s x m hs h1 h4 h w)

theorem rget_any (s : ByteArray) (a n : Int) (hs : s.size ≤ 9223372036854775807) (w : World) :
    Calls Try.prog 11 #[.string s, .int .i64 a, .int .i64 n] w fun e w' => e = .returned (.tuple #[.int .i64 (getV s a n), .int .i64 (getE s a n)]) ∧ Below w.heap.size w w' :=
  get_cases s a n (P := fun v c => Calls Try.prog 11 #[.string s, .int .i64 a, .int .i64 n] w fun e w' => e = .returned (.tuple #[.int .i64 v, .int .i64 c]) ∧ Below w.heap.size w w')
    (fun h => (rget_arg s a n h w).mono fun _ _ ⟨h1, h2⟩ => ⟨h1, h2 ▸ Below.refl _ _⟩)
    (fun h0 h1 h4 h => (rget_cut s a n hs h0 h1 h4 h w).mono fun _ _ ⟨h1, h2⟩ => ⟨h1, h2 ▸ Below.refl _ _⟩)
    (fun x m ea en h1 h4 h => by subst ea en; exact rget_ok s x m hs h1 h4 h w)

def wideV (s : ByteArray) (a : Int) : Int := if a < 0 then 0 else if (s.size : Int) < a ∨ (s.size : Int) - a < 8 then 0 else (Pl.num ((s.data.toList.drop a.toNat).take 8) : Int)
def wideE (s : ByteArray) (a : Int) : Int := if a < 0 then 1 else if (s.size : Int) < a ∨ (s.size : Int) - a < 8 then 2 else 0

theorem wide_cases (s : ByteArray) (a : Int) {P : Int → Int → Prop} (h1 : a < 0 → P 0 1) (h2 : 0 ≤ a → ((s.size : Int) < a ∨ (s.size : Int) - a < 8) → P 0 2)
    (h3 : ∀ x : Nat, a = x → x + 8 ≤ s.size → P (Pl.num ((s.data.toList.drop x).take 8)) 0) : P (wideV s a) (wideE s a) := by
  unfold wideV wideE
  by_cases c1 : a < 0
  · rw [if_pos c1, if_pos c1]; exact h1 c1
  · rw [if_neg c1, if_neg c1]
    by_cases c2 : (s.size : Int) < a ∨ (s.size : Int) - a < 8
    · rw [if_pos c2, if_pos c2]; exact h2 (by omega) c2
    · rw [if_neg c2, if_neg c2]
      obtain ⟨x, rfl⟩ := Int.eq_ofNat_of_zero_le (show 0 ≤ a by omega)
      exact h3 x rfl (by omega)

theorem wide_any (s : ByteArray) (a : Int) (hs : s.size ≤ 9223372036854775807) (w : World) :
    Calls Try.prog 17 #[.string s, .int .i64 a] w fun e w' => e = .returned (.tuple #[.int .u64 (wideV s a), .int .i64 (wideE s a)]) ∧ Below w.heap.size w w' :=
  wide_cases s a (P := fun v c => Calls Try.prog 17 #[.string s, .int .i64 a] w fun e w' => e = .returned (.tuple #[.int .u64 v, .int .i64 c]) ∧ Below w.heap.size w w')
    (fun h => (wide_arg s a h w).mono fun _ _ ⟨h1, h2⟩ => ⟨h1, h2 ▸ Below.refl _ _⟩)
    (fun h0 h => (wide_cut s a hs h0 h w).mono fun _ _ ⟨h1, h2⟩ => ⟨h1, h2 ▸ Below.refl _ _⟩)
    (fun x ea h => by subst ea; exact wide_ok s x hs h w)

theorem rwide_any (s : ByteArray) (a : Int) (hs : s.size ≤ 9223372036854775807) (w : World) :
    Calls Try.prog 18 #[.string s, .int .i64 a] w fun e w' => e = .returned (.tuple #[.int .u64 (wideV s a), .int .i64 (wideE s a)]) ∧ Below w.heap.size w w' :=
  wide_cases s a (P := fun v c => Calls Try.prog 18 #[.string s, .int .i64 a] w fun e w' => e = .returned (.tuple #[.int .u64 v, .int .i64 c]) ∧ Below w.heap.size w w')
    (fun h => (rwide_arg s a h w).mono fun _ _ ⟨h1, h2⟩ => ⟨h1, h2 ▸ Below.refl _ _⟩)
    (fun h0 h => (rwide_cut s a hs h0 h w).mono fun _ _ ⟨h1, h2⟩ => ⟨h1, h2 ▸ Below.refl _ _⟩)
    (fun x ea h => by subst ea; exact rwide_ok s x hs h w)

def cutV (s : ByteArray) (a n : Int) : ByteArray := if a < 0 ∨ n < 0 then ⟨#[]⟩ else if (s.size : Int) < a ∨ (s.size : Int) - a < n then ⟨#[]⟩ else s.extract a.toNat (a.toNat + n.toNat)
def cutE (s : ByteArray) (a n : Int) : Int := if a < 0 ∨ n < 0 then 1 else if (s.size : Int) < a ∨ (s.size : Int) - a < n then 2 else 0

theorem cut_cases (s : ByteArray) (a n : Int) {P : ByteArray → Int → Prop} (h1 : a < 0 ∨ n < 0 → P ⟨#[]⟩ 1) (h2 : 0 ≤ a → 0 ≤ n → ((s.size : Int) < a ∨ (s.size : Int) - a < n) → P ⟨#[]⟩ 2)
    (h3 : ∀ x m : Nat, a = x → n = m → x + m ≤ s.size → P (s.extract x (x + m)) 0) : P (cutV s a n) (cutE s a n) := by
  unfold cutV cutE
  by_cases c1 : a < 0 ∨ n < 0
  · rw [if_pos c1, if_pos c1]; exact h1 c1
  · rw [if_neg c1, if_neg c1]
    by_cases c2 : (s.size : Int) < a ∨ (s.size : Int) - a < n
    · rw [if_pos c2, if_pos c2]; exact h2 (by omega) (by omega) c2
    · rw [if_neg c2, if_neg c2]
      obtain ⟨x, rfl⟩ := Int.eq_ofNat_of_zero_le (show 0 ≤ a by omega)
      obtain ⟨m, rfl⟩ := Int.eq_ofNat_of_zero_le (show 0 ≤ n by omega)
      exact h3 x m rfl rfl (by omega)

theorem cut_any (s : ByteArray) (a n : Int) (hs : s.size ≤ 9223372036854775807) (w : World) :
    Calls Try.prog 15 #[.string s, .int .i64 a, .int .i64 n] w fun e w' => e = .returned (.tuple #[.string (cutV s a n), .int .i64 (cutE s a n)]) ∧ w = w' :=
  cut_cases s a n (P := fun v c => Calls Try.prog 15 #[.string s, .int .i64 a, .int .i64 n] w fun e w' => e = .returned (.tuple #[.string v, .int .i64 c]) ∧ w = w')
    (fun h => cut_arg s a n h w) (fun h0 h1 h => cut_cut s a n hs h0 h1 h w) (fun x m ea en h => by subst ea en; exact cut_ok s x m hs h w)

theorem rcut_any (s : ByteArray) (a n : Int) (hs : s.size ≤ 9223372036854775807) (w : World) :
    Calls Try.prog 16 #[.string s, .int .i64 a, .int .i64 n] w fun e w' => e = .returned (.tuple #[.string (cutV s a n), .int .i64 (cutE s a n)]) ∧ w = w' :=
  cut_cases s a n (P := fun v c => Calls Try.prog 16 #[.string s, .int .i64 a, .int .i64 n] w fun e w' => e = .returned (.tuple #[.string v, .int .i64 c]) ∧ w = w')
    (fun h => rcut_arg s a n h w) (fun h0 h1 h => rcut_cut s a n hs h0 h1 h w) (fun x m ea en h => by subst ea en; exact rcut_ok s x m hs h w)

def putV (n m : Int) : ByteArray := if m < 1 ∨ 4 < m ∨ n < 0 then ⟨#[]⟩ else if 256 ^ m.toNat ≤ n.toNat then ⟨#[]⟩ else ⟨(Pl.be m.toNat n.toNat).toArray⟩
def putE (n m : Int) : Int := if m < 1 ∨ 4 < m ∨ n < 0 then 1 else if 256 ^ m.toNat ≤ n.toNat then 1 else 0

theorem put_cases (n m : Int) {P : ByteArray → Int → Prop} (h1 : m < 1 ∨ 4 < m ∨ n < 0 → P ⟨#[]⟩ 1) (h2 : ∀ x k : Nat, n = x → m = k → 1 ≤ k → k ≤ 4 → 256 ^ k ≤ x → P ⟨#[]⟩ 1)
    (h3 : ∀ x k : Nat, n = x → m = k → 1 ≤ k → k ≤ 4 → x < 256 ^ k → P ⟨(Pl.be k x).toArray⟩ 0) : P (putV n m) (putE n m) := by
  unfold putV putE
  by_cases c1 : m < 1 ∨ 4 < m ∨ n < 0
  · rw [if_pos c1, if_pos c1]; exact h1 c1
  · rw [if_neg c1, if_neg c1]
    obtain ⟨x, rfl⟩ := Int.eq_ofNat_of_zero_le (show 0 ≤ n by omega)
    obtain ⟨k, rfl⟩ := Int.eq_ofNat_of_zero_le (show 0 ≤ m by omega)
    simp only [Int.toNat_natCast]
    by_cases c2 : 256 ^ k ≤ x
    · rw [if_pos c2, if_pos c2]; exact h2 x k rfl rfl (by omega) (by omega) c2
    · rw [if_neg c2, if_neg c2]; exact h3 x k rfl rfl (by omega) (by omega) (by omega)

theorem put_any (n m : Int) (hn : n ≤ 9223372036854775807) (w : World) :
    Calls Try.prog 13 #[.int .i64 n, .int .i64 m] w fun e w' => e = .returned (.tuple #[.string (putV n m), .int .i64 (putE n m)]) ∧ Below w.heap.size w w' :=
  put_cases n m (P := fun v c => Calls Try.prog 13 #[.int .i64 n, .int .i64 m] w fun e w' => e = .returned (.tuple #[.string v, .int .i64 c]) ∧ Below w.heap.size w w')
    (fun h => (put_arg n m h w).mono fun _ _ ⟨h1, h2⟩ => ⟨h1, h2 ▸ Below.refl _ _⟩)
    (fun x k ex ek h1 h4 h => by subst ex ek; exact (put_big x k h1 h4 h w).mono fun _ _ ⟨h1, h2⟩ => ⟨h1, h2 ▸ Below.refl _ _⟩)
    (fun x k ex ek h1 h4 h => by subst ex ek; exact put_ok x k h1 h4 h (by omega) w)

theorem rput_all (n m : Int) (hn : n ≤ 9223372036854775807) (w : World) :
    Calls Try.prog 14 #[.int .i64 n, .int .i64 m] w fun e w' => e = .returned (.tuple #[.string (putV n m), .int .i64 (putE n m)]) ∧ Below w.heap.size w w' :=
  put_cases n m (P := fun v c => Calls Try.prog 14 #[.int .i64 n, .int .i64 m] w fun e w' => e = .returned (.tuple #[.string v, .int .i64 c]) ∧ Below w.heap.size w w')
    (fun h => (rput_arg n m h w).mono fun _ _ ⟨h1, h2⟩ => ⟨h1, h2 ▸ Below.refl _ _⟩)
    (fun x k ex ek h1 h4 h => by subst ex ek; exact rput_big x k h1 h4 h (by omega) w)
    (fun x k ex ek h1 h4 h => by subst ex ek; exact rput_ok x k h1 h4 h (by omega) w)
end Go.Proofs.Yteogichfophngaa
