/-
  The options that stand for each router on the way, as lists of bytes, with no program in sight. Conditions: none.
-/
namespace Go.Proofs.Ytjhppbooakekcaa.Op6

/-- options, one by one; the last one is empty, if bytes are lacking -/
def items : List UInt8 → List (List UInt8)
  | [] => []
  | k :: t => if k = 0 then items t else
    match t with
    | [] => [[]]
    | n :: u => if u.length < n.toNat then [[]] else (k :: n :: u.take n.toNat) :: items (u.drop n.toNat)
termination_by l => l.length
decreasing_by
  all_goals simp only [List.length_cons, List.length_drop]
  all_goals omega

theorem items_nil : items [] = [] := by rw [items]
theorem items_pad (t : List UInt8) : items (0 :: t) = items t := by rw [items.eq_def]; simp
theorem items_end {k : UInt8} (hk : k ≠ 0) : items [k] = [[]] := by rw [items.eq_def]; simp [hk]
theorem items_short {k n : UInt8} {u : List UInt8} (hk : k ≠ 0) (h : u.length < n.toNat) : items (k :: n :: u) = [[]] := by rw [items.eq_def]; simp [hk, h]
theorem items_next {k n : UInt8} {u : List UInt8} (hk : k ≠ 0) (h : n.toNat ≤ u.length) : items (k :: n :: u) = (k :: n :: u.take n.toNat) :: items (u.drop n.toNat) := by
  rw [items.eq_def]; simp [hk, show ¬ u.length < n.toNat by omega]

/-- an option that is not to be borne -/
def bad (x : List UInt8) : Bool := x.isEmpty || (x.getD 0 0 != 1 && ((x.getD 0 0 == 5 && x.length != 4) || decide (64 ≤ (x.getD 0 0).toNat)))
def look (x : List UInt8) : Bool := x == [5, 2, 0, 0]
def good (l : List UInt8) : Bool := !(items l).any bad
def found (l : List UInt8) : Bool := (items l).any look
/-- what is told -/
def val (l : List UInt8) : Bool := good l && found l
def err (l : List UInt8) : Int := if good l then 0 else 3
theorem val_good {l : List UInt8} (h : good l = true) : val l = found l := by simp [val, h]
theorem val_bad {l : List UInt8} (h : good l = false) : val l = false := by simp [val, h]
theorem err_good {l : List UInt8} (h : good l = true) : err l = 0 := by simp [err, h]
theorem err_bad {l : List UInt8} (h : good l = false) : err l = 3 := by simp [err, h]

theorem bad_nil : bad [] = true := rfl
theorem bad_mem {l x : List UInt8} (h : x ∈ items l) (hb : bad x = true) : good l = false := by
  unfold good
  rw [List.any_eq_true.2 ⟨x, h, hb⟩]; rfl

/-- options behind options -/
theorem items_append (s t : List UInt8) (h : [] ∉ items s) : items (s ++ t) = items s ++ items t := by
  suffices g : ∀ (m : Nat) (s : List UInt8), s.length ≤ m → [] ∉ items s → items (s ++ t) = items s ++ items t from g _ s (Nat.le_refl _) h
  intro m
  induction m with
  | zero =>
    intro s hs _
    obtain rfl : s = [] := List.length_eq_zero_iff.1 (by omega)
    rw [items_nil]; rfl
  | succ m ih =>
    intro s hs hn
    match s, hs, hn with
    | [], _, _ => rw [items_nil]; rfl
    | k :: r, hs, hn =>
      simp only [List.length_cons] at hs
      by_cases hk : k = 0
      · subst hk
        rw [items_pad] at hn ⊢
        rw [List.cons_append, items_pad, ih r (by omega) hn]
      · match r, hs, hn with
        | [], _, hn => rw [items_end hk] at hn; simp at hn
        | n :: u, hs, hn =>
          by_cases hu : u.length < n.toNat
          · rw [items_short hk hu] at hn; simp at hn
          · rw [items_next hk (by omega)] at hn ⊢
            simp only [List.length_cons] at hs
            have hd : [] ∉ items (u.drop n.toNat) := fun hm => hn (List.mem_cons_of_mem _ hm)
            rw [List.cons_append, List.cons_append, items_next hk (by rw [List.length_append]; omega), List.take_append_of_le_length (by omega), List.drop_append_of_le_length (by omega), ih _ (by rw [List.length_drop]; omega) hd]
            rfl
theorem good_no_nil {l : List UInt8} (h : good l = true) : [] ∉ items l := fun hm => by
  rw [bad_mem hm bad_nil] at h; cases h
theorem good_append {s t : List UInt8} (h : good s = true) : good (s ++ t) = good t := by
  unfold good
  rw [items_append s t (good_no_nil h), List.any_append]
  have h2 : (items s).any bad = false := by simpa [good] using h
  rw [h2, Bool.false_or]
theorem found_append {s t : List UInt8} (h : good s = true) : found (s ++ t) = (found s || found t) := by
  unfold found
  rw [items_append s t (good_no_nil h), List.any_append]
end Go.Proofs.Ytjhppbooakekcaa.Op6
