/-
  What the document's own Options (siphonref05) tells. Condition: a text's length lies well within an int.
-/
import Derived.Test.YtjhppbooakekcaaEach6
import Derived.Lib.Strings
namespace Go.Proofs.Ytjhppbooakekcaa
open Go.RowKit

/-- how long a text is -/
def strLen : Value → Nat | .string s => s.size | _ => 0
theorem bt_cons1 {r : ByteArray} {k m : UInt8} {u : List UInt8} (h : r.data.toList = k :: m :: u) : PlainAid.bt r 1 = (m.toNat : Int) := by
  have e := size_toList r
  rw [h, List.length_cons, List.length_cons] at e
  unfold PlainAid.bt
  rw [dif_pos (by omega)]
  have h2 : r.data.toList[1]'(by rw [h]; simp) = m := by simp [h]
  rw [← h2]
  rfl

set_option maxRecDepth 100000 in
set_option maxHeartbeats 2000000 in
theorem roptions_any (t : ByteArray) (ht : t.size ≤ 281474976710656) (w : World) :
    Calls Try.prog 16 #[.string t] w fun e W' => e = .returned (.tuple #[.bool (Op6.val t.data.toList), .int .i64 (Op6.err t.data.toList)]) ∧ w = W' := by
  go_enter Try.func16, Try.ntmps16
  go_wp2
  go_loop [0, 2, 3, 4, 5] (fun S _ _ F _ => ∃ (pre : List (List UInt8)) (r : ByteArray) (f : Bool), S = .string r ∧ F = .bool f ∧ Hid (Op6.items t.data.toList = pre ++ Op6.items r.data.toList) ∧ Hid (pre.any Op6.bad = false) ∧ Hid (f = pre.any Op6.look) ∧ r.size ≤ 281474976710656)
    (fun S _ _ _ _ => strLen S)
  case atStart => exact ⟨[], t, false, rfl, rfl, rfl, rfl, rfl, ht⟩
  case round =>
    obtain ⟨pre, r, f, rfl, rfl, hit, hbad, hf, hr⟩ := hrel
    clear ht
    have hbt := PlainAid.get_bt r
    have er := size_toList r
    obtain ⟨L, hL⟩ : ∃ L, L = r.data.toList := ⟨_, rfl⟩
    rcases L with _ | ⟨k, u⟩
    · -- nothing is left
      have hz : r.size = 0 := by rw [← er, ← hL]; rfl
      have hi2 : Op6.items t.data.toList = pre := by rw [hit.out, ← hL, Op6.items_nil, List.append_nil]
      have hg : Op6.good t.data.toList = true := by unfold Op6.good; rw [hi2, hbad.out]; rfl
      have hv : f = Op6.val t.data.toList := by rw [Op6.val_good hg, hf.out]; unfold Op6.found; rw [hi2]
      have he := Op6.err_good hg
      have HV := Lib.hid hv
      have HE := Lib.hid he
      clear er hL hi2 hg hv he
      go_wp2
      go_ret2
      exact ⟨by rw [HE.out, ← HV.out]; rfl, rfl⟩
    · have hb0 := bt_cons hL.symm
      have hz : r.size = u.length + 1 := by rw [← er, ← hL]; rfl
      have hpos : 0 < r.size := by omega
      by_cases hk : k = 0
      · -- a byte 0 is skipped
        have hb1 : (PlainAid.bt r 0 == 0) = true := by rw [hb0, hk]; rfl
        obtain ⟨r', hr'⟩ : ∃ x, x = r.extract 1 r.size := ⟨_, rfl⟩
        have hd : r'.data.toList = u := by
          rw [hr', data_extract, ← hL, List.drop_succ_cons, List.drop_zero, List.take_of_length_le (by omega)]
        have hs' : r'.size = u.length := by rw [← size_toList, hd]
        have hle : r'.size < r.size := by omega
        have hit' : Hid (Op6.items t.data.toList = pre ++ Op6.items r'.data.toList) := by show _ = _; rw [hit.out, ← hL, hk, Op6.items_pad, hd]
        have hr2 := hr'.symm
        clear hb0 hk hL hz hr' hd hs' er
        go_wp2
        go_round
        case rel => exact ⟨pre, r', f, rfl, rfl, hit', hbad, hf, by omega⟩
        case measure => simp only [strLen]; omega
      · have hb1 : (PlainAid.bt r 0 == 0) = false := by
          rw [hb0, beq_eq_false_iff_ne]
          intro e
          exact hk (UInt8.toNat_inj.1 (show k.toNat = (0 : UInt8).toNat by simpa using e))
        rcases u with _ | ⟨m, v⟩
        · -- one byte alone: there is no length
          have hi2 : Op6.items t.data.toList = pre ++ [[]] := by rw [hit.out, ← hL, Op6.items_end hk]
          have hg : Op6.good t.data.toList = false := Op6.bad_mem (x := []) (by rw [hi2]; simp) Op6.bad_nil
          have HV := Lib.hid (Op6.val_bad hg)
          have HE := Lib.hid (Op6.err_bad hg)
          have hz1 : r.size = 1 := by rw [hz]; rfl
          clear hb0 hk hL hz er hi2 hg
          go_wp2
          go_ret2
          exact ⟨by rw [HE.out, HV.out]; rfl, rfl⟩
        · have hm := m.toNat_lt
          have hz2 : r.size = v.length + 2 := by rw [hz]; rfl
          have hm1 := bt_cons1 hL.symm
          have hp2 : 2 ≤ r.size := by omega
          by_cases hsh : v.length < m.toNat
          · -- bytes are lacking
            have hi2 : Op6.items t.data.toList = pre ++ [[]] := by rw [hit.out, ← hL, Op6.items_short hk hsh]
            have hg : Op6.good t.data.toList = false := Op6.bad_mem (x := []) (by rw [hi2]; simp) Op6.bad_nil
            have HV := Lib.hid (Op6.val_bad hg)
            have HE := Lib.hid (Op6.err_bad hg)
            have hd : decide ((r.size : Int) - 2 < (m.toNat : Int)) = true := decide_eq_true (by omega)
            have hd2 : decide (r.size < 2) = false := decide_eq_false (by omega)
            clear hb0 hk hL hz hz2 er hi2 hg hsh
            go_wp2
            go_ret2
            exact ⟨by rw [HE.out, HV.out]; rfl, rfl⟩
          · -- an option
            have hd : decide ((r.size : Int) - 2 < (m.toNat : Int)) = false := decide_eq_false (by omega)
            obtain ⟨x, hx⟩ : ∃ x, x = k :: m :: v.take m.toNat := ⟨_, rfl⟩
            have hi2 : Op6.items t.data.toList = pre ++ x :: Op6.items (v.drop m.toNat) := by rw [hit.out, ← hL, Op6.items_next hk (by omega), hx]
            have hxl : x.length = 2 + m.toNat := by rw [hx, List.length_cons, List.length_cons, List.length_take]; omega
            have hxb : Op6.bad x = (k != 1 && ((k == 5 && x.length != 4) || decide (64 ≤ k.toNat))) := by rw [hx]; rfl
            obtain ⟨r', hr'⟩ : ∃ x, x = r.extract (2 + m.toNat) r.size := ⟨_, rfl⟩
            obtain ⟨X, hX⟩ : ∃ X, X = r.extract 0 (2 + m.toNat) := ⟨_, rfl⟩
            have hXl : X.data.toList = x := by
              rw [hX, data_extract, ← hL, List.drop_zero, Nat.sub_zero, Nat.add_comm 2 m.toNat, List.take_succ_cons, List.take_succ_cons, hx]
            have hlk : (X.toList == [5, 2, 0, 0]) = Op6.look x := by rw [Lib.toList_data, hXl]; rfl
            obtain ⟨q, hq⟩ : ∃ q, q = Op6.look x := ⟨_, rfl⟩
            rw [← hq] at hlk
            have hd' : r'.data.toList = v.drop m.toNat := by
              rw [hr', data_extract, ← hL, Nat.add_comm 2 m.toNat, List.drop_succ_cons, List.drop_succ_cons, List.take_of_length_le (by rw [List.length_drop]; omega)]
            have hs' : r'.size + 2 ≤ r.size := by rw [← size_toList r', hd', List.length_drop]; omega
            have hnext : Hid (Op6.items t.data.toList = (pre ++ [x]) ++ Op6.items r'.data.toList) := by show _ = _; rw [hi2, hd', List.append_assoc]; rfl
            have hup : Op6.bad x = true → Op6.val t.data.toList = false ∧ Op6.err t.data.toList = 3 := fun hb => by
              have hg : Op6.good t.data.toList = false := Op6.bad_mem (x := x) (by rw [hi2]; simp) hb
              exact ⟨Op6.val_bad hg, Op6.err_bad hg⟩
            have hon : Op6.bad x = false → (pre ++ [x]).any Op6.bad = false := fun hb => by rw [List.any_append, hbad.out]; simp [hb]
            have hfq : (f || q) = (pre ++ [x]).any Op6.look := by rw [List.any_append, ← hf.out, hq]; simp
            have HUP := Lib.hid hup
            have HON := Lib.hid hon
            have HFQ := Lib.hid hfq
            have hb2 : 2 + (m.toNat : Int) ≤ (r.size : Int) := by omega
            have hb3 : 0 ≤ 2 + (m.toNat : Int) := by omega
            have hr2 := hr'.symm
            have hX2 := hX.symm
            have hc : ∀ c : UInt8, (PlainAid.bt r 0 == (c.toNat : Int)) = (k == c) := by
              intro c
              rw [hb0, Bool.eq_iff_iff, beq_iff_eq, beq_iff_eq, ← UInt8.toNat_inj]
              omega
            have hn : ∀ c : UInt8, (PlainAid.bt r 0 != (c.toNat : Int)) = (k != c) := by
              intro c
              unfold bne
              rw [hc c]
            have n1 : (PlainAid.bt r 0 != 1) = (k != 1) := hn 1
            have n5 : (PlainAid.bt r 0 != 5) = (k != 5) := hn 5
            have q5 : (PlainAid.bt r 0 == 5) = (k == 5) := hc 5
            have d64 : decide (64 ≤ PlainAid.bt r 0) = decide (64 ≤ k.toNat) := by rw [hb0]; exact decide_eq_decide.2 (by omega)
            have l4 : (2 + (m.toNat : Int) != 4) = (x.length != 4) := by rw [Bool.eq_iff_iff, bne_iff_ne, bne_iff_ne, hxl]; omega
            by_cases k1 : k = 1
            · rw [k1] at n1 q5
              have hok := hon (by rw [hxb, k1]; rfl)
              have HOK := Lib.hid hok
              clear hb0 hk hL hz hz2 er hi2 hsh hr' hd' hx hxl hxb hX hXl hq hup hon hfq hc hn n5 d64 l4 k1 hok
              rcases q with _ | _
              all_goals
                go_wp2
                go_round
                case rel => exact ⟨pre ++ [x], r', _, by first | rfl | rw [hr2], rfl, hnext, HOK, by have h := HFQ.out; (first | (rw [Bool.or_false] at h; exact h) | (rw [Bool.or_true] at h; exact h)), by omega⟩
                case measure => (simp only [strLen]; first | omega | (rw [hr2]; omega))
            · have k1' : (k != 1) = true := by simp [k1]
              rw [k1'] at n1 hxb
              by_cases k5 : k = 5
              · rw [k5] at n5 q5
                have hxb2 : Op6.bad x = (x.length != 4) := by rw [hxb, k5]; simp
                obtain ⟨b4, e4⟩ : ∃ b, b = (x.length != 4) := ⟨_, rfl⟩
                rw [← e4] at l4 hxb2
                rcases b4 with _ | _
                · have HOK := Lib.hid (hon hxb2)
                  clear hb0 hk hL hz hz2 er hi2 hsh hr' hd' hx hxl hxb hX hXl hq hup hon hfq hc hn d64 k1 k5 hxb2 e4 k1'
                  rcases q with _ | _
                  all_goals
                    go_wp2
                    go_round
                    case rel => exact ⟨pre ++ [x], r', _, by first | rfl | rw [hr2], rfl, hnext, HOK, by have h := HFQ.out; (first | (rw [Bool.or_false] at h; exact h) | (rw [Bool.or_true] at h; exact h)), by omega⟩
                    case measure => (simp only [strLen]; first | omega | (rw [hr2]; omega))
                · obtain ⟨hv, he⟩ := hup hxb2
                  have HV := Lib.hid hv
                  have HE := Lib.hid he
                  clear hb0 hk hL hz hz2 er hi2 hsh hr' hd' hx hxl hxb hX hXl hq hup hon hfq hc hn d64 k1 k5 hxb2 e4 hv he k1'
                  go_wp2
                  go_ret2
                  exact ⟨by rw [HE.out, HV.out]; rfl, rfl⟩
              · have k5' : (k != 5) = true := by simp [k5]
                have k5'' : (k == 5) = false := by simp [k5]
                rw [k5'] at n5
                rw [k5''] at q5 hxb
                have hxb2 : Op6.bad x = decide (64 ≤ k.toNat) := by rw [hxb]; simp
                obtain ⟨b6, e6⟩ : ∃ b, b = decide (64 ≤ k.toNat) := ⟨_, rfl⟩
                rw [← e6] at d64 hxb2
                rcases b6 with _ | _
                · have HOK := Lib.hid (hon hxb2)
                  clear hb0 hk hL hz hz2 er hi2 hsh hr' hd' hx hxl hxb hX hXl hq hup hon hfq hc hn l4 k1 k5 hxb2 e6 k1' k5' k5''
                  rcases q with _ | _
                  all_goals
                    go_wp2
                    go_round
                    case rel => exact ⟨pre ++ [x], r', _, by first | rfl | rw [hr2], rfl, hnext, HOK, by have h := HFQ.out; (first | (rw [Bool.or_false] at h; exact h) | (rw [Bool.or_true] at h; exact h)), by omega⟩
                    case measure => (simp only [strLen]; first | omega | (rw [hr2]; omega))
                · obtain ⟨hv, he⟩ := hup hxb2
                  have HV := Lib.hid hv
                  have HE := Lib.hid he
                  clear hb0 hk hL hz hz2 er hi2 hsh hr' hd' hx hxl hxb hX hXl hq hup hon hfq hc hn l4 k1 k5 hxb2 e6 hv he k1' k5' k5''
                  go_wp2
                  go_ret2
                  exact ⟨by rw [HE.out, HV.out]; rfl, rfl⟩

def ROpts (s : ByteArray) (v : Bool) (x : Int) : Prop :=
  ∀ w : World, Calls Try.prog 16 #[.string s] w fun e w' => e = .returned (.tuple #[.bool v, .int .i64 x]) ∧ w = w'
theorem ROpts.to {s : ByteArray} {v : Bool} {x : Int} (h : ROpts s v x) (w : World) : Calls Try.prog 16 #[.string s] w fun e w' => e = .returned (.tuple #[.bool v, .int .i64 x]) ∧ w = w' := h w
end Go.Proofs.Ytjhppbooakekcaa
