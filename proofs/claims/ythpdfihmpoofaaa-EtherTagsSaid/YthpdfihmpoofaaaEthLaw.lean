/-
  What is encoded is decoded, and what is decoded is encoded: ether's plain law. Conditions: those of each case.
-/
import Derived.Test.YthpdfihmpoofaaaREthEnc
import Derived.Test.YthpdfihmpoofaaaREthDec
namespace Go.Proofs.Ythpdfihmpoofaaa
open Go.RowKit

theorem enc_tail (dst src : List UInt8) (tg : Bool) (vl pr ty : Nat) (data : List UInt8) (h1 : dst.length = 6) (h2 : src.length = 6) : (Et.enc dst src tg vl pr ty data).drop 12 = Et.tag tg vl pr ++ (Pl.be 2 ty ++ data) := by
  unfold Et.enc
  rw [List.append_assoc, List.append_assoc]
  exact List.drop_left' (by rw [List.length_append]; omega)
theorem take2_be (n : Nat) (l : List UInt8) : (Pl.be 2 n ++ l).take 2 = Pl.be 2 n := List.take_left' (Pl.be_length _ _)
theorem drop2_be (n : Nat) (l : List UInt8) : (Pl.be 2 n ++ l).drop 2 = l := List.drop_left' (Pl.be_length _ _)
theorem at2_drop (s : ByteArray) (a b : Nat) {l : List UInt8} (h : s.data.toList.drop a = l) : at2 s (a + b) = Pl.num ((l.drop b).take 2) := by
  unfold at2; rw [← h, List.drop_drop]

/-- the bytes of a frame are that frame -/
theorem frcase_enc (dst src data s : ByteArray) (tg : Bool) (vl pr ty : Nat) (hg : Good3 dst src tg vl pr ty data) (hs : s = ⟨(Et.enc dst.data.toList src.data.toList tg vl pr ty data.data.toList).toArray⟩) :
    14 ≤ s.size ∧ s.size ≤ 2018 ∧ s.extract 0 6 = dst ∧ s.extract 6 12 = src ∧ FrCase s dst src (fr dst src tg vl pr ty data) 0 := by
  obtain ⟨k1, k2, k3, k4, k5, k6, k7, k8, k9, k10⟩ := hg
  have l1 := size_toList dst
  have l2 := size_toList src
  have l3 := size_toList data
  have hd : s.data.toList = Et.enc dst.data.toList src.data.toList tg vl pr ty data.data.toList := by rw [hs]
  have hz : s.size = 14 + (if tg then 4 else 0) + data.size := by rw [hs, size_mk, Et.enc_length _ _ _ _ _ _ _ (by omega) (by omega), l3]
  have hT := enc_tail dst.data.toList src.data.toList tg vl pr ty data.data.toList (by omega) (by omega)
  rw [← hd] at hT
  have n1 : Pl.num (Pl.be 2 ty) = ty := Pl.num_be_of_lt (by omega)
  refine ⟨by omega, by rw [hz]; cases tg <;> simp <;> omega, ?_, ?_, ?_⟩
  · apply ba_eq
    rw [data_extract, hd]
    unfold Et.enc
    rw [List.append_assoc, List.append_assoc, List.append_assoc]
    exact List.take_left' (by omega)
  · apply ba_eq
    rw [data_extract, hd]
    unfold Et.enc
    rw [List.append_assoc, List.append_assoc, List.append_assoc, List.drop_left' (by omega)]
    exact List.take_left' (by omega)
  · cases tg
    · have e : s.data.toList.drop 12 = Pl.be 2 ty ++ data.data.toList := hT
      have a1 : at2 s 12 = ty := by rw [at2_drop s 12 0 e, List.drop_zero, take2_be, n1]
      have hk : ty ≠ 33024 := by
        rcases k10 with k | ⟨_, _, k⟩
        · cases k
        · omega
      have hvl : (vl : Int) = 0 ∧ (pr : Int) = 0 := by
        rcases k10 with k | ⟨x, y, _⟩
        · cases k
        · exact ⟨x, y⟩
      refine .inl ⟨by omega, by simp at hz; omega, data, ?_, ?_, rfl⟩
      · apply ba_eq
        rw [from_data, show 14 = 12 + 2 from rfl, ← List.drop_drop, e, drop2_be]
      · rw [a1, hvl.1, hvl.2]
    · have e : s.data.toList.drop 12 = Pl.be 2 33024 ++ (Pl.be 2 (pr * 8192 + vl) ++ (Pl.be 2 ty ++ data.data.toList)) := by
        rw [hT, Et.tag, if_pos rfl, List.append_assoc]
      have a1 : at2 s 12 = 33024 := by rw [at2_drop s 12 0 e, List.drop_zero, take2_be]; decide
      have e4 : s.data.toList.drop 14 = Pl.be 2 (pr * 8192 + vl) ++ (Pl.be 2 ty ++ data.data.toList) := by rw [show 14 = 12 + 2 from rfl, ← List.drop_drop, e, drop2_be]
      have e6 : s.data.toList.drop 16 = Pl.be 2 ty ++ data.data.toList := by rw [show 16 = 14 + 2 from rfl, ← List.drop_drop, e4, drop2_be]
      have a2 : at2 s 14 = pr * 8192 + vl := by rw [at2_drop s 14 0 e4, List.drop_zero, take2_be]; exact Pl.num_be_of_lt (by omega)
      have a3 : at2 s 16 = ty := by rw [at2_drop s 16 0 e6, List.drop_zero, take2_be, n1]
      simp only [if_true] at hz
      refine .inr (.inr (.inr (.inr (.inr ⟨a1, by omega, by omega, by omega, by omega, data, ?_, ?_, rfl⟩))))
      · apply ba_eq
        rw [from_data, show 18 = 16 + 2 from rfl, ← List.drop_drop, e6, drop2_be]
      · rw [a2, a3]
        have v1 : (pr * 8192 + vl) % 4096 = vl := by omega
        have v2 : (pr * 8192 + vl) / 8192 = pr := by omega
        rw [v1, v2]
theorem dec_enc (dst src data : ByteArray) (tg : Bool) (vl pr ty : Nat) (hg : Good3 dst src tg vl pr ty data) : DecE ⟨(Et.enc dst.data.toList src.data.toList tg vl pr ty data.data.toList).toArray⟩ (fr dst src tg vl pr ty data) 0 := by
  obtain ⟨h1, h2, h3, h4, h5⟩ := frcase_enc dst src data _ tg vl pr ty hg rfl
  exact fun w => ethdec_in _ dst src _ 0 h1 (by omega) h3 h4 h5 w

/-- a frame out of bytes has those bytes -/
theorem enc_dec (s : ByteArray) (hl : s.size ≤ 140737488351232) : (∃ x, DecE s zeroF x ∧ x ≠ 0) ∨ (∃ dst src tg data, ∃ vl pr ty : Nat, DecE s (fr dst src tg vl pr ty data) 0 ∧ EncE dst src tg vl pr ty data s 0) := by
  by_cases hs : s.size < 14
  · exact .inl ⟨2, fun w => ethdec_cut s hs w, by decide⟩
  · have run : ∀ v x, FrCase s (s.extract 0 6) (s.extract 6 12) v x → DecE s v x := fun v x h w => ethdec_in s _ _ v x (by omega) (by omega) rfl rfl h w
    have hK := at2_lt s 12
    have hT := at2_lt s 14
    have hY := at2_lt s 16
    have z1 : (s.extract 0 6).size = 6 := by rw [ByteArray.size_extract]; omega
    have z2 : (s.extract 6 12).size = 6 := by rw [ByteArray.size_extract]; omega
    have ls := size_toList s
    have cut : ∀ a, a + 2 ≤ s.size → s.data.toList.drop a = Pl.be 2 (at2 s a) ++ s.data.toList.drop (a + 2) := by
      intro a ha
      have h : Pl.be 2 (at2 s a) = (s.data.toList.drop a).take 2 := Pl.be_num' (by rw [List.length_take, List.length_drop]; omega)
      rw [h, ← List.drop_drop, List.take_append_drop]
    have head : s.data.toList = (s.extract 0 6).data.toList ++ ((s.extract 6 12).data.toList ++ s.data.toList.drop 12) := by
      rw [data_extract, data_extract]
      have h1 : s.data.toList = s.data.toList.take 6 ++ s.data.toList.drop 6 := (List.take_append_drop _ _).symm
      have h2 : s.data.toList.drop 6 = (s.data.toList.drop 6).take 6 ++ s.data.toList.drop 12 := by
        rw [show 12 = 6 + 6 from rfl, ← List.drop_drop, List.take_append_drop]
      exact h1.trans (congrArg (fun l => s.data.toList.take 6 ++ l) h2)
    by_cases hk : at2 s 12 = 33024
    · by_cases h18 : s.size < 18
      · exact .inl ⟨2, run _ _ (.inr (.inr (.inl ⟨hk, h18, rfl, rfl⟩))), by decide⟩
      · by_cases hb : at2 s 14 / 4096 % 2 = 1 ∨ at2 s 14 % 4096 = 4095
        · exact .inl ⟨3, run _ _ (.inr (.inr (.inr (.inl ⟨hk, by omega, hb, rfl, rfl⟩)))), by decide⟩
        · by_cases hz : 2018 < s.size
          · exact .inl ⟨3, run _ _ (.inr (.inr (.inr (.inr (.inl ⟨hk, by omega, by omega, by omega, hz, rfl, rfl⟩))))), by decide⟩
          · refine .inr ⟨_, _, _, _, _, _, _, run _ _ (.inr (.inr (.inr (.inr (.inr ⟨hk, by omega, by omega, by omega, by omega, _, rfl, rfl, rfl⟩))))), ?_⟩
            have h := ence_ok (s.extract 0 6) (s.extract 6 12) (s.extract 18 s.size) true (at2 s 14 % 4096) (at2 s 14 / 8192) (at2 s 16) ⟨z1, z2, by rw [ByteArray.size_extract]; omega, by omega, by omega, by omega, by omega, by omega, by omega, .inl rfl⟩
            have e : (⟨(Et.enc (s.extract 0 6).data.toList (s.extract 6 12).data.toList true (at2 s 14 % 4096) (at2 s 14 / 8192) (at2 s 16) (s.extract 18 s.size).data.toList).toArray⟩ : ByteArray) = s := by
              apply ba_eq
              show Et.enc _ _ _ _ _ _ _ = _
              unfold Et.enc Et.tag
              rw [if_pos rfl, from_data, show at2 s 14 / 8192 * 8192 + at2 s 14 % 4096 = at2 s 14 by omega]
              conv => rhs; rw [head, cut 12 (by omega), hk, cut 14 (by omega), cut 16 (by omega)]
              simp only [List.append_assoc]
            rw [e] at h
            exact h
    · by_cases hz : 2014 < s.size
      · exact .inl ⟨3, run _ _ (.inr (.inl ⟨hk, hz, rfl, rfl⟩)), by decide⟩
      · refine .inr ⟨_, _, _, _, _, _, _, run _ _ (.inl ⟨hk, by omega, _, rfl, rfl, rfl⟩), ?_⟩
        have h := ence_ok (s.extract 0 6) (s.extract 6 12) (s.extract 14 s.size) false 0 0 (at2 s 12) ⟨z1, z2, by rw [ByteArray.size_extract]; omega, by omega, by omega, by omega, by omega, by omega, by omega, .inr ⟨rfl, rfl, by omega⟩⟩
        have e : (⟨(Et.enc (s.extract 0 6).data.toList (s.extract 6 12).data.toList false 0 0 (at2 s 12) (s.extract 14 s.size).data.toList).toArray⟩ : ByteArray) = s := by
          apply ba_eq
          show Et.enc _ _ _ _ _ _ _ = _
          unfold Et.enc Et.tag
          rw [if_neg (by decide), from_data]
          conv => rhs; rw [head, cut 12 (by omega)]
          simp only [List.append_assoc, List.nil_append]
        rw [e] at h
        exact h
end Go.Proofs.Ythpdfihmpoofaaa
