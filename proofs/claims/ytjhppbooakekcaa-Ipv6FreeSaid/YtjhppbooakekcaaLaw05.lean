/-
  The walks of chapter 05's laws, but for 'Ipv6Free': each returns true and leaves what was there alone. Conditions: a text's length lies within the form's own reach, the numbers are of their kind.
-/
import Derived.Test.YtjhppbooakekcaaV6Law
import Derived.Test.YtjhppbooakekcaaRV6Dec
import Derived.Test.YtjhppbooakekcaaRV6Enc
namespace Go.Proofs.Ytjhppbooakekcaa
open Go.RowKit

theorem ball {w a : World} (h : Below w.heap.size w a) (o : Obj) : Below w.heap.size w (a.alloc o) := h.alloc h.size o

def oneT : ByteArray := ⟨#[48, 49, 50, 51, 52, 53, 54, 55, 56, 57, 97, 98, 99, 100, 101, 102]⟩
def twoT : ByteArray := ⟨#[255, 2, 0, 0, 0, 0, 0, 0, 0, 0, 0, 0, 0, 0, 0, 22]⟩
def oneX : ByteArray := ⟨#[120]⟩

set_option maxRecDepth 100000 in
set_option maxHeartbeats 1000000 in
theorem live05 (w : World) : Calls Try.prog 12 #[] w fun e w' => e = .returned (.bool true) ∧ Below w.heap.size w w' := by
  obtain ⟨L, hL⟩ : ∃ L : ByteArray, L = ⟨(V6.enc 1 58 oneT.data.toList twoT.data.toList true oneX.data.toList).toArray⟩ := ⟨_, rfl⟩
  have hs : L.size = 49 := by rw [hL, size_mk, V6.enc_length _ _ _ _ _ _ rfl rfl]; rfl
  have hE : Enc6 1 58 ⟨#[48, 49, 50, 51, 52, 53, 54, 55, 56, 57, 97, 98, 99, 100, 101, 102]⟩ ⟨#[255, 2, 0, 0, 0, 0, 0, 0, 0, 0, 0, 0, 0, 0, 0, 22]⟩ true ⟨#[120]⟩ L 0 := by
    rw [hL]; exact enc6_ok 1 58 oneT twoT oneX true rfl rfl (by decide) (by decide) (by decide) (by decide)
  have hD : Dec6 L (.agg #[.int .i64 1, .int .i64 58, .string ⟨#[48, 49, 50, 51, 52, 53, 54, 55, 56, 57, 97, 98, 99, 100, 101, 102]⟩, .string ⟨#[255, 2, 0, 0, 0, 0, 0, 0, 0, 0, 0, 0, 0, 0, 0, 22]⟩, .bool true, .string ⟨#[120]⟩]) 0 :=
    dec6_enc L oneT twoT oneX 1 58 true 96 0 0 0 [] (by decide) rfl rfl (by decide) (by decide) (by decide) (by decide) (by rw [hL, List.append_nil]; rfl) (by omega)
  have hO1 : Opts ⟨#[5, 2, 0, 0, 1, 0]⟩ true 0 := by
    have h := opts_any ⟨#[5, 2, 0, 0, 1, 0]⟩ (by decide)
    rw [Op6.val_good V6.good_look, Op6.err_good V6.good_look] at h
    have e : Op6.found (⟨#[5, 2, 0, 0, 1, 0]⟩ : ByteArray).data.toList = true := V6.found_look
    rw [e] at h
    exact h
  have hO2 : Opts ⟨#[194, 1, 0]⟩ false 3 := by
    have h := opts_any ⟨#[194, 1, 0]⟩ (by decide)
    have hi : Op6.items [194, 1, 0] = [[194, 1, 0]] := by
      rw [Op6.items_next (by decide) (by decide)]
      show _ :: Op6.items [] = _
      rw [Op6.items_nil]; rfl
    have hg : Op6.good (⟨#[194, 1, 0]⟩ : ByteArray).data.toList = false := by
      show Op6.good [194, 1, 0] = false
      unfold Op6.good; rw [hi]; rfl
    rw [Op6.val_bad hg, Op6.err_bad hg] at h
    exact h
  have hN : Dec6 ⟨#[]⟩ (.agg #[.int .i64 0, .int .i64 0, .string ⟨#[]⟩, .string ⟨#[]⟩, .bool false, .string ⟨#[]⟩]) 2 := dec6_cut ⟨#[]⟩ (by decide)
  clear hL
  go_enter Try.func12, Try.ntmps12
  go_wp2_with (first | ((with_reducible refine (hO1.to _).mono ?_); rintro e w1 ⟨rfl, g1⟩) | ((with_reducible refine (hO2.to _).mono ?_); rintro e w2 ⟨rfl, g2⟩) | ((with_reducible refine (hE.to _).mono ?_); rintro e w3 ⟨rfl, g3⟩; have B3 := (Box6.new _ _ _ _ _ _ _ _).below g3) | ((with_reducible refine (hD.to _).mono ?_); rintro e w4 ⟨rfl, g4⟩; have B4 := B3.below g4) | ((with_reducible refine (hN.to _).mono ?_); rintro e w5 ⟨rfl, g5⟩; obtain ⟨y1, c0, c1, c2, c3, c4, c5, cf⟩ := (B4.below (bbox1 _ _)).below g5; obtain ⟨y2, d0, d1, d2, d3, d4, d5, df⟩ := (Box6.new _ _ _ _ _ _ _ _).below g5))
  go_ret
  exact ⟨rfl, ball (bstep (ball (bstep (bstep (ball (bstep g1 g2) _) g3) g4) _) g5) _⟩
end Go.Proofs.Ytjhppbooakekcaa
