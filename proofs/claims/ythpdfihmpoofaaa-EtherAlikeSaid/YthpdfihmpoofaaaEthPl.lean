/-
  Ethernet frames in bytes, with no program in sight. Conditions: none.
-/
import Derived.Test.YthpdfihmpoofaaaPl
namespace Go.Proofs.Ythpdfihmpoofaaa.Et
/-- a tag's bytes -/
def tag (tg : Bool) (vl pr : Nat) : List UInt8 := if tg then Pl.be 2 33024 ++ Pl.be 2 (pr * 8192 + vl) else []
/-- a frame's bytes -/
def enc (dst src : List UInt8) (tg : Bool) (vl pr ty : Nat) (data : List UInt8) : List UInt8 := dst ++ src ++ tag tg vl pr ++ Pl.be 2 ty ++ data
theorem tag_length (tg : Bool) (vl pr : Nat) : (tag tg vl pr).length = if tg then 4 else 0 := by cases tg <;> simp [tag, Pl.be_length]
theorem enc_length (dst src : List UInt8) (tg : Bool) (vl pr ty : Nat) (data : List UInt8) (h1 : dst.length = 6) (h2 : src.length = 6) : (enc dst src tg vl pr ty data).length = 14 + (if tg then 4 else 0) + data.length := by
  simp [enc, tag_length, Pl.be_length, h1, h2]; omega
end Go.Proofs.Ythpdfihmpoofaaa.Et
