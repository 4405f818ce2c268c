/-
  The tree's messages in bytes, with no program in sight. Conditions: none.
-/
import Derived.Test.YthleobklagjlbaaPl
namespace Go.Proofs.Ythleobklagjlbaa.Bp

/-- the flags: two bits that are always there, and three that are told -/
def flags (x y z : Bool) : Nat := 12 + (if x then 1 else 0) + (if y then 16 else 0) + (if z then 32 else 0)
theorem flags_lt (x y z : Bool) : flags x y z < 64 := by cases x <;> cases y <;> cases z <;> decide

def front : List UInt8 := [66, 66, 3, 0, 0, 2, 2]
def back : List UInt8 := [0, 20, 0, 2, 0, 15, 0, 0]
/-- a message's bytes -/
def enc (r c b p a : Nat) (x y z : Bool) : List UInt8 :=
  front ++ Pl.be 1 (flags x y z) ++ Pl.be 8 r ++ Pl.be 4 c ++ Pl.be 8 b ++ Pl.be 2 p ++ Pl.be 1 a ++ back
theorem enc_length (r c b p a : Nat) (x y z : Bool) : (enc r c b p a x y z).length = 39 := by
  simp [enc, front, back, Pl.be_length]

/-- what a message's bytes say -/
def root (l : List UInt8) : Nat := Pl.num ((l.drop 8).take 8)
def cost (l : List UInt8) : Nat := Pl.num ((l.drop 16).take 4)
def bridge (l : List UInt8) : Nat := Pl.num ((l.drop 20).take 8)
def port (l : List UInt8) : Nat := Pl.num ((l.drop 28).take 2)
def age (l : List UInt8) : Nat := Pl.num ((l.drop 30).take 1)
def bit (l : List UInt8) (k : Nat) : Bool := (l.getD 7 0).toNat / 2 ^ k % 2 == 1
/-- are they a message's? -/
def pre (l : List UInt8) : Bool := l.take 7 == front
def good (l : List UInt8) : Bool := pre l && (l.getD 31 0 == 0) && (l.getD 38 0 == 0)
end Go.Proofs.Ythleobklagjlbaa.Bp
