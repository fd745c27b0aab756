/- Trees as plain data. -/
import Derived.KernelRfl
namespace Go.Proofs.Ytgdbbocfiejlfaa

/-- An attribute: its name, its value. -/
abbrev Pr := ByteArray × ByteArray
/-- A node, its kids of some kind. -/
structure Nd (K : Type) where
  k : Int
  n : ByteArray
  v : ByteArray
  as : List Pr
  ks : List K
/-- A tree at most so high. -/
def Tr : Nat → Type
  | 0 => Empty
  | h + 1 => Nd (Tr h)
def kindT : (h : Nat) → Tr h → Int
  | 0, t => nomatch t
  | _ + 1, t => Nd.k t
end Go.Proofs.Ytgdbbocfiejlfaa
