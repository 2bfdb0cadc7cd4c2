/- This session's texts for the claim, joined and shortened by this session's own program pack.py: what the claim does not need is struck. Part: GEncS. -/
import Derived.Test.YtkdfilpinlebbaaDoorQSpec04
import Derived.Test.YtkdfilpinlebbaaDoorQW0
set_option linter.unusedVariables false
namespace Go.Proofs.YtkdfilpinlebbaaDoor.G
open Go Go.RowKit Go.Proofs.YtkdfilpinlebbaaDoorW.PrintWords
def natI (n : Nat) : List Int := if h : n < 128 then [(n : Int)] else ((n % 128 + 128 : Nat) : Int) :: natI (n / 128)
def bytI (s : List UInt8) : List Int := s.map fun c => (c.toNat : Int)
def encI (x : Nm) : List Int :=
  natI x.k.toNat ++ ((if ownB x.k.toNat then natI x.o.length ++ bytI x.o else []) ++ ((if numB x.k.toNat then natI x.n.toNat else []) ++ ((if 0 ≤ mostI x.k.toNat then natI x.i.toNat else []) ++ (if txtB x.k.toNat then natI x.t.length ++ bytI x.t else []))))
def g_Encode.f (a0 : Int) (a1 : ByteArray) (a2 a3 : Int) (a4 : ByteArray) : Option (ByteArray × Int) :=
  if a1.size ≤ 1000000 then (if a4.size ≤ 1000000 then (if chk ⟨a0, a1.data.toList, a2, a3, a4.data.toList⟩ = 0 then some (strOfNums (encI ⟨a0, a1.data.toList, a2, a3, a4.data.toList⟩), 0)
    else some (⟨#[]⟩, chk ⟨a0, a1.data.toList, a2, a3, a4.data.toList⟩)) else none) else none
end Go.Proofs.YtkdfilpinlebbaaDoor.G
