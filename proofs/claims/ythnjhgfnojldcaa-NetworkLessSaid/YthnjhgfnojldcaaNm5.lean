/- Networks of chapter 31, plain: a network without a link, and with a weaker one. -/
import Derived.Test.YthnjhgfnojldcaaNm4
namespace Go.Nw

def noNet : Net := ⟨0, [], 0, 0, [], []⟩
def woN (n : Net) (i : Nat) : Net := ⟨n.nodes, n.power, n.noise, n.thr, n.links.eraseIdx i, n.margin.eraseIdx i⟩
def wkN (n : Net) (i : Nat) (more : Int) : Net := ⟨n.nodes, n.power, n.noise, n.thr, n.links.set i ((lnk n i).1, (lnk n i).2.1, (lnk n i).2.2 + more), n.margin⟩
def withoutR (n : Net) (a b : Int) : Net × Int :=
  if checkE n ≠ 0 then (noNet, 1) else if findE n a b < 0 then (noNet, 7) else (woN n (findE n a b).toNat, 0)
def weakerR (n : Net) (a b more : Int) : Net × Int :=
  if checkE n ≠ 0 then (noNet, 1) else if findE n a b < 0 then (noNet, 7)
  else if more < 0 ∨ 7 - (lnk n (findE n a b).toNat).2.2 < more then (noNet, 2) else (wkN n (findE n a b).toNat more, 0)
end Go.Nw
