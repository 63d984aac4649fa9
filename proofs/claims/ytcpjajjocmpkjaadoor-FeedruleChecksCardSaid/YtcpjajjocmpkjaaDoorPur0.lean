/- The empty environment of pure functions. No condition. -/
import Derived.Test.YtcpjajjocmpkjaaDoorProg
import Derived.Test.YtcpjajjocmpkjaaDoorSound
namespace Go.Proofs.YtcpjajjocmpkjaaDoor
def pur0 (_ : FuncId) (_ : List Value) : Option (Option Prop × Value) := none
theorem pur0_ok {l : List (Nat × List (Nat × Ck))} {t : List (Nat × Nat)} {j : List (Nat × List (Nat × Ck))} {b : List (Nat × Unit)} : PurOK { P := Tryd.prog, loops := l, pur := pur0, tails := t, joins := j, boxes := b } := fun f args p v h => by simp [pur0] at h
end Go.Proofs.YtcpjajjocmpkjaaDoor
