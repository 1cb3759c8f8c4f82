/- Words on patterns for the laws over draws. No condition. -/
import Derived.Test.YtnkoijkelcjloaaPat
import Derived.Test.YtnkoijkelcjloaaMrg1
namespace Go.Proofs.Ytnkoijkelcjloaa
set_option linter.unusedVariables false
open Go.RowKit
theorem RdBo.al {w : World} {B : Nat} {A : Option Addr} {zs : List Bool} (h : RdBo w B A zs) (hB : B ≤ w.heap.size) (o : Obj) : RdBo (w.alloc o) B A zs := Rd.alloc h hB o
theorem RdBo.drewN {w : World} {B : Nat} {A : Option Addr} {zs : List Bool} (h : RdBo w B A zs) (k : Nat) : RdBo (w.drewN k) B A zs := h
end Go.Proofs.Ytnkoijkelcjloaa
