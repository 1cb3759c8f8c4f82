/- Contracts of the draws of two numbers and of levels. No condition but bounds on the bytes. -/
import Derived.Test.YtfmdpnnddhelaaaDraw
import Derived.Deep.RegionWith
namespace Go.Proofs.Ytfmdpnnddhelaaa
set_option linter.unusedVariables false
open Go.RowKit
set_option linter.unusedSimpArgs false
theorem only_frozen {w w' : World} {g : Nat} (hg : w.grownBy w' (some g)) : ∀ b o : Nat, ¬ b = g → b < w.heap.size → w'.frozen? ⟨b, o, none⟩ = w.frozen? ⟨b, o, none⟩ :=
  fun b o hb hl => World.frozen?_of_block (hg.block b hl (by simpa using hb))
theorem RdY.alloc1 {w : World} {A : Option Addr} {zs : List Int} (h : RdY w w.heap.size A zs) (o : Obj) : RdY (w.alloc o) (w.alloc o).heap.size A zs :=
  Rd.more (RdY.below h ((Below.refl _ _).alloc (Nat.le_refl _) _) (Nat.le_refl _)) (by simp)
end Go.Proofs.Ytfmdpnnddhelaaa
