/- Contracts of the helpers of the exact laws on patterns (a struct with one slice of bools). Conditions: lengths at most 2^20 where memory is made. -/
import Derived.Test.YtelajonddhoafaaBools
import Derived.Laws.ResultCell
import Derived.Deep.RegionHeld3
namespace Go.Proofs.Ytelajonddhoafaa
set_option linter.unusedVariables false
open Go.RowKit

/-- a struct of one slice in new memory -/
def RetP (w : World) (E size n : Nat) (xs : List Value) (e : Ending) (w' : World) : Prop :=
  ∃ A c, e = .returned (.agg #[.slice A n c]) ∧ w'.ownsRow w.heap.size E size (.slice A n c) n xs ∧ Below w.heap.size w w'

theorem grownBy_of_alloc {w w' : World} {o : Obj} {row : Option Nat} (h : (w.alloc o).grownBy w' row) : w.grownBy w' row := by
  have ha := World.grownBy_alloc w o row
  exact ⟨h.os.trans ha.os, h.tape.trans ha.tape, h.output.trans ha.output, Nat.le_trans ha.size h.size, fun k hk hne => (h.block k (by simp; omega) hne).trans (ha.block k hk hne)⟩
/-- 1 to 32 steps -/
def patL (zs : List Bool) : Bool := inR zs.length 1 32
theorem impl_PatternValid (A : Option Addr) (c : Nat) (zs : List Bool) (w : World) :
    Calls Try.prog 10 #[.agg #[.slice A zs.length c]] w fun e w' => e = .returned (.bool (patL zs)) ∧ w.alloc (.cells #[.slice A zs.length c] 25) = w' := by
  go_enter Try.func10, Try.ntmps10
  go_wp2_with (go_at_call 32; refine (impl_within _ _ _ _).mono ?_; rintro e w' ⟨rfl, rfl⟩)
  go_ret
  exact ⟨rfl, rfl⟩
theorem impl_PatternValid_b (A : Option Addr) (c : Nat) (zs : List Bool) (w : World) : Calls Try.prog 10 #[.agg #[.slice A zs.length c]] w (RetB w (patL zs)) :=
  (impl_PatternValid A c zs w).mono fun _ _ ⟨h, e⟩ => ⟨h, by subst e; exact (Below.refl _ _).alloc (Nat.le_refl _) _⟩
theorem impl_PatternValid_n (A : Option Addr) (c n : Nat) (w : World) : Calls Try.prog 10 #[.agg #[.slice A n c]] w (RetB w (inR n 1 32)) := by
  have h := impl_PatternValid_b A c (List.replicate n false) w
  rw [patL, List.length_replicate] at h; exact h
theorem spec_PatternValid (A : Option Addr) (c : Nat) (zs : List Bool) (w : World) :
    Calls Try.prog 11 #[.agg #[.slice A zs.length c]] w fun e w' => e = .returned (.bool (patL zs)) ∧ w.alloc (.cells #[.slice A zs.length c] 25) = w' := by
  go_enter Try.func11, Try.ntmps11
  go_wp2_with (go_at_call 33; refine (spec_l1In _ _ _ _).mono ?_; rintro e w' ⟨rfl, rfl⟩)
  go_ret
  exact ⟨rfl, rfl⟩
theorem spec_PatternValid_b (A : Option Addr) (c : Nat) (zs : List Bool) (w : World) : Calls Try.prog 11 #[.agg #[.slice A zs.length c]] w (RetB w (patL zs)) :=
  (spec_PatternValid A c zs w).mono fun _ _ ⟨h, e⟩ => ⟨h, by subst e; exact (Below.refl _ _).alloc (Nat.le_refl _) _⟩
theorem spec_PatternValid_n (A : Option Addr) (c n : Nat) (w : World) : Calls Try.prog 11 #[.agg #[.slice A n c]] w (RetB w (inR n 1 32)) := by
  have h := spec_PatternValid_b A c (List.replicate n false) w
  rw [patL, List.length_replicate] at h; exact h
end Go.Proofs.Ytelajonddhoafaa
