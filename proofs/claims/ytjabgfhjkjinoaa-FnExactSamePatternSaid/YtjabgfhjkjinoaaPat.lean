/- Contracts of the helpers of the exact laws on patterns (a struct with one slice of bools). Conditions: lengths at most 2^20 where memory is made. -/
import Derived.Test.YtjabgfhjkjinoaaBools
import Derived.Laws.ResultCell
import Derived.Deep.RegionHeld3
namespace Go.Proofs.Ytjabgfhjkjinoaa
set_option linter.unusedVariables false
open Go.RowKit

/-- a struct of one slice in new memory -/
def RetP (w : World) (E size n : Nat) (xs : List Value) (e : Ending) (w' : World) : Prop :=
  ∃ A c, e = .returned (.agg #[.slice A n c]) ∧ w'.ownsRow w.heap.size E size (.slice A n c) n xs ∧ Below w.heap.size w w'

theorem laws_toPattern (A : Option Addr) (c : Nat) (zs : List Bool) (w : World) (hr : RdBo w w.heap.size A zs) (hl : zs.length ≤ 1048576) :
    Calls Try.prog 11 #[.agg #[.slice A zs.length c]] w (RetP w 4 1 zs.length (bv zs)) := by
  have hb0 : Below w.heap.size w (((w.alloc (.cells #[.slice A zs.length c] 24)).alloc (.cells #[.slice none 0 0] 27)).alloc (.cells #[.slice none 0 0] 27)) := by (repeat (first | exact Below.refl _ _ | refine Below.alloc ?_ (by simp; try omega) _ | refine below_drewN ?_ _ | refine Below.drew ?_))
  have HR := Lib.hid ((hr.below hb0 (Nat.le_refl _)).more (by omega) : RdBo _ (w.heap.size + 1 + 1 + 1) A zs)
  have HB0 := Lib.hid hb0
  clear hr hb0
  go_enter Try.func11, Try.ntmps11
  go_wp2_with fail
  refine (laws_toBoolS _ _ _ _ (HR.out.more (by simp)) hl).mono ?_
  rintro e w1 ⟨A1, c1, rfl, o1, b1⟩
  have s1 : w.heap.size + 1 + 1 + 1 ≤ w1.heap.size := by simpa using b1.size
  have q1 : w1.cell? ⟨w.heap.size + 1, 0, none⟩ = some (.slice none 0 0) := by rw [b1.cell (by simp)]; simp [go_sem]
  have q2 : w1.cell? ⟨w.heap.size + 1 + 1, 0, none⟩ = some (.slice none 0 0) := by rw [b1.cell (by simp)]; simp [go_sem]
  have f1 : w1.frozen? ⟨w.heap.size + 1, 0, none⟩ = false := by rw [b1.frozen (by simp)]; simp [go_sem]
  have f2 : w1.frozen? ⟨w.heap.size + 1 + 1, 0, none⟩ = false := by rw [b1.frozen (by simp)]; simp [go_sem]
  have O1 := Lib.hid o1; have B1 := Lib.hid b1; clear o1 b1
  go_wp2_with fail
  refine bodyPost_ret (v := .agg #[.slice A1 zs.length c1]) (by simp [results, Try.results11, go_sem, q1]) rfl ?_
  have o1 := O1.out
  have b1 := B1.out
  simp only [World.size_alloc] at o1 b1
  refine ⟨A1, c1, rfl, ?_, ?_⟩
  · refine own_mono (ownsRow_setCell_below (ownsRow_setCell_below o1 ?_ _) ?_ _) (by omega)
    all_goals (simp; try omega)
  · refine Below.setCell (Below.setCell (HB0.out.trans (b1.mono (by omega))) ?_ _) ?_ _
    all_goals (simp; try omega)
theorem laws_szBoolS (A : Option Addr) (c n : Nat) (l : Int) (w : World) (hl : (n : Int) ≤ l) (h2 : l ≤ 1048576) :
    Calls Try.prog 29 #[.slice A n c, .int .i64 l] w fun e w' => e = .returned (.int .i64 (l - n)) ∧ w = w' := by
  go_enter Try.func29, Try.ntmps29
  go_wp2
  go_ret
  exact ⟨rfl, rfl⟩
theorem laws_szBoolS_no (A : Option Addr) (c n : Nat) (l : Int) (w : World) (hl : l < (n : Int)) (h0 : 0 ≤ l) (h2 : n ≤ 9223372036854775807) :
    Calls Try.prog 29 #[.slice A n c, .int .i64 l] w fun e w' => e = .returned (.int .i64 (-1)) ∧ w = w' := by
  go_enter Try.func29, Try.ntmps29
  go_wp2
  go_ret
  exact ⟨rfl, rfl⟩
theorem laws_szPattern (A : Option Addr) (c n : Nat) (l : Int) (w : World) (hl : (n : Int) ≤ l) (h2 : l ≤ 1048576) :
    Calls Try.prog 9 #[.agg #[.slice A n c], .int .i64 l] w fun e w' => e = .returned (.int .i64 (l - n)) ∧ Below w.heap.size w w' := by
  go_enter Try.func9, Try.ntmps9
  go_wp2_with (go_at_call 29; refine (laws_szBoolS _ _ _ _ _ hl h2).mono ?_; rintro e w' ⟨rfl, rfl⟩)
  go_ret
  exact ⟨rfl, by (repeat (first | exact Below.refl _ _ | refine Below.alloc ?_ (by simp; try omega) _ | refine below_drewN ?_ _ | refine Below.drew ?_))⟩
theorem laws_szPattern_no (A : Option Addr) (c n : Nat) (l : Int) (w : World) (hl : l < (n : Int)) (h0 : 0 ≤ l) (h2 : n ≤ 9223372036854775807) :
    Calls Try.prog 9 #[.agg #[.slice A n c], .int .i64 l] w fun e w' => e = .returned (.int .i64 (-1)) ∧ Below w.heap.size w w' := by
  go_enter Try.func9, Try.ntmps9
  go_wp2_with (go_at_call 29; refine (laws_szBoolS_no _ _ _ _ _ hl h0 h2).mono ?_; rintro e w' ⟨rfl, rfl⟩)
  go_ret
  exact ⟨rfl, by (repeat (first | exact Below.refl _ _ | refine Below.alloc ?_ (by simp; try omega) _ | refine below_drewN ?_ _ | refine Below.drew ?_))⟩
theorem laws_eqPattern (A C : Option Addr) (c d : Nat) (xs ys : List Bool) (w : World) (hx : RdBo w w.heap.size A xs) (hy : RdBo w w.heap.size C ys) (hl : xs.length ≤ 1048576) (hl2 : ys.length ≤ 1048576) :
    Calls Try.prog 13 #[.agg #[.slice A xs.length c], .agg #[.slice C ys.length d]] w (RetB w (sameBo xs ys)) := by
  have hb0 : Below w.heap.size w ((w.alloc (.cells #[.slice A xs.length c] 27)).alloc (.cells #[.slice C ys.length d] 27)) := by (repeat (first | exact Below.refl _ _ | refine Below.alloc ?_ (by simp; try omega) _ | refine below_drewN ?_ _ | refine Below.drew ?_))
  have HX := Lib.hid (hx.below hb0 (Nat.le_refl _))
  have HY := Lib.hid (hy.below hb0 (Nat.le_refl _))
  have HB := Lib.hid hb0
  clear hx hy hb0
  go_enter Try.func13, Try.ntmps13
  go_wp2_with fail
  refine (laws_eqBoolS _ _ _ _ _ _ _ (HX.out.more (by simp; omega)) (HY.out.more (by simp; omega)) hl hl2).mono ?_
  rintro e w1 ⟨rfl, b1⟩
  have B1 := Lib.hid b1; clear b1
  cases hs : sameBo xs ys
  · go_wp2_with fail
    go_ret
    exact ⟨ret_bool hs.symm, HB.out.trans (B1.out.mono (by simp; omega))⟩
  · go_wp2_with fail
    go_ret
    exact ⟨ret_bool hs.symm, HB.out.trans (B1.out.mono (by simp; omega))⟩
theorem grownBy_of_alloc {w w' : World} {o : Obj} {row : Option Nat} (h : (w.alloc o).grownBy w' row) : w.grownBy w' row := by
  have ha := World.grownBy_alloc w o row
  exact ⟨h.os.trans ha.os, h.tape.trans ha.tape, h.output.trans ha.output, Nat.le_trans ha.size h.size, fun k hk hne => (h.block k (by simp; omega) hne).trans (ha.block k hk hne)⟩
theorem laws_markPattern (base n c : Nat) (A : Option Addr) (k : Int) (xs : List Value) (w : World) (ho : w.ownsRow base 4 1 (.slice A n c) n xs) (hn : n ≤ 1048576) (h0 : 0 ≤ k) (h1 : k ≤ 1000000000) :
    Calls Try.prog 16 #[.agg #[.slice A n c], .int .i64 k] w (RetMark w base 4 1 (.slice A n c) n (bv (upB k n)) (k + n)) := by
  have HO := Lib.hid (ho.alloc (.cells #[.slice A n c] 27))
  clear ho
  go_enter Try.func16, Try.ntmps16
  go_wp2_with fail
  refine (laws_markBoolS _ _ _ _ _ _ _ HO.out hn h0 h1).mono ?_
  rintro e w1 ⟨rfl, o1, g1⟩
  have O1 := Lib.hid o1; have G1 := Lib.hid g1; clear o1 g1
  go_wp2_with fail
  go_ret
  exact ⟨rfl, O1.out, grownBy_of_alloc G1.out⟩
theorem laws_heldPattern (A : Option Addr) (n c : Nat) (k : Int) (w : World) (hr0 : Rd w w.heap.size 1 A n (bv (upB k n))) (hn : n ≤ 1048576) (h0 : 0 ≤ k) (h1 : k ≤ 1000000000) :
    Calls Try.prog 17 #[.agg #[.slice A n c], .int .i64 k] w fun e w' => e = .returned (.int .i64 (k + n)) ∧ Below w.heap.size w w' := by
  have HR := Lib.hid ((hr0.alloc (Nat.le_refl _) (.cells #[.slice A n c] 27)).more (B' := w.heap.size + 1) (by omega))
  clear hr0
  go_enter Try.func17, Try.ntmps17
  go_wp2_with fail
  refine (laws_heldBoolS _ _ _ _ _ (HR.out.more (by simp)) hn h0 h1).mono ?_
  rintro e w' ⟨rfl, rfl⟩
  go_wp2_with fail
  go_ret
  exact ⟨rfl, by (repeat (first | exact Below.refl _ _ | refine Below.alloc ?_ (by simp; try omega) _ | refine below_drewN ?_ _ | refine Below.drew ?_))⟩
/-- 1 to 32 steps -/
def patL (zs : List Bool) : Bool := inR zs.length 1 32
theorem impl_PatternValid (A : Option Addr) (c : Nat) (zs : List Bool) (w : World) :
    Calls Try.prog 12 #[.agg #[.slice A zs.length c]] w fun e w' => e = .returned (.bool (patL zs)) ∧ w.alloc (.cells #[.slice A zs.length c] 27) = w' := by
  go_enter Try.func12, Try.ntmps12
  go_wp2_with (go_at_call 32; refine (impl_within _ _ _ _).mono ?_; rintro e w' ⟨rfl, rfl⟩)
  go_ret
  exact ⟨rfl, rfl⟩
theorem impl_PatternValid_b (A : Option Addr) (c : Nat) (zs : List Bool) (w : World) : Calls Try.prog 12 #[.agg #[.slice A zs.length c]] w (RetB w (patL zs)) :=
  (impl_PatternValid A c zs w).mono fun _ _ ⟨h, e⟩ => ⟨h, by subst e; exact (Below.refl _ _).alloc (Nat.le_refl _) _⟩
theorem spec_PatternValid (A : Option Addr) (c : Nat) (zs : List Bool) (w : World) :
    Calls Try.prog 10 #[.agg #[.slice A zs.length c]] w fun e w' => e = .returned (.bool (patL zs)) ∧ w.alloc (.cells #[.slice A zs.length c] 27) = w' := by
  go_enter Try.func10, Try.ntmps10
  go_wp2_with (go_at_call 30; refine (spec_l1In _ _ _ _).mono ?_; rintro e w' ⟨rfl, rfl⟩)
  go_ret
  exact ⟨rfl, rfl⟩
theorem spec_PatternValid_b (A : Option Addr) (c : Nat) (zs : List Bool) (w : World) : Calls Try.prog 10 #[.agg #[.slice A zs.length c]] w (RetB w (patL zs)) :=
  (spec_PatternValid A c zs w).mono fun _ _ ⟨h, e⟩ => ⟨h, by subst e; exact (Below.refl _ _).alloc (Nat.le_refl _) _⟩
end Go.Proofs.Ytjabgfhjkjinoaa
