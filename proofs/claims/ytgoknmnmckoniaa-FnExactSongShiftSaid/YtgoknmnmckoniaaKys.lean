/- Contracts of the alterations of keys: KeyAlter, l3Alter, InKey. No condition. -/
import Derived.Test.YtgoknmnmckoniaaMtr
import Derived.Test.YtgoknmnmckoniaaNte1
import Derived.Test.YtgoknmnmckoniaaInv
import Derived.Deep.RegionHeld3
import Derived.Deep.Cut
namespace Go.Proofs.Ytgoknmnmckoniaa
open Go.RowKit
set_option linter.unusedSimpArgs false
set_option linter.unusedVariables false
set_option maxRecDepth 100000
/-- the place of a step in the order of sharps -/
def ordL (s : Int) : Int := [1, 3, 5, 0, 2, 4, 6].getD s.toNat 0
/-- the alteration of a step in a key -/
def altL (f s : Int) : Int := if ordL s < f then 1 else if f < ordL s - 6 then -1 else 0
theorem altL_bd (f s : Int) : -1 ≤ altL f s ∧ altL f s ≤ 1 := by unfold altL; split <;> (try split) <;> omega
/-- a pitch is in a key -/
def ikB (f s a o : Int) : Bool := inR f (-7) 7 && (pvB s a o && (a == altL f s))
theorem s7 {s : Int} (h : 0 ≤ s ∧ s ≤ 6) : s = 0 ∨ s = 1 ∨ s = 2 ∨ s = 3 ∨ s = 4 ∨ s = 5 ∨ s = 6 := by omega
theorem ord_bd {s : Int} (h : 0 ≤ s ∧ s ≤ 6) : 0 ≤ ordL s ∧ ordL s ≤ 6 := by
  rcases s7 h with rfl | rfl | rfl | rfl | rfl | rfl | rfl <;> decide
theorem ord_0 {s : Int} (h : 0 ≤ s ∧ s ≤ 6) : ordL s = 0 ↔ s = 3 := by
  rcases s7 h with rfl | rfl | rfl | rfl | rfl | rfl | rfl <;> decide
theorem ord_1 {s : Int} (h : 0 ≤ s ∧ s ≤ 6) : ordL s = 1 ↔ s = 0 := by
  rcases s7 h with rfl | rfl | rfl | rfl | rfl | rfl | rfl <;> decide
theorem ord_2 {s : Int} (h : 0 ≤ s ∧ s ≤ 6) : ordL s = 2 ↔ s = 4 := by
  rcases s7 h with rfl | rfl | rfl | rfl | rfl | rfl | rfl <;> decide
theorem ord_3 {s : Int} (h : 0 ≤ s ∧ s ≤ 6) : ordL s = 3 ↔ s = 1 := by
  rcases s7 h with rfl | rfl | rfl | rfl | rfl | rfl | rfl <;> decide
theorem ord_4 {s : Int} (h : 0 ≤ s ∧ s ≤ 6) : ordL s = 4 ↔ s = 5 := by
  rcases s7 h with rfl | rfl | rfl | rfl | rfl | rfl | rfl <;> decide
theorem ord_5 {s : Int} (h : 0 ≤ s ∧ s ≤ 6) : ordL s = 5 ↔ s = 2 := by
  rcases s7 h with rfl | rfl | rfl | rfl | rfl | rfl | rfl <;> decide
theorem ord_6 {s : Int} (h : 0 ≤ s ∧ s ≤ 6) : ordL s = 6 ↔ s = 6 := by
  rcases s7 h with rfl | rfl | rfl | rfl | rfl | rfl | rfl <;> decide
set_option maxHeartbeats 4000000 in
theorem impl_KeyAlter (f s : Int) (w : World) (hf : -7 ≤ f ∧ f ≤ 7) (hs : 0 ≤ s ∧ s ≤ 6) : Calls Try.prog 71 #[.int .i64 f, .int .i64 s] w (RetI w (altL f s)) := by
  have h1 : inR f (-7) 7 = true := inR_iff.2 hf
  have h2 : inR s 0 6 = true := inR_iff.2 hs
  have H1 := Lib.hid h1; have H2 := Lib.hid h2; clear h1 h2
  have hw : IntKind.i64.wrap (-f) = -f := IntWalk.i64_in _ (by omega)
  have hob := ord_bd hs
  have ix0 : ∀ W, (Instr.index 101 (.agg #[.int .i64 3, .int .i64 0, .int .i64 4, .int .i64 1, .int .i64 5, .int .i64 2, .int .i64 6]) (.int .i64 0)).run Try.prog W = .ok (.int .i64 3) W := fun _ => by kernel_rfl
  have ix1 : ∀ W, (Instr.index 101 (.agg #[.int .i64 3, .int .i64 0, .int .i64 4, .int .i64 1, .int .i64 5, .int .i64 2, .int .i64 6]) (.int .i64 1)).run Try.prog W = .ok (.int .i64 0) W := fun _ => by kernel_rfl
  have ix2 : ∀ W, (Instr.index 101 (.agg #[.int .i64 3, .int .i64 0, .int .i64 4, .int .i64 1, .int .i64 5, .int .i64 2, .int .i64 6]) (.int .i64 2)).run Try.prog W = .ok (.int .i64 4) W := fun _ => by kernel_rfl
  have ix3 : ∀ W, (Instr.index 101 (.agg #[.int .i64 3, .int .i64 0, .int .i64 4, .int .i64 1, .int .i64 5, .int .i64 2, .int .i64 6]) (.int .i64 3)).run Try.prog W = .ok (.int .i64 1) W := fun _ => by kernel_rfl
  have ix4 : ∀ W, (Instr.index 101 (.agg #[.int .i64 3, .int .i64 0, .int .i64 4, .int .i64 1, .int .i64 5, .int .i64 2, .int .i64 6]) (.int .i64 4)).run Try.prog W = .ok (.int .i64 5) W := fun _ => by kernel_rfl
  have ix5 : ∀ W, (Instr.index 101 (.agg #[.int .i64 3, .int .i64 0, .int .i64 4, .int .i64 1, .int .i64 5, .int .i64 2, .int .i64 6]) (.int .i64 5)).run Try.prog W = .ok (.int .i64 2) W := fun _ => by kernel_rfl
  have ix6 : ∀ W, (Instr.index 101 (.agg #[.int .i64 3, .int .i64 0, .int .i64 4, .int .i64 1, .int .i64 5, .int .i64 2, .int .i64 6]) (.int .i64 6)).run Try.prog W = .ok (.int .i64 6) W := fun _ => by kernel_rfl
  go_enter Try.func71, Try.ntmps71
  go_wp2_with (first
    | (go_at_call 50; refine (impl_isKey f _).mono ?_; rw [H1.out]; rintro e w' ⟨rfl, rfl⟩)
    | (go_at_call 54; refine (impl_within _ _ _ _).mono ?_; rw [H2.out]; rintro e w' ⟨rfl, rfl⟩))
  go_loopw [6, 7, 18] (fun _ _ i wr => ∃ z : Int, 0 ≤ z ∧ z ≤ 7 ∧ i = .int .i64 z ∧ (altL f s = 0 ∨ z ≤ ordL s) ∧ Below w.heap.size w wr) (fun _ _ i _ => 7 - (intOf i).toNat)
  case atStart => exact ⟨0, by omega, by omega, rfl, .inr hob.1, (Below.refl _ _).alloc (Nat.le_refl _) _⟩
  case round =>
    obtain ⟨z, hz0, hz7, rfl, hor, hbel⟩ := hrel
    have HB := Lib.hid hbel; clear hbel
    have HOR := Lib.hid hor; clear hor
    rcases (show z = 0 ∨ z = 1 ∨ z = 2 ∨ z = 3 ∨ z = 4 ∨ z = 5 ∨ z = 6 ∨ z = 7 by omega) with rfl | rfl | rfl | rfl | rfl | rfl | rfl | rfl
    · by_cases hc : s = 3
      · subst hc
        have HO : Hid (ordL 3 = 0) := Lib.hid (by decide)
        by_cases hl : (0 : Int) < f
        · have HF : Hid (altL f 3 = 1) := Lib.hid (by unfold altL; rw [HO.out, if_pos hl])
          have hl' : ((0 : Int) < f) = True := eq_true hl
          go_wp2_with fail
          go_ret
          exact ⟨ret_int HF.out.symm, HB.out⟩
        · by_cases hm : f < 0 - 6
          · have HF : Hid (altL f 3 = -1) := Lib.hid (by unfold altL; rw [HO.out, if_neg hl, if_pos hm])
            have hl' : ((0 : Int) < f) = False := eq_false hl
            have hm' : ((6 : Int) < -f) = True := eq_true (by omega)
            have hm2 : (f < (-6 : Int)) = True := eq_true (by omega)
            have hm3 : ((-6 : Int) ≤ f) = False := eq_false (by omega)
            clear hm
            go_wp2_with fail
            go_ret
            exact ⟨ret_int HF.out.symm, HB.out⟩
          · have HF : Hid (altL f 3 = 0) := Lib.hid (by unfold altL; rw [HO.out, if_neg hl, if_neg hm])
            have hl' : ((0 : Int) < f) = False := eq_false hl
            have hm' : ((6 : Int) < -f) = False := eq_false (by omega)
            have hm2 : (f < (-6 : Int)) = False := eq_false (by omega)
            have hm3 : ((-6 : Int) ≤ f) = True := eq_true (by omega)
            clear hm
            go_wp2_with fail
            go_roundw
            case rel => exact ⟨1, by omega, by omega, by go_num, .inl HF.out, HB.out⟩
            case measure => simp [intOf]
      · have hc' : ((3 : Int) == s) = false := by simp; omega
        have hnx : altL f s = 0 ∨ 1 ≤ ordL s := by
          rcases HOR.out with h | h
          · exact .inl h
          · have : ordL s ≠ 0 := fun e => hc ((ord_0 hs).1 e)
            exact .inr (by omega)
        have HNX := Lib.hid hnx; clear hnx hc
        go_wp2_with fail
        go_roundw
        case rel => exact ⟨1, by omega, by omega, by go_num, HNX.out, HB.out⟩
        case measure => simp [intOf]
    · by_cases hc : s = 0
      · subst hc
        have HO : Hid (ordL 0 = 1) := Lib.hid (by decide)
        by_cases hl : (1 : Int) < f
        · have HF : Hid (altL f 0 = 1) := Lib.hid (by unfold altL; rw [HO.out, if_pos hl])
          have hl' : ((1 : Int) < f) = True := eq_true hl
          go_wp2_with fail
          go_ret
          exact ⟨ret_int HF.out.symm, HB.out⟩
        · by_cases hm : f < 1 - 6
          · have HF : Hid (altL f 0 = -1) := Lib.hid (by unfold altL; rw [HO.out, if_neg hl, if_pos hm])
            have hl' : ((1 : Int) < f) = False := eq_false hl
            have hm' : ((5 : Int) < -f) = True := eq_true (by omega)
            have hm2 : (f < (-5 : Int)) = True := eq_true (by omega)
            have hm3 : ((-5 : Int) ≤ f) = False := eq_false (by omega)
            clear hm
            go_wp2_with fail
            go_ret
            exact ⟨ret_int HF.out.symm, HB.out⟩
          · have HF : Hid (altL f 0 = 0) := Lib.hid (by unfold altL; rw [HO.out, if_neg hl, if_neg hm])
            have hl' : ((1 : Int) < f) = False := eq_false hl
            have hm' : ((5 : Int) < -f) = False := eq_false (by omega)
            have hm2 : (f < (-5 : Int)) = False := eq_false (by omega)
            have hm3 : ((-5 : Int) ≤ f) = True := eq_true (by omega)
            clear hm
            go_wp2_with fail
            go_roundw
            case rel => exact ⟨2, by omega, by omega, by go_num, .inl HF.out, HB.out⟩
            case measure => simp [intOf]
      · have hc' : ((0 : Int) == s) = false := by simp; omega
        have hnx : altL f s = 0 ∨ 2 ≤ ordL s := by
          rcases HOR.out with h | h
          · exact .inl h
          · have : ordL s ≠ 1 := fun e => hc ((ord_1 hs).1 e)
            exact .inr (by omega)
        have HNX := Lib.hid hnx; clear hnx hc
        go_wp2_with fail
        go_roundw
        case rel => exact ⟨2, by omega, by omega, by go_num, HNX.out, HB.out⟩
        case measure => simp [intOf]
    · by_cases hc : s = 4
      · subst hc
        have HO : Hid (ordL 4 = 2) := Lib.hid (by decide)
        by_cases hl : (2 : Int) < f
        · have HF : Hid (altL f 4 = 1) := Lib.hid (by unfold altL; rw [HO.out, if_pos hl])
          have hl' : ((2 : Int) < f) = True := eq_true hl
          go_wp2_with fail
          go_ret
          exact ⟨ret_int HF.out.symm, HB.out⟩
        · by_cases hm : f < 2 - 6
          · have HF : Hid (altL f 4 = -1) := Lib.hid (by unfold altL; rw [HO.out, if_neg hl, if_pos hm])
            have hl' : ((2 : Int) < f) = False := eq_false hl
            have hm' : ((4 : Int) < -f) = True := eq_true (by omega)
            have hm2 : (f < (-4 : Int)) = True := eq_true (by omega)
            have hm3 : ((-4 : Int) ≤ f) = False := eq_false (by omega)
            clear hm
            go_wp2_with fail
            go_ret
            exact ⟨ret_int HF.out.symm, HB.out⟩
          · have HF : Hid (altL f 4 = 0) := Lib.hid (by unfold altL; rw [HO.out, if_neg hl, if_neg hm])
            have hl' : ((2 : Int) < f) = False := eq_false hl
            have hm' : ((4 : Int) < -f) = False := eq_false (by omega)
            have hm2 : (f < (-4 : Int)) = False := eq_false (by omega)
            have hm3 : ((-4 : Int) ≤ f) = True := eq_true (by omega)
            clear hm
            go_wp2_with fail
            go_roundw
            case rel => exact ⟨3, by omega, by omega, by go_num, .inl HF.out, HB.out⟩
            case measure => simp [intOf]
      · have hc' : ((4 : Int) == s) = false := by simp; omega
        have hnx : altL f s = 0 ∨ 3 ≤ ordL s := by
          rcases HOR.out with h | h
          · exact .inl h
          · have : ordL s ≠ 2 := fun e => hc ((ord_2 hs).1 e)
            exact .inr (by omega)
        have HNX := Lib.hid hnx; clear hnx hc
        go_wp2_with fail
        go_roundw
        case rel => exact ⟨3, by omega, by omega, by go_num, HNX.out, HB.out⟩
        case measure => simp [intOf]
    · by_cases hc : s = 1
      · subst hc
        have HO : Hid (ordL 1 = 3) := Lib.hid (by decide)
        by_cases hl : (3 : Int) < f
        · have HF : Hid (altL f 1 = 1) := Lib.hid (by unfold altL; rw [HO.out, if_pos hl])
          have hl' : ((3 : Int) < f) = True := eq_true hl
          go_wp2_with fail
          go_ret
          exact ⟨ret_int HF.out.symm, HB.out⟩
        · by_cases hm : f < 3 - 6
          · have HF : Hid (altL f 1 = -1) := Lib.hid (by unfold altL; rw [HO.out, if_neg hl, if_pos hm])
            have hl' : ((3 : Int) < f) = False := eq_false hl
            have hm' : ((3 : Int) < -f) = True := eq_true (by omega)
            have hm2 : (f < (-3 : Int)) = True := eq_true (by omega)
            have hm3 : ((-3 : Int) ≤ f) = False := eq_false (by omega)
            clear hm
            go_wp2_with fail
            go_ret
            exact ⟨ret_int HF.out.symm, HB.out⟩
          · have HF : Hid (altL f 1 = 0) := Lib.hid (by unfold altL; rw [HO.out, if_neg hl, if_neg hm])
            have hl' : ((3 : Int) < f) = False := eq_false hl
            have hm' : ((3 : Int) < -f) = False := eq_false (by omega)
            have hm2 : (f < (-3 : Int)) = False := eq_false (by omega)
            have hm3 : ((-3 : Int) ≤ f) = True := eq_true (by omega)
            clear hm
            go_wp2_with fail
            go_roundw
            case rel => exact ⟨4, by omega, by omega, by go_num, .inl HF.out, HB.out⟩
            case measure => simp [intOf]
      · have hc' : ((1 : Int) == s) = false := by simp; omega
        have hnx : altL f s = 0 ∨ 4 ≤ ordL s := by
          rcases HOR.out with h | h
          · exact .inl h
          · have : ordL s ≠ 3 := fun e => hc ((ord_3 hs).1 e)
            exact .inr (by omega)
        have HNX := Lib.hid hnx; clear hnx hc
        go_wp2_with fail
        go_roundw
        case rel => exact ⟨4, by omega, by omega, by go_num, HNX.out, HB.out⟩
        case measure => simp [intOf]
    · by_cases hc : s = 5
      · subst hc
        have HO : Hid (ordL 5 = 4) := Lib.hid (by decide)
        by_cases hl : (4 : Int) < f
        · have HF : Hid (altL f 5 = 1) := Lib.hid (by unfold altL; rw [HO.out, if_pos hl])
          have hl' : ((4 : Int) < f) = True := eq_true hl
          go_wp2_with fail
          go_ret
          exact ⟨ret_int HF.out.symm, HB.out⟩
        · by_cases hm : f < 4 - 6
          · have HF : Hid (altL f 5 = -1) := Lib.hid (by unfold altL; rw [HO.out, if_neg hl, if_pos hm])
            have hl' : ((4 : Int) < f) = False := eq_false hl
            have hm' : ((2 : Int) < -f) = True := eq_true (by omega)
            have hm2 : (f < (-2 : Int)) = True := eq_true (by omega)
            have hm3 : ((-2 : Int) ≤ f) = False := eq_false (by omega)
            clear hm
            go_wp2_with fail
            go_ret
            exact ⟨ret_int HF.out.symm, HB.out⟩
          · have HF : Hid (altL f 5 = 0) := Lib.hid (by unfold altL; rw [HO.out, if_neg hl, if_neg hm])
            have hl' : ((4 : Int) < f) = False := eq_false hl
            have hm' : ((2 : Int) < -f) = False := eq_false (by omega)
            have hm2 : (f < (-2 : Int)) = False := eq_false (by omega)
            have hm3 : ((-2 : Int) ≤ f) = True := eq_true (by omega)
            clear hm
            go_wp2_with fail
            go_roundw
            case rel => exact ⟨5, by omega, by omega, by go_num, .inl HF.out, HB.out⟩
            case measure => simp [intOf]
      · have hc' : ((5 : Int) == s) = false := by simp; omega
        have hnx : altL f s = 0 ∨ 5 ≤ ordL s := by
          rcases HOR.out with h | h
          · exact .inl h
          · have : ordL s ≠ 4 := fun e => hc ((ord_4 hs).1 e)
            exact .inr (by omega)
        have HNX := Lib.hid hnx; clear hnx hc
        go_wp2_with fail
        go_roundw
        case rel => exact ⟨5, by omega, by omega, by go_num, HNX.out, HB.out⟩
        case measure => simp [intOf]
    · by_cases hc : s = 2
      · subst hc
        have HO : Hid (ordL 2 = 5) := Lib.hid (by decide)
        by_cases hl : (5 : Int) < f
        · have HF : Hid (altL f 2 = 1) := Lib.hid (by unfold altL; rw [HO.out, if_pos hl])
          have hl' : ((5 : Int) < f) = True := eq_true hl
          go_wp2_with fail
          go_ret
          exact ⟨ret_int HF.out.symm, HB.out⟩
        · by_cases hm : f < 5 - 6
          · have HF : Hid (altL f 2 = -1) := Lib.hid (by unfold altL; rw [HO.out, if_neg hl, if_pos hm])
            have hl' : ((5 : Int) < f) = False := eq_false hl
            have hm' : ((1 : Int) < -f) = True := eq_true (by omega)
            have hm2 : (f < (-1 : Int)) = True := eq_true (by omega)
            have hm3 : ((-1 : Int) ≤ f) = False := eq_false (by omega)
            clear hm
            go_wp2_with fail
            go_ret
            exact ⟨ret_int HF.out.symm, HB.out⟩
          · have HF : Hid (altL f 2 = 0) := Lib.hid (by unfold altL; rw [HO.out, if_neg hl, if_neg hm])
            have hl' : ((5 : Int) < f) = False := eq_false hl
            have hm' : ((1 : Int) < -f) = False := eq_false (by omega)
            have hm2 : (f < (-1 : Int)) = False := eq_false (by omega)
            have hm3 : ((-1 : Int) ≤ f) = True := eq_true (by omega)
            clear hm
            go_wp2_with fail
            go_roundw
            case rel => exact ⟨6, by omega, by omega, by go_num, .inl HF.out, HB.out⟩
            case measure => simp [intOf]
      · have hc' : ((2 : Int) == s) = false := by simp; omega
        have hnx : altL f s = 0 ∨ 6 ≤ ordL s := by
          rcases HOR.out with h | h
          · exact .inl h
          · have : ordL s ≠ 5 := fun e => hc ((ord_5 hs).1 e)
            exact .inr (by omega)
        have HNX := Lib.hid hnx; clear hnx hc
        go_wp2_with fail
        go_roundw
        case rel => exact ⟨6, by omega, by omega, by go_num, HNX.out, HB.out⟩
        case measure => simp [intOf]
    · by_cases hc : s = 6
      · subst hc
        have HO : Hid (ordL 6 = 6) := Lib.hid (by decide)
        by_cases hl : (6 : Int) < f
        · have HF : Hid (altL f 6 = 1) := Lib.hid (by unfold altL; rw [HO.out, if_pos hl])
          have hl' : ((6 : Int) < f) = True := eq_true hl
          go_wp2_with fail
          go_ret
          exact ⟨ret_int HF.out.symm, HB.out⟩
        · by_cases hm : f < 6 - 6
          · have HF : Hid (altL f 6 = -1) := Lib.hid (by unfold altL; rw [HO.out, if_neg hl, if_pos hm])
            have hl' : ((6 : Int) < f) = False := eq_false hl
            have hm' : ((0 : Int) < -f) = True := eq_true (by omega)
            have hm2 : (f < (0 : Int)) = True := eq_true (by omega)
            have hm3 : ((0 : Int) ≤ f) = False := eq_false (by omega)
            clear hm
            go_wp2_with fail
            go_ret
            exact ⟨ret_int HF.out.symm, HB.out⟩
          · have HF : Hid (altL f 6 = 0) := Lib.hid (by unfold altL; rw [HO.out, if_neg hl, if_neg hm])
            have hl' : ((6 : Int) < f) = False := eq_false hl
            have hm' : ((0 : Int) < -f) = False := eq_false (by omega)
            have hm2 : (f < (0 : Int)) = False := eq_false (by omega)
            have hm3 : ((0 : Int) ≤ f) = True := eq_true (by omega)
            clear hm
            go_wp2_with fail
            go_roundw
            case rel => exact ⟨7, by omega, by omega, by go_num, .inl HF.out, HB.out⟩
            case measure => simp [intOf]
      · have hc' : ((6 : Int) == s) = false := by simp; omega
        have hnx : altL f s = 0 ∨ 7 ≤ ordL s := by
          rcases HOR.out with h | h
          · exact .inl h
          · have : ordL s ≠ 6 := fun e => hc ((ord_6 hs).1 e)
            exact .inr (by omega)
        have HNX := Lib.hid hnx; clear hnx hc
        go_wp2_with fail
        go_roundw
        case rel => exact ⟨7, by omega, by omega, by go_num, HNX.out, HB.out⟩
        case measure => simp [intOf]
    · have HF : Hid (altL f s = 0) := Lib.hid (by
        rcases HOR.out with h | h
        · exact h
        · omega)
      go_wp2_with fail
      go_ret
      exact ⟨ret_int HF.out.symm, HB.out⟩
set_option maxHeartbeats 2000000 in
theorem spec_l3Alter (f s : Int) (w : World) (hf : -7 ≤ f ∧ f ≤ 7) (hs : 0 ≤ s ∧ s ≤ 6) : Calls Try.prog 43 #[.int .i64 f, .int .i64 s] w (RetI w (altL f s)) := by
  have HB := Lib.hid ((Below.refl w.heap.size w).alloc (Nat.le_refl _) (.cells #[.int .i64 1, .int .i64 3, .int .i64 5, .int .i64 0, .int .i64 2, .int .i64 4, .int .i64 6] 3))
  rcases s7 hs with rfl | rfl | rfl | rfl | rfl | rfl | rfl
  · by_cases h1 : (1 : Int) < f
    · have HF : Hid (altL f 0 = 1) := Lib.hid (by unfold altL; rw [show ordL 0 = 1 by decide, if_pos h1])
      have h1' : ((1 : Int) < f) = True := eq_true h1
      go_enter Try.func43, Try.ntmps43
      go_wp2_with fail
      go_ret
      exact ⟨ret_int HF.out.symm, HB.out⟩
    · by_cases h2 : f < 1 - 6
      · have HF : Hid (altL f 0 = -1) := Lib.hid (by unfold altL; rw [show ordL 0 = 1 by decide, if_neg h1, if_pos h2])
        have h1' : ((1 : Int) < f) = False := eq_false h1
        have h2' : (f < (-5 : Int)) = True := eq_true (by omega)
        clear h2
        go_enter Try.func43, Try.ntmps43
        go_wp2_with fail
        go_ret
        exact ⟨ret_int HF.out.symm, HB.out⟩
      · have HF : Hid (altL f 0 = 0) := Lib.hid (by unfold altL; rw [show ordL 0 = 1 by decide, if_neg h1, if_neg h2])
        have h1' : ((1 : Int) < f) = False := eq_false h1
        have h2' : (f < (-5 : Int)) = False := eq_false (by omega)
        clear h2
        go_enter Try.func43, Try.ntmps43
        go_wp2_with fail
        go_ret
        exact ⟨ret_int HF.out.symm, HB.out⟩
  · by_cases h1 : (3 : Int) < f
    · have HF : Hid (altL f 1 = 1) := Lib.hid (by unfold altL; rw [show ordL 1 = 3 by decide, if_pos h1])
      have h1' : ((3 : Int) < f) = True := eq_true h1
      go_enter Try.func43, Try.ntmps43
      go_wp2_with fail
      go_ret
      exact ⟨ret_int HF.out.symm, HB.out⟩
    · by_cases h2 : f < 3 - 6
      · have HF : Hid (altL f 1 = -1) := Lib.hid (by unfold altL; rw [show ordL 1 = 3 by decide, if_neg h1, if_pos h2])
        have h1' : ((3 : Int) < f) = False := eq_false h1
        have h2' : (f < (-3 : Int)) = True := eq_true (by omega)
        clear h2
        go_enter Try.func43, Try.ntmps43
        go_wp2_with fail
        go_ret
        exact ⟨ret_int HF.out.symm, HB.out⟩
      · have HF : Hid (altL f 1 = 0) := Lib.hid (by unfold altL; rw [show ordL 1 = 3 by decide, if_neg h1, if_neg h2])
        have h1' : ((3 : Int) < f) = False := eq_false h1
        have h2' : (f < (-3 : Int)) = False := eq_false (by omega)
        clear h2
        go_enter Try.func43, Try.ntmps43
        go_wp2_with fail
        go_ret
        exact ⟨ret_int HF.out.symm, HB.out⟩
  · by_cases h1 : (5 : Int) < f
    · have HF : Hid (altL f 2 = 1) := Lib.hid (by unfold altL; rw [show ordL 2 = 5 by decide, if_pos h1])
      have h1' : ((5 : Int) < f) = True := eq_true h1
      go_enter Try.func43, Try.ntmps43
      go_wp2_with fail
      go_ret
      exact ⟨ret_int HF.out.symm, HB.out⟩
    · by_cases h2 : f < 5 - 6
      · have HF : Hid (altL f 2 = -1) := Lib.hid (by unfold altL; rw [show ordL 2 = 5 by decide, if_neg h1, if_pos h2])
        have h1' : ((5 : Int) < f) = False := eq_false h1
        have h2' : (f < (-1 : Int)) = True := eq_true (by omega)
        clear h2
        go_enter Try.func43, Try.ntmps43
        go_wp2_with fail
        go_ret
        exact ⟨ret_int HF.out.symm, HB.out⟩
      · have HF : Hid (altL f 2 = 0) := Lib.hid (by unfold altL; rw [show ordL 2 = 5 by decide, if_neg h1, if_neg h2])
        have h1' : ((5 : Int) < f) = False := eq_false h1
        have h2' : (f < (-1 : Int)) = False := eq_false (by omega)
        clear h2
        go_enter Try.func43, Try.ntmps43
        go_wp2_with fail
        go_ret
        exact ⟨ret_int HF.out.symm, HB.out⟩
  · by_cases h1 : (0 : Int) < f
    · have HF : Hid (altL f 3 = 1) := Lib.hid (by unfold altL; rw [show ordL 3 = 0 by decide, if_pos h1])
      have h1' : ((0 : Int) < f) = True := eq_true h1
      go_enter Try.func43, Try.ntmps43
      go_wp2_with fail
      go_ret
      exact ⟨ret_int HF.out.symm, HB.out⟩
    · by_cases h2 : f < 0 - 6
      · have HF : Hid (altL f 3 = -1) := Lib.hid (by unfold altL; rw [show ordL 3 = 0 by decide, if_neg h1, if_pos h2])
        have h1' : ((0 : Int) < f) = False := eq_false h1
        have h2' : (f < (-6 : Int)) = True := eq_true (by omega)
        clear h2
        go_enter Try.func43, Try.ntmps43
        go_wp2_with fail
        go_ret
        exact ⟨ret_int HF.out.symm, HB.out⟩
      · have HF : Hid (altL f 3 = 0) := Lib.hid (by unfold altL; rw [show ordL 3 = 0 by decide, if_neg h1, if_neg h2])
        have h1' : ((0 : Int) < f) = False := eq_false h1
        have h2' : (f < (-6 : Int)) = False := eq_false (by omega)
        clear h2
        go_enter Try.func43, Try.ntmps43
        go_wp2_with fail
        go_ret
        exact ⟨ret_int HF.out.symm, HB.out⟩
  · by_cases h1 : (2 : Int) < f
    · have HF : Hid (altL f 4 = 1) := Lib.hid (by unfold altL; rw [show ordL 4 = 2 by decide, if_pos h1])
      have h1' : ((2 : Int) < f) = True := eq_true h1
      go_enter Try.func43, Try.ntmps43
      go_wp2_with fail
      go_ret
      exact ⟨ret_int HF.out.symm, HB.out⟩
    · by_cases h2 : f < 2 - 6
      · have HF : Hid (altL f 4 = -1) := Lib.hid (by unfold altL; rw [show ordL 4 = 2 by decide, if_neg h1, if_pos h2])
        have h1' : ((2 : Int) < f) = False := eq_false h1
        have h2' : (f < (-4 : Int)) = True := eq_true (by omega)
        clear h2
        go_enter Try.func43, Try.ntmps43
        go_wp2_with fail
        go_ret
        exact ⟨ret_int HF.out.symm, HB.out⟩
      · have HF : Hid (altL f 4 = 0) := Lib.hid (by unfold altL; rw [show ordL 4 = 2 by decide, if_neg h1, if_neg h2])
        have h1' : ((2 : Int) < f) = False := eq_false h1
        have h2' : (f < (-4 : Int)) = False := eq_false (by omega)
        clear h2
        go_enter Try.func43, Try.ntmps43
        go_wp2_with fail
        go_ret
        exact ⟨ret_int HF.out.symm, HB.out⟩
  · by_cases h1 : (4 : Int) < f
    · have HF : Hid (altL f 5 = 1) := Lib.hid (by unfold altL; rw [show ordL 5 = 4 by decide, if_pos h1])
      have h1' : ((4 : Int) < f) = True := eq_true h1
      go_enter Try.func43, Try.ntmps43
      go_wp2_with fail
      go_ret
      exact ⟨ret_int HF.out.symm, HB.out⟩
    · by_cases h2 : f < 4 - 6
      · have HF : Hid (altL f 5 = -1) := Lib.hid (by unfold altL; rw [show ordL 5 = 4 by decide, if_neg h1, if_pos h2])
        have h1' : ((4 : Int) < f) = False := eq_false h1
        have h2' : (f < (-2 : Int)) = True := eq_true (by omega)
        clear h2
        go_enter Try.func43, Try.ntmps43
        go_wp2_with fail
        go_ret
        exact ⟨ret_int HF.out.symm, HB.out⟩
      · have HF : Hid (altL f 5 = 0) := Lib.hid (by unfold altL; rw [show ordL 5 = 4 by decide, if_neg h1, if_neg h2])
        have h1' : ((4 : Int) < f) = False := eq_false h1
        have h2' : (f < (-2 : Int)) = False := eq_false (by omega)
        clear h2
        go_enter Try.func43, Try.ntmps43
        go_wp2_with fail
        go_ret
        exact ⟨ret_int HF.out.symm, HB.out⟩
  · by_cases h1 : (6 : Int) < f
    · have HF : Hid (altL f 6 = 1) := Lib.hid (by unfold altL; rw [show ordL 6 = 6 by decide, if_pos h1])
      have h1' : ((6 : Int) < f) = True := eq_true h1
      go_enter Try.func43, Try.ntmps43
      go_wp2_with fail
      go_ret
      exact ⟨ret_int HF.out.symm, HB.out⟩
    · by_cases h2 : f < 6 - 6
      · have HF : Hid (altL f 6 = -1) := Lib.hid (by unfold altL; rw [show ordL 6 = 6 by decide, if_neg h1, if_pos h2])
        have h1' : ((6 : Int) < f) = False := eq_false h1
        have h2' : (f < (0 : Int)) = True := eq_true (by omega)
        clear h2
        go_enter Try.func43, Try.ntmps43
        go_wp2_with fail
        go_ret
        exact ⟨ret_int HF.out.symm, HB.out⟩
      · have HF : Hid (altL f 6 = 0) := Lib.hid (by unfold altL; rw [show ordL 6 = 6 by decide, if_neg h1, if_neg h2])
        have h1' : ((6 : Int) < f) = False := eq_false h1
        have h2' : (f < (0 : Int)) = False := eq_false (by omega)
        clear h2
        go_enter Try.func43, Try.ntmps43
        go_wp2_with fail
        go_ret
        exact ⟨ret_int HF.out.symm, HB.out⟩
theorem impl_isKey_b (f : Int) (w : World) : Calls Try.prog 50 #[.int .i64 f] w (RetB w (inR f (-7) 7)) := (impl_isKey f w).mono fun e w' h => ⟨h.1, by rw [h.2]; exact Below.refl _ _⟩
theorem spec_l1In_b (n lo hi : Int) (w : World) : Calls Try.prog 38 #[.int .i64 n, .int .i64 lo, .int .i64 hi] w (RetB w (inR n lo hi)) := (spec_l1In n lo hi w).mono fun e w' h => ⟨h.1, by rw [h.2]; exact Below.refl _ _⟩
end Go.Proofs.Ytgoknmnmckoniaa
