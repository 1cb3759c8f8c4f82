/- Contracts of the alterations of keys: KeyAlter, l3Alter, InKey. No condition. -/
import Derived.Test.YtmodpleonhniaaaGreatDoorMtr
import Derived.Test.YtmodpleonhniaaaGreatDoorMrg1
import Derived.Test.YtmodpleonhniaaaGreatDoorInv
import Derived.Deep.RegionHeld3
import Derived.Deep.Cut
namespace Go.Proofs.YtmodpleonhniaaaGreatDoor
open Go.RowKit
set_option linter.unusedSimpArgs false
set_option linter.unusedVariables false
set_option maxRecDepth 100000
/-- the place of a step in the order of sharps -/
def ordL (s : Int) : Int := [1, 3, 5, 0, 2, 4, 6].getD s.toNat 0
/-- the alteration of a step in a key -/
def altL (f s : Int) : Int := if ordL s < f then 1 else if f < ordL s - 6 then -1 else 0
theorem altL_bd (f s : Int) : -1 ≤ altL f s ∧ altL f s ≤ 1 := by unfold altL; split <;> (try split) <;> omega
/-- a pitch is in a key -/
def ikB (f s a o : Int) : Bool := inR f (-7) 7 && (pvB s a o && (a == altL f s))
theorem s7 {s : Int} (h : 0 ≤ s ∧ s ≤ 6) : s = 0 ∨ s = 1 ∨ s = 2 ∨ s = 3 ∨ s = 4 ∨ s = 5 ∨ s = 6 := by omega
theorem ord_bd {s : Int} (h : 0 ≤ s ∧ s ≤ 6) : 0 ≤ ordL s ∧ ordL s ≤ 6 := by
  rcases s7 h with rfl | rfl | rfl | rfl | rfl | rfl | rfl <;> decide
theorem ord_0 {s : Int} (h : 0 ≤ s ∧ s ≤ 6) : ordL s = 0 ↔ s = 3 := by
  rcases s7 h with rfl | rfl | rfl | rfl | rfl | rfl | rfl <;> decide
theorem ord_1 {s : Int} (h : 0 ≤ s ∧ s ≤ 6) : ordL s = 1 ↔ s = 0 := by
  rcases s7 h with rfl | rfl | rfl | rfl | rfl | rfl | rfl <;> decide
theorem ord_2 {s : Int} (h : 0 ≤ s ∧ s ≤ 6) : ordL s = 2 ↔ s = 4 := by
  rcases s7 h with rfl | rfl | rfl | rfl | rfl | rfl | rfl <;> decide
theorem ord_3 {s : Int} (h : 0 ≤ s ∧ s ≤ 6) : ordL s = 3 ↔ s = 1 := by
  rcases s7 h with rfl | rfl | rfl | rfl | rfl | rfl | rfl <;> decide
theorem ord_4 {s : Int} (h : 0 ≤ s ∧ s ≤ 6) : ordL s = 4 ↔ s = 5 := by
  rcases s7 h with rfl | rfl | rfl | rfl | rfl | rfl | rfl <;> decide
theorem ord_5 {s : Int} (h : 0 ≤ s ∧ s ≤ 6) : ordL s = 5 ↔ s = 2 := by
  rcases s7 h with rfl | rfl | rfl | rfl | rfl | rfl | rfl <;> decide
theorem ord_6 {s : Int} (h : 0 ≤ s ∧ s ≤ 6) : ordL s = 6 ↔ s = 6 := by
  rcases s7 h with rfl | rfl | rfl | rfl | rfl | rfl | rfl <;> decide
set_option maxHeartbeats 4000000 in
theorem impl_KeyAlter (f s : Int) (w : World) (hf : -7 ≤ f ∧ f ≤ 7) (hs : 0 ≤ s ∧ s ≤ 6) : Calls Tryz.prog 84 #[.int .i64 f, .int .i64 s] w (RetI w (altL f s)) := by
  have h1 : inR f (-7) 7 = true := inR_iff.2 hf
  have h2 : inR s 0 6 = true := inR_iff.2 hs
  have H1 := Lib.hid h1; have H2 := Lib.hid h2; clear h1 h2
  have hw : IntKind.i64.wrap (-f) = -f := IntWalk.i64_in _ (by omega)
  have hob := ord_bd hs
  have ix0 : ∀ W, (Instr.index 94 (.agg #[.int .i64 3, .int .i64 0, .int .i64 4, .int .i64 1, .int .i64 5, .int .i64 2, .int .i64 6]) (.int .i64 0)).run Tryz.prog W = .ok (.int .i64 3) W := fun _ => by kernel_rfl
  have ix1 : ∀ W, (Instr.index 94 (.agg #[.int .i64 3, .int .i64 0, .int .i64 4, .int .i64 1, .int .i64 5, .int .i64 2, .int .i64 6]) (.int .i64 1)).run Tryz.prog W = .ok (.int .i64 0) W := fun _ => by kernel_rfl
  have ix2 : ∀ W, (Instr.index 94 (.agg #[.int .i64 3, .int .i64 0, .int .i64 4, .int .i64 1, .int .i64 5, .int .i64 2, .int .i64 6]) (.int .i64 2)).run Tryz.prog W = .ok (.int .i64 4) W := fun _ => by kernel_rfl
  have ix3 : ∀ W, (Instr.index 94 (.agg #[.int .i64 3, .int .i64 0, .int .i64 4, .int .i64 1, .int .i64 5, .int .i64 2, .int .i64 6]) (.int .i64 3)).run Tryz.prog W = .ok (.int .i64 1) W := fun _ => by kernel_rfl
  have ix4 : ∀ W, (Instr.index 94 (.agg #[.int .i64 3, .int .i64 0, .int .i64 4, .int .i64 1, .int .i64 5, .int .i64 2, .int .i64 6]) (.int .i64 4)).run Tryz.prog W = .ok (.int .i64 5) W := fun _ => by kernel_rfl
  have ix5 : ∀ W, (Instr.index 94 (.agg #[.int .i64 3, .int .i64 0, .int .i64 4, .int .i64 1, .int .i64 5, .int .i64 2, .int .i64 6]) (.int .i64 5)).run Tryz.prog W = .ok (.int .i64 2) W := fun _ => by kernel_rfl
  have ix6 : ∀ W, (Instr.index 94 (.agg #[.int .i64 3, .int .i64 0, .int .i64 4, .int .i64 1, .int .i64 5, .int .i64 2, .int .i64 6]) (.int .i64 6)).run Tryz.prog W = .ok (.int .i64 6) W := fun _ => by kernel_rfl
  go_enter Tryz.func84, Tryz.ntmps84
  go_wp2_with (first
    | (go_at_call 34; refine (impl_isKey f _).mono ?_; rw [H1.out]; rintro e w' ⟨rfl, rfl⟩)
    | (go_at_call 42; refine (impl_within _ _ _ _).mono ?_; rw [H2.out]; rintro e w' ⟨rfl, rfl⟩))
  go_loopw [6, 7, 18] (fun _ _ i wr => ∃ z : Int, 0 ≤ z ∧ z ≤ 7 ∧ i = .int .i64 z ∧ (altL f s = 0 ∨ z ≤ ordL s) ∧ Below w.heap.size w wr) (fun _ _ i _ => 7 - (intOf i).toNat)
  case atStart => exact ⟨0, by omega, by omega, rfl, .inr hob.1, (Below.refl _ _).alloc (Nat.le_refl _) _⟩
  case round =>
    obtain ⟨z, hz0, hz7, rfl, hor, hbel⟩ := hrel
    have HB := Lib.hid hbel; clear hbel
    have HOR := Lib.hid hor; clear hor
    rcases (show z = 0 ∨ z = 1 ∨ z = 2 ∨ z = 3 ∨ z = 4 ∨ z = 5 ∨ z = 6 ∨ z = 7 by omega) with rfl | rfl | rfl | rfl | rfl | rfl | rfl | rfl
    · by_cases hc : s = 3
      · subst hc
        have HO : Hid (ordL 3 = 0) := Lib.hid (by decide)
        by_cases hl : (0 : Int) < f
        · have HF : Hid (altL f 3 = 1) := Lib.hid (by unfold altL; rw [HO.out, if_pos hl])
          have hl' : ((0 : Int) < f) = True := eq_true hl
          go_wp2_with fail
          go_ret
          exact ⟨ret_int HF.out.symm, HB.out⟩
        · by_cases hm : f < 0 - 6
          · have HF : Hid (altL f 3 = -1) := Lib.hid (by unfold altL; rw [HO.out, if_neg hl, if_pos hm])
            have hl' : ((0 : Int) < f) = False := eq_false hl
            have hm' : ((6 : Int) < -f) = True := eq_true (by omega)
            have hm2 : (f < (-6 : Int)) = True := eq_true (by omega)
            have hm3 : ((-6 : Int) ≤ f) = False := eq_false (by omega)
            clear hm
            go_wp2_with fail
            go_ret
            exact ⟨ret_int HF.out.symm, HB.out⟩
          · have HF : Hid (altL f 3 = 0) := Lib.hid (by unfold altL; rw [HO.out, if_neg hl, if_neg hm])
            have hl' : ((0 : Int) < f) = False := eq_false hl
            have hm' : ((6 : Int) < -f) = False := eq_false (by omega)
            have hm2 : (f < (-6 : Int)) = False := eq_false (by omega)
            have hm3 : ((-6 : Int) ≤ f) = True := eq_true (by omega)
            clear hm
            go_wp2_with fail
            go_roundw
            case rel => exact ⟨1, by omega, by omega, by go_num, .inl HF.out, HB.out⟩
            case measure => simp [intOf]
      · have hc' : ((3 : Int) == s) = false := by simp; omega
        have hnx : altL f s = 0 ∨ 1 ≤ ordL s := by
          rcases HOR.out with h | h
          · exact .inl h
          · have : ordL s ≠ 0 := fun e => hc ((ord_0 hs).1 e)
            exact .inr (by omega)
        have HNX := Lib.hid hnx; clear hnx hc
        go_wp2_with fail
        go_roundw
        case rel => exact ⟨1, by omega, by omega, by go_num, HNX.out, HB.out⟩
        case measure => simp [intOf]
    · by_cases hc : s = 0
      · subst hc
        have HO : Hid (ordL 0 = 1) := Lib.hid (by decide)
        by_cases hl : (1 : Int) < f
        · have HF : Hid (altL f 0 = 1) := Lib.hid (by unfold altL; rw [HO.out, if_pos hl])
          have hl' : ((1 : Int) < f) = True := eq_true hl
          go_wp2_with fail
          go_ret
          exact ⟨ret_int HF.out.symm, HB.out⟩
        · by_cases hm : f < 1 - 6
          · have HF : Hid (altL f 0 = -1) := Lib.hid (by unfold altL; rw [HO.out, if_neg hl, if_pos hm])
            have hl' : ((1 : Int) < f) = False := eq_false hl
            have hm' : ((5 : Int) < -f) = True := eq_true (by omega)
            have hm2 : (f < (-5 : Int)) = True := eq_true (by omega)
            have hm3 : ((-5 : Int) ≤ f) = False := eq_false (by omega)
            clear hm
            go_wp2_with fail
            go_ret
            exact ⟨ret_int HF.out.symm, HB.out⟩
          · have HF : Hid (altL f 0 = 0) := Lib.hid (by unfold altL; rw [HO.out, if_neg hl, if_neg hm])
            have hl' : ((1 : Int) < f) = False := eq_false hl
            have hm' : ((5 : Int) < -f) = False := eq_false (by omega)
            have hm2 : (f < (-5 : Int)) = False := eq_false (by omega)
            have hm3 : ((-5 : Int) ≤ f) = True := eq_true (by omega)
            clear hm
            go_wp2_with fail
            go_roundw
            case rel => exact ⟨2, by omega, by omega, by go_num, .inl HF.out, HB.out⟩
            case measure => simp [intOf]
      · have hc' : ((0 : Int) == s) = false := by simp; omega
        have hnx : altL f s = 0 ∨ 2 ≤ ordL s := by
          rcases HOR.out with h | h
          · exact .inl h
          · have : ordL s ≠ 1 := fun e => hc ((ord_1 hs).1 e)
            exact .inr (by omega)
        have HNX := Lib.hid hnx; clear hnx hc
        go_wp2_with fail
        go_roundw
        case rel => exact ⟨2, by omega, by omega, by go_num, HNX.out, HB.out⟩
        case measure => simp [intOf]
    · by_cases hc : s = 4
      · subst hc
        have HO : Hid (ordL 4 = 2) := Lib.hid (by decide)
        by_cases hl : (2 : Int) < f
        · have HF : Hid (altL f 4 = 1) := Lib.hid (by unfold altL; rw [HO.out, if_pos hl])
          have hl' : ((2 : Int) < f) = True := eq_true hl
          go_wp2_with fail
          go_ret
          exact ⟨ret_int HF.out.symm, HB.out⟩
        · by_cases hm : f < 2 - 6
          · have HF : Hid (altL f 4 = -1) := Lib.hid (by unfold altL; rw [HO.out, if_neg hl, if_pos hm])
            have hl' : ((2 : Int) < f) = False := eq_false hl
            have hm' : ((4 : Int) < -f) = True := eq_true (by omega)
            have hm2 : (f < (-4 : Int)) = True := eq_true (by omega)
            have hm3 : ((-4 : Int) ≤ f) = False := eq_false (by omega)
            clear hm
            go_wp2_with fail
            go_ret
            exact ⟨ret_int HF.out.symm, HB.out⟩
          · have HF : Hid (altL f 4 = 0) := Lib.hid (by unfold altL; rw [HO.out, if_neg hl, if_neg hm])
            have hl' : ((2 : Int) < f) = False := eq_false hl
            have hm' : ((4 : Int) < -f) = False := eq_false (by omega)
            have hm2 : (f < (-4 : Int)) = False := eq_false (by omega)
            have hm3 : ((-4 : Int) ≤ f) = True := eq_true (by omega)
            clear hm
            go_wp2_with fail
            go_roundw
            case rel => exact ⟨3, by omega, by omega, by go_num, .inl HF.out, HB.out⟩
            case measure => simp [intOf]
      · have hc' : ((4 : Int) == s) = false := by simp; omega
        have hnx : altL f s = 0 ∨ 3 ≤ ordL s := by
          rcases HOR.out with h | h
          · exact .inl h
          · have : ordL s ≠ 2 := fun e => hc ((ord_2 hs).1 e)
            exact .inr (by omega)
        have HNX := Lib.hid hnx; clear hnx hc
        go_wp2_with fail
        go_roundw
        case rel => exact ⟨3, by omega, by omega, by go_num, HNX.out, HB.out⟩
        case measure => simp [intOf]
    · by_cases hc : s = 1
      · subst hc
        have HO : Hid (ordL 1 = 3) := Lib.hid (by decide)
        by_cases hl : (3 : Int) < f
        · have HF : Hid (altL f 1 = 1) := Lib.hid (by unfold altL; rw [HO.out, if_pos hl])
          have hl' : ((3 : Int) < f) = True := eq_true hl
          go_wp2_with fail
          go_ret
          exact ⟨ret_int HF.out.symm, HB.out⟩
        · by_cases hm : f < 3 - 6
          · have HF : Hid (altL f 1 = -1) := Lib.hid (by unfold altL; rw [HO.out, if_neg hl, if_pos hm])
            have hl' : ((3 : Int) < f) = False := eq_false hl
            have hm' : ((3 : Int) < -f) = True := eq_true (by omega)
            have hm2 : (f < (-3 : Int)) = True := eq_true (by omega)
            have hm3 : ((-3 : Int) ≤ f) = False := eq_false (by omega)
            clear hm
            go_wp2_with fail
            go_ret
            exact ⟨ret_int HF.out.symm, HB.out⟩
          · have HF : Hid (altL f 1 = 0) := Lib.hid (by unfold altL; rw [HO.out, if_neg hl, if_neg hm])
            have hl' : ((3 : Int) < f) = False := eq_false hl
            have hm' : ((3 : Int) < -f) = False := eq_false (by omega)
            have hm2 : (f < (-3 : Int)) = False := eq_false (by omega)
            have hm3 : ((-3 : Int) ≤ f) = True := eq_true (by omega)
            clear hm
            go_wp2_with fail
            go_roundw
            case rel => exact ⟨4, by omega, by omega, by go_num, .inl HF.out, HB.out⟩
            case measure => simp [intOf]
      · have hc' : ((1 : Int) == s) = false := by simp; omega
        have hnx : altL f s = 0 ∨ 4 ≤ ordL s := by
          rcases HOR.out with h | h
          · exact .inl h
          · have : ordL s ≠ 3 := fun e => hc ((ord_3 hs).1 e)
            exact .inr (by omega)
        have HNX := Lib.hid hnx; clear hnx hc
        go_wp2_with fail
        go_roundw
        case rel => exact ⟨4, by omega, by omega, by go_num, HNX.out, HB.out⟩
        case measure => simp [intOf]
    · by_cases hc : s = 5
      · subst hc
        have HO : Hid (ordL 5 = 4) := Lib.hid (by decide)
        by_cases hl : (4 : Int) < f
        · have HF : Hid (altL f 5 = 1) := Lib.hid (by unfold altL; rw [HO.out, if_pos hl])
          have hl' : ((4 : Int) < f) = True := eq_true hl
          go_wp2_with fail
          go_ret
          exact ⟨ret_int HF.out.symm, HB.out⟩
        · by_cases hm : f < 4 - 6
          · have HF : Hid (altL f 5 = -1) := Lib.hid (by unfold altL; rw [HO.out, if_neg hl, if_pos hm])
            have hl' : ((4 : Int) < f) = False := eq_false hl
            have hm' : ((2 : Int) < -f) = True := eq_true (by omega)
            have hm2 : (f < (-2 : Int)) = True := eq_true (by omega)
            have hm3 : ((-2 : Int) ≤ f) = False := eq_false (by omega)
            clear hm
            go_wp2_with fail
            go_ret
            exact ⟨ret_int HF.out.symm, HB.out⟩
          · have HF : Hid (altL f 5 = 0) := Lib.hid (by unfold altL; rw [HO.out, if_neg hl, if_neg hm])
            have hl' : ((4 : Int) < f) = False := eq_false hl
            have hm' : ((2 : Int) < -f) = False := eq_false (by omega)
            have hm2 : (f < (-2 : Int)) = False := eq_false (by omega)
            have hm3 : ((-2 : Int) ≤ f) = True := eq_true (by omega)
            clear hm
            go_wp2_with fail
            go_roundw
            case rel => exact ⟨5, by omega, by omega, by go_num, .inl HF.out, HB.out⟩
            case measure => simp [intOf]
      · have hc' : ((5 : Int) == s) = false := by simp; omega
        have hnx : altL f s = 0 ∨ 5 ≤ ordL s := by
          rcases HOR.out with h | h
          · exact .inl h
          · have : ordL s ≠ 4 := fun e => hc ((ord_4 hs).1 e)
            exact .inr (by omega)
        have HNX := Lib.hid hnx; clear hnx hc
        go_wp2_with fail
        go_roundw
        case rel => exact ⟨5, by omega, by omega, by go_num, HNX.out, HB.out⟩
        case measure => simp [intOf]
    · by_cases hc : s = 2
      · subst hc
        have HO : Hid (ordL 2 = 5) := Lib.hid (by decide)
        by_cases hl : (5 : Int) < f
        · have HF : Hid (altL f 2 = 1) := Lib.hid (by unfold altL; rw [HO.out, if_pos hl])
          have hl' : ((5 : Int) < f) = True := eq_true hl
          go_wp2_with fail
          go_ret
          exact ⟨ret_int HF.out.symm, HB.out⟩
        · by_cases hm : f < 5 - 6
          · have HF : Hid (altL f 2 = -1) := Lib.hid (by unfold altL; rw [HO.out, if_neg hl, if_pos hm])
            have hl' : ((5 : Int) < f) = False := eq_false hl
            have hm' : ((1 : Int) < -f) = True := eq_true (by omega)
            have hm2 : (f < (-1 : Int)) = True := eq_true (by omega)
            have hm3 : ((-1 : Int) ≤ f) = False := eq_false (by omega)
            clear hm
            go_wp2_with fail
            go_ret
            exact ⟨ret_int HF.out.symm, HB.out⟩
          · have HF : Hid (altL f 2 = 0) := Lib.hid (by unfold altL; rw [HO.out, if_neg hl, if_neg hm])
            have hl' : ((5 : Int) < f) = False := eq_false hl
            have hm' : ((1 : Int) < -f) = False := eq_false (by omega)
            have hm2 : (f < (-1 : Int)) = False := eq_false (by omega)
            have hm3 : ((-1 : Int) ≤ f) = True := eq_true (by omega)
            clear hm
            go_wp2_with fail
            go_roundw
            case rel => exact ⟨6, by omega, by omega, by go_num, .inl HF.out, HB.out⟩
            case measure => simp [intOf]
      · have hc' : ((2 : Int) == s) = false := by simp; omega
        have hnx : altL f s = 0 ∨ 6 ≤ ordL s := by
          rcases HOR.out with h | h
          · exact .inl h
          · have : ordL s ≠ 5 := fun e => hc ((ord_5 hs).1 e)
            exact .inr (by omega)
        have HNX := Lib.hid hnx; clear hnx hc
        go_wp2_with fail
        go_roundw
        case rel => exact ⟨6, by omega, by omega, by go_num, HNX.out, HB.out⟩
        case measure => simp [intOf]
    · by_cases hc : s = 6
      · subst hc
        have HO : Hid (ordL 6 = 6) := Lib.hid (by decide)
        by_cases hl : (6 : Int) < f
        · have HF : Hid (altL f 6 = 1) := Lib.hid (by unfold altL; rw [HO.out, if_pos hl])
          have hl' : ((6 : Int) < f) = True := eq_true hl
          go_wp2_with fail
          go_ret
          exact ⟨ret_int HF.out.symm, HB.out⟩
        · by_cases hm : f < 6 - 6
          · have HF : Hid (altL f 6 = -1) := Lib.hid (by unfold altL; rw [HO.out, if_neg hl, if_pos hm])
            have hl' : ((6 : Int) < f) = False := eq_false hl
            have hm' : ((0 : Int) < -f) = True := eq_true (by omega)
            have hm2 : (f < (0 : Int)) = True := eq_true (by omega)
            have hm3 : ((0 : Int) ≤ f) = False := eq_false (by omega)
            clear hm
            go_wp2_with fail
            go_ret
            exact ⟨ret_int HF.out.symm, HB.out⟩
          · have HF : Hid (altL f 6 = 0) := Lib.hid (by unfold altL; rw [HO.out, if_neg hl, if_neg hm])
            have hl' : ((6 : Int) < f) = False := eq_false hl
            have hm' : ((0 : Int) < -f) = False := eq_false (by omega)
            have hm2 : (f < (0 : Int)) = False := eq_false (by omega)
            have hm3 : ((0 : Int) ≤ f) = True := eq_true (by omega)
            clear hm
            go_wp2_with fail
            go_roundw
            case rel => exact ⟨7, by omega, by omega, by go_num, .inl HF.out, HB.out⟩
            case measure => simp [intOf]
      · have hc' : ((6 : Int) == s) = false := by simp; omega
        have hnx : altL f s = 0 ∨ 7 ≤ ordL s := by
          rcases HOR.out with h | h
          · exact .inl h
          · have : ordL s ≠ 6 := fun e => hc ((ord_6 hs).1 e)
            exact .inr (by omega)
        have HNX := Lib.hid hnx; clear hnx hc
        go_wp2_with fail
        go_roundw
        case rel => exact ⟨7, by omega, by omega, by go_num, HNX.out, HB.out⟩
        case measure => simp [intOf]
    · have HF : Hid (altL f s = 0) := Lib.hid (by
        rcases HOR.out with h | h
        · exact h
        · omega)
      go_wp2_with fail
      go_ret
      exact ⟨ret_int HF.out.symm, HB.out⟩
set_option maxHeartbeats 2000000 in
theorem spec_l3Alter (f s : Int) (w : World) (hf : -7 ≤ f ∧ f ≤ 7) (hs : 0 ≤ s ∧ s ≤ 6) : Calls Tryz.prog 69 #[.int .i64 f, .int .i64 s] w (RetI w (altL f s)) := by
  have HB := Lib.hid ((Below.refl w.heap.size w).alloc (Nat.le_refl _) (.cells #[.int .i64 1, .int .i64 3, .int .i64 5, .int .i64 0, .int .i64 2, .int .i64 4, .int .i64 6] 3))
  rcases s7 hs with rfl | rfl | rfl | rfl | rfl | rfl | rfl
  · by_cases h1 : (1 : Int) < f
    · have HF : Hid (altL f 0 = 1) := Lib.hid (by unfold altL; rw [show ordL 0 = 1 by decide, if_pos h1])
      have h1' : ((1 : Int) < f) = True := eq_true h1
      go_enter Tryz.func69, Tryz.ntmps69
      go_wp2_with fail
      go_ret
      exact ⟨ret_int HF.out.symm, HB.out⟩
    · by_cases h2 : f < 1 - 6
      · have HF : Hid (altL f 0 = -1) := Lib.hid (by unfold altL; rw [show ordL 0 = 1 by decide, if_neg h1, if_pos h2])
        have h1' : ((1 : Int) < f) = False := eq_false h1
        have h2' : (f < (-5 : Int)) = True := eq_true (by omega)
        clear h2
        go_enter Tryz.func69, Tryz.ntmps69
        go_wp2_with fail
        go_ret
        exact ⟨ret_int HF.out.symm, HB.out⟩
      · have HF : Hid (altL f 0 = 0) := Lib.hid (by unfold altL; rw [show ordL 0 = 1 by decide, if_neg h1, if_neg h2])
        have h1' : ((1 : Int) < f) = False := eq_false h1
        have h2' : (f < (-5 : Int)) = False := eq_false (by omega)
        clear h2
        go_enter Tryz.func69, Tryz.ntmps69
        go_wp2_with fail
        go_ret
        exact ⟨ret_int HF.out.symm, HB.out⟩
  · by_cases h1 : (3 : Int) < f
    · have HF : Hid (altL f 1 = 1) := Lib.hid (by unfold altL; rw [show ordL 1 = 3 by decide, if_pos h1])
      have h1' : ((3 : Int) < f) = True := eq_true h1
      go_enter Tryz.func69, Tryz.ntmps69
      go_wp2_with fail
      go_ret
      exact ⟨ret_int HF.out.symm, HB.out⟩
    · by_cases h2 : f < 3 - 6
      · have HF : Hid (altL f 1 = -1) := Lib.hid (by unfold altL; rw [show ordL 1 = 3 by decide, if_neg h1, if_pos h2])
        have h1' : ((3 : Int) < f) = False := eq_false h1
        have h2' : (f < (-3 : Int)) = True := eq_true (by omega)
        clear h2
        go_enter Tryz.func69, Tryz.ntmps69
        go_wp2_with fail
        go_ret
        exact ⟨ret_int HF.out.symm, HB.out⟩
      · have HF : Hid (altL f 1 = 0) := Lib.hid (by unfold altL; rw [show ordL 1 = 3 by decide, if_neg h1, if_neg h2])
        have h1' : ((3 : Int) < f) = False := eq_false h1
        have h2' : (f < (-3 : Int)) = False := eq_false (by omega)
        clear h2
        go_enter Tryz.func69, Tryz.ntmps69
        go_wp2_with fail
        go_ret
        exact ⟨ret_int HF.out.symm, HB.out⟩
  · by_cases h1 : (5 : Int) < f
    · have HF : Hid (altL f 2 = 1) := Lib.hid (by unfold altL; rw [show ordL 2 = 5 by decide, if_pos h1])
      have h1' : ((5 : Int) < f) = True := eq_true h1
      go_enter Tryz.func69, Tryz.ntmps69
      go_wp2_with fail
      go_ret
      exact ⟨ret_int HF.out.symm, HB.out⟩
    · by_cases h2 : f < 5 - 6
      · have HF : Hid (altL f 2 = -1) := Lib.hid (by unfold altL; rw [show ordL 2 = 5 by decide, if_neg h1, if_pos h2])
        have h1' : ((5 : Int) < f) = False := eq_false h1
        have h2' : (f < (-1 : Int)) = True := eq_true (by omega)
        clear h2
        go_enter Tryz.func69, Tryz.ntmps69
        go_wp2_with fail
        go_ret
        exact ⟨ret_int HF.out.symm, HB.out⟩
      · have HF : Hid (altL f 2 = 0) := Lib.hid (by unfold altL; rw [show ordL 2 = 5 by decide, if_neg h1, if_neg h2])
        have h1' : ((5 : Int) < f) = False := eq_false h1
        have h2' : (f < (-1 : Int)) = False := eq_false (by omega)
        clear h2
        go_enter Tryz.func69, Tryz.ntmps69
        go_wp2_with fail
        go_ret
        exact ⟨ret_int HF.out.symm, HB.out⟩
  · by_cases h1 : (0 : Int) < f
    · have HF : Hid (altL f 3 = 1) := Lib.hid (by unfold altL; rw [show ordL 3 = 0 by decide, if_pos h1])
      have h1' : ((0 : Int) < f) = True := eq_true h1
      go_enter Tryz.func69, Tryz.ntmps69
      go_wp2_with fail
      go_ret
      exact ⟨ret_int HF.out.symm, HB.out⟩
    · by_cases h2 : f < 0 - 6
      · have HF : Hid (altL f 3 = -1) := Lib.hid (by unfold altL; rw [show ordL 3 = 0 by decide, if_neg h1, if_pos h2])
        have h1' : ((0 : Int) < f) = False := eq_false h1
        have h2' : (f < (-6 : Int)) = True := eq_true (by omega)
        clear h2
        go_enter Tryz.func69, Tryz.ntmps69
        go_wp2_with fail
        go_ret
        exact ⟨ret_int HF.out.symm, HB.out⟩
      · have HF : Hid (altL f 3 = 0) := Lib.hid (by unfold altL; rw [show ordL 3 = 0 by decide, if_neg h1, if_neg h2])
        have h1' : ((0 : Int) < f) = False := eq_false h1
        have h2' : (f < (-6 : Int)) = False := eq_false (by omega)
        clear h2
        go_enter Tryz.func69, Tryz.ntmps69
        go_wp2_with fail
        go_ret
        exact ⟨ret_int HF.out.symm, HB.out⟩
  · by_cases h1 : (2 : Int) < f
    · have HF : Hid (altL f 4 = 1) := Lib.hid (by unfold altL; rw [show ordL 4 = 2 by decide, if_pos h1])
      have h1' : ((2 : Int) < f) = True := eq_true h1
      go_enter Tryz.func69, Tryz.ntmps69
      go_wp2_with fail
      go_ret
      exact ⟨ret_int HF.out.symm, HB.out⟩
    · by_cases h2 : f < 2 - 6
      · have HF : Hid (altL f 4 = -1) := Lib.hid (by unfold altL; rw [show ordL 4 = 2 by decide, if_neg h1, if_pos h2])
        have h1' : ((2 : Int) < f) = False := eq_false h1
        have h2' : (f < (-4 : Int)) = True := eq_true (by omega)
        clear h2
        go_enter Tryz.func69, Tryz.ntmps69
        go_wp2_with fail
        go_ret
        exact ⟨ret_int HF.out.symm, HB.out⟩
      · have HF : Hid (altL f 4 = 0) := Lib.hid (by unfold altL; rw [show ordL 4 = 2 by decide, if_neg h1, if_neg h2])
        have h1' : ((2 : Int) < f) = False := eq_false h1
        have h2' : (f < (-4 : Int)) = False := eq_false (by omega)
        clear h2
        go_enter Tryz.func69, Tryz.ntmps69
        go_wp2_with fail
        go_ret
        exact ⟨ret_int HF.out.symm, HB.out⟩
  · by_cases h1 : (4 : Int) < f
    · have HF : Hid (altL f 5 = 1) := Lib.hid (by unfold altL; rw [show ordL 5 = 4 by decide, if_pos h1])
      have h1' : ((4 : Int) < f) = True := eq_true h1
      go_enter Tryz.func69, Tryz.ntmps69
      go_wp2_with fail
      go_ret
      exact ⟨ret_int HF.out.symm, HB.out⟩
    · by_cases h2 : f < 4 - 6
      · have HF : Hid (altL f 5 = -1) := Lib.hid (by unfold altL; rw [show ordL 5 = 4 by decide, if_neg h1, if_pos h2])
        have h1' : ((4 : Int) < f) = False := eq_false h1
        have h2' : (f < (-2 : Int)) = True := eq_true (by omega)
        clear h2
        go_enter Tryz.func69, Tryz.ntmps69
        go_wp2_with fail
        go_ret
        exact ⟨ret_int HF.out.symm, HB.out⟩
      · have HF : Hid (altL f 5 = 0) := Lib.hid (by unfold altL; rw [show ordL 5 = 4 by decide, if_neg h1, if_neg h2])
        have h1' : ((4 : Int) < f) = False := eq_false h1
        have h2' : (f < (-2 : Int)) = False := eq_false (by omega)
        clear h2
        go_enter Tryz.func69, Tryz.ntmps69
        go_wp2_with fail
        go_ret
        exact ⟨ret_int HF.out.symm, HB.out⟩
  · by_cases h1 : (6 : Int) < f
    · have HF : Hid (altL f 6 = 1) := Lib.hid (by unfold altL; rw [show ordL 6 = 6 by decide, if_pos h1])
      have h1' : ((6 : Int) < f) = True := eq_true h1
      go_enter Tryz.func69, Tryz.ntmps69
      go_wp2_with fail
      go_ret
      exact ⟨ret_int HF.out.symm, HB.out⟩
    · by_cases h2 : f < 6 - 6
      · have HF : Hid (altL f 6 = -1) := Lib.hid (by unfold altL; rw [show ordL 6 = 6 by decide, if_neg h1, if_pos h2])
        have h1' : ((6 : Int) < f) = False := eq_false h1
        have h2' : (f < (0 : Int)) = True := eq_true (by omega)
        clear h2
        go_enter Tryz.func69, Tryz.ntmps69
        go_wp2_with fail
        go_ret
        exact ⟨ret_int HF.out.symm, HB.out⟩
      · have HF : Hid (altL f 6 = 0) := Lib.hid (by unfold altL; rw [show ordL 6 = 6 by decide, if_neg h1, if_neg h2])
        have h1' : ((6 : Int) < f) = False := eq_false h1
        have h2' : (f < (0 : Int)) = False := eq_false (by omega)
        clear h2
        go_enter Tryz.func69, Tryz.ntmps69
        go_wp2_with fail
        go_ret
        exact ⟨ret_int HF.out.symm, HB.out⟩
theorem impl_isKey_b (f : Int) (w : World) : Calls Tryz.prog 34 #[.int .i64 f] w (RetB w (inR f (-7) 7)) := (impl_isKey f w).mono fun e w' h => ⟨h.1, by rw [h.2]; exact Below.refl _ _⟩
theorem spec_l1In_b (n lo hi : Int) (w : World) : Calls Tryz.prog 20 #[.int .i64 n, .int .i64 lo, .int .i64 hi] w (RetB w (inR n lo hi)) := (spec_l1In n lo hi w).mono fun e w' h => ⟨h.1, by rw [h.2]; exact Below.refl _ _⟩
set_option maxHeartbeats 4000000 in
theorem impl_InKey (f s a o : Int) (w : World) : Calls Tryz.prog 63 #[.int .i64 f, .agg #[.int .i64 s, .int .i64 a, .int .i64 o]] w (RetB w (ikB f s a o)) := by
  have HK := Lib.hid (Blk.new w 57 #[.int .i64 s, .int .i64 a, .int .i64 o])
  have HB := Lib.hid ((Below.refl w.heap.size w).alloc (Nat.le_refl _) (.cells #[.int .i64 s, .int .i64 a, .int .i64 o] 57))
  have z0 : w.heap.size + 1 ≤ (w.alloc (.cells #[.int .i64 s, .int .i64 a, .int .i64 o] 57)).heap.size := by simp
  cases h1 : inR f (-7) 7
  · have HF : Hid (ikB f s a o = false) := Lib.hid (by unfold ikB; rw [h1]; rfl)
    have H1 := Lib.hid h1; clear h1
    go_enter Tryz.func63, Tryz.ntmps63
    go_upto_region 1 with fail
    generalize w.alloc (.cells #[.int .i64 s, .int .i64 a, .int .i64 o] 57) = w0 at *
    have c0 := HK.out.cell 0; have c1 := HK.out.cell 1; have c2 := HK.out.cell 2
    refine regionL_draws rfl 20 [some 5, some 6, some 7, some 8, some 9, some 10, some 11, some 12, some 13, some 14, some 15, some 16, some 17, some 18, some 19, some 4]
      [FEq (.int .i64 (f)), FEq (.bool false), FEq (.bool false), FEq (undef), FEq (undef), FEq (.bool false), FEq (.bool false), FEq (undef), FEq (undef), FEq (undef), FEq (undef), FEq (undef), FEq (undef), FEq (undef), FEq (.bool false), FEq (.bool false)] (by kernel_rfl) (by kernel_rfl) ?_ ?_ ?_
    · exact stayLs_cons stayL_eq (stayLs_cons stayL_eq (stayLs_cons stayL_eq (stayLs_cons stayL_eq (stayLs_cons stayL_eq (stayLs_cons stayL_eq (stayLs_cons stayL_eq (stayLs_cons stayL_eq (stayLs_cons stayL_eq (stayLs_cons stayL_eq (stayLs_cons stayL_eq (stayLs_cons stayL_eq (stayLs_cons stayL_eq (stayLs_cons stayL_eq (stayLs_cons stayL_eq (stayLs_cons stayL_eq stayLs_nil)))))))))))))))
    · refine AllI.cons ?_ (AllI.cons ?_ (AllI.cons ?_ (AllI.cons ?_ (AllI.cons ?_ (AllI.cons ?_ (AllI.cons ?_ (AllI.cons ?_ (AllI.cons ?_ (AllI.cons ?_ (AllI.cons ?_ (AllI.cons ?_ (AllI.cons ?_ (AllI.cons ?_ (AllI.cons ?_ (AllI.cons ?_ trivial)))))))))))))))
      · intro kk bb ff ww hkk hf hd hp hq hJ
        refine .inl ⟨wanted_none rfl, ?_⟩
        have q : FEq (.int .i64 (f)) (ff 0) ww := (hf 0 (by decide)).trans rfl
        exact sl_val (ff 0) hJ (by simp only [execOp, ev_tmp _ _ (show 0 < 20 by decide)]; rfl) q
      · intro kk bb ff ww hkk hf hd hp hq hJ
        refine .inl ⟨wanted_none rfl, ?_⟩
        obtain ⟨p0, -⟩ := hd
        have q5 : FEq (.int .i64 (f)) (ff 5) ww := p0 rfl
        unfold FEq at q5
        refine sl_enter 34 #[.int .i64 (f)] hJ ?_ ?_
        · simp only [execOp, ev_tmp _ _ (show 5 < 20 by decide), ev_const, q5, ev_func, resolve, List.map_toArray, List.map_cons, List.map_nil]
          simp [go_sem]
        · skip
          have h := retB_post (impl_isKey_b f ww)
          rw [H1.out] at h
          exact h
      · intro kk bb ff ww hkk hf hd hp hq hJ
        refine .inl ⟨wanted_none rfl, ?_⟩
        obtain ⟨p0, p1, -⟩ := hd
        have q : FEq (.bool false) (ff 6) ww := p0 rfl
        exact sl_val (ff 6) hJ (by simp only [execOp, ev_tmp _ _ (show 6 < 20 by decide)]; rfl) q
      · intro kk bb ff ww hkk hf hd hp hq hJ
        obtain ⟨p0, -⟩ := hd
        have qg : FEq (.bool false) (ff 7) ww := p0 rfl
        exact .inr ⟨(wanted_off (b := false) (want := true) (j := 2) (d := 7) qg (by decide) rfl rfl rfl), Below.refl _ _, hJ, rfl⟩
      · intro kk bb ff ww hkk hf hd hp hq hJ
        obtain ⟨p0, p1, p2, -⟩ := hd
        have qg : FEq (.bool false) (ff 7) ww := p1 rfl
        exact .inr ⟨(wanted_off (b := false) (want := true) (j := 2) (d := 7) qg (by decide) rfl rfl rfl), Below.refl _ _, hJ, rfl⟩
      · intro kk bb ff ww hkk hf hd hp hq hJ
        refine .inl ⟨wanted_none rfl, ?_⟩
        obtain ⟨p0, p1, -⟩ := hd
        have q7 : FEq (.bool false) (ff 7) ww := p0 rfl
        unfold FEq at q7
        refine sl_val (.bool false) hJ ?_ rfl
        simp only [execOp, ev_tmp _ _ (show 7 < 20 by decide), ev_tmp _ _ (show 9 < 20 by decide), ev_const, q7]
        simp [go_sem]
      · intro kk bb ff ww hkk hf hd hp hq hJ
        refine .inl ⟨wanted_none rfl, ?_⟩
        obtain ⟨p0, p1, -⟩ := hd
        have q : FEq (.bool false) (ff 10) ww := p0 rfl
        exact sl_val (ff 10) hJ (by simp only [execOp, ev_tmp _ _ (show 10 < 20 by decide)]; rfl) q
      · intro kk bb ff ww hkk hf hd hp hq hJ
        obtain ⟨p0, -⟩ := hd
        have qg : FEq (.bool false) (ff 11) ww := p0 rfl
        exact .inr ⟨(wanted_off (b := false) (want := true) (j := 6) (d := 11) qg (by decide) rfl rfl rfl), Below.refl _ _, hJ, rfl⟩
      · intro kk bb ff ww hkk hf hd hp hq hJ
        obtain ⟨p0, p1, -⟩ := hd
        have qg : FEq (.bool false) (ff 11) ww := p1 rfl
        exact .inr ⟨(wanted_off (b := false) (want := true) (j := 6) (d := 11) qg (by decide) rfl rfl rfl), Below.refl _ _, hJ, rfl⟩
      · intro kk bb ff ww hkk hf hd hp hq hJ
        obtain ⟨p0, -⟩ := hd
        have qg : FEq (.bool false) (ff 11) ww := p0 rfl
        exact .inr ⟨(wanted_off (b := false) (want := true) (j := 6) (d := 11) qg (by decide) rfl rfl rfl), Below.refl _ _, hJ, rfl⟩
      · intro kk bb ff ww hkk hf hd hp hq hJ
        obtain ⟨p0, -⟩ := hd
        have qg : FEq (.bool false) (ff 11) ww := p0 rfl
        exact .inr ⟨(wanted_off (b := false) (want := true) (j := 6) (d := 11) qg (by decide) rfl rfl rfl), Below.refl _ _, hJ, rfl⟩
      · intro kk bb ff ww hkk hf hd hp hq hJ
        obtain ⟨p0, p1, -⟩ := hd
        have qg : FEq (.bool false) (ff 11) ww := p1 rfl
        exact .inr ⟨(wanted_off (b := false) (want := true) (j := 6) (d := 11) qg (by decide) rfl rfl rfl), Below.refl _ _, hJ, rfl⟩
      · intro kk bb ff ww hkk hf hd hp hq hJ
        obtain ⟨p0, p1, p2, p3, -⟩ := hd
        have qg : FEq (.bool false) (ff 11) ww := p2 rfl
        exact .inr ⟨(wanted_off (b := false) (want := true) (j := 6) (d := 11) qg (by decide) rfl rfl rfl), Below.refl _ _, hJ, rfl⟩
      · intro kk bb ff ww hkk hf hd hp hq hJ
        obtain ⟨p0, p1, p2, -⟩ := hd
        have qg : FEq (.bool false) (ff 11) ww := p2 rfl
        exact .inr ⟨(wanted_off (b := false) (want := true) (j := 6) (d := 11) qg (by decide) rfl rfl rfl), Below.refl _ _, hJ, rfl⟩
      · intro kk bb ff ww hkk hf hd hp hq hJ
        refine .inl ⟨wanted_none rfl, ?_⟩
        obtain ⟨p0, p1, -⟩ := hd
        have q11 : FEq (.bool false) (ff 11) ww := p0 rfl
        unfold FEq at q11
        refine sl_val (.bool false) hJ ?_ rfl
        simp only [execOp, ev_tmp _ _ (show 11 < 20 by decide), ev_tmp _ _ (show 18 < 20 by decide), ev_const, q11]
        simp [go_sem]
      · intro kk bb ff ww hkk hf hd hp hq hJ
        refine .inl ⟨wanted_none rfl, ?_⟩
        obtain ⟨p0, p1, p2, p3, p4, p5, p6, p7, p8, p9, p10, p11, p12, p13, p14, p15, p16, -⟩ := hd
        have q : FEq (.bool false) (ff 19) ww := p0 rfl
        exact sl_val (ff 19) hJ (by simp only [execOp, ev_tmp _ _ (show 19 < 20 by decide)]; rfl) q
    intro ff w1 hf hd hJ
    have hfr : fr 20 ff = #[ff 0, ff 1, ff 2, ff 3, ff 4, ff 5, ff 6, ff 7, ff 8, ff 9, ff 10, ff 11, ff 12, ff 13, ff 14, ff 15, ff 16, ff 17, ff 18, ff 19] := rfl
    rw [hfr]; clear hfr
    dsimp only
    have q0_ := hf 0 (by decide)
    have q1_ := hf 1 (by decide)
    have q2_ := hf 2 (by decide)
    have q3_ := hf 3 (by decide)
    have q4_ : FEq (.bool false) (ff 4) w1 := hd 15 (by decide)
    unfold FEq at q4_
    have q5_ : FEq (.int .i64 (f)) (ff 5) w1 := hd 0 (by decide)
    unfold FEq at q5_
    have q6_ : FEq (.bool false) (ff 6) w1 := hd 1 (by decide)
    unfold FEq at q6_
    have q7_ : FEq (.bool false) (ff 7) w1 := hd 2 (by decide)
    unfold FEq at q7_
    have q8_ : FEq (undef) (ff 8) w1 := hd 3 (by decide)
    unfold FEq at q8_
    have q9_ : FEq (undef) (ff 9) w1 := hd 4 (by decide)
    unfold FEq at q9_
    have q10_ : FEq (.bool false) (ff 10) w1 := hd 5 (by decide)
    unfold FEq at q10_
    have q11_ : FEq (.bool false) (ff 11) w1 := hd 6 (by decide)
    unfold FEq at q11_
    have q12_ : FEq (undef) (ff 12) w1 := hd 7 (by decide)
    unfold FEq at q12_
    have q13_ : FEq (undef) (ff 13) w1 := hd 8 (by decide)
    unfold FEq at q13_
    have q14_ : FEq (undef) (ff 14) w1 := hd 9 (by decide)
    unfold FEq at q14_
    have q15_ : FEq (undef) (ff 15) w1 := hd 10 (by decide)
    unfold FEq at q15_
    have q16_ : FEq (undef) (ff 16) w1 := hd 11 (by decide)
    unfold FEq at q16_
    have q17_ : FEq (undef) (ff 17) w1 := hd 12 (by decide)
    unfold FEq at q17_
    have q18_ : FEq (undef) (ff 18) w1 := hd 13 (by decide)
    unfold FEq at q18_
    have q19_ : FEq (.bool false) (ff 19) w1 := hd 14 (by decide)
    unfold FEq at q19_
    simp only [Array.getD_eq_getD_getElem?, List.getElem?_toArray, List.getElem?_cons_zero, List.getElem?_cons_succ, Option.getD_some] at q0_ q1_ q2_ q3_
    rw [q0_, q1_, q2_, q3_, q4_, q5_, q6_, q7_, q8_, q9_, q10_, q11_, q12_, q13_, q14_, q15_, q16_, q17_, q18_, q19_]
    clear q0_ q1_ q2_ q3_ q4_ q5_ q6_ q7_ q8_ q9_ q10_ q11_ q12_ q13_ q14_ q15_ q16_ q17_ q18_ q19_ hf hd
    clear ff
    have b_ : Below _ _ w1 := hJ
    clear hJ
    have HB1 := Lib.hid (HB.out.trans (b_.mono (by omega))); clear b_
    go_wp2_with fail
    go_ret
    exact ⟨ret_bool HF.out.symm, HB1.out⟩
  · have hf7 := inR_iff.1 h1
    cases h2 : pvB s a o
    · have HF : Hid (ikB f s a o = false) := Lib.hid (by unfold ikB; rw [h1, h2]; rfl)
      have H1 := Lib.hid h1; have H2 := Lib.hid h2; clear h1 h2
      go_enter Tryz.func63, Tryz.ntmps63
      go_upto_region 1 with fail
      generalize w.alloc (.cells #[.int .i64 s, .int .i64 a, .int .i64 o] 57) = w0 at *
      have c0 := HK.out.cell 0; have c1 := HK.out.cell 1; have c2 := HK.out.cell 2
      refine regionL_draws rfl 20 [some 5, some 6, some 7, some 8, some 9, some 10, some 11, some 12, some 13, some 14, some 15, some 16, some 17, some 18, some 19, some 4]
        [FEq (.int .i64 (f)), FEq (.bool true), FEq (.bool true), FEq (.agg #[.int .i64 s, .int .i64 a, .int .i64 o]), FEq (.bool false), FEq (.bool false), FEq (.bool false), FEq (undef), FEq (undef), FEq (undef), FEq (undef), FEq (undef), FEq (undef), FEq (undef), FEq (.bool false), FEq (.bool false)] (by kernel_rfl) (by kernel_rfl) ?_ ?_ ?_
      · exact stayLs_cons stayL_eq (stayLs_cons stayL_eq (stayLs_cons stayL_eq (stayLs_cons stayL_eq (stayLs_cons stayL_eq (stayLs_cons stayL_eq (stayLs_cons stayL_eq (stayLs_cons stayL_eq (stayLs_cons stayL_eq (stayLs_cons stayL_eq (stayLs_cons stayL_eq (stayLs_cons stayL_eq (stayLs_cons stayL_eq (stayLs_cons stayL_eq (stayLs_cons stayL_eq (stayLs_cons stayL_eq stayLs_nil)))))))))))))))
      · refine AllI.cons ?_ (AllI.cons ?_ (AllI.cons ?_ (AllI.cons ?_ (AllI.cons ?_ (AllI.cons ?_ (AllI.cons ?_ (AllI.cons ?_ (AllI.cons ?_ (AllI.cons ?_ (AllI.cons ?_ (AllI.cons ?_ (AllI.cons ?_ (AllI.cons ?_ (AllI.cons ?_ (AllI.cons ?_ trivial)))))))))))))))
        · intro kk bb ff ww hkk hf hd hp hq hJ
          refine .inl ⟨wanted_none rfl, ?_⟩
          have q : FEq (.int .i64 (f)) (ff 0) ww := (hf 0 (by decide)).trans rfl
          exact sl_val (ff 0) hJ (by simp only [execOp, ev_tmp _ _ (show 0 < 20 by decide)]; rfl) q
        · intro kk bb ff ww hkk hf hd hp hq hJ
          refine .inl ⟨wanted_none rfl, ?_⟩
          obtain ⟨p0, -⟩ := hd
          have q5 : FEq (.int .i64 (f)) (ff 5) ww := p0 rfl
          unfold FEq at q5
          refine sl_enter 34 #[.int .i64 (f)] hJ ?_ ?_
          · simp only [execOp, ev_tmp _ _ (show 5 < 20 by decide), ev_const, q5, ev_func, resolve, List.map_toArray, List.map_cons, List.map_nil]
            simp [go_sem]
          · skip
            have h := retB_post (impl_isKey_b f ww)
            rw [H1.out] at h
            exact h
        · intro kk bb ff ww hkk hf hd hp hq hJ
          refine .inl ⟨wanted_none rfl, ?_⟩
          obtain ⟨p0, p1, -⟩ := hd
          have q : FEq (.bool true) (ff 6) ww := p0 rfl
          exact sl_val (ff 6) hJ (by simp only [execOp, ev_tmp _ _ (show 6 < 20 by decide)]; rfl) q
        · intro kk bb ff ww hkk hf hd hp hq hJ
          obtain ⟨p0, -⟩ := hd
          have qg : FEq (.bool true) (ff 7) ww := p0 rfl
          refine .inl ⟨(wanted_on (b := true) (want := true) (j := 2) (d := 7) qg (by decide) rfl rfl rfl), ?_⟩
          have q3 : FEq (.pointer (some ⟨w.heap.size, 0, none⟩)) (ff 3) ww := (hf 3 (by decide)).trans rfl
          unfold FEq at q3
          have c0 : ww.cell? ⟨w.heap.size, 0, none⟩ = some (.int .i64 s) := (hJ.cell (p := ⟨w.heap.size, 0, none⟩) (show w.heap.size < _ by omega)).trans c0
          have c1 : ww.cell? ⟨w.heap.size, 1, none⟩ = some (.int .i64 a) := (hJ.cell (p := ⟨w.heap.size, 1, none⟩) (show w.heap.size < _ by omega)).trans c1
          have c2 : ww.cell? ⟨w.heap.size, 2, none⟩ = some (.int .i64 o) := (hJ.cell (p := ⟨w.heap.size, 2, none⟩) (show w.heap.size < _ by omega)).trans c2
          refine sl_val (.agg #[.int .i64 s, .int .i64 a, .int .i64 o]) hJ ?_ rfl
          simp only [execOp, ev_tmp _ _ (show 3 < 20 by decide), ev_const, q3]
          simp [go_sem, c0, c1, c2]
        · intro kk bb ff ww hkk hf hd hp hq hJ
          obtain ⟨p0, p1, p2, -⟩ := hd
          have qg : FEq (.bool true) (ff 7) ww := p1 rfl
          refine .inl ⟨(wanted_on (b := true) (want := true) (j := 2) (d := 7) qg (by decide) rfl rfl rfl), ?_⟩
          have q8 : FEq (.agg #[.int .i64 s, .int .i64 a, .int .i64 o]) (ff 8) ww := p0 rfl
          unfold FEq at q8
          refine sl_enter 50 #[.agg #[.int .i64 s, .int .i64 a, .int .i64 o]] hJ ?_ ?_
          · simp only [execOp, ev_tmp _ _ (show 8 < 20 by decide), ev_const, q8, ev_func, resolve, List.map_toArray, List.map_cons, List.map_nil]
            simp [go_sem]
          · skip
            have h := retB_post (impl_PitchValid s a o ww)
            rw [H2.out] at h
            exact h
        · intro kk bb ff ww hkk hf hd hp hq hJ
          refine .inl ⟨wanted_none rfl, ?_⟩
          obtain ⟨p0, p1, -⟩ := hd
          have q7 : FEq (.bool true) (ff 7) ww := p0 rfl
          unfold FEq at q7
          have q9 : FEq (.bool false) (ff 9) ww := p1 rfl
          unfold FEq at q9
          refine sl_val (.bool false) hJ ?_ rfl
          simp only [execOp, ev_tmp _ _ (show 7 < 20 by decide), ev_tmp _ _ (show 9 < 20 by decide), ev_const, q7, q9]
          simp [go_sem]
        · intro kk bb ff ww hkk hf hd hp hq hJ
          refine .inl ⟨wanted_none rfl, ?_⟩
          obtain ⟨p0, p1, -⟩ := hd
          have q : FEq (.bool false) (ff 10) ww := p0 rfl
          exact sl_val (ff 10) hJ (by simp only [execOp, ev_tmp _ _ (show 10 < 20 by decide)]; rfl) q
        · intro kk bb ff ww hkk hf hd hp hq hJ
          obtain ⟨p0, -⟩ := hd
          have qg : FEq (.bool false) (ff 11) ww := p0 rfl
          exact .inr ⟨(wanted_off (b := false) (want := true) (j := 6) (d := 11) qg (by decide) rfl rfl rfl), Below.refl _ _, hJ, rfl⟩
        · intro kk bb ff ww hkk hf hd hp hq hJ
          obtain ⟨p0, p1, -⟩ := hd
          have qg : FEq (.bool false) (ff 11) ww := p1 rfl
          exact .inr ⟨(wanted_off (b := false) (want := true) (j := 6) (d := 11) qg (by decide) rfl rfl rfl), Below.refl _ _, hJ, rfl⟩
        · intro kk bb ff ww hkk hf hd hp hq hJ
          obtain ⟨p0, -⟩ := hd
          have qg : FEq (.bool false) (ff 11) ww := p0 rfl
          exact .inr ⟨(wanted_off (b := false) (want := true) (j := 6) (d := 11) qg (by decide) rfl rfl rfl), Below.refl _ _, hJ, rfl⟩
        · intro kk bb ff ww hkk hf hd hp hq hJ
          obtain ⟨p0, -⟩ := hd
          have qg : FEq (.bool false) (ff 11) ww := p0 rfl
          exact .inr ⟨(wanted_off (b := false) (want := true) (j := 6) (d := 11) qg (by decide) rfl rfl rfl), Below.refl _ _, hJ, rfl⟩
        · intro kk bb ff ww hkk hf hd hp hq hJ
          obtain ⟨p0, p1, -⟩ := hd
          have qg : FEq (.bool false) (ff 11) ww := p1 rfl
          exact .inr ⟨(wanted_off (b := false) (want := true) (j := 6) (d := 11) qg (by decide) rfl rfl rfl), Below.refl _ _, hJ, rfl⟩
        · intro kk bb ff ww hkk hf hd hp hq hJ
          obtain ⟨p0, p1, p2, p3, -⟩ := hd
          have qg : FEq (.bool false) (ff 11) ww := p2 rfl
          exact .inr ⟨(wanted_off (b := false) (want := true) (j := 6) (d := 11) qg (by decide) rfl rfl rfl), Below.refl _ _, hJ, rfl⟩
        · intro kk bb ff ww hkk hf hd hp hq hJ
          obtain ⟨p0, p1, p2, -⟩ := hd
          have qg : FEq (.bool false) (ff 11) ww := p2 rfl
          exact .inr ⟨(wanted_off (b := false) (want := true) (j := 6) (d := 11) qg (by decide) rfl rfl rfl), Below.refl _ _, hJ, rfl⟩
        · intro kk bb ff ww hkk hf hd hp hq hJ
          refine .inl ⟨wanted_none rfl, ?_⟩
          obtain ⟨p0, p1, -⟩ := hd
          have q11 : FEq (.bool false) (ff 11) ww := p0 rfl
          unfold FEq at q11
          refine sl_val (.bool false) hJ ?_ rfl
          simp only [execOp, ev_tmp _ _ (show 11 < 20 by decide), ev_tmp _ _ (show 18 < 20 by decide), ev_const, q11]
          simp [go_sem]
        · intro kk bb ff ww hkk hf hd hp hq hJ
          refine .inl ⟨wanted_none rfl, ?_⟩
          obtain ⟨p0, p1, p2, p3, p4, p5, p6, p7, p8, p9, p10, p11, p12, p13, p14, p15, p16, -⟩ := hd
          have q : FEq (.bool false) (ff 19) ww := p0 rfl
          exact sl_val (ff 19) hJ (by simp only [execOp, ev_tmp _ _ (show 19 < 20 by decide)]; rfl) q
      intro ff w1 hf hd hJ
      have hfr : fr 20 ff = #[ff 0, ff 1, ff 2, ff 3, ff 4, ff 5, ff 6, ff 7, ff 8, ff 9, ff 10, ff 11, ff 12, ff 13, ff 14, ff 15, ff 16, ff 17, ff 18, ff 19] := rfl
      rw [hfr]; clear hfr
      dsimp only
      have q0_ := hf 0 (by decide)
      have q1_ := hf 1 (by decide)
      have q2_ := hf 2 (by decide)
      have q3_ := hf 3 (by decide)
      have q4_ : FEq (.bool false) (ff 4) w1 := hd 15 (by decide)
      unfold FEq at q4_
      have q5_ : FEq (.int .i64 (f)) (ff 5) w1 := hd 0 (by decide)
      unfold FEq at q5_
      have q6_ : FEq (.bool true) (ff 6) w1 := hd 1 (by decide)
      unfold FEq at q6_
      have q7_ : FEq (.bool true) (ff 7) w1 := hd 2 (by decide)
      unfold FEq at q7_
      have q8_ : FEq (.agg #[.int .i64 s, .int .i64 a, .int .i64 o]) (ff 8) w1 := hd 3 (by decide)
      unfold FEq at q8_
      have q9_ : FEq (.bool false) (ff 9) w1 := hd 4 (by decide)
      unfold FEq at q9_
      have q10_ : FEq (.bool false) (ff 10) w1 := hd 5 (by decide)
      unfold FEq at q10_
      have q11_ : FEq (.bool false) (ff 11) w1 := hd 6 (by decide)
      unfold FEq at q11_
      have q12_ : FEq (undef) (ff 12) w1 := hd 7 (by decide)
      unfold FEq at q12_
      have q13_ : FEq (undef) (ff 13) w1 := hd 8 (by decide)
      unfold FEq at q13_
      have q14_ : FEq (undef) (ff 14) w1 := hd 9 (by decide)
      unfold FEq at q14_
      have q15_ : FEq (undef) (ff 15) w1 := hd 10 (by decide)
      unfold FEq at q15_
      have q16_ : FEq (undef) (ff 16) w1 := hd 11 (by decide)
      unfold FEq at q16_
      have q17_ : FEq (undef) (ff 17) w1 := hd 12 (by decide)
      unfold FEq at q17_
      have q18_ : FEq (undef) (ff 18) w1 := hd 13 (by decide)
      unfold FEq at q18_
      have q19_ : FEq (.bool false) (ff 19) w1 := hd 14 (by decide)
      unfold FEq at q19_
      simp only [Array.getD_eq_getD_getElem?, List.getElem?_toArray, List.getElem?_cons_zero, List.getElem?_cons_succ, Option.getD_some] at q0_ q1_ q2_ q3_
      rw [q0_, q1_, q2_, q3_, q4_, q5_, q6_, q7_, q8_, q9_, q10_, q11_, q12_, q13_, q14_, q15_, q16_, q17_, q18_, q19_]
      clear q0_ q1_ q2_ q3_ q4_ q5_ q6_ q7_ q8_ q9_ q10_ q11_ q12_ q13_ q14_ q15_ q16_ q17_ q18_ q19_ hf hd
      clear ff
      have b_ : Below _ _ w1 := hJ
      clear hJ
      have HB1 := Lib.hid (HB.out.trans (b_.mono (by omega))); clear b_
      go_wp2_with fail
      go_ret
      exact ⟨ret_bool HF.out.symm, HB1.out⟩
    · have hs6 := (pvB_iff.1 h2).1
      have HF : Hid (ikB f s a o = (a == altL f s)) := Lib.hid (by unfold ikB; rw [h1, h2]; rfl)
      have H1 := Lib.hid h1; have H2 := Lib.hid h2; clear h1 h2
      go_enter Tryz.func63, Tryz.ntmps63
      go_upto_region 1 with fail
      generalize w.alloc (.cells #[.int .i64 s, .int .i64 a, .int .i64 o] 57) = w0 at *
      have c0 := HK.out.cell 0; have c1 := HK.out.cell 1; have c2 := HK.out.cell 2
      refine regionL_draws rfl 20 [some 5, some 6, some 7, some 8, some 9, some 10, some 11, some 12, some 13, some 14, some 15, some 16, some 17, some 18, some 19, some 4]
        [FEq (.int .i64 (f)), FEq (.bool true), FEq (.bool true), FEq (.agg #[.int .i64 s, .int .i64 a, .int .i64 o]), FEq (.bool true), FEq (.bool true), FEq (.bool true), FEq (.pointer (some ⟨w.heap.size, 1, none⟩)), FEq (.int .i64 (a)), FEq (.int .i64 (f)), FEq (.pointer (some ⟨w.heap.size, 0, none⟩)), FEq (.int .i64 (s)), FEq (.int .i64 (altL f s)), FEq (.bool (a == altL f s)), FEq (.bool (a == altL f s)), FEq (.bool (a == altL f s))] (by kernel_rfl) (by kernel_rfl) ?_ ?_ ?_
      · exact stayLs_cons stayL_eq (stayLs_cons stayL_eq (stayLs_cons stayL_eq (stayLs_cons stayL_eq (stayLs_cons stayL_eq (stayLs_cons stayL_eq (stayLs_cons stayL_eq (stayLs_cons stayL_eq (stayLs_cons stayL_eq (stayLs_cons stayL_eq (stayLs_cons stayL_eq (stayLs_cons stayL_eq (stayLs_cons stayL_eq (stayLs_cons stayL_eq (stayLs_cons stayL_eq (stayLs_cons stayL_eq stayLs_nil)))))))))))))))
      · refine AllI.cons ?_ (AllI.cons ?_ (AllI.cons ?_ (AllI.cons ?_ (AllI.cons ?_ (AllI.cons ?_ (AllI.cons ?_ (AllI.cons ?_ (AllI.cons ?_ (AllI.cons ?_ (AllI.cons ?_ (AllI.cons ?_ (AllI.cons ?_ (AllI.cons ?_ (AllI.cons ?_ (AllI.cons ?_ trivial)))))))))))))))
        · intro kk bb ff ww hkk hf hd hp hq hJ
          refine .inl ⟨wanted_none rfl, ?_⟩
          have q : FEq (.int .i64 (f)) (ff 0) ww := (hf 0 (by decide)).trans rfl
          exact sl_val (ff 0) hJ (by simp only [execOp, ev_tmp _ _ (show 0 < 20 by decide)]; rfl) q
        · intro kk bb ff ww hkk hf hd hp hq hJ
          refine .inl ⟨wanted_none rfl, ?_⟩
          obtain ⟨p0, -⟩ := hd
          have q5 : FEq (.int .i64 (f)) (ff 5) ww := p0 rfl
          unfold FEq at q5
          refine sl_enter 34 #[.int .i64 (f)] hJ ?_ ?_
          · simp only [execOp, ev_tmp _ _ (show 5 < 20 by decide), ev_const, q5, ev_func, resolve, List.map_toArray, List.map_cons, List.map_nil]
            simp [go_sem]
          · skip
            have h := retB_post (impl_isKey_b f ww)
            rw [H1.out] at h
            exact h
        · intro kk bb ff ww hkk hf hd hp hq hJ
          refine .inl ⟨wanted_none rfl, ?_⟩
          obtain ⟨p0, p1, -⟩ := hd
          have q : FEq (.bool true) (ff 6) ww := p0 rfl
          exact sl_val (ff 6) hJ (by simp only [execOp, ev_tmp _ _ (show 6 < 20 by decide)]; rfl) q
        · intro kk bb ff ww hkk hf hd hp hq hJ
          obtain ⟨p0, -⟩ := hd
          have qg : FEq (.bool true) (ff 7) ww := p0 rfl
          refine .inl ⟨(wanted_on (b := true) (want := true) (j := 2) (d := 7) qg (by decide) rfl rfl rfl), ?_⟩
          have q3 : FEq (.pointer (some ⟨w.heap.size, 0, none⟩)) (ff 3) ww := (hf 3 (by decide)).trans rfl
          unfold FEq at q3
          have c0 : ww.cell? ⟨w.heap.size, 0, none⟩ = some (.int .i64 s) := (hJ.cell (p := ⟨w.heap.size, 0, none⟩) (show w.heap.size < _ by omega)).trans c0
          have c1 : ww.cell? ⟨w.heap.size, 1, none⟩ = some (.int .i64 a) := (hJ.cell (p := ⟨w.heap.size, 1, none⟩) (show w.heap.size < _ by omega)).trans c1
          have c2 : ww.cell? ⟨w.heap.size, 2, none⟩ = some (.int .i64 o) := (hJ.cell (p := ⟨w.heap.size, 2, none⟩) (show w.heap.size < _ by omega)).trans c2
          refine sl_val (.agg #[.int .i64 s, .int .i64 a, .int .i64 o]) hJ ?_ rfl
          simp only [execOp, ev_tmp _ _ (show 3 < 20 by decide), ev_const, q3]
          simp [go_sem, c0, c1, c2]
        · intro kk bb ff ww hkk hf hd hp hq hJ
          obtain ⟨p0, p1, p2, -⟩ := hd
          have qg : FEq (.bool true) (ff 7) ww := p1 rfl
          refine .inl ⟨(wanted_on (b := true) (want := true) (j := 2) (d := 7) qg (by decide) rfl rfl rfl), ?_⟩
          have q8 : FEq (.agg #[.int .i64 s, .int .i64 a, .int .i64 o]) (ff 8) ww := p0 rfl
          unfold FEq at q8
          refine sl_enter 50 #[.agg #[.int .i64 s, .int .i64 a, .int .i64 o]] hJ ?_ ?_
          · simp only [execOp, ev_tmp _ _ (show 8 < 20 by decide), ev_const, q8, ev_func, resolve, List.map_toArray, List.map_cons, List.map_nil]
            simp [go_sem]
          · skip
            have h := retB_post (impl_PitchValid s a o ww)
            rw [H2.out] at h
            exact h
        · intro kk bb ff ww hkk hf hd hp hq hJ
          refine .inl ⟨wanted_none rfl, ?_⟩
          obtain ⟨p0, p1, -⟩ := hd
          have q7 : FEq (.bool true) (ff 7) ww := p0 rfl
          unfold FEq at q7
          have q9 : FEq (.bool true) (ff 9) ww := p1 rfl
          unfold FEq at q9
          refine sl_val (.bool true) hJ ?_ rfl
          simp only [execOp, ev_tmp _ _ (show 7 < 20 by decide), ev_tmp _ _ (show 9 < 20 by decide), ev_const, q7, q9]
          simp [go_sem]
        · intro kk bb ff ww hkk hf hd hp hq hJ
          refine .inl ⟨wanted_none rfl, ?_⟩
          obtain ⟨p0, p1, -⟩ := hd
          have q : FEq (.bool true) (ff 10) ww := p0 rfl
          exact sl_val (ff 10) hJ (by simp only [execOp, ev_tmp _ _ (show 10 < 20 by decide)]; rfl) q
        · intro kk bb ff ww hkk hf hd hp hq hJ
          obtain ⟨p0, -⟩ := hd
          have qg : FEq (.bool true) (ff 11) ww := p0 rfl
          refine .inl ⟨(wanted_on (b := true) (want := true) (j := 6) (d := 11) qg (by decide) rfl rfl rfl), ?_⟩
          have q3 : FEq (.pointer (some ⟨w.heap.size, 0, none⟩)) (ff 3) ww := (hf 3 (by decide)).trans rfl
          unfold FEq at q3
          refine sl_val (.pointer (some ⟨w.heap.size, 1, none⟩)) hJ ?_ rfl
          simp only [execOp, ev_tmp _ _ (show 3 < 20 by decide), ev_const, q3]
          simp [go_sem]
        · intro kk bb ff ww hkk hf hd hp hq hJ
          obtain ⟨p0, p1, -⟩ := hd
          have qg : FEq (.bool true) (ff 11) ww := p1 rfl
          refine .inl ⟨(wanted_on (b := true) (want := true) (j := 6) (d := 11) qg (by decide) rfl rfl rfl), ?_⟩
          have q12 : FEq (.pointer (some ⟨w.heap.size, 1, none⟩)) (ff 12) ww := p0 rfl
          unfold FEq at q12
          have c1 : ww.cell? ⟨w.heap.size, 1, none⟩ = some (.int .i64 a) := (hJ.cell (p := ⟨w.heap.size, 1, none⟩) (show w.heap.size < _ by omega)).trans c1
          refine sl_val (.int .i64 a) hJ ?_ rfl
          simp only [execOp, ev_tmp _ _ (show 12 < 20 by decide), ev_const, q12]
          simp [go_sem, c1]
        · intro kk bb ff ww hkk hf hd hp hq hJ
          obtain ⟨p0, -⟩ := hd
          have qg : FEq (.bool true) (ff 11) ww := p0 rfl
          refine .inl ⟨(wanted_on (b := true) (want := true) (j := 6) (d := 11) qg (by decide) rfl rfl rfl), ?_⟩
          have q : FEq (.int .i64 (f)) (ff 0) ww := (hf 0 (by decide)).trans rfl
          exact sl_val (ff 0) hJ (by simp only [execOp, ev_tmp _ _ (show 0 < 20 by decide)]; rfl) q
        · intro kk bb ff ww hkk hf hd hp hq hJ
          obtain ⟨p0, -⟩ := hd
          have qg : FEq (.bool true) (ff 11) ww := p0 rfl
          refine .inl ⟨(wanted_on (b := true) (want := true) (j := 6) (d := 11) qg (by decide) rfl rfl rfl), ?_⟩
          have q3 : FEq (.pointer (some ⟨w.heap.size, 0, none⟩)) (ff 3) ww := (hf 3 (by decide)).trans rfl
          unfold FEq at q3
          refine sl_val (.pointer (some ⟨w.heap.size, 0, none⟩)) hJ ?_ rfl
          simp only [execOp, ev_tmp _ _ (show 3 < 20 by decide), ev_const, q3]
          simp [go_sem]
        · intro kk bb ff ww hkk hf hd hp hq hJ
          obtain ⟨p0, p1, -⟩ := hd
          have qg : FEq (.bool true) (ff 11) ww := p1 rfl
          refine .inl ⟨(wanted_on (b := true) (want := true) (j := 6) (d := 11) qg (by decide) rfl rfl rfl), ?_⟩
          have q15 : FEq (.pointer (some ⟨w.heap.size, 0, none⟩)) (ff 15) ww := p0 rfl
          unfold FEq at q15
          have c0 : ww.cell? ⟨w.heap.size, 0, none⟩ = some (.int .i64 s) := (hJ.cell (p := ⟨w.heap.size, 0, none⟩) (show w.heap.size < _ by omega)).trans c0
          refine sl_val (.int .i64 s) hJ ?_ rfl
          simp only [execOp, ev_tmp _ _ (show 15 < 20 by decide), ev_const, q15]
          simp [go_sem, c0]
        · intro kk bb ff ww hkk hf hd hp hq hJ
          obtain ⟨p0, p1, p2, p3, -⟩ := hd
          have qg : FEq (.bool true) (ff 11) ww := p2 rfl
          refine .inl ⟨(wanted_on (b := true) (want := true) (j := 6) (d := 11) qg (by decide) rfl rfl rfl), ?_⟩
          have q14 : FEq (.int .i64 (f)) (ff 14) ww := p0 rfl
          unfold FEq at q14
          have q16 : FEq (.int .i64 (s)) (ff 16) ww := p1 rfl
          unfold FEq at q16
          refine sl_enter 84 #[.int .i64 (f), .int .i64 (s)] hJ ?_ ?_
          · simp only [execOp, ev_tmp _ _ (show 14 < 20 by decide), ev_tmp _ _ (show 16 < 20 by decide), ev_const, q14, q16, ev_func, resolve, List.map_toArray, List.map_cons, List.map_nil]
            simp [go_sem]
          · skip
            exact retI_post (impl_KeyAlter f s ww hf7 hs6)
        · intro kk bb ff ww hkk hf hd hp hq hJ
          obtain ⟨p0, p1, p2, -⟩ := hd
          have qg : FEq (.bool true) (ff 11) ww := p2 rfl
          refine .inl ⟨(wanted_on (b := true) (want := true) (j := 6) (d := 11) qg (by decide) rfl rfl rfl), ?_⟩
          have q13 : FEq (.int .i64 (a)) (ff 13) ww := p0 rfl
          unfold FEq at q13
          have q17 : FEq (.int .i64 (altL f s)) (ff 17) ww := p1 rfl
          unfold FEq at q17
          refine sl_val (.bool (a == altL f s)) hJ ?_ rfl
          simp only [execOp, ev_tmp _ _ (show 13 < 20 by decide), ev_tmp _ _ (show 17 < 20 by decide), ev_const, q13, q17]
          simp [go_sem]
        · intro kk bb ff ww hkk hf hd hp hq hJ
          refine .inl ⟨wanted_none rfl, ?_⟩
          obtain ⟨p0, p1, -⟩ := hd
          have q11 : FEq (.bool true) (ff 11) ww := p0 rfl
          unfold FEq at q11
          have q18 : FEq (.bool (a == altL f s)) (ff 18) ww := p1 rfl
          unfold FEq at q18
          refine sl_val (.bool (a == altL f s)) hJ ?_ rfl
          simp only [execOp, ev_tmp _ _ (show 11 < 20 by decide), ev_tmp _ _ (show 18 < 20 by decide), ev_const, q11, q18]
          simp [go_sem]
        · intro kk bb ff ww hkk hf hd hp hq hJ
          refine .inl ⟨wanted_none rfl, ?_⟩
          obtain ⟨p0, p1, p2, p3, p4, p5, p6, p7, p8, p9, p10, p11, p12, p13, p14, p15, p16, -⟩ := hd
          have q : FEq (.bool (a == altL f s)) (ff 19) ww := p0 rfl
          exact sl_val (ff 19) hJ (by simp only [execOp, ev_tmp _ _ (show 19 < 20 by decide)]; rfl) q
      intro ff w1 hf hd hJ
      have hfr : fr 20 ff = #[ff 0, ff 1, ff 2, ff 3, ff 4, ff 5, ff 6, ff 7, ff 8, ff 9, ff 10, ff 11, ff 12, ff 13, ff 14, ff 15, ff 16, ff 17, ff 18, ff 19] := rfl
      rw [hfr]; clear hfr
      dsimp only
      have q0_ := hf 0 (by decide)
      have q1_ := hf 1 (by decide)
      have q2_ := hf 2 (by decide)
      have q3_ := hf 3 (by decide)
      have q4_ : FEq (.bool (a == altL f s)) (ff 4) w1 := hd 15 (by decide)
      unfold FEq at q4_
      have q5_ : FEq (.int .i64 (f)) (ff 5) w1 := hd 0 (by decide)
      unfold FEq at q5_
      have q6_ : FEq (.bool true) (ff 6) w1 := hd 1 (by decide)
      unfold FEq at q6_
      have q7_ : FEq (.bool true) (ff 7) w1 := hd 2 (by decide)
      unfold FEq at q7_
      have q8_ : FEq (.agg #[.int .i64 s, .int .i64 a, .int .i64 o]) (ff 8) w1 := hd 3 (by decide)
      unfold FEq at q8_
      have q9_ : FEq (.bool true) (ff 9) w1 := hd 4 (by decide)
      unfold FEq at q9_
      have q10_ : FEq (.bool true) (ff 10) w1 := hd 5 (by decide)
      unfold FEq at q10_
      have q11_ : FEq (.bool true) (ff 11) w1 := hd 6 (by decide)
      unfold FEq at q11_
      have q12_ : FEq (.pointer (some ⟨w.heap.size, 1, none⟩)) (ff 12) w1 := hd 7 (by decide)
      unfold FEq at q12_
      have q13_ : FEq (.int .i64 (a)) (ff 13) w1 := hd 8 (by decide)
      unfold FEq at q13_
      have q14_ : FEq (.int .i64 (f)) (ff 14) w1 := hd 9 (by decide)
      unfold FEq at q14_
      have q15_ : FEq (.pointer (some ⟨w.heap.size, 0, none⟩)) (ff 15) w1 := hd 10 (by decide)
      unfold FEq at q15_
      have q16_ : FEq (.int .i64 (s)) (ff 16) w1 := hd 11 (by decide)
      unfold FEq at q16_
      have q17_ : FEq (.int .i64 (altL f s)) (ff 17) w1 := hd 12 (by decide)
      unfold FEq at q17_
      have q18_ : FEq (.bool (a == altL f s)) (ff 18) w1 := hd 13 (by decide)
      unfold FEq at q18_
      have q19_ : FEq (.bool (a == altL f s)) (ff 19) w1 := hd 14 (by decide)
      unfold FEq at q19_
      simp only [Array.getD_eq_getD_getElem?, List.getElem?_toArray, List.getElem?_cons_zero, List.getElem?_cons_succ, Option.getD_some] at q0_ q1_ q2_ q3_
      rw [q0_, q1_, q2_, q3_, q4_, q5_, q6_, q7_, q8_, q9_, q10_, q11_, q12_, q13_, q14_, q15_, q16_, q17_, q18_, q19_]
      clear q0_ q1_ q2_ q3_ q4_ q5_ q6_ q7_ q8_ q9_ q10_ q11_ q12_ q13_ q14_ q15_ q16_ q17_ q18_ q19_ hf hd
      clear ff
      have b_ : Below _ _ w1 := hJ
      clear hJ
      have HB1 := Lib.hid (HB.out.trans (b_.mono (by omega))); clear b_
      go_wp2_with fail
      go_ret
      exact ⟨ret_bool HF.out.symm, HB1.out⟩
set_option maxHeartbeats 4000000 in
theorem spec_InKey (f s a o : Int) (w : World) : Calls Tryz.prog 45 #[.int .i64 f, .agg #[.int .i64 s, .int .i64 a, .int .i64 o]] w (RetB w (ikB f s a o)) := by
  have HK := Lib.hid (Blk.new w 57 #[.int .i64 s, .int .i64 a, .int .i64 o])
  have HB := Lib.hid ((Below.refl w.heap.size w).alloc (Nat.le_refl _) (.cells #[.int .i64 s, .int .i64 a, .int .i64 o] 57))
  have z0 : w.heap.size + 1 ≤ (w.alloc (.cells #[.int .i64 s, .int .i64 a, .int .i64 o] 57)).heap.size := by simp
  cases h1 : inR f (-7) 7
  · have HF : Hid (ikB f s a o = false) := Lib.hid (by unfold ikB; rw [h1]; rfl)
    have H1 := Lib.hid h1; clear h1
    go_enter Tryz.func45, Tryz.ntmps45
    go_upto_region 1 with fail
    generalize w.alloc (.cells #[.int .i64 s, .int .i64 a, .int .i64 o] 57) = w0 at *
    have c0 := HK.out.cell 0; have c1 := HK.out.cell 1; have c2 := HK.out.cell 2
    refine regionL_draws rfl 20 [some 5, some 6, some 7, some 8, some 9, some 10, some 11, some 12, some 13, some 14, some 15, some 16, some 17, some 18, some 19, some 4]
      [FEq (.int .i64 (f)), FEq (.bool false), FEq (.bool false), FEq (undef), FEq (undef), FEq (.bool false), FEq (.bool false), FEq (undef), FEq (undef), FEq (undef), FEq (undef), FEq (undef), FEq (undef), FEq (undef), FEq (.bool false), FEq (.bool false)] (by kernel_rfl) (by kernel_rfl) ?_ ?_ ?_
    · exact stayLs_cons stayL_eq (stayLs_cons stayL_eq (stayLs_cons stayL_eq (stayLs_cons stayL_eq (stayLs_cons stayL_eq (stayLs_cons stayL_eq (stayLs_cons stayL_eq (stayLs_cons stayL_eq (stayLs_cons stayL_eq (stayLs_cons stayL_eq (stayLs_cons stayL_eq (stayLs_cons stayL_eq (stayLs_cons stayL_eq (stayLs_cons stayL_eq (stayLs_cons stayL_eq (stayLs_cons stayL_eq stayLs_nil)))))))))))))))
    · refine AllI.cons ?_ (AllI.cons ?_ (AllI.cons ?_ (AllI.cons ?_ (AllI.cons ?_ (AllI.cons ?_ (AllI.cons ?_ (AllI.cons ?_ (AllI.cons ?_ (AllI.cons ?_ (AllI.cons ?_ (AllI.cons ?_ (AllI.cons ?_ (AllI.cons ?_ (AllI.cons ?_ (AllI.cons ?_ trivial)))))))))))))))
      · intro kk bb ff ww hkk hf hd hp hq hJ
        refine .inl ⟨wanted_none rfl, ?_⟩
        have q : FEq (.int .i64 (f)) (ff 0) ww := (hf 0 (by decide)).trans rfl
        exact sl_val (ff 0) hJ (by simp only [execOp, ev_tmp _ _ (show 0 < 20 by decide)]; rfl) q
      · intro kk bb ff ww hkk hf hd hp hq hJ
        refine .inl ⟨wanted_none rfl, ?_⟩
        obtain ⟨p0, -⟩ := hd
        have q5 : FEq (.int .i64 (f)) (ff 5) ww := p0 rfl
        unfold FEq at q5
        refine sl_enter 20 #[.int .i64 (f), .int .i64 (-7), .int .i64 (7)] hJ ?_ ?_
        · simp only [execOp, ev_tmp _ _ (show 5 < 20 by decide), ev_const, q5, ev_func, resolve, List.map_toArray, List.map_cons, List.map_nil]
          simp [go_sem]
        · skip
          have h := retB_post (spec_l1In_b f (-7) 7 ww)
          rw [H1.out] at h
          exact h
      · intro kk bb ff ww hkk hf hd hp hq hJ
        refine .inl ⟨wanted_none rfl, ?_⟩
        obtain ⟨p0, p1, -⟩ := hd
        have q : FEq (.bool false) (ff 6) ww := p0 rfl
        exact sl_val (ff 6) hJ (by simp only [execOp, ev_tmp _ _ (show 6 < 20 by decide)]; rfl) q
      · intro kk bb ff ww hkk hf hd hp hq hJ
        obtain ⟨p0, -⟩ := hd
        have qg : FEq (.bool false) (ff 7) ww := p0 rfl
        exact .inr ⟨(wanted_off (b := false) (want := true) (j := 2) (d := 7) qg (by decide) rfl rfl rfl), Below.refl _ _, hJ, rfl⟩
      · intro kk bb ff ww hkk hf hd hp hq hJ
        obtain ⟨p0, p1, p2, -⟩ := hd
        have qg : FEq (.bool false) (ff 7) ww := p1 rfl
        exact .inr ⟨(wanted_off (b := false) (want := true) (j := 2) (d := 7) qg (by decide) rfl rfl rfl), Below.refl _ _, hJ, rfl⟩
      · intro kk bb ff ww hkk hf hd hp hq hJ
        refine .inl ⟨wanted_none rfl, ?_⟩
        obtain ⟨p0, p1, -⟩ := hd
        have q7 : FEq (.bool false) (ff 7) ww := p0 rfl
        unfold FEq at q7
        refine sl_val (.bool false) hJ ?_ rfl
        simp only [execOp, ev_tmp _ _ (show 7 < 20 by decide), ev_tmp _ _ (show 9 < 20 by decide), ev_const, q7]
        simp [go_sem]
      · intro kk bb ff ww hkk hf hd hp hq hJ
        refine .inl ⟨wanted_none rfl, ?_⟩
        obtain ⟨p0, p1, -⟩ := hd
        have q : FEq (.bool false) (ff 10) ww := p0 rfl
        exact sl_val (ff 10) hJ (by simp only [execOp, ev_tmp _ _ (show 10 < 20 by decide)]; rfl) q
      · intro kk bb ff ww hkk hf hd hp hq hJ
        obtain ⟨p0, -⟩ := hd
        have qg : FEq (.bool false) (ff 11) ww := p0 rfl
        exact .inr ⟨(wanted_off (b := false) (want := true) (j := 6) (d := 11) qg (by decide) rfl rfl rfl), Below.refl _ _, hJ, rfl⟩
      · intro kk bb ff ww hkk hf hd hp hq hJ
        obtain ⟨p0, p1, -⟩ := hd
        have qg : FEq (.bool false) (ff 11) ww := p1 rfl
        exact .inr ⟨(wanted_off (b := false) (want := true) (j := 6) (d := 11) qg (by decide) rfl rfl rfl), Below.refl _ _, hJ, rfl⟩
      · intro kk bb ff ww hkk hf hd hp hq hJ
        obtain ⟨p0, -⟩ := hd
        have qg : FEq (.bool false) (ff 11) ww := p0 rfl
        exact .inr ⟨(wanted_off (b := false) (want := true) (j := 6) (d := 11) qg (by decide) rfl rfl rfl), Below.refl _ _, hJ, rfl⟩
      · intro kk bb ff ww hkk hf hd hp hq hJ
        obtain ⟨p0, -⟩ := hd
        have qg : FEq (.bool false) (ff 11) ww := p0 rfl
        exact .inr ⟨(wanted_off (b := false) (want := true) (j := 6) (d := 11) qg (by decide) rfl rfl rfl), Below.refl _ _, hJ, rfl⟩
      · intro kk bb ff ww hkk hf hd hp hq hJ
        obtain ⟨p0, p1, -⟩ := hd
        have qg : FEq (.bool false) (ff 11) ww := p1 rfl
        exact .inr ⟨(wanted_off (b := false) (want := true) (j := 6) (d := 11) qg (by decide) rfl rfl rfl), Below.refl _ _, hJ, rfl⟩
      · intro kk bb ff ww hkk hf hd hp hq hJ
        obtain ⟨p0, p1, p2, p3, -⟩ := hd
        have qg : FEq (.bool false) (ff 11) ww := p2 rfl
        exact .inr ⟨(wanted_off (b := false) (want := true) (j := 6) (d := 11) qg (by decide) rfl rfl rfl), Below.refl _ _, hJ, rfl⟩
      · intro kk bb ff ww hkk hf hd hp hq hJ
        obtain ⟨p0, p1, p2, -⟩ := hd
        have qg : FEq (.bool false) (ff 11) ww := p2 rfl
        exact .inr ⟨(wanted_off (b := false) (want := true) (j := 6) (d := 11) qg (by decide) rfl rfl rfl), Below.refl _ _, hJ, rfl⟩
      · intro kk bb ff ww hkk hf hd hp hq hJ
        refine .inl ⟨wanted_none rfl, ?_⟩
        obtain ⟨p0, p1, -⟩ := hd
        have q11 : FEq (.bool false) (ff 11) ww := p0 rfl
        unfold FEq at q11
        refine sl_val (.bool false) hJ ?_ rfl
        simp only [execOp, ev_tmp _ _ (show 11 < 20 by decide), ev_tmp _ _ (show 18 < 20 by decide), ev_const, q11]
        simp [go_sem]
      · intro kk bb ff ww hkk hf hd hp hq hJ
        refine .inl ⟨wanted_none rfl, ?_⟩
        obtain ⟨p0, p1, p2, p3, p4, p5, p6, p7, p8, p9, p10, p11, p12, p13, p14, p15, p16, -⟩ := hd
        have q : FEq (.bool false) (ff 19) ww := p0 rfl
        exact sl_val (ff 19) hJ (by simp only [execOp, ev_tmp _ _ (show 19 < 20 by decide)]; rfl) q
    intro ff w1 hf hd hJ
    have hfr : fr 20 ff = #[ff 0, ff 1, ff 2, ff 3, ff 4, ff 5, ff 6, ff 7, ff 8, ff 9, ff 10, ff 11, ff 12, ff 13, ff 14, ff 15, ff 16, ff 17, ff 18, ff 19] := rfl
    rw [hfr]; clear hfr
    dsimp only
    have q0_ := hf 0 (by decide)
    have q1_ := hf 1 (by decide)
    have q2_ := hf 2 (by decide)
    have q3_ := hf 3 (by decide)
    have q4_ : FEq (.bool false) (ff 4) w1 := hd 15 (by decide)
    unfold FEq at q4_
    have q5_ : FEq (.int .i64 (f)) (ff 5) w1 := hd 0 (by decide)
    unfold FEq at q5_
    have q6_ : FEq (.bool false) (ff 6) w1 := hd 1 (by decide)
    unfold FEq at q6_
    have q7_ : FEq (.bool false) (ff 7) w1 := hd 2 (by decide)
    unfold FEq at q7_
    have q8_ : FEq (undef) (ff 8) w1 := hd 3 (by decide)
    unfold FEq at q8_
    have q9_ : FEq (undef) (ff 9) w1 := hd 4 (by decide)
    unfold FEq at q9_
    have q10_ : FEq (.bool false) (ff 10) w1 := hd 5 (by decide)
    unfold FEq at q10_
    have q11_ : FEq (.bool false) (ff 11) w1 := hd 6 (by decide)
    unfold FEq at q11_
    have q12_ : FEq (undef) (ff 12) w1 := hd 7 (by decide)
    unfold FEq at q12_
    have q13_ : FEq (undef) (ff 13) w1 := hd 8 (by decide)
    unfold FEq at q13_
    have q14_ : FEq (undef) (ff 14) w1 := hd 9 (by decide)
    unfold FEq at q14_
    have q15_ : FEq (undef) (ff 15) w1 := hd 10 (by decide)
    unfold FEq at q15_
    have q16_ : FEq (undef) (ff 16) w1 := hd 11 (by decide)
    unfold FEq at q16_
    have q17_ : FEq (undef) (ff 17) w1 := hd 12 (by decide)
    unfold FEq at q17_
    have q18_ : FEq (undef) (ff 18) w1 := hd 13 (by decide)
    unfold FEq at q18_
    have q19_ : FEq (.bool false) (ff 19) w1 := hd 14 (by decide)
    unfold FEq at q19_
    simp only [Array.getD_eq_getD_getElem?, List.getElem?_toArray, List.getElem?_cons_zero, List.getElem?_cons_succ, Option.getD_some] at q0_ q1_ q2_ q3_
    rw [q0_, q1_, q2_, q3_, q4_, q5_, q6_, q7_, q8_, q9_, q10_, q11_, q12_, q13_, q14_, q15_, q16_, q17_, q18_, q19_]
    clear q0_ q1_ q2_ q3_ q4_ q5_ q6_ q7_ q8_ q9_ q10_ q11_ q12_ q13_ q14_ q15_ q16_ q17_ q18_ q19_ hf hd
    clear ff
    have b_ : Below _ _ w1 := hJ
    clear hJ
    have HB1 := Lib.hid (HB.out.trans (b_.mono (by omega))); clear b_
    go_wp2_with fail
    go_ret
    exact ⟨ret_bool HF.out.symm, HB1.out⟩
  · have hf7 := inR_iff.1 h1
    cases h2 : pvB s a o
    · have HF : Hid (ikB f s a o = false) := Lib.hid (by unfold ikB; rw [h1, h2]; rfl)
      have H1 := Lib.hid h1; have H2 := Lib.hid h2; clear h1 h2
      go_enter Tryz.func45, Tryz.ntmps45
      go_upto_region 1 with fail
      generalize w.alloc (.cells #[.int .i64 s, .int .i64 a, .int .i64 o] 57) = w0 at *
      have c0 := HK.out.cell 0; have c1 := HK.out.cell 1; have c2 := HK.out.cell 2
      refine regionL_draws rfl 20 [some 5, some 6, some 7, some 8, some 9, some 10, some 11, some 12, some 13, some 14, some 15, some 16, some 17, some 18, some 19, some 4]
        [FEq (.int .i64 (f)), FEq (.bool true), FEq (.bool true), FEq (.agg #[.int .i64 s, .int .i64 a, .int .i64 o]), FEq (.bool false), FEq (.bool false), FEq (.bool false), FEq (undef), FEq (undef), FEq (undef), FEq (undef), FEq (undef), FEq (undef), FEq (undef), FEq (.bool false), FEq (.bool false)] (by kernel_rfl) (by kernel_rfl) ?_ ?_ ?_
      · exact stayLs_cons stayL_eq (stayLs_cons stayL_eq (stayLs_cons stayL_eq (stayLs_cons stayL_eq (stayLs_cons stayL_eq (stayLs_cons stayL_eq (stayLs_cons stayL_eq (stayLs_cons stayL_eq (stayLs_cons stayL_eq (stayLs_cons stayL_eq (stayLs_cons stayL_eq (stayLs_cons stayL_eq (stayLs_cons stayL_eq (stayLs_cons stayL_eq (stayLs_cons stayL_eq (stayLs_cons stayL_eq stayLs_nil)))))))))))))))
      · refine AllI.cons ?_ (AllI.cons ?_ (AllI.cons ?_ (AllI.cons ?_ (AllI.cons ?_ (AllI.cons ?_ (AllI.cons ?_ (AllI.cons ?_ (AllI.cons ?_ (AllI.cons ?_ (AllI.cons ?_ (AllI.cons ?_ (AllI.cons ?_ (AllI.cons ?_ (AllI.cons ?_ (AllI.cons ?_ trivial)))))))))))))))
        · intro kk bb ff ww hkk hf hd hp hq hJ
          refine .inl ⟨wanted_none rfl, ?_⟩
          have q : FEq (.int .i64 (f)) (ff 0) ww := (hf 0 (by decide)).trans rfl
          exact sl_val (ff 0) hJ (by simp only [execOp, ev_tmp _ _ (show 0 < 20 by decide)]; rfl) q
        · intro kk bb ff ww hkk hf hd hp hq hJ
          refine .inl ⟨wanted_none rfl, ?_⟩
          obtain ⟨p0, -⟩ := hd
          have q5 : FEq (.int .i64 (f)) (ff 5) ww := p0 rfl
          unfold FEq at q5
          refine sl_enter 20 #[.int .i64 (f), .int .i64 (-7), .int .i64 (7)] hJ ?_ ?_
          · simp only [execOp, ev_tmp _ _ (show 5 < 20 by decide), ev_const, q5, ev_func, resolve, List.map_toArray, List.map_cons, List.map_nil]
            simp [go_sem]
          · skip
            have h := retB_post (spec_l1In_b f (-7) 7 ww)
            rw [H1.out] at h
            exact h
        · intro kk bb ff ww hkk hf hd hp hq hJ
          refine .inl ⟨wanted_none rfl, ?_⟩
          obtain ⟨p0, p1, -⟩ := hd
          have q : FEq (.bool true) (ff 6) ww := p0 rfl
          exact sl_val (ff 6) hJ (by simp only [execOp, ev_tmp _ _ (show 6 < 20 by decide)]; rfl) q
        · intro kk bb ff ww hkk hf hd hp hq hJ
          obtain ⟨p0, -⟩ := hd
          have qg : FEq (.bool true) (ff 7) ww := p0 rfl
          refine .inl ⟨(wanted_on (b := true) (want := true) (j := 2) (d := 7) qg (by decide) rfl rfl rfl), ?_⟩
          have q3 : FEq (.pointer (some ⟨w.heap.size, 0, none⟩)) (ff 3) ww := (hf 3 (by decide)).trans rfl
          unfold FEq at q3
          have c0 : ww.cell? ⟨w.heap.size, 0, none⟩ = some (.int .i64 s) := (hJ.cell (p := ⟨w.heap.size, 0, none⟩) (show w.heap.size < _ by omega)).trans c0
          have c1 : ww.cell? ⟨w.heap.size, 1, none⟩ = some (.int .i64 a) := (hJ.cell (p := ⟨w.heap.size, 1, none⟩) (show w.heap.size < _ by omega)).trans c1
          have c2 : ww.cell? ⟨w.heap.size, 2, none⟩ = some (.int .i64 o) := (hJ.cell (p := ⟨w.heap.size, 2, none⟩) (show w.heap.size < _ by omega)).trans c2
          refine sl_val (.agg #[.int .i64 s, .int .i64 a, .int .i64 o]) hJ ?_ rfl
          simp only [execOp, ev_tmp _ _ (show 3 < 20 by decide), ev_const, q3]
          simp [go_sem, c0, c1, c2]
        · intro kk bb ff ww hkk hf hd hp hq hJ
          obtain ⟨p0, p1, p2, -⟩ := hd
          have qg : FEq (.bool true) (ff 7) ww := p1 rfl
          refine .inl ⟨(wanted_on (b := true) (want := true) (j := 2) (d := 7) qg (by decide) rfl rfl rfl), ?_⟩
          have q8 : FEq (.agg #[.int .i64 s, .int .i64 a, .int .i64 o]) (ff 8) ww := p0 rfl
          unfold FEq at q8
          refine sl_enter 68 #[.agg #[.int .i64 s, .int .i64 a, .int .i64 o]] hJ ?_ ?_
          · simp only [execOp, ev_tmp _ _ (show 8 < 20 by decide), ev_const, q8, ev_func, resolve, List.map_toArray, List.map_cons, List.map_nil]
            simp [go_sem]
          · skip
            have h := retB_post (spec_PitchValid s a o ww)
            rw [H2.out] at h
            exact h
        · intro kk bb ff ww hkk hf hd hp hq hJ
          refine .inl ⟨wanted_none rfl, ?_⟩
          obtain ⟨p0, p1, -⟩ := hd
          have q7 : FEq (.bool true) (ff 7) ww := p0 rfl
          unfold FEq at q7
          have q9 : FEq (.bool false) (ff 9) ww := p1 rfl
          unfold FEq at q9
          refine sl_val (.bool false) hJ ?_ rfl
          simp only [execOp, ev_tmp _ _ (show 7 < 20 by decide), ev_tmp _ _ (show 9 < 20 by decide), ev_const, q7, q9]
          simp [go_sem]
        · intro kk bb ff ww hkk hf hd hp hq hJ
          refine .inl ⟨wanted_none rfl, ?_⟩
          obtain ⟨p0, p1, -⟩ := hd
          have q : FEq (.bool false) (ff 10) ww := p0 rfl
          exact sl_val (ff 10) hJ (by simp only [execOp, ev_tmp _ _ (show 10 < 20 by decide)]; rfl) q
        · intro kk bb ff ww hkk hf hd hp hq hJ
          obtain ⟨p0, -⟩ := hd
          have qg : FEq (.bool false) (ff 11) ww := p0 rfl
          exact .inr ⟨(wanted_off (b := false) (want := true) (j := 6) (d := 11) qg (by decide) rfl rfl rfl), Below.refl _ _, hJ, rfl⟩
        · intro kk bb ff ww hkk hf hd hp hq hJ
          obtain ⟨p0, p1, -⟩ := hd
          have qg : FEq (.bool false) (ff 11) ww := p1 rfl
          exact .inr ⟨(wanted_off (b := false) (want := true) (j := 6) (d := 11) qg (by decide) rfl rfl rfl), Below.refl _ _, hJ, rfl⟩
        · intro kk bb ff ww hkk hf hd hp hq hJ
          obtain ⟨p0, -⟩ := hd
          have qg : FEq (.bool false) (ff 11) ww := p0 rfl
          exact .inr ⟨(wanted_off (b := false) (want := true) (j := 6) (d := 11) qg (by decide) rfl rfl rfl), Below.refl _ _, hJ, rfl⟩
        · intro kk bb ff ww hkk hf hd hp hq hJ
          obtain ⟨p0, -⟩ := hd
          have qg : FEq (.bool false) (ff 11) ww := p0 rfl
          exact .inr ⟨(wanted_off (b := false) (want := true) (j := 6) (d := 11) qg (by decide) rfl rfl rfl), Below.refl _ _, hJ, rfl⟩
        · intro kk bb ff ww hkk hf hd hp hq hJ
          obtain ⟨p0, p1, -⟩ := hd
          have qg : FEq (.bool false) (ff 11) ww := p1 rfl
          exact .inr ⟨(wanted_off (b := false) (want := true) (j := 6) (d := 11) qg (by decide) rfl rfl rfl), Below.refl _ _, hJ, rfl⟩
        · intro kk bb ff ww hkk hf hd hp hq hJ
          obtain ⟨p0, p1, p2, p3, -⟩ := hd
          have qg : FEq (.bool false) (ff 11) ww := p2 rfl
          exact .inr ⟨(wanted_off (b := false) (want := true) (j := 6) (d := 11) qg (by decide) rfl rfl rfl), Below.refl _ _, hJ, rfl⟩
        · intro kk bb ff ww hkk hf hd hp hq hJ
          obtain ⟨p0, p1, p2, -⟩ := hd
          have qg : FEq (.bool false) (ff 11) ww := p2 rfl
          exact .inr ⟨(wanted_off (b := false) (want := true) (j := 6) (d := 11) qg (by decide) rfl rfl rfl), Below.refl _ _, hJ, rfl⟩
        · intro kk bb ff ww hkk hf hd hp hq hJ
          refine .inl ⟨wanted_none rfl, ?_⟩
          obtain ⟨p0, p1, -⟩ := hd
          have q11 : FEq (.bool false) (ff 11) ww := p0 rfl
          unfold FEq at q11
          refine sl_val (.bool false) hJ ?_ rfl
          simp only [execOp, ev_tmp _ _ (show 11 < 20 by decide), ev_tmp _ _ (show 18 < 20 by decide), ev_const, q11]
          simp [go_sem]
        · intro kk bb ff ww hkk hf hd hp hq hJ
          refine .inl ⟨wanted_none rfl, ?_⟩
          obtain ⟨p0, p1, p2, p3, p4, p5, p6, p7, p8, p9, p10, p11, p12, p13, p14, p15, p16, -⟩ := hd
          have q : FEq (.bool false) (ff 19) ww := p0 rfl
          exact sl_val (ff 19) hJ (by simp only [execOp, ev_tmp _ _ (show 19 < 20 by decide)]; rfl) q
      intro ff w1 hf hd hJ
      have hfr : fr 20 ff = #[ff 0, ff 1, ff 2, ff 3, ff 4, ff 5, ff 6, ff 7, ff 8, ff 9, ff 10, ff 11, ff 12, ff 13, ff 14, ff 15, ff 16, ff 17, ff 18, ff 19] := rfl
      rw [hfr]; clear hfr
      dsimp only
      have q0_ := hf 0 (by decide)
      have q1_ := hf 1 (by decide)
      have q2_ := hf 2 (by decide)
      have q3_ := hf 3 (by decide)
      have q4_ : FEq (.bool false) (ff 4) w1 := hd 15 (by decide)
      unfold FEq at q4_
      have q5_ : FEq (.int .i64 (f)) (ff 5) w1 := hd 0 (by decide)
      unfold FEq at q5_
      have q6_ : FEq (.bool true) (ff 6) w1 := hd 1 (by decide)
      unfold FEq at q6_
      have q7_ : FEq (.bool true) (ff 7) w1 := hd 2 (by decide)
      unfold FEq at q7_
      have q8_ : FEq (.agg #[.int .i64 s, .int .i64 a, .int .i64 o]) (ff 8) w1 := hd 3 (by decide)
      unfold FEq at q8_
      have q9_ : FEq (.bool false) (ff 9) w1 := hd 4 (by decide)
      unfold FEq at q9_
      have q10_ : FEq (.bool false) (ff 10) w1 := hd 5 (by decide)
      unfold FEq at q10_
      have q11_ : FEq (.bool false) (ff 11) w1 := hd 6 (by decide)
      unfold FEq at q11_
      have q12_ : FEq (undef) (ff 12) w1 := hd 7 (by decide)
      unfold FEq at q12_
      have q13_ : FEq (undef) (ff 13) w1 := hd 8 (by decide)
      unfold FEq at q13_
      have q14_ : FEq (undef) (ff 14) w1 := hd 9 (by decide)
      unfold FEq at q14_
      have q15_ : FEq (undef) (ff 15) w1 := hd 10 (by decide)
      unfold FEq at q15_
      have q16_ : FEq (undef) (ff 16) w1 := hd 11 (by decide)
      unfold FEq at q16_
      have q17_ : FEq (undef) (ff 17) w1 := hd 12 (by decide)
      unfold FEq at q17_
      have q18_ : FEq (undef) (ff 18) w1 := hd 13 (by decide)
      unfold FEq at q18_
      have q19_ : FEq (.bool false) (ff 19) w1 := hd 14 (by decide)
      unfold FEq at q19_
      simp only [Array.getD_eq_getD_getElem?, List.getElem?_toArray, List.getElem?_cons_zero, List.getElem?_cons_succ, Option.getD_some] at q0_ q1_ q2_ q3_
      rw [q0_, q1_, q2_, q3_, q4_, q5_, q6_, q7_, q8_, q9_, q10_, q11_, q12_, q13_, q14_, q15_, q16_, q17_, q18_, q19_]
      clear q0_ q1_ q2_ q3_ q4_ q5_ q6_ q7_ q8_ q9_ q10_ q11_ q12_ q13_ q14_ q15_ q16_ q17_ q18_ q19_ hf hd
      clear ff
      have b_ : Below _ _ w1 := hJ
      clear hJ
      have HB1 := Lib.hid (HB.out.trans (b_.mono (by omega))); clear b_
      go_wp2_with fail
      go_ret
      exact ⟨ret_bool HF.out.symm, HB1.out⟩
    · have hs6 := (pvB_iff.1 h2).1
      have HF : Hid (ikB f s a o = (a == altL f s)) := Lib.hid (by unfold ikB; rw [h1, h2]; rfl)
      have H1 := Lib.hid h1; have H2 := Lib.hid h2; clear h1 h2
      go_enter Tryz.func45, Tryz.ntmps45
      go_upto_region 1 with fail
      generalize w.alloc (.cells #[.int .i64 s, .int .i64 a, .int .i64 o] 57) = w0 at *
      have c0 := HK.out.cell 0; have c1 := HK.out.cell 1; have c2 := HK.out.cell 2
      refine regionL_draws rfl 20 [some 5, some 6, some 7, some 8, some 9, some 10, some 11, some 12, some 13, some 14, some 15, some 16, some 17, some 18, some 19, some 4]
        [FEq (.int .i64 (f)), FEq (.bool true), FEq (.bool true), FEq (.agg #[.int .i64 s, .int .i64 a, .int .i64 o]), FEq (.bool true), FEq (.bool true), FEq (.bool true), FEq (.pointer (some ⟨w.heap.size, 1, none⟩)), FEq (.int .i64 (a)), FEq (.int .i64 (f)), FEq (.pointer (some ⟨w.heap.size, 0, none⟩)), FEq (.int .i64 (s)), FEq (.int .i64 (altL f s)), FEq (.bool (a == altL f s)), FEq (.bool (a == altL f s)), FEq (.bool (a == altL f s))] (by kernel_rfl) (by kernel_rfl) ?_ ?_ ?_
      · exact stayLs_cons stayL_eq (stayLs_cons stayL_eq (stayLs_cons stayL_eq (stayLs_cons stayL_eq (stayLs_cons stayL_eq (stayLs_cons stayL_eq (stayLs_cons stayL_eq (stayLs_cons stayL_eq (stayLs_cons stayL_eq (stayLs_cons stayL_eq (stayLs_cons stayL_eq (stayLs_cons stayL_eq (stayLs_cons stayL_eq (stayLs_cons stayL_eq (stayLs_cons stayL_eq (stayLs_cons stayL_eq stayLs_nil)))))))))))))))
      · refine AllI.cons ?_ (AllI.cons ?_ (AllI.cons ?_ (AllI.cons ?_ (AllI.cons ?_ (AllI.cons ?_ (AllI.cons ?_ (AllI.cons ?_ (AllI.cons ?_ (AllI.cons ?_ (AllI.cons ?_ (AllI.cons ?_ (AllI.cons ?_ (AllI.cons ?_ (AllI.cons ?_ (AllI.cons ?_ trivial)))))))))))))))
        · intro kk bb ff ww hkk hf hd hp hq hJ
          refine .inl ⟨wanted_none rfl, ?_⟩
          have q : FEq (.int .i64 (f)) (ff 0) ww := (hf 0 (by decide)).trans rfl
          exact sl_val (ff 0) hJ (by simp only [execOp, ev_tmp _ _ (show 0 < 20 by decide)]; rfl) q
        · intro kk bb ff ww hkk hf hd hp hq hJ
          refine .inl ⟨wanted_none rfl, ?_⟩
          obtain ⟨p0, -⟩ := hd
          have q5 : FEq (.int .i64 (f)) (ff 5) ww := p0 rfl
          unfold FEq at q5
          refine sl_enter 20 #[.int .i64 (f), .int .i64 (-7), .int .i64 (7)] hJ ?_ ?_
          · simp only [execOp, ev_tmp _ _ (show 5 < 20 by decide), ev_const, q5, ev_func, resolve, List.map_toArray, List.map_cons, List.map_nil]
            simp [go_sem]
          · skip
            have h := retB_post (spec_l1In_b f (-7) 7 ww)
            rw [H1.out] at h
            exact h
        · intro kk bb ff ww hkk hf hd hp hq hJ
          refine .inl ⟨wanted_none rfl, ?_⟩
          obtain ⟨p0, p1, -⟩ := hd
          have q : FEq (.bool true) (ff 6) ww := p0 rfl
          exact sl_val (ff 6) hJ (by simp only [execOp, ev_tmp _ _ (show 6 < 20 by decide)]; rfl) q
        · intro kk bb ff ww hkk hf hd hp hq hJ
          obtain ⟨p0, -⟩ := hd
          have qg : FEq (.bool true) (ff 7) ww := p0 rfl
          refine .inl ⟨(wanted_on (b := true) (want := true) (j := 2) (d := 7) qg (by decide) rfl rfl rfl), ?_⟩
          have q3 : FEq (.pointer (some ⟨w.heap.size, 0, none⟩)) (ff 3) ww := (hf 3 (by decide)).trans rfl
          unfold FEq at q3
          have c0 : ww.cell? ⟨w.heap.size, 0, none⟩ = some (.int .i64 s) := (hJ.cell (p := ⟨w.heap.size, 0, none⟩) (show w.heap.size < _ by omega)).trans c0
          have c1 : ww.cell? ⟨w.heap.size, 1, none⟩ = some (.int .i64 a) := (hJ.cell (p := ⟨w.heap.size, 1, none⟩) (show w.heap.size < _ by omega)).trans c1
          have c2 : ww.cell? ⟨w.heap.size, 2, none⟩ = some (.int .i64 o) := (hJ.cell (p := ⟨w.heap.size, 2, none⟩) (show w.heap.size < _ by omega)).trans c2
          refine sl_val (.agg #[.int .i64 s, .int .i64 a, .int .i64 o]) hJ ?_ rfl
          simp only [execOp, ev_tmp _ _ (show 3 < 20 by decide), ev_const, q3]
          simp [go_sem, c0, c1, c2]
        · intro kk bb ff ww hkk hf hd hp hq hJ
          obtain ⟨p0, p1, p2, -⟩ := hd
          have qg : FEq (.bool true) (ff 7) ww := p1 rfl
          refine .inl ⟨(wanted_on (b := true) (want := true) (j := 2) (d := 7) qg (by decide) rfl rfl rfl), ?_⟩
          have q8 : FEq (.agg #[.int .i64 s, .int .i64 a, .int .i64 o]) (ff 8) ww := p0 rfl
          unfold FEq at q8
          refine sl_enter 68 #[.agg #[.int .i64 s, .int .i64 a, .int .i64 o]] hJ ?_ ?_
          · simp only [execOp, ev_tmp _ _ (show 8 < 20 by decide), ev_const, q8, ev_func, resolve, List.map_toArray, List.map_cons, List.map_nil]
            simp [go_sem]
          · skip
            have h := retB_post (spec_PitchValid s a o ww)
            rw [H2.out] at h
            exact h
        · intro kk bb ff ww hkk hf hd hp hq hJ
          refine .inl ⟨wanted_none rfl, ?_⟩
          obtain ⟨p0, p1, -⟩ := hd
          have q7 : FEq (.bool true) (ff 7) ww := p0 rfl
          unfold FEq at q7
          have q9 : FEq (.bool true) (ff 9) ww := p1 rfl
          unfold FEq at q9
          refine sl_val (.bool true) hJ ?_ rfl
          simp only [execOp, ev_tmp _ _ (show 7 < 20 by decide), ev_tmp _ _ (show 9 < 20 by decide), ev_const, q7, q9]
          simp [go_sem]
        · intro kk bb ff ww hkk hf hd hp hq hJ
          refine .inl ⟨wanted_none rfl, ?_⟩
          obtain ⟨p0, p1, -⟩ := hd
          have q : FEq (.bool true) (ff 10) ww := p0 rfl
          exact sl_val (ff 10) hJ (by simp only [execOp, ev_tmp _ _ (show 10 < 20 by decide)]; rfl) q
        · intro kk bb ff ww hkk hf hd hp hq hJ
          obtain ⟨p0, -⟩ := hd
          have qg : FEq (.bool true) (ff 11) ww := p0 rfl
          refine .inl ⟨(wanted_on (b := true) (want := true) (j := 6) (d := 11) qg (by decide) rfl rfl rfl), ?_⟩
          have q3 : FEq (.pointer (some ⟨w.heap.size, 0, none⟩)) (ff 3) ww := (hf 3 (by decide)).trans rfl
          unfold FEq at q3
          refine sl_val (.pointer (some ⟨w.heap.size, 1, none⟩)) hJ ?_ rfl
          simp only [execOp, ev_tmp _ _ (show 3 < 20 by decide), ev_const, q3]
          simp [go_sem]
        · intro kk bb ff ww hkk hf hd hp hq hJ
          obtain ⟨p0, p1, -⟩ := hd
          have qg : FEq (.bool true) (ff 11) ww := p1 rfl
          refine .inl ⟨(wanted_on (b := true) (want := true) (j := 6) (d := 11) qg (by decide) rfl rfl rfl), ?_⟩
          have q12 : FEq (.pointer (some ⟨w.heap.size, 1, none⟩)) (ff 12) ww := p0 rfl
          unfold FEq at q12
          have c1 : ww.cell? ⟨w.heap.size, 1, none⟩ = some (.int .i64 a) := (hJ.cell (p := ⟨w.heap.size, 1, none⟩) (show w.heap.size < _ by omega)).trans c1
          refine sl_val (.int .i64 a) hJ ?_ rfl
          simp only [execOp, ev_tmp _ _ (show 12 < 20 by decide), ev_const, q12]
          simp [go_sem, c1]
        · intro kk bb ff ww hkk hf hd hp hq hJ
          obtain ⟨p0, -⟩ := hd
          have qg : FEq (.bool true) (ff 11) ww := p0 rfl
          refine .inl ⟨(wanted_on (b := true) (want := true) (j := 6) (d := 11) qg (by decide) rfl rfl rfl), ?_⟩
          have q : FEq (.int .i64 (f)) (ff 0) ww := (hf 0 (by decide)).trans rfl
          exact sl_val (ff 0) hJ (by simp only [execOp, ev_tmp _ _ (show 0 < 20 by decide)]; rfl) q
        · intro kk bb ff ww hkk hf hd hp hq hJ
          obtain ⟨p0, -⟩ := hd
          have qg : FEq (.bool true) (ff 11) ww := p0 rfl
          refine .inl ⟨(wanted_on (b := true) (want := true) (j := 6) (d := 11) qg (by decide) rfl rfl rfl), ?_⟩
          have q3 : FEq (.pointer (some ⟨w.heap.size, 0, none⟩)) (ff 3) ww := (hf 3 (by decide)).trans rfl
          unfold FEq at q3
          refine sl_val (.pointer (some ⟨w.heap.size, 0, none⟩)) hJ ?_ rfl
          simp only [execOp, ev_tmp _ _ (show 3 < 20 by decide), ev_const, q3]
          simp [go_sem]
        · intro kk bb ff ww hkk hf hd hp hq hJ
          obtain ⟨p0, p1, -⟩ := hd
          have qg : FEq (.bool true) (ff 11) ww := p1 rfl
          refine .inl ⟨(wanted_on (b := true) (want := true) (j := 6) (d := 11) qg (by decide) rfl rfl rfl), ?_⟩
          have q15 : FEq (.pointer (some ⟨w.heap.size, 0, none⟩)) (ff 15) ww := p0 rfl
          unfold FEq at q15
          have c0 : ww.cell? ⟨w.heap.size, 0, none⟩ = some (.int .i64 s) := (hJ.cell (p := ⟨w.heap.size, 0, none⟩) (show w.heap.size < _ by omega)).trans c0
          refine sl_val (.int .i64 s) hJ ?_ rfl
          simp only [execOp, ev_tmp _ _ (show 15 < 20 by decide), ev_const, q15]
          simp [go_sem, c0]
        · intro kk bb ff ww hkk hf hd hp hq hJ
          obtain ⟨p0, p1, p2, p3, -⟩ := hd
          have qg : FEq (.bool true) (ff 11) ww := p2 rfl
          refine .inl ⟨(wanted_on (b := true) (want := true) (j := 6) (d := 11) qg (by decide) rfl rfl rfl), ?_⟩
          have q14 : FEq (.int .i64 (f)) (ff 14) ww := p0 rfl
          unfold FEq at q14
          have q16 : FEq (.int .i64 (s)) (ff 16) ww := p1 rfl
          unfold FEq at q16
          refine sl_enter 69 #[.int .i64 (f), .int .i64 (s)] hJ ?_ ?_
          · simp only [execOp, ev_tmp _ _ (show 14 < 20 by decide), ev_tmp _ _ (show 16 < 20 by decide), ev_const, q14, q16, ev_func, resolve, List.map_toArray, List.map_cons, List.map_nil]
            simp [go_sem]
          · skip
            exact retI_post (spec_l3Alter f s ww hf7 hs6)
        · intro kk bb ff ww hkk hf hd hp hq hJ
          obtain ⟨p0, p1, p2, -⟩ := hd
          have qg : FEq (.bool true) (ff 11) ww := p2 rfl
          refine .inl ⟨(wanted_on (b := true) (want := true) (j := 6) (d := 11) qg (by decide) rfl rfl rfl), ?_⟩
          have q13 : FEq (.int .i64 (a)) (ff 13) ww := p0 rfl
          unfold FEq at q13
          have q17 : FEq (.int .i64 (altL f s)) (ff 17) ww := p1 rfl
          unfold FEq at q17
          refine sl_val (.bool (a == altL f s)) hJ ?_ rfl
          simp only [execOp, ev_tmp _ _ (show 13 < 20 by decide), ev_tmp _ _ (show 17 < 20 by decide), ev_const, q13, q17]
          simp [go_sem]
        · intro kk bb ff ww hkk hf hd hp hq hJ
          refine .inl ⟨wanted_none rfl, ?_⟩
          obtain ⟨p0, p1, -⟩ := hd
          have q11 : FEq (.bool true) (ff 11) ww := p0 rfl
          unfold FEq at q11
          have q18 : FEq (.bool (a == altL f s)) (ff 18) ww := p1 rfl
          unfold FEq at q18
          refine sl_val (.bool (a == altL f s)) hJ ?_ rfl
          simp only [execOp, ev_tmp _ _ (show 11 < 20 by decide), ev_tmp _ _ (show 18 < 20 by decide), ev_const, q11, q18]
          simp [go_sem]
        · intro kk bb ff ww hkk hf hd hp hq hJ
          refine .inl ⟨wanted_none rfl, ?_⟩
          obtain ⟨p0, p1, p2, p3, p4, p5, p6, p7, p8, p9, p10, p11, p12, p13, p14, p15, p16, -⟩ := hd
          have q : FEq (.bool (a == altL f s)) (ff 19) ww := p0 rfl
          exact sl_val (ff 19) hJ (by simp only [execOp, ev_tmp _ _ (show 19 < 20 by decide)]; rfl) q
      intro ff w1 hf hd hJ
      have hfr : fr 20 ff = #[ff 0, ff 1, ff 2, ff 3, ff 4, ff 5, ff 6, ff 7, ff 8, ff 9, ff 10, ff 11, ff 12, ff 13, ff 14, ff 15, ff 16, ff 17, ff 18, ff 19] := rfl
      rw [hfr]; clear hfr
      dsimp only
      have q0_ := hf 0 (by decide)
      have q1_ := hf 1 (by decide)
      have q2_ := hf 2 (by decide)
      have q3_ := hf 3 (by decide)
      have q4_ : FEq (.bool (a == altL f s)) (ff 4) w1 := hd 15 (by decide)
      unfold FEq at q4_
      have q5_ : FEq (.int .i64 (f)) (ff 5) w1 := hd 0 (by decide)
      unfold FEq at q5_
      have q6_ : FEq (.bool true) (ff 6) w1 := hd 1 (by decide)
      unfold FEq at q6_
      have q7_ : FEq (.bool true) (ff 7) w1 := hd 2 (by decide)
      unfold FEq at q7_
      have q8_ : FEq (.agg #[.int .i64 s, .int .i64 a, .int .i64 o]) (ff 8) w1 := hd 3 (by decide)
      unfold FEq at q8_
      have q9_ : FEq (.bool true) (ff 9) w1 := hd 4 (by decide)
      unfold FEq at q9_
      have q10_ : FEq (.bool true) (ff 10) w1 := hd 5 (by decide)
      unfold FEq at q10_
      have q11_ : FEq (.bool true) (ff 11) w1 := hd 6 (by decide)
      unfold FEq at q11_
      have q12_ : FEq (.pointer (some ⟨w.heap.size, 1, none⟩)) (ff 12) w1 := hd 7 (by decide)
      unfold FEq at q12_
      have q13_ : FEq (.int .i64 (a)) (ff 13) w1 := hd 8 (by decide)
      unfold FEq at q13_
      have q14_ : FEq (.int .i64 (f)) (ff 14) w1 := hd 9 (by decide)
      unfold FEq at q14_
      have q15_ : FEq (.pointer (some ⟨w.heap.size, 0, none⟩)) (ff 15) w1 := hd 10 (by decide)
      unfold FEq at q15_
      have q16_ : FEq (.int .i64 (s)) (ff 16) w1 := hd 11 (by decide)
      unfold FEq at q16_
      have q17_ : FEq (.int .i64 (altL f s)) (ff 17) w1 := hd 12 (by decide)
      unfold FEq at q17_
      have q18_ : FEq (.bool (a == altL f s)) (ff 18) w1 := hd 13 (by decide)
      unfold FEq at q18_
      have q19_ : FEq (.bool (a == altL f s)) (ff 19) w1 := hd 14 (by decide)
      unfold FEq at q19_
      simp only [Array.getD_eq_getD_getElem?, List.getElem?_toArray, List.getElem?_cons_zero, List.getElem?_cons_succ, Option.getD_some] at q0_ q1_ q2_ q3_
      rw [q0_, q1_, q2_, q3_, q4_, q5_, q6_, q7_, q8_, q9_, q10_, q11_, q12_, q13_, q14_, q15_, q16_, q17_, q18_, q19_]
      clear q0_ q1_ q2_ q3_ q4_ q5_ q6_ q7_ q8_ q9_ q10_ q11_ q12_ q13_ q14_ q15_ q16_ q17_ q18_ q19_ hf hd
      clear ff
      have b_ : Below _ _ w1 := hJ
      clear hJ
      have HB1 := Lib.hid (HB.out.trans (b_.mono (by omega))); clear b_
      go_wp2_with fail
      go_ret
      exact ⟨ret_bool HF.out.symm, HB1.out⟩
end Go.Proofs.YtmodpleonhniaaaGreatDoor
