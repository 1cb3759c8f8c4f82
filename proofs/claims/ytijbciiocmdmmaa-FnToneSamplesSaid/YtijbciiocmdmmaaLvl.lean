/- Contracts of LevelAt, of the program and of the reference. Condition: numbers that fit int64. -/
import Derived.Test.YtijbciiocmdmmaaSnd
import Derived.Deep.RegionHeld3
namespace Go.Proofs.Ytijbciiocmdmmaa
set_option linter.unusedVariables false
open Go.RowKit
/-- what LevelAt returns -/
def lvlOk (a d s r h t : Int) : Prop := shapeL a d s r = true ∧ inR h 0 1000000 = true ∧ inR t 0 1000000 = true
instance (a d s r h t : Int) : Decidable (lvlOk a d s r h t) := by unfold lvlOk; infer_instance
def levelIn (a d s r h t : Int) : Int := if t < h then heldLv a d s t else if h + r ≤ t then 0 else heldLv a d s h * (r - (t - h)) / r
def levelL (a d s r h t : Int) : Int := if lvlOk a d s r h t then levelIn a d s r h t else -1
theorem shapeL_iff {a d s r : Int} : shapeL a d s r = true ↔ (0 ≤ a ∧ a ≤ 10000) ∧ (0 ≤ d ∧ d ≤ 10000) ∧ (0 ≤ r ∧ r ≤ 10000) ∧ (0 ≤ s ∧ s ≤ 1000) := by
  simp only [shapeL, Bool.and_eq_true, inR_iff]
  constructor
  · rintro ⟨⟨⟨h1, h2⟩, h3⟩, h4⟩; exact ⟨h1, h2, h3, h4⟩
  · rintro ⟨h1, h2, h3, h4⟩; exact ⟨⟨⟨h1, h2⟩, h3⟩, h4⟩
theorem impl_LevelAt (a d s r h t : Int) (w : World) :
    Calls Try.prog 30 #[.agg #[.int .i64 a, .int .i64 d, .int .i64 s, .int .i64 r], .int .i64 h, .int .i64 t] w (RetI w (levelL a d s r h t)) := by
  by_cases hbad : lvlOk a d s r h t
  · have HF : Hid (levelL a d s r h t = levelIn a d s r h t) := by unfold Hid levelL; rw [if_pos hbad]
    obtain ⟨h1, h2, h3⟩ := hbad
    obtain ⟨ha, hd, hr, hs⟩ := shapeL_iff.1 h1
    have hh := inR_iff.1 h2
    have ht := inR_iff.1 h3
    by_cases c1 : t < h
    · go_enter Try.func30, Try.ntmps30
      go_wp2_with (first | (go_at_call 18; refine (impl_ShapeValid _ _ _ _ _).mono ?_; rintro e w' ⟨rfl, rfl⟩) | (go_at_call 47; refine (impl_within _ _ _ _).mono ?_; rintro e w' ⟨rfl, rfl⟩) | (go_at_call 52; refine (impl_heldLevel _ _ _ _ _ _ ha hd hs ht).mono ?_; rintro e w' ⟨rfl, rfl⟩))
      go_ret
      exact ⟨ret_int (by rw [HF.out, levelIn, if_pos c1]), by (repeat (first | exact Below.refl _ _ | refine Below.alloc ?_ (by simp; try omega) _ | refine below_drewN ?_ _ | refine Below.drew ?_))⟩
    by_cases c2 : h + r ≤ t
    · go_enter Try.func30, Try.ntmps30
      go_wp2_with (first | (go_at_call 18; refine (impl_ShapeValid _ _ _ _ _).mono ?_; rintro e w' ⟨rfl, rfl⟩) | (go_at_call 47; refine (impl_within _ _ _ _).mono ?_; rintro e w' ⟨rfl, rfl⟩))
      go_ret
      exact ⟨ret_int (by rw [HF.out, levelIn, if_neg (by omega), if_pos c2]), by (repeat (first | exact Below.refl _ _ | refine Below.alloc ?_ (by simp; try omega) _ | refine below_drewN ?_ _ | refine Below.drew ?_))⟩
    · have hv := heldLv_bd (d := d) ha.1 hs hh.1
      have hm := mul_le_cap (x := heldLv a d s h) (y := r - (t - h)) (X := 1000) (Y := 10000) hv (by omega)
      go_enter Try.func30, Try.ntmps30
      go_wp2_with (first | (go_at_call 18; refine (impl_ShapeValid _ _ _ _ _).mono ?_; rintro e w' ⟨rfl, rfl⟩) | (go_at_call 47; refine (impl_within _ _ _ _).mono ?_; rintro e w' ⟨rfl, rfl⟩))
      clear h1 h2 h3
      have e1 : IntKind.i64.wrap (t - h) = t - h := IntWalk.i64_in _ (by omega)
      have e2 : IntKind.i64.wrap (r - (t - h)) = r - (t - h) := IntWalk.i64_in _ (by omega)
      have e3 : IntKind.i64.wrap (heldLv a d s h * (r - (t - h))) = heldLv a d s h * (r - (t - h)) := IntWalk.i64_in _ (by omega)
      have e4 : IntKind.i64.wrap ((heldLv a d s h * (r - (t - h))).tdiv r) = heldLv a d s h * (r - (t - h)) / r := IntWalk.i64_quo _ _ (by omega)
      have e5 : (r == 0) = false := by simp; omega
      have e6 : r ≠ 0 := by omega
      go_region_held3 (fun w' => w'.cell? ⟨w.heap.size, 0, none⟩ = some (.int .i64 a) ∧ w'.cell? ⟨w.heap.size, 1, none⟩ = some (.int .i64 d) ∧ w'.cell? ⟨w.heap.size, 2, none⟩ = some (.int .i64 s) ∧ w'.cell? ⟨w.heap.size, 3, none⟩ = some (.int .i64 r)) (first | go_keep) (first | (go_at_call 52; refine (impl_heldLevel _ _ _ _ _ _ ha hd hs hh).mono ?_; rintro e w' ⟨rfl, rfl⟩))
      clear e1 e2 e3 e4 e5 e6
      go_wp2
      go_ret
      exact ⟨ret_int (by rw [HF.out, levelIn, if_neg (by omega), if_neg (by omega)]), by (repeat (first | exact Below.refl _ _ | refine Below.alloc ?_ (by simp; try omega) _ | refine below_drewN ?_ _ | refine Below.drew ?_))⟩
  · have HF : Hid (levelL a d s r h t = -1) := by unfold Hid levelL; rw [if_neg hbad]
    have HB := Lib.hid hbad; clear hbad
    cases h1 : shapeL a d s r
    · go_enter Try.func30, Try.ntmps30
      go_wp2_with (first | (go_at_call 18; refine (impl_ShapeValid _ _ _ _ _).mono ?_; rintro e w' ⟨rfl, rfl⟩) | (go_at_call 47; refine (impl_within _ _ _ _).mono ?_; rintro e w' ⟨rfl, rfl⟩))
      go_ret
      exact ⟨ret_int HF.out.symm, by (repeat (first | exact Below.refl _ _ | refine Below.alloc ?_ (by simp; try omega) _ | refine below_drewN ?_ _ | refine Below.drew ?_))⟩
    cases h2 : inR h 0 1000000
    · go_enter Try.func30, Try.ntmps30
      go_wp2_with (first | (go_at_call 18; refine (impl_ShapeValid _ _ _ _ _).mono ?_; rintro e w' ⟨rfl, rfl⟩) | (go_at_call 47; refine (impl_within _ _ _ _).mono ?_; rintro e w' ⟨rfl, rfl⟩))
      go_ret
      exact ⟨ret_int HF.out.symm, by (repeat (first | exact Below.refl _ _ | refine Below.alloc ?_ (by simp; try omega) _ | refine below_drewN ?_ _ | refine Below.drew ?_))⟩
    · have h3 : inR t 0 1000000 = false := by
        cases e : inR t 0 1000000
        · rfl
        · exact absurd ⟨h1, h2, e⟩ HB.out
      go_enter Try.func30, Try.ntmps30
      go_wp2_with (first | (go_at_call 18; refine (impl_ShapeValid _ _ _ _ _).mono ?_; rintro e w' ⟨rfl, rfl⟩) | (go_at_call 47; refine (impl_within _ _ _ _).mono ?_; rintro e w' ⟨rfl, rfl⟩))
      go_ret
      exact ⟨ret_int HF.out.symm, by (repeat (first | exact Below.refl _ _ | refine Below.alloc ?_ (by simp; try omega) _ | refine below_drewN ?_ _ | refine Below.drew ?_))⟩
theorem spec_LevelAt (a d s r h t : Int) (w : World) :
    Calls Try.prog 31 #[.agg #[.int .i64 a, .int .i64 d, .int .i64 s, .int .i64 r], .int .i64 h, .int .i64 t] w (RetI w (levelL a d s r h t)) := by
  by_cases hbad : lvlOk a d s r h t
  · have HF : Hid (levelL a d s r h t = levelIn a d s r h t) := by unfold Hid levelL; rw [if_pos hbad]
    obtain ⟨h1, h2, h3⟩ := hbad
    obtain ⟨ha, hd, hr, hs⟩ := shapeL_iff.1 h1
    have hh := inR_iff.1 h2
    have ht := inR_iff.1 h3
    by_cases c1 : t < h
    · go_enter Try.func31, Try.ntmps31
      go_wp2_with (first | (go_at_call 19; refine (spec_ShapeValid _ _ _ _ _).mono ?_; rintro e w' ⟨rfl, rfl⟩) | (go_at_call 48; refine (spec_l1In _ _ _ _).mono ?_; rintro e w' ⟨rfl, rfl⟩) | (go_at_call 53; refine (spec_l22Held _ _ _ _ _ _ ha hd hs ht).mono ?_; rintro e w' ⟨rfl, rfl⟩))
      go_ret
      exact ⟨ret_int (by rw [HF.out, levelIn, if_pos c1]), by (repeat (first | exact Below.refl _ _ | refine Below.alloc ?_ (by simp; try omega) _ | refine below_drewN ?_ _ | refine Below.drew ?_))⟩
    by_cases c2 : h + r ≤ t
    · go_enter Try.func31, Try.ntmps31
      go_wp2_with (first | (go_at_call 19; refine (spec_ShapeValid _ _ _ _ _).mono ?_; rintro e w' ⟨rfl, rfl⟩) | (go_at_call 48; refine (spec_l1In _ _ _ _).mono ?_; rintro e w' ⟨rfl, rfl⟩))
      go_ret
      exact ⟨ret_int (by rw [HF.out, levelIn, if_neg (by omega), if_pos c2]), by (repeat (first | exact Below.refl _ _ | refine Below.alloc ?_ (by simp; try omega) _ | refine below_drewN ?_ _ | refine Below.drew ?_))⟩
    · have hv := heldLv_bd (d := d) ha.1 hs hh.1
      have hm := mul_le_cap (x := heldLv a d s h) (y := r - (t - h)) (X := 1000) (Y := 10000) hv (by omega)
      go_enter Try.func31, Try.ntmps31
      go_wp2_with (first | (go_at_call 19; refine (spec_ShapeValid _ _ _ _ _).mono ?_; rintro e w' ⟨rfl, rfl⟩) | (go_at_call 48; refine (spec_l1In _ _ _ _).mono ?_; rintro e w' ⟨rfl, rfl⟩))
      clear h1 h2 h3
      have e1 : IntKind.i64.wrap (t - h) = t - h := IntWalk.i64_in _ (by omega)
      have e2 : IntKind.i64.wrap (r - (t - h)) = r - (t - h) := IntWalk.i64_in _ (by omega)
      have e3 : IntKind.i64.wrap (heldLv a d s h * (r - (t - h))) = heldLv a d s h * (r - (t - h)) := IntWalk.i64_in _ (by omega)
      have e4 : IntKind.i64.wrap ((heldLv a d s h * (r - (t - h))).tdiv r) = heldLv a d s h * (r - (t - h)) / r := IntWalk.i64_quo _ _ (by omega)
      have e5 : (r == 0) = false := by simp; omega
      have e6 : r ≠ 0 := by omega
      go_region_held3 (fun w' => w'.cell? ⟨w.heap.size, 0, none⟩ = some (.int .i64 a) ∧ w'.cell? ⟨w.heap.size, 1, none⟩ = some (.int .i64 d) ∧ w'.cell? ⟨w.heap.size, 2, none⟩ = some (.int .i64 s) ∧ w'.cell? ⟨w.heap.size, 3, none⟩ = some (.int .i64 r)) (first | go_keep) (first | (go_at_call 53; refine (spec_l22Held _ _ _ _ _ _ ha hd hs hh).mono ?_; rintro e w' ⟨rfl, rfl⟩))
      clear e1 e2 e3 e4 e5 e6
      go_wp2
      go_ret
      exact ⟨ret_int (by rw [HF.out, levelIn, if_neg (by omega), if_neg (by omega)]), by (repeat (first | exact Below.refl _ _ | refine Below.alloc ?_ (by simp; try omega) _ | refine below_drewN ?_ _ | refine Below.drew ?_))⟩
  · have HF : Hid (levelL a d s r h t = -1) := by unfold Hid levelL; rw [if_neg hbad]
    have HB := Lib.hid hbad; clear hbad
    cases h1 : shapeL a d s r
    · go_enter Try.func31, Try.ntmps31
      go_wp2_with (first | (go_at_call 19; refine (spec_ShapeValid _ _ _ _ _).mono ?_; rintro e w' ⟨rfl, rfl⟩) | (go_at_call 48; refine (spec_l1In _ _ _ _).mono ?_; rintro e w' ⟨rfl, rfl⟩))
      go_ret
      exact ⟨ret_int HF.out.symm, by (repeat (first | exact Below.refl _ _ | refine Below.alloc ?_ (by simp; try omega) _ | refine below_drewN ?_ _ | refine Below.drew ?_))⟩
    cases h2 : inR h 0 1000000
    · go_enter Try.func31, Try.ntmps31
      go_wp2_with (first | (go_at_call 19; refine (spec_ShapeValid _ _ _ _ _).mono ?_; rintro e w' ⟨rfl, rfl⟩) | (go_at_call 48; refine (spec_l1In _ _ _ _).mono ?_; rintro e w' ⟨rfl, rfl⟩))
      go_ret
      exact ⟨ret_int HF.out.symm, by (repeat (first | exact Below.refl _ _ | refine Below.alloc ?_ (by simp; try omega) _ | refine below_drewN ?_ _ | refine Below.drew ?_))⟩
    · have h3 : inR t 0 1000000 = false := by
        cases e : inR t 0 1000000
        · rfl
        · exact absurd ⟨h1, h2, e⟩ HB.out
      go_enter Try.func31, Try.ntmps31
      go_wp2_with (first | (go_at_call 19; refine (spec_ShapeValid _ _ _ _ _).mono ?_; rintro e w' ⟨rfl, rfl⟩) | (go_at_call 48; refine (spec_l1In _ _ _ _).mono ?_; rintro e w' ⟨rfl, rfl⟩))
      go_ret
      exact ⟨ret_int HF.out.symm, by (repeat (first | exact Below.refl _ _ | refine Below.alloc ?_ (by simp; try omega) _ | refine below_drewN ?_ _ | refine Below.drew ?_))⟩
end Go.Proofs.Ytijbciiocmdmmaa
