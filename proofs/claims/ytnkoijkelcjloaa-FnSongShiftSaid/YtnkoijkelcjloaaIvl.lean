/- Contracts of intervals: placeHalves, up, quality, l1Natural, l2Quality, IntervalValid, PitchPlace. No condition, or bounds on numbers. -/
import Derived.Test.YtnkoijkelcjloaaMrg2
import Derived.Test.YtnkoijkelcjloaaKys
namespace Go.Proofs.Ytnkoijkelcjloaa
open Go.RowKit
set_option linter.unusedSimpArgs false
set_option linter.unusedVariables false
set_option maxRecDepth 100000
def upL (s h : Int) : Int × Int := if s < 0 ∨ s = 0 ∧ h < 0 then (-s, -h) else (s, h)
def quL (s h : Int) : Int := (upL s h).2 - natL (upL s h).1
def ivB (s h : Int) : Bool := inR s (-21) 21 && (inR h (-99) 99 && inR (quL s h) (-3) 3)
theorem natL_bd {p : Int} (h0 : 0 ≤ p) : 0 ≤ natL p ∧ natL p ≤ 12 * (p / 7) + 11 := by
  have := half_cases (s := p % 7) (by omega) (by omega)
  unfold natL; omega
theorem ivB_iff {s h : Int} : ivB s h = true ↔ (-21 ≤ s ∧ s ≤ 21) ∧ (-99 ≤ h ∧ h ≤ 99) ∧ (-3 ≤ quL s h ∧ quL s h ≤ 3) := by
  unfold ivB; rw [Bool.and_eq_true, Bool.and_eq_true, inR_iff, inR_iff, inR_iff]
theorem up_bd {s h : Int} (hs : -21 ≤ s ∧ s ≤ 21) : 0 ≤ (upL s h).1 ∧ (upL s h).1 ≤ 21 ∧ ((upL s h).2 = h ∨ (upL s h).2 = -h) := by
  unfold upL; split
  · exact ⟨by simp; omega, by simp; omega, .inr rfl⟩
  · exact ⟨by simp; omega, by simp; omega, .inl rfl⟩
theorem iv_halves {s h : Int} (hs : -21 ≤ s ∧ s ≤ 21) (hq : -3 ≤ quL s h ∧ quL s h ≤ 3) : -50 ≤ h ∧ h ≤ 50 := by
  have h1 := up_bd (h := h) hs
  have h2 := natL_bd h1.1
  unfold quL at hq
  omega
theorem ivB_spec (s h : Int) : ivB s h = (inR s (-21) 21 && (inR h (-60) 60 && inR (quL s h) (-3) 3)) := by
  rw [Bool.eq_iff_iff, ivB_iff, Bool.and_eq_true, Bool.and_eq_true, inR_iff, inR_iff, inR_iff]
  constructor
  · rintro ⟨h1, h2, h3⟩
    have := iv_halves h1 h3
    exact ⟨h1, by omega, h3⟩
  · rintro ⟨h1, h2, h3⟩
    exact ⟨h1, by omega, h3⟩
theorem impl_placeHalves (p : Int) (w : World) (h0 : 0 ≤ p) (h1 : p ≤ 1000) : Calls Try.prog 70 #[.int .i64 p] w fun e w' => e = .returned (.int .i64 (natL p)) ∧ w = w' := by
  have HF := Lib.hid (show natL p = 12 * (p / 7) + halfL (p % 7) from rfl)
  have hd : p.tdiv 7 = p / 7 := Int.tdiv_eq_ediv_of_nonneg h0
  have hm : p.tmod 7 = p % 7 := Int.tmod_eq_emod_of_nonneg h0
  have hq : 0 ≤ p / 7 ∧ p / 7 ≤ 142 := by omega
  have hh : 0 ≤ halfL (p % 7) ∧ halfL (p % 7) ≤ 11 := by have := half_cases (s := p % 7) (by omega) (by omega); omega
  go_enter Try.func70, Try.ntmps70
  go_wp2_with (go_at_call 63; refine (impl_stepHalves (p % 7) _ (by omega) (by omega)).mono ?_; rintro e w' ⟨rfl, rfl⟩)
  go_ret
  exact ⟨ret_int HF.out.symm, rfl⟩
theorem impl_up (s h : Int) (w : World) (hs : -21 ≤ s ∧ s ≤ 21) (hh : -99 ≤ h ∧ h ≤ 99) : Calls Try.prog 69 #[.agg #[.int .i64 s, .int .i64 h]] w fun e w' => e = .returned (.agg #[.int .i64 (upL s h).1, .int .i64 (upL s h).2]) ∧ Below w.heap.size w w' := by
  have hw1 : IntKind.i64.wrap (-s) = -s := IntWalk.i64_in _ (by omega)
  have hw2 : IntKind.i64.wrap (-h) = -h := IntWalk.i64_in _ (by omega)
  by_cases c1 : s < 0
  · have HU : Hid (upL s h = (-s, -h)) := Lib.hid (if_pos (.inl c1))
    go_enter Try.func69, Try.ntmps69
    go_wp2_with fail
    refine bodyPost_ret (v := .agg #[.int .i64 (-s), .int .i64 (-h)]) (by simp [results, Try.results69, go_sem]) rfl ⟨by rw [HU.out], by (repeat (first | exact Below.refl _ _ | refine Below.alloc ?_ (by simp; try omega) _ | refine below_drewN ?_ _ | refine Below.drew ?_))⟩
  · by_cases c2 : s = 0
    · subst c2
      by_cases c3 : h < 0
      · have HU : Hid (upL 0 h = (-0, -h)) := Lib.hid (if_pos (.inr ⟨rfl, c3⟩))
        go_enter Try.func69, Try.ntmps69
        go_wp2_with fail
        refine bodyPost_ret (v := .agg #[.int .i64 0, .int .i64 (-h)]) (by simp [results, Try.results69, go_sem]) rfl ⟨by rw [HU.out]; rfl, by (repeat (first | exact Below.refl _ _ | refine Below.alloc ?_ (by simp; try omega) _ | refine below_drewN ?_ _ | refine Below.drew ?_))⟩
      · have HU : Hid (upL 0 h = (0, h)) := Lib.hid (if_neg (by omega))
        go_enter Try.func69, Try.ntmps69
        go_wp2_with fail
        refine bodyPost_ret (v := .agg #[.int .i64 0, .int .i64 h]) (by simp [results, Try.results69, go_sem]) rfl ⟨by rw [HU.out], by (repeat (first | exact Below.refl _ _ | refine Below.alloc ?_ (by simp; try omega) _ | refine below_drewN ?_ _ | refine Below.drew ?_))⟩
    · have HU : Hid (upL s h = (s, h)) := Lib.hid (if_neg (by omega))
      have c2' : (s == 0) = false := by simpa using c2
      go_enter Try.func69, Try.ntmps69
      go_wp2_with fail
      refine bodyPost_ret (v := .agg #[.int .i64 s, .int .i64 h]) (by simp [results, Try.results69, go_sem]) rfl ⟨by rw [HU.out], by (repeat (first | exact Below.refl _ _ | refine Below.alloc ?_ (by simp; try omega) _ | refine below_drewN ?_ _ | refine Below.drew ?_))⟩
theorem impl_quality (s h : Int) (w : World) (hs : -21 ≤ s ∧ s ≤ 21) (hh : -99 ≤ h ∧ h ≤ 99) : Calls Try.prog 47 #[.agg #[.int .i64 s, .int .i64 h]] w (RetI w (quL s h)) := by
  have hu := up_bd (h := h) hs
  have hn := natL_bd hu.1
  have HQ : Hid (quL s h = (upL s h).2 - natL (upL s h).1) := Lib.hid rfl
  have HK := Lib.hid (Blk.new w 30 #[.int .i64 s, .int .i64 h])
  have HB := Lib.hid ((Below.refl w.heap.size w).alloc (Nat.le_refl _) (.cells #[.int .i64 s, .int .i64 h] 30))
  have z0 : w.heap.size + 1 ≤ (w.alloc (.cells #[.int .i64 s, .int .i64 h] 30)).heap.size := by simp
  have hf0 : ∀ (a b : Int) (W : World), (Instr.field 30 (.agg #[.int .i64 a, .int .i64 b]) 0).run Try.prog W = .ok (.int .i64 a) W := fun _ _ _ => by kernel_rfl
  have hf1 : ∀ (a b : Int) (W : World), (Instr.field 30 (.agg #[.int .i64 a, .int .i64 b]) 1).run Try.prog W = .ok (.int .i64 b) W := fun _ _ _ => by kernel_rfl
  go_enter Try.func47, Try.ntmps47
  go_upto_region 1 with fail
  generalize hw0 : w.alloc (.cells #[.int .i64 s, .int .i64 h] 30) = w0 at *
  clear hw0
  have hv1 : IntKind.i64.wrap ((upL s h).2 - natL (upL s h).1) = (upL s h).2 - natL (upL s h).1 := IntWalk.i64_in _ (by omega)
  have c0 := HK.out.cell 0; have c1 := HK.out.cell 1
  replace HK := Lib.hid HK.out.drew
  replace HB := Lib.hid HB.out.drew
  have zd : w.heap.size + 1 ≤ w0.drew.heap.size := z0
  go_region_held3 (fun w' => w'.cell? ⟨w.heap.size, 0, none⟩ = some (.int .i64 s) ∧ w'.cell? ⟨w.heap.size, 1, none⟩ = some (.int .i64 h)) (first | exact ⟨c0, c1⟩ | exact ⟨HK.out.cell 0, HK.out.cell 1⟩)
    (first
      | (go_at_call 69; refine (impl_up s h _ hs hh).mono ?_; rintro e wq ⟨rfl, bq⟩; have zq := bq.size; replace HK := Lib.hid (HK.out.below bq (by omega)); replace HB := Lib.hid (HB.out.trans (bq.mono (by omega))); clear bq)
      | (go_at_call 70; refine (impl_placeHalves _ _ (by omega) (by omega)).mono ?_; rintro e w' ⟨rfl, rfl⟩))
  all_goals
    go_wp2_with fail
    go_ret
    exact ⟨ret_int HQ.out.symm, HB.out⟩
end Go.Proofs.Ytnkoijkelcjloaa
