/- Contracts of IntervalValid, PitchPlace, AddInterval, of the program and of the reference. No condition. -/
import Derived.Test.YtnkoijkelcjloaaIvl
namespace Go.Proofs.Ytnkoijkelcjloaa
open Go.RowKit
set_option linter.unusedSimpArgs false
set_option linter.unusedVariables false
set_option maxRecDepth 100000
theorem spec_l1NaturalW (p : Int) (w : World) (h0 : 0 ≤ p) (h1 : p ≤ 1000) : Calls Try.prog 45 #[.int .i64 p] w (RetI w (natL p)) := by
  have HF := Lib.hid (show natL p = 12 * (p / 7) + halfL (p % 7) from rfl)
  have hd : p.tdiv 7 = p / 7 := Int.tdiv_eq_ediv_of_nonneg h0
  have hm : p.tmod 7 = p % 7 := Int.tmod_eq_emod_of_nonneg h0
  have hp : decide (p < 0) = false := decide_eq_false (by omega)
  have hq : 0 ≤ p / 7 ∧ p / 7 ≤ 142 := by omega
  have h : p % 7 = 0 ∨ p % 7 = 1 ∨ p % 7 = 2 ∨ p % 7 = 3 ∨ p % 7 = 4 ∨ p % 7 = 5 ∨ p % 7 = 6 := by omega
  have hbl := Blk.new w 3 #[.int .i64 0, .int .i64 2, .int .i64 4, .int .i64 5, .int .i64 7, .int .i64 9, .int .i64 11]
  have hrt : (p % 7).toNat < 7 := by omega
  have hcell : (w.alloc (.cells #[.int .i64 0, .int .i64 2, .int .i64 4, .int .i64 5, .int .i64 7, .int .i64 9, .int .i64 11] 3)).cell? ⟨w.heap.size, (p % 7).toNat, none⟩ = some (.int .i64 (halfL (p % 7))) := by
    rw [hbl.cell]
    rcases half_cases (s := p % 7) (by omega) (by omega) with ⟨e1, e⟩ | ⟨e1, e⟩ | ⟨e1, e⟩ | ⟨e1, e⟩ | ⟨e1, e⟩ | ⟨e1, e⟩ | ⟨e1, e⟩ <;> rw [e, e1] <;> rfl
  have hb := Lib.hid ((Below.refl w.heap.size w).alloc (Nat.le_refl _) (.cells #[.int .i64 0, .int .i64 2, .int .i64 4, .int .i64 5, .int .i64 7, .int .i64 9, .int .i64 11] 3))
  have hlt : p % 7 < 7 := by omega
  have hge : 0 ≤ p % 7 := by omega
  have hh : 0 ≤ halfL (p % 7) ∧ halfL (p % 7) ≤ 11 := by have := half_cases (s := p % 7) (by omega) (by omega); omega
  clear hbl h
  go_enter Try.func45, Try.ntmps45
  go_wp2_with fail
  go_loopw [0, 4] (fun v u wr => v = .int .i64 p ∧ u = .int .i64 0 ∧ wr = w.alloc (.cells #[.int .i64 0, .int .i64 2, .int .i64 4, .int .i64 5, .int .i64 7, .int .i64 9, .int .i64 11] 3)) (fun _ _ _ => 0)
  case atStart => exact ⟨rfl, rfl, rfl⟩
  case round =>
    obtain ⟨rfl, rfl, rfl⟩ := hrel
    go_wp2_with fail
    go_ret
    exact ⟨ret_int HF.out.symm, hb.out⟩
set_option maxHeartbeats 1000000 in
theorem spec_l2Quality (s h : Int) (w : World) (hs : -21 ≤ s ∧ s ≤ 21) (hh : -99 ≤ h ∧ h ≤ 99) : Calls Try.prog 57 #[.agg #[.int .i64 s, .int .i64 h]] w (RetI w (quL s h)) := by
  have hw1 : IntKind.i64.wrap (-s) = -s := IntWalk.i64_in _ (by omega)
  have hw2 : IntKind.i64.wrap (-h) = -h := IntWalk.i64_in _ (by omega)
  have HK := Lib.hid (Blk.new w 30 #[.int .i64 s, .int .i64 h])
  have HB := Lib.hid ((Below.refl w.heap.size w).alloc (Nat.le_refl _) (.cells #[.int .i64 s, .int .i64 h] 30))
  have z0 : w.heap.size + 1 ≤ (w.alloc (.cells #[.int .i64 s, .int .i64 h] 30)).heap.size := by simp
  by_cases c1 : s < 0 ∨ s = 0 ∧ h < 0
  · have HU : Hid (quL s h = -h - natL (-s)) := Lib.hid (by unfold quL upL; rw [if_pos c1])
    have hx : 0 ≤ -s ∧ -s ≤ 21 := by omega
    have hn := natL_bd hx.1
    have hv1 : IntKind.i64.wrap (-h - natL (-s)) = -h - natL (-s) := IntWalk.i64_in _ (by omega)
    have hcs : s < 0 ∨ (¬ s < 0 ∧ s = 0 ∧ h < 0) := by omega
    clear c1
    go_enter Try.func57, Try.ntmps57
    go_upto_region 1 with fail
    generalize hw0 : w.alloc (.cells #[.int .i64 s, .int .i64 h] 30) = w0 at *
    clear hw0
    have c0 := HK.out.cell 0; have c1 := HK.out.cell 1
    have c0d : w0.drew.cell? ⟨w.heap.size, 0, none⟩ = some (.int .i64 s) := c0
    have c1d : w0.drew.cell? ⟨w.heap.size, 1, none⟩ = some (.int .i64 h) := c1
    rcases hcs with g1 | ⟨g1, g2, g3⟩
    · have e1 : decide (s < 0) = true := decide_eq_true g1
      clear g1
      go_upto_region 2 with fail
      go_region_held3 (fun w' => w'.cell? ⟨w.heap.size, 0, none⟩ = some (.int .i64 s) ∧ w'.cell? ⟨w.heap.size, 1, none⟩ = some (.int .i64 h)) (first | exact ⟨c0, c1⟩ | exact ⟨X3.out.1, X3.out.2⟩)
        (first | (go_at_call 45; refine (spec_l1NaturalW _ _ (by omega) (by omega)).mono ?_; rintro e w3 ⟨rfl, b3⟩; have B3 := Lib.hid (HB.out.drew.trans (b3.mono (show w.heap.size ≤ w0.heap.size by omega))); have X3 := Lib.hid (And.intro ((b3.cell (p := ⟨w.heap.size, 0, none⟩) (show w.heap.size < w0.heap.size by omega)).trans c0d) ((b3.cell (p := ⟨w.heap.size, 1, none⟩) (show w.heap.size < w0.heap.size by omega)).trans c1d))))
      all_goals
        clear b3
        go_wp2_with fail
        go_ret
        exact ⟨ret_int HU.out.symm, B3.out⟩
    · have e1 : decide (s < 0) = false := decide_eq_false g1; have e2 : (s == 0) = true := by simpa using g2
      have e3 : decide (h < 0) = true := decide_eq_true g3
      clear g1 g2 g3
      go_upto_region 2 with fail
      go_region_held3 (fun w' => w'.cell? ⟨w.heap.size, 0, none⟩ = some (.int .i64 s) ∧ w'.cell? ⟨w.heap.size, 1, none⟩ = some (.int .i64 h)) (first | exact ⟨c0, c1⟩ | exact ⟨X3.out.1, X3.out.2⟩)
        (first | (go_at_call 45; refine (spec_l1NaturalW _ _ (by omega) (by omega)).mono ?_; rintro e w3 ⟨rfl, b3⟩; have B3 := Lib.hid (HB.out.drew.trans (b3.mono (show w.heap.size ≤ w0.heap.size by omega))); have X3 := Lib.hid (And.intro ((b3.cell (p := ⟨w.heap.size, 0, none⟩) (show w.heap.size < w0.heap.size by omega)).trans c0d) ((b3.cell (p := ⟨w.heap.size, 1, none⟩) (show w.heap.size < w0.heap.size by omega)).trans c1d))))
      all_goals
        clear b3
        go_wp2_with fail
        go_ret
        exact ⟨ret_int HU.out.symm, B3.out⟩
  · have HU : Hid (quL s h = h - natL (s)) := Lib.hid (by unfold quL upL; rw [if_neg c1])
    have hx : 0 ≤ s ∧ s ≤ 21 := by omega
    have hn := natL_bd hx.1
    have hv1 : IntKind.i64.wrap (h - natL (s)) = h - natL (s) := IntWalk.i64_in _ (by omega)
    have hcs : (¬ s < 0 ∧ ¬ s = 0) ∨ (¬ s < 0 ∧ s = 0 ∧ ¬ h < 0) := by omega
    clear c1
    go_enter Try.func57, Try.ntmps57
    go_upto_region 1 with fail
    generalize hw0 : w.alloc (.cells #[.int .i64 s, .int .i64 h] 30) = w0 at *
    clear hw0
    have c0 := HK.out.cell 0; have c1 := HK.out.cell 1
    have c0d : w0.drew.cell? ⟨w.heap.size, 0, none⟩ = some (.int .i64 s) := c0
    have c1d : w0.drew.cell? ⟨w.heap.size, 1, none⟩ = some (.int .i64 h) := c1
    rcases hcs with ⟨g1, g2⟩ | ⟨g1, g2, g3⟩
    · have e1 : decide (s < 0) = false := decide_eq_false g1; have e2 : (s == 0) = false := by simpa using g2
      clear g1 g2
      go_upto_region 3 with fail
      go_region_held3 (fun w' => w'.cell? ⟨w.heap.size, 0, none⟩ = some (.int .i64 s) ∧ w'.cell? ⟨w.heap.size, 1, none⟩ = some (.int .i64 h)) (first | exact ⟨c0, c1⟩ | exact ⟨X3.out.1, X3.out.2⟩)
        (first | (go_at_call 45; refine (spec_l1NaturalW _ _ (by omega) (by omega)).mono ?_; rintro e w3 ⟨rfl, b3⟩; have B3 := Lib.hid (HB.out.drew.trans (b3.mono (show w.heap.size ≤ w0.heap.size by omega))); have X3 := Lib.hid (And.intro ((b3.cell (p := ⟨w.heap.size, 0, none⟩) (show w.heap.size < w0.heap.size by omega)).trans c0d) ((b3.cell (p := ⟨w.heap.size, 1, none⟩) (show w.heap.size < w0.heap.size by omega)).trans c1d))))
      all_goals
        clear b3
        go_wp2_with fail
        go_ret
        exact ⟨ret_int HU.out.symm, B3.out⟩
    · have e1 : decide (s < 0) = false := decide_eq_false g1; have e2 : (s == 0) = true := by simpa using g2
      have e3 : decide (h < 0) = false := decide_eq_false g3
      clear g1 g2 g3
      go_upto_region 3 with fail
      go_region_held3 (fun w' => w'.cell? ⟨w.heap.size, 0, none⟩ = some (.int .i64 s) ∧ w'.cell? ⟨w.heap.size, 1, none⟩ = some (.int .i64 h)) (first | exact ⟨c0, c1⟩ | exact ⟨X3.out.1, X3.out.2⟩)
        (first | (go_at_call 45; refine (spec_l1NaturalW _ _ (by omega) (by omega)).mono ?_; rintro e w3 ⟨rfl, b3⟩; have B3 := Lib.hid (HB.out.drew.trans (b3.mono (show w.heap.size ≤ w0.heap.size by omega))); have X3 := Lib.hid (And.intro ((b3.cell (p := ⟨w.heap.size, 0, none⟩) (show w.heap.size < w0.heap.size by omega)).trans c0d) ((b3.cell (p := ⟨w.heap.size, 1, none⟩) (show w.heap.size < w0.heap.size by omega)).trans c1d))))
      all_goals
        clear b3
        go_wp2_with fail
        go_ret
        exact ⟨ret_int HU.out.symm, B3.out⟩
theorem impl_IntervalValid (s h : Int) (w : World) : Calls Try.prog 18 #[.agg #[.int .i64 s, .int .i64 h]] w (RetB w (ivB s h)) := by
  have HE : Hid (ivB s h = (inR s (-21) 21 && (inR h (-99) 99 && inR (quL s h) (-3) 3))) := Lib.hid (rfl)
  have HK := Lib.hid (Blk.new w 30 #[.int .i64 s, .int .i64 h])
  have HB := Lib.hid ((Below.refl w.heap.size w).alloc (Nat.le_refl _) (.cells #[.int .i64 s, .int .i64 h] 30))
  have z0 : w.heap.size + 1 ≤ (w.alloc (.cells #[.int .i64 s, .int .i64 h] 30)).heap.size := by simp
  cases h1 : inR s (-21) 21
  · have H1 := Lib.hid h1
    have HF : Hid (ivB s h = false) := Lib.hid (by rw [HE.out, h1]; rfl)
    clear h1
    go_enter Try.func18, Try.ntmps18
    go_wp2_with (go_at_call 46; refine (impl_within _ _ _ _).mono ?_; (first | rw [H1.out]); rintro e w' ⟨rfl, rfl⟩)
    go_ret
    exact ⟨ret_bool HF.out.symm, HB.out⟩
  cases h2 : inR h (-99) 99
  · have H1 := Lib.hid h1; have H2 := Lib.hid h2
    have HF : Hid (ivB s h = false) := Lib.hid (by rw [HE.out, h1, h2]; rfl)
    clear h1 h2
    go_enter Try.func18, Try.ntmps18
    go_wp2_with (go_at_call 46; refine (impl_within _ _ _ _).mono ?_; (first | rw [H1.out] | rw [H2.out]); rintro e w' ⟨rfl, rfl⟩)
    go_ret
    exact ⟨ret_bool HF.out.symm, HB.out⟩
  have hs := inR_iff.1 h1
  have hh := inR_iff.1 h2
  have HF : Hid (ivB s h = inR (quL s h) (-3) 3) := Lib.hid (by rw [HE.out, h1, h2]; rfl)
  have H1 := Lib.hid h1; have H2 := Lib.hid h2
  clear h1 h2
  go_enter Try.func18, Try.ntmps18
  go_upto_region 1 with fail
  generalize hw0 : w.alloc (.cells #[.int .i64 s, .int .i64 h] 30) = w0 at *
  clear hw0
  have c0 := HK.out.cell 0; have c1 := HK.out.cell 1
  go_wp2_with (first | (go_at_call 46; refine (impl_within _ _ _ _).mono ?_; (first | rw [H1.out] | rw [H2.out]); rintro e w' ⟨rfl, rfl⟩) | (go_at_call 47; refine (impl_quality s h _ (by omega) (by omega)).mono ?_; rintro e w3 ⟨rfl, b3⟩; have HB3 := Lib.hid (HB.out.trans (b3.mono (by omega))); clear b3 c0 c1) | (go_at_call 46; refine (impl_within _ _ _ _).mono ?_; rw [← HF.out]; rintro e w' ⟨rfl, rfl⟩))
  go_ret
  exact ⟨rfl, HB3.out⟩
theorem spec_IntervalValid (s h : Int) (w : World) : Calls Try.prog 24 #[.agg #[.int .i64 s, .int .i64 h]] w (RetB w (ivB s h)) := by
  have HE : Hid (ivB s h = (inR s (-21) 21 && (inR h (-60) 60 && inR (quL s h) (-3) 3))) := Lib.hid (ivB_spec s h)
  have HK := Lib.hid (Blk.new w 30 #[.int .i64 s, .int .i64 h])
  have HB := Lib.hid ((Below.refl w.heap.size w).alloc (Nat.le_refl _) (.cells #[.int .i64 s, .int .i64 h] 30))
  have z0 : w.heap.size + 1 ≤ (w.alloc (.cells #[.int .i64 s, .int .i64 h] 30)).heap.size := by simp
  cases h1 : inR s (-21) 21
  · have H1 := Lib.hid h1
    have HF : Hid (ivB s h = false) := Lib.hid (by rw [HE.out, h1]; rfl)
    clear h1
    go_enter Try.func24, Try.ntmps24
    go_wp2_with (go_at_call 54; refine (spec_l1In _ _ _ _).mono ?_; (first | rw [H1.out]); rintro e w' ⟨rfl, rfl⟩)
    go_ret
    exact ⟨ret_bool HF.out.symm, HB.out⟩
  cases h2 : inR h (-60) 60
  · have H1 := Lib.hid h1; have H2 := Lib.hid h2
    have HF : Hid (ivB s h = false) := Lib.hid (by rw [HE.out, h1, h2]; rfl)
    clear h1 h2
    go_enter Try.func24, Try.ntmps24
    go_wp2_with (go_at_call 54; refine (spec_l1In _ _ _ _).mono ?_; (first | rw [H1.out] | rw [H2.out]); rintro e w' ⟨rfl, rfl⟩)
    go_ret
    exact ⟨ret_bool HF.out.symm, HB.out⟩
  have hs := inR_iff.1 h1
  have hh := inR_iff.1 h2
  have HF : Hid (ivB s h = inR (quL s h) (-3) 3) := Lib.hid (by rw [HE.out, h1, h2]; rfl)
  have H1 := Lib.hid h1; have H2 := Lib.hid h2
  clear h1 h2
  go_enter Try.func24, Try.ntmps24
  go_upto_region 1 with fail
  generalize hw0 : w.alloc (.cells #[.int .i64 s, .int .i64 h] 30) = w0 at *
  clear hw0
  have c0 := HK.out.cell 0; have c1 := HK.out.cell 1
  go_wp2_with (first | (go_at_call 54; refine (spec_l1In _ _ _ _).mono ?_; (first | rw [H1.out] | rw [H2.out]); rintro e w' ⟨rfl, rfl⟩) | (go_at_call 57; refine (spec_l2Quality s h _ (by omega) (by omega)).mono ?_; rintro e w3 ⟨rfl, b3⟩; have HB3 := Lib.hid (HB.out.trans (b3.mono (by omega))); clear b3 c0 c1) | (go_at_call 54; refine (spec_l1In _ _ _ _).mono ?_; rw [← HF.out]; rintro e w' ⟨rfl, rfl⟩))
  go_ret
  exact ⟨rfl, HB3.out⟩
def ppB (a b c : Int) : Int := if pvB a b c = true then 7 * c + a else -1
theorem impl_PitchPlace (a b c : Int) (w : World) : Calls Try.prog 52 #[.agg #[.int .i64 a, .int .i64 b, .int .i64 c]] w (RetI w (ppB a b c)) := by
  cases hv : pvB a b c
  · have HF : Hid (ppB a b c = -1) := by unfold Hid ppB; rw [hv]; rfl
    have HV := Lib.hid hv; clear hv
    go_enter Try.func52, Try.ntmps52
    go_wp2_with fail
    refine (impl_PitchValid a b c _).mono ?_
    rw [HV.out]
    rintro e w1 ⟨rfl, b1⟩
    have HB := Lib.hid b1; clear b1
    go_wp2_with fail
    go_ret
    exact ⟨ret_int HF.out.symm, ((Below.refl _ _).alloc (Nat.le_refl _) _).trans (HB.out.mono (by simp))⟩
  · have HF : Hid (ppB a b c = 7 * c + a) := by unfold Hid ppB; rw [hv]; rfl
    have hp := pvB_iff.1 hv
    have hpc := hp.2.2; have hpa := hp.1
    have v1 : IntKind.i64.wrap (7 * c) = 7 * c := IntWalk.i64_in _ (by omega)
    have v2 : IntKind.i64.wrap (7 * c + a) = 7 * c + a := IntWalk.i64_in _ (by omega)
    clear hp
    have HV := Lib.hid hv; clear hv
    go_enter Try.func52, Try.ntmps52
    go_wp2_with fail
    refine (impl_PitchValid a b c _).mono ?_
    rw [HV.out]
    rintro e w1 ⟨rfl, b1⟩
    have d0 : w1.cell? ⟨w.heap.size, 0, none⟩ = some (.int .i64 a) := (b1.cell (by simp)).trans (by simp [go_sem])
    have d2 : w1.cell? ⟨w.heap.size, 2, none⟩ = some (.int .i64 c) := (b1.cell (by simp)).trans (by simp [go_sem])
    have HB := Lib.hid (((Below.refl w.heap.size w).alloc (Nat.le_refl _) _).trans (b1.mono (by simp))); clear b1
    go_wp2_with fail
    go_ret
    exact ⟨ret_int HF.out.symm, HB.out⟩
theorem spec_PitchPlace (a b c : Int) (w : World) : Calls Try.prog 61 #[.agg #[.int .i64 a, .int .i64 b, .int .i64 c]] w (RetI w (ppB a b c)) := by
  cases hv : pvB a b c
  · have HF : Hid (ppB a b c = -1) := by unfold Hid ppB; rw [hv]; rfl
    have HV := Lib.hid hv; clear hv
    go_enter Try.func61, Try.ntmps61
    go_wp2_with fail
    refine (spec_PitchValid a b c _).mono ?_
    rw [HV.out]
    rintro e w1 ⟨rfl, b1⟩
    have HB := Lib.hid b1; clear b1
    go_wp2_with fail
    go_ret
    exact ⟨ret_int HF.out.symm, ((Below.refl _ _).alloc (Nat.le_refl _) _).trans (HB.out.mono (by simp))⟩
  · have HF : Hid (ppB a b c = 7 * c + a) := by unfold Hid ppB; rw [hv]; rfl
    have hp := pvB_iff.1 hv
    have hpc := hp.2.2; have hpa := hp.1
    have v1 : IntKind.i64.wrap (7 * c) = 7 * c := IntWalk.i64_in _ (by omega)
    have v2 : IntKind.i64.wrap (7 * c + a) = 7 * c + a := IntWalk.i64_in _ (by omega)
    clear hp
    have HV := Lib.hid hv; clear hv
    go_enter Try.func61, Try.ntmps61
    go_wp2_with fail
    refine (spec_PitchValid a b c _).mono ?_
    rw [HV.out]
    rintro e w1 ⟨rfl, b1⟩
    have d0 : w1.cell? ⟨w.heap.size, 0, none⟩ = some (.int .i64 a) := (b1.cell (by simp)).trans (by simp [go_sem])
    have d2 : w1.cell? ⟨w.heap.size, 2, none⟩ = some (.int .i64 c) := (b1.cell (by simp)).trans (by simp [go_sem])
    have HB := Lib.hid (((Below.refl w.heap.size w).alloc (Nat.le_refl _) _).trans (b1.mono (by simp))); clear b1
    go_wp2_with fail
    go_ret
    exact ⟨ret_int HF.out.symm, HB.out⟩
end Go.Proofs.Ytnkoijkelcjloaa
