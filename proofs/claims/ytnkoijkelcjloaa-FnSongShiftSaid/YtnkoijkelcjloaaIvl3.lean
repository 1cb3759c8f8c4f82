/- Contracts of pitchWith and AddInterval, of the program and of the reference. Condition: bounds on the numbers of pitchWith. -/
import Derived.Test.YtnkoijkelcjloaaIvl2
import Derived.Test.YtnkoijkelcjloaaInvF
namespace Go.Proofs.Ytnkoijkelcjloaa
open Go.RowKit
set_option linter.unusedSimpArgs false
set_option linter.unusedVariables false
set_option maxRecDepth 100000
def pwL (place key : Int) : (Int × Int × Int) × Bool := if 0 ≤ place ∧ pvB (place % 7) (key - natL place) (place / 7) = true then ((place % 7, key - natL place, place / 7), true) else ((0, 0, 0), false)
/-- the pitch to which an interval leads -/
def aiL (a b c s h : Int) : (Int × Int × Int) × Bool := if pvB a b c = true ∧ ivB s h = true then pwL (7 * c + a + s) (pkL (a, b, c) + h) else ((0, 0, 0), false)
def RetPB (w : World) (r : (Int × Int × Int) × Bool) (e : Ending) (w' : World) : Prop := e = .returned (.tuple #[.agg #[.int .i64 r.1.1, .int .i64 r.1.2.1, .int .i64 r.1.2.2], .bool r.2]) ∧ Below w.heap.size w w'
theorem pk_bd {a b c : Int} (h : pvB a b c = true) : -2 ≤ pkL (a, b, c) ∧ pkL (a, b, c) ≤ 120 := by
  have hp := pvB_iff.1 h
  have := half_cases hp.1.1 hp.1.2
  show -2 ≤ 12 * c + halfL a + b ∧ 12 * c + halfL a + b ≤ 120
  omega
set_option maxHeartbeats 2000000 in
theorem impl_pitchWith (place key : Int) (w : World) (hpl : -100 ≤ place ∧ place ≤ 1000) (hkey : -1000 ≤ key ∧ key ≤ 1000) : Calls Try.prog 51 #[.int .i64 place, .int .i64 key] w (RetPB w (pwL place key)) := by
  have HK := Lib.hid (Blk.new w 50 #[.int .i64 0, .int .i64 0, .int .i64 0])
  have HB := Lib.hid ((Below.refl w.heap.size w).alloc (Nat.le_refl _) (.cells #[.int .i64 0, .int .i64 0, .int .i64 0] 50))
  by_cases hp : place < 0
  · have HF : Hid (pwL place key = ((0, 0, 0), false)) := Lib.hid (if_neg (by omega))
    go_enter Try.func51, Try.ntmps51
    go_wp2_with fail
    refine bodyPost_ret (v := .tuple #[.agg #[.int .i64 0, .int .i64 0, .int .i64 0], .bool false]) (by simp [results, Try.results51, go_sem]) rfl ⟨by rw [HF.out], by (repeat (first | exact Below.refl _ _ | refine Below.alloc ?_ (by simp; try omega) _ | refine below_drewN ?_ _ | refine Below.drew ?_))⟩
  have h0 : 0 ≤ place := by omega
  have hn := natL_bd h0
  have e0 : decide (place < 0) = false := decide_eq_false hp
  have hm : place.tmod 7 = place % 7 := Int.tmod_eq_emod_of_nonneg h0
  have hd : place.tdiv 7 = place / 7 := Int.tdiv_eq_ediv_of_nonneg h0
  have hv1 : IntKind.i64.wrap (key - natL place) = key - natL place := IntWalk.i64_in _ (by omega)
  have HE : Hid (pwL place key = if pvB (place % 7) (key - natL place) (place / 7) = true then ((place % 7, key - natL place, place / 7), true) else ((0, 0, 0), false)) := Lib.hid (by unfold pwL; simp only [h0, true_and])
  go_enter Try.func51, Try.ntmps51
  go_upto_region 4 with (go_at_call 70; refine (impl_placeHalves _ _ (by omega) (by omega)).mono ?_; rintro e w' ⟨rfl, rfl⟩)
  clear hv1 hm hd hn
  generalize key - natL place = x2 at *
  generalize place % 7 = x1 at *
  generalize place / 7 = x3 at *
  have z1 : (w.alloc (.cells #[.int .i64 0, .int .i64 0, .int .i64 0] 50)).heap.size = w.heap.size + 1 := by simp
  have HQ := Lib.hid (Blk.new (w.alloc (.cells #[.int .i64 0, .int .i64 0, .int .i64 0] 50)) 50 #[.int .i64 x1, .int .i64 x2, .int .i64 x3])
  rw [z1] at HQ
  replace HK := Lib.hid (HK.out.alloc (.cells #[.int .i64 x1, .int .i64 x2, .int .i64 x3] 50))
  replace HB := Lib.hid (HB.out.alloc (by simp) (.cells #[.int .i64 x1, .int .i64 x2, .int .i64 x3] 50))
  have z2 : w.heap.size + 2 ≤ ((w.alloc (.cells #[.int .i64 0, .int .i64 0, .int .i64 0] 50)).alloc (.cells #[.int .i64 x1, .int .i64 x2, .int .i64 x3] 50)).heap.size := by simp
  clear z1
  generalize (w.alloc (.cells #[.int .i64 0, .int .i64 0, .int .i64 0] 50)).alloc (.cells #[.int .i64 x1, .int .i64 x2, .int .i64 x3] 50) = w0 at *
  have c0 := HQ.out.cell 0; have c1 := HQ.out.cell 1; have c2 := HQ.out.cell 2
  go_wp2_with fail
  refine (impl_PitchValid x1 x2 x3 _).mono ?_
  cases hv : pvB x1 x2 x3
  · have HF : Hid (pwL place key = ((0, 0, 0), false)) := Lib.hid (by rw [HE.out, hv]; rfl)
    rintro e w1 ⟨rfl, b1⟩
    have zz := b1.size
    clear c0 c1 c2 hv
    replace HK := Lib.hid (HK.out.below b1 (by omega)); replace HQ := Lib.hid (HQ.out.below b1 (by omega)); replace HB := Lib.hid (HB.out.trans (b1.mono (by omega))); clear b1
    have c0 := HQ.out.cell 0; have c1 := HQ.out.cell 1; have c2 := HQ.out.cell 2
    have d0 := HK.out.cell 0; have d1 := HK.out.cell 1; have d2 := HK.out.cell 2; have f0 := HK.out.frozen 0; have f1 := HK.out.frozen 1; have f2 := HK.out.frozen 2
    go_wp2_with fail
    have HK3 := Lib.hid (((HK.out.set_ 0 (.int .i64 0)).set_ 1 (.int .i64 0)).set_ 2 (.int .i64 0))
    have HB3 := Lib.hid (Below.setCell (Below.setCell (Below.setCell HB.out (p := ⟨w.heap.size, 0, none⟩) (by first | exact Nat.le_refl _ | exact Nat.le_add_right _ _ | omega | (simp; omega)) (.int .i64 0)) (p := ⟨w.heap.size, 1, none⟩) (by first | exact Nat.le_refl _ | exact Nat.le_add_right _ _ | omega | (simp; omega)) (.int .i64 0)) (p := ⟨w.heap.size, 2, none⟩) (by first | exact Nat.le_refl _ | exact Nat.le_add_right _ _ | omega | (simp; omega)) (.int .i64 0))
    generalize (((w1.setCell ⟨w.heap.size, 0, none⟩ (.int .i64 0)).setCell ⟨w.heap.size, 1, none⟩ (.int .i64 0)).setCell ⟨w.heap.size, 2, none⟩ (.int .i64 0)) = W at *
    have r0 : W.cell? ⟨w.heap.size, 0, none⟩ = some (.int .i64 0) := HK3.out.cell 0
    have r1 : W.cell? ⟨w.heap.size, 1, none⟩ = some (.int .i64 0) := HK3.out.cell 1
    have r2 : W.cell? ⟨w.heap.size, 2, none⟩ = some (.int .i64 0) := HK3.out.cell 2
    refine bodyPost_ret (v := .tuple #[.agg #[.int .i64 0, .int .i64 0, .int .i64 0], .bool false]) (by simp [results, Try.results51, go_sem, r0, r1, r2]) rfl ⟨by rw [HF.out], HB3.out⟩
  · have HF : Hid (pwL place key = ((x1, x2, x3), true)) := Lib.hid (by rw [HE.out, hv]; rfl)
    rintro e w1 ⟨rfl, b1⟩
    have zz := b1.size
    clear c0 c1 c2 hv
    replace HK := Lib.hid (HK.out.below b1 (by omega)); replace HQ := Lib.hid (HQ.out.below b1 (by omega)); replace HB := Lib.hid (HB.out.trans (b1.mono (by omega))); clear b1
    have c0 := HQ.out.cell 0; have c1 := HQ.out.cell 1; have c2 := HQ.out.cell 2
    have d0 := HK.out.cell 0; have d1 := HK.out.cell 1; have d2 := HK.out.cell 2; have f0 := HK.out.frozen 0; have f1 := HK.out.frozen 1; have f2 := HK.out.frozen 2
    go_wp2_with fail
    have HK3 := Lib.hid (((HK.out.set_ 0 (.int .i64 x1)).set_ 1 (.int .i64 x2)).set_ 2 (.int .i64 x3))
    have HB3 := Lib.hid (Below.setCell (Below.setCell (Below.setCell HB.out (p := ⟨w.heap.size, 0, none⟩) (by first | exact Nat.le_refl _ | exact Nat.le_add_right _ _ | omega | (simp; omega)) (.int .i64 x1)) (p := ⟨w.heap.size, 1, none⟩) (by first | exact Nat.le_refl _ | exact Nat.le_add_right _ _ | omega | (simp; omega)) (.int .i64 x2)) (p := ⟨w.heap.size, 2, none⟩) (by first | exact Nat.le_refl _ | exact Nat.le_add_right _ _ | omega | (simp; omega)) (.int .i64 x3))
    generalize (((w1.setCell ⟨w.heap.size, 0, none⟩ (.int .i64 x1)).setCell ⟨w.heap.size, 1, none⟩ (.int .i64 x2)).setCell ⟨w.heap.size, 2, none⟩ (.int .i64 x3)) = W at *
    have r0 : W.cell? ⟨w.heap.size, 0, none⟩ = some (.int .i64 x1) := HK3.out.cell 0
    have r1 : W.cell? ⟨w.heap.size, 1, none⟩ = some (.int .i64 x2) := HK3.out.cell 1
    have r2 : W.cell? ⟨w.heap.size, 2, none⟩ = some (.int .i64 x3) := HK3.out.cell 2
    refine bodyPost_ret (v := .tuple #[.agg #[.int .i64 x1, .int .i64 x2, .int .i64 x3], .bool true]) (by simp [results, Try.results51, go_sem, r0, r1, r2]) rfl ⟨by rw [HF.out], HB3.out⟩
set_option maxHeartbeats 4000000 in
theorem impl_AddInterval (a b c s h : Int) (w : World) : Calls Try.prog 20 #[.agg #[.int .i64 a, .int .i64 b, .int .i64 c], .agg #[.int .i64 s, .int .i64 h]] w (RetPB w (aiL a b c s h)) := by
  have HP := Lib.hid (((Blk.new w 50 #[.int .i64 a, .int .i64 b, .int .i64 c]).alloc (.cells #[.int .i64 s, .int .i64 h] 30)).alloc (.cells #[.int .i64 0, .int .i64 0, .int .i64 0] 50))
  have HI : Hid (Blk (((w.alloc (.cells #[.int .i64 a, .int .i64 b, .int .i64 c] 50)).alloc (.cells #[.int .i64 s, .int .i64 h] 30)).alloc (.cells #[.int .i64 0, .int .i64 0, .int .i64 0] 50)) (w.heap.size + 1) 30 #[.int .i64 s, .int .i64 h]) := by
    have h9 := (Blk.new (w.alloc (.cells #[.int .i64 a, .int .i64 b, .int .i64 c] 50)) 30 #[.int .i64 s, .int .i64 h]).alloc (.cells #[.int .i64 0, .int .i64 0, .int .i64 0] 50)
    rw [World.size_alloc] at h9
    exact Lib.hid h9
  have HK : Hid (Blk (((w.alloc (.cells #[.int .i64 a, .int .i64 b, .int .i64 c] 50)).alloc (.cells #[.int .i64 s, .int .i64 h] 30)).alloc (.cells #[.int .i64 0, .int .i64 0, .int .i64 0] 50)) (w.heap.size + 2) 50 #[.int .i64 0, .int .i64 0, .int .i64 0]) := by
    have h9 := Blk.new ((w.alloc (.cells #[.int .i64 a, .int .i64 b, .int .i64 c] 50)).alloc (.cells #[.int .i64 s, .int .i64 h] 30)) 50 #[.int .i64 0, .int .i64 0, .int .i64 0]
    rw [World.size_alloc, World.size_alloc] at h9
    exact Lib.hid h9
  have HB := Lib.hid ((((Below.refl w.heap.size w).alloc (Nat.le_refl _) (.cells #[.int .i64 a, .int .i64 b, .int .i64 c] 50)).alloc (by simp) (.cells #[.int .i64 s, .int .i64 h] 30)).alloc (by simp; omega) (.cells #[.int .i64 0, .int .i64 0, .int .i64 0] 50))
  have z0 : w.heap.size + 3 ≤ (((w.alloc (.cells #[.int .i64 a, .int .i64 b, .int .i64 c] 50)).alloc (.cells #[.int .i64 s, .int .i64 h] 30)).alloc (.cells #[.int .i64 0, .int .i64 0, .int .i64 0] 50)).heap.size := by simp
  go_enter Try.func20, Try.ntmps20
  go_upto_region 1 with fail
  generalize (((w.alloc (.cells #[.int .i64 a, .int .i64 b, .int .i64 c] 50)).alloc (.cells #[.int .i64 s, .int .i64 h] 30)).alloc (.cells #[.int .i64 0, .int .i64 0, .int .i64 0] 50)) = w0 at *
  have p0 := HP.out.cell 0; have p1 := HP.out.cell 1; have p2 := HP.out.cell 2
  go_wp2_with fail
  refine (impl_PitchValid a b c _).mono ?_
  cases hv : pvB a b c
  · have HF : Hid (aiL a b c s h = ((0, 0, 0), false)) := Lib.hid (if_neg (by rw [hv]; simp))
    rintro e w1 ⟨rfl, b1⟩
    have z1 := b1.size
    clear p0 p1 p2 hv
    replace HK := Lib.hid (HK.out.below b1 (by omega)); replace HB := Lib.hid (HB.out.trans (b1.mono (by omega))); clear b1
    have d0 := HK.out.cell 0; have d1 := HK.out.cell 1; have d2 := HK.out.cell 2; have f0 := HK.out.frozen 0; have f1 := HK.out.frozen 1; have f2 := HK.out.frozen 2
    go_wp2_with fail
    have HK3 := Lib.hid (((HK.out.set_ 0 (.int .i64 0)).set_ 1 (.int .i64 0)).set_ 2 (.int .i64 0))
    have HB3 := Lib.hid (Below.setCell (Below.setCell (Below.setCell HB.out (p := ⟨w.heap.size + 2, 0, none⟩) (by first | exact Nat.le_refl _ | exact Nat.le_add_right _ _ | omega | (simp; omega)) (.int .i64 0)) (p := ⟨w.heap.size + 2, 1, none⟩) (by first | exact Nat.le_refl _ | exact Nat.le_add_right _ _ | omega | (simp; omega)) (.int .i64 0)) (p := ⟨w.heap.size + 2, 2, none⟩) (by first | exact Nat.le_refl _ | exact Nat.le_add_right _ _ | omega | (simp; omega)) (.int .i64 0))
    generalize (((w1.setCell ⟨w.heap.size + 2, 0, none⟩ (.int .i64 0)).setCell ⟨w.heap.size + 2, 1, none⟩ (.int .i64 0)).setCell ⟨w.heap.size + 2, 2, none⟩ (.int .i64 0)) = W at *
    have r0 : W.cell? ⟨w.heap.size + 2, 0, none⟩ = some (.int .i64 0) := HK3.out.cell 0
    have r1 : W.cell? ⟨w.heap.size + 2, 1, none⟩ = some (.int .i64 0) := HK3.out.cell 1
    have r2 : W.cell? ⟨w.heap.size + 2, 2, none⟩ = some (.int .i64 0) := HK3.out.cell 2
    refine bodyPost_ret (v := .tuple #[.agg #[.int .i64 0, .int .i64 0, .int .i64 0], .bool false]) (by simp [results, Try.results20, go_sem, r0, r1, r2]) rfl ⟨by rw [HF.out], HB3.out⟩
  rintro e w1 ⟨rfl, b1⟩
  have z1 := b1.size
  clear p0 p1 p2
  replace HK := Lib.hid (HK.out.below b1 (by omega)); replace HP := Lib.hid (HP.out.below b1 (by omega)); replace HI := Lib.hid (HI.out.below b1 (by omega)); replace HB := Lib.hid (HB.out.trans (b1.mono (by omega))); clear b1
  have i0 := HI.out.cell 0; have i1 := HI.out.cell 1
  go_wp2_with fail
  refine (impl_IntervalValid s h _).mono ?_
  cases hi : ivB s h
  · have HF : Hid (aiL a b c s h = ((0, 0, 0), false)) := Lib.hid (if_neg (by rw [hi]; simp))
    rintro e w2 ⟨rfl, b2⟩
    have z2 := b2.size
    clear i0 i1 hv hi
    replace HK := Lib.hid (HK.out.below b2 (by omega)); replace HB := Lib.hid (HB.out.trans (b2.mono (by omega))); clear b2
    have d0 := HK.out.cell 0; have d1 := HK.out.cell 1; have d2 := HK.out.cell 2; have f0 := HK.out.frozen 0; have f1 := HK.out.frozen 1; have f2 := HK.out.frozen 2
    go_wp2_with fail
    have HK3 := Lib.hid (((HK.out.set_ 0 (.int .i64 0)).set_ 1 (.int .i64 0)).set_ 2 (.int .i64 0))
    have HB3 := Lib.hid (Below.setCell (Below.setCell (Below.setCell HB.out (p := ⟨w.heap.size + 2, 0, none⟩) (by first | exact Nat.le_refl _ | exact Nat.le_add_right _ _ | omega | (simp; omega)) (.int .i64 0)) (p := ⟨w.heap.size + 2, 1, none⟩) (by first | exact Nat.le_refl _ | exact Nat.le_add_right _ _ | omega | (simp; omega)) (.int .i64 0)) (p := ⟨w.heap.size + 2, 2, none⟩) (by first | exact Nat.le_refl _ | exact Nat.le_add_right _ _ | omega | (simp; omega)) (.int .i64 0))
    generalize (((w2.setCell ⟨w.heap.size + 2, 0, none⟩ (.int .i64 0)).setCell ⟨w.heap.size + 2, 1, none⟩ (.int .i64 0)).setCell ⟨w.heap.size + 2, 2, none⟩ (.int .i64 0)) = W at *
    have r0 : W.cell? ⟨w.heap.size + 2, 0, none⟩ = some (.int .i64 0) := HK3.out.cell 0
    have r1 : W.cell? ⟨w.heap.size + 2, 1, none⟩ = some (.int .i64 0) := HK3.out.cell 1
    have r2 : W.cell? ⟨w.heap.size + 2, 2, none⟩ = some (.int .i64 0) := HK3.out.cell 2
    refine bodyPost_ret (v := .tuple #[.agg #[.int .i64 0, .int .i64 0, .int .i64 0], .bool false]) (by simp [results, Try.results20, go_sem, r0, r1, r2]) rfl ⟨by rw [HF.out], HB3.out⟩
  rintro e w2 ⟨rfl, b2⟩
  have z2 := b2.size
  clear i0 i1
  replace HK := Lib.hid (HK.out.below b2 (by omega)); replace HP := Lib.hid (HP.out.below b2 (by omega)); replace HI := Lib.hid (HI.out.below b2 (by omega)); replace HB := Lib.hid (HB.out.trans (b2.mono (by omega))); clear b2
  have hpv := pvB_iff.1 hv
  have hiv := ivB_iff.1 hi
  have hkb := pk_bd hv
  have HE : Hid (aiL a b c s h = pwL (7 * c + a + s) (pkL (a, b, c) + h)) := Lib.hid (if_pos ⟨hv, hi⟩)
  have HPP : Hid (ppB a b c = 7 * c + a) := Lib.hid (if_pos hv)
  have HPK : Hid (pkB a b c = pkL (a, b, c)) := Lib.hid (if_pos hv)
  clear hv hi
  have hw1 : IntKind.i64.wrap (7 * c + a + s) = 7 * c + a + s := IntWalk.i64_in _ (by omega)
  have hw2 : IntKind.i64.wrap (pkL (a, b, c) + h) = pkL (a, b, c) + h := IntWalk.i64_in _ (by omega)
  have hpl : -21 ≤ 7 * c + a + s ∧ 7 * c + a + s ≤ 100 := by omega
  have hky : -101 ≤ pkL (a, b, c) + h ∧ pkL (a, b, c) + h ≤ 219 := by omega
  generalize 7 * c + a = pa at *
  generalize pkL (a, b, c) = pk at *
  have p0 := HP.out.cell 0; have p1 := HP.out.cell 1; have p2 := HP.out.cell 2
  have i0 := HI.out.cell 0; have i1 := HI.out.cell 1
  go_upto_region 3 with fail
  replace HP := Lib.hid HP.out.drew; replace HI := Lib.hid HI.out.drew; replace HK := Lib.hid HK.out.drew; replace HB := Lib.hid HB.out.drew; have zd1 : w.heap.size + 3 ≤ w2.drew.heap.size := (show w.heap.size + 3 ≤ w2.heap.size by omega)
  rcases hr9 : pwL (pa + s) (pk + h) with ⟨⟨x1, x2, x3⟩, ok⟩
  have HF : Hid (aiL a b c s h = ((x1, x2, x3), ok)) := Lib.hid (by rw [HE.out, hr9])
  have HR9 := Lib.hid hr9; clear hr9
  have y5 : ∀ W : World, True := fun _ => trivial
  go_region_held3 (fun w' => w'.cell? ⟨w.heap.size, 0, none⟩ = some (.int .i64 a) ∧ w'.cell? ⟨w.heap.size, 1, none⟩ = some (.int .i64 b) ∧ w'.cell? ⟨w.heap.size, 2, none⟩ = some (.int .i64 c) ∧ w'.cell? ⟨w.heap.size + 1, 0, none⟩ = some (.int .i64 s) ∧ w'.cell? ⟨w.heap.size + 1, 1, none⟩ = some (.int .i64 h)) (first | exact ⟨p0, p1, p2, i0, i1⟩ | exact ⟨HP.out.cell 0, HP.out.cell 1, HP.out.cell 2, HI.out.cell 0, HI.out.cell 1⟩ | exact ⟨(((HP.out.far (by simp; try omega) _).far (by simp; try omega) _).far (by simp; try omega) _).cell 0, (((HP.out.far (by simp; try omega) _).far (by simp; try omega) _).far (by simp; try omega) _).cell 1, (((HP.out.far (by simp; try omega) _).far (by simp; try omega) _).far (by simp; try omega) _).cell 2, (((HI.out.far (by simp; try omega) _).far (by simp; try omega) _).far (by simp; try omega) _).cell 0, (((HI.out.far (by simp; try omega) _).far (by simp; try omega) _).far (by simp; try omega) _).cell 1⟩)
    (first | (go_at_call 52; refine (impl_PitchPlace a b c _).mono ?_; rw [HPP.out]; rintro e w3 ⟨rfl, b3⟩; have z3 := b3.size; replace HP := Lib.hid (HP.out.below b3 (by omega)); replace HI := Lib.hid (HI.out.below b3 (by omega)); replace HK := Lib.hid (HK.out.below b3 (by omega)); replace HB := Lib.hid (HB.out.trans (b3.mono (by omega))); clear b3) | (go_at_call 30; refine (impl_PitchKey a b c _).mono ?_; rw [HPK.out]; rintro e w4 ⟨rfl, b4⟩; have z4 := b4.size; replace HP := Lib.hid (HP.out.below b4 (by omega)); replace HI := Lib.hid (HI.out.below b4 (by omega)); replace HK := Lib.hid (HK.out.below b4 (by omega)); replace HB := Lib.hid (HB.out.trans (b4.mono (by omega))); clear b4) | (go_at_call 51; refine (impl_pitchWith _ _ _ (by omega) (by omega)).mono ?_; rw [HR9.out]; rintro e w5 ⟨rfl, b5⟩; have z5 := b5.size; replace HP := Lib.hid (HP.out.below b5 (by omega)); replace HI := Lib.hid (HI.out.below b5 (by omega)); replace HK := Lib.hid (HK.out.below b5 (by omega)); replace HB := Lib.hid (HB.out.trans (b5.mono (by omega))); clear b5; have d0 := HK.out.cell 0; have d1 := HK.out.cell 1; have d2 := HK.out.cell 2; have f0 := HK.out.frozen 0; have f1 := HK.out.frozen 1; have f2 := HK.out.frozen 2))
  go_wp2_with fail
  have HK3 := Lib.hid (((HK.out.set_ 0 (.int .i64 x1)).set_ 1 (.int .i64 x2)).set_ 2 (.int .i64 x3))
  have HB3 := Lib.hid (Below.setCell (Below.setCell (Below.setCell HB.out (p := ⟨w.heap.size + 2, 0, none⟩) (by first | exact Nat.le_refl _ | exact Nat.le_add_right _ _ | omega | (simp; omega)) (.int .i64 x1)) (p := ⟨w.heap.size + 2, 1, none⟩) (by first | exact Nat.le_refl _ | exact Nat.le_add_right _ _ | omega | (simp; omega)) (.int .i64 x2)) (p := ⟨w.heap.size + 2, 2, none⟩) (by first | exact Nat.le_refl _ | exact Nat.le_add_right _ _ | omega | (simp; omega)) (.int .i64 x3))
  generalize (((w5.setCell ⟨w.heap.size + 2, 0, none⟩ (.int .i64 x1)).setCell ⟨w.heap.size + 2, 1, none⟩ (.int .i64 x2)).setCell ⟨w.heap.size + 2, 2, none⟩ (.int .i64 x3)) = W at *
  have r0 : W.cell? ⟨w.heap.size + 2, 0, none⟩ = some (.int .i64 x1) := HK3.out.cell 0
  have r1 : W.cell? ⟨w.heap.size + 2, 1, none⟩ = some (.int .i64 x2) := HK3.out.cell 1
  have r2 : W.cell? ⟨w.heap.size + 2, 2, none⟩ = some (.int .i64 x3) := HK3.out.cell 2
  refine bodyPost_ret (v := .tuple #[.agg #[.int .i64 x1, .int .i64 x2, .int .i64 x3], .bool ok]) (by simp [results, Try.results20, go_sem, r0, r1, r2]) rfl ⟨by rw [HF.out], HB3.out⟩
set_option maxHeartbeats 4000000 in
theorem spec_AddInterval (a b c s h : Int) (w : World) : Calls Try.prog 26 #[.agg #[.int .i64 a, .int .i64 b, .int .i64 c], .agg #[.int .i64 s, .int .i64 h]] w (RetPB w (aiL a b c s h)) := by
  have HP := Lib.hid (((Blk.new w 50 #[.int .i64 a, .int .i64 b, .int .i64 c]).alloc (.cells #[.int .i64 s, .int .i64 h] 30)).alloc (.cells #[.int .i64 0, .int .i64 0, .int .i64 0] 50))
  have HI : Hid (Blk (((w.alloc (.cells #[.int .i64 a, .int .i64 b, .int .i64 c] 50)).alloc (.cells #[.int .i64 s, .int .i64 h] 30)).alloc (.cells #[.int .i64 0, .int .i64 0, .int .i64 0] 50)) (w.heap.size + 1) 30 #[.int .i64 s, .int .i64 h]) := by
    have h9 := (Blk.new (w.alloc (.cells #[.int .i64 a, .int .i64 b, .int .i64 c] 50)) 30 #[.int .i64 s, .int .i64 h]).alloc (.cells #[.int .i64 0, .int .i64 0, .int .i64 0] 50)
    rw [World.size_alloc] at h9
    exact Lib.hid h9
  have HK : Hid (Blk (((w.alloc (.cells #[.int .i64 a, .int .i64 b, .int .i64 c] 50)).alloc (.cells #[.int .i64 s, .int .i64 h] 30)).alloc (.cells #[.int .i64 0, .int .i64 0, .int .i64 0] 50)) (w.heap.size + 2) 50 #[.int .i64 0, .int .i64 0, .int .i64 0]) := by
    have h9 := Blk.new ((w.alloc (.cells #[.int .i64 a, .int .i64 b, .int .i64 c] 50)).alloc (.cells #[.int .i64 s, .int .i64 h] 30)) 50 #[.int .i64 0, .int .i64 0, .int .i64 0]
    rw [World.size_alloc, World.size_alloc] at h9
    exact Lib.hid h9
  have HB := Lib.hid ((((Below.refl w.heap.size w).alloc (Nat.le_refl _) (.cells #[.int .i64 a, .int .i64 b, .int .i64 c] 50)).alloc (by simp) (.cells #[.int .i64 s, .int .i64 h] 30)).alloc (by simp; omega) (.cells #[.int .i64 0, .int .i64 0, .int .i64 0] 50))
  have z0 : w.heap.size + 3 ≤ (((w.alloc (.cells #[.int .i64 a, .int .i64 b, .int .i64 c] 50)).alloc (.cells #[.int .i64 s, .int .i64 h] 30)).alloc (.cells #[.int .i64 0, .int .i64 0, .int .i64 0] 50)).heap.size := by simp
  go_enter Try.func26, Try.ntmps26
  go_upto_region 1 with fail
  generalize (((w.alloc (.cells #[.int .i64 a, .int .i64 b, .int .i64 c] 50)).alloc (.cells #[.int .i64 s, .int .i64 h] 30)).alloc (.cells #[.int .i64 0, .int .i64 0, .int .i64 0] 50)) = w0 at *
  have p0 := HP.out.cell 0; have p1 := HP.out.cell 1; have p2 := HP.out.cell 2
  go_wp2_with fail
  refine (spec_PitchValid a b c _).mono ?_
  cases hv : pvB a b c
  · have HF : Hid (aiL a b c s h = ((0, 0, 0), false)) := Lib.hid (if_neg (by rw [hv]; simp))
    rintro e w1 ⟨rfl, b1⟩
    have z1 := b1.size
    clear p0 p1 p2 hv
    replace HK := Lib.hid (HK.out.below b1 (by omega)); replace HB := Lib.hid (HB.out.trans (b1.mono (by omega))); clear b1
    have d0 := HK.out.cell 0; have d1 := HK.out.cell 1; have d2 := HK.out.cell 2; have f0 := HK.out.frozen 0; have f1 := HK.out.frozen 1; have f2 := HK.out.frozen 2
    go_wp2_with fail
    have HK3 := Lib.hid (((HK.out.set_ 0 (.int .i64 0)).set_ 1 (.int .i64 0)).set_ 2 (.int .i64 0))
    have HB3 := Lib.hid (Below.setCell (Below.setCell (Below.setCell HB.out (p := ⟨w.heap.size + 2, 0, none⟩) (by first | exact Nat.le_refl _ | exact Nat.le_add_right _ _ | omega | (simp; omega)) (.int .i64 0)) (p := ⟨w.heap.size + 2, 1, none⟩) (by first | exact Nat.le_refl _ | exact Nat.le_add_right _ _ | omega | (simp; omega)) (.int .i64 0)) (p := ⟨w.heap.size + 2, 2, none⟩) (by first | exact Nat.le_refl _ | exact Nat.le_add_right _ _ | omega | (simp; omega)) (.int .i64 0))
    generalize (((w1.setCell ⟨w.heap.size + 2, 0, none⟩ (.int .i64 0)).setCell ⟨w.heap.size + 2, 1, none⟩ (.int .i64 0)).setCell ⟨w.heap.size + 2, 2, none⟩ (.int .i64 0)) = W at *
    have r0 : W.cell? ⟨w.heap.size + 2, 0, none⟩ = some (.int .i64 0) := HK3.out.cell 0
    have r1 : W.cell? ⟨w.heap.size + 2, 1, none⟩ = some (.int .i64 0) := HK3.out.cell 1
    have r2 : W.cell? ⟨w.heap.size + 2, 2, none⟩ = some (.int .i64 0) := HK3.out.cell 2
    refine bodyPost_ret (v := .tuple #[.agg #[.int .i64 0, .int .i64 0, .int .i64 0], .bool false]) (by simp [results, Try.results26, go_sem, r0, r1, r2]) rfl ⟨by rw [HF.out], HB3.out⟩
  rintro e w1 ⟨rfl, b1⟩
  have z1 := b1.size
  clear p0 p1 p2
  replace HK := Lib.hid (HK.out.below b1 (by omega)); replace HP := Lib.hid (HP.out.below b1 (by omega)); replace HI := Lib.hid (HI.out.below b1 (by omega)); replace HB := Lib.hid (HB.out.trans (b1.mono (by omega))); clear b1
  have i0 := HI.out.cell 0; have i1 := HI.out.cell 1
  go_wp2_with fail
  refine (spec_IntervalValid s h _).mono ?_
  cases hi : ivB s h
  · have HF : Hid (aiL a b c s h = ((0, 0, 0), false)) := Lib.hid (if_neg (by rw [hi]; simp))
    rintro e w2 ⟨rfl, b2⟩
    have z2 := b2.size
    clear i0 i1 hv hi
    replace HK := Lib.hid (HK.out.below b2 (by omega)); replace HB := Lib.hid (HB.out.trans (b2.mono (by omega))); clear b2
    have d0 := HK.out.cell 0; have d1 := HK.out.cell 1; have d2 := HK.out.cell 2; have f0 := HK.out.frozen 0; have f1 := HK.out.frozen 1; have f2 := HK.out.frozen 2
    go_wp2_with fail
    have HK3 := Lib.hid (((HK.out.set_ 0 (.int .i64 0)).set_ 1 (.int .i64 0)).set_ 2 (.int .i64 0))
    have HB3 := Lib.hid (Below.setCell (Below.setCell (Below.setCell HB.out (p := ⟨w.heap.size + 2, 0, none⟩) (by first | exact Nat.le_refl _ | exact Nat.le_add_right _ _ | omega | (simp; omega)) (.int .i64 0)) (p := ⟨w.heap.size + 2, 1, none⟩) (by first | exact Nat.le_refl _ | exact Nat.le_add_right _ _ | omega | (simp; omega)) (.int .i64 0)) (p := ⟨w.heap.size + 2, 2, none⟩) (by first | exact Nat.le_refl _ | exact Nat.le_add_right _ _ | omega | (simp; omega)) (.int .i64 0))
    generalize (((w2.setCell ⟨w.heap.size + 2, 0, none⟩ (.int .i64 0)).setCell ⟨w.heap.size + 2, 1, none⟩ (.int .i64 0)).setCell ⟨w.heap.size + 2, 2, none⟩ (.int .i64 0)) = W at *
    have r0 : W.cell? ⟨w.heap.size + 2, 0, none⟩ = some (.int .i64 0) := HK3.out.cell 0
    have r1 : W.cell? ⟨w.heap.size + 2, 1, none⟩ = some (.int .i64 0) := HK3.out.cell 1
    have r2 : W.cell? ⟨w.heap.size + 2, 2, none⟩ = some (.int .i64 0) := HK3.out.cell 2
    refine bodyPost_ret (v := .tuple #[.agg #[.int .i64 0, .int .i64 0, .int .i64 0], .bool false]) (by simp [results, Try.results26, go_sem, r0, r1, r2]) rfl ⟨by rw [HF.out], HB3.out⟩
  rintro e w2 ⟨rfl, b2⟩
  have z2 := b2.size
  clear i0 i1
  replace HK := Lib.hid (HK.out.below b2 (by omega)); replace HP := Lib.hid (HP.out.below b2 (by omega)); replace HI := Lib.hid (HI.out.below b2 (by omega)); replace HB := Lib.hid (HB.out.trans (b2.mono (by omega))); clear b2
  have hpv := pvB_iff.1 hv
  have hiv := ivB_iff.1 hi
  have hkb := pk_bd hv
  have HE : Hid (aiL a b c s h = pwL (7 * c + a + s) (pkL (a, b, c) + h)) := Lib.hid (if_pos ⟨hv, hi⟩)
  have HPP : Hid (ppB a b c = 7 * c + a) := Lib.hid (if_pos hv)
  have HPK : Hid (pkB a b c = pkL (a, b, c)) := Lib.hid (if_pos hv)
  clear hv hi
  have hw1 : IntKind.i64.wrap (7 * c + a + s) = 7 * c + a + s := IntWalk.i64_in _ (by omega)
  have hw2 : IntKind.i64.wrap (pkL (a, b, c) + h) = pkL (a, b, c) + h := IntWalk.i64_in _ (by omega)
  have hpl : -21 ≤ 7 * c + a + s ∧ 7 * c + a + s ≤ 100 := by omega
  have hky : -101 ≤ pkL (a, b, c) + h ∧ pkL (a, b, c) + h ≤ 219 := by omega
  generalize 7 * c + a = pa at *
  generalize pkL (a, b, c) = pk at *
  have p0 := HP.out.cell 0; have p1 := HP.out.cell 1; have p2 := HP.out.cell 2
  have i0 := HI.out.cell 0; have i1 := HI.out.cell 1
  go_upto_region 3 with fail
  replace HP := Lib.hid HP.out.drew; replace HI := Lib.hid HI.out.drew; replace HK := Lib.hid HK.out.drew; replace HB := Lib.hid HB.out.drew; have zd1 : w.heap.size + 3 ≤ w2.drew.heap.size := (show w.heap.size + 3 ≤ w2.heap.size by omega)
  go_region_held3 (fun w' => w'.cell? ⟨w.heap.size, 0, none⟩ = some (.int .i64 a) ∧ w'.cell? ⟨w.heap.size, 1, none⟩ = some (.int .i64 b) ∧ w'.cell? ⟨w.heap.size, 2, none⟩ = some (.int .i64 c) ∧ w'.cell? ⟨w.heap.size + 1, 0, none⟩ = some (.int .i64 s) ∧ w'.cell? ⟨w.heap.size + 1, 1, none⟩ = some (.int .i64 h)) (first | exact ⟨p0, p1, p2, i0, i1⟩ | exact ⟨HP.out.cell 0, HP.out.cell 1, HP.out.cell 2, HI.out.cell 0, HI.out.cell 1⟩)
    (first | (go_at_call 61; refine (spec_PitchPlace a b c _).mono ?_; rw [HPP.out]; rintro e w3 ⟨rfl, b3⟩; have z3 := b3.size; replace HP := Lib.hid (HP.out.below b3 (by omega)); replace HI := Lib.hid (HI.out.below b3 (by omega)); replace HK := Lib.hid (HK.out.below b3 (by omega)); replace HB := Lib.hid (HB.out.trans (b3.mono (by omega))); clear b3))
  clear p0 p1 p2 i0 i1
  by_cases hneg : pa + s < 0
  · have HF : Hid (aiL a b c s h = ((0, 0, 0), false)) := Lib.hid (by rw [HE.out]; exact if_neg (by omega))
    have d0 := HK.out.cell 0; have d1 := HK.out.cell 1; have d2 := HK.out.cell 2; have f0 := HK.out.frozen 0; have f1 := HK.out.frozen 1; have f2 := HK.out.frozen 2
    go_wp2_with fail
    have HK3 := Lib.hid (((HK.out.set_ 0 (.int .i64 0)).set_ 1 (.int .i64 0)).set_ 2 (.int .i64 0))
    have HB3 := Lib.hid (Below.setCell (Below.setCell (Below.setCell HB.out (p := ⟨w.heap.size + 2, 0, none⟩) (by first | exact Nat.le_refl _ | exact Nat.le_add_right _ _ | omega | (simp; omega)) (.int .i64 0)) (p := ⟨w.heap.size + 2, 1, none⟩) (by first | exact Nat.le_refl _ | exact Nat.le_add_right _ _ | omega | (simp; omega)) (.int .i64 0)) (p := ⟨w.heap.size + 2, 2, none⟩) (by first | exact Nat.le_refl _ | exact Nat.le_add_right _ _ | omega | (simp; omega)) (.int .i64 0))
    generalize (((w3.setCell ⟨w.heap.size + 2, 0, none⟩ (.int .i64 0)).setCell ⟨w.heap.size + 2, 1, none⟩ (.int .i64 0)).setCell ⟨w.heap.size + 2, 2, none⟩ (.int .i64 0)) = W at *
    have r0 : W.cell? ⟨w.heap.size + 2, 0, none⟩ = some (.int .i64 0) := HK3.out.cell 0
    have r1 : W.cell? ⟨w.heap.size + 2, 1, none⟩ = some (.int .i64 0) := HK3.out.cell 1
    have r2 : W.cell? ⟨w.heap.size + 2, 2, none⟩ = some (.int .i64 0) := HK3.out.cell 2
    refine bodyPost_ret (v := .tuple #[.agg #[.int .i64 0, .int .i64 0, .int .i64 0], .bool false]) (by simp [results, Try.results26, go_sem, r0, r1, r2]) rfl ⟨by rw [HF.out], HB3.out⟩
  have hp0 : 0 ≤ pa + s := by omega
  have hn := natL_bd hp0
  have hng : decide (pa + s < 0) = false := decide_eq_false hneg
  have hng2 : (0 ≤ pa + s) = True := eq_true hp0
  have hm : (pa + s).tmod 7 = (pa + s) % 7 := Int.tmod_eq_emod_of_nonneg hp0
  have hd7 : (pa + s).tdiv 7 = (pa + s) / 7 := Int.tdiv_eq_ediv_of_nonneg hp0
  have hwd : IntKind.i64.wrap ((pa + s) / 7) = (pa + s) / 7 := IntWalk.i64_in _ (by omega)
  have hv1 : IntKind.i64.wrap (pk + h - natL (pa + s)) = pk + h - natL (pa + s) := IntWalk.i64_in _ (by omega)
  have HEE : Hid (aiL a b c s h = if pvB ((pa + s) % 7) (pk + h - natL (pa + s)) ((pa + s) / 7) = true then (((pa + s) % 7, pk + h - natL (pa + s), (pa + s) / 7), true) else ((0, 0, 0), false)) := Lib.hid (by rw [HE.out]; unfold pwL; simp only [hp0, true_and])
  have p0 := HP.out.cell 0; have p1 := HP.out.cell 1; have p2 := HP.out.cell 2
  have i0 := HI.out.cell 0; have i1 := HI.out.cell 1
  go_upto_region 6 with fail
  refine regionB_draws rfl 50 3 7 14 #[.int .i64 ((pa + s) % 7), .int .i64 (pk + h - natL (pa + s)), .int .i64 ((pa + s) / 7)] 43 [some 25, some 26, some 27, some 28, some 29, some 30, some 31, some 32, some 33, some 34, some 35, some 36, some 37, some 7, none]
    [FEq (.int .i64 (pa + s)), FEq (.int .i64 ((pa + s) % 7)), FEq (.int .i64 (pa + s)), FEq (.int .i64 ((pa + s) / 7)), FEq (.agg #[.int .i64 a, .int .i64 b, .int .i64 c]), FEq (.int .i64 (pk)), FEq (.pointer (some ⟨w.heap.size + 1, 1, none⟩)), FEq (.int .i64 (h)), FEq (.int .i64 (pk + h)), FEq (.int .i64 (pa + s)), FEq (.int .i64 (natL (pa + s))), FEq (.int .i64 (pk + h - natL (pa + s))), FEq (.agg #[.int .i64 ((pa + s) % 7), .int .i64 (pk + h - natL (pa + s)), .int .i64 ((pa + s) / 7)]), FBox w3.heap.size 50 3, FAny] (by kernel_rfl) (by kernel_rfl) (by decide) ?_ ?_ ?_
  · exact stayBs_cons stayB_eq (stayBs_cons stayB_eq (stayBs_cons stayB_eq (stayBs_cons stayB_eq (stayBs_cons stayB_eq (stayBs_cons stayB_eq (stayBs_cons stayB_eq (stayBs_cons stayB_eq (stayBs_cons stayB_eq (stayBs_cons stayB_eq (stayBs_cons stayB_eq (stayBs_cons stayB_eq (stayBs_cons stayB_eq (stayBs_cons stayB_box (stayBs_cons stayB_any stayBs_nil))))))))))))))
  · refine AllI.cons ?_ (AllI.cons ?_ (AllI.cons ?_ (AllI.cons ?_ (AllI.cons ?_ (AllI.cons ?_ (AllI.cons ?_ (AllI.cons ?_ (AllI.cons ?_ (AllI.cons ?_ (AllI.cons ?_ (AllI.cons ?_ (AllI.cons ?_ (AllI.cons ?_ (AllI.cons ?_ trivial))))))))))))))
    · intro kk bb ff ww hkk hf hd hp hq hJ0
      refine .inl ⟨wanted_none rfl, ?_⟩
      have hJ := hJ0.1
      have hb9 : bb = false := hp [] (by kernel_rfl)
      have q : FEq (.int .i64 (pa + s)) (ff 6) ww := (hf 6 (by decide)).trans rfl
      exact sb_val (ff 6) hJ (by simp only [execOp, ev_tmp _ _ (show 6 < 43 by decide)]; rfl) q
    · intro kk bb ff ww hkk hf hd hp hq hJ0
      refine .inl ⟨wanted_none rfl, ?_⟩
      obtain ⟨p0, -⟩ := hd
      have hJ := hJ0.1
      have hb9 : bb = false := hp [] (by kernel_rfl)
      have q25 : FEq (.int .i64 (pa + s)) (ff 25) ww := p0 rfl
      unfold FEq at q25
      refine sb_val (.int .i64 ((pa + s) % 7)) hJ ?_ rfl
      simp only [execOp, ev_tmp _ _ (show 25 < 43 by decide), ev_const, q25]
      simp [go_sem, hm]
    · intro kk bb ff ww hkk hf hd hp hq hJ0
      refine .inl ⟨wanted_none rfl, ?_⟩
      have hJ := hJ0.1
      have hb9 : bb = false := hp [] (by kernel_rfl)
      have q : FEq (.int .i64 (pa + s)) (ff 6) ww := (hf 6 (by decide)).trans rfl
      exact sb_val (ff 6) hJ (by simp only [execOp, ev_tmp _ _ (show 6 < 43 by decide)]; rfl) q
    · intro kk bb ff ww hkk hf hd hp hq hJ0
      refine .inl ⟨wanted_none rfl, ?_⟩
      obtain ⟨p0, -⟩ := hd
      have hJ := hJ0.1
      have hb9 : bb = false := hp [] (by kernel_rfl)
      have q27 : FEq (.int .i64 (pa + s)) (ff 27) ww := p0 rfl
      unfold FEq at q27
      refine sb_val (.int .i64 ((pa + s) / 7)) hJ ?_ rfl
      simp only [execOp, ev_tmp _ _ (show 27 < 43 by decide), ev_const, q27]
      simp [go_sem, hd7, hwd]
    · intro kk bb ff ww hkk hf hd hp hq hJ0
      refine .inl ⟨wanted_none rfl, ?_⟩
      have hJ := hJ0.1
      have hb9 : bb = false := hp [] (by kernel_rfl)
      have q2 : FEq (.pointer (some ⟨w.heap.size, 0, none⟩)) (ff 2) ww := (hf 2 (by decide)).trans rfl
      unfold FEq at q2
      have c0 : ww.cell? ⟨w.heap.size, 0, none⟩ = some (.int .i64 a) := (hJ.cell (p := ⟨w.heap.size, 0, none⟩) (show w.heap.size < _ by omega)).trans p0
      have c1 : ww.cell? ⟨w.heap.size, 1, none⟩ = some (.int .i64 b) := (hJ.cell (p := ⟨w.heap.size, 1, none⟩) (show w.heap.size < _ by omega)).trans p1
      have c2 : ww.cell? ⟨w.heap.size, 2, none⟩ = some (.int .i64 c) := (hJ.cell (p := ⟨w.heap.size, 2, none⟩) (show w.heap.size < _ by omega)).trans p2
      refine sb_val (.agg #[.int .i64 a, .int .i64 b, .int .i64 c]) hJ ?_ rfl
      simp only [execOp, ev_tmp _ _ (show 2 < 43 by decide), ev_const, q2]
      simp [go_sem, c0, c1, c2]
    · intro kk bb ff ww hkk hf hd hp hq hJ0
      refine .inl ⟨wanted_none rfl, ?_⟩
      obtain ⟨p0, -⟩ := hd
      have hJ := hJ0.1
      have hb9 : bb = false := hp [] (by kernel_rfl)
      have q29 : FEq (.agg #[.int .i64 a, .int .i64 b, .int .i64 c]) (ff 29) ww := p0 rfl
      unfold FEq at q29
      refine sb_enter 62 #[.agg #[.int .i64 a, .int .i64 b, .int .i64 c]] hJ ?_ ?_
      · simp only [execOp, ev_tmp _ _ (show 29 < 43 by decide), ev_const, q29, ev_func, resolve, List.map_toArray, List.map_cons, List.map_nil]
        simp [go_sem]
      · skip
        have h := retI_post (spec_PitchKey a b c ww)
        rw [HPK.out] at h
        exact h
    · intro kk bb ff ww hkk hf hd hp hq hJ0
      refine .inl ⟨wanted_none rfl, ?_⟩
      have hJ := hJ0.1
      have hb9 : bb = false := hp [] (by kernel_rfl)
      have q3 : FEq (.pointer (some ⟨w.heap.size + 1, 0, none⟩)) (ff 3) ww := (hf 3 (by decide)).trans rfl
      unfold FEq at q3
      refine sb_val (.pointer (some ⟨w.heap.size + 1, 1, none⟩)) hJ ?_ rfl
      simp only [execOp, ev_tmp _ _ (show 3 < 43 by decide), ev_const, q3]
      simp [go_sem]
    · intro kk bb ff ww hkk hf hd hp hq hJ0
      refine .inl ⟨wanted_none rfl, ?_⟩
      obtain ⟨p0, -⟩ := hd
      have hJ := hJ0.1
      have hb9 : bb = false := hp [] (by kernel_rfl)
      have q31 : FEq (.pointer (some ⟨w.heap.size + 1, 1, none⟩)) (ff 31) ww := p0 rfl
      unfold FEq at q31
      have c1 : ww.cell? ⟨w.heap.size + 1, 1, none⟩ = some (.int .i64 h) := (hJ.cell (p := ⟨w.heap.size + 1, 1, none⟩) (show w.heap.size + 1 < _ by omega)).trans i1
      refine sb_val (.int .i64 h) hJ ?_ rfl
      simp only [execOp, ev_tmp _ _ (show 31 < 43 by decide), ev_const, q31]
      simp [go_sem, c1]
    · intro kk bb ff ww hkk hf hd hp hq hJ0
      refine .inl ⟨wanted_none rfl, ?_⟩
      obtain ⟨p0, p1, -⟩ := hd
      have hJ := hJ0.1
      have hb9 : bb = false := hp [] (by kernel_rfl)
      have q30 : FEq (.int .i64 (pk)) (ff 30) ww := p0 rfl
      unfold FEq at q30
      have q32 : FEq (.int .i64 (h)) (ff 32) ww := p1 rfl
      unfold FEq at q32
      refine sb_val (.int .i64 (pk + h)) hJ ?_ rfl
      simp only [execOp, ev_tmp _ _ (show 30 < 43 by decide), ev_tmp _ _ (show 32 < 43 by decide), ev_const, q30, q32]
      simp [go_sem, hw2]
    · intro kk bb ff ww hkk hf hd hp hq hJ0
      refine .inl ⟨wanted_none rfl, ?_⟩
      have hJ := hJ0.1
      have hb9 : bb = false := hp [] (by kernel_rfl)
      have q : FEq (.int .i64 (pa + s)) (ff 6) ww := (hf 6 (by decide)).trans rfl
      exact sb_val (ff 6) hJ (by simp only [execOp, ev_tmp _ _ (show 6 < 43 by decide)]; rfl) q
    · intro kk bb ff ww hkk hf hd hp hq hJ0
      refine .inl ⟨wanted_none rfl, ?_⟩
      obtain ⟨p0, p1, -⟩ := hd
      have hJ := hJ0.1
      have hb9 : bb = false := hp [] (by kernel_rfl)
      have q34 : FEq (.int .i64 (pa + s)) (ff 34) ww := p0 rfl
      unfold FEq at q34
      refine sb_enter 45 #[.int .i64 (pa + s)] hJ ?_ ?_
      · simp only [execOp, ev_tmp _ _ (show 34 < 43 by decide), ev_const, q34, ev_func, resolve, List.map_toArray, List.map_cons, List.map_nil]
        simp [go_sem]
      · skip
        exact retI_post (spec_l1NaturalW (pa + s) ww (by omega) (by omega))
    · intro kk bb ff ww hkk hf hd hp hq hJ0
      refine .inl ⟨wanted_none rfl, ?_⟩
      obtain ⟨p0, p1, -⟩ := hd
      have hJ := hJ0.1
      have hb9 : bb = false := hp [] (by kernel_rfl)
      have q33 : FEq (.int .i64 (pk + h)) (ff 33) ww := p0 rfl
      unfold FEq at q33
      have q35 : FEq (.int .i64 (natL (pa + s))) (ff 35) ww := p1 rfl
      unfold FEq at q35
      refine sb_val (.int .i64 (pk + h - natL (pa + s))) hJ ?_ rfl
      simp only [execOp, ev_tmp _ _ (show 33 < 43 by decide), ev_tmp _ _ (show 35 < 43 by decide), ev_const, q33, q35]
      simp [go_sem, hv1]
    · intro kk bb ff ww hkk hf hd hp hq hJ0
      refine .inl ⟨wanted_none rfl, ?_⟩
      obtain ⟨p0, p1, p2, -⟩ := hd
      have hJ := hJ0.1
      have hb9 : bb = false := hp [] (by kernel_rfl)
      have q26 : FEq (.int .i64 ((pa + s) % 7)) (ff 26) ww := p0 rfl
      unfold FEq at q26
      have q28 : FEq (.int .i64 ((pa + s) / 7)) (ff 28) ww := p1 rfl
      unfold FEq at q28
      have q36 : FEq (.int .i64 (pk + h - natL (pa + s))) (ff 36) ww := p2 rfl
      unfold FEq at q36
      refine sb_val (.agg #[.int .i64 ((pa + s) % 7), .int .i64 (pk + h - natL (pa + s)), .int .i64 ((pa + s) / 7)]) hJ ?_ rfl
      simp only [execOp, ev_tmp _ _ (show 26 < 43 by decide), ev_tmp _ _ (show 28 < 43 by decide), ev_tmp _ _ (show 36 < 43 by decide), ev_const, q26, q28, q36, List.map_toArray, List.map_cons, List.map_nil]
      simp [go_sem]
    · intro kk bb ff ww hkk hf hd hp hq hJ0
      refine .inl ⟨wanted_none rfl, ?_⟩
      have hJ := hJ0.1
      have hb9 : bb = false := hp [] (by kernel_rfl)
      refine sb_alloc (.pointer (some ⟨ww.heap.size, 0, none⟩)) (.cells #[.int .i64 0, .int .i64 0, .int .i64 0] 50) hJ ?_ ⟨_, _, rfl, hJ.size, Blk.new _ _ _, rfl⟩
      simp only [execOp]
      simp [go_sem]
    · intro kk bb ff ww hkk hf hd hp hq hJ0
      refine .inl ⟨wanted_none rfl, ?_⟩
      obtain ⟨p0, p1, p2, p3, p4, p5, p6, p7, p8, p9, p10, p11, p12, p13, p14, p15, p16, -⟩ := hd
      have hJ := hJ0.1
      have q37 : FEq (.agg #[.int .i64 ((pa + s) % 7), .int .i64 (pk + h - natL (pa + s)), .int .i64 ((pa + s) / 7)]) (ff 37) ww := p1 rfl
      unfold FEq at q37
      have q7 : FBox w3.heap.size 50 3 (ff 7) ww := p0 rfl
      obtain ⟨g, cs, q7, hlo, hb, hsz⟩ := q7
      obtain ⟨d0, d1, d2, rfl⟩ := arr3 hsz
      have c0 : ww.cell? ⟨g, 0, none⟩ = some d0 := hb.cell 0
      have f0 := hb.frozen 0
      have c1 : ww.cell? ⟨g, 1, none⟩ = some d1 := hb.cell 1
      have f1 := hb.frozen 1
      have c2 : ww.cell? ⟨g, 2, none⟩ = some d2 := hb.cell 2
      have f2 := hb.frozen 2
      refine sb_store g (((ww.setCell ⟨g, 0, none⟩ (.int .i64 ((pa + s) % 7))).setCell ⟨g, 1, none⟩ (.int .i64 (pk + h - natL (pa + s)))).setCell ⟨g, 2, none⟩ (.int .i64 ((pa + s) / 7))) rfl rfl q7 hlo rfl hJ ?_ (((hb.set_ 0 (.int .i64 ((pa + s) % 7))).set_ 1 (.int .i64 (pk + h - natL (pa + s)))).set_ 2 (.int .i64 ((pa + s) / 7))) (fun j hj => by simp [Below.heap_setCell, hj, Ne.symm hj]) rfl rfl rfl (by simp [World.setCell]) trivial
      simp only [execOp, ev_tmp _ _ (show 37 < 43 by decide), ev_tmp _ _ (show 7 < 43 by decide), ev_const, q37, q7]
      simp [go_sem, c0, f0, c1, f1, c2, f2]
  intro ff w5 hf hd hX hJ
  obtain ⟨gb_, qx_, lb_, kb_⟩ := hX
  have hfr : fr 43 ff = #[ff 0, ff 1, ff 2, ff 3, ff 4, ff 5, ff 6, ff 7, ff 8, ff 9, ff 10, ff 11, ff 12, ff 13, ff 14, ff 15, ff 16, ff 17, ff 18, ff 19, ff 20, ff 21, ff 22, ff 23, ff 24, ff 25, ff 26, ff 27, ff 28, ff 29, ff 30, ff 31, ff 32, ff 33, ff 34, ff 35, ff 36, ff 37, ff 38, ff 39, ff 40, ff 41, ff 42] := rfl
  rw [hfr]; clear hfr
  dsimp only
  have q0_ := hf 0 (by decide)
  have q1_ := hf 1 (by decide)
  have q2_ := hf 2 (by decide)
  have q3_ := hf 3 (by decide)
  have q4_ := hf 4 (by decide)
  have q5_ := hf 5 (by decide)
  have q6_ := hf 6 (by decide)
  have q8_ := hf 8 (by decide)
  have q9_ := hf 9 (by decide)
  have q10_ := hf 10 (by decide)
  have q11_ := hf 11 (by decide)
  have q12_ := hf 12 (by decide)
  have q13_ := hf 13 (by decide)
  have q14_ := hf 14 (by decide)
  have q15_ := hf 15 (by decide)
  have q16_ := hf 16 (by decide)
  have q17_ := hf 17 (by decide)
  have q18_ := hf 18 (by decide)
  have q19_ := hf 19 (by decide)
  have q20_ := hf 20 (by decide)
  have q21_ := hf 21 (by decide)
  have q22_ := hf 22 (by decide)
  have q23_ := hf 23 (by decide)
  have q24_ := hf 24 (by decide)
  have q25_ : FEq (.int .i64 (pa + s)) (ff 25) w5 := hd 0 (by decide)
  unfold FEq at q25_
  have q26_ : FEq (.int .i64 ((pa + s) % 7)) (ff 26) w5 := hd 1 (by decide)
  unfold FEq at q26_
  have q27_ : FEq (.int .i64 (pa + s)) (ff 27) w5 := hd 2 (by decide)
  unfold FEq at q27_
  have q28_ : FEq (.int .i64 ((pa + s) / 7)) (ff 28) w5 := hd 3 (by decide)
  unfold FEq at q28_
  have q29_ : FEq (.agg #[.int .i64 a, .int .i64 b, .int .i64 c]) (ff 29) w5 := hd 4 (by decide)
  unfold FEq at q29_
  have q30_ : FEq (.int .i64 (pk)) (ff 30) w5 := hd 5 (by decide)
  unfold FEq at q30_
  have q31_ : FEq (.pointer (some ⟨w.heap.size + 1, 1, none⟩)) (ff 31) w5 := hd 6 (by decide)
  unfold FEq at q31_
  have q32_ : FEq (.int .i64 (h)) (ff 32) w5 := hd 7 (by decide)
  unfold FEq at q32_
  have q33_ : FEq (.int .i64 (pk + h)) (ff 33) w5 := hd 8 (by decide)
  unfold FEq at q33_
  have q34_ : FEq (.int .i64 (pa + s)) (ff 34) w5 := hd 9 (by decide)
  unfold FEq at q34_
  have q35_ : FEq (.int .i64 (natL (pa + s))) (ff 35) w5 := hd 10 (by decide)
  unfold FEq at q35_
  have q36_ : FEq (.int .i64 (pk + h - natL (pa + s))) (ff 36) w5 := hd 11 (by decide)
  unfold FEq at q36_
  have q37_ : FEq (.agg #[.int .i64 ((pa + s) % 7), .int .i64 (pk + h - natL (pa + s)), .int .i64 ((pa + s) / 7)]) (ff 37) w5 := hd 12 (by decide)
  unfold FEq at q37_
  have q38_ := hf 38 (by decide)
  have q39_ := hf 39 (by decide)
  have q40_ := hf 40 (by decide)
  have q41_ := hf 41 (by decide)
  have q42_ := hf 42 (by decide)
  simp only [Array.getD_eq_getD_getElem?, List.getElem?_toArray, List.getElem?_cons_zero, List.getElem?_cons_succ, Option.getD_some] at q0_ q1_ q2_ q3_ q4_ q5_ q6_ q8_ q9_ q10_ q11_ q12_ q13_ q14_ q15_ q16_ q17_ q18_ q19_ q20_ q21_ q22_ q23_ q24_ q38_ q39_ q40_ q41_ q42_
  rw [q0_, q1_, q2_, q3_, q4_, q5_, q6_, qx_, q8_, q9_, q10_, q11_, q12_, q13_, q14_, q15_, q16_, q17_, q18_, q19_, q20_, q21_, q22_, q23_, q24_, q25_, q26_, q27_, q28_, q29_, q30_, q31_, q32_, q33_, q34_, q35_, q36_, q37_, q38_, q39_, q40_, q41_, q42_]
  clear q0_ q1_ q2_ q3_ q4_ q5_ q6_ qx_ q8_ q9_ q10_ q11_ q12_ q13_ q14_ q15_ q16_ q17_ q18_ q19_ q20_ q21_ q22_ q23_ q24_ q25_ q26_ q27_ q28_ q29_ q30_ q31_ q32_ q33_ q34_ q35_ q36_ q37_ q38_ q39_ q40_ q41_ q42_ hf hd
  clear ff
  have b_ : Below _ _ w5 := hJ
  clear hJ
  have z5 := b_.size
  clear p0 p1 p2 i0 i1
  replace HK := Lib.hid (HK.out.below b_ (by omega)); replace HB := Lib.hid (HB.out.trans (b_.mono (by omega)))
  have HQ := Lib.hid kb_
  have hgb := HQ.out.lt
  have hgc : w.heap.size + 2 < gb_ := by omega
  clear b_ kb_ HP HI hm hd7 hwd hv1 hw1 hw2 hn HPP HPK HE hpl hky
  generalize (pa + s) % 7 = x1 at *
  generalize pk + h - natL (pa + s) = x2 at *
  generalize (pa + s) / 7 = x3 at *
  have q0 := HQ.out.cell 0; have q1 := HQ.out.cell 1; have q2 := HQ.out.cell 2
  go_wp2_with fail
  refine (spec_PitchValid x1 x2 x3 _).mono ?_
  cases hv : pvB x1 x2 x3
  · have HF : Hid (aiL a b c s h = ((0, 0, 0), false)) := Lib.hid (by rw [HEE.out, hv]; rfl)
    rintro e w6 ⟨rfl, b6⟩
    have zz := b6.size
    clear q0 q1 q2 hv
    replace HK := Lib.hid (HK.out.below b6 (by omega)); replace HQ := Lib.hid (HQ.out.below b6 hgb); replace HB := Lib.hid (HB.out.trans (b6.mono (by omega))); clear b6
    have q0 := HQ.out.cell 0; have q1 := HQ.out.cell 1; have q2 := HQ.out.cell 2
    have d0 := HK.out.cell 0; have d1 := HK.out.cell 1; have d2 := HK.out.cell 2; have f0 := HK.out.frozen 0; have f1 := HK.out.frozen 1; have f2 := HK.out.frozen 2
    go_wp2_with fail
    have HK3 := Lib.hid (((HK.out.set_ 0 (.int .i64 0)).set_ 1 (.int .i64 0)).set_ 2 (.int .i64 0))
    have HB3 := Lib.hid (Below.setCell (Below.setCell (Below.setCell HB.out (p := ⟨w.heap.size + 2, 0, none⟩) (by first | exact Nat.le_refl _ | exact Nat.le_add_right _ _ | omega | (simp; omega)) (.int .i64 0)) (p := ⟨w.heap.size + 2, 1, none⟩) (by first | exact Nat.le_refl _ | exact Nat.le_add_right _ _ | omega | (simp; omega)) (.int .i64 0)) (p := ⟨w.heap.size + 2, 2, none⟩) (by first | exact Nat.le_refl _ | exact Nat.le_add_right _ _ | omega | (simp; omega)) (.int .i64 0))
    generalize (((w6.setCell ⟨w.heap.size + 2, 0, none⟩ (.int .i64 0)).setCell ⟨w.heap.size + 2, 1, none⟩ (.int .i64 0)).setCell ⟨w.heap.size + 2, 2, none⟩ (.int .i64 0)) = W at *
    have r0 : W.cell? ⟨w.heap.size + 2, 0, none⟩ = some (.int .i64 0) := HK3.out.cell 0
    have r1 : W.cell? ⟨w.heap.size + 2, 1, none⟩ = some (.int .i64 0) := HK3.out.cell 1
    have r2 : W.cell? ⟨w.heap.size + 2, 2, none⟩ = some (.int .i64 0) := HK3.out.cell 2
    refine bodyPost_ret (v := .tuple #[.agg #[.int .i64 0, .int .i64 0, .int .i64 0], .bool false]) (by simp [results, Try.results26, go_sem, r0, r1, r2]) rfl ⟨by rw [HF.out], HB3.out⟩
  · have HF : Hid (aiL a b c s h = ((x1, x2, x3), true)) := Lib.hid (by rw [HEE.out, hv]; rfl)
    rintro e w6 ⟨rfl, b6⟩
    have zz := b6.size
    clear q0 q1 q2 hv
    replace HK := Lib.hid (HK.out.below b6 (by omega)); replace HQ := Lib.hid (HQ.out.below b6 hgb); replace HB := Lib.hid (HB.out.trans (b6.mono (by omega))); clear b6
    have q0 := HQ.out.cell 0; have q1 := HQ.out.cell 1; have q2 := HQ.out.cell 2
    have d0 := HK.out.cell 0; have d1 := HK.out.cell 1; have d2 := HK.out.cell 2; have f0 := HK.out.frozen 0; have f1 := HK.out.frozen 1; have f2 := HK.out.frozen 2
    go_wp2_with fail
    have HK3 := Lib.hid (((HK.out.set_ 0 (.int .i64 x1)).set_ 1 (.int .i64 x2)).set_ 2 (.int .i64 x3))
    have HB3 := Lib.hid (Below.setCell (Below.setCell (Below.setCell HB.out (p := ⟨w.heap.size + 2, 0, none⟩) (by first | exact Nat.le_refl _ | exact Nat.le_add_right _ _ | omega | (simp; omega)) (.int .i64 x1)) (p := ⟨w.heap.size + 2, 1, none⟩) (by first | exact Nat.le_refl _ | exact Nat.le_add_right _ _ | omega | (simp; omega)) (.int .i64 x2)) (p := ⟨w.heap.size + 2, 2, none⟩) (by first | exact Nat.le_refl _ | exact Nat.le_add_right _ _ | omega | (simp; omega)) (.int .i64 x3))
    generalize (((w6.setCell ⟨w.heap.size + 2, 0, none⟩ (.int .i64 x1)).setCell ⟨w.heap.size + 2, 1, none⟩ (.int .i64 x2)).setCell ⟨w.heap.size + 2, 2, none⟩ (.int .i64 x3)) = W at *
    have r0 : W.cell? ⟨w.heap.size + 2, 0, none⟩ = some (.int .i64 x1) := HK3.out.cell 0
    have r1 : W.cell? ⟨w.heap.size + 2, 1, none⟩ = some (.int .i64 x2) := HK3.out.cell 1
    have r2 : W.cell? ⟨w.heap.size + 2, 2, none⟩ = some (.int .i64 x3) := HK3.out.cell 2
    refine bodyPost_ret (v := .tuple #[.agg #[.int .i64 x1, .int .i64 x2, .int .i64 x3], .bool true]) (by simp [results, Try.results26, go_sem, r0, r1, r2]) rfl ⟨by rw [HF.out], HB3.out⟩
end Go.Proofs.Ytnkoijkelcjloaa
