/- Contracts of SongShift, of the program and of the reference. Condition: at most 2^20 tempos, voices, notes of a voice. -/
import Derived.Test.YtnkoijkelcjloaaShv
import Derived.Test.YtnkoijkelcjloaaVgO
import Derived.Test.YtnkoijkelcjloaaInvC
import Derived.Deep.RegionHeld3
import Derived.Test.YtnkoijkelcjloaaSng
import Derived.Deep.Cut
import Derived.Deep.RegionLaw
namespace Go.Proofs.Ytnkoijkelcjloaa
open Go.RowKit
set_option linter.unusedSimpArgs false
set_option linter.unusedVariables false
set_option maxRecDepth 100000
set_option maxHeartbeats 3000000 in
theorem spec_SongShift (f : Int) (m : Bool) (b u : Int) (C A : Option Addr) (d c : Nat) (ts : List (Int × Int)) (vs : List (List Nt)) (s h : Int) (w : World) (hT : RdTempo w w.heap.size C ts) (hV : RdVs w w.heap.size A vs) (hlt : ts.length ≤ 1048576) (hlv : LenV vs) :
    Calls Try.prog 6 #[.agg #[.int .i64 f, .bool m, .int .i64 b, .int .i64 u, .slice C ts.length d, .slice A vs.length c], .agg #[.int .i64 s, .int .i64 h]] w (RetSS w (ssL f m b u ts vs s h) (ssB f m b u ts vs s h)) := by
  obtain ⟨i0, hi, hz0, hz1, hz2⟩ := info_parts infoTempo
  have HI := Lib.hid hi; have H0 := Lib.hid hz0; have H1 := Lib.hid hz1; have H2 := Lib.hid hz2; clear hi hz0 hz1 hz2
  obtain ⟨i9, hi, hz0, hz1, hz2⟩ := info_parts info_hdN
  have GI := Lib.hid hi; have G0 := Lib.hid hz0; have G1 := Lib.hid hz1; have G2 := Lib.hid hz2; clear hi hz0 hz1 hz2
  have HT := Lib.hid hT; have HVS := Lib.hid hV; clear hT hV
  have HS := Lib.hid (((Blk.new w 28 #[.int .i64 f, .bool m, .int .i64 b, .int .i64 u, .slice C ts.length d, .slice A vs.length c]).alloc (.cells #[.int .i64 s, .int .i64 h] 30)).alloc (.cells #[.int .i64 0, .bool false, .int .i64 0, .int .i64 0, .slice none 0 0, .slice none 0 0] 28))
  have HV : Hid (Blk (((w.alloc (.cells #[.int .i64 f, .bool m, .int .i64 b, .int .i64 u, .slice C ts.length d, .slice A vs.length c] 28)).alloc (.cells #[.int .i64 s, .int .i64 h] 30)).alloc (.cells #[.int .i64 0, .bool false, .int .i64 0, .int .i64 0, .slice none 0 0, .slice none 0 0] 28)) (w.heap.size + 1) 30 #[.int .i64 s, .int .i64 h]) := by
    have h9 := (Blk.new (w.alloc (.cells #[.int .i64 f, .bool m, .int .i64 b, .int .i64 u, .slice C ts.length d, .slice A vs.length c] 28)) 30 #[.int .i64 s, .int .i64 h]).alloc (.cells #[.int .i64 0, .bool false, .int .i64 0, .int .i64 0, .slice none 0 0, .slice none 0 0] 28)
    rw [World.size_alloc] at h9
    exact Lib.hid h9
  have HZ : Hid (Blk (((w.alloc (.cells #[.int .i64 f, .bool m, .int .i64 b, .int .i64 u, .slice C ts.length d, .slice A vs.length c] 28)).alloc (.cells #[.int .i64 s, .int .i64 h] 30)).alloc (.cells #[.int .i64 0, .bool false, .int .i64 0, .int .i64 0, .slice none 0 0, .slice none 0 0] 28)) (w.heap.size + 2) 28 #[.int .i64 0, .bool false, .int .i64 0, .int .i64 0, .slice none 0 0, .slice none 0 0]) := by
    have h9 := Blk.new ((w.alloc (.cells #[.int .i64 f, .bool m, .int .i64 b, .int .i64 u, .slice C ts.length d, .slice A vs.length c] 28)).alloc (.cells #[.int .i64 s, .int .i64 h] 30)) 28 #[.int .i64 0, .bool false, .int .i64 0, .int .i64 0, .slice none 0 0, .slice none 0 0]
    rw [World.size_alloc, World.size_alloc] at h9
    exact Lib.hid h9
  have HB := Lib.hid ((((Below.refl w.heap.size w).alloc (Nat.le_refl _) (.cells #[.int .i64 f, .bool m, .int .i64 b, .int .i64 u, .slice C ts.length d, .slice A vs.length c] 28)).alloc (by simp) (.cells #[.int .i64 s, .int .i64 h] 30)).alloc (by simp; omega) (.cells #[.int .i64 0, .bool false, .int .i64 0, .int .i64 0, .slice none 0 0, .slice none 0 0] 28))
  have z0 : w.heap.size + 3 ≤ (((w.alloc (.cells #[.int .i64 f, .bool m, .int .i64 b, .int .i64 u, .slice C ts.length d, .slice A vs.length c] 28)).alloc (.cells #[.int .i64 s, .int .i64 h] 30)).alloc (.cells #[.int .i64 0, .bool false, .int .i64 0, .int .i64 0, .slice none 0 0, .slice none 0 0] 28)).heap.size := by simp
  go_enter Try.func6, Try.ntmps6
  go_upto_region 1 with fail
  generalize (((w.alloc (.cells #[.int .i64 f, .bool m, .int .i64 b, .int .i64 u, .slice C ts.length d, .slice A vs.length c] 28)).alloc (.cells #[.int .i64 s, .int .i64 h] 30)).alloc (.cells #[.int .i64 0, .bool false, .int .i64 0, .int .i64 0, .slice none 0 0, .slice none 0 0] 28)) = w0 at *
  have c0 := HS.out.cell 0; have c1 := HS.out.cell 1; have c2 := HS.out.cell 2; have c3 := HS.out.cell 3; have c4 := HS.out.cell 4; have c5 := HS.out.cell 5
  go_wp2_with fail
  refine (spec_SongValid f m b u _ _ _ _ ts vs _ (RdTempo.more (RdTempo.below HT.out HB.out (Nat.le_refl _)) HB.out.size) (RdVs.more (RdVs.below HVS.out HB.out (Nat.le_refl _)) HB.out.size) hlt hlv).mono ?_
  clear c0 c1 c2 c3 c4 c5
  cases hv : svB f b u ts vs
  · have HF : Hid (ssB f m b u ts vs s h = false) := Lib.hid (ssB_no (.inl hv)); clear hv
    rintro e w1 ⟨rfl, b1⟩
    have z1 := b1.size
    replace HS := Lib.hid (HS.out.below b1 (by omega)); replace HV := Lib.hid (HV.out.below b1 (by omega)); replace HZ := Lib.hid (HZ.out.below b1 (by omega)); replace HB := Lib.hid (HB.out.trans (b1.mono (by omega))); clear b1
    have d0 := HZ.out.cell 0; have f0 := HZ.out.frozen 0; have d1 := HZ.out.cell 1; have f1 := HZ.out.frozen 1; have d2 := HZ.out.cell 2; have f2 := HZ.out.frozen 2; have d3 := HZ.out.cell 3; have f3 := HZ.out.frozen 3; have d4 := HZ.out.cell 4; have f4 := HZ.out.frozen 4; have d5 := HZ.out.cell 5; have f5 := HZ.out.frozen 5
    go_wp2_with fail
    have HB3 := Lib.hid (Below.setCell (Below.setCell (Below.setCell (Below.setCell (Below.setCell (Below.setCell HB.out (p := ⟨w.heap.size + 2, 0, none⟩) (by first | exact Nat.le_refl _ | exact Nat.le_add_right _ _ | omega | (simp; omega)) (.int .i64 0)) (p := ⟨w.heap.size + 2, 1, none⟩) (by first | exact Nat.le_refl _ | exact Nat.le_add_right _ _ | omega | (simp; omega)) (.bool false)) (p := ⟨w.heap.size + 2, 2, none⟩) (by first | exact Nat.le_refl _ | exact Nat.le_add_right _ _ | omega | (simp; omega)) (.int .i64 0)) (p := ⟨w.heap.size + 2, 3, none⟩) (by first | exact Nat.le_refl _ | exact Nat.le_add_right _ _ | omega | (simp; omega)) (.int .i64 0)) (p := ⟨w.heap.size + 2, 4, none⟩) (by first | exact Nat.le_refl _ | exact Nat.le_add_right _ _ | omega | (simp; omega)) (.slice none 0 0)) (p := ⟨w.heap.size + 2, 5, none⟩) (by first | exact Nat.le_refl _ | exact Nat.le_add_right _ _ | omega | (simp; omega)) (.slice none 0 0))
    have HZ3 := Lib.hid ((((((HZ.out.set_ 0 (.int .i64 0)).set_ 1 (.bool false)).set_ 2 (.int .i64 0)).set_ 3 (.int .i64 0)).set_ 4 (.slice none 0 0)).set_ 5 (.slice none 0 0))
    clear d0 f0 d1 f1 d2 f2 d3 f3 d4 f4 d5 f5
    generalize ((((((w1.setCell ⟨w.heap.size + 2, 0, none⟩ (.int .i64 0)).setCell ⟨w.heap.size + 2, 1, none⟩ (.bool false)).setCell ⟨w.heap.size + 2, 2, none⟩ (.int .i64 0)).setCell ⟨w.heap.size + 2, 2 + 1, none⟩ (.int .i64 0)).setCell ⟨w.heap.size + 2, 4, none⟩ (.slice none 0 0)).setCell ⟨w.heap.size + 2, 5, none⟩ (.slice none 0 0)) = W9 at *
    have r0 : W9.cell? ⟨w.heap.size + 2, 0, none⟩ = some (.int .i64 0) := HZ3.out.cell 0
    have r1 : W9.cell? ⟨w.heap.size + 2, 1, none⟩ = some (.bool false) := HZ3.out.cell 1
    have r2 : W9.cell? ⟨w.heap.size + 2, 2, none⟩ = some (.int .i64 0) := HZ3.out.cell 2
    have r3 : W9.cell? ⟨w.heap.size + 2, 3, none⟩ = some (.int .i64 0) := HZ3.out.cell 3
    have r4 : W9.cell? ⟨w.heap.size + 2, 4, none⟩ = some (.slice none 0 0) := HZ3.out.cell 4
    have r5 : W9.cell? ⟨w.heap.size + 2, 5, none⟩ = some (.slice none 0 0) := HZ3.out.cell 5
    refine bodyPost_ret (v := .tuple #[.agg #[.int .i64 0, .bool false, .int .i64 0, .int .i64 0, .slice none 0 0, .slice none 0 0], .bool false]) (by simp [results, Try.results6, go_sem, r0, r1, r2, r3, r4, r5]) rfl ?_
    rw [ssL_no HF.out, HF.out]; exact retSS_zero HB3.out
  rintro e w1 ⟨rfl, b1⟩
  have z1 := b1.size
  replace HS := Lib.hid (HS.out.below b1 (by omega)); replace HV := Lib.hid (HV.out.below b1 (by omega)); replace HZ := Lib.hid (HZ.out.below b1 (by omega)); replace HB := Lib.hid (HB.out.trans (b1.mono (by omega))); clear b1
  have HVV := Lib.hid hv; clear hv
  have c0 := HV.out.cell 0; have c1 := HV.out.cell 1
  go_wp2_with fail
  refine (spec_IntervalValid s h _).mono ?_
  clear c0 c1
  cases hi : ivB s h
  · have HF : Hid (ssB f m b u ts vs s h = false) := Lib.hid (ssB_no (.inr (.inl hi))); clear hi
    rintro e w2 ⟨rfl, b2⟩
    have z2 := b2.size
    replace HS := Lib.hid (HS.out.below b2 (by omega)); replace HV := Lib.hid (HV.out.below b2 (by omega)); replace HZ := Lib.hid (HZ.out.below b2 (by omega)); replace HB := Lib.hid (HB.out.trans (b2.mono (by omega))); clear b2
    have d0 := HZ.out.cell 0; have f0 := HZ.out.frozen 0; have d1 := HZ.out.cell 1; have f1 := HZ.out.frozen 1; have d2 := HZ.out.cell 2; have f2 := HZ.out.frozen 2; have d3 := HZ.out.cell 3; have f3 := HZ.out.frozen 3; have d4 := HZ.out.cell 4; have f4 := HZ.out.frozen 4; have d5 := HZ.out.cell 5; have f5 := HZ.out.frozen 5
    go_wp2_with fail
    have HB3 := Lib.hid (Below.setCell (Below.setCell (Below.setCell (Below.setCell (Below.setCell (Below.setCell HB.out (p := ⟨w.heap.size + 2, 0, none⟩) (by first | exact Nat.le_refl _ | exact Nat.le_add_right _ _ | omega | (simp; omega)) (.int .i64 0)) (p := ⟨w.heap.size + 2, 1, none⟩) (by first | exact Nat.le_refl _ | exact Nat.le_add_right _ _ | omega | (simp; omega)) (.bool false)) (p := ⟨w.heap.size + 2, 2, none⟩) (by first | exact Nat.le_refl _ | exact Nat.le_add_right _ _ | omega | (simp; omega)) (.int .i64 0)) (p := ⟨w.heap.size + 2, 3, none⟩) (by first | exact Nat.le_refl _ | exact Nat.le_add_right _ _ | omega | (simp; omega)) (.int .i64 0)) (p := ⟨w.heap.size + 2, 4, none⟩) (by first | exact Nat.le_refl _ | exact Nat.le_add_right _ _ | omega | (simp; omega)) (.slice none 0 0)) (p := ⟨w.heap.size + 2, 5, none⟩) (by first | exact Nat.le_refl _ | exact Nat.le_add_right _ _ | omega | (simp; omega)) (.slice none 0 0))
    have HZ3 := Lib.hid ((((((HZ.out.set_ 0 (.int .i64 0)).set_ 1 (.bool false)).set_ 2 (.int .i64 0)).set_ 3 (.int .i64 0)).set_ 4 (.slice none 0 0)).set_ 5 (.slice none 0 0))
    clear d0 f0 d1 f1 d2 f2 d3 f3 d4 f4 d5 f5
    generalize ((((((w2.setCell ⟨w.heap.size + 2, 0, none⟩ (.int .i64 0)).setCell ⟨w.heap.size + 2, 1, none⟩ (.bool false)).setCell ⟨w.heap.size + 2, 2, none⟩ (.int .i64 0)).setCell ⟨w.heap.size + 2, 2 + 1, none⟩ (.int .i64 0)).setCell ⟨w.heap.size + 2, 4, none⟩ (.slice none 0 0)).setCell ⟨w.heap.size + 2, 5, none⟩ (.slice none 0 0)) = W9 at *
    have r0 : W9.cell? ⟨w.heap.size + 2, 0, none⟩ = some (.int .i64 0) := HZ3.out.cell 0
    have r1 : W9.cell? ⟨w.heap.size + 2, 1, none⟩ = some (.bool false) := HZ3.out.cell 1
    have r2 : W9.cell? ⟨w.heap.size + 2, 2, none⟩ = some (.int .i64 0) := HZ3.out.cell 2
    have r3 : W9.cell? ⟨w.heap.size + 2, 3, none⟩ = some (.int .i64 0) := HZ3.out.cell 3
    have r4 : W9.cell? ⟨w.heap.size + 2, 4, none⟩ = some (.slice none 0 0) := HZ3.out.cell 4
    have r5 : W9.cell? ⟨w.heap.size + 2, 5, none⟩ = some (.slice none 0 0) := HZ3.out.cell 5
    refine bodyPost_ret (v := .tuple #[.agg #[.int .i64 0, .bool false, .int .i64 0, .int .i64 0, .slice none 0 0, .slice none 0 0], .bool false]) (by simp [results, Try.results6, go_sem, r0, r1, r2, r3, r4, r5]) rfl ?_
    rw [ssL_no HF.out, HF.out]; exact retSS_zero HB3.out
  rintro e w2 ⟨rfl, b2⟩
  have z2 := b2.size
  replace HS := Lib.hid (HS.out.below b2 (by omega)); replace HV := Lib.hid (HV.out.below b2 (by omega)); replace HZ := Lib.hid (HZ.out.below b2 (by omega)); replace HB := Lib.hid (HB.out.trans (b2.mono (by omega))); clear b2
  have HIV := Lib.hid hi; clear hi
  have HFR : Hid (-7 ≤ f ∧ f ≤ 7) := Lib.hid (inR_iff.1 (svB_iff.1 HVV.out).1)
  have HMT : Hid (mtL f m s h = aiL (tonS f m) (altL f (tonS f m)) 4 s h) := Lib.hid rfl
  have HNK : Hid (nkL f m s h = koL (mtL f m s h).1.1 (mtL f m s h).1.2.1 (mtL f m s h).1.2.2 m) := Lib.hid rfl
  generalize ht2 : altL f (tonS f m) = t2 at *
  have HT2 := Lib.hid ht2; clear ht2
  generalize ht1 : tonS f m = t1 at *
  have HT1 := Lib.hid ht1; clear ht1
  have c0 := HS.out.cell 0; have c1 := HS.out.cell 1
  go_upto_region 4 with (go_at_call 25; refine (spec_KeyTonic f m _ HFR.out).mono ?_; rw [HT1.out, HT2.out]; rintro e w3 ⟨rfl, b3⟩; have z3 := b3.size; replace HS := Lib.hid (HS.out.below b3 (by omega)); replace HV := Lib.hid (HV.out.below b3 (by omega)); replace HZ := Lib.hid (HZ.out.below b3 (by omega)); replace HB := Lib.hid (HB.out.trans (b3.mono (by omega))); clear b3 c0 c1)
  have HP := Lib.hid (Blk.new w3 50 #[.int .i64 t1, .int .i64 t2, .int .i64 4])
  replace HS := Lib.hid (HS.out.alloc (.cells #[.int .i64 t1, .int .i64 t2, .int .i64 4] 50))
  replace HV := Lib.hid (HV.out.alloc (.cells #[.int .i64 t1, .int .i64 t2, .int .i64 4] 50))
  replace HZ := Lib.hid (HZ.out.alloc (.cells #[.int .i64 t1, .int .i64 t2, .int .i64 4] 50))
  replace HB := Lib.hid (HB.out.alloc (by omega) (.cells #[.int .i64 t1, .int .i64 t2, .int .i64 4] 50))
  have z4 : w3.heap.size + 1 ≤ (w3.alloc (.cells #[.int .i64 t1, .int .i64 t2, .int .i64 4] 50)).heap.size := by simp
  generalize w3.alloc (.cells #[.int .i64 t1, .int .i64 t2, .int .i64 4] 50) = w4 at *
  have p0 := HP.out.cell 0; have p1 := HP.out.cell 1; have p2 := HP.out.cell 2
  have v0 := HV.out.cell 0; have v1 := HV.out.cell 1
  rcases hmt : mtL f m s h with ⟨⟨x1, x2, x3⟩, ok1⟩
  have HM1 : Hid (aiL t1 t2 4 s h = ((x1, x2, x3), ok1)) := Lib.hid (by rw [← HMT.out, hmt])
  have HM2 := Lib.hid hmt; clear hmt
  go_upto_region 5 with (go_at_call 26; refine (spec_AddInterval t1 t2 4 s h _).mono ?_; rw [HM1.out]; rintro e w5 ⟨rfl, b5⟩; have z5 := b5.size; replace HS := Lib.hid (HS.out.below b5 (by omega)); replace HV := Lib.hid (HV.out.below b5 (by omega)); replace HZ := Lib.hid (HZ.out.below b5 (by omega)); replace HB := Lib.hid (HB.out.trans (b5.mono (by omega))); clear b5 p0 p1 p2 v0 v1)
  clear HP
  have HP := Lib.hid (Blk.new w5 50 #[.int .i64 x1, .int .i64 x2, .int .i64 x3])
  replace HS := Lib.hid (HS.out.alloc (.cells #[.int .i64 x1, .int .i64 x2, .int .i64 x3] 50))
  replace HV := Lib.hid (HV.out.alloc (.cells #[.int .i64 x1, .int .i64 x2, .int .i64 x3] 50))
  replace HZ := Lib.hid (HZ.out.alloc (.cells #[.int .i64 x1, .int .i64 x2, .int .i64 x3] 50))
  replace HB := Lib.hid (HB.out.alloc (by omega) (.cells #[.int .i64 x1, .int .i64 x2, .int .i64 x3] 50))
  have z6 : w5.heap.size + 1 ≤ (w5.alloc (.cells #[.int .i64 x1, .int .i64 x2, .int .i64 x3] 50)).heap.size := by simp
  generalize w5.alloc (.cells #[.int .i64 x1, .int .i64 x2, .int .i64 x3] 50) = w6 at *
  have p0 := HP.out.cell 0; have p1 := HP.out.cell 1; have p2 := HP.out.cell 2
  have c1 := HS.out.cell 1
  rcases hnk : nkL f m s h with ⟨fk, ok2⟩
  have HN1 : Hid (koL x1 x2 x3 m = (fk, ok2)) := Lib.hid (by rw [← hnk, HNK.out, HM2.out])
  have HN2 := Lib.hid hnk; clear hnk
  go_upto_region 6 with (go_at_call 27; refine (spec_KeyOf x1 x2 x3 m _).mono ?_; rw [HN1.out]; rintro e w7 ⟨rfl, b7⟩; have z7 := b7.size; replace HS := Lib.hid (HS.out.below b7 (by omega)); replace HV := Lib.hid (HV.out.below b7 (by omega)); replace HZ := Lib.hid (HZ.out.below b7 (by omega)); replace HB := Lib.hid (HB.out.trans (b7.mono (by omega))); clear b7 p0 p1 p2 c1)
  clear HP
  cases ok1
  case false =>
    have HF : Hid (ssB f m b u ts vs s h = false) := Lib.hid (ssB_no (.inr (.inr (.inl (by rw [HM2.out])))))
    have d0 := HZ.out.cell 0; have f0 := HZ.out.frozen 0; have d1 := HZ.out.cell 1; have f1 := HZ.out.frozen 1; have d2 := HZ.out.cell 2; have f2 := HZ.out.frozen 2; have d3 := HZ.out.cell 3; have f3 := HZ.out.frozen 3; have d4 := HZ.out.cell 4; have f4 := HZ.out.frozen 4; have d5 := HZ.out.cell 5; have f5 := HZ.out.frozen 5
    go_wp2_with fail
    have HB3 := Lib.hid (Below.setCell (Below.setCell (Below.setCell (Below.setCell (Below.setCell (Below.setCell HB.out (p := ⟨w.heap.size + 2, 0, none⟩) (by first | exact Nat.le_refl _ | exact Nat.le_add_right _ _ | omega | (simp; omega)) (.int .i64 0)) (p := ⟨w.heap.size + 2, 1, none⟩) (by first | exact Nat.le_refl _ | exact Nat.le_add_right _ _ | omega | (simp; omega)) (.bool false)) (p := ⟨w.heap.size + 2, 2, none⟩) (by first | exact Nat.le_refl _ | exact Nat.le_add_right _ _ | omega | (simp; omega)) (.int .i64 0)) (p := ⟨w.heap.size + 2, 3, none⟩) (by first | exact Nat.le_refl _ | exact Nat.le_add_right _ _ | omega | (simp; omega)) (.int .i64 0)) (p := ⟨w.heap.size + 2, 4, none⟩) (by first | exact Nat.le_refl _ | exact Nat.le_add_right _ _ | omega | (simp; omega)) (.slice none 0 0)) (p := ⟨w.heap.size + 2, 5, none⟩) (by first | exact Nat.le_refl _ | exact Nat.le_add_right _ _ | omega | (simp; omega)) (.slice none 0 0))
    have HZ3 := Lib.hid ((((((HZ.out.set_ 0 (.int .i64 0)).set_ 1 (.bool false)).set_ 2 (.int .i64 0)).set_ 3 (.int .i64 0)).set_ 4 (.slice none 0 0)).set_ 5 (.slice none 0 0))
    clear d0 f0 d1 f1 d2 f2 d3 f3 d4 f4 d5 f5
    generalize ((((((w7.setCell ⟨w.heap.size + 2, 0, none⟩ (.int .i64 0)).setCell ⟨w.heap.size + 2, 1, none⟩ (.bool false)).setCell ⟨w.heap.size + 2, 2, none⟩ (.int .i64 0)).setCell ⟨w.heap.size + 2, 2 + 1, none⟩ (.int .i64 0)).setCell ⟨w.heap.size + 2, 4, none⟩ (.slice none 0 0)).setCell ⟨w.heap.size + 2, 5, none⟩ (.slice none 0 0)) = W9 at *
    have r0 : W9.cell? ⟨w.heap.size + 2, 0, none⟩ = some (.int .i64 0) := HZ3.out.cell 0
    have r1 : W9.cell? ⟨w.heap.size + 2, 1, none⟩ = some (.bool false) := HZ3.out.cell 1
    have r2 : W9.cell? ⟨w.heap.size + 2, 2, none⟩ = some (.int .i64 0) := HZ3.out.cell 2
    have r3 : W9.cell? ⟨w.heap.size + 2, 3, none⟩ = some (.int .i64 0) := HZ3.out.cell 3
    have r4 : W9.cell? ⟨w.heap.size + 2, 4, none⟩ = some (.slice none 0 0) := HZ3.out.cell 4
    have r5 : W9.cell? ⟨w.heap.size + 2, 5, none⟩ = some (.slice none 0 0) := HZ3.out.cell 5
    refine bodyPost_ret (v := .tuple #[.agg #[.int .i64 0, .bool false, .int .i64 0, .int .i64 0, .slice none 0 0, .slice none 0 0], .bool false]) (by simp [results, Try.results6, go_sem, r0, r1, r2, r3, r4, r5]) rfl ?_
    rw [ssL_no HF.out, HF.out]; exact retSS_zero HB3.out
  cases ok2
  case false =>
    have HF : Hid (ssB f m b u ts vs s h = false) := Lib.hid (ssB_no (.inr (.inr (.inr (by rw [HN2.out])))))
    have d0 := HZ.out.cell 0; have f0 := HZ.out.frozen 0; have d1 := HZ.out.cell 1; have f1 := HZ.out.frozen 1; have d2 := HZ.out.cell 2; have f2 := HZ.out.frozen 2; have d3 := HZ.out.cell 3; have f3 := HZ.out.frozen 3; have d4 := HZ.out.cell 4; have f4 := HZ.out.frozen 4; have d5 := HZ.out.cell 5; have f5 := HZ.out.frozen 5
    go_wp2_with fail
    have HB3 := Lib.hid (Below.setCell (Below.setCell (Below.setCell (Below.setCell (Below.setCell (Below.setCell HB.out (p := ⟨w.heap.size + 2, 0, none⟩) (by first | exact Nat.le_refl _ | exact Nat.le_add_right _ _ | omega | (simp; omega)) (.int .i64 0)) (p := ⟨w.heap.size + 2, 1, none⟩) (by first | exact Nat.le_refl _ | exact Nat.le_add_right _ _ | omega | (simp; omega)) (.bool false)) (p := ⟨w.heap.size + 2, 2, none⟩) (by first | exact Nat.le_refl _ | exact Nat.le_add_right _ _ | omega | (simp; omega)) (.int .i64 0)) (p := ⟨w.heap.size + 2, 3, none⟩) (by first | exact Nat.le_refl _ | exact Nat.le_add_right _ _ | omega | (simp; omega)) (.int .i64 0)) (p := ⟨w.heap.size + 2, 4, none⟩) (by first | exact Nat.le_refl _ | exact Nat.le_add_right _ _ | omega | (simp; omega)) (.slice none 0 0)) (p := ⟨w.heap.size + 2, 5, none⟩) (by first | exact Nat.le_refl _ | exact Nat.le_add_right _ _ | omega | (simp; omega)) (.slice none 0 0))
    have HZ3 := Lib.hid ((((((HZ.out.set_ 0 (.int .i64 0)).set_ 1 (.bool false)).set_ 2 (.int .i64 0)).set_ 3 (.int .i64 0)).set_ 4 (.slice none 0 0)).set_ 5 (.slice none 0 0))
    clear d0 f0 d1 f1 d2 f2 d3 f3 d4 f4 d5 f5
    generalize ((((((w7.setCell ⟨w.heap.size + 2, 0, none⟩ (.int .i64 0)).setCell ⟨w.heap.size + 2, 1, none⟩ (.bool false)).setCell ⟨w.heap.size + 2, 2, none⟩ (.int .i64 0)).setCell ⟨w.heap.size + 2, 2 + 1, none⟩ (.int .i64 0)).setCell ⟨w.heap.size + 2, 4, none⟩ (.slice none 0 0)).setCell ⟨w.heap.size + 2, 5, none⟩ (.slice none 0 0)) = W9 at *
    have r0 : W9.cell? ⟨w.heap.size + 2, 0, none⟩ = some (.int .i64 0) := HZ3.out.cell 0
    have r1 : W9.cell? ⟨w.heap.size + 2, 1, none⟩ = some (.bool false) := HZ3.out.cell 1
    have r2 : W9.cell? ⟨w.heap.size + 2, 2, none⟩ = some (.int .i64 0) := HZ3.out.cell 2
    have r3 : W9.cell? ⟨w.heap.size + 2, 3, none⟩ = some (.int .i64 0) := HZ3.out.cell 3
    have r4 : W9.cell? ⟨w.heap.size + 2, 4, none⟩ = some (.slice none 0 0) := HZ3.out.cell 4
    have r5 : W9.cell? ⟨w.heap.size + 2, 5, none⟩ = some (.slice none 0 0) := HZ3.out.cell 5
    refine bodyPost_ret (v := .tuple #[.agg #[.int .i64 0, .bool false, .int .i64 0, .int .i64 0, .slice none 0 0, .slice none 0 0], .bool false]) (by simp [results, Try.results6, go_sem, r0, r1, r2, r3, r4, r5]) rfl ?_
    rw [ssL_no HF.out, HF.out]; exact retSS_zero HB3.out
  clear HM1 HN1 HMT HNK HT1 HT2
  have HTV := (svB_iff.1 HVV.out).2.2.1
  have HT0 : Hid (0 < ts.length) := Lib.hid (tvB_iff.1 HTV).1.1
  have ht8 : ts.length ≤ 8 := (tvB_iff.1 HTV).1.2
  clear HTV
  have hv4 : vs.length ≤ 4 := (svB_iff.1 HVV.out).2.2.2.1
  obtain ⟨bc, oc, rfl, hbc, hcc⟩ := (RdTempo.below HT.out HB.out (Nat.le_refl _)).2 HT0.out
  have HNW : Hid (∀ W : World, Below w7.heap.size w7 W → ∀ j u, (fl encTempo ts)[j]? = some u → W.cell? ((⟨bc, oc, none⟩ : Addr).add j) = some u) := Lib.hid (fun W hW j u9 hu => by
    rw [Go.WideShapes.add_plain, hW.cell (p := ⟨bc, oc + j, none⟩) (show bc < w7.heap.size by omega)]
    exact hcc j u9 hu)
  clear hcc
  go_upto_region 8 with fail
  have c1 := HS.out.cell 1; have c2 := HS.out.cell 2; have c3 := HS.out.cell 3; have c4 := HS.out.cell 4
  refine regionC_draws rfl 28 6 12 62 11 90 [some 53, some 54, some 55, some 56, some 57, some 58, some 59, some 60, some 61, some 62, some 12, none]
    [FEq (.int .i64 (fk)), FEq (.pointer (some ⟨w.heap.size, 1, none⟩)), FEq (.bool m), FEq (.pointer (some ⟨w.heap.size, 2, none⟩)), FEq (.agg #[.int .i64 b, .int .i64 u]), FEmp w7.heap.size 60 2, FEq (.pointer (some ⟨w.heap.size, 4, none⟩)), FEq (.slice (some ⟨bc, oc, none⟩) ts.length d), FOwn w7.heap.size 60 2 ts.length (fl encTempo ts), FAgo w7.heap.size 60 2 ts.length (fl encTempo ts) (fun C9 d9 => #[.int .i64 fk, .bool m, .int .i64 b, .int .i64 u, .slice C9 ts.length d9, .slice none 0 0]), FBox w7.heap.size 28 6, FAny] (by kernel_rfl) (by kernel_rfl) (by decide) ?_ ?_ ?_
  · exact stayCs_cons stayC_eq (stayCs_cons stayC_eq (stayCs_cons stayC_eq (stayCs_cons stayC_eq (stayCs_cons stayC_eq (stayCs_cons (stayC_emp (by decide)) (stayCs_cons stayC_eq (stayCs_cons stayC_eq (stayCs_cons (stayC_own (by decide)) (stayCs_cons (stayC_ago (by decide)) (stayCs_cons stayC_box (stayCs_cons stayC_any stayCs_nil)))))))))))
  · refine AllI.cons ?_ (AllI.cons ?_ (AllI.cons ?_ (AllI.cons ?_ (AllI.cons ?_ (AllI.cons ?_ (AllI.cons ?_ (AllI.cons ?_ (AllI.cons ?_ (AllI.cons ?_ (AllI.cons ?_ (AllI.cons ?_ trivial)))))))))))
    · intro kk bb ff ww hkk hf hd hp hq hJ0
      refine .inl ⟨wanted_none rfl, ?_⟩
      have hJ := hJ0.1
      have hb9 : bb = false := hp [] (by kernel_rfl)
      have q : FEq (.int .i64 (fk)) (ff 10) ww := (hf 10 (by decide)).trans rfl
      exact sc_val (ff 10) hJ (by simp only [execOp, ev_tmp _ _ (show 10 < 90 by decide)]; rfl) q
    · intro kk bb ff ww hkk hf hd hp hq hJ0
      refine .inl ⟨wanted_none rfl, ?_⟩
      have hJ := hJ0.1
      have hb9 : bb = false := hp [] (by kernel_rfl)
      have q2 : FEq (.pointer (some ⟨w.heap.size, 0, none⟩)) (ff 2) ww := (hf 2 (by decide)).trans rfl
      unfold FEq at q2
      refine sc_val (.pointer (some ⟨w.heap.size, 1, none⟩)) hJ ?_ rfl
      simp only [execOp, ev_tmp _ _ (show 2 < 90 by decide), ev_const, q2]
      simp [go_sem]
    · intro kk bb ff ww hkk hf hd hp hq hJ0
      refine .inl ⟨wanted_none rfl, ?_⟩
      obtain ⟨p0, -⟩ := hd
      have hJ := hJ0.1
      have hb9 : bb = false := hp [] (by kernel_rfl)
      have q54 : FEq (.pointer (some ⟨w.heap.size, 1, none⟩)) (ff 54) ww := p0 rfl
      unfold FEq at q54
      have c1 : ww.cell? ⟨w.heap.size, 1, none⟩ = some (.bool m) := (hJ.cell (p := ⟨w.heap.size, 1, none⟩) (show w.heap.size < _ by omega)).trans c1
      refine sc_val (.bool m) hJ ?_ rfl
      simp only [execOp, ev_tmp _ _ (show 54 < 90 by decide), ev_const, q54]
      simp [go_sem, c1]
    · intro kk bb ff ww hkk hf hd hp hq hJ0
      refine .inl ⟨wanted_none rfl, ?_⟩
      have hJ := hJ0.1
      have hb9 : bb = false := hp [] (by kernel_rfl)
      have q2 : FEq (.pointer (some ⟨w.heap.size, 0, none⟩)) (ff 2) ww := (hf 2 (by decide)).trans rfl
      unfold FEq at q2
      refine sc_val (.pointer (some ⟨w.heap.size, 2, none⟩)) hJ ?_ rfl
      simp only [execOp, ev_tmp _ _ (show 2 < 90 by decide), ev_const, q2]
      simp [go_sem]
    · intro kk bb ff ww hkk hf hd hp hq hJ0
      refine .inl ⟨wanted_none rfl, ?_⟩
      obtain ⟨p0, -⟩ := hd
      have hJ := hJ0.1
      have hb9 : bb = false := hp [] (by kernel_rfl)
      have q56 : FEq (.pointer (some ⟨w.heap.size, 2, none⟩)) (ff 56) ww := p0 rfl
      unfold FEq at q56
      have c2 : ww.cell? ⟨w.heap.size, 2, none⟩ = some (.int .i64 b) := (hJ.cell (p := ⟨w.heap.size, 2, none⟩) (show w.heap.size < _ by omega)).trans c2
      have c3 : ww.cell? ⟨w.heap.size, 3, none⟩ = some (.int .i64 u) := (hJ.cell (p := ⟨w.heap.size, 3, none⟩) (show w.heap.size < _ by omega)).trans c3
      refine sc_val (.agg #[.int .i64 b, .int .i64 u]) hJ ?_ rfl
      simp only [execOp, ev_tmp _ _ (show 56 < 90 by decide), ev_const, q56]
      simp [go_sem, c2, c3]
    · intro kk bb ff ww hkk hf hd hp hq hJ0
      refine .inl ⟨wanted_none rfl, ?_⟩
      have hJ := hJ0.1
      have hb9 : bb = false := hp [] (by kernel_rfl)
      refine sc_alloc (.slice (some ⟨ww.heap.size, 0, none⟩) 0 0) (.cells #[] 60) hJ ?_ ⟨_, rfl, (own_empty (Below.refl _ _) hJ.size).1⟩
      simp only [execOp, ev_const, List.map_toArray, List.map_nil]
      simp [go_sem]
    · intro kk bb ff ww hkk hf hd hp hq hJ0
      refine .inl ⟨wanted_none rfl, ?_⟩
      have hJ := hJ0.1
      have hb9 : bb = false := hp [] (by kernel_rfl)
      have q2 : FEq (.pointer (some ⟨w.heap.size, 0, none⟩)) (ff 2) ww := (hf 2 (by decide)).trans rfl
      unfold FEq at q2
      refine sc_val (.pointer (some ⟨w.heap.size, 4, none⟩)) hJ ?_ rfl
      simp only [execOp, ev_tmp _ _ (show 2 < 90 by decide), ev_const, q2]
      simp [go_sem]
    · intro kk bb ff ww hkk hf hd hp hq hJ0
      refine .inl ⟨wanted_none rfl, ?_⟩
      obtain ⟨p0, -⟩ := hd
      have hJ := hJ0.1
      have hb9 : bb = false := hp [] (by kernel_rfl)
      have q59 : FEq (.pointer (some ⟨w.heap.size, 4, none⟩)) (ff 59) ww := p0 rfl
      unfold FEq at q59
      have c4 : ww.cell? ⟨w.heap.size, 4, none⟩ = some (.slice (some ⟨bc, oc, none⟩) ts.length d) := (hJ.cell (p := ⟨w.heap.size, 4, none⟩) (show w.heap.size < _ by omega)).trans c4
      refine sc_val (.slice (some ⟨bc, oc, none⟩) ts.length d) hJ ?_ rfl
      simp only [execOp, ev_tmp _ _ (show 59 < 90 by decide), ev_const, q59]
      simp [go_sem, c4]
    · intro kk bb ff ww hkk hf hd hp hq hJ0
      refine .inl ⟨wanted_none rfl, ?_⟩
      obtain ⟨p0, p1, -⟩ := hd
      have hJ := hJ0.1
      have hb9 : bb = false := hp [] (by kernel_rfl)
      have q58 : FEmp w7.heap.size 60 2 (ff 58) ww := p0 rfl
      obtain ⟨g58, q58, o58⟩ := q58
      have q60 : FEq (.slice (some ⟨bc, oc, none⟩) ts.length d) (ff 60) ww := p1 rfl
      unfold FEq at q60
      refine sc_append _ _ 25 rfl 60 i0 (.agg #[Value.int .i64 0, Value.int .i64 0]) 2 16 Try.underlying25 HI.out H0.out H1.out H2.out rfl (by decide) (by decide) g58 ?_ w7.heap.size o58 hJ.size ⟨bc, oc, none⟩ ts.length d (fl encTempo ts) ?_ (fl_length encTempo_len ts) (HNW.out _ hJ) (tempo_one ts) HT0.out (by omega) hJ (fun A c w' h => ⟨A, c, rfl, h⟩)
      · simp only [ev_tmp _ _ (show 58 < 90 by decide)]; exact q58
      · simp only [ev_tmp _ _ (show 60 < 90 by decide)]; exact q60
    · intro kk bb ff ww hkk hf hd hp hq hJ0
      refine .inl ⟨wanted_none rfl, ?_⟩
      obtain ⟨p0, p1, p2, p3, -⟩ := hd
      have hJ := hJ0.1
      have hb9 : bb = false := hp [] (by kernel_rfl)
      have q53 : FEq (.int .i64 (fk)) (ff 53) ww := p0 rfl
      unfold FEq at q53
      have q55 : FEq (.bool m) (ff 55) ww := p1 rfl
      unfold FEq at q55
      have q57 : FEq (.agg #[.int .i64 b, .int .i64 u]) (ff 57) ww := p2 rfl
      unfold FEq at q57
      have q61 : FOwn w7.heap.size 60 2 ts.length (fl encTempo ts) (ff 61) ww := p3 rfl
      obtain ⟨A61, c61, q61, o61⟩ := q61
      refine sc_val (.agg #[.int .i64 fk, .bool m, .int .i64 b, .int .i64 u, .slice A61 ts.length c61, .slice none 0 0]) hJ ?_ ⟨A61, c61, rfl, o61⟩
      simp only [execOp, ev_tmp _ _ (show 53 < 90 by decide), ev_tmp _ _ (show 55 < 90 by decide), ev_tmp _ _ (show 57 < 90 by decide), ev_tmp _ _ (show 61 < 90 by decide), ev_const, q53, q55, q57, q61, List.map_toArray, List.map_cons, List.map_nil]
      simp [go_sem]
    · intro kk bb ff ww hkk hf hd hp hq hJ0
      refine .inl ⟨wanted_none rfl, ?_⟩
      have hJ := hJ0.1
      have hb9 : bb = false := hp [] (by kernel_rfl)
      refine sc_alloc (.pointer (some ⟨ww.heap.size, 0, none⟩)) (.cells #[.int .i64 0, .bool false, .int .i64 0, .int .i64 0, .slice none 0 0, .slice none 0 0] 28) hJ ?_ ⟨_, _, rfl, hJ.size, Blk.new _ _ _, rfl⟩
      simp only [execOp]
      simp [go_sem]
    · intro kk bb ff ww hkk hf hd hp hq hJ0
      refine .inl ⟨wanted_none rfl, ?_⟩
      obtain ⟨p0, p1, p2, p3, p4, p5, p6, p7, p8, p9, p10, p11, p12, p13, -⟩ := hd
      have hJ := hJ0.1
      have q62 : FAgo w7.heap.size 60 2 ts.length (fl encTempo ts) (fun C9 d9 => #[.int .i64 fk, .bool m, .int .i64 b, .int .i64 u, .slice C9 ts.length d9, .slice none 0 0]) (ff 62) ww := p1 rfl
      obtain ⟨A62, c62, q62, o62⟩ := q62
      have q12 : FBox w7.heap.size 28 6 (ff 12) ww := p0 rfl
      obtain ⟨g, cs, q12, hlo, hb, hsz⟩ := q12
      obtain ⟨d0, d1, d2, d3, d4, d5, rfl⟩ := arr6 hsz
      have c0 : ww.cell? ⟨g, 0, none⟩ = some d0 := hb.cell 0
      have f0 := hb.frozen 0
      have c1 : ww.cell? ⟨g, 1, none⟩ = some d1 := hb.cell 1
      have f1 := hb.frozen 1
      have c2 : ww.cell? ⟨g, 2, none⟩ = some d2 := hb.cell 2
      have f2 := hb.frozen 2
      have c3 : ww.cell? ⟨g, 3, none⟩ = some d3 := hb.cell 3
      have f3 := hb.frozen 3
      have c4 : ww.cell? ⟨g, 4, none⟩ = some d4 := hb.cell 4
      have f4 := hb.frozen 4
      have c5 : ww.cell? ⟨g, 5, none⟩ = some d5 := hb.cell 5
      have f5 := hb.frozen 5
      refine sc_store g ((((((ww.setCell ⟨g, 0, none⟩ (.int .i64 fk)).setCell ⟨g, 1, none⟩ (.bool m)).setCell ⟨g, 2, none⟩ (.int .i64 b)).setCell ⟨g, 3, none⟩ (.int .i64 u)).setCell ⟨g, 4, none⟩ (.slice A62 ts.length c62)).setCell ⟨g, 5, none⟩ (.slice none 0 0)) #[.int .i64 fk, .bool m, .int .i64 b, .int .i64 u, .slice A62 ts.length c62, .slice none 0 0] rfl rfl q12 q62 hlo rfl hJ ?_ ((((((hb.set_ 0 (.int .i64 fk)).set_ 1 (.bool m)).set_ 2 (.int .i64 b)).set_ 3 (.int .i64 u)).set_ 4 (.slice A62 ts.length c62)).set_ 5 (.slice none 0 0)) ⟨_, hb⟩ (fun j hj => by simp [Below.heap_setCell, hj, Ne.symm hj]) (by simp only [set_os]) (by simp only [set_tape]) (by simp only [set_output]) (by simp only [set_hsz]) trivial
      simp only [execOp, ev_tmp _ _ (show 62 < 90 by decide), ev_tmp _ _ (show 12 < 90 by decide), ev_const, q62, q12]
      simp [go_sem, c0, f0, c1, f1, c2, f2, c3, f3, c4, f4, c5, f5]
  intro ff wx hf hd hX hJ
  obtain ⟨gb_, cs_, qx_, qv_, lb_, kb_⟩ := hX
  have hfr : fr 90 ff = #[ff 0, ff 1, ff 2, ff 3, ff 4, ff 5, ff 6, ff 7, ff 8, ff 9, ff 10, ff 11, ff 12, ff 13, ff 14, ff 15, ff 16, ff 17, ff 18, ff 19, ff 20, ff 21, ff 22, ff 23, ff 24, ff 25, ff 26, ff 27, ff 28, ff 29, ff 30, ff 31, ff 32, ff 33, ff 34, ff 35, ff 36, ff 37, ff 38, ff 39, ff 40, ff 41, ff 42, ff 43, ff 44, ff 45, ff 46, ff 47, ff 48, ff 49, ff 50, ff 51, ff 52, ff 53, ff 54, ff 55, ff 56, ff 57, ff 58, ff 59, ff 60, ff 61, ff 62, ff 63, ff 64, ff 65, ff 66, ff 67, ff 68, ff 69, ff 70, ff 71, ff 72, ff 73, ff 74, ff 75, ff 76, ff 77, ff 78, ff 79, ff 80, ff 81, ff 82, ff 83, ff 84, ff 85, ff 86, ff 87, ff 88, ff 89] := rfl
  rw [hfr]; clear hfr
  dsimp only
  have q0_ := hf 0 (by decide)
  have q1_ := hf 1 (by decide)
  have q2_ := hf 2 (by decide)
  have q3_ := hf 3 (by decide)
  have q4_ := hf 4 (by decide)
  have q5_ := hf 5 (by decide)
  have q6_ := hf 6 (by decide)
  have q7_ := hf 7 (by decide)
  have q8_ := hf 8 (by decide)
  have q9_ := hf 9 (by decide)
  have q10_ := hf 10 (by decide)
  have q11_ := hf 11 (by decide)
  have q13_ := hf 13 (by decide)
  have q14_ := hf 14 (by decide)
  have q15_ := hf 15 (by decide)
  have q16_ := hf 16 (by decide)
  have q17_ := hf 17 (by decide)
  have q18_ := hf 18 (by decide)
  have q19_ := hf 19 (by decide)
  have q20_ := hf 20 (by decide)
  have q21_ := hf 21 (by decide)
  have q22_ := hf 22 (by decide)
  have q23_ := hf 23 (by decide)
  have q24_ := hf 24 (by decide)
  have q25_ := hf 25 (by decide)
  have q26_ := hf 26 (by decide)
  have q27_ := hf 27 (by decide)
  have q28_ := hf 28 (by decide)
  have q29_ := hf 29 (by decide)
  have q30_ := hf 30 (by decide)
  have q31_ := hf 31 (by decide)
  have q32_ := hf 32 (by decide)
  have q33_ := hf 33 (by decide)
  have q34_ := hf 34 (by decide)
  have q35_ := hf 35 (by decide)
  have q36_ := hf 36 (by decide)
  have q37_ := hf 37 (by decide)
  have q38_ := hf 38 (by decide)
  have q39_ := hf 39 (by decide)
  have q40_ := hf 40 (by decide)
  have q41_ := hf 41 (by decide)
  have q42_ := hf 42 (by decide)
  have q43_ := hf 43 (by decide)
  have q44_ := hf 44 (by decide)
  have q45_ := hf 45 (by decide)
  have q46_ := hf 46 (by decide)
  have q47_ := hf 47 (by decide)
  have q48_ := hf 48 (by decide)
  have q49_ := hf 49 (by decide)
  have q50_ := hf 50 (by decide)
  have q51_ := hf 51 (by decide)
  have q52_ := hf 52 (by decide)
  have q53_ : FEq (.int .i64 (fk)) (ff 53) wx := hd 0 (by decide)
  unfold FEq at q53_
  have q54_ : FEq (.pointer (some ⟨w.heap.size, 1, none⟩)) (ff 54) wx := hd 1 (by decide)
  unfold FEq at q54_
  have q55_ : FEq (.bool m) (ff 55) wx := hd 2 (by decide)
  unfold FEq at q55_
  have q56_ : FEq (.pointer (some ⟨w.heap.size, 2, none⟩)) (ff 56) wx := hd 3 (by decide)
  unfold FEq at q56_
  have q57_ : FEq (.agg #[.int .i64 b, .int .i64 u]) (ff 57) wx := hd 4 (by decide)
  unfold FEq at q57_
  have q59_ : FEq (.pointer (some ⟨w.heap.size, 4, none⟩)) (ff 59) wx := hd 6 (by decide)
  unfold FEq at q59_
  have q60_ : FEq (.slice (some ⟨bc, oc, none⟩) ts.length d) (ff 60) wx := hd 7 (by decide)
  unfold FEq at q60_
  have q62_ : FAgo w7.heap.size 60 2 ts.length (fl encTempo ts) (fun C9 d9 => #[.int .i64 fk, .bool m, .int .i64 b, .int .i64 u, .slice C9 ts.length d9, .slice none 0 0]) (ff 62) wx := hd 9 (by decide)
  obtain ⟨AT_, ct_, q62_, ot_⟩ := q62_
  rw [q62_] at qv_; injection qv_ with qv_; subst qv_
  have q63_ := hf 63 (by decide)
  have q64_ := hf 64 (by decide)
  have q65_ := hf 65 (by decide)
  have q66_ := hf 66 (by decide)
  have q67_ := hf 67 (by decide)
  have q68_ := hf 68 (by decide)
  have q69_ := hf 69 (by decide)
  have q70_ := hf 70 (by decide)
  have q71_ := hf 71 (by decide)
  have q72_ := hf 72 (by decide)
  have q73_ := hf 73 (by decide)
  have q74_ := hf 74 (by decide)
  have q75_ := hf 75 (by decide)
  have q76_ := hf 76 (by decide)
  have q77_ := hf 77 (by decide)
  have q78_ := hf 78 (by decide)
  have q79_ := hf 79 (by decide)
  have q80_ := hf 80 (by decide)
  have q81_ := hf 81 (by decide)
  have q82_ := hf 82 (by decide)
  have q83_ := hf 83 (by decide)
  have q84_ := hf 84 (by decide)
  have q85_ := hf 85 (by decide)
  have q86_ := hf 86 (by decide)
  have q87_ := hf 87 (by decide)
  have q88_ := hf 88 (by decide)
  have q89_ := hf 89 (by decide)
  simp only [Array.getD_eq_getD_getElem?, List.getElem?_toArray, List.getElem?_cons_zero, List.getElem?_cons_succ, Option.getD_some] at q0_ q1_ q2_ q3_ q4_ q5_ q6_ q7_ q8_ q9_ q10_ q11_ q13_ q14_ q15_ q16_ q17_ q18_ q19_ q20_ q21_ q22_ q23_ q24_ q25_ q26_ q27_ q28_ q29_ q30_ q31_ q32_ q33_ q34_ q35_ q36_ q37_ q38_ q39_ q40_ q41_ q42_ q43_ q44_ q45_ q46_ q47_ q48_ q49_ q50_ q51_ q52_ q63_ q64_ q65_ q66_ q67_ q68_ q69_ q70_ q71_ q72_ q73_ q74_ q75_ q76_ q77_ q78_ q79_ q80_ q81_ q82_ q83_ q84_ q85_ q86_ q87_ q88_ q89_
  rw [q0_, q1_, q2_, q3_, q4_, q5_, q6_, q7_, q8_, q9_, q10_, q11_, qx_, q13_, q14_, q15_, q16_, q17_, q18_, q19_, q20_, q21_, q22_, q23_, q24_, q25_, q26_, q27_, q28_, q29_, q30_, q31_, q32_, q33_, q34_, q35_, q36_, q37_, q38_, q39_, q40_, q41_, q42_, q43_, q44_, q45_, q46_, q47_, q48_, q49_, q50_, q51_, q52_, q53_, q54_, q55_, q56_, q57_, q59_, q60_, q62_, q63_, q64_, q65_, q66_, q67_, q68_, q69_, q70_, q71_, q72_, q73_, q74_, q75_, q76_, q77_, q78_, q79_, q80_, q81_, q82_, q83_, q84_, q85_, q86_, q87_, q88_, q89_]
  clear q0_ q1_ q2_ q3_ q4_ q5_ q6_ q7_ q8_ q9_ q10_ q11_ qx_ q13_ q14_ q15_ q16_ q17_ q18_ q19_ q20_ q21_ q22_ q23_ q24_ q25_ q26_ q27_ q28_ q29_ q30_ q31_ q32_ q33_ q34_ q35_ q36_ q37_ q38_ q39_ q40_ q41_ q42_ q43_ q44_ q45_ q46_ q47_ q48_ q49_ q50_ q51_ q52_ q53_ q54_ q55_ q56_ q57_ q59_ q60_ q62_ q63_ q64_ q65_ q66_ q67_ q68_ q69_ q70_ q71_ q72_ q73_ q74_ q75_ q76_ q77_ q78_ q79_ q80_ q81_ q82_ q83_ q84_ q85_ q86_ q87_ q88_ q89_ hf hd
  generalize ff 58 = v58_
  generalize ff 61 = v61_
  clear ff
  have b_ : Below _ _ wx := hJ
  clear hJ
  have zx := b_.size
  replace HS := Lib.hid (HS.out.below b_ (by omega)); replace HV := Lib.hid (HV.out.below b_ (by omega)); replace HZ := Lib.hid (HZ.out.below b_ (by omega)); replace HB := Lib.hid (HB.out.trans (b_.mono (by omega)))
  have HX := Lib.hid kb_; have HTE := Lib.hid ot_
  have HTC : Hid (∀ g, obA AT_ = some g → w7.heap.size ≤ g ∧ g < wx.heap.size) := Lib.hid (own_ob ot_)
  have HNE : Hid (obA AT_ ≠ some gb_) := Lib.hid (own_not (by decide) ot_ kb_)
  have hgx : gb_ < wx.heap.size := kb_.lt
  clear b_ kb_ ot_ c1 c2 c3 c4 HNW
  have HSC : Hid (wx.cell? ⟨w.heap.size, 5, none⟩ = some (.slice A vs.length c)) := Lib.hid (HS.out.cell 5)
  have c5 := HS.out.cell 5
  go_wp2_with fail
  go_loopw [13] (fun i wr => ∃ (k : Nat) (A2 : Option Addr) (c2 : Nat) (zs : List (List Nt)) (hs : List Hd), k ≤ vs.length ∧ i = .int .i64 k ∧ zs = (vs.take k).map (shL s h) ∧ (∀ j, j < k → shB s h (glV vs j) = true) ∧ Blk wr gb_ 28 #[.int .i64 fk, .bool m, .int .i64 b, .int .i64 u, .slice AT_ ts.length ct_, .slice A2 hs.length c2] ∧ VH wr wx.heap.size A2 c2 zs hs ∧ wr.ownsRow w7.heap.size 60 2 (.slice AT_ ts.length ct_) ts.length (fl encTempo ts) ∧ Blk wr w.heap.size 28 #[.int .i64 f, .bool m, .int .i64 b, .int .i64 u, .slice (some ⟨bc, oc, none⟩) ts.length d, .slice A vs.length c] ∧ Blk wr (w.heap.size + 1) 30 #[.int .i64 s, .int .i64 h] ∧ Blk wr (w.heap.size + 2) 28 #[.int .i64 0, .bool false, .int .i64 0, .int .i64 0, .slice none 0 0, .slice none 0 0] ∧ Below w.heap.size w wr ∧ wx.heap.size ≤ wr.heap.size) (fun i _ => vs.length - (intOf i).toNat)
  case atStart => exact ⟨0, none, 0, [], [], Nat.zero_le _, rfl, rfl, fun j h => by omega, HX.out, VH.nil _ _, HTE.out, HS.out, HV.out, HZ.out, HB.out, Nat.le_refl _⟩
  case round =>
    clear HX HTE HS HV HZ HB c5 HSC
    obtain ⟨k, A2, c2, zs, hs, hk, rfl, hz_, hall, hx_, hvh_, hte_, hs_, hv_, hzz_, hb_, hsz⟩ := hrel
    have HZS := Lib.hid hz_; have HA := Lib.hid hall; have HX := Lib.hid hx_; have HVH := Lib.hid hvh_; have HTE := Lib.hid hte_; have HS := Lib.hid hs_; have HV := Lib.hid hv_; have HZ := Lib.hid hzz_; have HB := Lib.hid hb_
    have HLH : Hid (hs.length = zs.length) := Lib.hid hvh_.len
    have HLZ : Hid (zs.length = k) := Lib.hid (by rw [hz_]; simp; omega)
    clear hz_ hall hx_ hvh_ hte_ hs_ hv_ hzz_ hb_
    by_cases hlt2 : k < vs.length
    · obtain ⟨b8, off, C8, d8, rfl, hb8, hc8, hn8⟩ := (RdVs.below HVS.out HB.out (Nat.le_refl _)).at_ hlt2
      have HN := Lib.hid (RdNote.more hn8 HB.out.size); clear hn8
      have hi1 : (k : Int) < (vs.length : Int) := by omega
      have hl8 := hlv.at_ hlt2
      have v0 := HV.out.cell 0; have v1 := HV.out.cell 1; have c5 := HS.out.cell 5
      have HBAD : Hid (shB s h (glV vs k) = false → ssB f m b u ts vs s h = false) := Lib.hid (fun h9 => ssB_bad hlt2 h9)
      have HA2 : Hid (shB s h (glV vs k) = true → ∀ j, j < k + 1 → shB s h (glV vs j) = true) := Lib.hid (fun h9 j hj => by
        rcases Nat.lt_or_ge j k with h | h
        · exact HA.out j h
        · obtain rfl : j = k := by omega
          exact h9)
      have HTK : Hid ((vs.take (k + 1)).map (shL s h) = zs ++ [shL s h (glV vs k)]) := Lib.hid (by rw [tk_succ hlt2, HZS.out])
      have hln : (shL s h (glV vs k)).length ≤ (glV vs k).length := shL_len
      have HCT := Lib.hid (fun W hN => spec_ShiftVoice C8 d8 (glV vs k) s h W hN hl8)
      generalize hv9 : glV vs k = v at *
      clear hv9
      generalize hq9 : shL s h v = v9 at *
      have HQ9 := Lib.hid hq9; clear hq9
      cases hsb9 : shB s h v
      case false =>
        have HF := Lib.hid (HBAD.out hsb9)
        have HSB := Lib.hid hsb9; clear hsb9 HBAD
        go_upto_region 12 with fail
        go_region_held3 (fun w' => w'.cell? ⟨w.heap.size, 5, none⟩ = some (.slice (some ⟨b8, off, none⟩) vs.length c) ∧ w'.cell? ⟨b8, off + k, none⟩ = some (.slice C8 v.length d8) ∧ w'.cell? ⟨w.heap.size + 1, 0, none⟩ = some (.int .i64 s) ∧ w'.cell? ⟨w.heap.size + 1, 1, none⟩ = some (.int .i64 h)) (first | exact ⟨c5, hc8, v0, v1⟩ | exact ⟨X9.out.1, X9.out.2.1.trans hc8, X9.out.2.2.1, X9.out.2.2.2⟩)
          (first | (go_at_call 28; refine (HCT.out wr.drew HN.out).mono ?_; rw [HSB.out]; rintro e w9 ⟨A9, c9, rfl, o9, b9⟩; have HO9 : Hid (w9.ownsRow wr.heap.size 68 6 (.slice A9 v9.length c9) v9.length (fl encNote v9)) := Lib.hid o9; replace HX := Lib.hid HX.out.drew; replace HTE := Lib.hid (own_drew HTE.out); replace HS := Lib.hid HS.out.drew; replace HV := Lib.hid HV.out.drew; replace HZ := Lib.hid HZ.out.drew; replace HB := Lib.hid HB.out.drew; have hdz : wr.drew.heap.size = wr.heap.size := rfl; have z9 : wr.heap.size ≤ w9.heap.size := b9.size; replace HX := Lib.hid (HX.out.below b9 (by omega)); replace HTE := Lib.hid (own_bel HTE.out b9); replace HS := Lib.hid (HS.out.below b9 (by omega)); replace HV := Lib.hid (HV.out.below b9 (by omega)); replace HZ := Lib.hid (HZ.out.below b9 (by omega)); replace HB := Lib.hid (HB.out.trans (b9.mono (by omega))); have HB9 : Hid (Below wr.heap.size wr w9) := Lib.hid (below_drew_left b9); have X9 := Lib.hid (And.intro (HS.out.cell 5) (And.intro (b9.cell (p := ⟨b8, off + k, none⟩) (show b8 < wr.heap.size by omega)) (And.intro (HV.out.cell 0) (HV.out.cell 1))));  clear b9 o9))
        clear v0 v1 c5
        have d0 := HZ.out.cell 0; have f0 := HZ.out.frozen 0; have d1 := HZ.out.cell 1; have f1 := HZ.out.frozen 1; have d2 := HZ.out.cell 2; have f2 := HZ.out.frozen 2; have d3 := HZ.out.cell 3; have f3 := HZ.out.frozen 3; have d4 := HZ.out.cell 4; have f4 := HZ.out.frozen 4; have d5 := HZ.out.cell 5; have f5 := HZ.out.frozen 5
        go_wp2_with fail
        have HB3 := Lib.hid (Below.setCell (Below.setCell (Below.setCell (Below.setCell (Below.setCell (Below.setCell HB.out (p := ⟨w.heap.size + 2, 0, none⟩) (by first | exact Nat.le_refl _ | exact Nat.le_add_right _ _ | omega | (simp; omega)) (.int .i64 0)) (p := ⟨w.heap.size + 2, 1, none⟩) (by first | exact Nat.le_refl _ | exact Nat.le_add_right _ _ | omega | (simp; omega)) (.bool false)) (p := ⟨w.heap.size + 2, 2, none⟩) (by first | exact Nat.le_refl _ | exact Nat.le_add_right _ _ | omega | (simp; omega)) (.int .i64 0)) (p := ⟨w.heap.size + 2, 3, none⟩) (by first | exact Nat.le_refl _ | exact Nat.le_add_right _ _ | omega | (simp; omega)) (.int .i64 0)) (p := ⟨w.heap.size + 2, 4, none⟩) (by first | exact Nat.le_refl _ | exact Nat.le_add_right _ _ | omega | (simp; omega)) (.slice none 0 0)) (p := ⟨w.heap.size + 2, 5, none⟩) (by first | exact Nat.le_refl _ | exact Nat.le_add_right _ _ | omega | (simp; omega)) (.slice none 0 0))
        have HZ3 := Lib.hid ((((((HZ.out.set_ 0 (.int .i64 0)).set_ 1 (.bool false)).set_ 2 (.int .i64 0)).set_ 3 (.int .i64 0)).set_ 4 (.slice none 0 0)).set_ 5 (.slice none 0 0))
        clear d0 f0 d1 f1 d2 f2 d3 f3 d4 f4 d5 f5
        generalize ((((((w9.setCell ⟨w.heap.size + 2, 0, none⟩ (.int .i64 0)).setCell ⟨w.heap.size + 2, 1, none⟩ (.bool false)).setCell ⟨w.heap.size + 2, 2, none⟩ (.int .i64 0)).setCell ⟨w.heap.size + 2, 2 + 1, none⟩ (.int .i64 0)).setCell ⟨w.heap.size + 2, 4, none⟩ (.slice none 0 0)).setCell ⟨w.heap.size + 2, 5, none⟩ (.slice none 0 0)) = W9 at *
        have r0 : W9.cell? ⟨w.heap.size + 2, 0, none⟩ = some (.int .i64 0) := HZ3.out.cell 0
        have r1 : W9.cell? ⟨w.heap.size + 2, 1, none⟩ = some (.bool false) := HZ3.out.cell 1
        have r2 : W9.cell? ⟨w.heap.size + 2, 2, none⟩ = some (.int .i64 0) := HZ3.out.cell 2
        have r3 : W9.cell? ⟨w.heap.size + 2, 3, none⟩ = some (.int .i64 0) := HZ3.out.cell 3
        have r4 : W9.cell? ⟨w.heap.size + 2, 4, none⟩ = some (.slice none 0 0) := HZ3.out.cell 4
        have r5 : W9.cell? ⟨w.heap.size + 2, 5, none⟩ = some (.slice none 0 0) := HZ3.out.cell 5
        refine bodyPost_ret (v := .tuple #[.agg #[.int .i64 0, .bool false, .int .i64 0, .int .i64 0, .slice none 0 0, .slice none 0 0], .bool false]) (by simp [results, Try.results6, go_sem, r0, r1, r2, r3, r4, r5]) rfl ?_
        rw [ssL_no HF.out, HF.out]; exact retSS_zero HB3.out
      case true =>
        replace HA2 := Lib.hid (HA2.out hsb9)
        have HSB := Lib.hid hsb9; clear hsb9 HBAD
        go_upto_region 12 with fail
        go_region_held3 (fun w' => w'.cell? ⟨w.heap.size, 5, none⟩ = some (.slice (some ⟨b8, off, none⟩) vs.length c) ∧ w'.cell? ⟨b8, off + k, none⟩ = some (.slice C8 v.length d8) ∧ w'.cell? ⟨w.heap.size + 1, 0, none⟩ = some (.int .i64 s) ∧ w'.cell? ⟨w.heap.size + 1, 1, none⟩ = some (.int .i64 h)) (first | exact ⟨c5, hc8, v0, v1⟩ | exact ⟨X9.out.1, X9.out.2.1.trans hc8, X9.out.2.2.1, X9.out.2.2.2⟩)
          (first | (go_at_call 28; refine (HCT.out wr.drew HN.out).mono ?_; rw [HSB.out]; rintro e w9 ⟨A9, c9, rfl, o9, b9⟩; have HO9 : Hid (w9.ownsRow wr.heap.size 68 6 (.slice A9 v9.length c9) v9.length (fl encNote v9)) := Lib.hid o9; replace HX := Lib.hid HX.out.drew; replace HTE := Lib.hid (own_drew HTE.out); replace HS := Lib.hid HS.out.drew; replace HV := Lib.hid HV.out.drew; replace HZ := Lib.hid HZ.out.drew; replace HB := Lib.hid HB.out.drew; have hdz : wr.drew.heap.size = wr.heap.size := rfl; have z9 : wr.heap.size ≤ w9.heap.size := b9.size; replace HX := Lib.hid (HX.out.below b9 (by omega)); replace HTE := Lib.hid (own_bel HTE.out b9); replace HS := Lib.hid (HS.out.below b9 (by omega)); replace HV := Lib.hid (HV.out.below b9 (by omega)); replace HZ := Lib.hid (HZ.out.below b9 (by omega)); replace HB := Lib.hid (HB.out.trans (b9.mono (by omega))); have HB9 : Hid (Below wr.heap.size wr w9) := Lib.hid (below_drew_left b9); have X9 := Lib.hid (And.intro (HS.out.cell 5) (And.intro (b9.cell (p := ⟨b8, off + k, none⟩) (show b8 < wr.heap.size by omega)) (And.intro (HV.out.cell 0) (HV.out.cell 1))));  clear b9 o9))
        clear v0 v1 c5
        have HOB := Lib.hid (own_ob HVH.out.out)
        have HNX : Hid (obA A2 ≠ some gb_) := Lib.hid (fun e9 => by have := HOB.out _ e9; omega)
        have hhs : hs.length ≤ 4 := by have h1 := HLH.out; have h2 := HLZ.out; omega
        have x5 := HX.out.cell 5
        go_wp2_with (at_builtin; refine app_rec (enc := encHd) rfl _ _ 26 rfl wx.heap.size 56 i9 (.slice none 0 0) 24 Try.underlying26 GI.out G0.out G1.out G2.out rfl (by decide) (by decide) w9 A2 c2 hs (own_bel HVH.out.out HB9.out) (by omega) (by omega) rfl (A9, v9.length, c9) [.slice A9 v9.length c9] rfl rfl (by simp [Value.oneCell']) w9.heap.size rfl rfl ?_; intro g2 cap2 w10 o10 gr10; have O10 := Lib.hid o10; have GR := Lib.hid gr10; replace HX := Lib.hid (gr10.blk HX.out HNX.out); clear x5; have x5 := HX.out.cell 5; have q5 := HX.out.frozen 5; clear o10 gr10)
        have B10 := Lib.hid (GR.out.below (B := wx.heap.size) (by omega) (fun q e => (HOB.out q e).1))
        have z10 := GR.out.1.size
        have HVN := Lib.hid (HVH.out.app HB9.out hsz HO9.out O10.out GR.out)
        replace HTE := Lib.hid (GR.out.own HTE.out (fun g e9 e10 => by have h1 := HTC.out _ e9; have h2 := HOB.out _ e10; omega))
        replace HS := Lib.hid (HS.out.below B10.out (by omega)); replace HV := Lib.hid (HV.out.below B10.out (by omega)); replace HZ := Lib.hid (HZ.out.below B10.out (by omega)); replace HB := Lib.hid (HB.out.trans (B10.out.mono (by omega)))
        have HL10 : Hid ((hs ++ [(A9, v9.length, c9)]).length = hs.length + 1) := Lib.hid (by simp)
        have hgw : w.heap.size + 3 ≤ gb_ := by omega
        go_roundw
        case rel => exact ⟨k + 1, some ⟨g2, 0, none⟩, cap2, zs ++ [v9], hs ++ [(A9, v9.length, c9)], by omega, by go_num, HTK.out.symm, HA2.out, by rw [HL10.out]; exact HX.out.set_ 5 _, HVN.out.far (p := ⟨gb_, 5, none⟩) hgx _, own_far HTE.out (p := ⟨gb_, 5, none⟩) HNE.out _, HS.out.far (by simp; omega) _, HV.out.far (by simp; omega) _, HZ.out.far (by simp; omega) _, HB.out.setCell (by simp; omega) _, by simp; omega⟩
        case measure => simp [intOf]; omega
    · obtain rfl : k = vs.length := by omega
      have hi1 : ¬ (vs.length : Int) < (vs.length : Int) := by omega
      have HF : Hid (ssB f m b u ts vs s h = true) := Lib.hid (ssB_iff.2 ⟨HVV.out, HIV.out, by rw [HM2.out], by rw [HN2.out], HA.out⟩)
      have HX9 : Hid (zs = vs.map (shL s h)) := Lib.hid (by rw [HZS.out, List.take_length])
      have c5 := HS.out.cell 5
      have x0 := HX.out.cell 0; have x1 := HX.out.cell 1; have x2 := HX.out.cell 2; have x3 := HX.out.cell 3; have x4 := HX.out.cell 4; have x5 := HX.out.cell 5
      have d0 := HZ.out.cell 0; have f0 := HZ.out.frozen 0; have d1 := HZ.out.cell 1; have f1 := HZ.out.frozen 1; have d2 := HZ.out.cell 2; have f2 := HZ.out.frozen 2; have d3 := HZ.out.cell 3; have f3 := HZ.out.frozen 3; have d4 := HZ.out.cell 4; have f4 := HZ.out.frozen 4; have d5 := HZ.out.cell 5; have f5 := HZ.out.frozen 5
      go_wp2_with fail
      have HNR : obA AT_ ≠ some (w.heap.size + 2) := fun e9 => by have := HTC.out _ e9; omega
      have HB3 := Lib.hid (Below.setCell (Below.setCell (Below.setCell (Below.setCell (Below.setCell (Below.setCell HB.out (p := ⟨w.heap.size + 2, 0, none⟩) (by first | exact Nat.le_refl _ | exact Nat.le_add_right _ _ | omega) (.int .i64 fk)) (p := ⟨w.heap.size + 2, 1, none⟩) (by first | exact Nat.le_refl _ | exact Nat.le_add_right _ _ | omega) (.bool m)) (p := ⟨w.heap.size + 2, 2, none⟩) (by first | exact Nat.le_refl _ | exact Nat.le_add_right _ _ | omega) (.int .i64 b)) (p := ⟨w.heap.size + 2, 3, none⟩) (by first | exact Nat.le_refl _ | exact Nat.le_add_right _ _ | omega) (.int .i64 u)) (p := ⟨w.heap.size + 2, 4, none⟩) (by first | exact Nat.le_refl _ | exact Nat.le_add_right _ _ | omega) (.slice AT_ ts.length ct_)) (p := ⟨w.heap.size + 2, 5, none⟩) (by first | exact Nat.le_refl _ | exact Nat.le_add_right _ _ | omega) (.slice A2 hs.length c2))
      have HZ3 := Lib.hid ((((((HZ.out.set_ 0 (.int .i64 fk)).set_ 1 (.bool m)).set_ 2 (.int .i64 b)).set_ 3 (.int .i64 u)).set_ 4 (.slice AT_ ts.length ct_)).set_ 5 (.slice A2 hs.length c2))
      have HT3 := Lib.hid (own_far (own_far (own_far (own_far (own_far (own_far HTE.out (p := ⟨w.heap.size + 2, 0, none⟩) HNR (.int .i64 fk)) (p := ⟨w.heap.size + 2, 1, none⟩) HNR (.bool m)) (p := ⟨w.heap.size + 2, 2, none⟩) HNR (.int .i64 b)) (p := ⟨w.heap.size + 2, 3, none⟩) HNR (.int .i64 u)) (p := ⟨w.heap.size + 2, 4, none⟩) HNR (.slice AT_ ts.length ct_)) (p := ⟨w.heap.size + 2, 5, none⟩) HNR (.slice A2 hs.length c2))
      have HV3 := Lib.hid ((((((HVH.out.far (p := ⟨w.heap.size + 2, 0, none⟩) (by show w.heap.size + 2 < wx.heap.size; omega) (.int .i64 fk)).far (p := ⟨w.heap.size + 2, 1, none⟩) (by show w.heap.size + 2 < wx.heap.size; omega) (.bool m)).far (p := ⟨w.heap.size + 2, 2, none⟩) (by show w.heap.size + 2 < wx.heap.size; omega) (.int .i64 b)).far (p := ⟨w.heap.size + 2, 3, none⟩) (by show w.heap.size + 2 < wx.heap.size; omega) (.int .i64 u)).far (p := ⟨w.heap.size + 2, 4, none⟩) (by show w.heap.size + 2 < wx.heap.size; omega) (.slice AT_ ts.length ct_)).far (p := ⟨w.heap.size + 2, 5, none⟩) (by show w.heap.size + 2 < wx.heap.size; omega) (.slice A2 hs.length c2))
      have HSZ9 : Hid (wr.heap.size = ((((((wr.setCell ⟨w.heap.size + 2, 0, none⟩ (.int .i64 fk)).setCell ⟨w.heap.size + 2, 1, none⟩ (.bool m)).setCell ⟨w.heap.size + 2, 2, none⟩ (.int .i64 b)).setCell ⟨w.heap.size + 2, 2 + 1, none⟩ (.int .i64 u)).setCell ⟨w.heap.size + 2, 4, none⟩ (.slice AT_ ts.length ct_)).setCell ⟨w.heap.size + 2, 5, none⟩ (.slice A2 hs.length c2)).heap.size) := Lib.hid (by simp)
      clear d0 f0 x0 d1 f1 x1 d2 f2 x2 d3 f3 x3 d4 f4 x4 d5 f5 x5 c5
      generalize ((((((wr.setCell ⟨w.heap.size + 2, 0, none⟩ (.int .i64 fk)).setCell ⟨w.heap.size + 2, 1, none⟩ (.bool m)).setCell ⟨w.heap.size + 2, 2, none⟩ (.int .i64 b)).setCell ⟨w.heap.size + 2, 2 + 1, none⟩ (.int .i64 u)).setCell ⟨w.heap.size + 2, 4, none⟩ (.slice AT_ ts.length ct_)).setCell ⟨w.heap.size + 2, 5, none⟩ (.slice A2 hs.length c2)) = W9 at *
      have r0 : W9.cell? ⟨w.heap.size + 2, 0, none⟩ = some (.int .i64 fk) := HZ3.out.cell 0
      have r1 : W9.cell? ⟨w.heap.size + 2, 1, none⟩ = some (.bool m) := HZ3.out.cell 1
      have r2 : W9.cell? ⟨w.heap.size + 2, 2, none⟩ = some (.int .i64 b) := HZ3.out.cell 2
      have r3 : W9.cell? ⟨w.heap.size + 2, 3, none⟩ = some (.int .i64 u) := HZ3.out.cell 3
      have r4 : W9.cell? ⟨w.heap.size + 2, 4, none⟩ = some (.slice AT_ ts.length ct_) := HZ3.out.cell 4
      have r5 : W9.cell? ⟨w.heap.size + 2, 5, none⟩ = some (.slice A2 hs.length c2) := HZ3.out.cell 5
      refine bodyPost_ret (v := .tuple #[.agg #[.int .i64 fk, .bool m, .int .i64 b, .int .i64 u, .slice AT_ ts.length ct_, .slice A2 hs.length c2], .bool true]) (by simp [results, Try.results6, go_sem, r0, r1, r2, r3, r4, r5]) rfl ?_
      rw [ssL_yes HF.out, HF.out, HN2.out, ← HX9.out]
      have hle := HB3.out.size
      have how := HV3.out.ow
      refine ⟨AT_, A2, ct_, c2, wx.heap.size, hs, by rw [HLH.out], ⟨⟨own_mono HT3.out (by omega), fun g e => (HTC.out g (by rw [← ob_slice]; exact e)).2⟩, how, by omega, ?_⟩, HB3.out⟩
      have h9 := HSZ9.out
      omega
end Go.Proofs.Ytnkoijkelcjloaa
