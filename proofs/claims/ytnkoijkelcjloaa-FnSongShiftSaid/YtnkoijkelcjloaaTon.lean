/- Contracts of the tonics of keys and of the keys of tonics, of the program and of the reference. Conditions: keys within -7 .. 7. -/
import Derived.Test.YtnkoijkelcjloaaShfD
namespace Go.Proofs.Ytnkoijkelcjloaa
open Go.RowKit
set_option linter.unusedSimpArgs false
set_option linter.unusedVariables false
set_option maxRecDepth 100000
theorem tmod7 {n : Int} : (n.tmod 7 + 7).tmod 7 = n % 7 ∧ -6 ≤ n.tmod 7 ∧ n.tmod 7 ≤ 6 := by
  rcases Int.le_total 0 n with h | h
  · rw [Int.tmod_eq_emod_of_nonneg h]
    have : 0 ≤ n % 7 + 7 := by omega
    rw [Int.tmod_eq_emod_of_nonneg this]
    omega
  · obtain ⟨m, rfl⟩ : ∃ m : Int, n = -m := ⟨-n, by omega⟩
    rw [Int.neg_tmod, Int.tmod_eq_emod_of_nonneg (show 0 ≤ m by omega)]
    have : 0 ≤ -(m % 7) + 7 := by omega
    rw [Int.tmod_eq_emod_of_nonneg this]
    omega
theorem impl_modulo (n : Int) (w : World) : Calls Try.prog 71 #[.int .i64 n, .int .i64 7] w fun e w' => e = .returned (.int .i64 (n % 7)) ∧ w = w' := by
  obtain ⟨h1, h2, h3⟩ := tmod7 (n := n)
  have HF : Hid ((n.tmod 7 + 7) % 7 = n % 7) := Lib.hid ((Int.tmod_eq_emod_of_nonneg (show 0 ≤ n.tmod 7 + 7 by omega)).symm.trans h1)
  have hv : IntKind.i64.wrap (n.tmod 7 + 7) = n.tmod 7 + 7 := IntWalk.i64_in _ (by omega)
  clear h1
  go_enter Try.func71, Try.ntmps71
  go_wp2_with fail
  go_ret
  exact ⟨ret_int HF.out, rfl⟩
theorem impl_tonicPlace (f : Int) (m : Bool) (w : World) (hf : -7 ≤ f ∧ f ≤ 7) : Calls Try.prog 49 #[.int .i64 f, .bool m] w fun e w' => e = .returned (.int .i64 (28 + tonS f m)) ∧ w = w' := by
  have hb := tonS_bd f m
  have h1 : 4 * f % 7 = (4 * f + 70) % 7 := by omega
  have hv : IntKind.i64.wrap (4 * f) = 4 * f := IntWalk.i64_in _ (by omega)
  cases m
  · have HF : Hid (28 + tonS f false = 28 + 4 * f % 7) := Lib.hid (by unfold tonS; rw [if_neg (by simp), h1])
    clear h1
    go_enter Try.func49, Try.ntmps49
    go_wp2_with (go_at_call 71; refine (impl_modulo (4 * f) _).mono ?_; rintro e w' ⟨rfl, rfl⟩)
    go_ret
    exact ⟨ret_int HF.out.symm, rfl⟩
  · have HF : Hid (28 + tonS f true = 28 + (4 * f + 5) % 7) := Lib.hid (by unfold tonS; rw [if_pos rfl]; omega)
    have h2 : (4 * f % 7 + 5).tmod 7 = (4 * f % 7 + 5) % 7 := Int.tmod_eq_emod_of_nonneg (by omega)
    clear h1
    go_enter Try.func49, Try.ntmps49
    go_wp2_with (go_at_call 71; refine (impl_modulo (4 * f) _).mono ?_; rintro e w' ⟨rfl, rfl⟩)
    go_ret
    exact ⟨ret_int HF.out.symm, rfl⟩
theorem impl_keyPitch (f p : Int) (w : World) (hf : -7 ≤ f ∧ f ≤ 7) (hp : 0 ≤ p ∧ p ≤ 100) : Calls Try.prog 48 #[.int .i64 f, .int .i64 p] w fun e w' => e = .returned (.agg #[.int .i64 (p % 7), .int .i64 (altL f (p % 7)), .int .i64 (p / 7)]) ∧ Below w.heap.size w w' := by
  have hm : p.tmod 7 = p % 7 := Int.tmod_eq_emod_of_nonneg hp.1
  have hd : p.tdiv 7 = p / 7 := Int.tdiv_eq_ediv_of_nonneg hp.1
  have hr : 0 ≤ p % 7 ∧ p % 7 ≤ 6 := by omega
  have HK := Lib.hid (Blk.new w 50 #[.int .i64 0, .int .i64 0, .int .i64 0])
  have HB := Lib.hid ((Below.refl w.heap.size w).alloc (Nat.le_refl _) (.cells #[.int .i64 0, .int .i64 0, .int .i64 0] 50))
  have z0 : w.heap.size + 1 ≤ (w.alloc (.cells #[.int .i64 0, .int .i64 0, .int .i64 0] 50)).heap.size := by simp
  go_enter Try.func48, Try.ntmps48
  go_upto_region 1 with fail
  generalize w.alloc (.cells #[.int .i64 0, .int .i64 0, .int .i64 0] 50) = w0 at *
  go_wp2_with (go_at_call 65; refine (impl_KeyAlter f (p % 7) _ hf hr).mono ?_; rintro e w1 ⟨rfl, b1⟩; replace HK := Lib.hid (HK.out.below b1 (by omega)); replace HB := Lib.hid (HB.out.trans (b1.mono (by omega))); clear b1; have d0 := HK.out.cell 0; have d1 := HK.out.cell 1; have d2 := HK.out.cell 2; have f0 := HK.out.frozen 0; have f1 := HK.out.frozen 1; have f2 := HK.out.frozen 2)
  have HK3 := Lib.hid (((HK.out.set_ 0 (.int .i64 (p % 7))).set_ 1 (.int .i64 (altL f (p % 7)))).set_ 2 (.int .i64 (p / 7)))
  have HB3 := Lib.hid (Below.setCell (Below.setCell (Below.setCell HB.out (p := ⟨w.heap.size, 0, none⟩) (by first | exact Nat.le_refl _ | exact Nat.le_add_right _ _ | omega | (simp; omega)) (.int .i64 (p % 7))) (p := ⟨w.heap.size, 1, none⟩) (by first | exact Nat.le_refl _ | exact Nat.le_add_right _ _ | omega | (simp; omega)) (.int .i64 (altL f (p % 7)))) (p := ⟨w.heap.size, 2, none⟩) (by first | exact Nat.le_refl _ | exact Nat.le_add_right _ _ | omega | (simp; omega)) (.int .i64 (p / 7)))
  generalize (((w1.setCell ⟨w.heap.size, 0, none⟩ (.int .i64 (p % 7))).setCell ⟨w.heap.size, 1, none⟩ (.int .i64 (altL f (p % 7)))).setCell ⟨w.heap.size, 2, none⟩ (.int .i64 (p / 7))) = W at *
  have r0 : W.cell? ⟨w.heap.size, 0, none⟩ = some (.int .i64 (p % 7)) := HK3.out.cell 0
  have r1 : W.cell? ⟨w.heap.size, 1, none⟩ = some (.int .i64 (altL f (p % 7))) := HK3.out.cell 1
  have r2 : W.cell? ⟨w.heap.size, 2, none⟩ = some (.int .i64 (p / 7)) := HK3.out.cell 2
  refine bodyPost_ret (v := .agg #[.int .i64 (p % 7), .int .i64 (altL f (p % 7)), .int .i64 (p / 7)]) (by simp [results, Try.results48, go_sem, r0, r1, r2]) rfl ⟨rfl, HB3.out⟩
theorem impl_KeyTonic (f : Int) (m : Bool) (w : World) (hf : -7 ≤ f ∧ f ≤ 7) : Calls Try.prog 19 #[.int .i64 f, .bool m] w (RetPB w ((tonS f m, altL f (tonS f m), 4), true)) := by
  have hb := tonS_bd f m
  have HI : Hid (inR f (-7) 7 = true) := Lib.hid (inR_iff.2 hf)
  have HP : Hid ((28 + tonS f m) % 7 = tonS f m ∧ (28 + tonS f m) / 7 = 4) := Lib.hid (by omega)
  have HK := Lib.hid (Blk.new w 50 #[.int .i64 0, .int .i64 0, .int .i64 0])
  have HB := Lib.hid ((Below.refl w.heap.size w).alloc (Nat.le_refl _) (.cells #[.int .i64 0, .int .i64 0, .int .i64 0] 50))
  have z0 : w.heap.size + 1 ≤ (w.alloc (.cells #[.int .i64 0, .int .i64 0, .int .i64 0] 50)).heap.size := by simp
  go_enter Try.func19, Try.ntmps19
  go_upto_region 1 with fail
  generalize w.alloc (.cells #[.int .i64 0, .int .i64 0, .int .i64 0] 50) = w0 at *
  generalize hs9 : tonS f m = s at *
  have HS : Hid (tonS f m = s) := Lib.hid hs9
  clear hs9
  go_wp2_with (first
    | (go_at_call 31; refine (impl_isKey f _).mono ?_; rw [HI.out]; rintro e w' ⟨rfl, rfl⟩)
    | (go_at_call 49; refine (impl_tonicPlace f m _ hf).mono ?_; rw [HS.out]; rintro e w' ⟨rfl, rfl⟩)
    | (go_at_call 48; refine (impl_keyPitch f (28 + s) _ hf (by omega)).mono ?_; rw [HP.out.1, HP.out.2]; rintro e w1 ⟨rfl, b1⟩; replace HK := Lib.hid (HK.out.below b1 (by omega)); replace HB := Lib.hid (HB.out.trans (b1.mono (by omega))); clear b1; have d0 := HK.out.cell 0; have d1 := HK.out.cell 1; have d2 := HK.out.cell 2; have f0 := HK.out.frozen 0; have f1 := HK.out.frozen 1; have f2 := HK.out.frozen 2))
  have HK3 := Lib.hid (((HK.out.set_ 0 (.int .i64 s)).set_ 1 (.int .i64 (altL f s))).set_ 2 (.int .i64 4))
  have HB3 := Lib.hid (Below.setCell (Below.setCell (Below.setCell HB.out (p := ⟨w.heap.size, 0, none⟩) (by first | exact Nat.le_refl _ | exact Nat.le_add_right _ _ | omega | (simp; omega)) (.int .i64 s)) (p := ⟨w.heap.size, 1, none⟩) (by first | exact Nat.le_refl _ | exact Nat.le_add_right _ _ | omega | (simp; omega)) (.int .i64 (altL f s))) (p := ⟨w.heap.size, 2, none⟩) (by first | exact Nat.le_refl _ | exact Nat.le_add_right _ _ | omega | (simp; omega)) (.int .i64 4))
  generalize (((w1.setCell ⟨w.heap.size, 0, none⟩ (.int .i64 s)).setCell ⟨w.heap.size, 1, none⟩ (.int .i64 (altL f s))).setCell ⟨w.heap.size, 2, none⟩ (.int .i64 4)) = W at *
  have r0 : W.cell? ⟨w.heap.size, 0, none⟩ = some (.int .i64 s) := HK3.out.cell 0
  have r1 : W.cell? ⟨w.heap.size, 1, none⟩ = some (.int .i64 (altL f s)) := HK3.out.cell 1
  have r2 : W.cell? ⟨w.heap.size, 2, none⟩ = some (.int .i64 4) := HK3.out.cell 2
  refine bodyPost_ret (v := .tuple #[.agg #[.int .i64 s, .int .i64 (altL f s), .int .i64 4], .bool true]) (by simp [results, Try.results19, go_sem, r0, r1, r2]) rfl ⟨rfl, HB3.out⟩
theorem spec_l3Tonic (f : Int) (m : Bool) (w : World) (hf : -7 ≤ f ∧ f ≤ 7) : Calls Try.prog 58 #[.int .i64 f, .bool m] w fun e w' => e = .returned (.int .i64 (tonS f m)) ∧ w = w' := by
  have h1 : (4 * f + 70).tmod 7 = (4 * f + 70) % 7 := Int.tmod_eq_emod_of_nonneg (by omega)
  have hv : IntKind.i64.wrap (4 * f) = 4 * f := IntWalk.i64_in _ (by omega)
  have hv2 : IntKind.i64.wrap (4 * f + 70) = 4 * f + 70 := IntWalk.i64_in _ (by omega)
  cases m
  · have HF : Hid (tonS f false = (4 * f + 70) % 7) := Lib.hid (by unfold tonS; rw [if_neg (by simp)])
    go_enter Try.func58, Try.ntmps58
    go_wp2_with fail
    go_ret
    exact ⟨ret_int HF.out.symm, rfl⟩
  · have HF : Hid (tonS f true = (4 * f + 70 + 5) % 7) := Lib.hid (by unfold tonS; rw [if_pos rfl]; omega)
    have h2 : ((4 * f + 70) % 7 + 5).tmod 7 = ((4 * f + 70) % 7 + 5) % 7 := Int.tmod_eq_emod_of_nonneg (by omega)
    go_enter Try.func58, Try.ntmps58
    go_wp2_with fail
    go_ret
    exact ⟨ret_int HF.out.symm, rfl⟩
theorem spec_KeyTonic (f : Int) (m : Bool) (w : World) (hf : -7 ≤ f ∧ f ≤ 7) : Calls Try.prog 25 #[.int .i64 f, .bool m] w (RetPB w ((tonS f m, altL f (tonS f m), 4), true)) := by
  have hb := tonS_bd f m
  have HI : Hid (inR f (-7) 7 = true) := Lib.hid (inR_iff.2 hf)
  have HK := Lib.hid (Blk.new w 50 #[.int .i64 0, .int .i64 0, .int .i64 0])
  have HB := Lib.hid ((Below.refl w.heap.size w).alloc (Nat.le_refl _) (.cells #[.int .i64 0, .int .i64 0, .int .i64 0] 50))
  have z0 : w.heap.size + 1 ≤ (w.alloc (.cells #[.int .i64 0, .int .i64 0, .int .i64 0] 50)).heap.size := by simp
  go_enter Try.func25, Try.ntmps25
  go_upto_region 1 with fail
  generalize w.alloc (.cells #[.int .i64 0, .int .i64 0, .int .i64 0] 50) = w0 at *
  generalize hs9 : tonS f m = s at *
  have HS : Hid (tonS f m = s) := Lib.hid hs9
  clear hs9
  go_wp2_with (first
    | (go_at_call 54; refine (spec_l1In _ _ _ _).mono ?_; rw [HI.out]; rintro e w' ⟨rfl, rfl⟩)
    | (go_at_call 58; refine (spec_l3Tonic f m _ hf).mono ?_; rw [HS.out]; rintro e w' ⟨rfl, rfl⟩)
    | (go_at_call 59; refine (spec_l3Alter f s _ hf hb).mono ?_; rintro e w1 ⟨rfl, b1⟩; replace HK := Lib.hid (HK.out.below b1 (by omega)); replace HB := Lib.hid (HB.out.trans (b1.mono (by omega))); clear b1; have d0 := HK.out.cell 0; have d1 := HK.out.cell 1; have d2 := HK.out.cell 2; have f0 := HK.out.frozen 0; have f1 := HK.out.frozen 1; have f2 := HK.out.frozen 2))
  have HK3 := Lib.hid (((HK.out.set_ 0 (.int .i64 s)).set_ 1 (.int .i64 (altL f s))).set_ 2 (.int .i64 4))
  have HB3 := Lib.hid (Below.setCell (Below.setCell (Below.setCell HB.out (p := ⟨w.heap.size, 0, none⟩) (by first | exact Nat.le_refl _ | exact Nat.le_add_right _ _ | omega | (simp; omega)) (.int .i64 s)) (p := ⟨w.heap.size, 1, none⟩) (by first | exact Nat.le_refl _ | exact Nat.le_add_right _ _ | omega | (simp; omega)) (.int .i64 (altL f s))) (p := ⟨w.heap.size, 2, none⟩) (by first | exact Nat.le_refl _ | exact Nat.le_add_right _ _ | omega | (simp; omega)) (.int .i64 4))
  generalize (((w1.setCell ⟨w.heap.size, 0, none⟩ (.int .i64 s)).setCell ⟨w.heap.size, 1, none⟩ (.int .i64 (altL f s))).setCell ⟨w.heap.size, 2, none⟩ (.int .i64 4)) = W at *
  have r0 : W.cell? ⟨w.heap.size, 0, none⟩ = some (.int .i64 s) := HK3.out.cell 0
  have r1 : W.cell? ⟨w.heap.size, 1, none⟩ = some (.int .i64 (altL f s)) := HK3.out.cell 1
  have r2 : W.cell? ⟨w.heap.size, 2, none⟩ = some (.int .i64 4) := HK3.out.cell 2
  refine bodyPost_ret (v := .tuple #[.agg #[.int .i64 s, .int .i64 (altL f s), .int .i64 4], .bool true]) (by simp [results, Try.results25, go_sem, r0, r1, r2]) rfl ⟨rfl, HB3.out⟩
set_option maxHeartbeats 4000000 in
theorem impl_KeyOf (s a o : Int) (m : Bool) (w : World) : Calls Try.prog 21 #[.agg #[.int .i64 s, .int .i64 a, .int .i64 o], .bool m] w fun e w' => e = .returned (.tuple #[.int .i64 (koL s a o m).1, .bool (koL s a o m).2]) ∧ Below w.heap.size w w' := by
  have HP := Lib.hid (Blk.new w 50 #[.int .i64 s, .int .i64 a, .int .i64 o])
  have HB := Lib.hid ((Below.refl w.heap.size w).alloc (Nat.le_refl _) (.cells #[.int .i64 s, .int .i64 a, .int .i64 o] 50))
  have z0 : w.heap.size + 1 ≤ (w.alloc (.cells #[.int .i64 s, .int .i64 a, .int .i64 o] 50)).heap.size := by simp
  go_enter Try.func21, Try.ntmps21
  go_upto_region 1 with fail
  generalize w.alloc (.cells #[.int .i64 s, .int .i64 a, .int .i64 o] 50) = w0 at *
  go_wp2_with fail
  go_loopw [6] (fun i wr => ∃ k : Nat, k ≤ 15 ∧ i = .int .i64 ((k : Int) - 7) ∧ (∀ j, j < k → kyB s a m ((j : Int) - 7) = false) ∧ Blk wr w.heap.size 50 #[.int .i64 s, .int .i64 a, .int .i64 o] ∧ Below w.heap.size w wr ∧ w.heap.size + 1 ≤ wr.heap.size) (fun i _ => (8 - intOf i).toNat)
  case atStart => exact ⟨0, Nat.zero_le _, rfl, fun j h => by omega, HP.out, HB.out, z0⟩
  case round =>
    clear HP HB z0
    obtain ⟨k, hk, rfl, hall, hp_, hb_, z0⟩ := hrel
    have HP := Lib.hid hp_; have HB := Lib.hid hb_; have HA := Lib.hid hall; clear hp_ hb_ hall
    have p0 := HP.out.cell 0; have p1 := HP.out.cell 1; have p2 := HP.out.cell 2
    by_cases hk15 : k < 15
    · have hle : (((k : Int) - 7 ≤ 7) = True) := eq_true (by omega)
      have hf : -7 ≤ (k : Int) - 7 ∧ (k : Int) - 7 ≤ 7 := by omega
      have hwr : IntKind.i64.wrap ((k : Int) - 7 + 1) = (k : Int) - 7 + 1 := IntWalk.i64_in _ (by omega)
      cases hv : pvB s a o
      · have HF : Hid (koL s a o m = (0, false)) := Lib.hid (ko_bad hv)
        have HV := Lib.hid hv; clear hv
        go_wp2_with (go_at_call 50; refine (impl_PitchValid s a o _).mono ?_; rw [HV.out]; rintro e w1 ⟨rfl, b1⟩; have HB1 := Lib.hid (HB.out.trans (b1.mono (by omega))); clear b1)
        refine bodyPost_ret (v := .tuple #[.int .i64 0, .bool false]) (by simp [results, Try.results21, go_sem]) rfl ⟨by rw [HF.out], HB1.out⟩
      have HV := Lib.hid hv
      have hcase : kyB s a m ((k : Int) - 7) = true ∨ kyB s a m ((k : Int) - 7) = false := by cases kyB s a m ((k : Int) - 7) <;> simp
      have HKY : Hid (kyB s a m ((k : Int) - 7) = (decide (tonS ((k : Int) - 7) m = s) && decide (altL ((k : Int) - 7) (tonS ((k : Int) - 7) m) = a))) := Lib.hid rfl
      have HIT : Hid (kyB s a m ((k : Int) - 7) = true → koL s a o m = ((k : Int) - 7, true)) := Lib.hid (fun h => ko_hit hv hk15 h HA.out)
      clear hv hcase
      go_upto_region 4 with (go_at_call 50; refine (impl_PitchValid s a o _).mono ?_; rw [HV.out]; rintro e w1 ⟨rfl, b1⟩; have z1 := b1.size; replace HP := Lib.hid (HP.out.below b1 (by omega)); replace HB := Lib.hid (HB.out.trans (b1.mono (by omega))); clear b1 p0 p1 p2)
      generalize hx1 : tonS ((k : Int) - 7) m = x1 at *
      have HX1 := Lib.hid hx1; clear hx1
      generalize hx2 : altL ((k : Int) - 7) x1 = x2 at *
      have HX2 := Lib.hid hx2; clear hx2
      go_upto_region 5 with (go_at_call 19; refine (impl_KeyTonic ((k : Int) - 7) m _ hf).mono ?_; rw [HX1.out, HX2.out]; rintro e w2 ⟨rfl, b2⟩; have z2 := b2.size; replace HP := Lib.hid (HP.out.below b2 (by omega)); replace HB := Lib.hid (HB.out.trans (b2.mono (by omega))); clear b2)
      have HT := Lib.hid (Blk.new w2 50 #[.int .i64 x1, .int .i64 x2, .int .i64 4])
      replace HP := Lib.hid (HP.out.alloc (.cells #[.int .i64 x1, .int .i64 x2, .int .i64 4] 50))
      replace HB := Lib.hid (HB.out.alloc (by omega) (.cells #[.int .i64 x1, .int .i64 x2, .int .i64 4] 50))
      have z3 : w2.heap.size + 1 ≤ (w2.alloc (.cells #[.int .i64 x1, .int .i64 x2, .int .i64 4] 50)).heap.size := by simp
      generalize w2.alloc (.cells #[.int .i64 x1, .int .i64 x2, .int .i64 4] 50) = w3 at *
      have t0 := HT.out.cell 0; have t1 := HT.out.cell 1
      have p0 := HP.out.cell 0; have p1 := HP.out.cell 1; have p2 := HP.out.cell 2
      by_cases e1 : x1 = s
      · by_cases e2 : x2 = a
        · have HF : Hid (koL s a o m = ((k : Int) - 7, true)) := Lib.hid (HIT.out (by rw [HKY.out, decide_eq_true e1, decide_eq_true e2]; rfl))
          have g1 : (x1 == s) = true := by simpa using e1
          have g2 : (x2 == a) = true := by simpa using e2
          clear e1 e2
          go_wp2_with fail
          refine bodyPost_ret (v := .tuple #[.int .i64 ((k : Int) - 7), .bool true]) (by simp [results, Try.results21, go_sem]) rfl ⟨by rw [HF.out], HB.out⟩
        · have HN : Hid (kyB s a m ((k : Int) - 7) = false) := Lib.hid (by rw [HKY.out, decide_eq_false e2, Bool.and_false])
          have g1 : (x1 == s) = true := by simpa using e1
          have g2 : (x2 == a) = false := by simpa using e2
          clear e1 e2
          go_wp2_with fail
          go_roundw
          case rel => exact ⟨k + 1, by omega, by congr 1; push_cast; omega, fun j hj => by
            rcases Nat.lt_or_ge j k with h | h
            · exact HA.out j h
            · obtain rfl : j = k := by omega
              exact HN.out, HP.out, HB.out, by omega⟩
          case measure => simp [intOf]; omega
      · have HN : Hid (kyB s a m ((k : Int) - 7) = false) := Lib.hid (by rw [HKY.out, decide_eq_false e1, Bool.false_and])
        have g1 : (x1 == s) = false := by simpa using e1
        clear e1
        go_wp2_with fail
        go_roundw
        case rel => exact ⟨k + 1, by omega, by congr 1; push_cast; omega, fun j hj => by
          rcases Nat.lt_or_ge j k with h | h
          · exact HA.out j h
          · obtain rfl : j = k := by omega
            exact HN.out, HP.out, HB.out, by omega⟩
        case measure => simp [intOf]; omega
    · obtain rfl : k = 15 := by omega
      have HF : Hid (koL s a o m = (0, false)) := Lib.hid (ko_none HA.out)
      have hle : ((((15 : Nat) : Int) - 7 ≤ 7) = False) := eq_false (by omega)
      go_wp2_with fail
      refine bodyPost_ret (v := .tuple #[.int .i64 0, .bool false]) (by simp [results, Try.results21, go_sem]) rfl ⟨by rw [HF.out], HB.out⟩
set_option maxHeartbeats 4000000 in
theorem spec_KeyOf (s a o : Int) (m : Bool) (w : World) : Calls Try.prog 27 #[.agg #[.int .i64 s, .int .i64 a, .int .i64 o], .bool m] w fun e w' => e = .returned (.tuple #[.int .i64 (koL s a o m).1, .bool (koL s a o m).2]) ∧ Below w.heap.size w w' := by
  have HP := Lib.hid (Blk.new w 50 #[.int .i64 s, .int .i64 a, .int .i64 o])
  have HB := Lib.hid ((Below.refl w.heap.size w).alloc (Nat.le_refl _) (.cells #[.int .i64 s, .int .i64 a, .int .i64 o] 50))
  have z0 : w.heap.size + 1 ≤ (w.alloc (.cells #[.int .i64 s, .int .i64 a, .int .i64 o] 50)).heap.size := by simp
  go_enter Try.func27, Try.ntmps27
  go_upto_region 1 with fail
  generalize w.alloc (.cells #[.int .i64 s, .int .i64 a, .int .i64 o] 50) = w0 at *
  go_wp2_with fail
  go_loopw [6] (fun i wr => ∃ k : Nat, k ≤ 15 ∧ i = .int .i64 ((k : Int) - 7) ∧ (∀ j, j < k → kyB s a m ((j : Int) - 7) = false) ∧ Blk wr w.heap.size 50 #[.int .i64 s, .int .i64 a, .int .i64 o] ∧ Below w.heap.size w wr ∧ w.heap.size + 1 ≤ wr.heap.size) (fun i _ => (8 - intOf i).toNat)
  case atStart => exact ⟨0, Nat.zero_le _, rfl, fun j h => by omega, HP.out, HB.out, z0⟩
  case round =>
    clear HP HB z0
    obtain ⟨k, hk, rfl, hall, hp_, hb_, z0⟩ := hrel
    have HP := Lib.hid hp_; have HB := Lib.hid hb_; have HA := Lib.hid hall; clear hp_ hb_ hall
    have p0 := HP.out.cell 0; have p1 := HP.out.cell 1; have p2 := HP.out.cell 2
    by_cases hk15 : k < 15
    · have hle : (((k : Int) - 7 ≤ 7) = True) := eq_true (by omega)
      have hf : -7 ≤ (k : Int) - 7 ∧ (k : Int) - 7 ≤ 7 := by omega
      have hwr : IntKind.i64.wrap ((k : Int) - 7 + 1) = (k : Int) - 7 + 1 := IntWalk.i64_in _ (by omega)
      cases hv : pvB s a o
      · have HF : Hid (koL s a o m = (0, false)) := Lib.hid (ko_bad hv)
        have HV := Lib.hid hv; clear hv
        go_wp2_with (go_at_call 60; refine (spec_PitchValid s a o _).mono ?_; rw [HV.out]; rintro e w1 ⟨rfl, b1⟩; have HB1 := Lib.hid (HB.out.trans (b1.mono (by omega))); clear b1)
        refine bodyPost_ret (v := .tuple #[.int .i64 0, .bool false]) (by simp [results, Try.results27, go_sem]) rfl ⟨by rw [HF.out], HB1.out⟩
      have HV := Lib.hid hv
      have hcase : kyB s a m ((k : Int) - 7) = true ∨ kyB s a m ((k : Int) - 7) = false := by cases kyB s a m ((k : Int) - 7) <;> simp
      have HKY : Hid (kyB s a m ((k : Int) - 7) = (decide (tonS ((k : Int) - 7) m = s) && decide (altL ((k : Int) - 7) (tonS ((k : Int) - 7) m) = a))) := Lib.hid rfl
      have HIT : Hid (kyB s a m ((k : Int) - 7) = true → koL s a o m = ((k : Int) - 7, true)) := Lib.hid (fun h => ko_hit hv hk15 h HA.out)
      clear hv hcase
      go_upto_region 4 with (go_at_call 60; refine (spec_PitchValid s a o _).mono ?_; rw [HV.out]; rintro e w1 ⟨rfl, b1⟩; have z1 := b1.size; replace HP := Lib.hid (HP.out.below b1 (by omega)); replace HB := Lib.hid (HB.out.trans (b1.mono (by omega))); clear b1 p0 p1 p2)
      generalize hx1 : tonS ((k : Int) - 7) m = x1 at *
      have HX1 := Lib.hid hx1; clear hx1
      generalize hx2 : altL ((k : Int) - 7) x1 = x2 at *
      have HX2 := Lib.hid hx2; clear hx2
      go_upto_region 5 with (go_at_call 25; refine (spec_KeyTonic ((k : Int) - 7) m _ hf).mono ?_; rw [HX1.out, HX2.out]; rintro e w2 ⟨rfl, b2⟩; have z2 := b2.size; replace HP := Lib.hid (HP.out.below b2 (by omega)); replace HB := Lib.hid (HB.out.trans (b2.mono (by omega))); clear b2)
      have HT := Lib.hid (Blk.new w2 50 #[.int .i64 x1, .int .i64 x2, .int .i64 4])
      replace HP := Lib.hid (HP.out.alloc (.cells #[.int .i64 x1, .int .i64 x2, .int .i64 4] 50))
      replace HB := Lib.hid (HB.out.alloc (by omega) (.cells #[.int .i64 x1, .int .i64 x2, .int .i64 4] 50))
      have z3 : w2.heap.size + 1 ≤ (w2.alloc (.cells #[.int .i64 x1, .int .i64 x2, .int .i64 4] 50)).heap.size := by simp
      generalize w2.alloc (.cells #[.int .i64 x1, .int .i64 x2, .int .i64 4] 50) = w3 at *
      have t0 := HT.out.cell 0; have t1 := HT.out.cell 1
      have p0 := HP.out.cell 0; have p1 := HP.out.cell 1; have p2 := HP.out.cell 2
      by_cases e1 : x1 = s
      · by_cases e2 : x2 = a
        · have HF : Hid (koL s a o m = ((k : Int) - 7, true)) := Lib.hid (HIT.out (by rw [HKY.out, decide_eq_true e1, decide_eq_true e2]; rfl))
          have g1 : (x1 == s) = true := by simpa using e1
          have g2 : (x2 == a) = true := by simpa using e2
          clear e1 e2
          go_wp2_with fail
          refine bodyPost_ret (v := .tuple #[.int .i64 ((k : Int) - 7), .bool true]) (by simp [results, Try.results27, go_sem]) rfl ⟨by rw [HF.out], HB.out⟩
        · have HN : Hid (kyB s a m ((k : Int) - 7) = false) := Lib.hid (by rw [HKY.out, decide_eq_false e2, Bool.and_false])
          have g1 : (x1 == s) = true := by simpa using e1
          have g2 : (x2 == a) = false := by simpa using e2
          clear e1 e2
          go_wp2_with fail
          go_roundw
          case rel => exact ⟨k + 1, by omega, by congr 1; push_cast; omega, fun j hj => by
            rcases Nat.lt_or_ge j k with h | h
            · exact HA.out j h
            · obtain rfl : j = k := by omega
              exact HN.out, HP.out, HB.out, by omega⟩
          case measure => simp [intOf]; omega
      · have HN : Hid (kyB s a m ((k : Int) - 7) = false) := Lib.hid (by rw [HKY.out, decide_eq_false e1, Bool.false_and])
        have g1 : (x1 == s) = false := by simpa using e1
        clear e1
        go_wp2_with fail
        go_roundw
        case rel => exact ⟨k + 1, by omega, by congr 1; push_cast; omega, fun j hj => by
          rcases Nat.lt_or_ge j k with h | h
          · exact HA.out j h
          · obtain rfl : j = k := by omega
            exact HN.out, HP.out, HB.out, by omega⟩
        case measure => simp [intOf]; omega
    · obtain rfl : k = 15 := by omega
      have HF : Hid (koL s a o m = (0, false)) := Lib.hid (ko_none HA.out)
      have hle : ((((15 : Nat) : Int) - 7 ≤ 7) = False) := eq_false (by omega)
      go_wp2_with fail
      refine bodyPost_ret (v := .tuple #[.int .i64 0, .bool false]) (by simp [results, Try.results27, go_sem]) rfl ⟨by rw [HF.out], HB.out⟩
end Go.Proofs.Ytnkoijkelcjloaa
