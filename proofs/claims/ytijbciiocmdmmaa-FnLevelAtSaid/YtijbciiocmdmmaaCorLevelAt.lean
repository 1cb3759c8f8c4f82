/- The walk of FnLevelAt: it returns true. Condition: at most 2^20 bytes. -/
import Derived.Test.YtijbciiocmdmmaaLvl
import Derived.Test.YtijbciiocmdmmaaSmpP
import Derived.Test.YtijbciiocmdmmaaDrawL
import Derived.Test.YtijbciiocmdmmaaAlive
import Derived.Test.YtijbciiocmdmmaaSam2
import Derived.Test.YtijbciiocmdmmaaRegW
namespace Go.Proofs.Ytijbciiocmdmmaa.fnLevelAt
set_option linter.unusedVariables false
open Go.RowKit
set_option linter.unusedSimpArgs false
set_option maxHeartbeats 2000000 in
theorem core (w : World) (A_z : Option Addr) (c_z : Nat) (z : List Int) (r_z : RdY w w.heap.size A_z z) (f_z : WfY z) (k_z : z.length ≤ c_z) (hbig : z.length ≤ 1048576) :
    Calls Try.prog 8 #[.slice A_z z.length c_z] w (RetB w true) := by
  have hi1 : (z.length : Int) ≤ 1048576 := by omega
  go_enter Try.func8, Try.ntmps8
  go_wp2_with fail
  refine (spec_DrawLevelAt A_z c_z z w r_z f_z hbig k_z).mono ?_
  rintro e w1 ⟨a, d, s, r, h, t, rfl, hb1, hb2, hb3, hb4, hb5, hb6, b1⟩
  have z1 := b1.size
  have HB := Lib.hid b1; clear b1 r_z f_z
  generalize hv : levelL a d s r h t = v at *
  have HV := Lib.hid hv; clear hv
  by_cases hk : lvlOk a d s r h t
  · have hbd := levelL_bd hk
    rw [HV.out] at hbd
    obtain ⟨ha, hd, hr, hs, hh, htt⟩ := lvlOk_bd hk
    have hnx := lvl_next hk
    have hen := lvl_end hk
    have hhe := lvl_held hk
    rw [HV.out] at hnx hen hhe
    generalize hu : levelL a d s r h (min 1000000 (t + 1)) = u at *
    have HU := Lib.hid hu; clear hu hk hb1 hb2 hb3 hb4 hb5 hb6
    have hv0 : decide (v < 0) = false := decide_eq_false (by omega)
    have hv1 : decide (v ≤ 1000) = true := decide_eq_true (by omega)
    have e1 : IntKind.i64.wrap (h + r) = h + r := IntWalk.i64_in _ (by omega)
    have e2 : IntKind.i64.wrap (a + d) = a + d := IntWalk.i64_in _ (by omega)
    have E1 := Lib.hid e1; have E2 := Lib.hid e2; clear e1 e2
    have hmn : (if t + 1 < 1000000 then t + 1 else 1000000) = min 1000000 (t + 1) := by split <;> omega
    go_wp2_with fail
    refine (impl_LevelAt _ _ _ _ _ _ _).mono ?_
    rintro e w2 ⟨rfl, b_⟩
    have z2 := b_.size; (try simp only [World.size_alloc, size_drew] at z2)
    have hq2 := below_cells b_
    (try (have zb2 : w1.heap.size < w2.heap.size := (by omega)))
    replace HB := Lib.hid (Below.trans (by first | with_reducible exact HB.out | with_reducible exact HB.out.alloc (by omega) _ | with_reducible exact (HB.out.alloc (by omega) _).alloc (by first | omega | (simp; done) | (simp; omega)) _ | with_reducible exact ((HB.out.alloc (by omega) _).alloc (by first | omega | (simp; done) | (simp; omega)) _).alloc (by first | omega | (simp; done) | (simp; omega)) _) (b_.mono (by first | omega | (simp; done) | (simp; omega))))
    rw [HV.out]
    clear b_
    go_wp2_with fail
    refine (spec_LevelAt _ _ _ _ _ _ _).mono ?_
    rintro e w3 ⟨rfl, b_⟩
    have z3 := b_.size; (try simp only [World.size_alloc, size_drew] at z3)
    have hq3 := below_cells b_
    (try (have zb3 : w1.heap.size < w3.heap.size := (by omega)))
    replace HB := Lib.hid (Below.trans (by first | with_reducible exact HB.out | with_reducible exact HB.out.alloc (by omega) _ | with_reducible exact (HB.out.alloc (by omega) _).alloc (by first | omega | (simp; done) | (simp; omega)) _ | with_reducible exact ((HB.out.alloc (by omega) _).alloc (by first | omega | (simp; done) | (simp; omega)) _).alloc (by first | omega | (simp; done) | (simp; omega)) _) (b_.mono (by first | omega | (simp; done) | (simp; omega))))
    rw [HV.out]
    clear b_
    go_wp2_with fail
    refine (impl_LevelAt _ _ _ _ _ _ _).mono ?_
    rintro e w4 ⟨rfl, b_⟩
    have z4 := b_.size; (try simp only [World.size_alloc, size_drew] at z4)
    have hq4 := below_cells b_
    (try (have zb4 : w1.heap.size < w4.heap.size := (by omega)))
    replace HB := Lib.hid (Below.trans (by first | with_reducible exact HB.out | with_reducible exact HB.out.alloc (by omega) _ | with_reducible exact (HB.out.alloc (by omega) _).alloc (by first | omega | (simp; done) | (simp; omega)) _ | with_reducible exact ((HB.out.alloc (by omega) _).alloc (by first | omega | (simp; done) | (simp; omega)) _).alloc (by first | omega | (simp; done) | (simp; omega)) _) (b_.mono (by first | omega | (simp; done) | (simp; omega))))
    rw [HU.out]
    clear b_
    clear hmn
    have c0 : w4.cell? ⟨w1.heap.size, 0, none⟩ = some (.int .i64 a) := (hq4 _ _ (by omega)).trans ((hq3 _ _ (by omega)).trans ((hq2 _ _ (by simp)).trans (by simp [go_sem])))
    have c1 : w4.cell? ⟨w1.heap.size, 1, none⟩ = some (.int .i64 d) := (hq4 _ _ (by omega)).trans ((hq3 _ _ (by omega)).trans ((hq2 _ _ (by simp)).trans (by simp [go_sem])))
    have c2 : w4.cell? ⟨w1.heap.size, 2, none⟩ = some (.int .i64 s) := (hq4 _ _ (by omega)).trans ((hq3 _ _ (by omega)).trans ((hq2 _ _ (by simp)).trans (by simp [go_sem])))
    have c3 : w4.cell? ⟨w1.heap.size, 3, none⟩ = some (.int .i64 r) := (hq4 _ _ (by omega)).trans ((hq3 _ _ (by omega)).trans ((hq2 _ _ (by simp)).trans (by simp [go_sem])))
    clear hq2 hq3 hq4
    by_cases g1 : t < h
    · have f1 : decide (t < h) = true := decide_eq_true g1
      have f2 : decide (t < h + r) = true := decide_eq_true (by omega)
      have f3 : decide (h ≤ t) = false := decide_eq_false (by omega)
      by_cases g2 : t < a + d
      · have f4 : decide (t < a + d) = true := decide_eq_true g2
        clear hen hhe hnx hbd
        go_wp2
        go_ret
        exact ⟨rfl, HB.out⟩
      · have f4 : decide (t < a + d) = false := decide_eq_false g2
        have f5 : (v == s) = true := beq_iff_eq.2 (hhe g1 (by omega))
        clear hen hhe hnx hbd
        go_wp2
        go_ret
        exact ⟨rfl, HB.out⟩
    · have f1 : decide (t < h) = false := decide_eq_false g1
      have f3 : decide (h ≤ t) = true := decide_eq_true (by omega)
      have f6 : decide (u ≤ v) = true := decide_eq_true (hnx (by omega))
      by_cases g2 : t < h + r
      · have f2 : decide (t < h + r) = true := decide_eq_true g2
        clear hen hhe hnx hbd
        go_wp2
        go_ret
        exact ⟨rfl, HB.out⟩
      · have f2 : decide (t < h + r) = false := decide_eq_false g2
        have f5 : (v == 0) = true := beq_iff_eq.2 (hen (by omega))
        clear hen hhe hnx hbd
        go_wp2
        go_ret
        exact ⟨rfl, HB.out⟩
  · have hv : v = -1 := by rw [← HV.out, levelL, if_neg hk]
    subst hv
    clear hk
    go_wp2_with fail
    refine (impl_LevelAt _ _ _ _ _ _ _).mono ?_
    rintro e w2 ⟨rfl, b_⟩
    have z2 := b_.size; (try simp only [World.size_alloc, size_drew] at z2)
    have hq2 := below_cells b_
    (try (have zb2 : w1.heap.size < w2.heap.size := (by omega)))
    replace HB := Lib.hid (Below.trans (by first | with_reducible exact HB.out | with_reducible exact HB.out.alloc (by omega) _ | with_reducible exact (HB.out.alloc (by omega) _).alloc (by first | omega | (simp; done) | (simp; omega)) _ | with_reducible exact ((HB.out.alloc (by omega) _).alloc (by first | omega | (simp; done) | (simp; omega)) _).alloc (by first | omega | (simp; done) | (simp; omega)) _) (b_.mono (by first | omega | (simp; done) | (simp; omega))))
    rw [HV.out]
    clear b_
    go_wp2_with fail
    refine (spec_LevelAt _ _ _ _ _ _ _).mono ?_
    rintro e w3 ⟨rfl, b_⟩
    have z3 := b_.size; (try simp only [World.size_alloc, size_drew] at z3)
    have hq3 := below_cells b_
    (try (have zb3 : w1.heap.size < w3.heap.size := (by omega)))
    replace HB := Lib.hid (Below.trans (by first | with_reducible exact HB.out | with_reducible exact HB.out.alloc (by omega) _ | with_reducible exact (HB.out.alloc (by omega) _).alloc (by first | omega | (simp; done) | (simp; omega)) _ | with_reducible exact ((HB.out.alloc (by omega) _).alloc (by first | omega | (simp; done) | (simp; omega)) _).alloc (by first | omega | (simp; done) | (simp; omega)) _) (b_.mono (by first | omega | (simp; done) | (simp; omega))))
    rw [HV.out]
    clear b_
    go_wp2_with fail
    refine (laws_alive _).mono ?_
    rintro e w4 ⟨rfl, b_⟩
    have z4 := b_.size; (try simp only [World.size_alloc, size_drew] at z4)
    have hq4 := below_cells b_
    (try (have zb4 : w1.heap.size < w4.heap.size := (by omega)))
    replace HB := Lib.hid (Below.trans (by first | with_reducible exact HB.out | with_reducible exact HB.out.alloc (by omega) _ | with_reducible exact (HB.out.alloc (by omega) _).alloc (by first | omega | (simp; done) | (simp; omega)) _ | with_reducible exact ((HB.out.alloc (by omega) _).alloc (by first | omega | (simp; done) | (simp; omega)) _).alloc (by first | omega | (simp; done) | (simp; omega)) _) (b_.mono (by first | omega | (simp; done) | (simp; omega))))
    skip
    clear b_
    go_wp2_with fail
    go_ret
    exact ⟨rfl, HB.out⟩
end Go.Proofs.Ytijbciiocmdmmaa.fnLevelAt
