/- The walk of FnPatternGaps: it returns true. Condition: at most 2^20 bytes. -/
import Derived.Test.YtelajonddhoafaaGaps
import Derived.Test.YtelajonddhoafaaStrk
import Derived.Test.YtelajonddhoafaaDrawB
import Derived.Test.YtelajonddhoafaaAlive
import Derived.Test.YtelajonddhoafaaSam2
import Derived.Test.YtelajonddhoafaaRegW
namespace Go.Proofs.Ytelajonddhoafaa.fnPatternGaps
set_option linter.unusedVariables false
open Go.RowKit
set_option linter.unusedSimpArgs false
set_option maxRecDepth 100000 in
set_option maxHeartbeats 4000000 in
theorem core (w : World) (A_z : Option Addr) (c_z : Nat) (z : List Int) (r_z : RdY w w.heap.size A_z z) (f_z : WfY z) (k_z : z.length ≤ c_z) (hbig : z.length ≤ 1048576) :
    Calls Try.prog 6 #[.slice A_z z.length c_z] w (RetB w true) := by
  have hi1 : (z.length : Int) ≤ 1048576 := by omega
  go_enter Try.func6, Try.ntmps6
  go_wp2_with fail
  refine (spec_DrawPatternGaps A_z c_z z w r_z f_z hbig k_z).mono ?_
  rintro e w1 ⟨A, c, zs, rfl, hl, hcap, hrd, b1⟩
  have z1 := b1.size
  have HB := Lib.hid b1
  have HX := Lib.hid hrd
  clear b1 r_z f_z hrd
  have hGl := gapsL_len zs
  have hno : patL zs = false → gapsL zs = [] := fun h => by rw [gapsL, if_neg (by rw [patL] at h; rw [h]; simp)]
  have hyes : patL zs = true → gapsL zs = gapsOf (st zs) zs.length := fun h => by rw [patL] at h; rw [gapsL, if_pos h]
  generalize hT : gapsL zs = L at *
  have HT := Lib.hid hT; clear hT
  have hsr := sameI_refl L
  have HSR := Lib.hid hsr; clear hsr
  go_wp2_with fail
  refine (impl_PatternGaps _ _ _ _ (RdBo.more (by first | with_reducible exact HX.out | with_reducible exact (HX.out).drew | with_reducible exact (HX.out).al (by first | omega | (simp; done) | (simp; omega)) _ | with_reducible exact ((HX.out).drew).al (by first | omega | (simp; done) | (simp; omega)) _ | with_reducible exact ((HX.out).al (by first | omega | (simp; done) | (simp; omega)) _).drew | with_reducible exact ((HX.out).al (by first | omega | (simp; done) | (simp; omega)) _).al (by first | omega | (simp; done) | (simp; omega)) _ | with_reducible exact (((HX.out).drew).al (by first | omega | (simp; done) | (simp; omega)) _).al (by first | omega | (simp; done) | (simp; omega)) _ | with_reducible exact (((HX.out).al (by first | omega | (simp; done) | (simp; omega)) _).al (by first | omega | (simp; done) | (simp; omega)) _).drew | with_reducible exact (((HX.out).al (by first | omega | (simp; done) | (simp; omega)) _).al (by first | omega | (simp; done) | (simp; omega)) _).al (by first | omega | (simp; done) | (simp; omega)) _ | with_reducible exact ((((HX.out).drew).al (by first | omega | (simp; done) | (simp; omega)) _).al (by first | omega | (simp; done) | (simp; omega)) _).al (by first | omega | (simp; done) | (simp; omega)) _ | with_reducible exact ((((HX.out).al (by first | omega | (simp; done) | (simp; omega)) _).al (by first | omega | (simp; done) | (simp; omega)) _).al (by first | omega | (simp; done) | (simp; omega)) _).drew) (by first | omega | (simp; done) | (simp; omega))) (by omega)).mono ?_
  rw [HT.out]
  rintro e w2 ⟨A2, c2, rfl, o_, b_⟩
  have z2 := b_.size; (try simp only [World.size_alloc, size_drew] at z2)
  have hq2 := below_cells b_
  (try (have zb2 : w1.heap.size < w2.heap.size := (by omega)))
  replace HB := Lib.hid (Below.trans (by first | with_reducible exact HB.out | with_reducible exact HB.out.alloc (by omega) _ | with_reducible exact (HB.out.alloc (by omega) _).alloc (by first | omega | (simp; done) | (simp; omega)) _ | with_reducible exact ((HB.out.alloc (by omega) _).alloc (by first | omega | (simp; done) | (simp; omega)) _).alloc (by first | omega | (simp; done) | (simp; omega)) _) (b_.mono (by first | omega | (simp; done) | (simp; omega))))
  replace HX := Lib.hid (RdBo.below (by first | with_reducible exact HX.out | with_reducible exact (HX.out).drew | with_reducible exact (HX.out).al (by first | omega | (simp; done) | (simp; omega)) _ | with_reducible exact ((HX.out).drew).al (by first | omega | (simp; done) | (simp; omega)) _ | with_reducible exact ((HX.out).al (by first | omega | (simp; done) | (simp; omega)) _).drew | with_reducible exact ((HX.out).al (by first | omega | (simp; done) | (simp; omega)) _).al (by first | omega | (simp; done) | (simp; omega)) _ | with_reducible exact (((HX.out).drew).al (by first | omega | (simp; done) | (simp; omega)) _).al (by first | omega | (simp; done) | (simp; omega)) _ | with_reducible exact (((HX.out).al (by first | omega | (simp; done) | (simp; omega)) _).al (by first | omega | (simp; done) | (simp; omega)) _).drew | with_reducible exact (((HX.out).al (by first | omega | (simp; done) | (simp; omega)) _).al (by first | omega | (simp; done) | (simp; omega)) _).al (by first | omega | (simp; done) | (simp; omega)) _ | with_reducible exact ((((HX.out).drew).al (by first | omega | (simp; done) | (simp; omega)) _).al (by first | omega | (simp; done) | (simp; omega)) _).al (by first | omega | (simp; done) | (simp; omega)) _ | with_reducible exact ((((HX.out).al (by first | omega | (simp; done) | (simp; omega)) _).al (by first | omega | (simp; done) | (simp; omega)) _).al (by first | omega | (simp; done) | (simp; omega)) _).drew) b_ (by first | omega | (simp; done) | (simp; omega)))
  have HG := Lib.hid (RdI.of_own o_)
  clear b_ o_
  go_wp2_with fail
  refine (spec_PatternGaps _ _ _ _ (RdBo.more (by first | with_reducible exact HX.out | with_reducible exact (HX.out).drew | with_reducible exact (HX.out).al (by first | omega | (simp; done) | (simp; omega)) _ | with_reducible exact ((HX.out).drew).al (by first | omega | (simp; done) | (simp; omega)) _ | with_reducible exact ((HX.out).al (by first | omega | (simp; done) | (simp; omega)) _).drew | with_reducible exact ((HX.out).al (by first | omega | (simp; done) | (simp; omega)) _).al (by first | omega | (simp; done) | (simp; omega)) _ | with_reducible exact (((HX.out).drew).al (by first | omega | (simp; done) | (simp; omega)) _).al (by first | omega | (simp; done) | (simp; omega)) _ | with_reducible exact (((HX.out).al (by first | omega | (simp; done) | (simp; omega)) _).al (by first | omega | (simp; done) | (simp; omega)) _).drew | with_reducible exact (((HX.out).al (by first | omega | (simp; done) | (simp; omega)) _).al (by first | omega | (simp; done) | (simp; omega)) _).al (by first | omega | (simp; done) | (simp; omega)) _ | with_reducible exact ((((HX.out).drew).al (by first | omega | (simp; done) | (simp; omega)) _).al (by first | omega | (simp; done) | (simp; omega)) _).al (by first | omega | (simp; done) | (simp; omega)) _ | with_reducible exact ((((HX.out).al (by first | omega | (simp; done) | (simp; omega)) _).al (by first | omega | (simp; done) | (simp; omega)) _).al (by first | omega | (simp; done) | (simp; omega)) _).drew) (by first | omega | (simp; done) | (simp; omega))) (by omega)).mono ?_
  rw [HT.out]
  rintro e w3 ⟨A3, c3, rfl, o_, b_⟩
  have z3 := b_.size; (try simp only [World.size_alloc, size_drew] at z3)
  have hq3 := below_cells b_
  (try (have zb3 : w1.heap.size < w3.heap.size := (by omega)))
  replace HB := Lib.hid (Below.trans (by first | with_reducible exact HB.out | with_reducible exact HB.out.alloc (by omega) _ | with_reducible exact (HB.out.alloc (by omega) _).alloc (by first | omega | (simp; done) | (simp; omega)) _ | with_reducible exact ((HB.out.alloc (by omega) _).alloc (by first | omega | (simp; done) | (simp; omega)) _).alloc (by first | omega | (simp; done) | (simp; omega)) _) (b_.mono (by first | omega | (simp; done) | (simp; omega))))
  replace HX := Lib.hid (RdBo.below (by first | with_reducible exact HX.out | with_reducible exact (HX.out).drew | with_reducible exact (HX.out).al (by first | omega | (simp; done) | (simp; omega)) _ | with_reducible exact ((HX.out).drew).al (by first | omega | (simp; done) | (simp; omega)) _ | with_reducible exact ((HX.out).al (by first | omega | (simp; done) | (simp; omega)) _).drew | with_reducible exact ((HX.out).al (by first | omega | (simp; done) | (simp; omega)) _).al (by first | omega | (simp; done) | (simp; omega)) _ | with_reducible exact (((HX.out).drew).al (by first | omega | (simp; done) | (simp; omega)) _).al (by first | omega | (simp; done) | (simp; omega)) _ | with_reducible exact (((HX.out).al (by first | omega | (simp; done) | (simp; omega)) _).al (by first | omega | (simp; done) | (simp; omega)) _).drew | with_reducible exact (((HX.out).al (by first | omega | (simp; done) | (simp; omega)) _).al (by first | omega | (simp; done) | (simp; omega)) _).al (by first | omega | (simp; done) | (simp; omega)) _ | with_reducible exact ((((HX.out).drew).al (by first | omega | (simp; done) | (simp; omega)) _).al (by first | omega | (simp; done) | (simp; omega)) _).al (by first | omega | (simp; done) | (simp; omega)) _ | with_reducible exact ((((HX.out).al (by first | omega | (simp; done) | (simp; omega)) _).al (by first | omega | (simp; done) | (simp; omega)) _).al (by first | omega | (simp; done) | (simp; omega)) _).drew) b_ (by first | omega | (simp; done) | (simp; omega))); replace HG := Lib.hid (RdI.below (by first | with_reducible exact HG.out | with_reducible exact HG.out.al (by omega) _ | with_reducible exact (HG.out.al (by omega) _).al (by first | omega | (simp; done) | (simp; omega)) _) b_ (by first | omega | (simp; done) | (simp; omega)))
  have HW := Lib.hid (RdI.of_own o_)
  clear b_ o_
  go_wp2_with fail
  refine (laws_sameInts _ _ _ _ _ _ _ (RdI.more (by first | with_reducible exact HG.out | with_reducible exact HG.out.al (by omega) _ | with_reducible exact (HG.out.al (by omega) _).al (by first | omega | (simp; done) | (simp; omega)) _) (by first | omega | (simp; done) | (simp; omega))) HW.out (by omega) (by omega)).mono ?_
  rintro e w4 ⟨rfl, b_⟩
  have z4 := b_.size; (try simp only [World.size_alloc, size_drew] at z4)
  have hq4 := below_cells b_
  (try (have zb4 : w1.heap.size < w4.heap.size := (by omega)))
  replace HB := Lib.hid (Below.trans (by first | with_reducible exact HB.out | with_reducible exact HB.out.alloc (by omega) _ | with_reducible exact (HB.out.alloc (by omega) _).alloc (by first | omega | (simp; done) | (simp; omega)) _ | with_reducible exact ((HB.out.alloc (by omega) _).alloc (by first | omega | (simp; done) | (simp; omega)) _).alloc (by first | omega | (simp; done) | (simp; omega)) _) (b_.mono (by first | omega | (simp; done) | (simp; omega))))
  rw [HSR.out]; replace HX := Lib.hid (RdBo.below (by first | with_reducible exact HX.out | with_reducible exact (HX.out).drew | with_reducible exact (HX.out).al (by first | omega | (simp; done) | (simp; omega)) _ | with_reducible exact ((HX.out).drew).al (by first | omega | (simp; done) | (simp; omega)) _ | with_reducible exact ((HX.out).al (by first | omega | (simp; done) | (simp; omega)) _).drew | with_reducible exact ((HX.out).al (by first | omega | (simp; done) | (simp; omega)) _).al (by first | omega | (simp; done) | (simp; omega)) _ | with_reducible exact (((HX.out).drew).al (by first | omega | (simp; done) | (simp; omega)) _).al (by first | omega | (simp; done) | (simp; omega)) _ | with_reducible exact (((HX.out).al (by first | omega | (simp; done) | (simp; omega)) _).al (by first | omega | (simp; done) | (simp; omega)) _).drew | with_reducible exact (((HX.out).al (by first | omega | (simp; done) | (simp; omega)) _).al (by first | omega | (simp; done) | (simp; omega)) _).al (by first | omega | (simp; done) | (simp; omega)) _ | with_reducible exact ((((HX.out).drew).al (by first | omega | (simp; done) | (simp; omega)) _).al (by first | omega | (simp; done) | (simp; omega)) _).al (by first | omega | (simp; done) | (simp; omega)) _ | with_reducible exact ((((HX.out).al (by first | omega | (simp; done) | (simp; omega)) _).al (by first | omega | (simp; done) | (simp; omega)) _).al (by first | omega | (simp; done) | (simp; omega)) _).drew) b_ (by first | omega | (simp; done) | (simp; omega))); replace HG := Lib.hid (RdI.below (by first | with_reducible exact HG.out | with_reducible exact HG.out.al (by omega) _ | with_reducible exact (HG.out.al (by omega) _).al (by first | omega | (simp; done) | (simp; omega)) _) b_ (by first | omega | (simp; done) | (simp; omega)))
  clear b_
  clear HW
  cases hv : patL zs
  · have hS := hno hv
    subst hS
    have HV := Lib.hid hv; clear hv hno hyes
    go_wp2_with fail
    refine (spec_PatternValid_b _ _ _ _).mono ?_
    rintro e w5 ⟨rfl, b_⟩
    have z5 := b_.size; (try simp only [World.size_alloc, size_drew] at z5)
    have hq5 := below_cells b_
    (try (have zb5 : w1.heap.size < w5.heap.size := (by omega)))
    replace HB := Lib.hid (Below.trans (by first | with_reducible exact HB.out | with_reducible exact HB.out.alloc (by omega) _ | with_reducible exact (HB.out.alloc (by omega) _).alloc (by first | omega | (simp; done) | (simp; omega)) _ | with_reducible exact ((HB.out.alloc (by omega) _).alloc (by first | omega | (simp; done) | (simp; omega)) _).alloc (by first | omega | (simp; done) | (simp; omega)) _) (b_.mono (by first | omega | (simp; done) | (simp; omega))))
    rw [HV.out]; replace HX := Lib.hid (RdBo.below (by first | with_reducible exact HX.out | with_reducible exact (HX.out).drew | with_reducible exact (HX.out).al (by first | omega | (simp; done) | (simp; omega)) _ | with_reducible exact ((HX.out).drew).al (by first | omega | (simp; done) | (simp; omega)) _ | with_reducible exact ((HX.out).al (by first | omega | (simp; done) | (simp; omega)) _).drew | with_reducible exact ((HX.out).al (by first | omega | (simp; done) | (simp; omega)) _).al (by first | omega | (simp; done) | (simp; omega)) _ | with_reducible exact (((HX.out).drew).al (by first | omega | (simp; done) | (simp; omega)) _).al (by first | omega | (simp; done) | (simp; omega)) _ | with_reducible exact (((HX.out).al (by first | omega | (simp; done) | (simp; omega)) _).al (by first | omega | (simp; done) | (simp; omega)) _).drew | with_reducible exact (((HX.out).al (by first | omega | (simp; done) | (simp; omega)) _).al (by first | omega | (simp; done) | (simp; omega)) _).al (by first | omega | (simp; done) | (simp; omega)) _ | with_reducible exact ((((HX.out).drew).al (by first | omega | (simp; done) | (simp; omega)) _).al (by first | omega | (simp; done) | (simp; omega)) _).al (by first | omega | (simp; done) | (simp; omega)) _ | with_reducible exact ((((HX.out).al (by first | omega | (simp; done) | (simp; omega)) _).al (by first | omega | (simp; done) | (simp; omega)) _).al (by first | omega | (simp; done) | (simp; omega)) _).drew) b_ (by first | omega | (simp; done) | (simp; omega)))
    clear b_
    go_wp2_with fail
    refine (laws_alive _).mono ?_
    rintro e w6 ⟨rfl, b_⟩
    have z6 := b_.size; (try simp only [World.size_alloc, size_drew] at z6)
    have hq6 := below_cells b_
    (try (have zb6 : w1.heap.size < w6.heap.size := (by omega)))
    replace HB := Lib.hid (Below.trans (by first | with_reducible exact HB.out | with_reducible exact HB.out.alloc (by omega) _ | with_reducible exact (HB.out.alloc (by omega) _).alloc (by first | omega | (simp; done) | (simp; omega)) _ | with_reducible exact ((HB.out.alloc (by omega) _).alloc (by first | omega | (simp; done) | (simp; omega)) _).alloc (by first | omega | (simp; done) | (simp; omega)) _) (b_.mono (by first | omega | (simp; done) | (simp; omega))))
    skip
    clear b_
    go_wp2_with fail
    go_ret
    exact ⟨rfl, HB.out⟩
  · have HSX := Lib.hid (hyes hv)
    have HV := Lib.hid hv; clear hv hno hyes
    go_wp2_with fail
    refine (spec_PatternValid_b _ _ _ _).mono ?_
    rintro e w5 ⟨rfl, b_⟩
    have z5 := b_.size; (try simp only [World.size_alloc, size_drew] at z5)
    have hq5 := below_cells b_
    (try (have zb5 : w1.heap.size < w5.heap.size := (by omega)))
    replace HB := Lib.hid (Below.trans (by first | with_reducible exact HB.out | with_reducible exact HB.out.alloc (by omega) _ | with_reducible exact (HB.out.alloc (by omega) _).alloc (by first | omega | (simp; done) | (simp; omega)) _ | with_reducible exact ((HB.out.alloc (by omega) _).alloc (by first | omega | (simp; done) | (simp; omega)) _).alloc (by first | omega | (simp; done) | (simp; omega)) _) (b_.mono (by first | omega | (simp; done) | (simp; omega))))
    rw [HV.out]; replace HX := Lib.hid (RdBo.below (by first | with_reducible exact HX.out | with_reducible exact (HX.out).drew | with_reducible exact (HX.out).al (by first | omega | (simp; done) | (simp; omega)) _ | with_reducible exact ((HX.out).drew).al (by first | omega | (simp; done) | (simp; omega)) _ | with_reducible exact ((HX.out).al (by first | omega | (simp; done) | (simp; omega)) _).drew | with_reducible exact ((HX.out).al (by first | omega | (simp; done) | (simp; omega)) _).al (by first | omega | (simp; done) | (simp; omega)) _ | with_reducible exact (((HX.out).drew).al (by first | omega | (simp; done) | (simp; omega)) _).al (by first | omega | (simp; done) | (simp; omega)) _ | with_reducible exact (((HX.out).al (by first | omega | (simp; done) | (simp; omega)) _).al (by first | omega | (simp; done) | (simp; omega)) _).drew | with_reducible exact (((HX.out).al (by first | omega | (simp; done) | (simp; omega)) _).al (by first | omega | (simp; done) | (simp; omega)) _).al (by first | omega | (simp; done) | (simp; omega)) _ | with_reducible exact ((((HX.out).drew).al (by first | omega | (simp; done) | (simp; omega)) _).al (by first | omega | (simp; done) | (simp; omega)) _).al (by first | omega | (simp; done) | (simp; omega)) _ | with_reducible exact ((((HX.out).al (by first | omega | (simp; done) | (simp; omega)) _).al (by first | omega | (simp; done) | (simp; omega)) _).al (by first | omega | (simp; done) | (simp; omega)) _).drew) b_ (by first | omega | (simp; done) | (simp; omega))); replace HG := Lib.hid (RdI.below (by first | with_reducible exact HG.out | with_reducible exact HG.out.al (by omega) _ | with_reducible exact (HG.out.al (by omega) _).al (by first | omega | (simp; done) | (simp; omega)) _) b_ (by first | omega | (simp; done) | (simp; omega)))
    clear b_
    by_cases h0 : L.length = 0
    · have h1 : ((L.length : Int) == 0) = true := by simp [h0]
      clear h0
      go_wp2_with fail
      refine (laws_alive _).mono ?_
      rintro e w6 ⟨rfl, b_⟩
      have z6 := b_.size; (try simp only [World.size_alloc, size_drew] at z6)
      have hq6 := below_cells b_
      (try (have zb6 : w1.heap.size < w6.heap.size := (by omega)))
      replace HB := Lib.hid (Below.trans (by first | with_reducible exact HB.out | with_reducible exact HB.out.alloc (by omega) _ | with_reducible exact (HB.out.alloc (by omega) _).alloc (by first | omega | (simp; done) | (simp; omega)) _ | with_reducible exact ((HB.out.alloc (by omega) _).alloc (by first | omega | (simp; done) | (simp; omega)) _).alloc (by first | omega | (simp; done) | (simp; omega)) _) (b_.mono (by first | omega | (simp; done) | (simp; omega))))
      skip
      clear b_
      go_wp2_with fail
      go_ret
      exact ⟨rfl, HB.out⟩
    · have h1 : ((L.length : Int) == 0) = false := by simpa using h0
      have hS := HSX.out
      have hlen : L.length = (st zs).length := by rw [hS, gapsOf_len]
      have hsum : sumI L = zs.length := by rw [hS]; exact gap_total zs (by omega)
      have hpos : ∀ k, k < L.length → 1 ≤ gi L k := fun k hk => by
        rw [hS, gapsOf_at (by omega)]
        have := gap_pos zs k (by omega)
        omega
      have hstr : ((L.length : Int) == (strk zs : Int)) = true := by rw [hlen, st_strk]; simp
      have hsb : ∀ k, k ≤ L.length → 0 ≤ sumI (L.take k) ∧ sumI (L.take k) ≤ 33 := fun k hk => by
        rw [hS]
        have := gap_part zs k (by omega)
        omega
      have HSUM := Lib.hid hsum; have HPOS := Lib.hid hpos; have HSB := Lib.hid hsb
      clear hS hlen hsum hpos h0 hsb
      have Q : w5.cell? ⟨w1.heap.size, 0, none⟩ = some (.slice A zs.length c) := (hq5 _ _ (by omega)).trans ((hq4 _ _ (by omega)).trans ((hq3 _ _ (by omega)).trans ((hq2 _ _ (by simp)).trans (by simp [go_sem]))))
      clear hq2 hq3 hq4 hq5
      go_wp2_with fail
      clear h1
      go_loop [5, 6] (fun sm i => ∃ k : Nat, k ≤ L.length ∧ i = .int .i64 k ∧ sm = .int .i64 (sumI (L.take k))) (fun _ i => L.length - (intOf i).toNat)
      case atStart => exact ⟨0, Nat.zero_le _, rfl, rfl⟩
      case round =>
        obtain ⟨k, hk, rfl, rfl⟩ := hrel
        have hsk := HSB.out k hk
        by_cases hlt : k < L.length
        · obtain ⟨b, off, rfl, hbB, hc⟩ := HG.out.at_ hlt
          have hxk := HPOS.out k hlt
          have hs1 := HSB.out (k + 1) (by omega)
          rw [sumI_succ hlt] at hs1
          have HS := Lib.hid (sumI_succ hlt)
          have hi1 : (k : Int) < (L.length : Int) := by omega
          have e1 : decide (gi L k < 1) = false := decide_eq_false (by omega)
          generalize gi L k = x at *
          generalize sumI (L.take k) = sm at *
          go_wp2
          go_round
          case rel => exact ⟨k + 1, by omega, by go_num, by rw [HS.out]⟩
          case measure => simp [intOf]; omega
        · obtain rfl : L.length = k := by omega
          rw [List.take_length]
          have hse : (sumI L == (zs.length : Int)) = true := by rw [HSUM.out]; simp
          go_wp2_with fail
          refine (laws_strokes _ _ _ _ (RdBo.more (by first | with_reducible exact HX.out | with_reducible exact (HX.out).drew | with_reducible exact (HX.out).al (by first | omega | (simp; done) | (simp; omega)) _ | with_reducible exact ((HX.out).drew).al (by first | omega | (simp; done) | (simp; omega)) _ | with_reducible exact ((HX.out).al (by first | omega | (simp; done) | (simp; omega)) _).drew | with_reducible exact ((HX.out).al (by first | omega | (simp; done) | (simp; omega)) _).al (by first | omega | (simp; done) | (simp; omega)) _ | with_reducible exact (((HX.out).drew).al (by first | omega | (simp; done) | (simp; omega)) _).al (by first | omega | (simp; done) | (simp; omega)) _ | with_reducible exact (((HX.out).al (by first | omega | (simp; done) | (simp; omega)) _).al (by first | omega | (simp; done) | (simp; omega)) _).drew | with_reducible exact (((HX.out).al (by first | omega | (simp; done) | (simp; omega)) _).al (by first | omega | (simp; done) | (simp; omega)) _).al (by first | omega | (simp; done) | (simp; omega)) _ | with_reducible exact ((((HX.out).drew).al (by first | omega | (simp; done) | (simp; omega)) _).al (by first | omega | (simp; done) | (simp; omega)) _).al (by first | omega | (simp; done) | (simp; omega)) _ | with_reducible exact ((((HX.out).al (by first | omega | (simp; done) | (simp; omega)) _).al (by first | omega | (simp; done) | (simp; omega)) _).al (by first | omega | (simp; done) | (simp; omega)) _).drew) (by first | omega | (simp; done) | (simp; omega))) (by omega)).mono ?_
          rintro e w6 ⟨rfl, b_⟩
          replace HB := Lib.hid (HB.out.trans (b_.mono (by omega)))
          clear b_
          go_wp2_with fail
          go_ret
          exact ⟨rfl, HB.out⟩
end Go.Proofs.Ytelajonddhoafaa.fnPatternGaps
