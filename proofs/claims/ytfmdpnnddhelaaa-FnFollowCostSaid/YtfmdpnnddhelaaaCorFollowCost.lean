/- The walk of FnFollowCost: it returns true. Condition: at most 2^20 bytes. -/
import Derived.Test.YtfmdpnnddhelaaaFol3
import Derived.Test.YtfmdpnnddhelaaaFolD
import Derived.Test.YtfmdpnnddhelaaaAlive
import Derived.Test.YtfmdpnnddhelaaaInts
namespace Go.Proofs.Ytfmdpnnddhelaaa.fnFollowCost
set_option linter.unusedVariables false
open Go.RowKit
set_option linter.unusedSimpArgs false
theorem eq_of_gi {a b : List Int} (h : a.length = b.length) (hk : ∀ k, k < a.length → gi a k = gi b k) : a = b := by
  refine List.ext_getElem h fun k h1 h2 => ?_
  have := hk k h1
  simpa [gi, h1, h2] using this
theorem zero_same (a b : List Int) : (D a b a.length b.length == 0) = sameI a b := by
  by_cases h : a = b
  · subst h; rw [D_diag, sameI_refl]; rfl
  · have : sameI a b = false := by simp [sameI, h]
    rw [this]
    refine beq_eq_false_iff_ne.2 fun h0 => h ?_
    obtain ⟨h1, h2⟩ := D_zero h0
    exact eq_of_gi h1 h2
set_option maxHeartbeats 2000000 in
theorem core (w : World) (A_z : Option Addr) (c_z : Nat) (z : List Int) (r_z : RdY w w.heap.size A_z z) (f_z : WfY z) (k_z : z.length ≤ c_z) (hbig : z.length ≤ 1048576) :
    Calls Try.prog 7 #[.slice A_z z.length c_z] w (RetB w true) := by
  have hi1 : (z.length : Int) ≤ 1048576 := by omega
  go_enter Try.func7, Try.ntmps7
  go_wp2_with fail
  refine (spec_DrawFollowCost A_z c_z z w r_z f_z hbig k_z).mono ?_
  rintro e w1 ⟨A, C, c, d, xs, ys, rfl, hlx, hly, ra, rb, b1⟩
  have z1 := b1.size
  have HX := Lib.hid ra; have HY := Lib.hid rb
  have HB := Lib.hid b1; clear b1 r_z f_z ra rb
  by_cases hok : okK xs = true ∧ okK ys = true
  case neg =>
    have HV : Hid (folL xs ys = -1) := by unfold Hid; unfold folL; rw [if_neg hok]
    clear hok
    go_wp2_with fail
    refine (impl_FollowCost _ _ _ _ _ _ _ (RdI.more (by first | with_reducible exact HX.out | with_reducible exact HX.out.al (by omega) _ | with_reducible exact (HX.out.al (by omega) _).al (by first | omega | (simp; done) | (simp; omega)) _) (by first | omega | (simp; done) | (simp; omega))) (RdI.more (by first | with_reducible exact HY.out | with_reducible exact HY.out.al (by omega) _ | with_reducible exact (HY.out.al (by omega) _).al (by first | omega | (simp; done) | (simp; omega)) _) (by first | omega | (simp; done) | (simp; omega))) (by omega) (by omega)).mono ?_
    rintro e w2 ⟨rfl, b_⟩
    have z2 := b_.size; (try simp only [World.size_alloc, size_drew] at z2)
    have hq2 := below_cells b_
    (try (have zb2 : w1.heap.size < w2.heap.size := (by omega)))
    replace HB := Lib.hid (Below.trans (by first | with_reducible exact HB.out | with_reducible exact HB.out.alloc (by omega) _ | with_reducible exact (HB.out.alloc (by omega) _).alloc (by first | omega | (simp; done) | (simp; omega)) _ | with_reducible exact ((HB.out.alloc (by omega) _).alloc (by first | omega | (simp; done) | (simp; omega)) _).alloc (by first | omega | (simp; done) | (simp; omega)) _) (b_.mono (by first | omega | (simp; done) | (simp; omega))))
    rw [HV.out]; replace HX := Lib.hid (RdI.below (by first | with_reducible exact HX.out | with_reducible exact HX.out.al (by omega) _ | with_reducible exact (HX.out.al (by omega) _).al (by first | omega | (simp; done) | (simp; omega)) _) b_ (by first | omega | (simp; done) | (simp; omega))); replace HY := Lib.hid (RdI.below (by first | with_reducible exact HY.out | with_reducible exact HY.out.al (by omega) _ | with_reducible exact (HY.out.al (by omega) _).al (by first | omega | (simp; done) | (simp; omega)) _) b_ (by first | omega | (simp; done) | (simp; omega)))
    clear b_
    go_wp2_with fail
    refine (spec_FollowCost _ _ _ _ _ _ _ (RdI.more (by first | with_reducible exact HX.out | with_reducible exact HX.out.al (by omega) _ | with_reducible exact (HX.out.al (by omega) _).al (by first | omega | (simp; done) | (simp; omega)) _) (by first | omega | (simp; done) | (simp; omega))) (RdI.more (by first | with_reducible exact HY.out | with_reducible exact HY.out.al (by omega) _ | with_reducible exact (HY.out.al (by omega) _).al (by first | omega | (simp; done) | (simp; omega)) _) (by first | omega | (simp; done) | (simp; omega))) (by omega) (by omega)).mono ?_
    rintro e w3 ⟨rfl, b_⟩
    have z3 := b_.size; (try simp only [World.size_alloc, size_drew] at z3)
    have hq3 := below_cells b_
    (try (have zb3 : w1.heap.size < w3.heap.size := (by omega)))
    replace HB := Lib.hid (Below.trans (by first | with_reducible exact HB.out | with_reducible exact HB.out.alloc (by omega) _ | with_reducible exact (HB.out.alloc (by omega) _).alloc (by first | omega | (simp; done) | (simp; omega)) _ | with_reducible exact ((HB.out.alloc (by omega) _).alloc (by first | omega | (simp; done) | (simp; omega)) _).alloc (by first | omega | (simp; done) | (simp; omega)) _) (b_.mono (by first | omega | (simp; done) | (simp; omega))))
    rw [HV.out]; replace HX := Lib.hid (RdI.below (by first | with_reducible exact HX.out | with_reducible exact HX.out.al (by omega) _ | with_reducible exact (HX.out.al (by omega) _).al (by first | omega | (simp; done) | (simp; omega)) _) b_ (by first | omega | (simp; done) | (simp; omega))); replace HY := Lib.hid (RdI.below (by first | with_reducible exact HY.out | with_reducible exact HY.out.al (by omega) _ | with_reducible exact (HY.out.al (by omega) _).al (by first | omega | (simp; done) | (simp; omega)) _) b_ (by first | omega | (simp; done) | (simp; omega)))
    clear b_
    go_wp2_with fail
    refine (laws_alive _).mono ?_
    rintro e w4 ⟨rfl, b_⟩
    have z4 := b_.size; (try simp only [World.size_alloc, size_drew] at z4)
    have hq4 := below_cells b_
    (try (have zb4 : w1.heap.size < w4.heap.size := (by omega)))
    replace HB := Lib.hid (Below.trans (by first | with_reducible exact HB.out | with_reducible exact HB.out.alloc (by omega) _ | with_reducible exact (HB.out.alloc (by omega) _).alloc (by first | omega | (simp; done) | (simp; omega)) _ | with_reducible exact ((HB.out.alloc (by omega) _).alloc (by first | omega | (simp; done) | (simp; omega)) _).alloc (by first | omega | (simp; done) | (simp; omega)) _) (b_.mono (by first | omega | (simp; done) | (simp; omega))))
    skip
    clear b_
    go_wp2_with fail
    go_ret
    exact ⟨rfl, HB.out⟩
  have HV : Hid (folL xs ys = D xs ys xs.length ys.length) := by unfold Hid; unfold folL; rw [if_pos hok]
  have HV2 : Hid (folL ys xs = D xs ys xs.length ys.length) := by unfold Hid; unfold folL; rw [if_pos hok.symm, D_comm]
  have HV3 : Hid (folL xs xs = 0) := by unfold Hid; unfold folL; rw [if_pos ⟨hok.1, hok.1⟩, D_diag]
  have h1 := D_le xs ys xs.length ys.length
  obtain ⟨h2, h3, h4⟩ := D_ge xs ys xs.length ys.length
  have h5 := zero_same xs ys
  clear hok
  generalize D xs ys xs.length ys.length = x at *
  have h6 : decide (x < 0) = false := decide_eq_false (by omega)
  have t1 : decide (x ≤ 2 * ((xs.length : Int) + (ys.length : Int))) = true := decide_eq_true (by omega)
  have t2 : decide (2 * max ((xs.length : Int) - (ys.length : Int)) (-((xs.length : Int) - (ys.length : Int))) ≤ x) = true := decide_eq_true (by omega)
  have t3 : decide (2 * max ((xs.length : Int) - (ys.length : Int)) ((ys.length : Int) - (xs.length : Int)) ≤ x) = true := decide_eq_true (by omega)
  have H5 := Lib.hid h5.symm
  clear h5
  cases hz : (x == 0)
  all_goals
    rw [hz] at H5
    go_wp2_with fail
    refine (impl_FollowCost _ _ _ _ _ _ _ (RdI.more (by first | with_reducible exact HX.out | with_reducible exact HX.out.al (by omega) _ | with_reducible exact (HX.out.al (by omega) _).al (by first | omega | (simp; done) | (simp; omega)) _) (by first | omega | (simp; done) | (simp; omega))) (RdI.more (by first | with_reducible exact HY.out | with_reducible exact HY.out.al (by omega) _ | with_reducible exact (HY.out.al (by omega) _).al (by first | omega | (simp; done) | (simp; omega)) _) (by first | omega | (simp; done) | (simp; omega))) (by omega) (by omega)).mono ?_
    rintro e w2 ⟨rfl, b_⟩
    have z2 := b_.size; (try simp only [World.size_alloc, size_drew] at z2)
    have hq2 := below_cells b_
    (try (have zb2 : w1.heap.size < w2.heap.size := (by omega)))
    replace HB := Lib.hid (Below.trans (by first | with_reducible exact HB.out | with_reducible exact HB.out.alloc (by omega) _ | with_reducible exact (HB.out.alloc (by omega) _).alloc (by first | omega | (simp; done) | (simp; omega)) _ | with_reducible exact ((HB.out.alloc (by omega) _).alloc (by first | omega | (simp; done) | (simp; omega)) _).alloc (by first | omega | (simp; done) | (simp; omega)) _) (b_.mono (by first | omega | (simp; done) | (simp; omega))))
    rw [HV.out]; replace HX := Lib.hid (RdI.below (by first | with_reducible exact HX.out | with_reducible exact HX.out.al (by omega) _ | with_reducible exact (HX.out.al (by omega) _).al (by first | omega | (simp; done) | (simp; omega)) _) b_ (by first | omega | (simp; done) | (simp; omega))); replace HY := Lib.hid (RdI.below (by first | with_reducible exact HY.out | with_reducible exact HY.out.al (by omega) _ | with_reducible exact (HY.out.al (by omega) _).al (by first | omega | (simp; done) | (simp; omega)) _) b_ (by first | omega | (simp; done) | (simp; omega)))
    clear b_
    go_wp2_with fail
    refine (spec_FollowCost _ _ _ _ _ _ _ (RdI.more (by first | with_reducible exact HX.out | with_reducible exact HX.out.al (by omega) _ | with_reducible exact (HX.out.al (by omega) _).al (by first | omega | (simp; done) | (simp; omega)) _) (by first | omega | (simp; done) | (simp; omega))) (RdI.more (by first | with_reducible exact HY.out | with_reducible exact HY.out.al (by omega) _ | with_reducible exact (HY.out.al (by omega) _).al (by first | omega | (simp; done) | (simp; omega)) _) (by first | omega | (simp; done) | (simp; omega))) (by omega) (by omega)).mono ?_
    rintro e w3 ⟨rfl, b_⟩
    have z3 := b_.size; (try simp only [World.size_alloc, size_drew] at z3)
    have hq3 := below_cells b_
    (try (have zb3 : w1.heap.size < w3.heap.size := (by omega)))
    replace HB := Lib.hid (Below.trans (by first | with_reducible exact HB.out | with_reducible exact HB.out.alloc (by omega) _ | with_reducible exact (HB.out.alloc (by omega) _).alloc (by first | omega | (simp; done) | (simp; omega)) _ | with_reducible exact ((HB.out.alloc (by omega) _).alloc (by first | omega | (simp; done) | (simp; omega)) _).alloc (by first | omega | (simp; done) | (simp; omega)) _) (b_.mono (by first | omega | (simp; done) | (simp; omega))))
    rw [HV.out]; replace HX := Lib.hid (RdI.below (by first | with_reducible exact HX.out | with_reducible exact HX.out.al (by omega) _ | with_reducible exact (HX.out.al (by omega) _).al (by first | omega | (simp; done) | (simp; omega)) _) b_ (by first | omega | (simp; done) | (simp; omega))); replace HY := Lib.hid (RdI.below (by first | with_reducible exact HY.out | with_reducible exact HY.out.al (by omega) _ | with_reducible exact (HY.out.al (by omega) _).al (by first | omega | (simp; done) | (simp; omega)) _) b_ (by first | omega | (simp; done) | (simp; omega)))
    clear b_
    go_wp2_with fail
    refine (impl_FollowCost _ _ _ _ _ _ _ (RdI.more (by first | with_reducible exact HY.out | with_reducible exact HY.out.al (by omega) _ | with_reducible exact (HY.out.al (by omega) _).al (by first | omega | (simp; done) | (simp; omega)) _) (by first | omega | (simp; done) | (simp; omega))) (RdI.more (by first | with_reducible exact HX.out | with_reducible exact HX.out.al (by omega) _ | with_reducible exact (HX.out.al (by omega) _).al (by first | omega | (simp; done) | (simp; omega)) _) (by first | omega | (simp; done) | (simp; omega))) (by omega) (by omega)).mono ?_
    rintro e w4 ⟨rfl, b_⟩
    have z4 := b_.size; (try simp only [World.size_alloc, size_drew] at z4)
    have hq4 := below_cells b_
    (try (have zb4 : w1.heap.size < w4.heap.size := (by omega)))
    replace HB := Lib.hid (Below.trans (by first | with_reducible exact HB.out | with_reducible exact HB.out.alloc (by omega) _ | with_reducible exact (HB.out.alloc (by omega) _).alloc (by first | omega | (simp; done) | (simp; omega)) _ | with_reducible exact ((HB.out.alloc (by omega) _).alloc (by first | omega | (simp; done) | (simp; omega)) _).alloc (by first | omega | (simp; done) | (simp; omega)) _) (b_.mono (by first | omega | (simp; done) | (simp; omega))))
    rw [HV2.out]; replace HX := Lib.hid (RdI.below (by first | with_reducible exact HX.out | with_reducible exact HX.out.al (by omega) _ | with_reducible exact (HX.out.al (by omega) _).al (by first | omega | (simp; done) | (simp; omega)) _) b_ (by first | omega | (simp; done) | (simp; omega))); replace HY := Lib.hid (RdI.below (by first | with_reducible exact HY.out | with_reducible exact HY.out.al (by omega) _ | with_reducible exact (HY.out.al (by omega) _).al (by first | omega | (simp; done) | (simp; omega)) _) b_ (by first | omega | (simp; done) | (simp; omega)))
    clear b_
    go_wp2_with fail
    refine (impl_FollowCost _ _ _ _ _ _ _ (RdI.more (by first | with_reducible exact HX.out | with_reducible exact HX.out.al (by omega) _ | with_reducible exact (HX.out.al (by omega) _).al (by first | omega | (simp; done) | (simp; omega)) _) (by first | omega | (simp; done) | (simp; omega))) (RdI.more (by first | with_reducible exact HX.out | with_reducible exact HX.out.al (by omega) _ | with_reducible exact (HX.out.al (by omega) _).al (by first | omega | (simp; done) | (simp; omega)) _) (by first | omega | (simp; done) | (simp; omega))) (by omega) (by omega)).mono ?_
    rintro e w5 ⟨rfl, b_⟩
    have z5 := b_.size; (try simp only [World.size_alloc, size_drew] at z5)
    have hq5 := below_cells b_
    (try (have zb5 : w1.heap.size < w5.heap.size := (by omega)))
    replace HB := Lib.hid (Below.trans (by first | with_reducible exact HB.out | with_reducible exact HB.out.alloc (by omega) _ | with_reducible exact (HB.out.alloc (by omega) _).alloc (by first | omega | (simp; done) | (simp; omega)) _ | with_reducible exact ((HB.out.alloc (by omega) _).alloc (by first | omega | (simp; done) | (simp; omega)) _).alloc (by first | omega | (simp; done) | (simp; omega)) _) (b_.mono (by first | omega | (simp; done) | (simp; omega))))
    rw [HV3.out]; replace HX := Lib.hid (RdI.below (by first | with_reducible exact HX.out | with_reducible exact HX.out.al (by omega) _ | with_reducible exact (HX.out.al (by omega) _).al (by first | omega | (simp; done) | (simp; omega)) _) b_ (by first | omega | (simp; done) | (simp; omega))); replace HY := Lib.hid (RdI.below (by first | with_reducible exact HY.out | with_reducible exact HY.out.al (by omega) _ | with_reducible exact (HY.out.al (by omega) _).al (by first | omega | (simp; done) | (simp; omega)) _) b_ (by first | omega | (simp; done) | (simp; omega)))
    clear b_
    go_wp2_with fail
    all_goals
      refine (laws_sameInts _ _ _ _ _ _ _ (RdI.more (by first | with_reducible exact HX.out | with_reducible exact HX.out.al (by omega) _ | with_reducible exact (HX.out.al (by omega) _).al (by first | omega | (simp; done) | (simp; omega)) _) (by first | omega | (simp; done) | (simp; omega))) (RdI.more (by first | with_reducible exact HY.out | with_reducible exact HY.out.al (by omega) _ | with_reducible exact (HY.out.al (by omega) _).al (by first | omega | (simp; done) | (simp; omega)) _) (by first | omega | (simp; done) | (simp; omega))) (by omega) (by omega)).mono ?_
      rintro e w6 ⟨rfl, b_⟩
      rw [H5.out]
      have HB6 := Lib.hid (Below.trans HB.out (b_.mono (by omega)))
      clear b_
      go_wp2_with fail
      go_ret
      exact ⟨rfl, HB6.out⟩
end Go.Proofs.Ytfmdpnnddhelaaa.fnFollowCost
