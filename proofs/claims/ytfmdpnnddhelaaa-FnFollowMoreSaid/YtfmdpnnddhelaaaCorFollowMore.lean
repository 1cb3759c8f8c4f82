/- The walk of FnFollowMore: it returns true. Condition: at most 2^20 bytes. -/
import Derived.Test.YtfmdpnnddhelaaaFolM
import Derived.Test.YtfmdpnnddhelaaaFolD
import Derived.Test.YtfmdpnnddhelaaaAlive
namespace Go.Proofs.Ytfmdpnnddhelaaa.fnFollowMore
set_option linter.unusedVariables false
open Go.RowKit
set_option linter.unusedSimpArgs false
set_option maxHeartbeats 600000 in
theorem core (w : World) (A_z : Option Addr) (c_z : Nat) (z : List Int) (r_z : RdY w w.heap.size A_z z) (f_z : WfY z) (k_z : z.length ≤ c_z) (hbig : z.length ≤ 1048576) :
    Calls Try.prog 5 #[.slice A_z z.length c_z] w (RetB w true) := by
  have hi1 : (z.length : Int) ≤ 1048576 := by omega
  go_enter Try.func5, Try.ntmps5
  go_wp2_with fail
  refine (spec_DrawFollowCost A_z c_z z w r_z f_z hbig k_z).mono ?_
  rintro e w1 ⟨A, C, c, d, xs, ys, rfl, hlx, hly, ra, rb, ⟨g, rfl⟩, b1⟩
  have z1 := b1.size
  have HX := Lib.hid ra; have HY := Lib.hid rb
  have HB := Lib.hid b1; clear b1 r_z f_z ra rb
  by_cases hok : okK xs = true ∧ okK ys = true
  case neg =>
    have HV : Hid (folL xs ys = -1) := by unfold Hid; unfold folL; rw [if_neg hok]
    clear hok
    go_wp2_with fail
    refine (impl_FollowCost _ _ _ _ _ _ _ (RdI.more (by first | with_reducible exact HX.out | with_reducible exact HX.out.al (by omega) _ | with_reducible exact (HX.out.al (by omega) _).al (by first | omega | (simp; done) | (simp; omega)) _) (by first | omega | (simp; done) | (simp; omega))) (RdI.more (by first | with_reducible exact HY.out | with_reducible exact HY.out.al (by omega) _ | with_reducible exact (HY.out.al (by omega) _).al (by first | omega | (simp; done) | (simp; omega)) _) (by first | omega | (simp; done) | (simp; omega))) (by omega) (by omega)).mono ?_
    rintro e w2 ⟨rfl, b_⟩
    have z2 := b_.size; (try simp only [World.size_alloc, size_drew] at z2)
    have hq2 := below_cells b_
    (try (have zb2 : w1.heap.size < w2.heap.size := (by omega)))
    replace HB := Lib.hid (Below.trans (by first | with_reducible exact HB.out | with_reducible exact HB.out.alloc (by omega) _ | with_reducible exact (HB.out.alloc (by omega) _).alloc (by first | omega | (simp; done) | (simp; omega)) _ | with_reducible exact ((HB.out.alloc (by omega) _).alloc (by first | omega | (simp; done) | (simp; omega)) _).alloc (by first | omega | (simp; done) | (simp; omega)) _) (b_.mono (by first | omega | (simp; done) | (simp; omega))))
    rw [HV.out]; replace HX := Lib.hid (RdI.below (by first | with_reducible exact HX.out | with_reducible exact HX.out.al (by omega) _ | with_reducible exact (HX.out.al (by omega) _).al (by first | omega | (simp; done) | (simp; omega)) _) b_ (by first | omega | (simp; done) | (simp; omega))); replace HY := Lib.hid (RdI.below (by first | with_reducible exact HY.out | with_reducible exact HY.out.al (by omega) _ | with_reducible exact (HY.out.al (by omega) _).al (by first | omega | (simp; done) | (simp; omega)) _) b_ (by first | omega | (simp; done) | (simp; omega)))
    clear b_
    go_wp2_with fail
    refine (spec_FollowCost _ _ _ _ _ _ _ (RdI.more (by first | with_reducible exact HX.out | with_reducible exact HX.out.al (by omega) _ | with_reducible exact (HX.out.al (by omega) _).al (by first | omega | (simp; done) | (simp; omega)) _) (by first | omega | (simp; done) | (simp; omega))) (RdI.more (by first | with_reducible exact HY.out | with_reducible exact HY.out.al (by omega) _ | with_reducible exact (HY.out.al (by omega) _).al (by first | omega | (simp; done) | (simp; omega)) _) (by first | omega | (simp; done) | (simp; omega))) (by omega) (by omega)).mono ?_
    rintro e w3 ⟨rfl, b_⟩
    have z3 := b_.size; (try simp only [World.size_alloc, size_drew] at z3)
    have hq3 := below_cells b_
    (try (have zb3 : w1.heap.size < w3.heap.size := (by omega)))
    replace HB := Lib.hid (Below.trans (by first | with_reducible exact HB.out | with_reducible exact HB.out.alloc (by omega) _ | with_reducible exact (HB.out.alloc (by omega) _).alloc (by first | omega | (simp; done) | (simp; omega)) _ | with_reducible exact ((HB.out.alloc (by omega) _).alloc (by first | omega | (simp; done) | (simp; omega)) _).alloc (by first | omega | (simp; done) | (simp; omega)) _) (b_.mono (by first | omega | (simp; done) | (simp; omega))))
    rw [HV.out]; replace HX := Lib.hid (RdI.below (by first | with_reducible exact HX.out | with_reducible exact HX.out.al (by omega) _ | with_reducible exact (HX.out.al (by omega) _).al (by first | omega | (simp; done) | (simp; omega)) _) b_ (by first | omega | (simp; done) | (simp; omega))); replace HY := Lib.hid (RdI.below (by first | with_reducible exact HY.out | with_reducible exact HY.out.al (by omega) _ | with_reducible exact (HY.out.al (by omega) _).al (by first | omega | (simp; done) | (simp; omega)) _) b_ (by first | omega | (simp; done) | (simp; omega)))
    clear b_
    go_wp2_with fail
    refine (laws_alive _).mono ?_
    rintro e w4 ⟨rfl, b_⟩
    have z4 := b_.size; (try simp only [World.size_alloc, size_drew] at z4)
    have hq4 := below_cells b_
    (try (have zb4 : w1.heap.size < w4.heap.size := (by omega)))
    replace HB := Lib.hid (Below.trans (by first | with_reducible exact HB.out | with_reducible exact HB.out.alloc (by omega) _ | with_reducible exact (HB.out.alloc (by omega) _).alloc (by first | omega | (simp; done) | (simp; omega)) _ | with_reducible exact ((HB.out.alloc (by omega) _).alloc (by first | omega | (simp; done) | (simp; omega)) _).alloc (by first | omega | (simp; done) | (simp; omega)) _) (b_.mono (by first | omega | (simp; done) | (simp; omega))))
    skip
    clear b_
    go_wp2_with fail
    go_ret
    exact ⟨rfl, HB.out⟩
  have HV : Hid (folL xs ys = D xs ys xs.length ys.length) := by unfold Hid; unfold folL; rw [if_pos hok]
  have h1 := D_le xs ys xs.length ys.length
  obtain ⟨h2, h3, h4⟩ := D_ge xs ys xs.length ys.length
  have hl40 := okK_len hok.2
  by_cases h40 : ys.length = 40
  · clear hok h3 h4
    generalize D xs ys xs.length ys.length = x at *
    have h6 : decide (x < 0) = false := decide_eq_false (by omega)
    have e40 : ((ys.length : Int) == 40) = true := beq_iff_eq.2 (by omega)
    clear h40
    go_wp2_with fail
    refine (impl_FollowCost _ _ _ _ _ _ _ (RdI.more (by first | with_reducible exact HX.out | with_reducible exact HX.out.al (by omega) _ | with_reducible exact (HX.out.al (by omega) _).al (by first | omega | (simp; done) | (simp; omega)) _) (by first | omega | (simp; done) | (simp; omega))) (RdI.more (by first | with_reducible exact HY.out | with_reducible exact HY.out.al (by omega) _ | with_reducible exact (HY.out.al (by omega) _).al (by first | omega | (simp; done) | (simp; omega)) _) (by first | omega | (simp; done) | (simp; omega))) (by omega) (by omega)).mono ?_
    rintro e w2 ⟨rfl, b_⟩
    have z2 := b_.size; (try simp only [World.size_alloc, size_drew] at z2)
    have hq2 := below_cells b_
    (try (have zb2 : w1.heap.size < w2.heap.size := (by omega)))
    replace HB := Lib.hid (Below.trans (by first | with_reducible exact HB.out | with_reducible exact HB.out.alloc (by omega) _ | with_reducible exact (HB.out.alloc (by omega) _).alloc (by first | omega | (simp; done) | (simp; omega)) _ | with_reducible exact ((HB.out.alloc (by omega) _).alloc (by first | omega | (simp; done) | (simp; omega)) _).alloc (by first | omega | (simp; done) | (simp; omega)) _) (b_.mono (by first | omega | (simp; done) | (simp; omega))))
    rw [HV.out]; replace HX := Lib.hid (RdI.below (by first | with_reducible exact HX.out | with_reducible exact HX.out.al (by omega) _ | with_reducible exact (HX.out.al (by omega) _).al (by first | omega | (simp; done) | (simp; omega)) _) b_ (by first | omega | (simp; done) | (simp; omega))); replace HY := Lib.hid (RdI.below (by first | with_reducible exact HY.out | with_reducible exact HY.out.al (by omega) _ | with_reducible exact (HY.out.al (by omega) _).al (by first | omega | (simp; done) | (simp; omega)) _) b_ (by first | omega | (simp; done) | (simp; omega)))
    clear b_
    go_wp2_with fail
    refine (spec_FollowCost _ _ _ _ _ _ _ (RdI.more (by first | with_reducible exact HX.out | with_reducible exact HX.out.al (by omega) _ | with_reducible exact (HX.out.al (by omega) _).al (by first | omega | (simp; done) | (simp; omega)) _) (by first | omega | (simp; done) | (simp; omega))) (RdI.more (by first | with_reducible exact HY.out | with_reducible exact HY.out.al (by omega) _ | with_reducible exact (HY.out.al (by omega) _).al (by first | omega | (simp; done) | (simp; omega)) _) (by first | omega | (simp; done) | (simp; omega))) (by omega) (by omega)).mono ?_
    rintro e w3 ⟨rfl, b_⟩
    have z3 := b_.size; (try simp only [World.size_alloc, size_drew] at z3)
    have hq3 := below_cells b_
    (try (have zb3 : w1.heap.size < w3.heap.size := (by omega)))
    replace HB := Lib.hid (Below.trans (by first | with_reducible exact HB.out | with_reducible exact HB.out.alloc (by omega) _ | with_reducible exact (HB.out.alloc (by omega) _).alloc (by first | omega | (simp; done) | (simp; omega)) _ | with_reducible exact ((HB.out.alloc (by omega) _).alloc (by first | omega | (simp; done) | (simp; omega)) _).alloc (by first | omega | (simp; done) | (simp; omega)) _) (b_.mono (by first | omega | (simp; done) | (simp; omega))))
    rw [HV.out]; replace HX := Lib.hid (RdI.below (by first | with_reducible exact HX.out | with_reducible exact HX.out.al (by omega) _ | with_reducible exact (HX.out.al (by omega) _).al (by first | omega | (simp; done) | (simp; omega)) _) b_ (by first | omega | (simp; done) | (simp; omega))); replace HY := Lib.hid (RdI.below (by first | with_reducible exact HY.out | with_reducible exact HY.out.al (by omega) _ | with_reducible exact (HY.out.al (by omega) _).al (by first | omega | (simp; done) | (simp; omega)) _) b_ (by first | omega | (simp; done) | (simp; omega)))
    clear b_
    go_wp2_with fail
    refine (laws_alive _).mono ?_
    rintro e w4 ⟨rfl, b_⟩
    have z4 := b_.size; (try simp only [World.size_alloc, size_drew] at z4)
    have hq4 := below_cells b_
    (try (have zb4 : w1.heap.size < w4.heap.size := (by omega)))
    replace HB := Lib.hid (Below.trans (by first | with_reducible exact HB.out | with_reducible exact HB.out.alloc (by omega) _ | with_reducible exact (HB.out.alloc (by omega) _).alloc (by first | omega | (simp; done) | (simp; omega)) _ | with_reducible exact ((HB.out.alloc (by omega) _).alloc (by first | omega | (simp; done) | (simp; omega)) _).alloc (by first | omega | (simp; done) | (simp; omega)) _) (b_.mono (by first | omega | (simp; done) | (simp; omega))))
    skip
    clear b_
    go_wp2_with fail
    go_ret
    exact ⟨rfl, HB.out⟩
  have HV2 : Hid (folL xs (ys ++ [60]) = D xs (ys ++ [60]) xs.length (ys ++ [60]).length) := by unfold Hid; unfold folL; rw [if_pos ⟨hok.1, okK_app hok.2 (by omega)⟩]
  obtain ⟨m1, m2⟩ := D_more xs ys 60
  clear hok h3 h4
  generalize D xs (ys ++ [60]) xs.length (ys ++ [60]).length = y at *
  generalize D xs ys xs.length ys.length = x at *
  have h6 : decide (x < 0) = false := decide_eq_false (by omega)
  have e40 : ((ys.length : Int) == 40) = false := beq_eq_false_iff_ne.2 (by omega)
  have t1 : decide (y - x ≤ 2) = true := decide_eq_true m1
  have t2 : decide (x - y ≤ 2) = true := decide_eq_true m2
  obtain ⟨i0, hi, hz0, hz1, hz2⟩ := info_parts infoInt
  have HI := Lib.hid hi; have H0 := Lib.hid hz0; have H1 := Lib.hid hz1; have H2 := Lib.hid hz2; clear hi hz0 hz1 hz2
  go_wp2_with fail
  refine (impl_FollowCost _ _ _ _ _ _ _ (RdI.more (by first | with_reducible exact HX.out | with_reducible exact HX.out.al (by omega) _ | with_reducible exact (HX.out.al (by omega) _).al (by first | omega | (simp; done) | (simp; omega)) _) (by first | omega | (simp; done) | (simp; omega))) (RdI.more (by first | with_reducible exact HY.out | with_reducible exact HY.out.al (by omega) _ | with_reducible exact (HY.out.al (by omega) _).al (by first | omega | (simp; done) | (simp; omega)) _) (by first | omega | (simp; done) | (simp; omega))) (by omega) (by omega)).mono ?_
  rintro e w2 ⟨rfl, b_⟩
  have z2 := b_.size; (try simp only [World.size_alloc, size_drew] at z2)
  have hq2 := below_cells b_
  (try (have zb2 : w1.heap.size < w2.heap.size := (by omega)))
  replace HB := Lib.hid (Below.trans (by first | with_reducible exact HB.out | with_reducible exact HB.out.alloc (by omega) _ | with_reducible exact (HB.out.alloc (by omega) _).alloc (by first | omega | (simp; done) | (simp; omega)) _ | with_reducible exact ((HB.out.alloc (by omega) _).alloc (by first | omega | (simp; done) | (simp; omega)) _).alloc (by first | omega | (simp; done) | (simp; omega)) _) (b_.mono (by first | omega | (simp; done) | (simp; omega))))
  rw [HV.out]; replace HX := Lib.hid (RdI.below (by first | with_reducible exact HX.out | with_reducible exact HX.out.al (by omega) _ | with_reducible exact (HX.out.al (by omega) _).al (by first | omega | (simp; done) | (simp; omega)) _) b_ (by first | omega | (simp; done) | (simp; omega))); replace HY := Lib.hid (RdI.below (by first | with_reducible exact HY.out | with_reducible exact HY.out.al (by omega) _ | with_reducible exact (HY.out.al (by omega) _).al (by first | omega | (simp; done) | (simp; omega)) _) b_ (by first | omega | (simp; done) | (simp; omega)))
  clear b_
  go_wp2_with fail
  refine (spec_FollowCost _ _ _ _ _ _ _ (RdI.more (by first | with_reducible exact HX.out | with_reducible exact HX.out.al (by omega) _ | with_reducible exact (HX.out.al (by omega) _).al (by first | omega | (simp; done) | (simp; omega)) _) (by first | omega | (simp; done) | (simp; omega))) (RdI.more (by first | with_reducible exact HY.out | with_reducible exact HY.out.al (by omega) _ | with_reducible exact (HY.out.al (by omega) _).al (by first | omega | (simp; done) | (simp; omega)) _) (by first | omega | (simp; done) | (simp; omega))) (by omega) (by omega)).mono ?_
  rintro e w3 ⟨rfl, b_⟩
  have z3 := b_.size; (try simp only [World.size_alloc, size_drew] at z3)
  have hq3 := below_cells b_
  (try (have zb3 : w1.heap.size < w3.heap.size := (by omega)))
  replace HB := Lib.hid (Below.trans (by first | with_reducible exact HB.out | with_reducible exact HB.out.alloc (by omega) _ | with_reducible exact (HB.out.alloc (by omega) _).alloc (by first | omega | (simp; done) | (simp; omega)) _ | with_reducible exact ((HB.out.alloc (by omega) _).alloc (by first | omega | (simp; done) | (simp; omega)) _).alloc (by first | omega | (simp; done) | (simp; omega)) _) (b_.mono (by first | omega | (simp; done) | (simp; omega))))
  rw [HV.out]; replace HX := Lib.hid (RdI.below (by first | with_reducible exact HX.out | with_reducible exact HX.out.al (by omega) _ | with_reducible exact (HX.out.al (by omega) _).al (by first | omega | (simp; done) | (simp; omega)) _) b_ (by first | omega | (simp; done) | (simp; omega))); replace HY := Lib.hid (RdI.below (by first | with_reducible exact HY.out | with_reducible exact HY.out.al (by omega) _ | with_reducible exact (HY.out.al (by omega) _).al (by first | omega | (simp; done) | (simp; omega)) _) b_ (by first | omega | (simp; done) | (simp; omega)))
  clear b_
  go_wp2_with (first
    | (at_builtin; refine append_all rfl _ _ 22 rfl i0 (.int .i64 0) Try.underlying22 HI.out H0.out H1.out H2.out rfl w3 g 0 d ys (HY.out.more (by omega)) (by omega) rfl rfl ?_; intro A4 c4 w4 hO4 hB4; have z4 := hB4.size; have HO := Lib.hid hO4; replace HX := Lib.hid (HX.out.below hB4 (by omega)); replace HB := Lib.hid (HB.out.trans (hB4.mono (by omega))); clear hO4 hB4)
    | ((at_builtin; refine append_el rfl _ _ 22 rfl 3 i0 (.int .i64 0) 1 8 Try.underlying22 HI.out H0.out H1.out H2.out rfl (by decide) (by decide) w3.heap.size w4 w4 _ ys.length _ HO.out (Below.refl _ _) (by omega) (by omega) rfl [.int .i64 (60)] rfl (by simp [Value.oneCell']) rfl ?_; intro A2 c2 w5 hown2 hbel2 hbase2 _)))
  have z5 := hbel2.size
  have HO5 := Lib.hid (RdI.of_own (own_snoc hown2))
  replace HX := Lib.hid (HX.out.below hbel2 (by omega))
  replace HB := Lib.hid (HB.out.trans (hbel2.mono (by omega)))
  have hc := impl_FollowCost A A2 c c2 xs (ys ++ [60]) w5 (HX.out.more (by omega)) HO5.out (by omega) (by simp; omega)
  rw [HV2.out] at hc
  simp only [List.length_append, List.length_singleton] at hc
  refine hc.mono ?_
  rintro e w6 ⟨rfl, b6⟩
  have HB6 := Lib.hid (HB.out.trans (b6.mono (by omega)))
  clear hc b6 hown2 hbel2
  go_wp2_with fail
  go_ret
  exact ⟨rfl, HB6.out⟩
end Go.Proofs.Ytfmdpnnddhelaaa.fnFollowMore
