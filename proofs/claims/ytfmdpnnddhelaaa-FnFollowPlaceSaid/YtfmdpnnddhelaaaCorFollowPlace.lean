/- The walk of FnFollowPlace: it returns true. Condition: at most 2^20 bytes. -/
import Derived.Test.YtfmdpnnddhelaaaFolPl
import Derived.Test.YtfmdpnnddhelaaaFolT
import Derived.Test.YtfmdpnnddhelaaaFol3
import Derived.Test.YtfmdpnnddhelaaaAlive
namespace Go.Proofs.Ytfmdpnnddhelaaa.fnFollowPlace
set_option linter.unusedVariables false
open Go.RowKit
set_option linter.unusedSimpArgs false
theorem impl_FollowCostN (A C : Option Addr) (c d n m : Nat) (a b : List Int) (w : World) (hn : a.length = n) (hm : b.length = m) (hx : RdI w w.heap.size A a) (hy : RdI w w.heap.size C b) (hl : n ≤ 1048576) (hl2 : m ≤ 1048576) :
    Calls Try.prog 14 #[.slice A n c, .slice C m d] w (RetI w (folL a b)) := by
  subst hn; subst hm; exact impl_FollowCost A C c d a b w hx hy hl hl2
theorem impl_FollowPlaceN (A C : Option Addr) (c d n m : Nat) (a b : List Int) (w : World) (hn : a.length = n) (hm : b.length = m) (hx : RdI w w.heap.size A a) (hy : RdI w w.heap.size C b) (hl : n ≤ 1048576) (hl2 : m ≤ 1048576) :
    Calls Try.prog 17 #[.slice A n c, .slice C m d] w (RetI w (placeL a b)) := by
  subst hn; subst hm; exact impl_FollowPlace A C c d a b w hx hy hl hl2
set_option maxRecDepth 100000 in
set_option maxHeartbeats 4000000 in
theorem core (w : World) (A_z : Option Addr) (c_z : Nat) (z : List Int) (r_z : RdY w w.heap.size A_z z) (f_z : WfY z) (k_z : z.length ≤ c_z) (hbig : z.length ≤ 1048576) :
    Calls Try.prog 8 #[.slice A_z z.length c_z] w (RetB w true) := by
  have hi1 : (z.length : Int) ≤ 1048576 := by omega
  go_enter Try.func8, Try.ntmps8
  go_wp2_with fail
  refine (spec_DrawFollowPlace A_z c_z z w r_z f_z hbig k_z).mono ?_
  rintro e w1 ⟨g1, g2, c, d, xs, ys, rfl, hlx, hly, ra, rb, b1, hca, hcb⟩
  have z1 := b1.size
  have HX := Lib.hid ra; have HY := Lib.hid rb
  have HB := Lib.hid b1; clear b1 r_z f_z ra rb
  by_cases hok : okK xs = true ∧ okK ys = true
  case neg =>
    have HV : Hid (placeL xs ys = -1) := by unfold Hid; unfold placeL; rw [if_neg hok]
    clear hok
    go_wp2_with fail
    refine (impl_FollowPlace _ _ _ _ _ _ _ (RdI.more (by first | with_reducible exact HX.out | with_reducible exact HX.out.al (by omega) _ | with_reducible exact (HX.out.al (by omega) _).al (by first | omega | (simp; done) | (simp; omega)) _) (by first | omega | (simp; done) | (simp; omega))) (RdI.more (by first | with_reducible exact HY.out | with_reducible exact HY.out.al (by omega) _ | with_reducible exact (HY.out.al (by omega) _).al (by first | omega | (simp; done) | (simp; omega)) _) (by first | omega | (simp; done) | (simp; omega))) (by omega) (by omega)).mono ?_
    rintro e w2 ⟨rfl, b_⟩
    have z2 := b_.size; (try simp only [World.size_alloc, size_drew] at z2)
    have hq2 := below_cells b_
    (try (have zb2 : w1.heap.size < w2.heap.size := (by omega)))
    replace HB := Lib.hid (Below.trans (by first | with_reducible exact HB.out | with_reducible exact HB.out.alloc (by omega) _ | with_reducible exact (HB.out.alloc (by omega) _).alloc (by first | omega | (simp; done) | (simp; omega)) _ | with_reducible exact ((HB.out.alloc (by omega) _).alloc (by first | omega | (simp; done) | (simp; omega)) _).alloc (by first | omega | (simp; done) | (simp; omega)) _) (b_.mono (by first | omega | (simp; done) | (simp; omega))))
    rw [HV.out]; replace HX := Lib.hid (RdI.below (by first | with_reducible exact HX.out | with_reducible exact HX.out.al (by omega) _ | with_reducible exact (HX.out.al (by omega) _).al (by first | omega | (simp; done) | (simp; omega)) _) b_ (by first | omega | (simp; done) | (simp; omega))); replace HY := Lib.hid (RdI.below (by first | with_reducible exact HY.out | with_reducible exact HY.out.al (by omega) _ | with_reducible exact (HY.out.al (by omega) _).al (by first | omega | (simp; done) | (simp; omega)) _) b_ (by first | omega | (simp; done) | (simp; omega)))
    clear b_
    go_wp2_with fail
    refine (spec_FollowPlace _ _ _ _ _ _ _ (RdI.more (by first | with_reducible exact HX.out | with_reducible exact HX.out.al (by omega) _ | with_reducible exact (HX.out.al (by omega) _).al (by first | omega | (simp; done) | (simp; omega)) _) (by first | omega | (simp; done) | (simp; omega))) (RdI.more (by first | with_reducible exact HY.out | with_reducible exact HY.out.al (by omega) _ | with_reducible exact (HY.out.al (by omega) _).al (by first | omega | (simp; done) | (simp; omega)) _) (by first | omega | (simp; done) | (simp; omega))) (by omega) (by omega)).mono ?_
    rintro e w3 ⟨rfl, b_⟩
    have z3 := b_.size; (try simp only [World.size_alloc, size_drew] at z3)
    have hq3 := below_cells b_
    (try (have zb3 : w1.heap.size < w3.heap.size := (by omega)))
    replace HB := Lib.hid (Below.trans (by first | with_reducible exact HB.out | with_reducible exact HB.out.alloc (by omega) _ | with_reducible exact (HB.out.alloc (by omega) _).alloc (by first | omega | (simp; done) | (simp; omega)) _ | with_reducible exact ((HB.out.alloc (by omega) _).alloc (by first | omega | (simp; done) | (simp; omega)) _).alloc (by first | omega | (simp; done) | (simp; omega)) _) (b_.mono (by first | omega | (simp; done) | (simp; omega))))
    rw [HV.out]; replace HX := Lib.hid (RdI.below (by first | with_reducible exact HX.out | with_reducible exact HX.out.al (by omega) _ | with_reducible exact (HX.out.al (by omega) _).al (by first | omega | (simp; done) | (simp; omega)) _) b_ (by first | omega | (simp; done) | (simp; omega))); replace HY := Lib.hid (RdI.below (by first | with_reducible exact HY.out | with_reducible exact HY.out.al (by omega) _ | with_reducible exact (HY.out.al (by omega) _).al (by first | omega | (simp; done) | (simp; omega)) _) b_ (by first | omega | (simp; done) | (simp; omega)))
    clear b_
    go_wp2_with fail
    refine (laws_alive _).mono ?_
    rintro e w4 ⟨rfl, b_⟩
    have z4 := b_.size; (try simp only [World.size_alloc, size_drew] at z4)
    have hq4 := below_cells b_
    (try (have zb4 : w1.heap.size < w4.heap.size := (by omega)))
    replace HB := Lib.hid (Below.trans (by first | with_reducible exact HB.out | with_reducible exact HB.out.alloc (by omega) _ | with_reducible exact (HB.out.alloc (by omega) _).alloc (by first | omega | (simp; done) | (simp; omega)) _ | with_reducible exact ((HB.out.alloc (by omega) _).alloc (by first | omega | (simp; done) | (simp; omega)) _).alloc (by first | omega | (simp; done) | (simp; omega)) _) (b_.mono (by first | omega | (simp; done) | (simp; omega))))
    skip
    clear b_
    go_wp2_with fail
    go_ret
    exact ⟨rfl, HB.out⟩
  have hV : placeL xs ys = (bestTo (fun i => D xs ys i ys.length) (xs.length + 1) : Nat) := by unfold placeL; rw [if_pos hok]
  have hle : bestTo (fun i => D xs ys i ys.length) (xs.length + 1) < xs.length + 1 := (bestTo_le (fun i => D xs ys i ys.length) (xs.length + 1)).2 (by omega)
  have hleast := bestTo_least (fun i => D xs ys i ys.length) (xs.length + 1)
  have hfol : ∀ k, k ≤ xs.length → folL (xs.take k) ys = D xs ys k ys.length := fun k hk => folL_take hok.1 hok.2 hk
  have hhalf : placeL xs (xs.take (xs.length / 2)) = ((xs.length / 2 : Nat) : Int) := by
    unfold placeL
    rw [if_pos ⟨hok.1, okK_take hok.1 _⟩]
    have := place_half xs (xs.length / 2) (Nat.div_le_self _ _)
    rw [show (xs.take (xs.length / 2)).length = xs.length / 2 by rw [List.length_take]; exact Nat.min_eq_left (Nat.div_le_self _ _), this]
  clear hok
  generalize bestTo (fun i => D xs ys i ys.length) (xs.length + 1) = p at *
  have HF := Lib.hid hfol
  have HLE := Lib.hid hleast
  have HV := Lib.hid hV
  have HH := Lib.hid hhalf
  clear hfol hleast hV hhalf
  have hp0 : (p : Int) ≤ (xs.length : Int) := by omega
  have hpc : (p : Int) ≤ (c : Int) := by omega
  have HTP := Lib.hid (show (xs.take p).length = p by rw [List.length_take]; omega)
  generalize hbest : D xs ys p ys.length = best at *
  have HBE := Lib.hid hbest
  clear hbest
  go_wp2_with fail
  refine (impl_FollowPlace _ _ _ _ _ _ _ (RdI.more (by first | with_reducible exact HX.out | with_reducible exact HX.out.al (by omega) _ | with_reducible exact (HX.out.al (by omega) _).al (by first | omega | (simp; done) | (simp; omega)) _) (by first | omega | (simp; done) | (simp; omega))) (RdI.more (by first | with_reducible exact HY.out | with_reducible exact HY.out.al (by omega) _ | with_reducible exact (HY.out.al (by omega) _).al (by first | omega | (simp; done) | (simp; omega)) _) (by first | omega | (simp; done) | (simp; omega))) (by omega) (by omega)).mono ?_
  rintro e w2 ⟨rfl, b_⟩
  have z2 := b_.size; (try simp only [World.size_alloc, size_drew] at z2)
  have hq2 := below_cells b_
  (try (have zb2 : w1.heap.size < w2.heap.size := (by omega)))
  replace HB := Lib.hid (Below.trans (by first | with_reducible exact HB.out | with_reducible exact HB.out.alloc (by omega) _ | with_reducible exact (HB.out.alloc (by omega) _).alloc (by first | omega | (simp; done) | (simp; omega)) _ | with_reducible exact ((HB.out.alloc (by omega) _).alloc (by first | omega | (simp; done) | (simp; omega)) _).alloc (by first | omega | (simp; done) | (simp; omega)) _) (b_.mono (by first | omega | (simp; done) | (simp; omega))))
  rw [HV.out]; replace HX := Lib.hid (RdI.below (by first | with_reducible exact HX.out | with_reducible exact HX.out.al (by omega) _ | with_reducible exact (HX.out.al (by omega) _).al (by first | omega | (simp; done) | (simp; omega)) _) b_ (by first | omega | (simp; done) | (simp; omega))); replace HY := Lib.hid (RdI.below (by first | with_reducible exact HY.out | with_reducible exact HY.out.al (by omega) _ | with_reducible exact (HY.out.al (by omega) _).al (by first | omega | (simp; done) | (simp; omega)) _) b_ (by first | omega | (simp; done) | (simp; omega)))
  clear b_
  go_wp2_with fail
  refine (spec_FollowPlace _ _ _ _ _ _ _ (RdI.more (by first | with_reducible exact HX.out | with_reducible exact HX.out.al (by omega) _ | with_reducible exact (HX.out.al (by omega) _).al (by first | omega | (simp; done) | (simp; omega)) _) (by first | omega | (simp; done) | (simp; omega))) (RdI.more (by first | with_reducible exact HY.out | with_reducible exact HY.out.al (by omega) _ | with_reducible exact (HY.out.al (by omega) _).al (by first | omega | (simp; done) | (simp; omega)) _) (by first | omega | (simp; done) | (simp; omega))) (by omega) (by omega)).mono ?_
  rintro e w3 ⟨rfl, b_⟩
  have z3 := b_.size; (try simp only [World.size_alloc, size_drew] at z3)
  have hq3 := below_cells b_
  (try (have zb3 : w1.heap.size < w3.heap.size := (by omega)))
  replace HB := Lib.hid (Below.trans (by first | with_reducible exact HB.out | with_reducible exact HB.out.alloc (by omega) _ | with_reducible exact (HB.out.alloc (by omega) _).alloc (by first | omega | (simp; done) | (simp; omega)) _ | with_reducible exact ((HB.out.alloc (by omega) _).alloc (by first | omega | (simp; done) | (simp; omega)) _).alloc (by first | omega | (simp; done) | (simp; omega)) _) (b_.mono (by first | omega | (simp; done) | (simp; omega))))
  rw [HV.out]; replace HX := Lib.hid (RdI.below (by first | with_reducible exact HX.out | with_reducible exact HX.out.al (by omega) _ | with_reducible exact (HX.out.al (by omega) _).al (by first | omega | (simp; done) | (simp; omega)) _) b_ (by first | omega | (simp; done) | (simp; omega))); replace HY := Lib.hid (RdI.below (by first | with_reducible exact HY.out | with_reducible exact HY.out.al (by omega) _ | with_reducible exact (HY.out.al (by omega) _).al (by first | omega | (simp; done) | (simp; omega)) _) b_ (by first | omega | (simp; done) | (simp; omega)))
  clear b_
  go_wp2_with fail
  refine (impl_FollowCostN (some ⟨g1, 0, none⟩) _ c _ p _ (xs.take p) ys _ HTP.out rfl (RdI.first (RdI.more (by first | with_reducible exact HX.out | with_reducible exact HX.out.al (by omega) _ | with_reducible exact (HX.out.al (by omega) _).al (by first | omega | (simp; done) | (simp; omega)) _) (by first | omega | (simp; done) | (simp; omega))) p) (RdI.more (by first | with_reducible exact HY.out | with_reducible exact HY.out.al (by omega) _ | with_reducible exact (HY.out.al (by omega) _).al (by first | omega | (simp; done) | (simp; omega)) _) (by first | omega | (simp; done) | (simp; omega))) (by omega) (by omega)).mono ?_
  rintro e w4 ⟨rfl, b_⟩
  have z4 := b_.size; (try simp only [World.size_alloc, size_drew] at z4)
  have hq4 := below_cells b_
  (try (have zb4 : w1.heap.size < w4.heap.size := (by omega)))
  replace HB := Lib.hid (Below.trans (by first | with_reducible exact HB.out | with_reducible exact HB.out.alloc (by omega) _ | with_reducible exact (HB.out.alloc (by omega) _).alloc (by first | omega | (simp; done) | (simp; omega)) _ | with_reducible exact ((HB.out.alloc (by omega) _).alloc (by first | omega | (simp; done) | (simp; omega)) _).alloc (by first | omega | (simp; done) | (simp; omega)) _) (b_.mono (by first | omega | (simp; done) | (simp; omega))))
  rw [HF.out p (by omega), HBE.out]; replace HX := Lib.hid (RdI.below (by first | with_reducible exact HX.out | with_reducible exact HX.out.al (by omega) _ | with_reducible exact (HX.out.al (by omega) _).al (by first | omega | (simp; done) | (simp; omega)) _) b_ (by first | omega | (simp; done) | (simp; omega))); replace HY := Lib.hid (RdI.below (by first | with_reducible exact HY.out | with_reducible exact HY.out.al (by omega) _ | with_reducible exact (HY.out.al (by omega) _).al (by first | omega | (simp; done) | (simp; omega)) _) b_ (by first | omega | (simp; done) | (simp; omega)))
  clear b_
  go_wp2_with fail
  go_loopw [7] (fun i wr => ∃ k : Nat, k ≤ xs.length + 1 ∧ i = .int .i64 k ∧ RdI wr wr.heap.size (some ⟨g1, 0, none⟩) xs ∧ RdI wr wr.heap.size (some ⟨g2, 0, none⟩) ys ∧ Below w.heap.size w wr) (fun i _ => xs.length + 1 - (intOf i).toNat)
  case atStart => exact ⟨0, by omega, rfl, (RdI.more (by first | with_reducible exact HX.out | with_reducible exact HX.out.al (by omega) _ | with_reducible exact (HX.out.al (by omega) _).al (by first | omega | (simp; done) | (simp; omega)) _) (by first | omega | (simp; done) | (simp; omega))), (RdI.more (by first | with_reducible exact HY.out | with_reducible exact HY.out.al (by omega) _ | with_reducible exact (HY.out.al (by omega) _).al (by first | omega | (simp; done) | (simp; omega)) _) (by first | omega | (simp; done) | (simp; omega))), HB.out⟩
  case round =>
    obtain ⟨k, hk, rfl, rx, ry, bw⟩ := hrel
    clear HX HY HB
    have HX := Lib.hid rx; have HY := Lib.hid ry; have HB := Lib.hid bw
    have zr := bw.size
    clear rx ry bw
    by_cases hlt : k ≤ xs.length
    · have HTK := Lib.hid (show (xs.take k).length = k by rw [List.length_take]; omega)
      have hkc : (k : Int) ≤ (c : Int) := by omega
      have hk1 : (k : Int) ≤ (xs.length : Int) := by omega
      have hl := HLE.out k (by omega)
      (try dsimp only at hl); (try simp only [HBE.out] at hl)
      obtain ⟨l1, l2⟩ := hl
      have HFK := Lib.hid (HF.out k hlt)
      generalize D xs ys k ys.length = ck at *
      have t1 : decide (ck < best) = false := decide_eq_false (by omega)
      go_wp2_with fail
      refine (impl_FollowCostN (some ⟨g1, 0, none⟩) _ c _ k _ (xs.take k) ys _ HTK.out rfl (RdI.first (RdI.more (by first | with_reducible exact HX.out | with_reducible exact HX.out.al (by omega) _ | with_reducible exact (HX.out.al (by omega) _).al (by first | omega | (simp; done) | (simp; omega)) _) (by first | omega | (simp; done) | (simp; omega))) k) (RdI.more (by first | with_reducible exact HY.out | with_reducible exact HY.out.al (by omega) _ | with_reducible exact (HY.out.al (by omega) _).al (by first | omega | (simp; done) | (simp; omega)) _) (by first | omega | (simp; done) | (simp; omega))) (by omega) (by omega)).mono ?_
      rw [HFK.out]
      rintro e w5 ⟨rfl, b_⟩
      have z5 := b_.size
      replace HX := Lib.hid (RdI.below (by first | with_reducible exact HX.out | with_reducible exact HX.out.al (by omega) _ | with_reducible exact (HX.out.al (by omega) _).al (by first | omega | (simp; done) | (simp; omega)) _) b_ (by first | omega | (simp; done) | (simp; omega)))
      replace HY := Lib.hid (RdI.below (by first | with_reducible exact HY.out | with_reducible exact HY.out.al (by omega) _ | with_reducible exact (HY.out.al (by omega) _).al (by first | omega | (simp; done) | (simp; omega)) _) b_ (by first | omega | (simp; done) | (simp; omega)))
      replace HB := Lib.hid (HB.out.trans (b_.mono (by omega)))
      clear b_
      by_cases he : ck = best
      · have hkp := l2 he
        have t2 : (ck == best) = true := beq_iff_eq.2 he
        have t3 : decide (p < k) = false := decide_eq_false (by omega)
        have t4 : decide ((p : Int) < (k : Int)) = false := decide_eq_false (by omega)
        clear l2 he
        go_wp2_with fail
        go_roundw
        case rel => exact ⟨k + 1, by omega, by go_num, HX.out.more (by omega), HY.out.more (by omega), HB.out⟩
        case measure => simp [intOf]; omega
      · have t2 : (ck == best) = false := beq_eq_false_iff_ne.2 he
        clear l2 he
        go_wp2_with fail
        go_roundw
        case rel => exact ⟨k + 1, by omega, by go_num, HX.out.more (by omega), HY.out.more (by omega), HB.out⟩
        case measure => simp [intOf]; omega
    · obtain rfl : k = xs.length + 1 := by omega
      have hh1 : xs.length / 2 ≤ xs.length := Nat.div_le_self _ _
      have HTH := Lib.hid (show (xs.take (xs.length / 2)).length = xs.length / 2 by rw [List.length_take]; omega)
      have e1 : (xs.length : Int) / 2 = ((xs.length / 2 : Nat) : Int) := by omega
      generalize xs.length / 2 = h at *
      have hhc : (h : Int) ≤ (c : Int) := by omega
      go_wp2_with fail
      refine (impl_FollowPlaceN _ (some ⟨g1, 0, none⟩) c c _ h xs (xs.take h) _ rfl HTH.out (RdI.more (by first | with_reducible exact HX.out | with_reducible exact HX.out.al (by omega) _ | with_reducible exact (HX.out.al (by omega) _).al (by first | omega | (simp; done) | (simp; omega)) _) (by first | omega | (simp; done) | (simp; omega))) (RdI.first (RdI.more (by first | with_reducible exact HX.out | with_reducible exact HX.out.al (by omega) _ | with_reducible exact (HX.out.al (by omega) _).al (by first | omega | (simp; done) | (simp; omega)) _) (by first | omega | (simp; done) | (simp; omega))) h) (by omega) (by omega)).mono ?_
      rw [HH.out]
      rintro e w6 ⟨rfl, b_⟩
      have HB6 := Lib.hid (HB.out.trans (b_.mono (by omega)))
      clear b_
      go_wp2_with fail
      go_ret
      exact ⟨rfl, HB6.out⟩
end Go.Proofs.Ytfmdpnnddhelaaa.fnFollowPlace
