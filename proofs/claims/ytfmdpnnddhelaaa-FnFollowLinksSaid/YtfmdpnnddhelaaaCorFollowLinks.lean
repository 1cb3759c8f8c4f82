/- The walk of FnFollowLinks: it returns true. Condition: at most 2^20 bytes. -/
import Derived.Test.YtfmdpnnddhelaaaFolL
import Derived.Test.YtfmdpnnddhelaaaAlive
namespace Go.Proofs.Ytfmdpnnddhelaaa.fnFollowLinks
set_option linter.unusedVariables false
open Go.RowKit
set_option linter.unusedSimpArgs false
set_option maxRecDepth 100000 in
set_option maxHeartbeats 4000000 in
theorem core (w : World) (A_z : Option Addr) (c_z : Nat) (z : List Int) (r_z : RdY w w.heap.size A_z z) (f_z : WfY z) (k_z : z.length ≤ c_z) (hbig : z.length ≤ 1048576) :
    Calls Try.prog 10 #[.slice A_z z.length c_z] w (RetB w true) := by
  have hi1 : (z.length : Int) ≤ 1048576 := by omega
  go_enter Try.func10, Try.ntmps10
  go_wp2_with fail
  refine (spec_DrawFollowLinks A_z c_z z w r_z f_z hbig k_z).mono ?_
  rintro e w1 ⟨A, C, c, d, xs, ys, rfl, hlx, hly, ra, rb, -, b1, -, -, -⟩
  have z1 := b1.size
  have HX := Lib.hid ra; have HY := Lib.hid rb
  have HB := Lib.hid b1; clear b1 r_z f_z ra rb
  have hlen := linksV_len xs ys
  have hcost : folL xs ys = -1 ∧ linksV xs ys = [] ∨ (0 ≤ folL xs ys ∧ lnkL xs ys (linksV xs ys) = folL xs ys) := by
    by_cases hok : okK xs = true ∧ okK ys = true
    · refine .inr ?_
      unfold folL lnkL linksV
      rw [if_pos hok, if_pos hok, if_pos hok, links_cost]
      exact ⟨(D_bd xs ys (okK_len hok.1) (okK_len hok.2)).1, rfl⟩
    · refine .inl ?_
      unfold folL linksV
      rw [if_neg hok, if_neg hok]
      exact ⟨rfl, rfl⟩
  have HC := Lib.hid hcost; clear hcost
  generalize hLL : linksV xs ys = L at *
  have HLL := Lib.hid hLL; clear hLL
  obtain ⟨hl1, hl2⟩ := hlen
  go_wp2_with fail
  refine (impl_FollowLinks _ _ _ _ _ _ _ (RdI.more (by first | with_reducible exact HX.out | with_reducible exact HX.out.al (by omega) _ | with_reducible exact (HX.out.al (by omega) _).al (by first | omega | (simp; done) | (simp; omega)) _) (by first | omega | (simp; done) | (simp; omega))) (RdI.more (by first | with_reducible exact HY.out | with_reducible exact HY.out.al (by omega) _ | with_reducible exact (HY.out.al (by omega) _).al (by first | omega | (simp; done) | (simp; omega)) _) (by first | omega | (simp; done) | (simp; omega))) (by omega) (by omega)).mono ?_
  rw [HLL.out]
  rintro e w2 ⟨A2, c2, rfl, o2, b2⟩
  have z2 := b2.size
  have R2 := Lib.hid (RdR.of_own o2)
  replace HX := Lib.hid ((HX.out.below b2 (by omega)).more z2); replace HY := Lib.hid ((HY.out.below b2 (by omega)).more z2)
  replace HB := Lib.hid (HB.out.trans (b2.mono (by omega)))
  clear o2 b2
  go_wp2_with fail
  refine (spec_FollowLinks _ _ _ _ _ _ _ (RdI.more (by first | with_reducible exact HX.out | with_reducible exact HX.out.al (by omega) _ | with_reducible exact (HX.out.al (by omega) _).al (by first | omega | (simp; done) | (simp; omega)) _) (by first | omega | (simp; done) | (simp; omega))) (RdI.more (by first | with_reducible exact HY.out | with_reducible exact HY.out.al (by omega) _ | with_reducible exact (HY.out.al (by omega) _).al (by first | omega | (simp; done) | (simp; omega)) _) (by first | omega | (simp; done) | (simp; omega))) (by omega) (by omega)).mono ?_
  rw [HLL.out]
  rintro e w3 ⟨A3, c3, rfl, o3, b3⟩
  have z3 := b3.size
  have R3 := Lib.hid (RdR.of_own o3)
  replace R2 := Lib.hid ((R2.out.below b3 (by omega)).more z3)
  replace HX := Lib.hid ((HX.out.below b3 (by omega)).more z3); replace HY := Lib.hid ((HY.out.below b3 (by omega)).more z3)
  replace HB := Lib.hid (HB.out.trans (b3.mono (by omega)))
  clear o3 b3
  have hne : ((L.length : Int) != (L.length : Int)) = false := by simp
  go_wp2_with fail
  go_loopw [7] (fun i wr => ∃ (k m : Nat), k ≤ L.length ∧ i = .int .i64 k ∧ wr = w3.drewN m) (fun i _ => L.length - (intOf i).toNat)
  case atStart => exact ⟨0, 0, Nat.zero_le _, rfl, rfl⟩
  case round =>
    obtain ⟨k, m, hk, rfl, rfl⟩ := hrel
    by_cases hlt : k < L.length
    · obtain ⟨b, off, rfl, hbB, hc0, hc1⟩ := RdLink.at_ R2.out hlt
      obtain ⟨b', off', rfl, hbB', hd0, hd1⟩ := RdLink.at_ R3.out hlt
      have hi1 : (k : Int) < (L.length : Int) := by omega
      generalize glLink L k = x at *
      go_wp2_with fail
      go_quiet (fail)
      go_wp2_with fail
      go_roundw
      case rel => exact ⟨k + 1, _, by omega, by go_num, rfl⟩
      case measure => simp [intOf]; omega
    · obtain rfl : k = L.length := by omega
      have HX4 := Lib.hid (HX.out.drewN m); have HY4 := Lib.hid (HY.out.drewN m); have R4 := Lib.hid (RdR.drewN R2.out m)
      have HB4 := Lib.hid (below_drewN HB.out m)
      have z4 : w3.heap.size = (w3.drewN m).heap.size := rfl
      clear HX HY R2 R3 HB
      generalize w3.drewN m = w4 at *
      rcases HC.out with ⟨e1, e2⟩ | ⟨e1, e2⟩
      · have HE := Lib.hid e1
        have h0 : ((L.length : Int) == 0) = true := by rw [e2]; rfl
        clear e1 e2
        go_wp2_with fail
        refine (impl_FollowCost _ _ _ _ _ _ _ (HX4.out.more (by omega)) (HY4.out.more (by omega)) (by omega) (by omega)).mono ?_
        rw [HE.out]
        rintro e w5 ⟨rfl, b5⟩
        have z5 := b5.size
        have HB5 := Lib.hid (HB4.out.trans (b5.mono (by omega)))
        clear b5
        go_wp2_with fail
        refine (laws_alive _).mono ?_
        rintro e w6 ⟨rfl, b6⟩
        have HB6 := Lib.hid (HB5.out.trans (b6.mono (by omega)))
        clear b6
        go_wp2_with fail
        go_ret
        exact ⟨rfl, HB6.out⟩
      · have HE := Lib.hid e2
        have h0 : decide (folL xs ys < 0) = false := decide_eq_false (by omega)
        have h1 : decide ((L.length : Int) ≤ (xs.length : Int) + (ys.length : Int)) = true := decide_eq_true (by omega)
        clear e1 e2
        generalize hv : folL xs ys = v at *
        have HV := Lib.hid hv; clear hv
        go_wp2_with fail
        refine (impl_FollowCost _ _ _ _ _ _ _ (HX4.out.more (by omega)) (HY4.out.more (by omega)) (by omega) (by omega)).mono ?_
        rw [HV.out]
        rintro e w5 ⟨rfl, b5⟩
        have z5 := b5.size
        replace HX4 := Lib.hid (HX4.out.below b5 (by omega)); replace HY4 := Lib.hid (HY4.out.below b5 (by omega)); replace R4 := Lib.hid (RdR.below R4.out b5 (by omega))
        replace HB4 := Lib.hid (HB4.out.trans (b5.mono (by omega)))
        clear b5
        go_wp2_with fail
        refine (impl_LinksCost _ _ _ _ _ _ _ _ _ _ (HX4.out.more (by omega)) (HY4.out.more (by omega)) (RdR.more R4.out (by omega)) (by omega) (by omega) (by omega)).mono ?_
        rw [HE.out]
        rintro e w6 ⟨rfl, b6⟩
        have z6 := b6.size
        replace HX4 := Lib.hid (HX4.out.below b6 (by omega)); replace HY4 := Lib.hid (HY4.out.below b6 (by omega))
        replace HB4 := Lib.hid (HB4.out.trans (b6.mono (by omega)))
        clear b6
        go_wp2_with fail
        refine (impl_FollowCost _ _ _ _ _ _ _ (HX4.out.more (by omega)) (HY4.out.more (by omega)) (by omega) (by omega)).mono ?_
        rw [HV.out]
        rintro e w7 ⟨rfl, b7⟩
        have HB7 := Lib.hid (HB4.out.trans (b7.mono (by omega)))
        clear b7
        go_wp2_with fail
        go_ret
        exact ⟨rfl, HB7.out⟩
end Go.Proofs.Ytfmdpnnddhelaaa.fnFollowLinks
