/- The walk of FnScaleSamples: it returns true. Condition: at most 2^20 bytes. -/
import Derived.Test.YtijbciiocmdmmaaMix
import Derived.Test.YtijbciiocmdmmaaSmpP
import Derived.Test.YtijbciiocmdmmaaDrawS
import Derived.Test.YtijbciiocmdmmaaAlive
import Derived.Test.YtijbciiocmdmmaaSam2
import Derived.Test.YtijbciiocmdmmaaRegW
namespace Go.Proofs.Ytijbciiocmdmmaa.fnScaleSamples
set_option linter.unusedVariables false
open Go.RowKit
set_option linter.unusedSimpArgs false
set_option maxHeartbeats 4000000 in
theorem core (w : World) (A_z : Option Addr) (c_z : Nat) (z : List Int) (r_z : RdY w w.heap.size A_z z) (f_z : WfY z) (k_z : z.length ≤ c_z) (hbig : z.length ≤ 1048576) :
    Calls Try.prog 9 #[.slice A_z z.length c_z] w (RetB w true) := by
  have hi1 : (z.length : Int) ≤ 1048576 := by omega
  go_enter Try.func9, Try.ntmps9
  go_wp2_with fail
  refine (spec_DrawScaleSamples A_z c_z z w r_z f_z hbig k_z).mono ?_
  rintro e w1 ⟨A, c, zs, l, rfl, hl, hwf, hlb, hrow, b1⟩
  have z1 := b1.size
  have HB := Lib.hid b1; clear b1 r_z f_z
  have HX := Lib.hid hrow.rdI
  clear hrow hwf
  have hLl := scaleL_len zs l
  have hyes := scaleL_yes (zs := zs) (l := l)
  generalize hL : scaleL zs l = L at *
  have HL := Lib.hid hL; clear hL
  have hsr := sameI_refl L
  have HSR := Lib.hid hsr; clear hsr
  have hsz := sameI_refl zs
  have HSZ := Lib.hid hsz; clear hsz
  go_wp2_with fail
  refine (impl_ScaleSamples _ _ _ _ _ HX.out (by omega)).mono ?_
  rw [HL.out]
  rintro e w2 ⟨A2, c2, rfl, o_, b_⟩
  have z2 := b_.size; (try simp only [World.size_alloc, size_drew] at z2)
  have hq2 := below_cells b_
  (try (have zb2 : w1.heap.size < w2.heap.size := (by omega)))
  replace HB := Lib.hid (Below.trans (by first | with_reducible exact HB.out | with_reducible exact HB.out.alloc (by omega) _ | with_reducible exact (HB.out.alloc (by omega) _).alloc (by first | omega | (simp; done) | (simp; omega)) _ | with_reducible exact ((HB.out.alloc (by omega) _).alloc (by first | omega | (simp; done) | (simp; omega)) _).alloc (by first | omega | (simp; done) | (simp; omega)) _) (b_.mono (by first | omega | (simp; done) | (simp; omega))))
  replace HX := Lib.hid (RdI.below (by first | with_reducible exact HX.out | with_reducible exact HX.out.al (by omega) _ | with_reducible exact (HX.out.al (by omega) _).al (by first | omega | (simp; done) | (simp; omega)) _) b_ (by first | omega | (simp; done) | (simp; omega)))
  have HG := Lib.hid (RdI.of_own o_)
  clear b_ o_
  go_wp2_with fail
  refine (spec_ScaleSamples _ _ _ _ _ (RdI.more (by first | with_reducible exact HX.out | with_reducible exact HX.out.al (by omega) _ | with_reducible exact (HX.out.al (by omega) _).al (by first | omega | (simp; done) | (simp; omega)) _) (by first | omega | (simp; done) | (simp; omega))) (by omega)).mono ?_
  rw [HL.out]
  rintro e w3 ⟨A3, c3, rfl, o_, b_⟩
  have z3 := b_.size; (try simp only [World.size_alloc, size_drew] at z3)
  have hq3 := below_cells b_
  (try (have zb3 : w1.heap.size < w3.heap.size := (by omega)))
  replace HB := Lib.hid (Below.trans (by first | with_reducible exact HB.out | with_reducible exact HB.out.alloc (by omega) _ | with_reducible exact (HB.out.alloc (by omega) _).alloc (by first | omega | (simp; done) | (simp; omega)) _ | with_reducible exact ((HB.out.alloc (by omega) _).alloc (by first | omega | (simp; done) | (simp; omega)) _).alloc (by first | omega | (simp; done) | (simp; omega)) _) (b_.mono (by first | omega | (simp; done) | (simp; omega))))
  replace HX := Lib.hid (RdI.below (by first | with_reducible exact HX.out | with_reducible exact HX.out.al (by omega) _ | with_reducible exact (HX.out.al (by omega) _).al (by first | omega | (simp; done) | (simp; omega)) _) b_ (by first | omega | (simp; done) | (simp; omega))); replace HG := Lib.hid (RdI.below (by first | with_reducible exact HG.out | with_reducible exact HG.out.al (by omega) _ | with_reducible exact (HG.out.al (by omega) _).al (by first | omega | (simp; done) | (simp; omega)) _) b_ (by first | omega | (simp; done) | (simp; omega)))
  have HW := Lib.hid (RdI.of_own o_)
  clear b_ o_
  go_wp2_with fail
  refine (laws_sameInts _ _ _ _ _ _ _ (RdI.more (by first | with_reducible exact HG.out | with_reducible exact HG.out.al (by omega) _ | with_reducible exact (HG.out.al (by omega) _).al (by first | omega | (simp; done) | (simp; omega)) _) (by first | omega | (simp; done) | (simp; omega))) HW.out (by omega) (by omega)).mono ?_
  rintro e w4 ⟨rfl, b_⟩
  have z4 := b_.size; (try simp only [World.size_alloc, size_drew] at z4)
  have hq4 := below_cells b_
  (try (have zb4 : w1.heap.size < w4.heap.size := (by omega)))
  replace HB := Lib.hid (Below.trans (by first | with_reducible exact HB.out | with_reducible exact HB.out.alloc (by omega) _ | with_reducible exact (HB.out.alloc (by omega) _).alloc (by first | omega | (simp; done) | (simp; omega)) _ | with_reducible exact ((HB.out.alloc (by omega) _).alloc (by first | omega | (simp; done) | (simp; omega)) _).alloc (by first | omega | (simp; done) | (simp; omega)) _) (b_.mono (by first | omega | (simp; done) | (simp; omega))))
  rw [HSR.out]; replace HX := Lib.hid (RdI.below (by first | with_reducible exact HX.out | with_reducible exact HX.out.al (by omega) _ | with_reducible exact (HX.out.al (by omega) _).al (by first | omega | (simp; done) | (simp; omega)) _) b_ (by first | omega | (simp; done) | (simp; omega))); replace HG := Lib.hid (RdI.below (by first | with_reducible exact HG.out | with_reducible exact HG.out.al (by omega) _ | with_reducible exact (HG.out.al (by omega) _).al (by first | omega | (simp; done) | (simp; omega)) _) b_ (by first | omega | (simp; done) | (simp; omega)))
  clear b_
  clear HW hq2 hq3 hq4
  by_cases h0 : L.length = 0
  · have h1 : ((L.length : Int) == 0) = true := by simp [h0]
    clear h0
    go_wp2_with fail
    refine (laws_alive _).mono ?_
    rintro e w5 ⟨rfl, b_⟩
    have z5 := b_.size; (try simp only [World.size_alloc, size_drew] at z5)
    have hq5 := below_cells b_
    (try (have zb5 : w1.heap.size < w5.heap.size := (by omega)))
    replace HB := Lib.hid (Below.trans (by first | with_reducible exact HB.out | with_reducible exact HB.out.alloc (by omega) _ | with_reducible exact (HB.out.alloc (by omega) _).alloc (by first | omega | (simp; done) | (simp; omega)) _ | with_reducible exact ((HB.out.alloc (by omega) _).alloc (by first | omega | (simp; done) | (simp; omega)) _).alloc (by first | omega | (simp; done) | (simp; omega)) _) (b_.mono (by first | omega | (simp; done) | (simp; omega))))
    skip
    clear b_
    go_wp2_with fail
    go_ret
    exact ⟨rfl, HB.out⟩
  · have h1 : ((L.length : Int) == 0) = false := by simpa using h0
    obtain ⟨hok, hl2, hLe⟩ := hyes (by rintro rfl; simp at h0)
    have hlen : L.length = zs.length := by rw [hLe, scaleTo_len]
    have HOK := Lib.hid hok; have HLE := Lib.hid hLe; have HLN := Lib.hid hlen
    have hle : L.length ≤ zs.length := by omega
    clear hok hLe hyes hlen h0
    go_wp2_with fail
    clear h1
    go_loopw [6] (fun i wr => ∃ k : Nat, k ≤ L.length ∧ i = .int .i64 k ∧ ∃ m, wr = w4.drewN m) (fun i _ => L.length - (intOf i).toNat)
    case atStart => exact ⟨0, Nat.zero_le _, rfl, 0, rfl⟩
    case round =>
      obtain ⟨k, hk, rfl, m, rfl⟩ := hrel
      by_cases hlt : k < L.length
      · obtain ⟨b, off, rfl, hbB, hc⟩ := HX.out.at_ (k := k) (by omega)
        obtain ⟨b2, off2, rfl, hbB2, hc2⟩ := HG.out.at_ hlt
        have hsg := tdiv_sign (gi zs k) l hl2
        have hxk : gi L k = (gi zs k * l).tdiv 1000 := by rw [HLE.out, scaleTo_at (by omega)]
        rw [← hxk] at hsg
        clear hxk
        have e1 : decide ((if 0 < gi zs k then gi zs k else 0) < gi L k) = false := decide_eq_false (by split <;> omega)
        have e2 : decide (gi L k < (if gi zs k < 0 then gi zs k else 0)) = false := decide_eq_false (by split <;> omega)
        have e3 : decide (zs.length ≤ k) = false := decide_eq_false (by omega)
        have hi1 : (k : Int) < (L.length : Int) := by omega
        have hi2 : (k : Int) < (zs.length : Int) := by omega
        clear hl2
        generalize gi zs k = y at *
        generalize gi L k = x at *
        go_wp2_with fail
        go_quiet (fail)
        go_wp2
        go_roundw
        case rel => exact ⟨k + 1, by omega, by go_num, _, rfl⟩
        case measure => simp [intOf]; omega
      · obtain rfl : L.length = k := by omega
        have hsc := scaleL_one HOK.out
        have hz := scale_zero_peak HOK.out
        have hz2 := scaleL_len zs 0
        have hb1 : ((L.length : Int) == (zs.length : Int)) = true := by simp [HLN.out]
        have HSC := Lib.hid hsc; have HZ := Lib.hid hz
        clear hsc hz
        replace HX := Lib.hid (HX.out.drewN m)
        replace HB := Lib.hid (below_drewN HB.out m)
        have z4' : w4.heap.size ≤ (w4.drewN m).heap.size := Nat.le_refl _
        generalize hwm : w4.drewN m = wm at *
        clear hwm
        go_wp2_with fail
        refine (impl_ScaleSamples _ _ _ _ _ (RdI.more (by first | with_reducible exact HX.out | with_reducible exact HX.out.al (by omega) _ | with_reducible exact (HX.out.al (by omega) _).al (by first | omega | (simp; done) | (simp; omega)) _) (by first | omega | (simp; done) | (simp; omega))) (by omega)).mono ?_
        rw [HSC.out]
        rintro e w6 ⟨A6, c6, rfl, o_, b_⟩
        have z6 := b_.size
        replace HB := Lib.hid (HB.out.trans (b_.mono (by omega)))
        replace HX := Lib.hid (RdI.below (by first | with_reducible exact HX.out | with_reducible exact HX.out.al (by omega) _ | with_reducible exact (HX.out.al (by omega) _).al (by first | omega | (simp; done) | (simp; omega)) _) b_ (by first | omega | (simp; done) | (simp; omega)))
        have HS := Lib.hid (RdI.of_own o_)
        clear b_ o_
        go_wp2_with fail
        refine (laws_sameInts _ _ _ _ _ _ _ HS.out (RdI.more (by first | with_reducible exact HX.out | with_reducible exact HX.out.al (by omega) _ | with_reducible exact (HX.out.al (by omega) _).al (by first | omega | (simp; done) | (simp; omega)) _) (by first | omega | (simp; done) | (simp; omega))) (by omega) (by omega)).mono ?_
        rw [HSZ.out]
        rintro e w7 ⟨rfl, b_⟩
        have z7 := b_.size
        replace HB := Lib.hid (HB.out.trans (b_.mono (by omega)))
        replace HX := Lib.hid (RdI.below (by first | with_reducible exact HX.out | with_reducible exact HX.out.al (by omega) _ | with_reducible exact (HX.out.al (by omega) _).al (by first | omega | (simp; done) | (simp; omega)) _) b_ (by first | omega | (simp; done) | (simp; omega)))
        clear b_ HS
        go_wp2_with fail
        refine (impl_ScaleSamples _ _ _ _ _ (RdI.more (by first | with_reducible exact HX.out | with_reducible exact HX.out.al (by omega) _ | with_reducible exact (HX.out.al (by omega) _).al (by first | omega | (simp; done) | (simp; omega)) _) (by first | omega | (simp; done) | (simp; omega))) (by omega)).mono ?_
        rintro e w8 ⟨A8, c8, rfl, o_, b_⟩
        have z8 := b_.size
        replace HB := Lib.hid (HB.out.trans (b_.mono (by omega)))
        have HS := Lib.hid (RdI.of_own o_)
        clear b_ o_
        go_wp2_with fail
        refine (impl_PeakOf _ _ _ _ HS.out (by omega)).mono ?_
        rw [HZ.out]
        rintro e w9 ⟨rfl, b_⟩
        replace HB := Lib.hid (HB.out.trans (b_.mono (by omega)))
        clear b_
        go_wp2_with fail
        go_ret
        exact ⟨rfl, HB.out⟩
end Go.Proofs.Ytijbciiocmdmmaa.fnScaleSamples
