/- The walk of FnMixSamples: it returns true. Condition: at most 2^20 bytes. -/
import Derived.Test.YtijbciiocmdmmaaMix
import Derived.Test.YtijbciiocmdmmaaSmpP
import Derived.Test.YtijbciiocmdmmaaDrawS
import Derived.Test.YtijbciiocmdmmaaAlive
import Derived.Test.YtijbciiocmdmmaaSam2
import Derived.Test.YtijbciiocmdmmaaRegW
namespace Go.Proofs.Ytijbciiocmdmmaa.fnMixSamples
set_option linter.unusedVariables false
open Go.RowKit
set_option linter.unusedSimpArgs false
set_option maxRecDepth 100000 in
set_option maxHeartbeats 8000000 in
theorem core (w : World) (A_z : Option Addr) (c_z : Nat) (z : List Int) (r_z : RdY w w.heap.size A_z z) (f_z : WfY z) (k_z : z.length ≤ c_z) (hbig : z.length ≤ 1048576) :
    Calls Try.prog 11 #[.slice A_z z.length c_z] w (RetB w true) := by
  have hi1 : (z.length : Int) ≤ 1048576 := by omega
  go_enter Try.func11, Try.ntmps11
  go_wp2_with fail
  refine (spec_DrawMixSamples A_z c_z z w r_z f_z hbig k_z).mono ?_
  rintro e w1 ⟨A, C, c, d, xs, ys, rfl, ⟨hl, hwf⟩, ⟨hl2, hwf2⟩, hrx, hry, b1⟩
  have z1 := b1.size
  have HB := Lib.hid b1; clear b1 r_z f_z
  have HX := Lib.hid hrx; have HY := Lib.hid hry
  clear hrx hry
  have hLl := mixL_len xs ys
  have hcm := mixL_comm ys xs
  have hyes := mixL_yes (a := xs) (b := ys)
  have hno := mixL_no (a := xs) (b := ys)
  generalize hL : mixL xs ys = L at *
  have HL := Lib.hid hL; have HC := Lib.hid hcm; clear hL hcm
  have hLb : L.length ≤ 201 := by omega
  have hsr := sameI_refl L
  have HSR := Lib.hid hsr; clear hsr
  have hsz := sameI_refl xs
  have HSZ := Lib.hid hsz; clear hsz hLl
  go_wp2_with fail
  refine (impl_MixSamples _ _ _ _ _ _ _ HX.out HY.out (by omega) (by omega)).mono ?_
  rw [HL.out]
  rintro e w2 ⟨A2, c2, rfl, o_, b_⟩
  have z2 := b_.size; (try simp only [World.size_alloc, size_drew] at z2)
  have hq2 := below_cells b_
  (try (have zb2 : w1.heap.size < w2.heap.size := (by omega)))
  replace HB := Lib.hid (Below.trans (by first | with_reducible exact HB.out | with_reducible exact HB.out.alloc (by omega) _ | with_reducible exact (HB.out.alloc (by omega) _).alloc (by first | omega | (simp; done) | (simp; omega)) _ | with_reducible exact ((HB.out.alloc (by omega) _).alloc (by first | omega | (simp; done) | (simp; omega)) _).alloc (by first | omega | (simp; done) | (simp; omega)) _) (b_.mono (by first | omega | (simp; done) | (simp; omega))))
  replace HX := Lib.hid (RdI.below (by first | with_reducible exact HX.out | with_reducible exact HX.out.al (by omega) _ | with_reducible exact (HX.out.al (by omega) _).al (by first | omega | (simp; done) | (simp; omega)) _) b_ (by first | omega | (simp; done) | (simp; omega))); replace HY := Lib.hid (RdI.below (by first | with_reducible exact HY.out | with_reducible exact HY.out.al (by omega) _ | with_reducible exact (HY.out.al (by omega) _).al (by first | omega | (simp; done) | (simp; omega)) _) b_ (by first | omega | (simp; done) | (simp; omega)))
  have HG := Lib.hid (RdI.of_own o_)
  clear b_ o_
  go_wp2_with fail
  refine (spec_MixSamples _ _ _ _ _ _ _ (RdI.more (by first | with_reducible exact HX.out | with_reducible exact HX.out.al (by omega) _ | with_reducible exact (HX.out.al (by omega) _).al (by first | omega | (simp; done) | (simp; omega)) _) (by first | omega | (simp; done) | (simp; omega))) (RdI.more (by first | with_reducible exact HY.out | with_reducible exact HY.out.al (by omega) _ | with_reducible exact (HY.out.al (by omega) _).al (by first | omega | (simp; done) | (simp; omega)) _) (by first | omega | (simp; done) | (simp; omega))) (by omega) (by omega)).mono ?_
  rw [HL.out]
  rintro e w3 ⟨A3, c3, rfl, o_, b_⟩
  have z3 := b_.size; (try simp only [World.size_alloc, size_drew] at z3)
  have hq3 := below_cells b_
  (try (have zb3 : w1.heap.size < w3.heap.size := (by omega)))
  replace HB := Lib.hid (Below.trans (by first | with_reducible exact HB.out | with_reducible exact HB.out.alloc (by omega) _ | with_reducible exact (HB.out.alloc (by omega) _).alloc (by first | omega | (simp; done) | (simp; omega)) _ | with_reducible exact ((HB.out.alloc (by omega) _).alloc (by first | omega | (simp; done) | (simp; omega)) _).alloc (by first | omega | (simp; done) | (simp; omega)) _) (b_.mono (by first | omega | (simp; done) | (simp; omega))))
  replace HX := Lib.hid (RdI.below (by first | with_reducible exact HX.out | with_reducible exact HX.out.al (by omega) _ | with_reducible exact (HX.out.al (by omega) _).al (by first | omega | (simp; done) | (simp; omega)) _) b_ (by first | omega | (simp; done) | (simp; omega))); replace HY := Lib.hid (RdI.below (by first | with_reducible exact HY.out | with_reducible exact HY.out.al (by omega) _ | with_reducible exact (HY.out.al (by omega) _).al (by first | omega | (simp; done) | (simp; omega)) _) b_ (by first | omega | (simp; done) | (simp; omega))); replace HG := Lib.hid (RdI.below (by first | with_reducible exact HG.out | with_reducible exact HG.out.al (by omega) _ | with_reducible exact (HG.out.al (by omega) _).al (by first | omega | (simp; done) | (simp; omega)) _) b_ (by first | omega | (simp; done) | (simp; omega)))
  have HW := Lib.hid (RdI.of_own o_)
  clear b_ o_
  go_wp2_with fail
  refine (laws_sameInts _ _ _ _ _ _ _ (RdI.more (by first | with_reducible exact HG.out | with_reducible exact HG.out.al (by omega) _ | with_reducible exact (HG.out.al (by omega) _).al (by first | omega | (simp; done) | (simp; omega)) _) (by first | omega | (simp; done) | (simp; omega))) HW.out (by omega) (by omega)).mono ?_
  rintro e w4 ⟨rfl, b_⟩
  have z4 := b_.size; (try simp only [World.size_alloc, size_drew] at z4)
  have hq4 := below_cells b_
  (try (have zb4 : w1.heap.size < w4.heap.size := (by omega)))
  replace HB := Lib.hid (Below.trans (by first | with_reducible exact HB.out | with_reducible exact HB.out.alloc (by omega) _ | with_reducible exact (HB.out.alloc (by omega) _).alloc (by first | omega | (simp; done) | (simp; omega)) _ | with_reducible exact ((HB.out.alloc (by omega) _).alloc (by first | omega | (simp; done) | (simp; omega)) _).alloc (by first | omega | (simp; done) | (simp; omega)) _) (b_.mono (by first | omega | (simp; done) | (simp; omega))))
  rw [HSR.out]; replace HX := Lib.hid (RdI.below (by first | with_reducible exact HX.out | with_reducible exact HX.out.al (by omega) _ | with_reducible exact (HX.out.al (by omega) _).al (by first | omega | (simp; done) | (simp; omega)) _) b_ (by first | omega | (simp; done) | (simp; omega))); replace HY := Lib.hid (RdI.below (by first | with_reducible exact HY.out | with_reducible exact HY.out.al (by omega) _ | with_reducible exact (HY.out.al (by omega) _).al (by first | omega | (simp; done) | (simp; omega)) _) b_ (by first | omega | (simp; done) | (simp; omega))); replace HG := Lib.hid (RdI.below (by first | with_reducible exact HG.out | with_reducible exact HG.out.al (by omega) _ | with_reducible exact (HG.out.al (by omega) _).al (by first | omega | (simp; done) | (simp; omega)) _) b_ (by first | omega | (simp; done) | (simp; omega)))
  clear b_
  clear HW
  go_wp2_with fail
  refine (impl_MixSamples _ _ _ _ _ _ _ (RdI.more (by first | with_reducible exact HY.out | with_reducible exact HY.out.al (by omega) _ | with_reducible exact (HY.out.al (by omega) _).al (by first | omega | (simp; done) | (simp; omega)) _) (by first | omega | (simp; done) | (simp; omega))) (RdI.more (by first | with_reducible exact HX.out | with_reducible exact HX.out.al (by omega) _ | with_reducible exact (HX.out.al (by omega) _).al (by first | omega | (simp; done) | (simp; omega)) _) (by first | omega | (simp; done) | (simp; omega))) (by omega) (by omega)).mono ?_
  rw [HC.out]
  rintro e w5 ⟨A5, c5, rfl, o_, b_⟩
  have z5 := b_.size; (try simp only [World.size_alloc, size_drew] at z5)
  have hq5 := below_cells b_
  (try (have zb5 : w1.heap.size < w5.heap.size := (by omega)))
  replace HB := Lib.hid (Below.trans (by first | with_reducible exact HB.out | with_reducible exact HB.out.alloc (by omega) _ | with_reducible exact (HB.out.alloc (by omega) _).alloc (by first | omega | (simp; done) | (simp; omega)) _ | with_reducible exact ((HB.out.alloc (by omega) _).alloc (by first | omega | (simp; done) | (simp; omega)) _).alloc (by first | omega | (simp; done) | (simp; omega)) _) (b_.mono (by first | omega | (simp; done) | (simp; omega))))
  replace HX := Lib.hid (RdI.below (by first | with_reducible exact HX.out | with_reducible exact HX.out.al (by omega) _ | with_reducible exact (HX.out.al (by omega) _).al (by first | omega | (simp; done) | (simp; omega)) _) b_ (by first | omega | (simp; done) | (simp; omega))); replace HY := Lib.hid (RdI.below (by first | with_reducible exact HY.out | with_reducible exact HY.out.al (by omega) _ | with_reducible exact (HY.out.al (by omega) _).al (by first | omega | (simp; done) | (simp; omega)) _) b_ (by first | omega | (simp; done) | (simp; omega))); replace HG := Lib.hid (RdI.below (by first | with_reducible exact HG.out | with_reducible exact HG.out.al (by omega) _ | with_reducible exact (HG.out.al (by omega) _).al (by first | omega | (simp; done) | (simp; omega)) _) b_ (by first | omega | (simp; done) | (simp; omega)))
  have HW := Lib.hid (RdI.of_own o_)
  clear b_ o_
  go_wp2_with fail
  refine (laws_sameInts _ _ _ _ _ _ _ (RdI.more (by first | with_reducible exact HG.out | with_reducible exact HG.out.al (by omega) _ | with_reducible exact (HG.out.al (by omega) _).al (by first | omega | (simp; done) | (simp; omega)) _) (by first | omega | (simp; done) | (simp; omega))) HW.out (by omega) (by omega)).mono ?_
  rintro e w6 ⟨rfl, b_⟩
  have z6 := b_.size; (try simp only [World.size_alloc, size_drew] at z6)
  have hq6 := below_cells b_
  (try (have zb6 : w1.heap.size < w6.heap.size := (by omega)))
  replace HB := Lib.hid (Below.trans (by first | with_reducible exact HB.out | with_reducible exact HB.out.alloc (by omega) _ | with_reducible exact (HB.out.alloc (by omega) _).alloc (by first | omega | (simp; done) | (simp; omega)) _ | with_reducible exact ((HB.out.alloc (by omega) _).alloc (by first | omega | (simp; done) | (simp; omega)) _).alloc (by first | omega | (simp; done) | (simp; omega)) _) (b_.mono (by first | omega | (simp; done) | (simp; omega))))
  rw [HSR.out]; replace HX := Lib.hid (RdI.below (by first | with_reducible exact HX.out | with_reducible exact HX.out.al (by omega) _ | with_reducible exact (HX.out.al (by omega) _).al (by first | omega | (simp; done) | (simp; omega)) _) b_ (by first | omega | (simp; done) | (simp; omega))); replace HY := Lib.hid (RdI.below (by first | with_reducible exact HY.out | with_reducible exact HY.out.al (by omega) _ | with_reducible exact (HY.out.al (by omega) _).al (by first | omega | (simp; done) | (simp; omega)) _) b_ (by first | omega | (simp; done) | (simp; omega))); replace HG := Lib.hid (RdI.below (by first | with_reducible exact HG.out | with_reducible exact HG.out.al (by omega) _ | with_reducible exact (HG.out.al (by omega) _).al (by first | omega | (simp; done) | (simp; omega)) _) b_ (by first | omega | (simp; done) | (simp; omega)))
  clear b_
  clear HW hq2 hq3 hq4 hq5 hq6
  cases hv : okS xs
  · have hLn := hno (.inl hv)
    subst hLn
    have HV := Lib.hid hv; clear hv hyes hno
    go_wp2_with fail
    refine (spec_SamplesValid _ _ _ _ (RdI.more (by first | with_reducible exact HX.out | with_reducible exact HX.out.al (by omega) _ | with_reducible exact (HX.out.al (by omega) _).al (by first | omega | (simp; done) | (simp; omega)) _) (by first | omega | (simp; done) | (simp; omega))) (by omega)).mono ?_
    rintro e w' ⟨rfl, rfl⟩
    rw [HV.out]
    go_wp2_with fail
    refine (laws_alive _).mono ?_
    rintro e w7 ⟨rfl, b_⟩
    have z7 := b_.size; (try simp only [World.size_alloc, size_drew] at z7)
    have hq7 := below_cells b_
    (try (have zb7 : w1.heap.size < w7.heap.size := (by omega)))
    replace HB := Lib.hid (Below.trans (by first | with_reducible exact HB.out | with_reducible exact HB.out.alloc (by omega) _ | with_reducible exact (HB.out.alloc (by omega) _).alloc (by first | omega | (simp; done) | (simp; omega)) _ | with_reducible exact ((HB.out.alloc (by omega) _).alloc (by first | omega | (simp; done) | (simp; omega)) _).alloc (by first | omega | (simp; done) | (simp; omega)) _) (b_.mono (by first | omega | (simp; done) | (simp; omega))))
    skip
    clear b_
    go_wp2_with fail
    go_ret
    exact ⟨rfl, HB.out⟩
  cases hv2 : okS ys
  · have hLn := hno (.inr hv2)
    subst hLn
    have HV := Lib.hid hv; have HV2 := Lib.hid hv2; clear hv hv2 hyes hno
    go_wp2_with fail
    refine (spec_SamplesValid _ _ _ _ (RdI.more (by first | with_reducible exact HX.out | with_reducible exact HX.out.al (by omega) _ | with_reducible exact (HX.out.al (by omega) _).al (by first | omega | (simp; done) | (simp; omega)) _) (by first | omega | (simp; done) | (simp; omega))) (by omega)).mono ?_
    rintro e w' ⟨rfl, rfl⟩
    rw [HV.out]
    go_wp2_with fail
    refine (spec_SamplesValid _ _ _ _ (RdI.more (by first | with_reducible exact HY.out | with_reducible exact HY.out.al (by omega) _ | with_reducible exact (HY.out.al (by omega) _).al (by first | omega | (simp; done) | (simp; omega)) _) (by first | omega | (simp; done) | (simp; omega))) (by omega)).mono ?_
    rintro e w' ⟨rfl, rfl⟩
    rw [HV2.out]
    go_wp2_with fail
    refine (laws_alive _).mono ?_
    rintro e w7 ⟨rfl, b_⟩
    have z7 := b_.size; (try simp only [World.size_alloc, size_drew] at z7)
    have hq7 := below_cells b_
    (try (have zb7 : w1.heap.size < w7.heap.size := (by omega)))
    replace HB := Lib.hid (Below.trans (by first | with_reducible exact HB.out | with_reducible exact HB.out.alloc (by omega) _ | with_reducible exact (HB.out.alloc (by omega) _).alloc (by first | omega | (simp; done) | (simp; omega)) _ | with_reducible exact ((HB.out.alloc (by omega) _).alloc (by first | omega | (simp; done) | (simp; omega)) _).alloc (by first | omega | (simp; done) | (simp; omega)) _) (b_.mono (by first | omega | (simp; done) | (simp; omega))))
    skip
    clear b_
    go_wp2_with fail
    go_ret
    exact ⟨rfl, HB.out⟩
  · have hLe := hyes hv hv2
    have hlen : L.length = max xs.length ys.length := by rw [hLe, mixTo_len]
    have hokL : okS L = true := by
      rw [hLe]; exact mixTo_ok _ _ (by have := okS_len hv; have := okS_len hv2; omega)
    have HV := Lib.hid hv; have HV2 := Lib.hid hv2; have HOK := Lib.hid hokL; have HLE := Lib.hid hLe
    have HMN := Lib.hid (mixL_nil hv)
    have hlx : xs.length ≤ L.length := by omega
    have HLN := Lib.hid hlen
    clear hv hv2 hyes hno hokL hLe hlen
    go_wp2_with fail
    refine (spec_SamplesValid _ _ _ _ (RdI.more (by first | with_reducible exact HX.out | with_reducible exact HX.out.al (by omega) _ | with_reducible exact (HX.out.al (by omega) _).al (by first | omega | (simp; done) | (simp; omega)) _) (by first | omega | (simp; done) | (simp; omega))) (by omega)).mono ?_
    rintro e w' ⟨rfl, rfl⟩
    rw [HV.out]
    go_wp2_with fail
    refine (spec_SamplesValid _ _ _ _ (RdI.more (by first | with_reducible exact HY.out | with_reducible exact HY.out.al (by omega) _ | with_reducible exact (HY.out.al (by omega) _).al (by first | omega | (simp; done) | (simp; omega)) _) (by first | omega | (simp; done) | (simp; omega))) (by omega)).mono ?_
    rintro e w' ⟨rfl, rfl⟩
    rw [HV2.out]
    go_wp2_with fail
    go_loopw [6] (fun i wr => ∃ k : Nat, k ≤ xs.length ∧ k ≤ ys.length ∧ i = .int .i64 k ∧ ∃ m, wr = w6.drewN m) (fun i _ => xs.length - (intOf i).toNat)
    case atStart => exact ⟨0, Nat.zero_le _, Nat.zero_le _, rfl, 0, rfl⟩
    case round =>
      obtain ⟨k, hk, hk2, rfl, m, rfl⟩ := hrel
      by_cases hlt : k < xs.length ∧ k < ys.length
      · obtain ⟨hlt, hlt2⟩ := hlt
        obtain ⟨b, off, rfl, hbB, hc⟩ := HX.out.at_ hlt
        obtain ⟨b2, off2, rfl, hbB2, hc2⟩ := HY.out.at_ hlt2
        obtain ⟨b3, off3, rfl, hbB3, hc3⟩ := HG.out.at_ (k := k) (by omega)
        have hx1 := okS_at HV.out hlt
        have hy1 := okS_at HV2.out hlt2
        have hxk : gi L k = clip (gi xs k + gi ys k) := by rw [HLE.out, mixTo_at (by omega), atZ_gi hlt, atZ_gi hlt2]
        have e3 : decide (L.length ≤ k) = false := decide_eq_false (by omega)
        have hi1 : (k : Int) < (xs.length : Int) := by omega
        have hi2 : (k : Int) < (ys.length : Int) := by omega
        have hi3 : (k : Int) < (L.length : Int) := by omega
        have hj1 : decide (k < xs.length) = true := decide_eq_true hlt
        generalize gi L k = x at *
        generalize gi xs k = p at *
        generalize gi ys k = q at *
        have hcl : -32767 ≤ p + q → p + q ≤ 32767 → x = p + q := fun h1 h2 => by rw [hxk]; exact clip_id ⟨h1, h2⟩
        clear hxk
        by_cases g1 : p + q ≤ 32767
        · by_cases g2 : -32767 ≤ p + q
          · have hxe := hcl g2 g1
            subst hxe
            have e4 : decide (p + q ≤ 32767) = true := decide_eq_true g1
            have e5 : decide (-32767 ≤ p + q) = true := decide_eq_true g2
            clear hcl g1 g2
            have ew : IntKind.i64.wrap (p + q) = p + q := IntWalk.i64_in _ (by omega)
            go_wp2_with fail
            go_quiet (fail)
            clear ew
            go_wp2
            go_roundw
            case rel => exact ⟨k + 1, by omega, by omega, by go_num, _, rfl⟩
            case measure => simp [intOf]; omega
          · have e4 : decide (p + q ≤ 32767) = true := decide_eq_true g1
            have e5 : decide (-32767 ≤ p + q) = false := decide_eq_false g2
            clear hcl g1
            have ew : IntKind.i64.wrap (p + q) = p + q := IntWalk.i64_in _ (by omega)
            clear g2
            go_wp2_with fail
            go_quiet (fail)
            clear ew
            go_wp2
            go_roundw
            case rel => exact ⟨k + 1, by omega, by omega, by go_num, _, rfl⟩
            case measure => simp [intOf]; omega
        · have e4 : decide (p + q ≤ 32767) = false := decide_eq_false g1
          clear hcl
          have ew : IntKind.i64.wrap (p + q) = p + q := IntWalk.i64_in _ (by omega)
          clear g1
          go_wp2_with fail
          go_quiet (fail)
          clear ew
          go_wp2
          go_roundw
          case rel => exact ⟨k + 1, by omega, by omega, by go_num, _, rfl⟩
          case measure => simp [intOf]; omega
      · have HMN2 := HMN
        replace HX := Lib.hid (HX.out.drewN m)
        replace HG := Lib.hid (HG.out.drewN m)
        replace HB := Lib.hid (below_drewN HB.out m)
        have z6' : w6.heap.size ≤ (w6.drewN m).heap.size := Nat.le_refl _
        generalize hwm : w6.drewN m = wm at *
        clear hwm
        have hend : (¬ k < xs.length) ∨ (k < xs.length ∧ ¬ k < ys.length) := by omega
        have hmx : (xs.length < ys.length ∧ ((L.length : Int) == (ys.length : Int)) = true) ∨ (¬ xs.length < ys.length ∧ ((L.length : Int) == (xs.length : Int)) = true) := by
          have := HLN.out
          by_cases hh : xs.length < ys.length
          · exact .inl ⟨hh, by simp; omega⟩
          · exact .inr ⟨hh, by simp; omega⟩
        clear hlt
        rcases hend with he | ⟨he, he2⟩ <;> rcases hmx with ⟨hm1, hm2⟩ | ⟨hm1, hm2⟩
        all_goals
          go_wp2_with fail
          refine (impl_SamplesValid _ _ _ _ (RdI.more (by first | with_reducible exact HG.out | with_reducible exact HG.out.al (by omega) _ | with_reducible exact (HG.out.al (by omega) _).al (by first | omega | (simp; done) | (simp; omega)) _) (by first | omega | (simp; done) | (simp; omega))) (by omega)).mono ?_
          rw [HOK.out]
          rintro e w' ⟨rfl, rfl⟩
          go_wp2_with fail
          refine (impl_MixSamples _ none _ 0 xs [] _ (RdI.more (by first | with_reducible exact HX.out | with_reducible exact HX.out.al (by omega) _ | with_reducible exact (HX.out.al (by omega) _).al (by first | omega | (simp; done) | (simp; omega)) _) (by first | omega | (simp; done) | (simp; omega))) (RdI.none0 rfl) (by omega) (by simp)).mono ?_
          rw [HMN.out]
          rintro e w7 ⟨A7, c7, rfl, o_, b_⟩
          have z7 := b_.size
          replace HB := Lib.hid (HB.out.trans (b_.mono (by omega)))
          replace HX := Lib.hid (RdI.below (by first | with_reducible exact HX.out | with_reducible exact HX.out.al (by omega) _ | with_reducible exact (HX.out.al (by omega) _).al (by first | omega | (simp; done) | (simp; omega)) _) b_ (by first | omega | (simp; done) | (simp; omega)))
          have HS := Lib.hid (RdI.of_own o_)
          clear b_ o_
          go_wp2_with fail
          refine (laws_sameInts _ _ _ _ _ _ _ HS.out (RdI.more (by first | with_reducible exact HX.out | with_reducible exact HX.out.al (by omega) _ | with_reducible exact (HX.out.al (by omega) _).al (by first | omega | (simp; done) | (simp; omega)) _) (by first | omega | (simp; done) | (simp; omega))) (by omega) (by omega)).mono ?_
          rw [HSZ.out]
          rintro e w8 ⟨rfl, b_⟩
          replace HB := Lib.hid (HB.out.trans (b_.mono (by omega)))
          clear b_ HS
          go_wp2_with fail
          go_ret
          exact ⟨rfl, HB.out⟩
end Go.Proofs.Ytijbciiocmdmmaa.fnMixSamples
