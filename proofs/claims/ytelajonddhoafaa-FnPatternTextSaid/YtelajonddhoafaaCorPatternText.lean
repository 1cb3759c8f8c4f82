/- The walk of FnPatternText: it returns true. Condition: at most 2^20 bytes. -/
import Derived.Test.YtelajonddhoafaaPatW
import Derived.Test.YtelajonddhoafaaText
import Derived.Test.YtelajonddhoafaaDrawB
import Derived.Test.YtelajonddhoafaaAlive
import Derived.Test.YtelajonddhoafaaSam2
import Derived.Test.YtelajonddhoafaaRegW
namespace Go.Proofs.Ytelajonddhoafaa.fnPatternText
set_option linter.unusedVariables false
open Go.RowKit
set_option linter.unusedSimpArgs false
set_option maxRecDepth 100000 in
set_option maxHeartbeats 4000000 in
theorem core (w : World) (A_z : Option Addr) (c_z : Nat) (z : List Int) (r_z : RdY w w.heap.size A_z z) (f_z : WfY z) (k_z : z.length ≤ c_z) (hbig : z.length ≤ 1048576) :
    Calls Try.prog 4 #[.slice A_z z.length c_z] w (RetB w true) := by
  have hi1 : (z.length : Int) ≤ 1048576 := by omega
  go_enter Try.func4, Try.ntmps4
  go_wp2_with fail
  refine (spec_DrawPatternText A_z c_z z w r_z f_z hbig k_z).mono ?_
  rintro e w1 ⟨A, c, zs, rfl, hl, hcap, hrd, b1⟩
  have z1 := b1.size
  have HB := Lib.hid b1
  have HX := Lib.hid hrd
  clear b1 r_z f_z hrd
  have hno : patL zs = false → strV (textL zs) = ByteArray.mk #[] := fun h => by rw [textL, h]; rfl
  have hyes : patL zs = true → strV (textL zs) = strV (textB zs) := fun h => by rw [textL, if_pos h]
  generalize hT : strV (textL zs) = S at *
  have HT := Lib.hid hT; clear hT
  go_wp2_with fail
  refine (impl_PatternText _ _ _ _ (RdBo.more (by first | with_reducible exact HX.out | with_reducible exact (HX.out).drew | with_reducible exact (HX.out).al (by first | omega | (simp; done) | (simp; omega)) _ | with_reducible exact ((HX.out).drew).al (by first | omega | (simp; done) | (simp; omega)) _ | with_reducible exact ((HX.out).al (by first | omega | (simp; done) | (simp; omega)) _).drew | with_reducible exact ((HX.out).al (by first | omega | (simp; done) | (simp; omega)) _).al (by first | omega | (simp; done) | (simp; omega)) _ | with_reducible exact (((HX.out).drew).al (by first | omega | (simp; done) | (simp; omega)) _).al (by first | omega | (simp; done) | (simp; omega)) _ | with_reducible exact (((HX.out).al (by first | omega | (simp; done) | (simp; omega)) _).al (by first | omega | (simp; done) | (simp; omega)) _).drew | with_reducible exact (((HX.out).al (by first | omega | (simp; done) | (simp; omega)) _).al (by first | omega | (simp; done) | (simp; omega)) _).al (by first | omega | (simp; done) | (simp; omega)) _ | with_reducible exact ((((HX.out).drew).al (by first | omega | (simp; done) | (simp; omega)) _).al (by first | omega | (simp; done) | (simp; omega)) _).al (by first | omega | (simp; done) | (simp; omega)) _ | with_reducible exact ((((HX.out).al (by first | omega | (simp; done) | (simp; omega)) _).al (by first | omega | (simp; done) | (simp; omega)) _).al (by first | omega | (simp; done) | (simp; omega)) _).drew) (by first | omega | (simp; done) | (simp; omega))) (by omega)).mono ?_
  rintro e w2 ⟨rfl, b_⟩
  have z2 := b_.size; (try simp only [World.size_alloc, size_drew] at z2)
  have hq2 := below_cells b_
  (try (have zb2 : w1.heap.size < w2.heap.size := (by omega)))
  replace HB := Lib.hid (Below.trans (by first | with_reducible exact HB.out | with_reducible exact HB.out.alloc (by omega) _ | with_reducible exact (HB.out.alloc (by omega) _).alloc (by first | omega | (simp; done) | (simp; omega)) _ | with_reducible exact ((HB.out.alloc (by omega) _).alloc (by first | omega | (simp; done) | (simp; omega)) _).alloc (by first | omega | (simp; done) | (simp; omega)) _) (b_.mono (by first | omega | (simp; done) | (simp; omega))))
  rw [HT.out]; replace HX := Lib.hid (RdBo.below (by first | with_reducible exact HX.out | with_reducible exact (HX.out).drew | with_reducible exact (HX.out).al (by first | omega | (simp; done) | (simp; omega)) _ | with_reducible exact ((HX.out).drew).al (by first | omega | (simp; done) | (simp; omega)) _ | with_reducible exact ((HX.out).al (by first | omega | (simp; done) | (simp; omega)) _).drew | with_reducible exact ((HX.out).al (by first | omega | (simp; done) | (simp; omega)) _).al (by first | omega | (simp; done) | (simp; omega)) _ | with_reducible exact (((HX.out).drew).al (by first | omega | (simp; done) | (simp; omega)) _).al (by first | omega | (simp; done) | (simp; omega)) _ | with_reducible exact (((HX.out).al (by first | omega | (simp; done) | (simp; omega)) _).al (by first | omega | (simp; done) | (simp; omega)) _).drew | with_reducible exact (((HX.out).al (by first | omega | (simp; done) | (simp; omega)) _).al (by first | omega | (simp; done) | (simp; omega)) _).al (by first | omega | (simp; done) | (simp; omega)) _ | with_reducible exact ((((HX.out).drew).al (by first | omega | (simp; done) | (simp; omega)) _).al (by first | omega | (simp; done) | (simp; omega)) _).al (by first | omega | (simp; done) | (simp; omega)) _ | with_reducible exact ((((HX.out).al (by first | omega | (simp; done) | (simp; omega)) _).al (by first | omega | (simp; done) | (simp; omega)) _).al (by first | omega | (simp; done) | (simp; omega)) _).drew) b_ (by first | omega | (simp; done) | (simp; omega)))
  clear b_
  go_wp2_with fail
  refine (spec_PatternText _ _ _ _ (RdBo.more (by first | with_reducible exact HX.out | with_reducible exact (HX.out).drew | with_reducible exact (HX.out).al (by first | omega | (simp; done) | (simp; omega)) _ | with_reducible exact ((HX.out).drew).al (by first | omega | (simp; done) | (simp; omega)) _ | with_reducible exact ((HX.out).al (by first | omega | (simp; done) | (simp; omega)) _).drew | with_reducible exact ((HX.out).al (by first | omega | (simp; done) | (simp; omega)) _).al (by first | omega | (simp; done) | (simp; omega)) _ | with_reducible exact (((HX.out).drew).al (by first | omega | (simp; done) | (simp; omega)) _).al (by first | omega | (simp; done) | (simp; omega)) _ | with_reducible exact (((HX.out).al (by first | omega | (simp; done) | (simp; omega)) _).al (by first | omega | (simp; done) | (simp; omega)) _).drew | with_reducible exact (((HX.out).al (by first | omega | (simp; done) | (simp; omega)) _).al (by first | omega | (simp; done) | (simp; omega)) _).al (by first | omega | (simp; done) | (simp; omega)) _ | with_reducible exact ((((HX.out).drew).al (by first | omega | (simp; done) | (simp; omega)) _).al (by first | omega | (simp; done) | (simp; omega)) _).al (by first | omega | (simp; done) | (simp; omega)) _ | with_reducible exact ((((HX.out).al (by first | omega | (simp; done) | (simp; omega)) _).al (by first | omega | (simp; done) | (simp; omega)) _).al (by first | omega | (simp; done) | (simp; omega)) _).drew) (by first | omega | (simp; done) | (simp; omega))) (by omega)).mono ?_
  rintro e w3 ⟨rfl, b_⟩
  have z3 := b_.size; (try simp only [World.size_alloc, size_drew] at z3)
  have hq3 := below_cells b_
  (try (have zb3 : w1.heap.size < w3.heap.size := (by omega)))
  replace HB := Lib.hid (Below.trans (by first | with_reducible exact HB.out | with_reducible exact HB.out.alloc (by omega) _ | with_reducible exact (HB.out.alloc (by omega) _).alloc (by first | omega | (simp; done) | (simp; omega)) _ | with_reducible exact ((HB.out.alloc (by omega) _).alloc (by first | omega | (simp; done) | (simp; omega)) _).alloc (by first | omega | (simp; done) | (simp; omega)) _) (b_.mono (by first | omega | (simp; done) | (simp; omega))))
  rw [HT.out]; replace HX := Lib.hid (RdBo.below (by first | with_reducible exact HX.out | with_reducible exact (HX.out).drew | with_reducible exact (HX.out).al (by first | omega | (simp; done) | (simp; omega)) _ | with_reducible exact ((HX.out).drew).al (by first | omega | (simp; done) | (simp; omega)) _ | with_reducible exact ((HX.out).al (by first | omega | (simp; done) | (simp; omega)) _).drew | with_reducible exact ((HX.out).al (by first | omega | (simp; done) | (simp; omega)) _).al (by first | omega | (simp; done) | (simp; omega)) _ | with_reducible exact (((HX.out).drew).al (by first | omega | (simp; done) | (simp; omega)) _).al (by first | omega | (simp; done) | (simp; omega)) _ | with_reducible exact (((HX.out).al (by first | omega | (simp; done) | (simp; omega)) _).al (by first | omega | (simp; done) | (simp; omega)) _).drew | with_reducible exact (((HX.out).al (by first | omega | (simp; done) | (simp; omega)) _).al (by first | omega | (simp; done) | (simp; omega)) _).al (by first | omega | (simp; done) | (simp; omega)) _ | with_reducible exact ((((HX.out).drew).al (by first | omega | (simp; done) | (simp; omega)) _).al (by first | omega | (simp; done) | (simp; omega)) _).al (by first | omega | (simp; done) | (simp; omega)) _ | with_reducible exact ((((HX.out).al (by first | omega | (simp; done) | (simp; omega)) _).al (by first | omega | (simp; done) | (simp; omega)) _).al (by first | omega | (simp; done) | (simp; omega)) _).drew) b_ (by first | omega | (simp; done) | (simp; omega)))
  clear b_
  cases hv : patL zs
  · have hS := hno hv
    subst hS
    have HV := Lib.hid hv; clear hv hno hyes
    go_wp2_with fail
    refine (spec_PatternValid_b _ _ _ _).mono ?_
    rintro e w4 ⟨rfl, b_⟩
    have z4 := b_.size; (try simp only [World.size_alloc, size_drew] at z4)
    have hq4 := below_cells b_
    (try (have zb4 : w1.heap.size < w4.heap.size := (by omega)))
    replace HB := Lib.hid (Below.trans (by first | with_reducible exact HB.out | with_reducible exact HB.out.alloc (by omega) _ | with_reducible exact (HB.out.alloc (by omega) _).alloc (by first | omega | (simp; done) | (simp; omega)) _ | with_reducible exact ((HB.out.alloc (by omega) _).alloc (by first | omega | (simp; done) | (simp; omega)) _).alloc (by first | omega | (simp; done) | (simp; omega)) _) (b_.mono (by first | omega | (simp; done) | (simp; omega))))
    rw [HV.out]; replace HX := Lib.hid (RdBo.below (by first | with_reducible exact HX.out | with_reducible exact (HX.out).drew | with_reducible exact (HX.out).al (by first | omega | (simp; done) | (simp; omega)) _ | with_reducible exact ((HX.out).drew).al (by first | omega | (simp; done) | (simp; omega)) _ | with_reducible exact ((HX.out).al (by first | omega | (simp; done) | (simp; omega)) _).drew | with_reducible exact ((HX.out).al (by first | omega | (simp; done) | (simp; omega)) _).al (by first | omega | (simp; done) | (simp; omega)) _ | with_reducible exact (((HX.out).drew).al (by first | omega | (simp; done) | (simp; omega)) _).al (by first | omega | (simp; done) | (simp; omega)) _ | with_reducible exact (((HX.out).al (by first | omega | (simp; done) | (simp; omega)) _).al (by first | omega | (simp; done) | (simp; omega)) _).drew | with_reducible exact (((HX.out).al (by first | omega | (simp; done) | (simp; omega)) _).al (by first | omega | (simp; done) | (simp; omega)) _).al (by first | omega | (simp; done) | (simp; omega)) _ | with_reducible exact ((((HX.out).drew).al (by first | omega | (simp; done) | (simp; omega)) _).al (by first | omega | (simp; done) | (simp; omega)) _).al (by first | omega | (simp; done) | (simp; omega)) _ | with_reducible exact ((((HX.out).al (by first | omega | (simp; done) | (simp; omega)) _).al (by first | omega | (simp; done) | (simp; omega)) _).al (by first | omega | (simp; done) | (simp; omega)) _).drew) b_ (by first | omega | (simp; done) | (simp; omega)))
    clear b_
    go_wp2_with fail
    refine (laws_alive _).mono ?_
    rintro e w5 ⟨rfl, b_⟩
    have z5 := b_.size; (try simp only [World.size_alloc, size_drew] at z5)
    have hq5 := below_cells b_
    (try (have zb5 : w1.heap.size < w5.heap.size := (by omega)))
    replace HB := Lib.hid (Below.trans (by first | with_reducible exact HB.out | with_reducible exact HB.out.alloc (by omega) _ | with_reducible exact (HB.out.alloc (by omega) _).alloc (by first | omega | (simp; done) | (simp; omega)) _ | with_reducible exact ((HB.out.alloc (by omega) _).alloc (by first | omega | (simp; done) | (simp; omega)) _).alloc (by first | omega | (simp; done) | (simp; omega)) _) (b_.mono (by first | omega | (simp; done) | (simp; omega))))
    skip
    clear b_
    go_wp2_with fail
    go_ret
    exact ⟨rfl, HB.out⟩
  · have hS := hyes hv
    have HV := Lib.hid hv; clear hv hno hyes
    have hsz : S.size = zs.length := by rw [hS, strV_size, textB_len]
    have hby : ∀ k (hk : k < S.size), S[k] = if gb zs k then 120 else 45 := by
      intro k hk
      subst hS
      have hk2 : k < zs.length := by omega
      show (textB zs).toArray[k] = _
      simp [textB, gb, hk2]
    have HBY := Lib.hid hby; have HSZ := Lib.hid hsz
    have hle : S.size ≤ 33 := by omega
    clear hby hS
    go_wp2_with fail
    refine (spec_PatternValid_b _ _ _ _).mono ?_
    rintro e w4 ⟨rfl, b_⟩
    have z4 := b_.size; (try simp only [World.size_alloc, size_drew] at z4)
    have hq4 := below_cells b_
    (try (have zb4 : w1.heap.size < w4.heap.size := (by omega)))
    replace HB := Lib.hid (Below.trans (by first | with_reducible exact HB.out | with_reducible exact HB.out.alloc (by omega) _ | with_reducible exact (HB.out.alloc (by omega) _).alloc (by first | omega | (simp; done) | (simp; omega)) _ | with_reducible exact ((HB.out.alloc (by omega) _).alloc (by first | omega | (simp; done) | (simp; omega)) _).alloc (by first | omega | (simp; done) | (simp; omega)) _) (b_.mono (by first | omega | (simp; done) | (simp; omega))))
    rw [HV.out]; replace HX := Lib.hid (RdBo.below (by first | with_reducible exact HX.out | with_reducible exact (HX.out).drew | with_reducible exact (HX.out).al (by first | omega | (simp; done) | (simp; omega)) _ | with_reducible exact ((HX.out).drew).al (by first | omega | (simp; done) | (simp; omega)) _ | with_reducible exact ((HX.out).al (by first | omega | (simp; done) | (simp; omega)) _).drew | with_reducible exact ((HX.out).al (by first | omega | (simp; done) | (simp; omega)) _).al (by first | omega | (simp; done) | (simp; omega)) _ | with_reducible exact (((HX.out).drew).al (by first | omega | (simp; done) | (simp; omega)) _).al (by first | omega | (simp; done) | (simp; omega)) _ | with_reducible exact (((HX.out).al (by first | omega | (simp; done) | (simp; omega)) _).al (by first | omega | (simp; done) | (simp; omega)) _).drew | with_reducible exact (((HX.out).al (by first | omega | (simp; done) | (simp; omega)) _).al (by first | omega | (simp; done) | (simp; omega)) _).al (by first | omega | (simp; done) | (simp; omega)) _ | with_reducible exact ((((HX.out).drew).al (by first | omega | (simp; done) | (simp; omega)) _).al (by first | omega | (simp; done) | (simp; omega)) _).al (by first | omega | (simp; done) | (simp; omega)) _ | with_reducible exact ((((HX.out).al (by first | omega | (simp; done) | (simp; omega)) _).al (by first | omega | (simp; done) | (simp; omega)) _).al (by first | omega | (simp; done) | (simp; omega)) _).drew) b_ (by first | omega | (simp; done) | (simp; omega)))
    clear b_
    clear hsz
    go_wp2_with fail
    go_loopw [5] (fun i wr => ∃ k : Nat, k ≤ S.size ∧ i = .int .i64 k ∧ ∃ m, wr = w4.drewN m) (fun i _ => S.size - (intOf i).toNat)
    case atStart => exact ⟨0, Nat.zero_le _, rfl, 0, rfl⟩
    case round =>
      obtain ⟨k, hk, rfl, m, rfl⟩ := hrel
      by_cases hlt : k < S.size
      · have hkz : k < zs.length := by have := HSZ.out; omega
        obtain ⟨b, off, rfl, hbB, hc⟩ := HX.out.at_ hkz
        have hbk := HBY.out k hlt
        have e3 : decide (zs.length ≤ k) = false := decide_eq_false (by omega)
        have hi1 : (k : Int) < (zs.length : Int) := by omega
        cases hg : gb zs k
        all_goals
          rw [hg] at hc hbk
          simp only [Bool.false_eq_true, if_false, if_true] at hbk
          clear hg
          go_wp2_with fail
          go_quiet (fail)
          clear hbk
          go_wp2
          go_roundw
          case rel => exact ⟨k + 1, by omega, by go_num, _, rfl⟩
          case measure => simp [intOf]; omega
      · obtain rfl : S.size = k := by omega
        have he : ((S.size : Int) == (zs.length : Int)) = true := by simp [HSZ.out]
        go_wp2
        go_ret
        exact ⟨rfl, below_drewN HB.out _⟩
end Go.Proofs.Ytelajonddhoafaa.fnPatternText
