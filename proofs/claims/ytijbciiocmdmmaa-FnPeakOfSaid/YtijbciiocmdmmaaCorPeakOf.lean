/- The walk of FnPeakOf: it returns true. Condition: at most 2^20 bytes. -/
import Derived.Test.YtijbciiocmdmmaaMix
import Derived.Test.YtijbciiocmdmmaaSmpP
import Derived.Test.YtijbciiocmdmmaaDrawS
import Derived.Test.YtijbciiocmdmmaaAlive
import Derived.Test.YtijbciiocmdmmaaSam2
namespace Go.Proofs.Ytijbciiocmdmmaa.fnPeakOf
set_option linter.unusedVariables false
open Go.RowKit
set_option linter.unusedSimpArgs false
set_option maxHeartbeats 2000000 in
theorem core (w : World) (A_z : Option Addr) (c_z : Nat) (z : List Int) (r_z : RdY w w.heap.size A_z z) (f_z : WfY z) (k_z : z.length ≤ c_z) (hbig : z.length ≤ 1048576) :
    Calls Try.prog 7 #[.slice A_z z.length c_z] w (RetB w true) := by
  have hi1 : (z.length : Int) ≤ 1048576 := by omega
  go_enter Try.func7, Try.ntmps7
  go_wp2_with fail
  obtain ⟨i0, hi, hz0, hz1, hz2⟩ := info_parts infoInt
  have HI := Lib.hid hi; have H0 := Lib.hid hz0; have H1 := Lib.hid hz1; have H2 := Lib.hid hz2; clear hi hz0 hz1 hz2
  refine (spec_DrawPeakOf A_z c_z z w r_z f_z hbig k_z).mono ?_
  rintro e w1 ⟨A, c, zs, rfl, hl, hwf, ⟨b, rfl⟩, hrow, b1⟩
  have z1 := b1.size
  have HB := Lib.hid b1; clear b1 r_z f_z
  have HX := Lib.hid hrow.rdI
  clear hrow
  cases hv : okS zs
  · have HV := Lib.hid (peakL_no hv); clear hv
    go_wp2_with fail
    refine (impl_PeakOf _ _ _ _ HX.out (by omega)).mono ?_
    rintro e w2 ⟨rfl, b_⟩
    have z2 := b_.size; (try simp only [World.size_alloc, size_drew] at z2)
    have hq2 := below_cells b_
    replace HB := Lib.hid (Below.trans (by first | with_reducible exact HB.out | with_reducible exact HB.out.alloc (by omega) _ | with_reducible exact (HB.out.alloc (by omega) _).alloc (by first | omega | (simp; done) | (simp; omega)) _ | with_reducible exact ((HB.out.alloc (by omega) _).alloc (by first | omega | (simp; done) | (simp; omega)) _).alloc (by first | omega | (simp; done) | (simp; omega)) _) (b_.mono (by first | omega | (simp; done) | (simp; omega))))
    rw [HV.out]; replace HX := Lib.hid (RdI.below (by first | with_reducible exact HX.out | with_reducible exact HX.out.al (by omega) _ | with_reducible exact (HX.out.al (by omega) _).al (by first | omega | (simp; done) | (simp; omega)) _) b_ (by first | omega | (simp; done) | (simp; omega)))
    clear b_
    go_wp2_with fail
    refine (spec_PeakOf _ _ _ _ (RdI.more (by first | with_reducible exact HX.out | with_reducible exact HX.out.al (by omega) _ | with_reducible exact (HX.out.al (by omega) _).al (by first | omega | (simp; done) | (simp; omega)) _) (by first | omega | (simp; done) | (simp; omega))) (by omega)).mono ?_
    rintro e w3 ⟨rfl, b_⟩
    have z3 := b_.size; (try simp only [World.size_alloc, size_drew] at z3)
    have hq3 := below_cells b_
    replace HB := Lib.hid (Below.trans (by first | with_reducible exact HB.out | with_reducible exact HB.out.alloc (by omega) _ | with_reducible exact (HB.out.alloc (by omega) _).alloc (by first | omega | (simp; done) | (simp; omega)) _ | with_reducible exact ((HB.out.alloc (by omega) _).alloc (by first | omega | (simp; done) | (simp; omega)) _).alloc (by first | omega | (simp; done) | (simp; omega)) _) (b_.mono (by first | omega | (simp; done) | (simp; omega))))
    rw [HV.out]; replace HX := Lib.hid (RdI.below (by first | with_reducible exact HX.out | with_reducible exact HX.out.al (by omega) _ | with_reducible exact (HX.out.al (by omega) _).al (by first | omega | (simp; done) | (simp; omega)) _) b_ (by first | omega | (simp; done) | (simp; omega)))
    clear b_
    go_wp2_with fail
    refine (laws_alive _).mono ?_
    rintro e w4 ⟨rfl, b_⟩
    have z4 := b_.size; (try simp only [World.size_alloc, size_drew] at z4)
    have hq4 := below_cells b_
    replace HB := Lib.hid (Below.trans (by first | with_reducible exact HB.out | with_reducible exact HB.out.alloc (by omega) _ | with_reducible exact (HB.out.alloc (by omega) _).alloc (by first | omega | (simp; done) | (simp; omega)) _ | with_reducible exact ((HB.out.alloc (by omega) _).alloc (by first | omega | (simp; done) | (simp; omega)) _).alloc (by first | omega | (simp; done) | (simp; omega)) _) (b_.mono (by first | omega | (simp; done) | (simp; omega))))
    skip
    clear b_
    go_wp2_with fail
    go_ret
    exact ⟨rfl, HB.out⟩
  · have hpk := peakL_yes hv
    have hbd := peakTo_bd (okS_all hv)
    have hng := peakL_negs hv
    have hfa := fnd_all zs
    generalize hp : peakTo zs = n at *
    have HP := Lib.hid hp; have HK := Lib.hid hpk; have HNG := Lib.hid hng; have HFA := Lib.hid hfa; have HOK := Lib.hid hv
    clear hp hpk hng hfa hv
    go_wp2_with fail
    refine (impl_PeakOf _ _ _ _ HX.out (by omega)).mono ?_
    rintro e w2 ⟨rfl, b_⟩
    have z2 := b_.size; (try simp only [World.size_alloc, size_drew] at z2)
    have hq2 := below_cells b_
    replace HB := Lib.hid (Below.trans (by first | with_reducible exact HB.out | with_reducible exact HB.out.alloc (by omega) _ | with_reducible exact (HB.out.alloc (by omega) _).alloc (by first | omega | (simp; done) | (simp; omega)) _ | with_reducible exact ((HB.out.alloc (by omega) _).alloc (by first | omega | (simp; done) | (simp; omega)) _).alloc (by first | omega | (simp; done) | (simp; omega)) _) (b_.mono (by first | omega | (simp; done) | (simp; omega))))
    rw [HK.out]; replace HX := Lib.hid (RdI.below (by first | with_reducible exact HX.out | with_reducible exact HX.out.al (by omega) _ | with_reducible exact (HX.out.al (by omega) _).al (by first | omega | (simp; done) | (simp; omega)) _) b_ (by first | omega | (simp; done) | (simp; omega)))
    clear b_
    go_wp2_with fail
    refine (spec_PeakOf _ _ _ _ (RdI.more (by first | with_reducible exact HX.out | with_reducible exact HX.out.al (by omega) _ | with_reducible exact (HX.out.al (by omega) _).al (by first | omega | (simp; done) | (simp; omega)) _) (by first | omega | (simp; done) | (simp; omega))) (by omega)).mono ?_
    rintro e w3 ⟨rfl, b_⟩
    have z3 := b_.size; (try simp only [World.size_alloc, size_drew] at z3)
    have hq3 := below_cells b_
    replace HB := Lib.hid (Below.trans (by first | with_reducible exact HB.out | with_reducible exact HB.out.alloc (by omega) _ | with_reducible exact (HB.out.alloc (by omega) _).alloc (by first | omega | (simp; done) | (simp; omega)) _ | with_reducible exact ((HB.out.alloc (by omega) _).alloc (by first | omega | (simp; done) | (simp; omega)) _).alloc (by first | omega | (simp; done) | (simp; omega)) _) (b_.mono (by first | omega | (simp; done) | (simp; omega))))
    rw [HK.out]; replace HX := Lib.hid (RdI.below (by first | with_reducible exact HX.out | with_reducible exact HX.out.al (by omega) _ | with_reducible exact (HX.out.al (by omega) _).al (by first | omega | (simp; done) | (simp; omega)) _) b_ (by first | omega | (simp; done) | (simp; omega)))
    clear b_
    have hb0 : decide (n < 0) = false := decide_eq_false (by omega)
    have hl0 : ((zs.length : Int) == 0) = decide (zs.length = 0) := by
      by_cases h : zs.length = 0 <;> simp [h]
    by_cases h0 : zs.length = 0
    all_goals
      have hl1 : ((zs.length : Int) == 0) = decide (zs.length = 0) := hl0
      clear hl0
      first
        | (have hn0 : n = 0 := by
             have := HP.out
             rw [List.length_eq_zero_iff.1 h0] at this
             exact this.symm
           have hf0 : fnd zs n 0 = true := by simp [fnd, h0, hn0]
           have hn1 : (n == 0) = true := by simp [hn0]
           have hl2 : ((zs.length : Int) == 0) = true := by rw [hl1]; simp [h0]
           clear hn0)
        | (have hf0 : fnd zs n 0 = false := by simp [fnd, h0]
           have hl2 : ((zs.length : Int) == 0) = false := by rw [hl1]; simp [h0])
      have HF0 := Lib.hid hf0; clear hf0 hl1 h0
      have HE := Lib.hid (own_empty (e := 3) (size := 1) (Below.refl w3.heap.size w3) (Nat.le_refl _))
      go_wp2_with fail
      clear hl2
      go_loopw [5, 6, 7] (fun fo v i wr => ∃ k : Nat, k ≤ zs.length ∧ i = .int .i64 k ∧ fo = .bool (fnd zs n k) ∧ ∃ A c, v = .slice A k c ∧ wr.ownsRow w3.heap.size 3 1 (.slice A k c) k (iv (negs (zs.take k))) ∧ Below w3.heap.size w3 wr) (fun _ _ i _ => zs.length - (intOf i).toNat)
      case atStart => exact ⟨0, Nat.zero_le _, rfl, by rw [HF0.out], _, _, rfl, HE.out.1, HE.out.2.1⟩
      case round =>
        obtain ⟨k, hk, rfl, rfl, A', c', rfl, hown, hbel⟩ := hrel
        have hz := hbel.size
        have HO := Lib.hid hown; have HL := Lib.hid hbel; clear hown hbel
        by_cases hlt : k < zs.length
        · obtain ⟨bb, off, e, hbB, hc⟩ := (HX.out.below HL.out (by omega)).at_ hlt
          injection e with e; injection e with e1 e2; subst e1; subst e2
          rw [Nat.zero_add] at hc
          have hx := okS_at HOK.out hlt
          have hge := peakTo_ge zs hlt
          rw [HP.out] at hge
          have HS := Lib.hid (fnd_succ (zs := zs) (n := n) hlt)
          have HT := Lib.hid (congrArg iv (negs_succ hlt))
          generalize gi zs k = x at *
          have hmx : decide (n < max x (-x)) = false := decide_eq_false (by omega)
          have hi1 : (k : Int) < (zs.length : Int) := by omega
          cases hf : fnd zs n k <;> cases hx1 : (x == n) <;> cases hx2 : (x == -n)
          all_goals
            rw [hf, hx1, hx2] at HS
            have HF := Lib.hid hf; clear hf
            go_wp2_with (at_builtin; refine append_el rfl _ _ 31 rfl 3 i0 (.int .i64 0) 1 8 Try.underlying31 HI.out H0.out H1.out H2.out rfl (by decide) (by decide) w3.heap.size wr wr _ k _ HO.out (Below.refl _ _) (by omega) (by omega) rfl [.int .i64 (-x)] rfl (by simp [Value.oneCell']) rfl ?_; intro A2 c2 w5 hown2 hbel2 hbase2 _; have hc5 := (hbel2.cell (p := ⟨b, k, none⟩) (show b < _ by omega)).trans hc; clear hc)
            go_quiet (fail)
            go_wp2
            go_roundw
            case rel => exact ⟨k + 1, by omega, by go_num, by rw [HS.out]; rfl, _, _, rfl, by rw [HT.out, iv_append]; exact hown2, below_drewN (HL.out.trans (hbel2.mono (Nat.le_refl _))) _⟩
            case measure => simp [intOf]; omega
        · obtain rfl : k = zs.length := by omega
          have hO := HO.out
          rw [List.take_length] at hO
          have HO2 := Lib.hid (RdI.of_own2 hO (negs_len zs)); clear hO
          have HFA2 := HFA.out
          replace HB := Lib.hid (HB.out.trans (HL.out.mono (by omega)))
          go_wp2_with fail
          refine (impl_PeakOfN _ _ _ (negs zs) _ (negs_len zs) HO2.out (by rw [negs_len]; omega)).mono ?_
          rw [HNG.out]
          rintro e w6 ⟨rfl, b6⟩
          replace HB := Lib.hid (HB.out.trans (b6.mono (by omega)))
          clear b6
          go_wp2_with fail
          go_ret
          exact ⟨rfl, HB.out⟩
end Go.Proofs.Ytijbciiocmdmmaa.fnPeakOf
