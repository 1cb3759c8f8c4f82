/- The walk of FnWaveAt: it returns true. Condition: at most 2^20 bytes. -/
import Derived.Test.YtijbciiocmdmmaaSnd
import Derived.Test.YtijbciiocmdmmaaSmpP
import Derived.Test.YtijbciiocmdmmaaDrawN
import Derived.Test.YtijbciiocmdmmaaAlive
import Derived.Test.YtijbciiocmdmmaaSam2
namespace Go.Proofs.Ytijbciiocmdmmaa.fnWaveAt
set_option linter.unusedVariables false
open Go.RowKit
set_option linter.unusedSimpArgs false
set_option maxHeartbeats 2000000 in
theorem core (w : World) (A_z : Option Addr) (c_z : Nat) (z : List Int) (r_z : RdY w w.heap.size A_z z) (f_z : WfY z) (k_z : z.length ≤ c_z) (hbig : z.length ≤ 1048576) :
    Calls Try.prog 6 #[.slice A_z z.length c_z] w (RetB w true) := by
  have hi1 : (z.length : Int) ≤ 1048576 := by omega
  go_enter Try.func6, Try.ntmps6
  go_wp2_with fail
  refine (spec_DrawWaveAt A_z c_z z w r_z f_z hbig k_z).mono ?_
  rintro e w1 ⟨f, p, rfl, hf, hp, b1⟩
  have z1 := b1.size
  have HB := Lib.hid b1; clear b1 r_z f_z
  by_cases hout : p < 0 ∨ 999 < p ∨ f < 0 ∨ 2 < f
  · have HV := Lib.hid (wave_out hout)
    go_wp2_with fail
    refine (impl_WaveAt _ _ _).mono ?_
    rintro e w2 ⟨rfl, b_⟩
    have z2 := b_.size; (try simp only [World.size_alloc, size_drew] at z2)
    have hq2 := below_cells b_
    replace HB := Lib.hid (Below.trans (by first | with_reducible exact HB.out | with_reducible exact HB.out.alloc (by omega) _ | with_reducible exact (HB.out.alloc (by omega) _).alloc (by first | omega | (simp; done) | (simp; omega)) _ | with_reducible exact ((HB.out.alloc (by omega) _).alloc (by first | omega | (simp; done) | (simp; omega)) _).alloc (by first | omega | (simp; done) | (simp; omega)) _) (b_.mono (by first | omega | (simp; done) | (simp; omega))))
    rw [HV.out]
    clear b_
    go_wp2_with fail
    refine (spec_WaveAt _ _ _).mono ?_
    rintro e w3 ⟨rfl, b_⟩
    have z3 := b_.size; (try simp only [World.size_alloc, size_drew] at z3)
    have hq3 := below_cells b_
    replace HB := Lib.hid (Below.trans (by first | with_reducible exact HB.out | with_reducible exact HB.out.alloc (by omega) _ | with_reducible exact (HB.out.alloc (by omega) _).alloc (by first | omega | (simp; done) | (simp; omega)) _ | with_reducible exact ((HB.out.alloc (by omega) _).alloc (by first | omega | (simp; done) | (simp; omega)) _).alloc (by first | omega | (simp; done) | (simp; omega)) _) (b_.mono (by first | omega | (simp; done) | (simp; omega))))
    rw [HV.out]
    clear b_
    by_cases h1 : p < 0
    · clear hout
      go_wp2_with fail
      refine (laws_alive _).mono ?_
      rintro e w4 ⟨rfl, b_⟩
      have z4 := b_.size; (try simp only [World.size_alloc, size_drew] at z4)
      have hq4 := below_cells b_
      replace HB := Lib.hid (Below.trans (by first | with_reducible exact HB.out | with_reducible exact HB.out.alloc (by omega) _ | with_reducible exact (HB.out.alloc (by omega) _).alloc (by first | omega | (simp; done) | (simp; omega)) _ | with_reducible exact ((HB.out.alloc (by omega) _).alloc (by first | omega | (simp; done) | (simp; omega)) _).alloc (by first | omega | (simp; done) | (simp; omega)) _) (b_.mono (by first | omega | (simp; done) | (simp; omega))))
      skip
      clear b_
      go_wp2_with fail
      go_ret
      exact ⟨rfl, HB.out⟩
    by_cases h2 : 999 < p
    · clear hout
      go_wp2_with fail
      refine (laws_alive _).mono ?_
      rintro e w4 ⟨rfl, b_⟩
      have z4 := b_.size; (try simp only [World.size_alloc, size_drew] at z4)
      have hq4 := below_cells b_
      replace HB := Lib.hid (Below.trans (by first | with_reducible exact HB.out | with_reducible exact HB.out.alloc (by omega) _ | with_reducible exact (HB.out.alloc (by omega) _).alloc (by first | omega | (simp; done) | (simp; omega)) _ | with_reducible exact ((HB.out.alloc (by omega) _).alloc (by first | omega | (simp; done) | (simp; omega)) _).alloc (by first | omega | (simp; done) | (simp; omega)) _) (b_.mono (by first | omega | (simp; done) | (simp; omega))))
      skip
      clear b_
      go_wp2_with fail
      go_ret
      exact ⟨rfl, HB.out⟩
    by_cases h3 : f < 0
    · clear hout
      go_wp2_with fail
      refine (laws_alive _).mono ?_
      rintro e w4 ⟨rfl, b_⟩
      have z4 := b_.size; (try simp only [World.size_alloc, size_drew] at z4)
      have hq4 := below_cells b_
      replace HB := Lib.hid (Below.trans (by first | with_reducible exact HB.out | with_reducible exact HB.out.alloc (by omega) _ | with_reducible exact (HB.out.alloc (by omega) _).alloc (by first | omega | (simp; done) | (simp; omega)) _ | with_reducible exact ((HB.out.alloc (by omega) _).alloc (by first | omega | (simp; done) | (simp; omega)) _).alloc (by first | omega | (simp; done) | (simp; omega)) _) (b_.mono (by first | omega | (simp; done) | (simp; omega))))
      skip
      clear b_
      go_wp2_with fail
      go_ret
      exact ⟨rfl, HB.out⟩
    · have h4 : 2 < f := by omega
      clear hout
      go_wp2_with fail
      refine (laws_alive _).mono ?_
      rintro e w4 ⟨rfl, b_⟩
      have z4 := b_.size; (try simp only [World.size_alloc, size_drew] at z4)
      have hq4 := below_cells b_
      replace HB := Lib.hid (Below.trans (by first | with_reducible exact HB.out | with_reducible exact HB.out.alloc (by omega) _ | with_reducible exact (HB.out.alloc (by omega) _).alloc (by first | omega | (simp; done) | (simp; omega)) _ | with_reducible exact ((HB.out.alloc (by omega) _).alloc (by first | omega | (simp; done) | (simp; omega)) _).alloc (by first | omega | (simp; done) | (simp; omega)) _) (b_.mono (by first | omega | (simp; done) | (simp; omega))))
      skip
      clear b_
      go_wp2_with fail
      go_ret
      exact ⟨rfl, HB.out⟩
  · have hb := waveL_bd f p
    have hp2 : 0 ≤ p ∧ p ≤ 999 := by omega
    by_cases h1 : f = 1
    · subst h1
      clear hout hf hp
      generalize hv : waveL 1 p = v at *
      have HV := Lib.hid hv; clear hv
      go_wp2_with fail
      refine (impl_WaveAt _ _ _).mono ?_
      rintro e w2 ⟨rfl, b_⟩
      have z2 := b_.size; (try simp only [World.size_alloc, size_drew] at z2)
      have hq2 := below_cells b_
      replace HB := Lib.hid (Below.trans (by first | with_reducible exact HB.out | with_reducible exact HB.out.alloc (by omega) _ | with_reducible exact (HB.out.alloc (by omega) _).alloc (by first | omega | (simp; done) | (simp; omega)) _ | with_reducible exact ((HB.out.alloc (by omega) _).alloc (by first | omega | (simp; done) | (simp; omega)) _).alloc (by first | omega | (simp; done) | (simp; omega)) _) (b_.mono (by first | omega | (simp; done) | (simp; omega))))
      rw [HV.out]
      clear b_
      go_wp2_with fail
      refine (spec_WaveAt _ _ _).mono ?_
      rintro e w3 ⟨rfl, b_⟩
      have z3 := b_.size; (try simp only [World.size_alloc, size_drew] at z3)
      have hq3 := below_cells b_
      replace HB := Lib.hid (Below.trans (by first | with_reducible exact HB.out | with_reducible exact HB.out.alloc (by omega) _ | with_reducible exact (HB.out.alloc (by omega) _).alloc (by first | omega | (simp; done) | (simp; omega)) _ | with_reducible exact ((HB.out.alloc (by omega) _).alloc (by first | omega | (simp; done) | (simp; omega)) _).alloc (by first | omega | (simp; done) | (simp; omega)) _) (b_.mono (by first | omega | (simp; done) | (simp; omega))))
      rw [HV.out]
      clear b_
      go_wp2_with fail
      go_ret
      exact ⟨rfl, HB.out⟩
    · have hw := wave_turn hp2 (show f = 0 ∨ f = 2 by omega)
      have h1' : (f == 1) = false := by simpa using h1
      have hf2 : 0 ≤ f := by omega
      have hf3 : f ≤ 2 := by omega
      clear hout hf hp h1
      generalize hu : waveL f ((p + 500) % 1000) = u at *
      generalize hv : waveL f p = v at *
      subst hw
      have HV := Lib.hid hv; have HU := Lib.hid hu; clear hv hu
      go_wp2_with fail
      refine (impl_WaveAt _ _ _).mono ?_
      rintro e w2 ⟨rfl, b_⟩
      have z2 := b_.size; (try simp only [World.size_alloc, size_drew] at z2)
      have hq2 := below_cells b_
      replace HB := Lib.hid (Below.trans (by first | with_reducible exact HB.out | with_reducible exact HB.out.alloc (by omega) _ | with_reducible exact (HB.out.alloc (by omega) _).alloc (by first | omega | (simp; done) | (simp; omega)) _ | with_reducible exact ((HB.out.alloc (by omega) _).alloc (by first | omega | (simp; done) | (simp; omega)) _).alloc (by first | omega | (simp; done) | (simp; omega)) _) (b_.mono (by first | omega | (simp; done) | (simp; omega))))
      rw [HV.out]
      clear b_
      go_wp2_with fail
      refine (spec_WaveAt _ _ _).mono ?_
      rintro e w3 ⟨rfl, b_⟩
      have z3 := b_.size; (try simp only [World.size_alloc, size_drew] at z3)
      have hq3 := below_cells b_
      replace HB := Lib.hid (Below.trans (by first | with_reducible exact HB.out | with_reducible exact HB.out.alloc (by omega) _ | with_reducible exact (HB.out.alloc (by omega) _).alloc (by first | omega | (simp; done) | (simp; omega)) _ | with_reducible exact ((HB.out.alloc (by omega) _).alloc (by first | omega | (simp; done) | (simp; omega)) _).alloc (by first | omega | (simp; done) | (simp; omega)) _) (b_.mono (by first | omega | (simp; done) | (simp; omega))))
      rw [HV.out]
      clear b_
      go_wp2_with fail
      refine (impl_WaveAt _ _ _).mono ?_
      rintro e w4 ⟨rfl, b_⟩
      have z4 := b_.size; (try simp only [World.size_alloc, size_drew] at z4)
      have hq4 := below_cells b_
      replace HB := Lib.hid (Below.trans (by first | with_reducible exact HB.out | with_reducible exact HB.out.alloc (by omega) _ | with_reducible exact (HB.out.alloc (by omega) _).alloc (by first | omega | (simp; done) | (simp; omega)) _ | with_reducible exact ((HB.out.alloc (by omega) _).alloc (by first | omega | (simp; done) | (simp; omega)) _).alloc (by first | omega | (simp; done) | (simp; omega)) _) (b_.mono (by first | omega | (simp; done) | (simp; omega))))
      rw [HU.out]
      clear b_
      go_wp2_with fail
      go_ret
      exact ⟨rfl, HB.out⟩
end Go.Proofs.Ytijbciiocmdmmaa.fnWaveAt
