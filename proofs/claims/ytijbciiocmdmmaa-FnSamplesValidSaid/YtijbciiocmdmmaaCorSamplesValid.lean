/- The walk of FnSamplesValid: it returns true. Condition: at most 2^20 bytes. -/
import Derived.Test.YtijbciiocmdmmaaSmp
import Derived.Test.YtijbciiocmdmmaaSmpP
import Derived.Test.YtijbciiocmdmmaaDrawS
import Derived.Test.YtijbciiocmdmmaaAlive
import Derived.Test.YtijbciiocmdmmaaSam2
namespace Go.Proofs.Ytijbciiocmdmmaa.fnSamplesValid
set_option linter.unusedVariables false
open Go.RowKit
set_option linter.unusedSimpArgs false
set_option maxHeartbeats 2000000 in
theorem core (w : World) (A_z : Option Addr) (c_z : Nat) (z : List Int) (r_z : RdY w w.heap.size A_z z) (f_z : WfY z) (k_z : z.length ≤ c_z) (hbig : z.length ≤ 1048576) :
    Calls Try.prog 5 #[.slice A_z z.length c_z] w (RetB w true) := by
  have hi1 : (z.length : Int) ≤ 1048576 := by omega
  go_enter Try.func5, Try.ntmps5
  go_wp2_with fail
  obtain ⟨i0, hi, hz0, hz1, hz2⟩ := info_parts infoInt
  have HI := Lib.hid hi; have H0 := Lib.hid hz0; have H1 := Lib.hid hz1; have H2 := Lib.hid hz2; clear hi hz0 hz1 hz2
  refine (spec_DrawSamplesValid A_z c_z z w r_z f_z hbig k_z).mono ?_
  rintro e w1 ⟨A, c, zs, rfl, hl, hwf, ⟨b, rfl⟩, hrow, b1⟩
  have z1 := b1.size
  have HB := Lib.hid b1; clear b1 r_z f_z
  have HX := Lib.hid hrow.rdI
  have hcap := own_cap hrow.1
  have HE := Lib.hid (own_empty (e := 3) (size := 1) (Below.refl w1.heap.size w1) (Nat.le_refl _)).1
  clear hrow
  obtain ⟨h, hh⟩ : ∃ h : Nat, (zs.length : Int) / 2 = (h : Int) := ⟨zs.length / 2, by omega⟩
  have hh2 : h ≤ zs.length := by omega
  have hdl : (zs.drop h).length = zs.length - h := by simp
  have HD := Lib.hid hdl; clear hdl
  have hbad := okS_bad zs
  have HBAD := Lib.hid hbad; clear hbad
  have HOKN : Hid (okS [] = true) := by unfold Hid; decide
  cases hv : okS zs
  · have HV := Lib.hid hv; clear hv
    go_wp2_with fail
    refine (impl_SamplesValid _ _ _ _ HX.out (by omega)).mono ?_
    rintro e w' ⟨rfl, rfl⟩
    rw [HV.out]
    go_wp2_with fail
    refine (spec_SamplesValid _ _ _ _ HX.out (by omega)).mono ?_
    rintro e w' ⟨rfl, rfl⟩
    rw [HV.out]
    clear hh
    clear hcap
    have tok1 : True := trivial
    go_wp2_with (first
      | (at_builtin; have _t := tok1; clear _t tok1; refine append_any (by simp [Region.wanted, yielded, go_sem]) _ _ 31 rfl 3 i0 (.int .i64 0) 1 8 Try.underlying31 HI.out H0.out H1.out H2.out rfl (by decide) (by decide) w1.heap.size _ _ 0 [] HE.out (by simp) (by omega) rfl ⟨b, 0, none⟩ zs.length c (by omega) (iv zs) rfl (by simp [iv]) (HX.out.al (Nat.le_refl _) _).all_ (iv_one_cell _) ?_; intro A2 c2 w2 o2 b2 _; rw [Nat.zero_add, List.nil_append] at o2; have z2 := b2.size; (try simp only [World.size_alloc] at z2); have O2 := Lib.hid o2; have B2 := Lib.hid (((Below.refl w1.heap.size w1).alloc (Nat.le_refl _) _).trans b2); clear o2 b2)
      | (at_builtin; refine append_one (by simp [Region.wanted, yielded, go_sem]) _ _ 31 rfl 3 i0 (.int .i64 0) 1 8 Try.underlying31 HI.out H0.out H1.out H2.out rfl (by decide) (by decide) w1.heap.size w2 _ zs.length _ O2.out (by omega) (by omega) rfl [.int .i64 32768] rfl (by simp [Value.oneCell']) rfl ?_; intro A3 c3 w3 o3 b3 _; have z3 := b3.size; have O3 := Lib.hid (own_snoc o3); have B3 := Lib.hid (B2.out.trans b3); clear o3 b3))
    go_wp2_with fail
    refine (impl_SamplesValidN _ _ _ (zs ++ [32768]) _ (by simp) (RdI.of_own O3.out) (by simp; omega)).mono ?_
    rintro e w' ⟨rfl, rfl⟩
    rw [HBAD.out]
    replace HB := Lib.hid (HB.out.trans (B3.out.mono z1))
    go_wp2_with fail
    refine (laws_alive _).mono ?_
    rintro e w4 ⟨rfl, b_⟩
    have z4 := b_.size; (try simp only [World.size_alloc, size_drew] at z4)
    have hq4 := below_cells b_
    replace HB := Lib.hid (Below.trans (by first | with_reducible exact HB.out | with_reducible exact HB.out.alloc (by omega) _ | with_reducible exact (HB.out.alloc (by omega) _).alloc (by first | omega | (simp; done) | (simp; omega)) _ | with_reducible exact ((HB.out.alloc (by omega) _).alloc (by first | omega | (simp; done) | (simp; omega)) _).alloc (by first | omega | (simp; done) | (simp; omega)) _) (b_.mono (by first | omega | (simp; done) | (simp; omega))))
    skip
    clear b_
    go_wp2_with fail
    go_ret
    exact ⟨rfl, HB.out⟩
  · have HV := Lib.hid hv; clear hv
    go_wp2_with fail
    refine (impl_SamplesValid _ _ _ _ HX.out (by omega)).mono ?_
    rintro e w' ⟨rfl, rfl⟩
    rw [HV.out]
    go_wp2_with fail
    refine (spec_SamplesValid _ _ _ _ HX.out (by omega)).mono ?_
    rintro e w' ⟨rfl, rfl⟩
    rw [HV.out]
    have HV2 := Lib.hid (okS_drop h HV.out)
    by_cases hc : c = h
    · subst hc
      go_wp2_with fail
      refine (impl_SamplesValidN _ _ 0 [] _ rfl (RdI.none0 rfl) (by simp)).mono ?_
      rintro e w' ⟨rfl, rfl⟩
      rw [HOKN.out]
      clear hh hcap
      have tok1 : True := trivial
      go_wp2_with (first
        | (at_builtin; have _t := tok1; clear _t tok1; refine append_any (by simp [Region.wanted, yielded, go_sem]) _ _ 31 rfl 3 i0 (.int .i64 0) 1 8 Try.underlying31 HI.out H0.out H1.out H2.out rfl (by decide) (by decide) w1.heap.size _ _ 0 [] HE.out (by simp) (by omega) rfl ⟨b, 0, none⟩ zs.length c (by omega) (iv zs) rfl (by simp [iv]) (HX.out.al (Nat.le_refl _) _).all_ (iv_one_cell _) ?_; intro A2 c2 w2 o2 b2 _; rw [Nat.zero_add, List.nil_append] at o2; have z2 := b2.size; (try simp only [World.size_alloc] at z2); have O2 := Lib.hid o2; have B2 := Lib.hid (((Below.refl w1.heap.size w1).alloc (Nat.le_refl _) _).trans b2); clear o2 b2)
        | (at_builtin; refine append_one (by simp [Region.wanted, yielded, go_sem]) _ _ 31 rfl 3 i0 (.int .i64 0) 1 8 Try.underlying31 HI.out H0.out H1.out H2.out rfl (by decide) (by decide) w1.heap.size w2 _ zs.length _ O2.out (by omega) (by omega) rfl [.int .i64 32768] rfl (by simp [Value.oneCell']) rfl ?_; intro A3 c3 w3 o3 b3 _; have z3 := b3.size; have O3 := Lib.hid (own_snoc o3); have B3 := Lib.hid (B2.out.trans b3); clear o3 b3))
      go_wp2_with fail
      refine (impl_SamplesValidN _ _ _ (zs ++ [32768]) _ (by simp) (RdI.of_own O3.out) (by simp; omega)).mono ?_
      rintro e w' ⟨rfl, rfl⟩
      rw [HBAD.out]
      replace HB := Lib.hid (HB.out.trans (B3.out.mono z1))
      go_wp2_with fail
      refine (laws_alive _).mono ?_
      rintro e w4 ⟨rfl, b_⟩
      have z4 := b_.size; (try simp only [World.size_alloc, size_drew] at z4)
      have hq4 := below_cells b_
      replace HB := Lib.hid (Below.trans (by first | with_reducible exact HB.out | with_reducible exact HB.out.alloc (by omega) _ | with_reducible exact (HB.out.alloc (by omega) _).alloc (by first | omega | (simp; done) | (simp; omega)) _ | with_reducible exact ((HB.out.alloc (by omega) _).alloc (by first | omega | (simp; done) | (simp; omega)) _).alloc (by first | omega | (simp; done) | (simp; omega)) _) (b_.mono (by first | omega | (simp; done) | (simp; omega))))
      skip
      clear b_
      go_wp2_with fail
      go_ret
      exact ⟨rfl, HB.out⟩
    · go_wp2_with fail
      refine (impl_SamplesValidN _ _ _ (zs.drop h) _ HD.out (RdI.part0 HX.out h) (by have := HD.out; omega)).mono ?_
      rintro e w' ⟨rfl, rfl⟩
      rw [HV2.out]
      clear hh hcap hc
      have tok1 : True := trivial
      go_wp2_with (first
        | (at_builtin; have _t := tok1; clear _t tok1; refine append_any (by simp [Region.wanted, yielded, go_sem]) _ _ 31 rfl 3 i0 (.int .i64 0) 1 8 Try.underlying31 HI.out H0.out H1.out H2.out rfl (by decide) (by decide) w1.heap.size _ _ 0 [] HE.out (by simp) (by omega) rfl ⟨b, 0, none⟩ zs.length c (by omega) (iv zs) rfl (by simp [iv]) (HX.out.al (Nat.le_refl _) _).all_ (iv_one_cell _) ?_; intro A2 c2 w2 o2 b2 _; rw [Nat.zero_add, List.nil_append] at o2; have z2 := b2.size; (try simp only [World.size_alloc] at z2); have O2 := Lib.hid o2; have B2 := Lib.hid (((Below.refl w1.heap.size w1).alloc (Nat.le_refl _) _).trans b2); clear o2 b2)
        | (at_builtin; refine append_one (by simp [Region.wanted, yielded, go_sem]) _ _ 31 rfl 3 i0 (.int .i64 0) 1 8 Try.underlying31 HI.out H0.out H1.out H2.out rfl (by decide) (by decide) w1.heap.size w2 _ zs.length _ O2.out (by omega) (by omega) rfl [.int .i64 32768] rfl (by simp [Value.oneCell']) rfl ?_; intro A3 c3 w3 o3 b3 _; have z3 := b3.size; have O3 := Lib.hid (own_snoc o3); have B3 := Lib.hid (B2.out.trans b3); clear o3 b3))
      go_wp2_with fail
      refine (impl_SamplesValidN _ _ _ (zs ++ [32768]) _ (by simp) (RdI.of_own O3.out) (by simp; omega)).mono ?_
      rintro e w' ⟨rfl, rfl⟩
      rw [HBAD.out]
      replace HB := Lib.hid (HB.out.trans (B3.out.mono z1))
      go_wp2_with fail
      refine (laws_alive _).mono ?_
      rintro e w4 ⟨rfl, b_⟩
      have z4 := b_.size; (try simp only [World.size_alloc, size_drew] at z4)
      have hq4 := below_cells b_
      replace HB := Lib.hid (Below.trans (by first | with_reducible exact HB.out | with_reducible exact HB.out.alloc (by omega) _ | with_reducible exact (HB.out.alloc (by omega) _).alloc (by first | omega | (simp; done) | (simp; omega)) _ | with_reducible exact ((HB.out.alloc (by omega) _).alloc (by first | omega | (simp; done) | (simp; omega)) _).alloc (by first | omega | (simp; done) | (simp; omega)) _) (b_.mono (by first | omega | (simp; done) | (simp; omega))))
      skip
      clear b_
      go_wp2_with fail
      go_ret
      exact ⟨rfl, HB.out⟩
end Go.Proofs.Ytijbciiocmdmmaa.fnSamplesValid
