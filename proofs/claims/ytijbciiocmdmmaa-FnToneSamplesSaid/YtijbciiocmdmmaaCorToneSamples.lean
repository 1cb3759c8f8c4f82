/- The walk of FnToneSamples: it returns true. Condition: at most 2^20 bytes. -/
import Derived.Test.YtijbciiocmdmmaaTone
import Derived.Test.YtijbciiocmdmmaaSmpP
import Derived.Test.YtijbciiocmdmmaaDrawE
import Derived.Test.YtijbciiocmdmmaaAlive
import Derived.Test.YtijbciiocmdmmaaSam2
import Derived.Test.YtijbciiocmdmmaaRegW
namespace Go.Proofs.Ytijbciiocmdmmaa.fnToneSamples
set_option linter.unusedVariables false
open Go.RowKit
set_option linter.unusedSimpArgs false
set_option maxRecDepth 100000 in
set_option maxHeartbeats 4000000 in
theorem core (w : World) (A_z : Option Addr) (c_z : Nat) (z : List Int) (r_z : RdY w w.heap.size A_z z) (f_z : WfY z) (k_z : z.length ≤ c_z) (hbig : z.length ≤ 1048576) :
    Calls Try.prog 12 #[.slice A_z z.length c_z] w (RetB w true) := by
  have hi1 : (z.length : Int) ≤ 1048576 := by omega
  go_enter Try.func12, Try.ntmps12
  go_wp2_with fail
  refine (spec_DrawToneSamples A_z c_z z w r_z f_z hbig k_z).mono ?_
  rintro e w1 ⟨y, f, a, d, s, r, h, m, rfl, hy, hf, hb1, hb2, hb3, hb4, hb5, hb6, b1⟩
  have z1 := b1.size
  have HB := Lib.hid b1; clear b1 r_z f_z
  have hLl := toneL_len y f a d s r h m
  have hyes := toneL_yes (key := y) (f := f) (a := a) (d := d) (s := s) (r := r) (h := h) (m := m)
  generalize hL : toneL y f a d s r h m = L at *
  have HL := Lib.hid hL; clear hL
  have hsr := sameI_refl L
  have HSR := Lib.hid hsr; clear hsr
  go_wp2_with fail
  refine (impl_ToneSamples _ _ _ _ _ _ _ _ _).mono ?_
  rw [HL.out]
  rintro e w2 ⟨A2, c2, rfl, o_, b_⟩
  have z2 := b_.size; (try simp only [World.size_alloc, size_drew] at z2)
  have hq2 := below_cells b_
  (try (have zb2 : w1.heap.size < w2.heap.size := (by omega)))
  replace HB := Lib.hid (Below.trans (by first | with_reducible exact HB.out | with_reducible exact HB.out.alloc (by omega) _ | with_reducible exact (HB.out.alloc (by omega) _).alloc (by first | omega | (simp; done) | (simp; omega)) _ | with_reducible exact ((HB.out.alloc (by omega) _).alloc (by first | omega | (simp; done) | (simp; omega)) _).alloc (by first | omega | (simp; done) | (simp; omega)) _) (b_.mono (by first | omega | (simp; done) | (simp; omega))))
  have hcap := own_le_cap o_
  have HG := Lib.hid (RdI.of_own o_)
  clear b_ o_
  go_wp2_with fail
  refine (spec_ToneSamples _ _ _ _ _ _ _ _ _).mono ?_
  rw [HL.out]
  rintro e w3 ⟨A3, c3, rfl, o_, b_⟩
  have z3 := b_.size; (try simp only [World.size_alloc, size_drew] at z3)
  have hq3 := below_cells b_
  (try (have zb3 : w1.heap.size < w3.heap.size := (by omega)))
  replace HB := Lib.hid (Below.trans (by first | with_reducible exact HB.out | with_reducible exact HB.out.alloc (by omega) _ | with_reducible exact (HB.out.alloc (by omega) _).alloc (by first | omega | (simp; done) | (simp; omega)) _ | with_reducible exact ((HB.out.alloc (by omega) _).alloc (by first | omega | (simp; done) | (simp; omega)) _).alloc (by first | omega | (simp; done) | (simp; omega)) _) (b_.mono (by first | omega | (simp; done) | (simp; omega))))
  replace HG := Lib.hid (RdI.below (by first | with_reducible exact HG.out | with_reducible exact HG.out.al (by omega) _ | with_reducible exact (HG.out.al (by omega) _).al (by first | omega | (simp; done) | (simp; omega)) _) b_ (by first | omega | (simp; done) | (simp; omega)))
  have HW := Lib.hid (RdI.of_own o_)
  clear b_ o_
  go_wp2_with fail
  refine (laws_sameInts _ _ _ _ _ _ _ (RdI.more (by first | with_reducible exact HG.out | with_reducible exact HG.out.al (by omega) _ | with_reducible exact (HG.out.al (by omega) _).al (by first | omega | (simp; done) | (simp; omega)) _) (by first | omega | (simp; done) | (simp; omega))) HW.out (by omega) (by omega)).mono ?_
  rintro e w4 ⟨rfl, b_⟩
  have z4 := b_.size; (try simp only [World.size_alloc, size_drew] at z4)
  have hq4 := below_cells b_
  (try (have zb4 : w1.heap.size < w4.heap.size := (by omega)))
  replace HB := Lib.hid (Below.trans (by first | with_reducible exact HB.out | with_reducible exact HB.out.alloc (by omega) _ | with_reducible exact (HB.out.alloc (by omega) _).alloc (by first | omega | (simp; done) | (simp; omega)) _ | with_reducible exact ((HB.out.alloc (by omega) _).alloc (by first | omega | (simp; done) | (simp; omega)) _).alloc (by first | omega | (simp; done) | (simp; omega)) _) (b_.mono (by first | omega | (simp; done) | (simp; omega))))
  rw [HSR.out]; replace HG := Lib.hid (RdI.below (by first | with_reducible exact HG.out | with_reducible exact HG.out.al (by omega) _ | with_reducible exact (HG.out.al (by omega) _).al (by first | omega | (simp; done) | (simp; omega)) _) b_ (by first | omega | (simp; done) | (simp; omega)))
  clear b_
  clear HW
  by_cases h0 : L.length = 0
  · have h1 : ((L.length : Int) == 0) = true := by simp [h0]
    clear h0 hq2 hq3 hq4
    go_wp2_with fail
    refine (laws_alive _).mono ?_
    rintro e w5 ⟨rfl, b_⟩
    have z5 := b_.size; (try simp only [World.size_alloc, size_drew] at z5)
    have hq5 := below_cells b_
    (try (have zb5 : w1.heap.size < w5.heap.size := (by omega)))
    replace HB := Lib.hid (Below.trans (by first | with_reducible exact HB.out | with_reducible exact HB.out.alloc (by omega) _ | with_reducible exact (HB.out.alloc (by omega) _).alloc (by first | omega | (simp; done) | (simp; omega)) _ | with_reducible exact ((HB.out.alloc (by omega) _).alloc (by first | omega | (simp; done) | (simp; omega)) _).alloc (by first | omega | (simp; done) | (simp; omega)) _) (b_.mono (by first | omega | (simp; done) | (simp; omega))))
    skip
    clear b_
    go_wp2_with fail
    go_ret
    exact ⟨rfl, HB.out⟩
  · have h1 : ((L.length : Int) == 0) = false := by simpa using h0
    obtain ⟨hok, hLe⟩ := hyes (by rintro rfl; simp at h0)
    obtain ⟨ho1, ho2, ho3, ho4, ho5⟩ := hok
    have hm := inR_iff.1 ho5
    have hh := inR_iff.1 ho4
    obtain ⟨ha, hd, hr, hs⟩ := shapeL_iff.1 ho3
    obtain ⟨n, rfl⟩ := Int.eq_ofNat_of_zero_le hm.1
    have hlen : L.length = n := by rw [hLe, toneTo_len]; rfl
    have hall : ∀ x ∈ L, -30000 ≤ x ∧ x ≤ 30000 := by rw [hLe]; exact tone_ok ho3 ho4 (by omega)
    have hokL : okS L = true := okS_mk (by omega) fun x hx => by have := hall x hx; omega
    have hpk : peakL L = peakTo L := peakL_yes hokL
    have hpb := tone_peak hall
    have hzero : ∀ k : Nat, k < L.length → h + r ≤ (k : Int) → gi L k = 0 := fun k hk hrk => by
      rw [hLe, toneTo_at (by rw [hLe, toneTo_len] at hk; exact hk)]
      exact tone_zero (lvlOk_mk ho3 ho4 (by rw [hLe, toneTo_len] at hk; exact hk) (by omega)) hrk
    have hhalf : toneL y f a d s r h ((n : Int) / 2) = L.take (n / 2) := by
      rw [toneL, if_pos ⟨ho1, ho2, ho3, ho4, inR_t (by omega)⟩, hLe]
      exact (toneTo_take y f a d s r h n (n / 2) (by omega)).symm
    have htl : (L.take (n / 2)).length = n / 2 := by rw [List.length_take]; omega
    have hrt : ∀ (w : World) (B : Nat) (A : Option Addr), RdI w B A L → RdI w B A (L.take (n / 2)) := fun _ _ _ h => h.first _
    generalize hT : L.take (n / 2) = T at *
    have hsh := sameI_refl T
    have HRT := Lib.hid hrt; clear hrt hT
    generalize hp : peakTo L = p at *
    have HOK := Lib.hid hokL; have HLN := Lib.hid hlen; have HPK := Lib.hid hpk; have HZ := Lib.hid hzero; have HH := Lib.hid hhalf; have HSH := Lib.hid hsh; have HTL := Lib.hid htl
    clear hokL hlen hpk hzero hhalf hsh htl hLe hall hp ho1 ho2 ho3 ho4 ho5 hyes h0
    have e0 : w4.cell? ⟨w1.heap.size, 0, none⟩ = some (.int .i64 a) := (hq4 _ _ (by omega)).trans ((hq3 _ _ (by omega)).trans ((hq2 _ _ (by simp)).trans (by simp [go_sem])))
    have e1 : w4.cell? ⟨w1.heap.size, 1, none⟩ = some (.int .i64 d) := (hq4 _ _ (by omega)).trans ((hq3 _ _ (by omega)).trans ((hq2 _ _ (by simp)).trans (by simp [go_sem])))
    have e2 : w4.cell? ⟨w1.heap.size, 2, none⟩ = some (.int .i64 s) := (hq4 _ _ (by omega)).trans ((hq3 _ _ (by omega)).trans ((hq2 _ _ (by simp)).trans (by simp [go_sem])))
    have e3 : w4.cell? ⟨w1.heap.size, 3, none⟩ = some (.int .i64 r) := (hq4 _ _ (by omega)).trans ((hq3 _ _ (by omega)).trans ((hq2 _ _ (by simp)).trans (by simp [go_sem])))
    clear hq2 hq3 hq4
    have hn2 : (0 : Int) ≤ (n : Int) / 2 := by omega
    have hn3 : (n : Int) / 2 ≤ (c2 : Int) := by have := HLN.out; omega
    have hn4 : ((n : Int) / 2).toNat = n / 2 := by omega
    go_wp2_with fail
    refine (impl_ToneSamples _ _ _ _ _ _ _ _ _).mono ?_
    rw [HH.out]
    rintro e w5 ⟨A5, c5, rfl, o_, b_⟩
    have z5 := b_.size; (try simp only [World.size_alloc, size_drew] at z5)
    have hq5 := below_cells b_
    (try (have zb5 : w1.heap.size < w5.heap.size := (by omega)))
    replace HB := Lib.hid (Below.trans (by first | with_reducible exact HB.out | with_reducible exact HB.out.alloc (by omega) _ | with_reducible exact (HB.out.alloc (by omega) _).alloc (by first | omega | (simp; done) | (simp; omega)) _ | with_reducible exact ((HB.out.alloc (by omega) _).alloc (by first | omega | (simp; done) | (simp; omega)) _).alloc (by first | omega | (simp; done) | (simp; omega)) _) (b_.mono (by first | omega | (simp; done) | (simp; omega))))
    replace HG := Lib.hid (RdI.below (by first | with_reducible exact HG.out | with_reducible exact HG.out.al (by omega) _ | with_reducible exact (HG.out.al (by omega) _).al (by first | omega | (simp; done) | (simp; omega)) _) b_ (by first | omega | (simp; done) | (simp; omega)))
    have HS := Lib.hid (RdI.of_own o_)
    clear b_ o_
    have e3' : w5.cell? ⟨w1.heap.size, 3, none⟩ = some (.int .i64 r) := (hq5 _ _ (by omega)).trans e3
    clear e0 e1 e2 e3 hq5
    go_wp2_with fail
    clear h1 e3'
    go_loop [10] (fun i => ∃ k : Nat, h + r ≤ (k : Int) ∧ k ≤ 20000 ∧ i = .int .i64 k) (fun i => 20000 - (intOf i).toNat)
    case atStart => exact ⟨(h + r).toNat, by omega, by omega, by rw [Int.toNat_of_nonneg (by omega)]⟩
    case round =>
      obtain ⟨k, hk0, hk, rfl⟩ := hrel
      have HK0 := Lib.hid hk0
      by_cases hlt : k < L.length
      · obtain ⟨b2, off2, rfl, hbB2, hc2⟩ := HG.out.at_ hlt
        rw [HZ.out k hlt hk0] at hc2
        have hi1 : (k : Int) < (L.length : Int) := by omega
        clear hk0
        go_wp2
        go_round
        case rel => exact ⟨k + 1, by have := HK0.out; omega, by omega, by go_num⟩
        case measure => simp [intOf]; omega
      · have hb1 : ((L.length : Int) == (n : Int)) = true := by simp [HLN.out]
        have hpd : decide (p ≤ 30000) = true := decide_eq_true hpb
        go_wp2_with fail
        refine (impl_SamplesValid _ _ _ _ (RdI.more (by first | with_reducible exact HG.out | with_reducible exact HG.out.al (by omega) _ | with_reducible exact (HG.out.al (by omega) _).al (by first | omega | (simp; done) | (simp; omega)) _) (by first | omega | (simp; done) | (simp; omega))) (by omega)).mono ?_
        rw [HOK.out]
        rintro e w' ⟨rfl, rfl⟩
        clear hk0
        go_wp2_with fail
        refine (impl_PeakOf _ _ _ _ (RdI.more (by first | with_reducible exact HG.out | with_reducible exact HG.out.al (by omega) _ | with_reducible exact (HG.out.al (by omega) _).al (by first | omega | (simp; done) | (simp; omega)) _) (by first | omega | (simp; done) | (simp; omega))) (by omega)).mono ?_
        rw [HPK.out]
        rintro e w6 ⟨rfl, b_⟩
        have z6 := b_.size
        replace HB := Lib.hid (HB.out.trans (b_.mono (by omega)))
        replace HG := Lib.hid (RdI.below (by first | with_reducible exact HG.out | with_reducible exact HG.out.al (by omega) _ | with_reducible exact (HG.out.al (by omega) _).al (by first | omega | (simp; done) | (simp; omega)) _) b_ (by first | omega | (simp; done) | (simp; omega)))
        replace HS := Lib.hid (RdI.below (by first | with_reducible exact HS.out | with_reducible exact HS.out.al (by omega) _ | with_reducible exact (HS.out.al (by omega) _).al (by first | omega | (simp; done) | (simp; omega)) _) b_ (by first | omega | (simp; done) | (simp; omega)))
        clear b_
        go_wp2_with fail
        rw [← HTL.out]
        refine (laws_sameInts _ _ _ _ T T _ (RdI.more (by first | with_reducible exact HS.out | with_reducible exact HS.out.al (by omega) _ | with_reducible exact (HS.out.al (by omega) _).al (by first | omega | (simp; done) | (simp; omega)) _) (by first | omega | (simp; done) | (simp; omega))) (HRT.out _ _ _ (RdI.more (by first | with_reducible exact HG.out | with_reducible exact HG.out.al (by omega) _ | with_reducible exact (HG.out.al (by omega) _).al (by first | omega | (simp; done) | (simp; omega)) _) (by first | omega | (simp; done) | (simp; omega)))) (by have := HTL.out; omega) (by have := HTL.out; omega)).mono ?_
        rw [HSH.out]
        rintro e w7 ⟨rfl, b_⟩
        replace HB := Lib.hid (HB.out.trans (b_.mono (by omega)))
        clear b_
        go_wp2_with fail
        go_ret
        exact ⟨rfl, HB.out⟩
end Go.Proofs.Ytijbciiocmdmmaa.fnToneSamples
