/- The walk of FnEchoSamples: it returns true. Condition: at most 2^20 bytes. -/
import Derived.Test.YtijbciiocmdmmaaMix
import Derived.Test.YtijbciiocmdmmaaSmpP
import Derived.Test.YtijbciiocmdmmaaDrawE
import Derived.Test.YtijbciiocmdmmaaAlive
import Derived.Test.YtijbciiocmdmmaaSam2
import Derived.Test.YtijbciiocmdmmaaRegW
namespace Go.Proofs.Ytijbciiocmdmmaa.fnEchoSamples
set_option linter.unusedVariables false
open Go.RowKit
set_option linter.unusedSimpArgs false
set_option maxRecDepth 100000 in
set_option maxHeartbeats 4000000 in
theorem core (w : World) (A_z : Option Addr) (c_z : Nat) (z : List Int) (r_z : RdY w w.heap.size A_z z) (f_z : WfY z) (k_z : z.length ≤ c_z) (hbig : z.length ≤ 1048576) :
    Calls Try.prog 10 #[.slice A_z z.length c_z] w (RetB w true) := by
  have hi1 : (z.length : Int) ≤ 1048576 := by omega
  go_enter Try.func10, Try.ntmps10
  go_wp2_with fail
  refine (spec_DrawEchoSamples A_z c_z z w r_z f_z hbig k_z).mono ?_
  rintro e w1 ⟨A, c, zs, b, l, rfl, hl, hwf, hbb, hlb, hrd, b1⟩
  have z1 := b1.size
  have HB := Lib.hid b1; clear b1 r_z f_z hwf
  have HX := Lib.hid hrd
  clear hrd
  have hLl := echoL_len zs b l
  have hyes := echoL_yes (zs := zs) (b := b) (l := l)
  generalize hL : echoL zs b l = L at *
  have HL := Lib.hid hL; clear hL
  have hsr := sameI_refl L
  have HSR := Lib.hid hsr; clear hsr
  have hsz := sameI_refl zs
  have HSZ := Lib.hid hsz; clear hsz
  go_wp2_with fail
  refine (impl_EchoSamples _ _ _ _ _ _ HX.out (by omega)).mono ?_
  rw [HL.out]
  rintro e w2 ⟨A2, c2, rfl, o_, b_⟩
  have z2 := b_.size; (try simp only [World.size_alloc, size_drew] at z2)
  have hq2 := below_cells b_
  (try (have zb2 : w1.heap.size < w2.heap.size := (by omega)))
  replace HB := Lib.hid (Below.trans (by first | with_reducible exact HB.out | with_reducible exact HB.out.alloc (by omega) _ | with_reducible exact (HB.out.alloc (by omega) _).alloc (by first | omega | (simp; done) | (simp; omega)) _ | with_reducible exact ((HB.out.alloc (by omega) _).alloc (by first | omega | (simp; done) | (simp; omega)) _).alloc (by first | omega | (simp; done) | (simp; omega)) _) (b_.mono (by first | omega | (simp; done) | (simp; omega))))
  replace HX := Lib.hid (RdI.below (by first | with_reducible exact HX.out | with_reducible exact HX.out.al (by omega) _ | with_reducible exact (HX.out.al (by omega) _).al (by first | omega | (simp; done) | (simp; omega)) _) b_ (by first | omega | (simp; done) | (simp; omega)))
  have HG := Lib.hid (RdI.of_own o_)
  clear b_ o_
  go_wp2_with fail
  refine (spec_EchoSamples _ _ _ _ _ _ (RdI.more (by first | with_reducible exact HX.out | with_reducible exact HX.out.al (by omega) _ | with_reducible exact (HX.out.al (by omega) _).al (by first | omega | (simp; done) | (simp; omega)) _) (by first | omega | (simp; done) | (simp; omega))) (by omega)).mono ?_
  rw [HL.out]
  rintro e w3 ⟨A3, c3, rfl, o_, b_⟩
  have z3 := b_.size; (try simp only [World.size_alloc, size_drew] at z3)
  have hq3 := below_cells b_
  (try (have zb3 : w1.heap.size < w3.heap.size := (by omega)))
  replace HB := Lib.hid (Below.trans (by first | with_reducible exact HB.out | with_reducible exact HB.out.alloc (by omega) _ | with_reducible exact (HB.out.alloc (by omega) _).alloc (by first | omega | (simp; done) | (simp; omega)) _ | with_reducible exact ((HB.out.alloc (by omega) _).alloc (by first | omega | (simp; done) | (simp; omega)) _).alloc (by first | omega | (simp; done) | (simp; omega)) _) (b_.mono (by first | omega | (simp; done) | (simp; omega))))
  replace HX := Lib.hid (RdI.below (by first | with_reducible exact HX.out | with_reducible exact HX.out.al (by omega) _ | with_reducible exact (HX.out.al (by omega) _).al (by first | omega | (simp; done) | (simp; omega)) _) b_ (by first | omega | (simp; done) | (simp; omega))); replace HG := Lib.hid (RdI.below (by first | with_reducible exact HG.out | with_reducible exact HG.out.al (by omega) _ | with_reducible exact (HG.out.al (by omega) _).al (by first | omega | (simp; done) | (simp; omega)) _) b_ (by first | omega | (simp; done) | (simp; omega)))
  have HW := Lib.hid (RdI.of_own o_)
  clear b_ o_
  go_wp2_with fail
  refine (laws_sameInts _ _ _ _ _ _ _ (RdI.more (by first | with_reducible exact HG.out | with_reducible exact HG.out.al (by omega) _ | with_reducible exact (HG.out.al (by omega) _).al (by first | omega | (simp; done) | (simp; omega)) _) (by first | omega | (simp; done) | (simp; omega))) HW.out (by omega) (by omega)).mono ?_
  rintro e w4 ⟨rfl, b_⟩
  have z4 := b_.size; (try simp only [World.size_alloc, size_drew] at z4)
  have hq4 := below_cells b_
  (try (have zb4 : w1.heap.size < w4.heap.size := (by omega)))
  replace HB := Lib.hid (Below.trans (by first | with_reducible exact HB.out | with_reducible exact HB.out.alloc (by omega) _ | with_reducible exact (HB.out.alloc (by omega) _).alloc (by first | omega | (simp; done) | (simp; omega)) _ | with_reducible exact ((HB.out.alloc (by omega) _).alloc (by first | omega | (simp; done) | (simp; omega)) _).alloc (by first | omega | (simp; done) | (simp; omega)) _) (b_.mono (by first | omega | (simp; done) | (simp; omega))))
  rw [HSR.out]; replace HX := Lib.hid (RdI.below (by first | with_reducible exact HX.out | with_reducible exact HX.out.al (by omega) _ | with_reducible exact (HX.out.al (by omega) _).al (by first | omega | (simp; done) | (simp; omega)) _) b_ (by first | omega | (simp; done) | (simp; omega))); replace HG := Lib.hid (RdI.below (by first | with_reducible exact HG.out | with_reducible exact HG.out.al (by omega) _ | with_reducible exact (HG.out.al (by omega) _).al (by first | omega | (simp; done) | (simp; omega)) _) b_ (by first | omega | (simp; done) | (simp; omega)))
  clear b_
  clear HW hq2 hq3 hq4
  by_cases h0 : L.length = 0
  · have h1 : ((L.length : Int) == 0) = true := by simp [h0]
    clear h0
    go_wp2_with fail
    refine (laws_alive _).mono ?_
    rintro e w5 ⟨rfl, b_⟩
    have z5 := b_.size; (try simp only [World.size_alloc, size_drew] at z5)
    have hq5 := below_cells b_
    (try (have zb5 : w1.heap.size < w5.heap.size := (by omega)))
    replace HB := Lib.hid (Below.trans (by first | with_reducible exact HB.out | with_reducible exact HB.out.alloc (by omega) _ | with_reducible exact (HB.out.alloc (by omega) _).alloc (by first | omega | (simp; done) | (simp; omega)) _ | with_reducible exact ((HB.out.alloc (by omega) _).alloc (by first | omega | (simp; done) | (simp; omega)) _).alloc (by first | omega | (simp; done) | (simp; omega)) _) (b_.mono (by first | omega | (simp; done) | (simp; omega))))
    skip
    clear b_
    go_wp2_with fail
    go_ret
    exact ⟨rfl, HB.out⟩
  · have h1 : ((L.length : Int) == 0) = false := by simpa using h0
    obtain ⟨⟨hok, hb2, hl2⟩, hLe⟩ := hyes (by rintro rfl; simp at h0)
    have hlen : L.length = zs.length := by rw [hLe, echoTo_len]
    have hpre : ∀ j, j < L.length → j < b.toNat → gi L j = gi zs j := fun j h1 h2 => by
      rw [hLe]; exact echoTo_pre zs _ l hok zs.length j (Nat.le_refl _) (by omega) h2
    have hokL : okS L = true := by rw [hLe]; exact echo_ok hok
    have hez := echoL_zero hok hb2
    have HOK := Lib.hid hokL; have HLN := Lib.hid hlen; have HPRE := Lib.hid hpre; have HEZ := Lib.hid hez
    have hle : L.length ≤ zs.length := by omega
    clear hok hLe hyes hlen h0 hokL hpre hez hb2 hl2
    go_wp2_with fail
    clear h1
    go_loopw [7] (fun i wr => ∃ k : Nat, k ≤ L.length ∧ i = .int .i64 k ∧ ∃ m, wr = w4.drewN m) (fun i _ => L.length - (intOf i).toNat)
    case atStart => exact ⟨0, Nat.zero_le _, rfl, 0, rfl⟩
    case round =>
      obtain ⟨k, hk, rfl, m, rfl⟩ := hrel
      by_cases hlt : k < L.length ∧ (k : Int) < b
      · obtain ⟨hlt, hltb⟩ := hlt
        obtain ⟨b1, off, rfl, hbB, hc⟩ := HX.out.at_ (k := k) (by omega)
        obtain ⟨b2, off2, rfl, hbB2, hc2⟩ := HG.out.at_ hlt
        have hxk : gi L k = gi zs k := HPRE.out k hlt (by omega)
        rw [hxk] at hc2
        clear hxk
        have hi1 : (k : Int) < (L.length : Int) := by omega
        have hi2 : (k : Int) < (zs.length : Int) := by omega
        generalize gi zs k = y at *
        have hyy : (y != y) = false := by simp
        have hltd : decide ((k : Int) < b) = true := decide_eq_true hltb
        go_wp2_with fail
        go_quiet (fail)
        go_wp2
        go_roundw
        case rel => exact ⟨k + 1, by omega, by go_num, _, rfl⟩
        case measure => simp [intOf]; omega
      · have hb1 : ((L.length : Int) == (zs.length : Int)) = true := by simp [HLN.out]
        replace HX := Lib.hid (HX.out.drewN m)
        replace HG := Lib.hid (HG.out.drewN m)
        replace HB := Lib.hid (below_drewN HB.out m)
        have z4' : w4.heap.size ≤ (w4.drewN m).heap.size := Nat.le_refl _
        generalize hwm : w4.drewN m = wm at *
        clear hwm
        have hend : decide ((k : Int) < b) = false ∨ (decide ((k : Int) < b) = true ∧ ¬ k < L.length) := by
          by_cases hh : (k : Int) < b
          · exact .inr ⟨decide_eq_true hh, by omega⟩
          · exact .inl (decide_eq_false hh)
        clear hlt
        rcases hend with he | ⟨he, he2⟩
        all_goals
          go_wp2_with fail
          refine (impl_SamplesValid _ _ _ _ (RdI.more (by first | with_reducible exact HG.out | with_reducible exact HG.out.al (by omega) _ | with_reducible exact (HG.out.al (by omega) _).al (by first | omega | (simp; done) | (simp; omega)) _) (by first | omega | (simp; done) | (simp; omega))) (by omega)).mono ?_
          rw [HOK.out]
          rintro e w' ⟨rfl, rfl⟩
          go_wp2_with fail
          refine (impl_EchoSamples _ _ _ _ _ _ (RdI.more (by first | with_reducible exact HX.out | with_reducible exact HX.out.al (by omega) _ | with_reducible exact (HX.out.al (by omega) _).al (by first | omega | (simp; done) | (simp; omega)) _) (by first | omega | (simp; done) | (simp; omega))) (by omega)).mono ?_
          rw [HEZ.out]
          rintro e w6 ⟨A6, c6, rfl, o_, b_⟩
          have z6 := b_.size
          replace HB := Lib.hid (HB.out.trans (b_.mono (by omega)))
          replace HX := Lib.hid (RdI.below (by first | with_reducible exact HX.out | with_reducible exact HX.out.al (by omega) _ | with_reducible exact (HX.out.al (by omega) _).al (by first | omega | (simp; done) | (simp; omega)) _) b_ (by first | omega | (simp; done) | (simp; omega)))
          have HS := Lib.hid (RdI.of_own o_)
          clear b_ o_
          go_wp2_with fail
          refine (laws_sameInts _ _ _ _ _ _ _ HS.out (RdI.more (by first | with_reducible exact HX.out | with_reducible exact HX.out.al (by omega) _ | with_reducible exact (HX.out.al (by omega) _).al (by first | omega | (simp; done) | (simp; omega)) _) (by first | omega | (simp; done) | (simp; omega))) (by omega) (by omega)).mono ?_
          rw [HSZ.out]
          rintro e w7 ⟨rfl, b_⟩
          replace HB := Lib.hid (HB.out.trans (b_.mono (by omega)))
          clear b_ HS
          go_wp2_with fail
          go_ret
          exact ⟨rfl, HB.out⟩
end Go.Proofs.Ytijbciiocmdmmaa.fnEchoSamples
