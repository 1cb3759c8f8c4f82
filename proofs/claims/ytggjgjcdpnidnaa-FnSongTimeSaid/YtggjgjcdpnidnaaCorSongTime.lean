/- The walk of FnSongTime: it returns true. Condition: at most 2^20 bytes. -/
import Derived.Test.YtggjgjcdpnidnaaDrawX
import Derived.Test.YtggjgjcdpnidnaaSbt
import Derived.Test.YtggjgjcdpnidnaaPrf
import Derived.Test.YtggjgjcdpnidnaaAlive
namespace Go.Proofs.Ytggjgjcdpnidnaa.fnSongTime
set_option linter.unusedVariables false
open Go.RowKit
set_option linter.unusedSimpArgs false
theorem perf_off {v : List Nt} {ts : List (Int × Int)} {l : Int} {e : Ev} (h : e ∈ perfL v ts l) : e.2.1 ≤ timeL ts (ticksL v) := by
  unfold perfL at h
  split at h
  · rename_i hc
    obtain ⟨x, hx, rfl⟩ := List.mem_map.1 h
    exact timeL_mono hc.2.1 ((snd_main (vv_okV hc.1)).1 x hx).2.2
  · exact absurd h (by simp)
theorem lg_le (vs : List (List Nt)) : ∀ k j, j < k → ticksL (glV vs j) ≤ lgTo vs k := by
  intro k
  induction k with
  | zero => intro j h; omega
  | succ k ih =>
    intro j h
    simp only [lgTo]
    rcases Nat.lt_succ_iff_lt_or_eq.1 h with h1 | rfl
    · have := ih j h1; omega
    · omega
theorem off_le {ts : List (Int × Int)} (ht : tvB ts = true) (vs : List (List Nt)) {k : Nat} (hk : k < vs.length) : ∀ e ∈ perfL (glV vs k) ts 64, e.2.1 ≤ timeL ts (lgL vs) :=
  fun e he => Int.le_trans (perf_off he) (timeL_mono ht (lg_le vs _ k hk))
set_option maxRecDepth 100000 in
set_option maxHeartbeats 4000000 in
theorem core (w : World) (A_z : Option Addr) (c_z : Nat) (z : List Int) (r_z : RdY w w.heap.size A_z z) (f_z : WfY z) (k_z : z.length ≤ c_z) (hbig : z.length ≤ 1048576) :
    Calls Try.prog 5 #[.slice A_z z.length c_z] w (RetB w true) := by
  have hi1 : (z.length : Int) ≤ 1048576 := by omega
  go_enter Try.func5, Try.ntmps5
  go_wp2_with fail
  refine (spec_DrawSongTime A_z c_z z w r_z f_z hbig k_z).mono ?_
  rintro e wd ⟨f, m, b, u, C, d, ts, A, c, vs, rfl, hts, hvs, h61, hT, hV, hB⟩
  have hzd := hB.size
  have HK := Lib.hid (Blk.new wd 28 #[.int .i64 f, .bool m, .int .i64 b, .int .i64 u, .slice C ts.length d, .slice A vs.length c])
  have HT := Lib.hid (RdTempo.more (RdTempo.al hT (Nat.le_refl _) (.cells #[.int .i64 f, .bool m, .int .i64 b, .int .i64 u, .slice C ts.length d, .slice A vs.length c] 28)) (show wd.heap.size ≤ (wd.alloc (.cells #[.int .i64 f, .bool m, .int .i64 b, .int .i64 u, .slice C ts.length d, .slice A vs.length c] 28)).heap.size by simp))
  have HV := Lib.hid (RdVs.more (RdVs.al hV (Nat.le_refl _) (.cells #[.int .i64 f, .bool m, .int .i64 b, .int .i64 u, .slice C ts.length d, .slice A vs.length c] 28)) (show wd.heap.size ≤ (wd.alloc (.cells #[.int .i64 f, .bool m, .int .i64 b, .int .i64 u, .slice C ts.length d, .slice A vs.length c] 28)).heap.size by simp))
  have HB := Lib.hid (hB.alloc hzd (.cells #[.int .i64 f, .bool m, .int .i64 b, .int .i64 u, .slice C ts.length d, .slice A vs.length c] 28))
  have z0 : wd.heap.size + 1 ≤ (wd.alloc (.cells #[.int .i64 f, .bool m, .int .i64 b, .int .i64 u, .slice C ts.length d, .slice A vs.length c] 28)).heap.size := by simp
  have hlt : ts.length ≤ 1048576 := by omega
  have hlv : LenV vs := ⟨by omega, fun v hv => Nat.le_trans (h61 v hv) (by decide)⟩
  have H61 := Lib.hid h61
  clear hT hV hB r_z f_z h61
  go_upto_region 4 with fail
  generalize wd.alloc (.cells #[.int .i64 f, .bool m, .int .i64 b, .int .i64 u, .slice C ts.length d, .slice A vs.length c] 28) = w0 at *
  have c0 := HK.out.cell 0; have c1 := HK.out.cell 1; have c2 := HK.out.cell 2; have c3 := HK.out.cell 3; have c4 := HK.out.cell 4; have c5 := HK.out.cell 5
  cases hs : svB f b u ts vs
  · have HG : Hid (smL f b u ts vs = -1) := Lib.hid (if_neg (by rw [hs]; decide)); clear hs
    go_wp2_with fail
    refine (impl_SongTime f m b u _ _ _ _ ts vs _ HT.out HV.out hlt hlv).mono ?_
    rw [HG.out]
    rintro e w1 ⟨rfl, b1⟩
    have z1 := b1.size
    clear c0 c1 c2 c3 c4 c5
    replace HK := Lib.hid (HK.out.below b1 (by omega)); replace HT := Lib.hid (RdTempo.more (RdTempo.below HT.out b1 (by omega)) z1); replace HV := Lib.hid (RdVs.more (RdVs.below HV.out b1 (by omega)) z1); replace HB := Lib.hid (HB.out.trans (b1.mono (by omega)))
    clear b1
    have c0 := HK.out.cell 0; have c1 := HK.out.cell 1; have c2 := HK.out.cell 2; have c3 := HK.out.cell 3; have c4 := HK.out.cell 4; have c5 := HK.out.cell 5
    go_wp2_with fail
    refine (spec_SongTime f m b u _ _ _ _ ts vs _ HT.out HV.out hlt hlv).mono ?_
    rw [HG.out]
    rintro e w2 ⟨rfl, b2⟩
    have z2 := b2.size
    clear c0 c1 c2 c3 c4 c5
    replace HK := Lib.hid (HK.out.below b2 (by omega)); replace HT := Lib.hid (RdTempo.more (RdTempo.below HT.out b2 (by omega)) z2); replace HV := Lib.hid (RdVs.more (RdVs.below HV.out b2 (by omega)) z2); replace HB := Lib.hid (HB.out.trans (b2.mono (by omega)))
    clear b2
    have c0 := HK.out.cell 0; have c1 := HK.out.cell 1; have c2 := HK.out.cell 2; have c3 := HK.out.cell 3; have c4 := HK.out.cell 4; have c5 := HK.out.cell 5
    go_wp2_with fail
    refine (laws_alive _).mono ?_
    rintro e w3 ⟨rfl, b3⟩
    have z3 := b3.size
    clear c0 c1 c2 c3 c4 c5
    replace HK := Lib.hid (HK.out.below b3 (by omega)); replace HT := Lib.hid (RdTempo.more (RdTempo.below HT.out b3 (by omega)) z3); replace HV := Lib.hid (RdVs.more (RdVs.below HV.out b3 (by omega)) z3); replace HB := Lib.hid (HB.out.trans (b3.mono (by omega)))
    clear b3
    have c0 := HK.out.cell 0; have c1 := HK.out.cell 1; have c2 := HK.out.cell 2; have c3 := HK.out.cell 3; have c4 := HK.out.cell 4; have c5 := HK.out.cell 5
    go_wp2_with fail
    go_ret
    exact ⟨rfl, HB.out⟩
  obtain ⟨s1, s2, s3, s4, s5⟩ := svB_iff.1 hs
  have hlg := lgTo_bd s5 vs.length (Nat.le_refl _)
  have hbd := timeL_bd s3 hlg.1
  have HA := Lib.hid s5
  have HG : Hid (smL f b u ts vs = timeL ts (lgL vs)) := Lib.hid (if_pos hs)
  have HZ : Hid (vs.length = 0 → timeL ts (lgL vs) = 0) := Lib.hid (fun h0 => by unfold lgL; rw [h0]; exact timeL_zero s3)
  have HL : Hid (∀ k, k < vs.length → ∀ e ∈ perfL (glV vs k) ts 64, e.2.1 ≤ timeL ts (lgL vs)) := Lib.hid (fun k hk => off_le s3 vs hk)
  have hb0 : 0 ≤ timeL ts (lgL vs) := hbd.1
  have hb1 : timeL ts (lgL vs) ≤ 5000000000 := by unfold lgL; omega
  generalize timeL ts (lgL vs) = L9 at *
  clear hs s1 s2 s3 s5 hlg hbd
  have e9 : (L9 != L9) = false := by simp
  have e0 : decide (L9 < 0) = false := decide_eq_false (by omega)
  go_wp2_with fail
  refine (impl_SongTime f m b u _ _ _ _ ts vs _ HT.out HV.out hlt hlv).mono ?_
  rw [HG.out]
  rintro e w11 ⟨rfl, b11⟩
  have z11 := b11.size
  clear c0 c1 c2 c3 c4 c5
  replace HK := Lib.hid (HK.out.below b11 (by omega)); replace HT := Lib.hid (RdTempo.more (RdTempo.below HT.out b11 (by omega)) z11); replace HV := Lib.hid (RdVs.more (RdVs.below HV.out b11 (by omega)) z11); replace HB := Lib.hid (HB.out.trans (b11.mono (by omega)))
  clear b11
  have c0 := HK.out.cell 0; have c1 := HK.out.cell 1; have c2 := HK.out.cell 2; have c3 := HK.out.cell 3; have c4 := HK.out.cell 4; have c5 := HK.out.cell 5
  go_wp2_with fail
  refine (spec_SongTime f m b u _ _ _ _ ts vs _ HT.out HV.out hlt hlv).mono ?_
  rw [HG.out]
  rintro e w12 ⟨rfl, b12⟩
  have z12 := b12.size
  clear c0 c1 c2 c3 c4 c5
  replace HK := Lib.hid (HK.out.below b12 (by omega)); replace HT := Lib.hid (RdTempo.more (RdTempo.below HT.out b12 (by omega)) z12); replace HV := Lib.hid (RdVs.more (RdVs.below HV.out b12 (by omega)) z12); replace HB := Lib.hid (HB.out.trans (b12.mono (by omega)))
  clear b12
  have c0 := HK.out.cell 0; have c1 := HK.out.cell 1; have c2 := HK.out.cell 2; have c3 := HK.out.cell 3; have c4 := HK.out.cell 4; have c5 := HK.out.cell 5
  have zz : wd.heap.size + 1 ≤ w12.heap.size := by omega
  generalize w12 = ws at *
  go_wp2_with fail
  go_loopw [5] (fun i wr => ∃ k : Nat, k ≤ vs.length ∧ i = .int .i64 k ∧ Below ws.heap.size ws wr) (fun i _ => vs.length - (intOf i).toNat)
  case atStart => exact ⟨0, Nat.zero_le _, rfl, Below.refl _ _⟩
  case round =>
    clear c0 c1 c2 c3 c4 c5
    obtain ⟨k, hk, rfl, hbel⟩ := hrel
    have hsz := hbel.size
    have HR := Lib.hid hbel
    have HKR := Lib.hid (HK.out.below hbel (by omega))
    by_cases hlt2 : k < vs.length
    · have hi1 : (k : Int) < (vs.length : Int) := by omega
      have hi1' : ((k : Int) < (vs.length : Int)) = True := eq_true hi1
      have hin : (k : Int).toNat = k := by omega
      have HLE := Lib.hid (HL.out k hlt2)
      have hT9 := RdTempo.more (RdTempo.below HT.out hbel (Nat.le_refl _)) hsz
      have HTR := Lib.hid (show RdTempo wr.drew wr.drew.heap.size C ts from hT9)
      clear hT9
      have hvl := Nat.le_trans (vv_len (HA.out k hlt2)) (show 60 ≤ 1048576 by decide)
      obtain ⟨b8, off, C8, d8, rfl, hb8, hc8, hn8⟩ := (HV.out.below hbel (Nat.le_refl _)).at_ hlt2
      have HN := Lib.hid (show RdNote wr.drew wr.drew.heap.size C8 (glV vs k) from RdNote.more hn8 hsz); clear hn8 hbel
      have c4 := HKR.out.cell 4; have c5 := HKR.out.cell 5
      go_upto_region 12 with fail
      go_region_held3 (fun w' => w'.cell? ⟨wd.heap.size, 4, none⟩ = some (.slice C ts.length d) ∧ w'.cell? ⟨wd.heap.size, 5, none⟩ = some (.slice (some ⟨b8, off, none⟩) vs.length c) ∧ w'.cell? ⟨b8, off + k, none⟩ = some (.slice C8 (glV vs k).length d8))
        (first | exact ⟨c4, c5, hc8⟩ | exact ⟨X3.out.1, X3.out.2.1, X3.out.2.2⟩)
        (first | (go_at_call 18; refine (impl_Perform _ _ _ _ (glV vs k) ts 64 _ HN.out HTR.out hvl hlt).mono ?_; rintro e w3 ⟨A3, q3, rfl, o3, b3⟩; have z3 : wr.heap.size ≤ w3.heap.size := b3.size; have B3 := Lib.hid (below_drew_left b3); have O3 := Lib.hid o3; have X3 := Lib.hid (And.intro ((B3.out.cell (p := ⟨wd.heap.size, 4, none⟩) (show wd.heap.size < wr.heap.size by omega)).trans c4) (And.intro ((B3.out.cell (p := ⟨wd.heap.size, 5, none⟩) (show wd.heap.size < wr.heap.size by omega)).trans c5) ((B3.out.cell (p := ⟨b8, off + k, none⟩) (show b8 < wr.heap.size by omega)).trans hc8)))))
      all_goals
        have HR3 := Lib.hid (HR.out.trans (B3.out.mono hsz))
        have HE := Lib.hid (show RdEvent w3 w3.heap.size A3 _ from RdR.of_own O3.out)
        have hpl := perfL_len (glV vs k) ts 64
        clear b3 o3 B3 O3 X3 c4 c5 hc8 HN HTR
        generalize perfL (glV vs k) ts 64 = pe at *
        by_cases h0 : 0 < pe.length
        · have h0i : (0 : Int) < (pe.length : Int) := by omega
          obtain ⟨j, hj⟩ : ∃ j, pe.length = j + 1 := ⟨pe.length - 1, by omega⟩
          obtain ⟨b7, off7, rfl, hb7, hd0, hd1, hd2, hd3⟩ := RdEvent.at_ HE.out (k := j) (by omega)
          have hle : (glEvent pe j).2.1 ≤ L9 := HLE.out _ (by rw [← glEvent_get (by omega)]; exact List.getElem_mem (by omega))
          have hin2 : ((pe.length : Int) - 1).toNat = j := by omega
          have hw2 : IntKind.i64.wrap ((pe.length : Int) - 1) = (pe.length : Int) - 1 := IntWalk.i64_in _ (by omega)
          have hn2 : ((1 : Int) ≤ (pe.length : Int)) = True := eq_true (by omega)
          have hn3 : ((pe.length : Int) - 1 < (pe.length : Int)) = True := eq_true (by omega)
          clear hj
          generalize (glEvent pe j).2.1 = ov at *
          have hgt : decide (L9 < ov) = false := decide_eq_false (by omega)
          have hgt' : (L9 < ov) = False := eq_false (by omega)
          go_wp2_with fail
          go_roundw
          case rel => exact ⟨k + 1, by omega, by go_num, HR3.out⟩
          case measure => simp [intOf]; omega
        · have h0i : ((0 : Int) < (pe.length : Int)) = False := eq_false (by omega)
          go_wp2_with fail
          go_roundw
          case rel => exact ⟨k + 1, by omega, by go_num, HR3.out⟩
          case measure => simp [intOf]; omega
    · obtain rfl : k = vs.length := by omega
      have c5 := HKR.out.cell 5
      clear hbel
      by_cases h0 : 0 < vs.length
      · have h0i : ((0 : Int) < (vs.length : Int)) = True := eq_true (by omega)
        go_wp2_with fail
        go_ret
        exact ⟨rfl, HB.out.trans (HR.out.mono (by omega))⟩
      · have h0i : ((0 : Int) < (vs.length : Int)) = False := eq_false (by omega)
        have hz := HZ.out (by omega)
        have hze : (L9 == 0) = true := by simp [hz]
        clear hz
        go_wp2_with fail
        go_ret
        exact ⟨rfl, HB.out.trans (HR.out.mono (by omega))⟩
end Go.Proofs.Ytggjgjcdpnidnaa.fnSongTime
