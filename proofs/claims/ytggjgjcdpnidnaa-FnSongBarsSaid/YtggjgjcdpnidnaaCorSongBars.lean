/- The walk of FnSongBars: it returns true. Condition: at most 2^20 bytes. -/
import Derived.Test.YtggjgjcdpnidnaaDrawX
import Derived.Test.YtggjgjcdpnidnaaBci
import Derived.Test.YtggjgjcdpnidnaaAlive
namespace Go.Proofs.Ytggjgjcdpnidnaa.fnSongBars
set_option linter.unusedVariables false
open Go.RowKit
set_option linter.unusedSimpArgs false
/-- some voice among the first k has n bars, or n is 0 -/
def fbB (n : Int) (vs : List (List Nt)) (q : Int) : Nat → Bool
  | 0 => (n == 0)
  | k + 1 => fbB n vs q k || (bcL (glV vs k) q == n)
theorem fb_keep {n q : Int} {vs : List (List Nt)} : ∀ d k, fbB n vs q k = true → fbB n vs q (k + d) = true := by
  intro d
  induction d with
  | zero => intro k h; exact h
  | succ d ih => intro k h; show (fbB n vs q (k + d) || _) = true; rw [ih k h]; rfl
theorem bc_some (vs : List (List Nt)) (q : Int) : ∀ k, bcTo vs q k = 0 ∨ ∃ j, j < k ∧ bcL (glV vs j) q = bcTo vs q k := by
  intro k
  induction k with
  | zero => exact .inl rfl
  | succ k ih =>
    simp only [bcTo]
    rcases Int.le_total (bcTo vs q k) (bcL (glV vs k) q) with h | h
    · exact .inr ⟨k, by omega, by rw [Int.max_eq_right h]⟩
    · rw [Int.max_eq_left h]
      rcases ih with h0 | ⟨j, h1, h2⟩
      · exact .inl h0
      · exact .inr ⟨j, by omega, h2⟩
theorem fb_all (vs : List (List Nt)) (q : Int) (k : Nat) : fbB (bcTo vs q k) vs q k = true := by
  rcases bc_some vs q k with h | ⟨j, h1, h2⟩
  · have := fb_keep (n := bcTo vs q k) (q := q) (vs := vs) k 0 (by simp [fbB, h])
    rwa [Nat.zero_add] at this
  · have := fb_keep (n := bcTo vs q k) (q := q) (vs := vs) (k - (j + 1)) (j + 1) (by show (_ || _) = true; rw [h2]; simp)
    rwa [Nat.add_sub_of_le h1] at this
theorem bc_le (vs : List (List Nt)) (q : Int) : ∀ k j, j < k → bcL (glV vs j) q ≤ bcTo vs q k := by
  intro k
  induction k with
  | zero => intro j h; omega
  | succ k ih =>
    intro j h
    simp only [bcTo]
    rcases Nat.lt_succ_iff_lt_or_eq.1 h with h1 | rfl
    · have := ih j h1; omega
    · omega
set_option maxRecDepth 100000 in
set_option maxHeartbeats 4000000 in
theorem core (w : World) (A_z : Option Addr) (c_z : Nat) (z : List Int) (r_z : RdY w w.heap.size A_z z) (f_z : WfY z) (k_z : z.length ≤ c_z) (hbig : z.length ≤ 1048576) :
    Calls Try.prog 4 #[.slice A_z z.length c_z] w (RetB w true) := by
  have hi1 : (z.length : Int) ≤ 1048576 := by omega
  go_enter Try.func4, Try.ntmps4
  go_wp2_with fail
  refine (spec_DrawSongBars A_z c_z z w r_z f_z hbig k_z).mono ?_
  rintro e wd ⟨f, m, b, u, C, d, ts, A, c, vs, rfl, hts, hvs, h61, hT, hV, hB⟩
  have hzd := hB.size
  have HK := Lib.hid (Blk.new wd 28 #[.int .i64 f, .bool m, .int .i64 b, .int .i64 u, .slice C ts.length d, .slice A vs.length c])
  have HT := Lib.hid (RdTempo.more (RdTempo.al hT (Nat.le_refl _) (.cells #[.int .i64 f, .bool m, .int .i64 b, .int .i64 u, .slice C ts.length d, .slice A vs.length c] 28)) (show wd.heap.size ≤ (wd.alloc (.cells #[.int .i64 f, .bool m, .int .i64 b, .int .i64 u, .slice C ts.length d, .slice A vs.length c] 28)).heap.size by simp))
  have HV := Lib.hid (RdVs.more (RdVs.al hV (Nat.le_refl _) (.cells #[.int .i64 f, .bool m, .int .i64 b, .int .i64 u, .slice C ts.length d, .slice A vs.length c] 28)) (show wd.heap.size ≤ (wd.alloc (.cells #[.int .i64 f, .bool m, .int .i64 b, .int .i64 u, .slice C ts.length d, .slice A vs.length c] 28)).heap.size by simp))
  have HB := Lib.hid (hB.alloc hzd (.cells #[.int .i64 f, .bool m, .int .i64 b, .int .i64 u, .slice C ts.length d, .slice A vs.length c] 28))
  have z0 : wd.heap.size + 1 ≤ (wd.alloc (.cells #[.int .i64 f, .bool m, .int .i64 b, .int .i64 u, .slice C ts.length d, .slice A vs.length c] 28)).heap.size := by simp
  have hlt : ts.length ≤ 1048576 := by omega
  have hlv : LenV vs := ⟨by omega, fun v hv => Nat.le_trans (h61 v hv) (by decide)⟩
  have H61 := Lib.hid h61
  clear hT hV hB r_z f_z h61
  go_upto_region 4 with fail
  generalize wd.alloc (.cells #[.int .i64 f, .bool m, .int .i64 b, .int .i64 u, .slice C ts.length d, .slice A vs.length c] 28) = w0 at *
  have c0 := HK.out.cell 0; have c1 := HK.out.cell 1; have c2 := HK.out.cell 2; have c3 := HK.out.cell 3; have c4 := HK.out.cell 4; have c5 := HK.out.cell 5
  cases hs : svB f b u ts vs
  · have HG : Hid (sbL f b u ts vs = -1) := Lib.hid (if_neg (by rw [hs]; decide)); clear hs
    go_wp2_with fail
    refine (impl_SongBars f m b u _ _ _ _ ts vs _ HT.out HV.out hlt hlv).mono ?_
    rw [HG.out]
    rintro e w1 ⟨rfl, b1⟩
    have z1 := b1.size
    clear c0 c1 c2 c3 c4 c5
    replace HK := Lib.hid (HK.out.below b1 (by omega)); replace HT := Lib.hid (RdTempo.more (RdTempo.below HT.out b1 (by omega)) z1); replace HV := Lib.hid (RdVs.more (RdVs.below HV.out b1 (by omega)) z1); replace HB := Lib.hid (HB.out.trans (b1.mono (by omega)))
    clear b1
    have c0 := HK.out.cell 0; have c1 := HK.out.cell 1; have c2 := HK.out.cell 2; have c3 := HK.out.cell 3; have c4 := HK.out.cell 4; have c5 := HK.out.cell 5
    go_wp2_with fail
    refine (spec_SongBars f m b u _ _ _ _ ts vs _ HT.out HV.out hlt hlv).mono ?_
    rw [HG.out]
    rintro e w2 ⟨rfl, b2⟩
    have z2 := b2.size
    clear c0 c1 c2 c3 c4 c5
    replace HK := Lib.hid (HK.out.below b2 (by omega)); replace HT := Lib.hid (RdTempo.more (RdTempo.below HT.out b2 (by omega)) z2); replace HV := Lib.hid (RdVs.more (RdVs.below HV.out b2 (by omega)) z2); replace HB := Lib.hid (HB.out.trans (b2.mono (by omega)))
    clear b2
    have c0 := HK.out.cell 0; have c1 := HK.out.cell 1; have c2 := HK.out.cell 2; have c3 := HK.out.cell 3; have c4 := HK.out.cell 4; have c5 := HK.out.cell 5
    go_wp2_with fail
    refine (laws_alive _).mono ?_
    rintro e w3 ⟨rfl, b3⟩
    have z3 := b3.size
    clear c0 c1 c2 c3 c4 c5
    replace HK := Lib.hid (HK.out.below b3 (by omega)); replace HT := Lib.hid (RdTempo.more (RdTempo.below HT.out b3 (by omega)) z3); replace HV := Lib.hid (RdVs.more (RdVs.below HV.out b3 (by omega)) z3); replace HB := Lib.hid (HB.out.trans (b3.mono (by omega)))
    clear b3
    have c0 := HK.out.cell 0; have c1 := HK.out.cell 1; have c2 := HK.out.cell 2; have c3 := HK.out.cell 3; have c4 := HK.out.cell 4; have c5 := HK.out.cell 5
    go_wp2_with fail
    go_ret
    exact ⟨rfl, HB.out⟩
  obtain ⟨s1, s2, s3, s4, s5⟩ := svB_iff.1 hs
  have hbt := (btL_bd s2).2
  have HM := Lib.hid s2
  have HA := Lib.hid s5
  have HQ : Hid (btL b u = btL b u) := Lib.hid rfl
  have hE : sbL f b u ts vs = bcTo vs (btL b u) vs.length := by rw [bcTo_eq (by omega)]; exact if_pos hs
  have hbd := bcTo_bd s5 hbt vs.length (Nat.le_refl _)
  have HL := Lib.hid (bc_le vs (btL b u) vs.length)
  have HF := Lib.hid (fb_all vs (btL b u) vs.length)
  have HG := Lib.hid hE
  generalize hL9 : bcTo vs (btL b u) vs.length = L9 at *
  clear hE hs s1 s2 s3 s5 hL9
  have e9 : (L9 != L9) = false := by simp
  have e0 : decide (L9 < 0) = false := decide_eq_false (by omega)
  go_wp2_with fail
  refine (impl_SongBars f m b u _ _ _ _ ts vs _ HT.out HV.out hlt hlv).mono ?_
  rw [HG.out]
  rintro e w11 ⟨rfl, b11⟩
  have z11 := b11.size
  clear c0 c1 c2 c3 c4 c5
  replace HK := Lib.hid (HK.out.below b11 (by omega)); replace HT := Lib.hid (RdTempo.more (RdTempo.below HT.out b11 (by omega)) z11); replace HV := Lib.hid (RdVs.more (RdVs.below HV.out b11 (by omega)) z11); replace HB := Lib.hid (HB.out.trans (b11.mono (by omega)))
  clear b11
  have c0 := HK.out.cell 0; have c1 := HK.out.cell 1; have c2 := HK.out.cell 2; have c3 := HK.out.cell 3; have c4 := HK.out.cell 4; have c5 := HK.out.cell 5
  go_wp2_with fail
  refine (spec_SongBars f m b u _ _ _ _ ts vs _ HT.out HV.out hlt hlv).mono ?_
  rw [HG.out]
  rintro e w12 ⟨rfl, b12⟩
  have z12 := b12.size
  clear c0 c1 c2 c3 c4 c5
  replace HK := Lib.hid (HK.out.below b12 (by omega)); replace HT := Lib.hid (RdTempo.more (RdTempo.below HT.out b12 (by omega)) z12); replace HV := Lib.hid (RdVs.more (RdVs.below HV.out b12 (by omega)) z12); replace HB := Lib.hid (HB.out.trans (b12.mono (by omega)))
  clear b12
  have c0 := HK.out.cell 0; have c1 := HK.out.cell 1; have c2 := HK.out.cell 2; have c3 := HK.out.cell 3; have c4 := HK.out.cell 4; have c5 := HK.out.cell 5
  have zz : wd.heap.size + 1 ≤ w12.heap.size := by omega
  generalize w12 = ws at *
  go_wp2_with fail
  go_loopw [5, 6] (fun fv i wr => ∃ k : Nat, k ≤ vs.length ∧ fv = .bool (fbB L9 vs (btL b u) k) ∧ i = .int .i64 k ∧ Below ws.heap.size ws wr) (fun _ i _ => vs.length - (intOf i).toNat)
  case atStart => exact ⟨0, Nat.zero_le _, rfl, rfl, Below.refl _ _⟩
  case round =>
    clear c0 c1 c2 c3 c4 c5
    obtain ⟨k, hk, rfl, rfl, hbel⟩ := hrel
    have hsz := hbel.size
    have HR := Lib.hid hbel
    have HKR := Lib.hid (HK.out.below hbel (by omega))
    by_cases hlt2 : k < vs.length
    · have hi1 : (k : Int) < (vs.length : Int) := by omega
      have hi1' : ((k : Int) < (vs.length : Int)) = True := eq_true hi1
      have hin : (k : Int).toNat = k := by omega
      have HSF : Hid (fbB L9 vs (btL b u) (k + 1) = (fbB L9 vs (btL b u) k || (bcL (glV vs k) (btL b u) == L9))) := Lib.hid rfl
      have hle := HL.out k hlt2
      generalize fbB L9 vs (btL b u) k = fo at *
      obtain ⟨b8, off, C8, d8, rfl, hb8, hc8, hn8⟩ := (HV.out.below hbel (Nat.le_refl _)).at_ hlt2
      have HN := Lib.hid (show RdNote wr.drew wr.drew.heap.size C8 (glV vs k) from RdNote.more hn8 hsz); clear hn8 hbel
      have c2 := HKR.out.cell 2; have c3 := HKR.out.cell 3; have c5 := HKR.out.cell 5
      go_upto_region 13 with fail
      go_region_held3 (fun w' => w'.cell? ⟨wd.heap.size, 2, none⟩ = some (.int .i64 b) ∧ w'.cell? ⟨wd.heap.size, 3, none⟩ = some (.int .i64 u) ∧ w'.cell? ⟨wd.heap.size, 5, none⟩ = some (.slice (some ⟨b8, off, none⟩) vs.length c) ∧ w'.cell? ⟨b8, off + k, none⟩ = some (.slice C8 (glV vs k).length d8))
        (first | exact ⟨c2, c3, c5, hc8⟩ | exact ⟨X3.out.1, X3.out.2.1, X3.out.2.2.1, X3.out.2.2.2⟩)
        (first | (go_at_call 14; refine (impl_BarCount _ _ _ b u _ HN.out (HA.out k hlt2) HM.out).mono ?_; rintro e w3 ⟨rfl, b3⟩; have z3 : wr.heap.size ≤ w3.heap.size := b3.size; have B3 := Lib.hid (below_drew_left b3); have X3 := Lib.hid (And.intro ((B3.out.cell (p := ⟨wd.heap.size, 2, none⟩) (show wd.heap.size < wr.heap.size by omega)).trans c2) (And.intro ((B3.out.cell (p := ⟨wd.heap.size, 3, none⟩) (show wd.heap.size < wr.heap.size by omega)).trans c3) (And.intro ((B3.out.cell (p := ⟨wd.heap.size, 5, none⟩) (show wd.heap.size < wr.heap.size by omega)).trans c5) ((B3.out.cell (p := ⟨b8, off + k, none⟩) (show b8 < wr.heap.size by omega)).trans hc8))))))
      all_goals
        have HR3 := Lib.hid (HR.out.trans (B3.out.mono hsz))
        clear b3 B3 X3 c2 c3 c5 hc8 HN
        generalize bcL (glV vs k) (btL b u) = bc at *
        have hgt : decide (L9 < bc) = false := decide_eq_false (by omega)
        have hgt' : (L9 < bc) = False := eq_false (by omega)
        cases fo
        · go_wp2_with fail
          go_roundw
          case rel => exact ⟨k + 1, by omega, by rw [HSF.out]; rfl, by go_num, HR3.out⟩
          case measure => simp [intOf]; omega
        · go_wp2_with fail
          go_roundw
          case rel => exact ⟨k + 1, by omega, by rw [HSF.out]; rfl, by go_num, HR3.out⟩
          case measure => simp [intOf]; omega
    · obtain rfl : k = vs.length := by omega
      rw [HF.out] at *
      have c5 := HKR.out.cell 5
      clear hbel
      go_wp2_with fail
      go_ret
      exact ⟨rfl, HB.out.trans (HR.out.mono (by omega))⟩
end Go.Proofs.Ytggjgjcdpnidnaa.fnSongBars
