/- Contracts of SongValid, of the program and of the reference. Condition: at most 2^20 tempos, voices, notes of a voice. -/
import Derived.Test.YtmodpleonhniaaaGreatDoorMtr
import Derived.Test.YtmodpleonhniaaaGreatDoorNte2
import Derived.Test.YtmodpleonhniaaaGreatDoorTemp1
import Derived.Deep.Cut
namespace Go.Proofs.YtmodpleonhniaaaGreatDoor
open Go.RowKit
set_option linter.unusedSimpArgs false
set_option linter.unusedVariables false
set_option maxRecDepth 100000
set_option maxHeartbeats 4000000 in
theorem impl_SongValid (f : Int) (m : Bool) (b u : Int) (C A : Option Addr) (d c : Nat) (ts : List (Int × Int)) (vs : List (List Nt)) (w : World) (hT : RdTempo w w.heap.size C ts) (hV : RdVs w w.heap.size A vs) (hlt : ts.length ≤ 1048576) (hlv : LenV vs) :
    Calls Tryz.prog 14 #[.agg #[.int .i64 f, .bool m, .int .i64 b, .int .i64 u, .slice C ts.length d, .slice A vs.length c]] w (RetB w (svB f b u ts vs)) := by
  cases h1 : inR f (-7) 7
  · have HF : Hid (svB f b u ts vs = false) := Lib.hid (sv_no (.inl h1)); have H1 := Lib.hid h1; clear h1
    have HK := Lib.hid (Blk.new w 28 #[.int .i64 f, .bool m, .int .i64 b, .int .i64 u, .slice C ts.length d, .slice A vs.length c])
    have HT := Lib.hid (RdTempo.more (RdTempo.al hT (Nat.le_refl _) (.cells #[.int .i64 f, .bool m, .int .i64 b, .int .i64 u, .slice C ts.length d, .slice A vs.length c] 28)) (show w.heap.size ≤ (w.alloc (.cells #[.int .i64 f, .bool m, .int .i64 b, .int .i64 u, .slice C ts.length d, .slice A vs.length c] 28)).heap.size by simp))
    have HV := Lib.hid (RdVs.more (RdVs.al hV (Nat.le_refl _) (.cells #[.int .i64 f, .bool m, .int .i64 b, .int .i64 u, .slice C ts.length d, .slice A vs.length c] 28)) (show w.heap.size ≤ (w.alloc (.cells #[.int .i64 f, .bool m, .int .i64 b, .int .i64 u, .slice C ts.length d, .slice A vs.length c] 28)).heap.size by simp))
    have HB := Lib.hid ((Below.refl w.heap.size w).alloc (Nat.le_refl _) (.cells #[.int .i64 f, .bool m, .int .i64 b, .int .i64 u, .slice C ts.length d, .slice A vs.length c] 28))
    have z0 : w.heap.size + 1 ≤ (w.alloc (.cells #[.int .i64 f, .bool m, .int .i64 b, .int .i64 u, .slice C ts.length d, .slice A vs.length c] 28)).heap.size := by simp
    clear hT hV
    go_enter Tryz.func14, Tryz.ntmps14
    go_upto_region 1 with fail
    generalize w.alloc (.cells #[.int .i64 f, .bool m, .int .i64 b, .int .i64 u, .slice C ts.length d, .slice A vs.length c] 28) = w0 at *
    have c0 := HK.out.cell 0; have c1 := HK.out.cell 1; have c2 := HK.out.cell 2; have c3 := HK.out.cell 3; have c4 := HK.out.cell 4; have c5 := HK.out.cell 5
    go_wp2_with fail
    refine (impl_isKey f _).mono ?_; rw [H1.out]; rintro e w' ⟨rfl, rfl⟩
    go_wp2_with fail
    go_ret
    exact ⟨ret_bool HF.out.symm, HB.out⟩
  cases h2 : mvB b u
  · have HF : Hid (svB f b u ts vs = false) := Lib.hid (sv_no (.inr (.inl h2))); have H1 := Lib.hid h1; have H2 := Lib.hid h2; clear h1 h2
    have HK := Lib.hid (Blk.new w 28 #[.int .i64 f, .bool m, .int .i64 b, .int .i64 u, .slice C ts.length d, .slice A vs.length c])
    have HT := Lib.hid (RdTempo.more (RdTempo.al hT (Nat.le_refl _) (.cells #[.int .i64 f, .bool m, .int .i64 b, .int .i64 u, .slice C ts.length d, .slice A vs.length c] 28)) (show w.heap.size ≤ (w.alloc (.cells #[.int .i64 f, .bool m, .int .i64 b, .int .i64 u, .slice C ts.length d, .slice A vs.length c] 28)).heap.size by simp))
    have HV := Lib.hid (RdVs.more (RdVs.al hV (Nat.le_refl _) (.cells #[.int .i64 f, .bool m, .int .i64 b, .int .i64 u, .slice C ts.length d, .slice A vs.length c] 28)) (show w.heap.size ≤ (w.alloc (.cells #[.int .i64 f, .bool m, .int .i64 b, .int .i64 u, .slice C ts.length d, .slice A vs.length c] 28)).heap.size by simp))
    have HB := Lib.hid ((Below.refl w.heap.size w).alloc (Nat.le_refl _) (.cells #[.int .i64 f, .bool m, .int .i64 b, .int .i64 u, .slice C ts.length d, .slice A vs.length c] 28))
    have z0 : w.heap.size + 1 ≤ (w.alloc (.cells #[.int .i64 f, .bool m, .int .i64 b, .int .i64 u, .slice C ts.length d, .slice A vs.length c] 28)).heap.size := by simp
    clear hT hV
    go_enter Tryz.func14, Tryz.ntmps14
    go_upto_region 1 with fail
    generalize w.alloc (.cells #[.int .i64 f, .bool m, .int .i64 b, .int .i64 u, .slice C ts.length d, .slice A vs.length c] 28) = w0 at *
    have c0 := HK.out.cell 0; have c1 := HK.out.cell 1; have c2 := HK.out.cell 2; have c3 := HK.out.cell 3; have c4 := HK.out.cell 4; have c5 := HK.out.cell 5
    go_wp2_with fail
    refine (impl_isKey f _).mono ?_; rw [H1.out]; rintro e w' ⟨rfl, rfl⟩
    go_wp2_with fail
    refine (impl_MeterValid b u _).mono ?_
    rw [H2.out]
    rintro e w1 ⟨rfl, b1⟩
    have z1 := b1.size
    clear c0 c1 c2 c3 c4 c5
    replace HK := Lib.hid (HK.out.below b1 (by omega)); replace HT := Lib.hid (RdTempo.more (RdTempo.below HT.out b1 (by omega)) z1); replace HV := Lib.hid (RdVs.more (RdVs.below HV.out b1 (by omega)) z1); replace HB := Lib.hid (HB.out.trans (b1.mono (by omega)))
    clear b1
    have c0 := HK.out.cell 0; have c1 := HK.out.cell 1; have c2 := HK.out.cell 2; have c3 := HK.out.cell 3; have c4 := HK.out.cell 4; have c5 := HK.out.cell 5
    go_wp2_with fail
    go_ret
    exact ⟨ret_bool HF.out.symm, HB.out⟩
  cases h3 : tvB ts
  · have HF : Hid (svB f b u ts vs = false) := Lib.hid (sv_no (.inr (.inr (.inl h3)))); have H1 := Lib.hid h1; have H2 := Lib.hid h2; have H3 := Lib.hid h3; clear h1 h2 h3
    have HK := Lib.hid (Blk.new w 28 #[.int .i64 f, .bool m, .int .i64 b, .int .i64 u, .slice C ts.length d, .slice A vs.length c])
    have HT := Lib.hid (RdTempo.more (RdTempo.al hT (Nat.le_refl _) (.cells #[.int .i64 f, .bool m, .int .i64 b, .int .i64 u, .slice C ts.length d, .slice A vs.length c] 28)) (show w.heap.size ≤ (w.alloc (.cells #[.int .i64 f, .bool m, .int .i64 b, .int .i64 u, .slice C ts.length d, .slice A vs.length c] 28)).heap.size by simp))
    have HV := Lib.hid (RdVs.more (RdVs.al hV (Nat.le_refl _) (.cells #[.int .i64 f, .bool m, .int .i64 b, .int .i64 u, .slice C ts.length d, .slice A vs.length c] 28)) (show w.heap.size ≤ (w.alloc (.cells #[.int .i64 f, .bool m, .int .i64 b, .int .i64 u, .slice C ts.length d, .slice A vs.length c] 28)).heap.size by simp))
    have HB := Lib.hid ((Below.refl w.heap.size w).alloc (Nat.le_refl _) (.cells #[.int .i64 f, .bool m, .int .i64 b, .int .i64 u, .slice C ts.length d, .slice A vs.length c] 28))
    have z0 : w.heap.size + 1 ≤ (w.alloc (.cells #[.int .i64 f, .bool m, .int .i64 b, .int .i64 u, .slice C ts.length d, .slice A vs.length c] 28)).heap.size := by simp
    clear hT hV
    go_enter Tryz.func14, Tryz.ntmps14
    go_upto_region 1 with fail
    generalize w.alloc (.cells #[.int .i64 f, .bool m, .int .i64 b, .int .i64 u, .slice C ts.length d, .slice A vs.length c] 28) = w0 at *
    have c0 := HK.out.cell 0; have c1 := HK.out.cell 1; have c2 := HK.out.cell 2; have c3 := HK.out.cell 3; have c4 := HK.out.cell 4; have c5 := HK.out.cell 5
    go_wp2_with fail
    refine (impl_isKey f _).mono ?_; rw [H1.out]; rintro e w' ⟨rfl, rfl⟩
    go_wp2_with fail
    refine (impl_MeterValid b u _).mono ?_
    rw [H2.out]
    rintro e w1 ⟨rfl, b1⟩
    have z1 := b1.size
    clear c0 c1 c2 c3 c4 c5
    replace HK := Lib.hid (HK.out.below b1 (by omega)); replace HT := Lib.hid (RdTempo.more (RdTempo.below HT.out b1 (by omega)) z1); replace HV := Lib.hid (RdVs.more (RdVs.below HV.out b1 (by omega)) z1); replace HB := Lib.hid (HB.out.trans (b1.mono (by omega)))
    clear b1
    have c0 := HK.out.cell 0; have c1 := HK.out.cell 1; have c2 := HK.out.cell 2; have c3 := HK.out.cell 3; have c4 := HK.out.cell 4; have c5 := HK.out.cell 5
    go_wp2_with fail
    refine (impl_TemposValid _ _ _ _ HT.out hlt).mono ?_
    rw [H3.out]
    rintro e w2 ⟨rfl, b2⟩
    have z2 := b2.size
    clear c0 c1 c2 c3 c4 c5
    replace HK := Lib.hid (HK.out.below b2 (by omega)); replace HT := Lib.hid (RdTempo.more (RdTempo.below HT.out b2 (by omega)) z2); replace HV := Lib.hid (RdVs.more (RdVs.below HV.out b2 (by omega)) z2); replace HB := Lib.hid (HB.out.trans (b2.mono (by omega)))
    clear b2
    have c0 := HK.out.cell 0; have c1 := HK.out.cell 1; have c2 := HK.out.cell 2; have c3 := HK.out.cell 3; have c4 := HK.out.cell 4; have c5 := HK.out.cell 5
    go_wp2_with fail
    go_ret
    exact ⟨ret_bool HF.out.symm, HB.out⟩
  by_cases h4 : vs.length ≤ 4
  case neg =>
    have HF : Hid (svB f b u ts vs = false) := Lib.hid (sv_no (.inr (.inr (.inr h4)))); have H1 := Lib.hid h1; have H2 := Lib.hid h2; have H3 := Lib.hid h3; clear h1 h2 h3
    have h5 : (4 : Int) < (vs.length : Int) := by omega
    have HK := Lib.hid (Blk.new w 28 #[.int .i64 f, .bool m, .int .i64 b, .int .i64 u, .slice C ts.length d, .slice A vs.length c])
    have HT := Lib.hid (RdTempo.more (RdTempo.al hT (Nat.le_refl _) (.cells #[.int .i64 f, .bool m, .int .i64 b, .int .i64 u, .slice C ts.length d, .slice A vs.length c] 28)) (show w.heap.size ≤ (w.alloc (.cells #[.int .i64 f, .bool m, .int .i64 b, .int .i64 u, .slice C ts.length d, .slice A vs.length c] 28)).heap.size by simp))
    have HV := Lib.hid (RdVs.more (RdVs.al hV (Nat.le_refl _) (.cells #[.int .i64 f, .bool m, .int .i64 b, .int .i64 u, .slice C ts.length d, .slice A vs.length c] 28)) (show w.heap.size ≤ (w.alloc (.cells #[.int .i64 f, .bool m, .int .i64 b, .int .i64 u, .slice C ts.length d, .slice A vs.length c] 28)).heap.size by simp))
    have HB := Lib.hid ((Below.refl w.heap.size w).alloc (Nat.le_refl _) (.cells #[.int .i64 f, .bool m, .int .i64 b, .int .i64 u, .slice C ts.length d, .slice A vs.length c] 28))
    have z0 : w.heap.size + 1 ≤ (w.alloc (.cells #[.int .i64 f, .bool m, .int .i64 b, .int .i64 u, .slice C ts.length d, .slice A vs.length c] 28)).heap.size := by simp
    clear hT hV
    go_enter Tryz.func14, Tryz.ntmps14
    go_upto_region 1 with fail
    generalize w.alloc (.cells #[.int .i64 f, .bool m, .int .i64 b, .int .i64 u, .slice C ts.length d, .slice A vs.length c] 28) = w0 at *
    have c0 := HK.out.cell 0; have c1 := HK.out.cell 1; have c2 := HK.out.cell 2; have c3 := HK.out.cell 3; have c4 := HK.out.cell 4; have c5 := HK.out.cell 5
    go_wp2_with fail
    refine (impl_isKey f _).mono ?_; rw [H1.out]; rintro e w' ⟨rfl, rfl⟩
    go_wp2_with fail
    refine (impl_MeterValid b u _).mono ?_
    rw [H2.out]
    rintro e w1 ⟨rfl, b1⟩
    have z1 := b1.size
    clear c0 c1 c2 c3 c4 c5
    replace HK := Lib.hid (HK.out.below b1 (by omega)); replace HT := Lib.hid (RdTempo.more (RdTempo.below HT.out b1 (by omega)) z1); replace HV := Lib.hid (RdVs.more (RdVs.below HV.out b1 (by omega)) z1); replace HB := Lib.hid (HB.out.trans (b1.mono (by omega)))
    clear b1
    have c0 := HK.out.cell 0; have c1 := HK.out.cell 1; have c2 := HK.out.cell 2; have c3 := HK.out.cell 3; have c4 := HK.out.cell 4; have c5 := HK.out.cell 5
    go_wp2_with fail
    refine (impl_TemposValid _ _ _ _ HT.out hlt).mono ?_
    rw [H3.out]
    rintro e w2 ⟨rfl, b2⟩
    have z2 := b2.size
    clear c0 c1 c2 c3 c4 c5
    replace HK := Lib.hid (HK.out.below b2 (by omega)); replace HT := Lib.hid (RdTempo.more (RdTempo.below HT.out b2 (by omega)) z2); replace HV := Lib.hid (RdVs.more (RdVs.below HV.out b2 (by omega)) z2); replace HB := Lib.hid (HB.out.trans (b2.mono (by omega)))
    clear b2
    have c0 := HK.out.cell 0; have c1 := HK.out.cell 1; have c2 := HK.out.cell 2; have c3 := HK.out.cell 3; have c4 := HK.out.cell 4; have c5 := HK.out.cell 5
    go_wp2_with fail
    go_ret
    exact ⟨ret_bool HF.out.symm, HB.out⟩
  have H1 := Lib.hid h1; have H2 := Lib.hid h2; have H3 := Lib.hid h3; clear h1 h2 h3
  have h5 : ¬ (4 : Int) < (vs.length : Int) := by omega
  have HS : Hid ((∀ k, k < vs.length → vvB (glV vs k) = true) → svB f b u ts vs = true) := Lib.hid (fun h => svB_iff.2 ⟨H1.out, H2.out, H3.out, h4, h⟩)
  have HK := Lib.hid (Blk.new w 28 #[.int .i64 f, .bool m, .int .i64 b, .int .i64 u, .slice C ts.length d, .slice A vs.length c])
  have HT := Lib.hid (RdTempo.more (RdTempo.al hT (Nat.le_refl _) (.cells #[.int .i64 f, .bool m, .int .i64 b, .int .i64 u, .slice C ts.length d, .slice A vs.length c] 28)) (show w.heap.size ≤ (w.alloc (.cells #[.int .i64 f, .bool m, .int .i64 b, .int .i64 u, .slice C ts.length d, .slice A vs.length c] 28)).heap.size by simp))
  have HV := Lib.hid (RdVs.more (RdVs.al hV (Nat.le_refl _) (.cells #[.int .i64 f, .bool m, .int .i64 b, .int .i64 u, .slice C ts.length d, .slice A vs.length c] 28)) (show w.heap.size ≤ (w.alloc (.cells #[.int .i64 f, .bool m, .int .i64 b, .int .i64 u, .slice C ts.length d, .slice A vs.length c] 28)).heap.size by simp))
  have HB := Lib.hid ((Below.refl w.heap.size w).alloc (Nat.le_refl _) (.cells #[.int .i64 f, .bool m, .int .i64 b, .int .i64 u, .slice C ts.length d, .slice A vs.length c] 28))
  have z0 : w.heap.size + 1 ≤ (w.alloc (.cells #[.int .i64 f, .bool m, .int .i64 b, .int .i64 u, .slice C ts.length d, .slice A vs.length c] 28)).heap.size := by simp
  clear hT hV
  go_enter Tryz.func14, Tryz.ntmps14
  go_upto_region 1 with fail
  generalize w.alloc (.cells #[.int .i64 f, .bool m, .int .i64 b, .int .i64 u, .slice C ts.length d, .slice A vs.length c] 28) = w0 at *
  have c0 := HK.out.cell 0; have c1 := HK.out.cell 1; have c2 := HK.out.cell 2; have c3 := HK.out.cell 3; have c4 := HK.out.cell 4; have c5 := HK.out.cell 5
  go_wp2_with fail
  refine (impl_isKey f _).mono ?_; rw [H1.out]; rintro e w' ⟨rfl, rfl⟩
  go_wp2_with fail
  refine (impl_MeterValid b u _).mono ?_
  rw [H2.out]
  rintro e w1 ⟨rfl, b1⟩
  have z1 := b1.size
  clear c0 c1 c2 c3 c4 c5
  replace HK := Lib.hid (HK.out.below b1 (by omega)); replace HT := Lib.hid (RdTempo.more (RdTempo.below HT.out b1 (by omega)) z1); replace HV := Lib.hid (RdVs.more (RdVs.below HV.out b1 (by omega)) z1); replace HB := Lib.hid (HB.out.trans (b1.mono (by omega)))
  clear b1
  have c0 := HK.out.cell 0; have c1 := HK.out.cell 1; have c2 := HK.out.cell 2; have c3 := HK.out.cell 3; have c4 := HK.out.cell 4; have c5 := HK.out.cell 5
  go_wp2_with fail
  refine (impl_TemposValid _ _ _ _ HT.out hlt).mono ?_
  rw [H3.out]
  rintro e w2 ⟨rfl, b2⟩
  have z2 := b2.size
  clear c0 c1 c2 c3 c4 c5
  replace HK := Lib.hid (HK.out.below b2 (by omega)); replace HT := Lib.hid (RdTempo.more (RdTempo.below HT.out b2 (by omega)) z2); replace HV := Lib.hid (RdVs.more (RdVs.below HV.out b2 (by omega)) z2); replace HB := Lib.hid (HB.out.trans (b2.mono (by omega)))
  clear b2
  have c0 := HK.out.cell 0; have c1 := HK.out.cell 1; have c2 := HK.out.cell 2; have c3 := HK.out.cell 3; have c4 := HK.out.cell 4; have c5 := HK.out.cell 5
  go_wp2_with fail
  clear h5
  have zz := HB.out.size
  generalize w2 = ws at *
  go_loopw [4, 30] (fun _ i wr => ∃ k : Nat, k ≤ vs.length ∧ i = .int .i64 k ∧ (∀ j, j < k → vvB (glV vs j) = true) ∧ Below ws.heap.size ws wr) (fun _ i _ => vs.length - (intOf i).toNat)
  case atStart => exact ⟨0, Nat.zero_le _, rfl, fun j h => by omega, Below.refl _ _⟩
  case round =>
    obtain ⟨k, hk, rfl, hall, hbel⟩ := hrel
    have hsz := hbel.size
    have HA := Lib.hid hall; have HR := Lib.hid hbel; clear hall
    by_cases hlt2 : k < vs.length
    · obtain ⟨b8, off, C8, d8, rfl, hb8, hc8, hn8⟩ := (HV.out.below hbel (Nat.le_refl _)).at_ hlt2
      have HN := Lib.hid (RdNote.more hn8 hsz); clear hn8 hbel
      have hi1 : (k : Int) < (vs.length : Int) := by omega
      have hl8 := hlv.at_ hlt2
      cases hv : vvB (glV vs k)
      · have HF : Hid (svB f b u ts vs = false) := Lib.hid (sv_bad hlt2 hv); have HV8 := Lib.hid hv; clear hv
        go_wp2_with fail
        refine (impl_VoiceValid _ _ _ _ HN.out hl8).mono ?_
        rw [HV8.out]
        rintro e w9 ⟨rfl, b9⟩
        have HB9 := Lib.hid (HB.out.trans (HR.out.trans (b9.mono hsz) |>.mono zz)); clear b9
        go_wp2_with fail
        go_ret
        exact ⟨ret_bool HF.out.symm, HB9.out⟩
      · have HV8 := Lib.hid hv
        have HA2 : Hid (∀ j, j < k + 1 → vvB (glV vs j) = true) := Lib.hid (fun j hj => by
          rcases Nat.lt_or_ge j k with h | h
          · exact HA.out j h
          · obtain rfl : j = k := by omega
            exact hv)
        clear hv
        go_wp2_with fail
        refine (impl_VoiceValid _ _ _ _ HN.out hl8).mono ?_
        rw [HV8.out]
        rintro e w9 ⟨rfl, b9⟩
        have HB9 := Lib.hid (HR.out.trans (b9.mono hsz)); clear b9
        go_wp2_with fail
        go_roundw
        case rel => exact ⟨k + 1, by omega, by go_num, HA2.out, HB9.out⟩
        case measure => simp [intOf]; omega
    · obtain rfl : k = vs.length := by omega
      have HF := Lib.hid (HS.out HA.out)
      clear hbel
      go_wp2_with fail
      go_ret
      exact ⟨ret_bool HF.out.symm, HB.out.trans (HR.out.mono zz)⟩
set_option maxHeartbeats 4000000 in
theorem spec_SongValid (f : Int) (m : Bool) (b u : Int) (C A : Option Addr) (d c : Nat) (ts : List (Int × Int)) (vs : List (List Nt)) (w : World) (hT : RdTempo w w.heap.size C ts) (hV : RdVs w w.heap.size A vs) (hlt : ts.length ≤ 1048576) (hlv : LenV vs) :
    Calls Tryz.prog 7 #[.agg #[.int .i64 f, .bool m, .int .i64 b, .int .i64 u, .slice C ts.length d, .slice A vs.length c]] w (RetB w (svB f b u ts vs)) := by
  have hlv1 : vs.length ≤ 1048576 := hlv.1
  have HK := Lib.hid (Blk.new w 28 #[.int .i64 f, .bool m, .int .i64 b, .int .i64 u, .slice C ts.length d, .slice A vs.length c])
  have HT := Lib.hid (RdTempo.more (RdTempo.al hT (Nat.le_refl _) (.cells #[.int .i64 f, .bool m, .int .i64 b, .int .i64 u, .slice C ts.length d, .slice A vs.length c] 28)) (show w.heap.size ≤ (w.alloc (.cells #[.int .i64 f, .bool m, .int .i64 b, .int .i64 u, .slice C ts.length d, .slice A vs.length c] 28)).heap.size by simp))
  have HV := Lib.hid (RdVs.more (RdVs.al hV (Nat.le_refl _) (.cells #[.int .i64 f, .bool m, .int .i64 b, .int .i64 u, .slice C ts.length d, .slice A vs.length c] 28)) (show w.heap.size ≤ (w.alloc (.cells #[.int .i64 f, .bool m, .int .i64 b, .int .i64 u, .slice C ts.length d, .slice A vs.length c] 28)).heap.size by simp))
  have HB := Lib.hid ((Below.refl w.heap.size w).alloc (Nat.le_refl _) (.cells #[.int .i64 f, .bool m, .int .i64 b, .int .i64 u, .slice C ts.length d, .slice A vs.length c] 28))
  have z0 : w.heap.size + 1 ≤ (w.alloc (.cells #[.int .i64 f, .bool m, .int .i64 b, .int .i64 u, .slice C ts.length d, .slice A vs.length c] 28)).heap.size := by simp
  clear hT hV
  go_enter Tryz.func7, Tryz.ntmps7
  go_upto_region 1 with fail
  generalize w.alloc (.cells #[.int .i64 f, .bool m, .int .i64 b, .int .i64 u, .slice C ts.length d, .slice A vs.length c] 28) = w0 at *
  have c0 := HK.out.cell 0; have c1 := HK.out.cell 1; have c2 := HK.out.cell 2; have c3 := HK.out.cell 3; have c4 := HK.out.cell 4; have c5 := HK.out.cell 5
  have zz := HB.out.size
  go_wp2_with fail
  go_loopw [3] (fun i wr => ∃ k : Nat, k ≤ vs.length ∧ i = .int .i64 k ∧ (∀ j, j < k → vvB (glV vs j) = true) ∧ Below w0.heap.size w0 wr) (fun i _ => vs.length - (intOf i).toNat)
  case atStart => exact ⟨0, Nat.zero_le _, rfl, fun j h => by omega, Below.refl _ _⟩
  case round =>
    obtain ⟨k, hk, rfl, hall, hbel⟩ := hrel
    have hsz := hbel.size
    have HA := Lib.hid hall; have HR := Lib.hid hbel; clear hall c0 c1 c2 c3 c4 c5
    have HKR := Lib.hid (HK.out.below hbel (by omega))
    have c5 := HKR.out.cell 5
    by_cases hlt2 : k < vs.length
    · obtain ⟨b8, off, C8, d8, rfl, hb8, hc8, hn8⟩ := (HV.out.below hbel (Nat.le_refl _)).at_ hlt2
      have HN := Lib.hid (RdNote.more hn8 hsz); clear hn8 hbel
      have hi1 : (k : Int) < (vs.length : Int) := by omega
      have hl8 := hlv.at_ hlt2
      cases hv : vvB (glV vs k)
      · have HF : Hid (svB f b u ts vs = false) := Lib.hid (sv_bad hlt2 hv); have HV8 := Lib.hid hv; clear hv
        go_wp2_with fail
        refine (spec_VoiceValid _ _ _ _ HN.out hl8).mono ?_
        rw [HV8.out]
        rintro e w9 ⟨rfl, b9⟩
        have HB9 := Lib.hid (HB.out.trans (HR.out.trans (b9.mono hsz) |>.mono zz)); clear b9
        go_wp2_with fail
        go_ret
        exact ⟨ret_bool HF.out.symm, HB9.out⟩
      · have HV8 := Lib.hid hv
        have HA2 : Hid (∀ j, j < k + 1 → vvB (glV vs j) = true) := Lib.hid (fun j hj => by
          rcases Nat.lt_or_ge j k with h | h
          · exact HA.out j h
          · obtain rfl : j = k := by omega
            exact hv)
        clear hv
        go_wp2_with fail
        refine (spec_VoiceValid _ _ _ _ HN.out hl8).mono ?_
        rw [HV8.out]
        rintro e w9 ⟨rfl, b9⟩
        have HB9 := Lib.hid (HR.out.trans (b9.mono hsz)); clear b9
        go_wp2_with fail
        go_roundw
        case rel => exact ⟨k + 1, by omega, by go_num, HA2.out, HB9.out⟩
        case measure => simp [intOf]; omega
    · obtain rfl : k = vs.length := by omega
      clear hbel hk
      replace HB := Lib.hid (HB.out.trans (HR.out.mono zz)); replace HT := Lib.hid (RdTempo.more (RdTempo.below HT.out HR.out (Nat.le_refl _)) hsz)
      replace HK := HKR; clear HKR c5
      have c0 := HK.out.cell 0; have c2 := HK.out.cell 2; have c3 := HK.out.cell 3; have c4 := HK.out.cell 4; have c5 := HK.out.cell 5
      have hi9 : ¬ (vs.length : Int) < (vs.length : Int) := by omega
      cases h1 : inR f (-7) 7
      · have HF : Hid (svB f b u ts vs = false) := Lib.hid (sv_no (.inl h1)); have H1 := Lib.hid h1; clear h1
        go_wp2_with (go_at_call 20; refine (spec_l1In _ _ _ _).mono ?_; rw [H1.out]; rintro e w' ⟨rfl, rfl⟩)
        go_ret
        exact ⟨ret_bool HF.out.symm, HB.out⟩
      cases h2 : mvB b u
      · have HF : Hid (svB f b u ts vs = false) := Lib.hid (sv_no (.inr (.inl h2))); have H1 := Lib.hid h1; have H2 := Lib.hid h2; clear h1 h2
        go_wp2_with (go_at_call 20; refine (spec_l1In _ _ _ _).mono ?_; rw [H1.out]; rintro e w' ⟨rfl, rfl⟩)
        refine (spec_MeterValid b u _).mono ?_
        rw [H2.out]
        rintro e w20 ⟨rfl, b20⟩
        have z20 := b20.size
        clear c0 c2 c3 c4 c5
        replace HK := Lib.hid (HK.out.below b20 (by omega)); replace HT := Lib.hid (RdTempo.more (RdTempo.below HT.out b20 (by omega)) z20); replace HB := Lib.hid (HB.out.trans (b20.mono (by omega)))
        clear b20
        have c4 := HK.out.cell 4; have c5 := HK.out.cell 5
        go_wp2_with fail
        go_ret
        exact ⟨ret_bool HF.out.symm, HB.out⟩
      cases h3 : tvB ts
      · have HF : Hid (svB f b u ts vs = false) := Lib.hid (sv_no (.inr (.inr (.inl h3)))); have H1 := Lib.hid h1; have H2 := Lib.hid h2; have H3 := Lib.hid h3; clear h1 h2 h3
        go_wp2_with (go_at_call 20; refine (spec_l1In _ _ _ _).mono ?_; rw [H1.out]; rintro e w' ⟨rfl, rfl⟩)
        refine (spec_MeterValid b u _).mono ?_
        rw [H2.out]
        rintro e w20 ⟨rfl, b20⟩
        have z20 := b20.size
        clear c0 c2 c3 c4 c5
        replace HK := Lib.hid (HK.out.below b20 (by omega)); replace HT := Lib.hid (RdTempo.more (RdTempo.below HT.out b20 (by omega)) z20); replace HB := Lib.hid (HB.out.trans (b20.mono (by omega)))
        clear b20
        have c4 := HK.out.cell 4; have c5 := HK.out.cell 5
        go_wp2_with fail
        refine (spec_TemposValid _ _ _ _ HT.out hlt).mono ?_
        rw [H3.out]
        rintro e w21 ⟨rfl, b21⟩
        have z21 := b21.size
        clear c4 c5
        replace HK := Lib.hid (HK.out.below b21 (by omega)); replace HB := Lib.hid (HB.out.trans (b21.mono (by omega)))
        clear b21
        have c5 := HK.out.cell 5
        go_wp2_with fail
        go_ret
        exact ⟨ret_bool HF.out.symm, HB.out⟩
      have h4 : decide ((vs.length : Int) ≤ 4) = svB f b u ts vs := by
        by_cases h : vs.length ≤ 4
        · rw [svB_iff.2 ⟨h1, h2, h3, h, HA.out⟩]; exact decide_eq_true (by omega)
        · rw [sv_no (.inr (.inr (.inr h)))]; exact decide_eq_false (by omega)
      have HF : Hid (svB f b u ts vs = decide ((vs.length : Int) ≤ 4)) := Lib.hid h4.symm
      have H1 := Lib.hid h1; have H2 := Lib.hid h2; have H3 := Lib.hid h3; clear h1 h2 h3 h4
      go_wp2_with (go_at_call 20; refine (spec_l1In _ _ _ _).mono ?_; rw [H1.out]; rintro e w' ⟨rfl, rfl⟩)
      refine (spec_MeterValid b u _).mono ?_
      rw [H2.out]
      rintro e w20 ⟨rfl, b20⟩
      have z20 := b20.size
      clear c0 c2 c3 c4 c5
      replace HK := Lib.hid (HK.out.below b20 (by omega)); replace HT := Lib.hid (RdTempo.more (RdTempo.below HT.out b20 (by omega)) z20); replace HB := Lib.hid (HB.out.trans (b20.mono (by omega)))
      clear b20
      have c4 := HK.out.cell 4; have c5 := HK.out.cell 5
      go_wp2_with fail
      refine (spec_TemposValid _ _ _ _ HT.out hlt).mono ?_
      rw [H3.out]
      rintro e w21 ⟨rfl, b21⟩
      have z21 := b21.size
      clear c4 c5
      replace HK := Lib.hid (HK.out.below b21 (by omega)); replace HB := Lib.hid (HB.out.trans (b21.mono (by omega)))
      clear b21
      have c5 := HK.out.cell 5
      go_wp2_with fail
      go_ret
      exact ⟨ret_bool HF.out.symm, HB.out⟩
end Go.Proofs.YtmodpleonhniaaaGreatDoor
