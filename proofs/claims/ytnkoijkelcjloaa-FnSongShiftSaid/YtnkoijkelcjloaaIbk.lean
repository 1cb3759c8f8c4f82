/- Contract of IntervalBack, of the program, at a valid interval; and of sameSong at equal songs. -/
import Derived.Test.YtnkoijkelcjloaaIvl2
import Derived.Test.YtnkoijkelcjloaaMrg1
import Derived.Test.YtnkoijkelcjloaaVlw
import Derived.Deep.RegionHeld3
namespace Go.Proofs.Ytnkoijkelcjloaa
open Go.RowKit
set_option linter.unusedSimpArgs false
set_option linter.unusedVariables false
set_option maxRecDepth 100000
theorem impl_IntervalBack (s h : Int) (w : World) (hv : ivB s h = true) : Calls Try.prog 9 #[.agg #[.int .i64 s, .int .i64 h]] w fun e w' => e = .returned (.agg #[.int .i64 (-s), .int .i64 (-h)]) ∧ Below w.heap.size w w' := by
  have hb := ivB_iff.1 hv
  have hw1 : IntKind.i64.wrap (-s) = -s := IntWalk.i64_in _ (by omega)
  have hw2 : IntKind.i64.wrap (-h) = -h := IntWalk.i64_in _ (by omega)
  have HV := Lib.hid hv; clear hv
  have HI := Lib.hid ((Blk.new w 30 #[.int .i64 s, .int .i64 h]).alloc (.cells #[.int .i64 0, .int .i64 0] 30))
  have HZ : Hid (Blk ((w.alloc (.cells #[.int .i64 s, .int .i64 h] 30)).alloc (.cells #[.int .i64 0, .int .i64 0] 30)) (w.heap.size + 1) 30 #[.int .i64 0, .int .i64 0]) := by
    have h9 := Blk.new (w.alloc (.cells #[.int .i64 s, .int .i64 h] 30)) 30 #[.int .i64 0, .int .i64 0]
    rw [World.size_alloc] at h9
    exact Lib.hid h9
  have HB := Lib.hid (((Below.refl w.heap.size w).alloc (Nat.le_refl _) (.cells #[.int .i64 s, .int .i64 h] 30)).alloc (by simp) (.cells #[.int .i64 0, .int .i64 0] 30))
  have z0 : w.heap.size + 2 ≤ ((w.alloc (.cells #[.int .i64 s, .int .i64 h] 30)).alloc (.cells #[.int .i64 0, .int .i64 0] 30)).heap.size := by simp
  go_enter Try.func9, Try.ntmps9
  go_upto_region 1 with fail
  generalize (w.alloc (.cells #[.int .i64 s, .int .i64 h] 30)).alloc (.cells #[.int .i64 0, .int .i64 0] 30) = w0 at *
  have i0 := HI.out.cell 0; have i1 := HI.out.cell 1
  go_wp2_with fail
  refine (impl_IntervalValid s h _).mono ?_
  rw [HV.out]
  rintro e w1 ⟨rfl, b1⟩
  have z1 := b1.size
  clear i0 i1
  replace HI := Lib.hid (HI.out.below b1 (by omega)); replace HZ := Lib.hid (HZ.out.below b1 (by omega)); replace HB := Lib.hid (HB.out.trans (b1.mono (by omega))); clear b1
  have i0 := HI.out.cell 0; have i1 := HI.out.cell 1
  have d0 := HZ.out.cell 0; have d1 := HZ.out.cell 1; have f0 := HZ.out.frozen 0; have f1 := HZ.out.frozen 1
  go_wp2_with fail
  have HB3 := Lib.hid ((HB.out.setCell (p := ⟨w.heap.size + 1, 0, none⟩) (by simp) (.int .i64 (-s))).setCell (p := ⟨w.heap.size + 1, 1, none⟩) (by simp) (.int .i64 (-h)))
  have HZ3 := Lib.hid ((HZ.out.set_ 0 (.int .i64 (-s))).set_ 1 (.int .i64 (-h)))
  generalize ((w1.setCell ⟨w.heap.size + 1, 0, none⟩ (.int .i64 (-s))).setCell ⟨w.heap.size + 1, 1, none⟩ (.int .i64 (-h))) = W at *
  have r0 : W.cell? ⟨w.heap.size + 1, 0, none⟩ = some (.int .i64 (-s)) := HZ3.out.cell 0
  have r1 : W.cell? ⟨w.heap.size + 1, 1, none⟩ = some (.int .i64 (-h)) := HZ3.out.cell 1
  refine bodyPost_ret (v := .agg #[.int .i64 (-s), .int .i64 (-h)]) (by simp [results, Try.results9, go_sem, r0, r1]) rfl ⟨rfl, HB3.out⟩
set_option maxHeartbeats 4000000 in
theorem laws_sameSong (f : Int) (m : Bool) (b u : Int) (C A C2 A2 : Option Addr) (d c d2 c2 : Nat) (ts : List (Int × Int)) (vs : List (List Nt)) (w : World) (hT : RdTempo w w.heap.size C ts) (hV : RdVs w w.heap.size A vs) (hT2 : RdTempo w w.heap.size C2 ts) (hV2 : RdVs w w.heap.size A2 vs) (hlt : ts.length ≤ 1048576) (hlv : LenV vs) :
    Calls Try.prog 7 #[.agg #[.int .i64 f, .bool m, .int .i64 b, .int .i64 u, .slice C ts.length d, .slice A vs.length c], .agg #[.int .i64 f, .bool m, .int .i64 b, .int .i64 u, .slice C2 ts.length d2, .slice A2 vs.length c2]] w (RetB w true) := by
  have hlv1 : vs.length ≤ 1048576 := hlv.1
  have HT := Lib.hid hT; have HV := Lib.hid hV; have HT2 := Lib.hid hT2; have HV2 := Lib.hid hV2; clear hT hV hT2 hV2
  have HK := Lib.hid ((Blk.new w 28 #[.int .i64 f, .bool m, .int .i64 b, .int .i64 u, .slice C ts.length d, .slice A vs.length c]).alloc (.cells #[.int .i64 f, .bool m, .int .i64 b, .int .i64 u, .slice C2 ts.length d2, .slice A2 vs.length c2] 28))
  have HL : Hid (Blk ((w.alloc (.cells #[.int .i64 f, .bool m, .int .i64 b, .int .i64 u, .slice C ts.length d, .slice A vs.length c] 28)).alloc (.cells #[.int .i64 f, .bool m, .int .i64 b, .int .i64 u, .slice C2 ts.length d2, .slice A2 vs.length c2] 28)) (w.heap.size + 1) 28 #[.int .i64 f, .bool m, .int .i64 b, .int .i64 u, .slice C2 ts.length d2, .slice A2 vs.length c2]) := by
    have h9 := Blk.new (w.alloc (.cells #[.int .i64 f, .bool m, .int .i64 b, .int .i64 u, .slice C ts.length d, .slice A vs.length c] 28)) 28 #[.int .i64 f, .bool m, .int .i64 b, .int .i64 u, .slice C2 ts.length d2, .slice A2 vs.length c2]
    rw [World.size_alloc] at h9
    exact Lib.hid h9
  have HB := Lib.hid (((Below.refl w.heap.size w).alloc (Nat.le_refl _) (.cells #[.int .i64 f, .bool m, .int .i64 b, .int .i64 u, .slice C ts.length d, .slice A vs.length c] 28)).alloc (by simp) (.cells #[.int .i64 f, .bool m, .int .i64 b, .int .i64 u, .slice C2 ts.length d2, .slice A2 vs.length c2] 28))
  have z0 : w.heap.size + 2 ≤ ((w.alloc (.cells #[.int .i64 f, .bool m, .int .i64 b, .int .i64 u, .slice C ts.length d, .slice A vs.length c] 28)).alloc (.cells #[.int .i64 f, .bool m, .int .i64 b, .int .i64 u, .slice C2 ts.length d2, .slice A2 vs.length c2] 28)).heap.size := by simp
  go_enter Try.func7, Try.ntmps7
  go_upto_region 1 with fail
  generalize (w.alloc (.cells #[.int .i64 f, .bool m, .int .i64 b, .int .i64 u, .slice C ts.length d, .slice A vs.length c] 28)).alloc (.cells #[.int .i64 f, .bool m, .int .i64 b, .int .i64 u, .slice C2 ts.length d2, .slice A2 vs.length c2] 28) = w0 at *
  have c0 := HK.out.cell 0; have c1 := HK.out.cell 1; have c2_ := HK.out.cell 2; have c3 := HK.out.cell 3; have c4 := HK.out.cell 4; have c5 := HK.out.cell 5
  have g0 := HL.out.cell 0; have g1 := HL.out.cell 1; have g2 := HL.out.cell 2; have g3 := HL.out.cell 3; have g4 := HL.out.cell 4; have g5 := HL.out.cell 5
  have e0 : (f != f) = false := by simp
  have e1 : (m != m) = false := by simp
  have e2 : (b != b) = false := by simp
  have e3 : (u != u) = false := by simp
  go_wp2_with fail
  clear c0 c1 c2_ c3 c4 c5 g0 g1 g2 g3 g4 g5
  go_loopw [5] (fun i wr => ∃ k : Nat, k ≤ ts.length ∧ i = .int .i64 k ∧ Below w0.heap.size w0 wr) (fun i _ => ts.length - (intOf i).toNat)
  case atStart => exact ⟨0, Nat.zero_le _, rfl, Below.refl _ _⟩
  case round =>
    obtain ⟨k, hk, rfl, hbel⟩ := hrel
    have hz := hbel.size
    have HKR := Lib.hid (HK.out.below hbel (by omega)); have HLR := Lib.hid (HL.out.below hbel (by omega)); have HBR := Lib.hid (HB.out.trans (hbel.mono (by omega))); have HR := Lib.hid hbel
    clear hbel
    have c4 := HKR.out.cell 4; have g4 := HLR.out.cell 4
    by_cases hlt2 : k < ts.length
    · obtain ⟨b8, o8, rfl, hb8, x0, x1⟩ := (RdTempo.below HT.out HBR.out (Nat.le_refl _)).at_ hlt2
      obtain ⟨b9, o9, rfl, hb9, y0, y1⟩ := (RdTempo.below HT2.out HBR.out (Nat.le_refl _)).at_ hlt2
      have hi1 : (k : Int) < (ts.length : Int) := by omega
      generalize (glTempo ts k).1 = p1 at *
      generalize (glTempo ts k).2 = p2 at *
      have e4 : (p1 != p1) = false := by simp
      have e5 : (p2 != p2) = false := by simp
      go_upto_region 6 with fail
      go_region_held3 (fun w' => w'.cell? ⟨w.heap.size, 4, none⟩ = some (.slice (some ⟨b8, o8, none⟩) ts.length d) ∧ w'.cell? ⟨w.heap.size + 1, 4, none⟩ = some (.slice (some ⟨b9, o9, none⟩) ts.length d2) ∧ w'.cell? ⟨b8, o8 + k * 2, none⟩ = some (.int .i64 p1) ∧ w'.cell? ⟨b8, o8 + k * 2 + 1, none⟩ = some (.int .i64 p2) ∧ w'.cell? ⟨b9, o9 + k * 2, none⟩ = some (.int .i64 p1) ∧ w'.cell? ⟨b9, o9 + k * 2 + 1, none⟩ = some (.int .i64 p2)) (exact ⟨c4, g4, x0, x1, y0, y1⟩) (fail)
      all_goals
        go_wp2_with fail
        go_roundw
        case rel => exact ⟨k + 1, by omega, by go_num, HR.out.drew⟩
        case measure => simp [intOf]; omega
    · obtain rfl : k = ts.length := by omega
      clear c4 g4
      have hi1 : ¬ (ts.length : Int) < (ts.length : Int) := by omega
      have c4 := HKR.out.cell 4; have g4 := HLR.out.cell 4
      clear HK HL
      have HK := HKR; have HL := HLR; have HB2 := HBR
      clear HKR HLR HBR HR HB
      go_wp2_with fail
      clear c4 g4
      generalize wr = ws at *
      go_loopw [6] (fun i wr => ∃ k : Nat, k ≤ vs.length ∧ i = .int .i64 k ∧ Below ws.heap.size ws wr) (fun i _ => vs.length - (intOf i).toNat)
      case atStart => exact ⟨0, Nat.zero_le _, rfl, Below.refl _ _⟩
      case round =>
        obtain ⟨k, hk, rfl, hbel⟩ := hrel
        have hz2 := hbel.size
        have HKR := Lib.hid (HK.out.below hbel (by omega)); have HLR := Lib.hid (HL.out.below hbel (by omega)); have HBR := Lib.hid (HB2.out.trans (hbel.mono (by omega))); have HR := Lib.hid hbel
        clear hbel
        have c5 := HKR.out.cell 5; have g5 := HLR.out.cell 5
        by_cases hlt2 : k < vs.length
        · obtain ⟨b8, o8, C8, d8, rfl, hb8, hc8, hn8⟩ := (RdVs.below HV.out HBR.out (Nat.le_refl _)).at_ hlt2
          obtain ⟨b9, o9, C9, d9, rfl, hb9, hc9, hn9⟩ := (RdVs.below HV2.out HBR.out (Nat.le_refl _)).at_ hlt2
          have HN8 := Lib.hid (RdNote.more hn8 HBR.out.size); have HN9 := Lib.hid (RdNote.more hn9 HBR.out.size); clear hn8 hn9
          have hi2 : (k : Int) < (vs.length : Int) := by omega
          have hl8 := hlv.at_ hlt2
          have hzz := HBR.out.size
          generalize glV vs k = v at *
          go_upto_region 11 with fail
          go_region_held3 (fun w' => w'.cell? ⟨w.heap.size, 5, none⟩ = some (.slice (some ⟨b8, o8, none⟩) vs.length c) ∧ w'.cell? ⟨w.heap.size + 1, 5, none⟩ = some (.slice (some ⟨b9, o9, none⟩) vs.length c2) ∧ w'.cell? ⟨b8, o8 + k, none⟩ = some (.slice C8 v.length d8) ∧ w'.cell? ⟨b9, o9 + k, none⟩ = some (.slice C9 v.length d9)) (first | exact ⟨c5, g5, hc8, hc9⟩ | exact ⟨X9.out.1, X9.out.2.1, X9.out.2.2.1.trans hc8, X9.out.2.2.2.trans hc9⟩)
            (first | (go_at_call 29; refine (laws_sameVoice C8 C9 d8 d9 v.length v wr.drew rfl HN8.out HN9.out hl8).mono ?_; rintro e w9 ⟨rfl, bb9⟩; have X9 := Lib.hid (And.intro ((HKR.out.drew.below bb9 (show w.heap.size < wr.heap.size by omega)).cell 5) (And.intro ((HLR.out.drew.below bb9 (show w.heap.size + 1 < wr.heap.size by omega)).cell 5) (And.intro (bb9.cell (p := ⟨b8, o8 + k, none⟩) (show b8 < wr.heap.size by omega)) (bb9.cell (p := ⟨b9, o9 + k, none⟩) (show b9 < wr.heap.size by omega))))); have HB9 := Lib.hid (HR.out.trans ((below_drew_left bb9).mono (show ws.heap.size ≤ wr.heap.size from hz2))); clear bb9))
          all_goals
            go_wp2_with fail
            go_roundw
            case rel => exact ⟨k + 1, by omega, by go_num, HB9.out⟩
            case measure => simp [intOf]; omega
        · obtain rfl : k = vs.length := by omega
          have hi2 : ¬ (vs.length : Int) < (vs.length : Int) := by omega
          go_wp2_with fail
          go_ret
          exact ⟨rfl, HBR.out⟩
end Go.Proofs.Ytnkoijkelcjloaa
