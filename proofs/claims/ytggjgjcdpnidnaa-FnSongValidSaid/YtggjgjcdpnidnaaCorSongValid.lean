/- The walk of FnSongValid: it returns true. Condition: at most 2^20 bytes. -/
import Derived.Test.YtggjgjcdpnidnaaDrawX
import Derived.Test.YtggjgjcdpnidnaaSng
import Derived.Test.YtggjgjcdpnidnaaAlive
namespace Go.Proofs.Ytggjgjcdpnidnaa.fnSongValid
set_option linter.unusedVariables false
open Go.RowKit
set_option linter.unusedSimpArgs false
theorem rdTempo_nil (w : World) (B : Nat) : RdTempo w B none [] := Rd.none_
theorem rdVs_nil (w : World) (B : Nat) : RdVs w B none [] := ⟨[], rfl, Rd.none_, fun k hk => by simp at hk⟩
theorem sv_8 (b u : Int) (ts : List (Int × Int)) : svB 8 b u ts [] = false := sv_no (.inl (by decide))
theorem sv_t (f b u : Int) : svB f b u [] [] = false := sv_no (.inr (.inr (.inl (by decide))))
set_option maxRecDepth 100000 in
set_option maxHeartbeats 4000000 in
theorem core (w : World) (A_z : Option Addr) (c_z : Nat) (z : List Int) (r_z : RdY w w.heap.size A_z z) (f_z : WfY z) (k_z : z.length ≤ c_z) (hbig : z.length ≤ 1048576) :
    Calls Try.prog 3 #[.slice A_z z.length c_z] w (RetB w true) := by
  have hi1 : (z.length : Int) ≤ 1048576 := by omega
  go_enter Try.func3, Try.ntmps3
  go_wp2_with fail
  refine (spec_DrawSongValid A_z c_z z w r_z f_z hbig k_z).mono ?_
  rintro e wd ⟨f, m, b, u, C, d, ts, A, c, vs, rfl, hts, hvs, h61, hT, hV, hB⟩
  have hzd := hB.size
  have HK := Lib.hid (Blk.new wd 28 #[.int .i64 f, .bool m, .int .i64 b, .int .i64 u, .slice C ts.length d, .slice A vs.length c])
  have HT := Lib.hid (RdTempo.more (RdTempo.al hT (Nat.le_refl _) (.cells #[.int .i64 f, .bool m, .int .i64 b, .int .i64 u, .slice C ts.length d, .slice A vs.length c] 28)) (show wd.heap.size ≤ (wd.alloc (.cells #[.int .i64 f, .bool m, .int .i64 b, .int .i64 u, .slice C ts.length d, .slice A vs.length c] 28)).heap.size by simp))
  have HV := Lib.hid (RdVs.more (RdVs.al hV (Nat.le_refl _) (.cells #[.int .i64 f, .bool m, .int .i64 b, .int .i64 u, .slice C ts.length d, .slice A vs.length c] 28)) (show wd.heap.size ≤ (wd.alloc (.cells #[.int .i64 f, .bool m, .int .i64 b, .int .i64 u, .slice C ts.length d, .slice A vs.length c] 28)).heap.size by simp))
  have HB := Lib.hid (hB.alloc hzd (.cells #[.int .i64 f, .bool m, .int .i64 b, .int .i64 u, .slice C ts.length d, .slice A vs.length c] 28))
  have z0 : wd.heap.size + 1 ≤ (wd.alloc (.cells #[.int .i64 f, .bool m, .int .i64 b, .int .i64 u, .slice C ts.length d, .slice A vs.length c] 28)).heap.size := by simp
  have hlt : ts.length ≤ 1048576 := by omega
  have hlv : LenV vs := ⟨by omega, fun v hv => Nat.le_trans (h61 v hv) (by decide)⟩
  have H61 := Lib.hid h61
  clear hT hV hB r_z f_z h61
  generalize hGL : svB f b u ts vs = L9 at *
  have HG := Lib.hid hGL; clear hGL
  have e9 : (L9 != L9) = false := by simp
  have H8 := Lib.hid (sv_8 b u ts); have H9 := Lib.hid (sv_t f b u)
  go_upto_region 4 with fail
  generalize wd.alloc (.cells #[.int .i64 f, .bool m, .int .i64 b, .int .i64 u, .slice C ts.length d, .slice A vs.length c] 28) = w0 at *
  have c0 := HK.out.cell 0; have c1 := HK.out.cell 1; have c2 := HK.out.cell 2; have c3 := HK.out.cell 3; have c4 := HK.out.cell 4; have c5 := HK.out.cell 5
  go_wp2_with fail
  refine (impl_SongValid f m b u _ _ _ _ ts vs _ HT.out HV.out hlt hlv).mono ?_
  rw [HG.out]
  rintro e w1 ⟨rfl, b1⟩
  have z1 := b1.size
  clear c0 c1 c2 c3 c4 c5
  replace HK := Lib.hid (HK.out.below b1 (by omega)); replace HT := Lib.hid (RdTempo.more (RdTempo.below HT.out b1 (by omega)) z1); replace HV := Lib.hid (RdVs.more (RdVs.below HV.out b1 (by omega)) z1); replace HB := Lib.hid (HB.out.trans (b1.mono (by omega)))
  clear b1
  have c0 := HK.out.cell 0; have c1 := HK.out.cell 1; have c2 := HK.out.cell 2; have c3 := HK.out.cell 3; have c4 := HK.out.cell 4; have c5 := HK.out.cell 5
  go_wp2_with fail
  refine (spec_SongValid f m b u _ _ _ _ ts vs _ HT.out HV.out hlt hlv).mono ?_
  rw [HG.out]
  rintro e w2 ⟨rfl, b2⟩
  have z2 := b2.size
  clear c0 c1 c2 c3 c4 c5
  replace HK := Lib.hid (HK.out.below b2 (by omega)); replace HT := Lib.hid (RdTempo.more (RdTempo.below HT.out b2 (by omega)) z2); replace HV := Lib.hid (RdVs.more (RdVs.below HV.out b2 (by omega)) z2); replace HB := Lib.hid (HB.out.trans (b2.mono (by omega)))
  clear b2
  have c0 := HK.out.cell 0; have c1 := HK.out.cell 1; have c2 := HK.out.cell 2; have c3 := HK.out.cell 3; have c4 := HK.out.cell 4; have c5 := HK.out.cell 5
  go_wp2_with fail
  refine (impl_SongValid 8 false b u _ _ _ 0 ts [] _ HT.out (rdVs_nil _ _) hlt ⟨by simp, by simp⟩).mono ?_
  rw [H8.out]
  rintro e w3 ⟨rfl, b3⟩
  have z3 := b3.size
  clear c0 c1 c2 c3 c4 c5
  replace HK := Lib.hid (HK.out.below b3 (by omega)); replace HT := Lib.hid (RdTempo.more (RdTempo.below HT.out b3 (by omega)) z3); replace HV := Lib.hid (RdVs.more (RdVs.below HV.out b3 (by omega)) z3); replace HB := Lib.hid (HB.out.trans (b3.mono (by omega)))
  clear b3
  have c0 := HK.out.cell 0; have c1 := HK.out.cell 1; have c2 := HK.out.cell 2; have c3 := HK.out.cell 3; have c4 := HK.out.cell 4; have c5 := HK.out.cell 5
  go_wp2_with fail
  refine (impl_SongValid f false b u _ _ 0 0 [] [] _ (rdTempo_nil _ _) (rdVs_nil _ _) (by simp) ⟨by simp, by simp⟩).mono ?_
  rw [H9.out]
  rintro e w4 ⟨rfl, b4⟩
  have z4 := b4.size
  clear c0 c1 c2 c3 c4 c5
  replace HK := Lib.hid (HK.out.below b4 (by omega)); replace HT := Lib.hid (RdTempo.more (RdTempo.below HT.out b4 (by omega)) z4); replace HV := Lib.hid (RdVs.more (RdVs.below HV.out b4 (by omega)) z4); replace HB := Lib.hid (HB.out.trans (b4.mono (by omega)))
  clear b4
  have c0 := HK.out.cell 0; have c1 := HK.out.cell 1; have c2 := HK.out.cell 2; have c3 := HK.out.cell 3; have c4 := HK.out.cell 4; have c5 := HK.out.cell 5
  go_wp2_with fail
  refine (laws_alive _).mono ?_
  rintro e w5 ⟨rfl, b5⟩
  have z5 := b5.size
  clear c0 c1 c2 c3 c4 c5
  replace HK := Lib.hid (HK.out.below b5 (by omega)); replace HT := Lib.hid (RdTempo.more (RdTempo.below HT.out b5 (by omega)) z5); replace HV := Lib.hid (RdVs.more (RdVs.below HV.out b5 (by omega)) z5); replace HB := Lib.hid (HB.out.trans (b5.mono (by omega)))
  clear b5
  have c0 := HK.out.cell 0; have c1 := HK.out.cell 1; have c2 := HK.out.cell 2; have c3 := HK.out.cell 3; have c4 := HK.out.cell 4; have c5 := HK.out.cell 5
  go_wp2_with fail
  go_ret
  exact ⟨rfl, HB.out⟩
end Go.Proofs.Ytggjgjcdpnidnaa.fnSongValid
