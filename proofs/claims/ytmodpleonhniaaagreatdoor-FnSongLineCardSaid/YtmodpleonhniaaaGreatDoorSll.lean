/- The contract of the program's SongLine. Condition: at most 2^20 tempos, voices, notes, bytes of the line; the table of powers of ten is laid (Tb). -/
import Derived.Test.YtmodpleonhniaaaGreatDoorSla
namespace Go.Proofs.YtmodpleonhniaaaGreatDoor
open Go.RowKit
set_option linter.unusedSimpArgs false
set_option linter.unusedVariables false
set_option maxRecDepth 100000
set_option maxHeartbeats 4000000 in
theorem impl_SongLine (f : Int) (m : Bool) (b u : Int) (C A : Option Addr) (d c : Nat) (ts : List (Int × Int)) (vs : List (List Nt)) (l : List UInt8) (w : World) (hT : RdTempo w w.heap.size C ts) (hV : RdVs w w.heap.size A vs) (hlt : ts.length ≤ 1048576) (hlv : LenV vs) (hl : l.length ≤ 1048576) (htb : Tb w) :
    Calls Tryz.prog 5 #[.agg #[.int .i64 f, .bool m, .int .i64 b, .int .i64 u, .slice C ts.length d, .slice A vs.length c], .string (stV l)] w (RetS w (lnL f b u ts vs l)) := by
  have HLV : Hid (LenV vs) := Lib.hid hlv
  have hlv1 : vs.length ≤ 1048576 := hlv.1
  have HTB := Lib.hid htb; clear htb
  cases hs : svB f b u ts vs
  · have HF : Hid (lnL f b u ts vs l = []) := Lib.hid (if_neg (by rw [hs]; decide)); have HS := Lib.hid hs; clear hs
    have HK := Lib.hid (Blk.new w 28 #[.int .i64 f, .bool m, .int .i64 b, .int .i64 u, .slice C ts.length d, .slice A vs.length c])
    have HT := Lib.hid (RdTempo.more (RdTempo.al hT (Nat.le_refl _) (.cells #[.int .i64 f, .bool m, .int .i64 b, .int .i64 u, .slice C ts.length d, .slice A vs.length c] 28)) (show w.heap.size ≤ (w.alloc (.cells #[.int .i64 f, .bool m, .int .i64 b, .int .i64 u, .slice C ts.length d, .slice A vs.length c] 28)).heap.size by simp))
    have HV := Lib.hid (RdVs.more (RdVs.al hV (Nat.le_refl _) (.cells #[.int .i64 f, .bool m, .int .i64 b, .int .i64 u, .slice C ts.length d, .slice A vs.length c] 28)) (show w.heap.size ≤ (w.alloc (.cells #[.int .i64 f, .bool m, .int .i64 b, .int .i64 u, .slice C ts.length d, .slice A vs.length c] 28)).heap.size by simp))
    have HB := Lib.hid ((Below.refl w.heap.size w).alloc (Nat.le_refl _) (.cells #[.int .i64 f, .bool m, .int .i64 b, .int .i64 u, .slice C ts.length d, .slice A vs.length c] 28))
    have z0 : w.heap.size + 1 ≤ (w.alloc (.cells #[.int .i64 f, .bool m, .int .i64 b, .int .i64 u, .slice C ts.length d, .slice A vs.length c] 28)).heap.size := by simp
    clear hT hV
    go_enter Tryz.func5, Tryz.ntmps5
    go_upto_region 1 with fail
    generalize w.alloc (.cells #[.int .i64 f, .bool m, .int .i64 b, .int .i64 u, .slice C ts.length d, .slice A vs.length c] 28) = w0 at *
    have c0 := HK.out.cell 0; have c1 := HK.out.cell 1; have c2 := HK.out.cell 2; have c3 := HK.out.cell 3; have c4 := HK.out.cell 4; have c5 := HK.out.cell 5
    go_wp2_with fail
    refine (impl_SongValid f m b u _ _ _ _ ts vs _ HT.out HV.out hlt HLV.out).mono ?_
    rw [HS.out]
    rintro e w1 ⟨rfl, b1⟩
    have z1 := b1.size
    clear c0 c1 c2 c3 c4 c5
    replace HK := Lib.hid (HK.out.below b1 (by omega)); replace HT := Lib.hid (RdTempo.more (RdTempo.below HT.out b1 (by omega)) z1); replace HV := Lib.hid (RdVs.more (RdVs.below HV.out b1 (by omega)) z1); replace HB := Lib.hid (HB.out.trans (b1.mono (by omega)))
    clear b1
    have c0 := HK.out.cell 0; have c1 := HK.out.cell 1; have c2 := HK.out.cell 2; have c3 := HK.out.cell 3; have c4 := HK.out.cell 4; have c5 := HK.out.cell 5
    go_wp2_with fail
    go_ret
    exact ⟨ret_st (by rw [HF.out]; rfl), HB.out⟩
  have HF := Lib.hid (la_O hs l)
  have HS := Lib.hid hs; clear hs
  generalize hq : laO f b u ts vs l = o at *
  have HQ := Lib.hid hq; clear hq
  have HK := Lib.hid (Blk.new w 28 #[.int .i64 f, .bool m, .int .i64 b, .int .i64 u, .slice C ts.length d, .slice A vs.length c])
  have HT := Lib.hid (RdTempo.more (RdTempo.al hT (Nat.le_refl _) (.cells #[.int .i64 f, .bool m, .int .i64 b, .int .i64 u, .slice C ts.length d, .slice A vs.length c] 28)) (show w.heap.size ≤ (w.alloc (.cells #[.int .i64 f, .bool m, .int .i64 b, .int .i64 u, .slice C ts.length d, .slice A vs.length c] 28)).heap.size by simp))
  have HV := Lib.hid (RdVs.more (RdVs.al hV (Nat.le_refl _) (.cells #[.int .i64 f, .bool m, .int .i64 b, .int .i64 u, .slice C ts.length d, .slice A vs.length c] 28)) (show w.heap.size ≤ (w.alloc (.cells #[.int .i64 f, .bool m, .int .i64 b, .int .i64 u, .slice C ts.length d, .slice A vs.length c] 28)).heap.size by simp))
  have HB := Lib.hid ((Below.refl w.heap.size w).alloc (Nat.le_refl _) (.cells #[.int .i64 f, .bool m, .int .i64 b, .int .i64 u, .slice C ts.length d, .slice A vs.length c] 28))
  have z0 : w.heap.size + 1 ≤ (w.alloc (.cells #[.int .i64 f, .bool m, .int .i64 b, .int .i64 u, .slice C ts.length d, .slice A vs.length c] 28)).heap.size := by simp
  clear hT hV
  go_enter Tryz.func5, Tryz.ntmps5
  go_upto_region 1 with fail
  generalize w.alloc (.cells #[.int .i64 f, .bool m, .int .i64 b, .int .i64 u, .slice C ts.length d, .slice A vs.length c] 28) = w0 at *
  have c0 := HK.out.cell 0; have c1 := HK.out.cell 1; have c2 := HK.out.cell 2; have c3 := HK.out.cell 3; have c4 := HK.out.cell 4; have c5 := HK.out.cell 5
  go_wp2_with fail
  refine (impl_SongValid f m b u _ _ _ _ ts vs _ HT.out HV.out hlt HLV.out).mono ?_
  rw [HS.out]
  rintro e w1 ⟨rfl, b1⟩
  have z1 := b1.size
  clear c0 c1 c2 c3 c4 c5
  replace HK := Lib.hid (HK.out.below b1 (by omega)); replace HT := Lib.hid (RdTempo.more (RdTempo.below HT.out b1 (by omega)) z1); replace HV := Lib.hid (RdVs.more (RdVs.below HV.out b1 (by omega)) z1); replace HB := Lib.hid (HB.out.trans (b1.mono (by omega)))
  clear b1
  have c0 := HK.out.cell 0; have c1 := HK.out.cell 1; have c2 := HK.out.cell 2; have c3 := HK.out.cell 3; have c4 := HK.out.cell 4; have c5 := HK.out.cell 5
  go_wp2_with fail
  refine (impl_lineAnswer f m b u _ _ _ _ ts vs l _ HT.out HV.out hlt HLV.out hl HS.out (HTB.out.next HB.out)).mono ?_
  rw [HQ.out]
  rintro e w9 ⟨rfl, b9⟩
  replace HB := Lib.hid (HB.out.trans (b9.mono (by omega)))
  clear b9 c0 c1 c2 c3 c4 c5
  cases o
  all_goals
    go_wp2_with fail
    go_ret
    exact ⟨ret_st (by rw [HF.out]; rfl), HB.out⟩
end Go.Proofs.YtmodpleonhniaaaGreatDoor
