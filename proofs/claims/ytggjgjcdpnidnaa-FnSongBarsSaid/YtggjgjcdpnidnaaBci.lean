/- Contract of the program's BarCount at a voice and a meter that are right. -/
import Derived.Test.YtggjgjcdpnidnaaSbt
namespace Go.Proofs.Ytggjgjcdpnidnaa
open Go.RowKit
set_option linter.unusedSimpArgs false
set_option linter.unusedVariables false
set_option maxRecDepth 100000
theorem impl_BarCount (A : Option Addr) (c : Nat) (v : List Nt) (b u : Int) (w : World) (hr : RdNote w w.heap.size A v) (hv : vvB v = true) (hm : mvB b u = true) :
    Calls Try.prog 14 #[.slice A v.length c, .agg #[.int .i64 b, .int .i64 u]] w (RetI w (bcL v (btL b u))) := by
  have hlen := vv_len hv
  have htk := tk_bd hv
  have hbt := (btL_bd hm).2
  have HR := Lib.hid (RdNote.more (RdNote.al hr (Nat.le_refl _) (.cells #[.int .i64 b, .int .i64 u] 24)) (show w.heap.size ≤ (w.alloc (.cells #[.int .i64 b, .int .i64 u] 24)).heap.size by simp))
  have HK := Lib.hid (Blk.new w 24 #[.int .i64 b, .int .i64 u])
  have HB := Lib.hid ((Below.refl w.heap.size w).alloc (Nat.le_refl _) (.cells #[.int .i64 b, .int .i64 u] 24))
  have z0 : w.heap.size + 1 ≤ (w.alloc (.cells #[.int .i64 b, .int .i64 u] 24)).heap.size := by simp
  have HV := Lib.hid hv; have HM := Lib.hid hm; clear hr hv hm
  go_enter Try.func14, Try.ntmps14
  go_upto_region 1 with fail
  generalize w.alloc (.cells #[.int .i64 b, .int .i64 u] 24) = w0 at *
  go_wp2_with fail
  refine (impl_VoiceValid _ _ _ _ HR.out (by omega)).mono ?_
  rw [HV.out]
  rintro e w1 ⟨rfl, b1⟩
  have z1 := b1.size
  replace HR := Lib.hid (RdNote.more (RdNote.below HR.out b1 (by omega)) z1); replace HK := Lib.hid (HK.out.below b1 (by omega)); replace HB := Lib.hid (HB.out.trans (b1.mono (by omega))); clear b1
  have c0 := HK.out.cell 0; have c1 := HK.out.cell 1
  go_wp2_with fail
  refine (impl_MeterValid b u _).mono ?_
  rw [HM.out]
  rintro e w2 ⟨rfl, b2⟩
  have z2 := b2.size
  replace HR := Lib.hid (RdNote.more (RdNote.below HR.out b2 (by omega)) z2); replace HK := Lib.hid (HK.out.below b2 (by omega)); replace HB := Lib.hid (HB.out.trans (b2.mono (by omega))); clear b2 c0 c1
  have c0 := HK.out.cell 0; have c1 := HK.out.cell 1
  go_wp2_with fail
  refine (impl_BarTicks b u _).mono ?_
  rintro e w3 ⟨rfl, b3⟩
  have z3 := b3.size
  replace HR := Lib.hid (RdNote.more (RdNote.below HR.out b3 (by omega)) z3); replace HB := Lib.hid (HB.out.trans (b3.mono (by omega))); clear b3 c0 c1
  generalize hq : btL b u = q at *
  go_wp2_with fail
  refine (impl_voiceTicks _ _ _ _ HR.out HV.out).mono ?_
  rintro e w4 ⟨rfl, b4⟩
  replace HB := Lib.hid (HB.out.trans (b4.mono (by omega))); clear b4
  have HF : Hid ((ticksL v + q - 1) / q = bcL v q) := Lib.hid rfl
  generalize ticksL v = tk at *
  have hq0 : q ≠ 0 := by omega
  have hq1 : q ≠ -1 := by omega
  have hdv : (tk + q - 1).tdiv q = (tk + q - 1) / q := Int.tdiv_eq_ediv_of_nonneg (by omega)
  have hb1 : 0 ≤ (tk + q - 1) / q := Int.ediv_nonneg (by omega) (by omega)
  have hb2 : (tk + q - 1) / q ≤ tk + q - 1 := Int.ediv_le_self _ (by omega)
  generalize hr9 : (tk + q - 1) / q = r9 at *
  have hw9 : IntKind.i64.wrap r9 = r9 := IntWalk.i64_in _ (by omega)
  clear hr9
  go_wp2_with fail
  go_ret
  exact ⟨ret_int HF.out, HB.out⟩
end Go.Proofs.Ytggjgjcdpnidnaa
