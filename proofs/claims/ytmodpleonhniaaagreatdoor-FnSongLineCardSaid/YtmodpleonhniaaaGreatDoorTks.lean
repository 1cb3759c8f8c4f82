/- Contracts of voiceTicks, VoiceTicks and l19Groups. Condition: a valid voice. -/
import Derived.Test.YtmodpleonhniaaaGreatDoorMrg1
import Derived.Test.YtmodpleonhniaaaGreatDoorNte2
import Derived.Test.YtmodpleonhniaaaGreatDoorPrfL
import Derived.BigRegion
namespace Go.Proofs.YtmodpleonhniaaaGreatDoor
open Go.RowKit
set_option linter.unusedSimpArgs false
set_option linter.unusedVariables false
set_option maxRecDepth 100000
set_option maxHeartbeats 1000000 in
theorem impl_voiceTicks (A : Option Addr) (c : Nat) (v : List Nt) (w : World) (hr : RdNote w w.heap.size A v) (hv : vvB v = true) :
    Calls Tryz.prog 83 #[.slice A v.length c] w (RetI w (ticksL v)) := by
  have HR := Lib.hid hr; have HV := Lib.hid hv
  have hlen := vv_len hv
  clear hr hv
  go_enter Tryz.func83, Tryz.ntmps83
  go_wp2_with fail
  go_loopw [3, 8] (fun q i wr => ∃ k : Nat, k ≤ v.length ∧ i = .int .i64 k ∧ q = .int .i64 (sT v k).2.2.1 ∧ Below w.heap.size w wr) (fun _ i _ => v.length - (intOf i).toNat)
  case atStart => exact ⟨0, Nat.zero_le _, rfl, by rw [sT_zero], Below.refl _ _⟩
  case round =>
    obtain ⟨k, hk, rfl, rfl, hbel⟩ := hrel
    have hsz := hbel.size
    by_cases hlt : k < v.length
    · obtain ⟨b, off, rfl, hbB, hc0, hc1, hc2, hc3, hc4, hc5⟩ := (HR.out.below hbel (Nat.le_refl _)).at_ (k := k) hlt
      have HB := Lib.hid hbel; clear hbel
      have hi1 : (k : Int) < (v.length : Int) := by omega
      have ht := sT_bd HV.out k hk
      have hd := vv_tick HV.out hlt
      have HT := Lib.hid (sT_tick hlt)
      generalize (sT v k).2.2.1 = tk at *
      generalize (glNote v k).2.2.2.2.1 = dt at *
      have v1 : IntKind.i64.wrap (tk + dt) = tk + dt := IntWalk.i64_in _ (by omega)
      go_wp2_with fail
      go_roundw
      case rel => exact ⟨k + 1, by omega, by go_num, by rw [HT.out], by
        repeat (with_reducible refine Below.setCell ?_ (by simp; try omega) _)
        first | exact HB.out.alloc hsz _ | exact HB.out⟩
      case measure => simp [intOf]; omega
    · obtain rfl : k = v.length := by omega
      have HB := Lib.hid hbel; clear hbel
      have HF : Hid ((sT v v.length).2.2.1 = ticksL v) := Lib.hid (by rw [sT_all]; rfl)
      go_wp2_with fail
      go_ret
      exact ⟨ret_int HF.out, HB.out⟩
set_option maxHeartbeats 1000000 in
theorem spec_VoiceTicks (A : Option Addr) (c : Nat) (v : List Nt) (w : World) (hr : RdNote w w.heap.size A v) (hv : vvB v = true) :
    Calls Tryz.prog 46 #[.slice A v.length c] w (RetI w (ticksL v)) := by
  have HR := Lib.hid hr; have HV := Lib.hid hv
  have hlen := vv_len hv
  clear hr hv
  go_enter Tryz.func46, Tryz.ntmps46
  go_wp2_with fail
  refine (spec_VoiceValid _ _ _ _ HR.out (by omega)).mono ?_
  rw [HV.out]
  rintro e w1 ⟨rfl, b1⟩
  have HB1 := Lib.hid b1; clear b1
  go_wp2_with fail
  go_loopw [3, 4] (fun q i wr => ∃ k : Nat, k ≤ v.length ∧ i = .int .i64 k ∧ q = .int .i64 (sT v k).2.2.1 ∧ Below w.heap.size w wr) (fun _ i _ => v.length - (intOf i).toNat)
  case atStart => exact ⟨0, Nat.zero_le _, rfl, by rw [sT_zero], HB1.out⟩
  case round =>
    obtain ⟨k, hk, rfl, rfl, hbel⟩ := hrel
    have hsz := hbel.size
    by_cases hlt : k < v.length
    · obtain ⟨b, off, rfl, hbB, hc0, hc1, hc2, hc3, hc4, hc5⟩ := (HR.out.below hbel (Nat.le_refl _)).at_ (k := k) hlt
      have HB := Lib.hid hbel; clear hbel
      have hi1 : (k : Int) < (v.length : Int) := by omega
      have ht := sT_bd HV.out k hk
      have hd := vv_tick HV.out hlt
      have HT := Lib.hid (sT_tick hlt)
      generalize (sT v k).2.2.1 = tk at *
      generalize (glNote v k).2.2.2.2.1 = dt at *
      have v1 : IntKind.i64.wrap (tk + dt) = tk + dt := IntWalk.i64_in _ (by omega)
      go_wp2_with fail
      go_roundw
      case rel => exact ⟨k + 1, by omega, by go_num, by rw [HT.out], HB.out⟩
      case measure => simp [intOf]; omega
    · obtain rfl : k = v.length := by omega
      have HB := Lib.hid hbel; clear hbel
      have HF : Hid ((sT v v.length).2.2.1 = ticksL v) := Lib.hid (by rw [sT_all]; rfl)
      go_wp2_with fail
      go_ret
      exact ⟨ret_int HF.out, HB.out⟩
end Go.Proofs.YtmodpleonhniaaaGreatDoor
