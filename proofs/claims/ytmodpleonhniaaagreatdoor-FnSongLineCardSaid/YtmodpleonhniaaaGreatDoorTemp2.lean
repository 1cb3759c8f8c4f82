/- Contracts of timeOf and l19Time: the time of a tick. Condition: valid tempos, a tick in 0..50001. -/
import Derived.Test.YtmodpleonhniaaaGreatDoorTemp1
import Derived.IntWalk
namespace Go.Proofs.YtmodpleonhniaaaGreatDoor
open Go.RowKit
set_option linter.unusedSimpArgs false
set_option linter.unusedVariables false
set_option maxRecDepth 100000
theorem timeTo_small {ts : List (Int × Int)} (h : tvB ts = true) {t : Int} (ht : 0 ≤ t) (hu : t ≤ 50001) {k : Nat} (hk : k ≤ ts.length) : 0 ≤ timeTo ts t k ∧ timeTo ts t k ≤ 5000100000 := by
  obtain ⟨a, b⟩ := timeTo_bd h ht k hk
  refine ⟨a, Int.le_trans b ?_⟩
  split <;> omega
theorem seg_form {x s m e g : Int} (hg : g = max 0 (e - s) * m) (h0 : 0 ≤ g) (h1 : g ≤ max 0 (e - s) * 100000) (he : -100000 ≤ e ∧ e ≤ 100000) (hs : 0 ≤ s ∧ s ≤ 50000) (hx : 0 ≤ x ∧ x ≤ 5000100000) :
    wrap64 (x + wrap64 ((if s < e then e - s else 0) * m)) = x + g := by
  have e1 : (if s < e then e - s else 0) = max 0 (e - s) := by split <;> omega
  rw [e1, ← hg, IntWalk.wrap64_in g (by omega), IntWalk.wrap64_in _ (by omega)]
theorem min_form {t u : Int} : (if u < t then u else t) = min t u := by split <;> omega
theorem min_form2 {t u : Int} : (if t < u then t else u) = min t u := by split <;> omega
set_option maxHeartbeats 2000000 in
theorem impl_timeOf (A : Option Addr) (c : Nat) (ts : List (Int × Int)) (t : Int) (w : World) (hr : RdTempo w w.heap.size A ts) (hv : tvB ts = true) (ht : 0 ≤ t) (hu : t ≤ 50001) :
    Calls Tryz.prog 85 #[.slice A ts.length c, .int .i64 t] w (RetI w (timeL ts t)) := by
  have hlen := (tvB_iff.1 hv).1
  have HR := Lib.hid hr; have HV := Lib.hid hv
  clear hr hv
  go_enter Tryz.func85, Tryz.ntmps85
  go_wp2_with fail
  go_loopw [5, 11] (fun x i wr => ∃ k : Nat, k ≤ ts.length ∧ i = .int .i64 k ∧ x = .int .i64 (timeTo ts t k) ∧ Below w.heap.size w wr) (fun _ i _ => ts.length - (intOf i).toNat)
  case atStart => exact ⟨0, Nat.zero_le _, rfl, rfl, Below.refl _ _⟩
  case round =>
    obtain ⟨k, hk, rfl, rfl, hbel⟩ := hrel
    have HB := Lib.hid hbel
    have hsz := hbel.size
    by_cases hlt : k < ts.length
    · have hr' := RdTempo.below HR.out hbel (Nat.le_refl _)
      obtain ⟨b, off, rfl, hbB2, hc0, hc1⟩ := hr'.at_ hlt
      obtain ⟨m1, m2⟩ := ((tvB_iff.1 HV.out).2.2 k hlt).1
      have m3 := ((tvB_iff.1 HV.out).2.2 k hlt).2.1
      have m0 := tv_start HV.out k hlt
      have q := timeTo_small HV.out ht hu hk
      have HS := Lib.hid (show timeTo ts t (k + 1) = timeTo ts t k + segL ts t k from rfl)
      have hq := seg_bd HV.out ht hlt
      have hi1 : (k : Int) < (ts.length : Int) := by omega
      have HSG := Lib.hid (show segL ts t k = max 0 (endL ts t k - (glTempo ts k).1) * (glTempo ts k).2 from rfl)
      by_cases hl2 : k + 1 < ts.length
      · obtain ⟨b2, off2, e2, hbB3, hd0, hd1⟩ := hr'.at_ hl2
        injection e2 with e2; injection e2 with e3 e4; subst e3; subst e4
        have n0 := tv_start HV.out (k + 1) hl2
        have n3 := ((tvB_iff.1 HV.out).2.2 (k + 1) hl2).2.1
        have HEN := Lib.hid (show endL ts t k = min t (glTempo ts (k + 1)).1 by unfold endL; rw [if_pos hl2])
        have hd0' : ∀ ob, (wr.alloc ob).cell? ⟨b, off + (k + 1) * 2, none⟩ = some (.int .i64 (glTempo ts (k + 1)).1) := fun ob => (World.cell?_alloc_lt wr ob _ (by simp; omega)).trans hd0
        have hi2 : (k : Int) + 1 < (ts.length : Int) := by omega
        have hi3 : ((k : Int) + 1).toNat = k + 1 := by omega
        generalize (glTempo ts (k + 1)).1 = u at *
        generalize (glTempo ts k).1 = s at *
        generalize (glTempo ts k).2 = m at *
        generalize timeTo ts t k = x at *
        have HF : Hid (wrap64 (x + wrap64 ((if s < if u < t then u else t then (if u < t then u else t) - s else 0) * m)) = timeTo ts t (k + 1)) := by
          unfold Hid
          rw [HS.out, min_form]
          exact seg_form (by rw [HSG.out, HEN.out]) hq.1 (by have := hq.2; rw [HEN.out] at this; exact this) (by omega) (by omega) q
        clear hr' hbel hq
        go_wp2_with fail
        go_roundw
        case rel => exact ⟨k + 1, by omega, by go_num, congrArg (Value.int IntKind.i64) HF.out, HB.out.alloc hsz _⟩
        case measure => simp [intOf]; omega
      · have HEN := Lib.hid (show endL ts t k = t by unfold endL; rw [if_neg hl2])
        have hi2 : ¬ ((k : Int) + 1 < (ts.length : Int)) := by omega
        generalize (glTempo ts k).1 = s at *
        generalize (glTempo ts k).2 = m at *
        generalize timeTo ts t k = x at *
        have HF : Hid (wrap64 (x + wrap64 ((if s < t then t - s else 0) * m)) = timeTo ts t (k + 1)) := by
          unfold Hid
          rw [HS.out]
          exact seg_form (by rw [HSG.out, HEN.out]) hq.1 (by have := hq.2; rw [HEN.out] at this; exact this) (by omega) (by omega) q
        clear hr' hbel hq
        go_wp2_with fail
        go_roundw
        case rel => exact ⟨k + 1, by omega, by go_num, congrArg (Value.int IntKind.i64) HF.out, HB.out.alloc hsz _⟩
        case measure => simp [intOf]; omega
    · obtain rfl : k = ts.length := by omega
      clear hbel
      go_wp2_with fail
      go_ret
      exact ⟨ret_int rfl, HB.out⟩
set_option maxHeartbeats 2000000 in
theorem spec_l19Time (A : Option Addr) (c : Nat) (ts : List (Int × Int)) (t : Int) (w : World) (hr : RdTempo w w.heap.size A ts) (hv : tvB ts = true) (ht : 0 ≤ t) (hu : t ≤ 50001) :
    Calls Tryz.prog 70 #[.slice A ts.length c, .int .i64 t] w (RetI w (timeL ts t)) := by
  have hlen := (tvB_iff.1 hv).1
  have HR := Lib.hid hr; have HV := Lib.hid hv
  clear hr hv
  go_enter Tryz.func70, Tryz.ntmps70
  go_wp2_with fail
  go_loopw [5, 6] (fun x i wr => ∃ k : Nat, k ≤ ts.length ∧ i = .int .i64 k ∧ x = .int .i64 (timeTo ts t k) ∧ Below w.heap.size w wr) (fun _ i _ => ts.length - (intOf i).toNat)
  case atStart => exact ⟨0, Nat.zero_le _, rfl, rfl, Below.refl _ _⟩
  case round =>
    obtain ⟨k, hk, rfl, rfl, hbel⟩ := hrel
    have HB := Lib.hid hbel
    have hsz := hbel.size
    by_cases hlt : k < ts.length
    · have hr' := RdTempo.below HR.out hbel (Nat.le_refl _)
      obtain ⟨b, off, rfl, hbB2, hc0, hc1⟩ := hr'.at_ hlt
      obtain ⟨m1, m2⟩ := ((tvB_iff.1 HV.out).2.2 k hlt).1
      have m3 := ((tvB_iff.1 HV.out).2.2 k hlt).2.1
      have m0 := tv_start HV.out k hlt
      have q := timeTo_small HV.out ht hu hk
      have HS := Lib.hid (show timeTo ts t (k + 1) = timeTo ts t k + segL ts t k from rfl)
      have hq := seg_bd HV.out ht hlt
      have hi1 : (k : Int) < (ts.length : Int) := by omega
      have HSG := Lib.hid (show segL ts t k = max 0 (endL ts t k - (glTempo ts k).1) * (glTempo ts k).2 from rfl)
      by_cases hl2 : k + 1 < ts.length
      · obtain ⟨b2, off2, e2, hbB3, hd0, hd1⟩ := hr'.at_ hl2
        injection e2 with e2; injection e2 with e3 e4; subst e3; subst e4
        have n0 := tv_start HV.out (k + 1) hl2
        have n3 := ((tvB_iff.1 HV.out).2.2 (k + 1) hl2).2.1
        have HEN := Lib.hid (show endL ts t k = min t (glTempo ts (k + 1)).1 by unfold endL; rw [if_pos hl2])
        have hd0' : ∀ ob, (wr.alloc ob).cell? ⟨b, off + (k + 1) * 2, none⟩ = some (.int .i64 (glTempo ts (k + 1)).1) := fun ob => (World.cell?_alloc_lt wr ob _ (by simp; omega)).trans hd0
        have hi2 : (k : Int) + 1 < (ts.length : Int) := by omega
        have hi3 : ((k : Int) + 1).toNat = k + 1 := by omega
        generalize (glTempo ts (k + 1)).1 = u at *
        generalize (glTempo ts k).1 = s at *
        generalize (glTempo ts k).2 = m at *
        generalize timeTo ts t k = x at *
        have HF : Hid (∀ e, e = min t u → wrap64 (x + wrap64 ((if s < e then e - s else 0) * m)) = timeTo ts t (k + 1)) := by
          unfold Hid
          rintro e rfl
          rw [HS.out]
          exact seg_form (by rw [HSG.out, HEN.out]) hq.1 (by have := hq.2; rw [HEN.out] at this; exact this) (by omega) (by omega) q
        clear hr' hbel hq
        go_wp2_with fail
        all_goals
          go_quiet (fail)
          go_wp2_with fail
          go_roundw
          case rel => exact ⟨k + 1, by omega, by go_num, congrArg (Value.int IntKind.i64) (HF.out _ (by omega)), below_drewN HB.out _⟩
          case measure => simp [intOf]; omega
      · have HEN := Lib.hid (show endL ts t k = t by unfold endL; rw [if_neg hl2])
        have hi2 : ¬ ((k : Int) + 1 < (ts.length : Int)) := by omega
        generalize (glTempo ts k).1 = s at *
        generalize (glTempo ts k).2 = m at *
        generalize timeTo ts t k = x at *
        have HF : Hid (wrap64 (x + wrap64 ((if s < t then t - s else 0) * m)) = timeTo ts t (k + 1)) := by
          unfold Hid
          rw [HS.out]
          exact seg_form (by rw [HSG.out, HEN.out]) hq.1 (by have := hq.2; rw [HEN.out] at this; exact this) (by omega) (by omega) q
        clear hr' hbel hq
        go_wp2_with fail
        go_quiet (fail)
        go_wp2_with fail
        go_roundw
        case rel => exact ⟨k + 1, by omega, by go_num, congrArg (Value.int IntKind.i64) HF.out, below_drewN HB.out _⟩
        case measure => simp [intOf]; omega
    · obtain rfl : k = ts.length := by omega
      clear hbel
      go_wp2_with fail
      go_ret
      exact ⟨ret_int rfl, HB.out⟩
end Go.Proofs.YtmodpleonhniaaaGreatDoor
