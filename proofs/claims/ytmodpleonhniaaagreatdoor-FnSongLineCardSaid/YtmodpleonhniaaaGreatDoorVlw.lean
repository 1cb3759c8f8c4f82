/- Contracts of VoiceTicks and of the laws' comparison of voices. Condition: at most 2^20 notes. -/
import Derived.Test.YtmodpleonhniaaaGreatDoorTks
namespace Go.Proofs.YtmodpleonhniaaaGreatDoor
open Go.RowKit
set_option linter.unusedSimpArgs false
set_option linter.unusedVariables false
set_option maxRecDepth 100000
def vtL (v : List Nt) : Int := if vvB v = true then ticksL v else -1
set_option maxHeartbeats 1000000 in
theorem laws_sameVoice (A C : Option Addr) (c d n : Nat) (v : List Nt) (w : World) (hn : v.length = n) (hr : RdNote w w.heap.size A v) (hy : RdNote w w.heap.size C v) (hl : v.length ≤ 1048576) :
    Calls Tryz.prog 10 #[.slice A v.length c, .slice C n d] w (RetB w true) := by
  subst hn
  have HX := Lib.hid hr; have HY := Lib.hid hy; clear hr hy
  have hb0 : ((v.length : Int) != (v.length : Int)) = false := by simp
  go_enter Tryz.func10, Tryz.ntmps10
  go_wp2_with fail
  go_loopw [5] (fun i wr => ∃ k : Nat, k ≤ v.length ∧ i = .int .i64 k ∧ Below w.heap.size w wr) (fun i _ => v.length - (intOf i).toNat)
  case atStart => exact ⟨0, Nat.zero_le _, rfl, Below.refl _ _⟩
  case round =>
    obtain ⟨k, hk, rfl, hbel⟩ := hrel
    have HB := Lib.hid hbel
    by_cases hlt : k < v.length
    · obtain ⟨b, off, rfl, hbB, hc0, hc1, hc2, hc3, hc4, hc5⟩ := (HX.out.below hbel (Nat.le_refl _)).at_ hlt
      obtain ⟨b', off', rfl, hbB', hd0, hd1, hd2, hd3, hd4, hd5⟩ := (HY.out.below hbel (Nat.le_refl _)).at_ hlt
      generalize glNote v k = x at *
      obtain ⟨x0, x1, x2, x3, x4, x5⟩ := x
      dsimp only at hc0 hc1 hc2 hc3 hc4 hc5 hd0 hd1 hd2 hd3 hd4 hd5
      have hi1 : (k : Int) < (v.length : Int) := by omega
      clear hbel
      go_wp2_with fail
      go_region_held3 (fun w' => w'.cell? ⟨b, off + k * 6, none⟩ = some (.bool x0) ∧ w'.cell? ⟨b, off + k * 6 + 1, none⟩ = some (.int .i64 x1) ∧ w'.cell? ⟨b, off + k * 6 + 2, none⟩ = some (.int .i64 x2) ∧ w'.cell? ⟨b, off + k * 6 + 3, none⟩ = some (.int .i64 x3) ∧ w'.cell? ⟨b, off + k * 6 + 4, none⟩ = some (.int .i64 x4) ∧ w'.cell? ⟨b, off + k * 6 + 5, none⟩ = some (.bool x5) ∧ w'.cell? ⟨b', off' + k * 6, none⟩ = some (.bool x0) ∧ w'.cell? ⟨b', off' + k * 6 + 1, none⟩ = some (.int .i64 x1) ∧ w'.cell? ⟨b', off' + k * 6 + 2, none⟩ = some (.int .i64 x2) ∧ w'.cell? ⟨b', off' + k * 6 + 3, none⟩ = some (.int .i64 x3) ∧ w'.cell? ⟨b', off' + k * 6 + 4, none⟩ = some (.int .i64 x4) ∧ w'.cell? ⟨b', off' + k * 6 + 5, none⟩ = some (.bool x5)) (first | exact ⟨hc0, hc1, hc2, hc3, hc4, hc5, hd0, hd1, hd2, hd3, hd4, hd5⟩) (fail)
      all_goals
        go_wp2_with fail
        go_roundw
        case rel => exact ⟨k + 1, by omega, by go_num, HB.out.drew⟩
        case measure => simp [intOf]; omega
    · obtain rfl : k = v.length := by omega
      go_wp2_with fail
      go_ret
      exact ⟨rfl, HB.out⟩
end Go.Proofs.YtmodpleonhniaaaGreatDoor
