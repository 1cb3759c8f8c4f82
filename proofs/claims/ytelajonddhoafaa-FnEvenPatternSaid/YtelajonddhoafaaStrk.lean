/- Contract of strokes: how many strokes a pattern has. Condition: at most 2^20 steps. -/
import Derived.Test.YtelajonddhoafaaPatP
import Derived.Test.YtelajonddhoafaaPatW
namespace Go.Proofs.Ytelajonddhoafaa
set_option linter.unusedVariables false
open Go.RowKit
set_option linter.unusedSimpArgs false
theorem strk_take {zs : List Bool} {k : Nat} (h : k < zs.length) : (strk (zs.take (k + 1)) : Int) = (strk (zs.take k) : Int) + if gb zs k = true then 1 else 0 := by
  rw [take_succ_gb h, strk, strk, List.count_append]
  cases gb zs k <;> simp
theorem strk_le (zs : List Bool) (k : Nat) (h : k ≤ zs.length) : strk (zs.take k) ≤ k := by
  have := List.count_le_length (a := true) (l := zs.take k)
  rw [List.length_take] at this
  unfold strk; omega
theorem laws_strokes (A : Option Addr) (c : Nat) (zs : List Bool) (w : World) (hr : RdBo w w.heap.size A zs) (hl : zs.length ≤ 1048576) :
    Calls Try.prog 20 #[.agg #[.slice A zs.length c]] w (RetI w (strk zs)) := by
  have HR := Lib.hid (hr.al (Nat.le_refl _) (.cells #[.slice A zs.length c] 25)); clear hr
  have hbel : Below w.heap.size w (w.alloc (.cells #[.slice A zs.length c] 25)) := by (repeat (first | exact Below.refl _ _ | refine Below.alloc ?_ (by simp; try omega) _ | refine below_drewN ?_ _ | refine Below.drew ?_))
  have HB := Lib.hid hbel; clear hbel
  have Q : (w.alloc (.cells #[.slice A zs.length c] 25)).cell? ⟨w.heap.size, 0, none⟩ = some (.slice A zs.length c) := by simp [go_sem]
  go_enter Try.func20, Try.ntmps20
  go_wp2
  generalize w.alloc (.cells #[.slice A zs.length c] 25) = w1 at *
  go_loop [3, 4] (fun n i => ∃ k : Nat, k ≤ zs.length ∧ i = .int .i64 k ∧ n = .int .i64 (strk (zs.take k))) (fun _ i => zs.length - (intOf i).toNat)
  case atStart => exact ⟨0, Nat.zero_le _, rfl, rfl⟩
  case round =>
    obtain ⟨k, hk, rfl, rfl⟩ := hrel
    have hb1 := strk_le zs k hk
    by_cases hlt : k < zs.length
    · obtain ⟨b, off, rfl, hbB, hc⟩ := HR.out.at_ hlt
      have hs := Lib.hid (strk_take hlt)
      have hi1 : (k : Int) < (zs.length : Int) := by omega
      cases hg : gb zs k
      all_goals
        rw [hg] at hc
        have HS := Lib.hid hs.out
        rw [hg] at HS
        have HGB := Lib.hid hg
        clear hg hs
        go_wp2
        go_round
        case rel => exact ⟨k + 1, by omega, by go_num, by rw [HS.out]; simp⟩
        case measure => simp [intOf]; omega
    · obtain rfl : zs.length = k := by omega
      go_wp2
      go_ret
      exact ⟨rfl, HB.out⟩
end Go.Proofs.Ytelajonddhoafaa
