/- Contracts of the exact laws' helpers that read marks back, on songs, and of toInterval. Conditions: lengths at most 2^20. -/
import Derived.Test.YtgoknmnmckoniaaRecSong2
namespace Go.Proofs.Ytgoknmnmckoniaa
open Go.RowKit
set_option linter.unusedSimpArgs false
set_option linter.unusedVariables false
set_option maxRecDepth 100000
set_option maxHeartbeats 2000000 in
theorem laws_heldNoteSS (A : Option Addr) (c : Nat) (vs : List (List Nt)) (hs : List Hd) (k : Int) (lo hi : Nat) (w : World) (hx : OwX w lo hi A c vs.length (mkX vs k) hs) (hi9 : hi ≤ w.heap.size) (hlv : LenV vs) (h0 : 0 ≤ k) (h1 : k + 6 * (totV vs : Int) ≤ 1000000000) :
    Calls Try.prog 35 #[.slice A vs.length c, .int .i64 k] w fun e w' => e = .returned (.int .i64 (k + 6 * (totV vs : Int))) ∧ w = w' := by
  have hlv1 : vs.length ≤ 1048576 := hlv.1
  have HX := Lib.hid hx; clear hx
  go_enter Try.func35, Try.ntmps35
  go_wp2_with fail
  go_loop [1, 5] (fun q i => ∃ j : Nat, j ≤ vs.length ∧ i = .int .i64 j ∧ q = .int .i64 (kAt vs k j)) (fun _ i => vs.length - (intOf i).toNat)
  case atStart => exact ⟨0, Nat.zero_le _, rfl, by simp [kAt, totV]⟩
  case round =>
    obtain ⟨j, hj, rfl, rfl⟩ := hrel
    by_cases hlt : j < vs.length
    · obtain ⟨g, rfl, hg1, hg2, hc8⟩ := HX.out.hd hlt
      have hml : (mkX vs k j).length = (glV vs j).length := by unfold mkX; exact upNote_length _ _
      have hrow := (HX.out.inn j hlt).2.rd
      rw [hml] at hc8 hrow
      have HRW : Hid (Rd w hi 6 (glH hs j).1 (glV vs j).length (fl encNote (upNote (kAt vs k j) (glV vs j).length))) := Lib.hid hrow
      have hi1 : (j : Int) < (vs.length : Int) := by omega
      have hl8 := hlv.at_ hlt
      have HT := Lib.hid (totV_succ hlt)
      have ht2 := totV_le vs j
      have hka : kAt vs k j = k + 6 * (totV (vs.take j) : Int) := rfl
      have hk0 : 0 ≤ kAt vs k j := by omega
      have hk9 : kAt vs k j ≤ 1000000000 := by omega
      have HKA : Hid (kAt vs k j + 6 * ((glV vs j).length : Int) = kAt vs k (j + 1)) := Lib.hid (by unfold kAt; rw [HT.out]; push_cast; omega)
      clear hrow hka hml
      generalize kAt vs k j = kj at *
      have hd9 : decide (kj + 6 * ((glV vs j).length : Int) < 0) = false := decide_eq_false (by omega)
      go_wp2_with fail
      refine (laws_heldNoteS _ _ _ kj _ (Rd.more HRW.out (by omega)) hl8 hk0 hk9).mono ?_
      rintro e w1 ⟨rfl, rfl⟩
      go_wp2_with fail
      go_round
      case rel => exact ⟨j + 1, by omega, by go_num, by rw [HKA.out]⟩
      case measure => simp [intOf]; omega
    · obtain rfl : j = vs.length := by omega
      have HKA : Hid (kAt vs k vs.length = k + 6 * (totV vs : Int)) := Lib.hid (by unfold kAt; rw [List.take_length])
      rw [HKA.out]
      go_wp2_with fail
      go_ret
      exact ⟨rfl, rfl⟩
set_option maxHeartbeats 2000000 in
theorem laws_heldSong (f : Int) (m : Bool) (b u : Int) (C A : Option Addr) (d c nt : Nat) (vs : List (List Nt)) (hs : List Hd) (k : Int) (lo mid hi : Nat) (w : World) (hx : SgO w lo mid hi C d nt (fl encTempo (upTempo k nt)) A c vs.length (mkX vs (k + 2 * (nt : Int))) hs) (hi9 : hi ≤ w.heap.size) (hlt : nt ≤ 1048576) (hlv : LenV vs) (h0 : 0 ≤ k) (h1 : k + 2 * (nt : Int) + 6 * (totV vs : Int) ≤ 1000000000) :
    Calls Try.prog 11 #[.agg #[.int .i64 f, .bool m, .int .i64 b, .int .i64 u, .slice C nt d, .slice A vs.length c], .int .i64 k] w (RetI w (k + 2 * (nt : Int) + 6 * (totV vs : Int))) := by
  have hle1 := hx.le1; have hle2 := hx.le2
  have HX := Lib.hid (SgO.below hx ((Below.refl w.heap.size w).alloc (Nat.le_refl _) (.cells #[.int .i64 f, .bool m, .int .i64 b, .int .i64 u, .slice C nt d, .slice A vs.length c] 35)) hi9)
  have HB := Lib.hid ((Below.refl w.heap.size w).alloc (Nat.le_refl _) (.cells #[.int .i64 f, .bool m, .int .i64 b, .int .i64 u, .slice C nt d, .slice A vs.length c] 35))
  have HK := Lib.hid (Blk.new w 35 #[.int .i64 f, .bool m, .int .i64 b, .int .i64 u, .slice C nt d, .slice A vs.length c])
  have z0 : w.heap.size + 1 ≤ (w.alloc (.cells #[.int .i64 f, .bool m, .int .i64 b, .int .i64 u, .slice C nt d, .slice A vs.length c] 35)).heap.size := by simp
  have hd1 : decide (k + 2 * (nt : Int) < 0) = false := decide_eq_false (by omega)
  have hd2 : decide (k + 2 * (nt : Int) + 6 * (totV vs : Int) < 0) = false := decide_eq_false (by omega)
  clear hx
  go_enter Try.func11, Try.ntmps11
  go_upto_region 1 with fail
  generalize w.alloc (.cells #[.int .i64 f, .bool m, .int .i64 b, .int .i64 u, .slice C nt d, .slice A vs.length c] 35) = w0 at *
  have c4 := HK.out.cell 4; have c5 := HK.out.cell 5
  go_wp2_with fail
  refine (laws_heldTempoS C nt d k _ (Rd.more HX.out.row.rd (by omega)) hlt h0 (by omega)).mono ?_
  rintro e w1 ⟨rfl, rfl⟩
  go_wp2_with fail
  refine (laws_heldNoteSS _ _ _ _ (k + 2 * (nt : Int)) _ _ _ HX.out.own (by omega) hlv (by omega) (by omega)).mono ?_
  rintro e w2 ⟨rfl, rfl⟩
  go_wp2_with fail
  go_ret
  exact ⟨rfl, HB.out⟩
theorem laws_toInterval (s h : Int) (w : World) : Calls Try.prog 7 #[.agg #[.int .i64 s, .int .i64 h]] w fun e w' => e = .returned (.agg #[.int .i64 s, .int .i64 h]) ∧ Below w.heap.size w w' := by
  go_enter Try.func7, Try.ntmps7
  go_wp2
  refine bodyPost_ret (v := .agg #[.int .i64 s, .int .i64 h]) (by simp [results, Try.results7, go_sem]) rfl ⟨rfl, ?_⟩
  repeat (first | exact Below.refl _ _ | refine Below.setCell ?_ (by simp; try omega) _ | refine Below.alloc ?_ (by simp; try omega) _)
end Go.Proofs.Ytgoknmnmckoniaa
