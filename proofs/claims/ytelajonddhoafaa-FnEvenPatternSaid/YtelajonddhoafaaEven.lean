/- Contracts of EvenPattern, of the program and of the reference. Condition: numbers that fit int64. -/
import Derived.Test.YtelajonddhoafaaPat
import Derived.BigRegion
import Derived.Test.YtelajonddhoafaaReg
namespace Go.Proofs.Ytelajonddhoafaa
set_option linter.unusedVariables false
open Go.RowKit

def evenTo (st : Int) (n : Nat) : List Bool := (List.range n).map fun (k : Nat) => decide ((k : Int) * st % (n : Int) < st)
def evenL (st n : Int) : List Bool := if inR n 1 32 = true ∧ inR st 0 n = true then evenTo st n.toNat else []
theorem evenTo_len (st : Int) (n : Nat) : (evenTo st n).length = n := by simp [evenTo]
theorem evenTo_at (st : Int) (n k : Nat) (h : k < n) : gb (evenTo st n) k = decide ((k : Int) * st % (n : Int) < st) := by simp [gb, evenTo, h]
theorem evenL_len (st n : Int) : (evenL st n).length ≤ 32 := by
  unfold evenL; split
  · have := inR_iff.1 (‹_ ∧ _›).1
    rw [evenTo_len]; omega
  · simp
set_option maxHeartbeats 1000000 in
theorem impl_EvenPattern_yes (st : Int) (n : Nat) (w : World) (h1 : inR n 1 32 = true) (h2 : inR st 0 n = true) :
    Calls Try.prog 17 #[.int .i64 st, .int .i64 n] w (RetP w 4 1 n (bv (evenTo st n))) := by
  obtain ⟨i0, hi, hz0, hz1, hz2⟩ := info_parts infoBool
  have hn := inR_iff.1 h1
  have hst := inR_iff.1 h2
  have hmk := fun W => run_make_rowN (P := Try.prog) 23 4 i0 (.bool false) Try.underlying23 hi hz0 .i64 .i64 n n (Nat.le_refl _) (by rw [hz2]; omega) (by omega) W
  have hm0 := mkB_none (evenTo st n)
  rw [evenTo_len] at hm0
  rw [hz1, hm0] at hmk
  clear hi hz0 hz1 hz2 hm0
  go_enter Try.func17, Try.ntmps17
  go_wp2_with (go_at_call 32; refine (impl_within _ _ _ _).mono ?_; rintro e w' ⟨rfl, rfl⟩)
  clear hmk h1 h2
  go_loopw [23] (fun i wr => ∃ k : Nat, k ≤ n ∧ i = .int .i64 k ∧ Blk wr (w.heap.size + 1) 4 (mkB (evenTo st n) k) ∧ Blk wr (w.heap.size + 2) 25 #[.slice (some ⟨w.heap.size + 1, 0, none⟩) n n] ∧ Blk wr w.heap.size 25 #[.slice none 0 0] ∧ Below w.heap.size w wr) (fun i _ => n - (intOf i).toNat)
  case atStart =>
    exact ⟨0, Nat.zero_le _, rfl, (Blk.newAt (by simp)).alloc _, Blk.newAt (by simp), ((Blk.newAt rfl).alloc _).alloc _, by (repeat (first | exact Below.refl _ _ | refine Below.alloc ?_ (by simp; try omega) _ | refine below_drewN ?_ _ | refine Below.drew ?_))⟩
  case round =>
    obtain ⟨k, hk, rfl, hb1, hb2, hb0, hbel⟩ := hrel
    by_cases hlt : k < n
    · have hi1 : (k : Int) < (n : Int) := by omega
      have c1 := (hb1.cell k).trans (mkB_at (evenTo st n) k (by rw [evenTo_len]; exact hlt))
      have f1 := hb1.frozen k
      have c2 : wr.cell? ⟨w.heap.size + 2, 0, none⟩ = some (.slice (some ⟨w.heap.size + 1, 0, none⟩) n n) := hb2.cell 0
      have hp := mul_le_cap' (x := (k : Int)) (y := st) (X := 32) (Y := 32) (by omega) (by omega)
      have e1 : IntKind.i64.wrap ((k : Int) * st) = (k : Int) * st := IntWalk.i64_in _ (by omega)
      have H1 := Lib.hid hb1; have H2 := Lib.hid hb2; have H0 := Lib.hid hb0; have HL := Lib.hid hbel; clear hb1 hb2 hb0 hbel
      go_wp2
      go_region
      go_wp2
      go_roundw
      case rel =>
        have e2 : (mkB (evenTo st n) k).setIfInBounds k (.bool (decide ((k : Int) * st % (n : Int) < st))) = mkB (evenTo st n) (k + 1) := by
          rw [← evenTo_at st n k hlt]; exact mkB_set (evenTo st n) k (by rw [evenTo_len]; exact hlt)
        refine ⟨k + 1, by omega, by go_num, ?_, (H2.out.far (by simp) _).drew, (H0.out.far (by simp) _).drew, (HL.out.setCell (by simp) _).drew⟩
        rw [← e2]
        exact (H1.out.set_ k _).drew
      case measure => simp [intOf]; omega
    · obtain rfl : k = n := by omega
      have c2 : wr.cell? ⟨w.heap.size + 2, 0, none⟩ = some (.slice (some ⟨w.heap.size + 1, 0, none⟩) k k) := hb2.cell 0
      have c0 : wr.cell? ⟨w.heap.size, 0, none⟩ = some (.slice none 0 0) := hb0.cell 0
      have f0 := hb0.frozen 0
      have H1 := Lib.hid hb1; have H2 := Lib.hid hb2; have H0 := Lib.hid hb0; have HL := Lib.hid hbel; clear hb1 hb2 hb0 hbel
      go_wp2
      refine bodyPost_ret (v := .agg #[.slice (some ⟨w.heap.size + 1, 0, none⟩) k k]) (by simp [results, Try.results17, go_sem, c0]) rfl ?_
      have ho := (H1.out.far (p := ⟨w.heap.size, 0, none⟩) (by simp) (.slice (some ⟨w.heap.size + 1, 0, none⟩) k k)).own (base := w.heap.size) (size := 1) (n := k) (by omega) (by unfold maxLen; omega) (by rw [mkB_size _ _ (by rw [evenTo_len]; omega), evenTo_len]; omega)
      have hall := mkB_all (evenTo st k)
      rw [evenTo_len] at hall
      rw [hall] at ho
      exact ⟨_, _, rfl, ho, HL.out.setCell (Nat.le_refl _) _⟩
set_option maxHeartbeats 1000000 in
theorem spec_EvenPattern_yes (st : Int) (n : Nat) (w : World) (h1 : inR n 1 32 = true) (h2 : inR st 0 n = true) :
    Calls Try.prog 18 #[.int .i64 st, .int .i64 n] w (RetP w 4 1 n (bv (evenTo st n))) := by
  obtain ⟨i0, hi, hz0, hz1, hz2⟩ := info_parts infoBool
  have HI := Lib.hid hi; have HZ0 := Lib.hid hz0; have HZ1 := Lib.hid hz1; have HZ2 := Lib.hid hz2; clear hi hz0 hz1 hz2
  have hn := inR_iff.1 h1
  have hst := inR_iff.1 h2
  go_enter Try.func18, Try.ntmps18
  go_wp2_with (go_at_call 33; refine (spec_l1In _ _ _ _).mono ?_; rintro e w' ⟨rfl, rfl⟩)
  clear h1 h2
  go_loopw [6] (fun i wr => ∃ k : Nat, k ≤ n ∧ i = .int .i64 k ∧ ∃ A c, Blk wr (w.heap.size + 1) 25 #[.slice A k c] ∧ wr.ownsRow (w.heap.size + 2) 4 1 (.slice A k c) k (bv (evenTo st n |>.take k)) ∧ Blk wr w.heap.size 25 #[.slice none 0 0] ∧ Below w.heap.size w wr ∧ w.heap.size + 2 ≤ wr.heap.size) (fun i _ => n - (intOf i).toNat)
  case atStart => exact ⟨0, Nat.zero_le _, rfl, _, _, Blk.newAt (by simp), World.ownsRow_nil _ _ _ _, (Blk.newAt rfl).alloc _, by (repeat (first | exact Below.refl _ _ | refine Below.alloc ?_ (by simp; try omega) _ | refine below_drewN ?_ _ | refine Below.drew ?_)), by simp⟩
  case round =>
    obtain ⟨k, hk, rfl, A, c, hb1, ho, hb0, hbel, hsz⟩ := hrel
    by_cases hlt : k < n
    · have c1 : wr.cell? ⟨w.heap.size + 1, 0, none⟩ = some (.slice A k c) := hb1.cell 0
      have f1 := hb1.frozen 0
      have c1' : ∀ o, (wr.alloc o).cell? ⟨w.heap.size + 1, 0, none⟩ = some (.slice A k c) := fun o => (hb1.alloc o).cell 0
      have hp := mul_le_cap' (x := (k : Int)) (y := st) (X := 32) (Y := 32) (by omega) (by omega)
      have e1 : IntKind.i64.wrap ((k : Int) * st) = (k : Int) * st := IntWalk.i64_in _ (by omega)
      have hn0 : n ≠ 0 := by omega
      have e2 : ((k : Int) * st).tmod (n : Int) = (k : Int) * st % (n : Int) := Int.tmod_eq_emod_of_nonneg hp.1
      have H1 := Lib.hid hb1; have HO := Lib.hid ho; have H0 := Lib.hid hb0; have HL := Lib.hid hbel; clear hb1 ho hb0 hbel
      go_wp2
      go_region_law (first | (refine step_append_el rfl _ _ 23 rfl (w.heap.size + 2) 4 i0 (.bool false) 1 1 Try.underlying23 HI.out HZ0.out HZ1.out HZ2.out rfl (by decide) (by decide) _ k _ rfl (own_drew (HO.out.alloc _)) (by omega) wr.heap.size _ rfl (heap_alloc_new wr _) rfl (by simp [Value.oneCell']) (by simp; omega) ?_; intro A2 c2 w2 o2 b2 s2; have q2 : w2.cell? ⟨w.heap.size + 1, 0, none⟩ = some (.slice A k c) := ((H1.out.alloc _).drew.below b2 (by omega)).cell 0; have f2 := ((H1.out.alloc _).drew.below b2 (by omega)).frozen 0))
      all_goals
        have B2 := Lib.hid b2; have O2 := Lib.hid o2; clear b2 o2
        go_wp2
        go_roundw
        case rel =>
          have e3 : bv ((evenTo st n).take (k + 1)) = bv ((evenTo st n).take k) ++ [.bool (decide ((k : Int) * st % (n : Int) < st))] := by
            rw [take_succ_gb (by rw [evenTo_len]; exact hlt), bv_append, evenTo_at st n k hlt]; rfl
          simp only [World.size_drew, World.size_alloc] at s2
          refine ⟨k + 1, by omega, by go_num, A2, c2, (((H1.out.alloc _).drew.below B2.out (by omega)).set_ 0 _), ?_, ((H0.out.alloc _).drew.below B2.out (by omega)).far (by simp) _, ?_, by simp; omega⟩
          · rw [e3]; exact ownsRow_setCell_below O2.out (by simp) _
          · exact (HL.out.trans (((Below.refl _ _).alloc (by omega) _).drew.trans (B2.out.mono (by omega)))).setCell (by simp) _
        case measure => simp [intOf]; omega
    · obtain rfl : k = n := by omega
      have c1 : wr.cell? ⟨w.heap.size + 1, 0, none⟩ = some (.slice A k c) := hb1.cell 0
      have c0 : wr.cell? ⟨w.heap.size, 0, none⟩ = some (.slice none 0 0) := hb0.cell 0
      have f0 := hb0.frozen 0
      have HO := Lib.hid ho; have HL := Lib.hid hbel; clear hb1 hb0 ho hbel
      go_wp2
      refine bodyPost_ret (v := .agg #[.slice A k c]) (by simp [results, Try.results18, go_sem, c0]) rfl ?_
      have e3 : (evenTo st k).take k = evenTo st k := List.take_of_length_le (by rw [evenTo_len]; omega)
      have ho := HO.out
      rw [e3] at ho
      exact ⟨_, _, rfl, own_mono (ownsRow_setCell_below ho (by simp) _) (by omega), HL.out.setCell (Nat.le_refl _) _⟩
theorem impl_EvenPattern (st n : Int) (w : World) : Calls Try.prog 17 #[.int .i64 st, .int .i64 n] w (RetP w 4 1 (evenL st n).length (bv (evenL st n))) := by
  by_cases hok : inR n 1 32 = true ∧ inR st 0 n = true
  · have hn := inR_iff.1 hok.1
    obtain ⟨m, rfl⟩ := Int.eq_ofNat_of_zero_le (show 0 ≤ n by omega)
    have e : evenL st m = evenTo st m := by rw [evenL, if_pos hok, Int.toNat_natCast]
    rw [e, evenTo_len]
    exact impl_EvenPattern_yes st m w hok.1 hok.2
  · have HF : Hid (evenL st n = []) := by unfold Hid; rw [evenL, if_neg hok]
    have HN := Lib.hid hok; clear hok
    cases h1 : inR n 1 32
    · go_enter Try.func17, Try.ntmps17
      go_wp2_with (go_at_call 32; refine (impl_within _ _ _ _).mono ?_; rintro e w' ⟨rfl, rfl⟩)
      refine bodyPost_ret (v := .agg #[.slice none 0 0]) (by simp [results, Try.results17, go_sem]) rfl ?_
      rw [HF.out]
      exact ⟨_, _, rfl, World.ownsRow_nil _ _ _ _, by (repeat (first | exact Below.refl _ _ | refine Below.alloc ?_ (by simp; try omega) _ | refine below_drewN ?_ _ | refine Below.drew ?_))⟩
    · have h2 : inR st 0 n = false := by
        cases e : inR st 0 n
        · rfl
        · exact absurd ⟨h1, e⟩ HN.out
      go_enter Try.func17, Try.ntmps17
      go_wp2_with (go_at_call 32; refine (impl_within _ _ _ _).mono ?_; rintro e w' ⟨rfl, rfl⟩)
      refine bodyPost_ret (v := .agg #[.slice none 0 0]) (by simp [results, Try.results17, go_sem]) rfl ?_
      rw [HF.out]
      exact ⟨_, _, rfl, World.ownsRow_nil _ _ _ _, by (repeat (first | exact Below.refl _ _ | refine Below.alloc ?_ (by simp; try omega) _ | refine below_drewN ?_ _ | refine Below.drew ?_))⟩
theorem spec_EvenPattern (st n : Int) (w : World) : Calls Try.prog 18 #[.int .i64 st, .int .i64 n] w (RetP w 4 1 (evenL st n).length (bv (evenL st n))) := by
  by_cases hok : inR n 1 32 = true ∧ inR st 0 n = true
  · have hn := inR_iff.1 hok.1
    obtain ⟨m, rfl⟩ := Int.eq_ofNat_of_zero_le (show 0 ≤ n by omega)
    have e : evenL st m = evenTo st m := by rw [evenL, if_pos hok, Int.toNat_natCast]
    rw [e, evenTo_len]
    exact spec_EvenPattern_yes st m w hok.1 hok.2
  · have HF : Hid (evenL st n = []) := by unfold Hid; rw [evenL, if_neg hok]
    have HN := Lib.hid hok; clear hok
    cases h1 : inR n 1 32
    · go_enter Try.func18, Try.ntmps18
      go_wp2_with (go_at_call 33; refine (spec_l1In _ _ _ _).mono ?_; rintro e w' ⟨rfl, rfl⟩)
      refine bodyPost_ret (v := .agg #[.slice none 0 0]) (by simp [results, Try.results18, go_sem]) rfl ?_
      rw [HF.out]
      exact ⟨_, _, rfl, World.ownsRow_nil _ _ _ _, by (repeat (first | exact Below.refl _ _ | refine Below.alloc ?_ (by simp; try omega) _ | refine below_drewN ?_ _ | refine Below.drew ?_))⟩
    · have h2 : inR st 0 n = false := by
        cases e : inR st 0 n
        · rfl
        · exact absurd ⟨h1, e⟩ HN.out
      go_enter Try.func18, Try.ntmps18
      go_wp2_with (go_at_call 33; refine (spec_l1In _ _ _ _).mono ?_; rintro e w' ⟨rfl, rfl⟩)
      refine bodyPost_ret (v := .agg #[.slice none 0 0]) (by simp [results, Try.results18, go_sem]) rfl ?_
      rw [HF.out]
      exact ⟨_, _, rfl, World.ownsRow_nil _ _ _ _, by (repeat (first | exact Below.refl _ _ | refine Below.alloc ?_ (by simp; try omega) _ | refine below_drewN ?_ _ | refine Below.drew ?_))⟩
end Go.Proofs.Ytelajonddhoafaa
