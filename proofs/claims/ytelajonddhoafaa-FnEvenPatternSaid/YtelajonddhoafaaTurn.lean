/- Contracts of TurnPattern, of the program and of the reference, and of turned. Condition: numbers that fit int64. -/
import Derived.Test.YtelajonddhoafaaPat
import Derived.Test.YtelajonddhoafaaReg
import Derived.BigRegion
namespace Go.Proofs.Ytelajonddhoafaa
set_option linter.unusedVariables false
open Go.RowKit

/-- step k of a pattern turned to the left by t -/
def turnTo (zs : List Bool) (t : Int) : List Bool := (List.range zs.length).map fun (k : Nat) => gb zs (((k : Int) + t) % (zs.length : Int)).toNat
def turnL (zs : List Bool) (t : Int) : List Bool := if patL zs = true ∧ inR t (-32) 32 = true then turnTo zs t else []
theorem turnTo_len (zs : List Bool) (t : Int) : (turnTo zs t).length = zs.length := by simp [turnTo]
theorem turnL_len (zs : List Bool) (t : Int) : (turnL zs t).length ≤ 32 := by
  unfold turnL; split
  · have := inR_iff.1 (‹_ ∧ _›).1
    rw [turnTo_len]; omega
  · simp
theorem turnTo_at (zs : List Bool) (t : Int) (k : Nat) (h : k < zs.length) : gb (turnTo zs t) k = gb zs (((k : Int) + t) % (zs.length : Int)).toNat := by simp [gb, turnTo, h]
theorem impl_modulo (n by_ : Int) (w : World) (hn : -1000000 ≤ n ∧ n ≤ 1000000) (hb : 0 < by_ ∧ by_ ≤ 1000000) :
    Calls Try.prog 41 #[.int .i64 n, .int .i64 by_] w fun e w' => e = .returned (.int .i64 (n % by_)) ∧ w = w' := by
  have hm : (n.tmod by_ + by_) % by_ = n % by_ := by
    rw [Int.add_emod_right, Int.tmod_def, Int.sub_emod, Int.mul_emod_right, Int.sub_zero, Int.emod_emod_of_dvd _ (Int.dvd_refl _)]
  have h1 : -by_ < n.tmod by_ ∧ n.tmod by_ < by_ := by
    have a := Int.lt_tmod_of_pos n hb.1
    have b := Int.tmod_lt_of_pos n hb.1
    omega
  have HM := Lib.hid hm; clear hm
  have e0 : by_ ≠ 0 := by omega
  go_enter Try.func41, Try.ntmps41
  go_wp2
  go_ret
  exact ⟨ret_int HM.out, rfl⟩
set_option maxHeartbeats 1000000 in
theorem impl_turned (A : Option Addr) (c : Nat) (zs : List Bool) (t : Int) (w : World) (hr : RdBo w w.heap.size A zs) (hp : patL zs = true) (ht : -1000 ≤ t ∧ t ≤ 1000) :
    Calls Try.prog 36 #[.agg #[.slice A zs.length c], .int .i64 t] w (RetP w 4 1 zs.length (bv (turnTo zs t))) := by
  obtain ⟨i0, hi, hz0, hz1, hz2⟩ := info_parts infoBool
  have hn := inR_iff.1 hp
  have hmk := fun W => run_make_rowN (P := Try.prog) 23 4 i0 (.bool false) Try.underlying23 hi hz0 .i64 .i64 zs.length zs.length (Nat.le_refl _) (by rw [hz2]; omega) (by omega) W
  have hm0 := mkB_none (turnTo zs t)
  rw [turnTo_len] at hm0
  rw [hz1, hm0] at hmk
  clear hi hz0 hz1 hz2 hm0 hp
  go_enter Try.func36, Try.ntmps36
  go_wp2
  clear hmk
  go_loopw [15] (fun i wr => ∃ k : Nat, k ≤ zs.length ∧ i = .int .i64 k ∧ Blk wr (w.heap.size + 1 + 1) 4 (mkB (turnTo zs t) k) ∧ Blk wr (w.heap.size + 1 + 1 + 1) 25 #[.slice (some ⟨w.heap.size + 1 + 1, 0, none⟩) zs.length zs.length] ∧ Blk wr w.heap.size 25 #[.slice A zs.length c] ∧ Blk wr (w.heap.size + 1) 25 #[.slice none 0 0] ∧ Below w.heap.size w wr) (fun i _ => zs.length - (intOf i).toNat)
  case atStart =>
    exact ⟨0, Nat.zero_le _, rfl, (Blk.newAt (by simp)).alloc _, Blk.newAt (by simp), (((Blk.newAt rfl).alloc _).alloc _).alloc _, ((Blk.newAt (by simp)).alloc _).alloc _, by (repeat (first | exact Below.refl _ _ | refine Below.alloc ?_ (by simp; try omega) _ | refine below_drewN ?_ _ | refine Below.drew ?_))⟩
  case round =>
    obtain ⟨k, hk, rfl, hb2, hb3, hb0, hb1, hbel⟩ := hrel
    by_cases hlt : k < zs.length
    · have hi1 : (k : Int) < (zs.length : Int) := by omega
      have hm1 : 0 ≤ ((k : Int) + t) % (zs.length : Int) := Int.emod_nonneg _ (by omega)
      have hm2 : ((k : Int) + t) % (zs.length : Int) < (zs.length : Int) := Int.emod_lt_of_pos _ (by omega)
      obtain ⟨bb, off, rfl, hbB, hc⟩ := (hr.below hbel (Nat.le_refl _)).at_ (k := (((k : Int) + t) % (zs.length : Int)).toNat) (by omega)
      have c1 := (hb2.cell k).trans (mkB_at (turnTo zs t) k (by rw [turnTo_len]; exact hlt))
      have f1 := hb2.frozen k
      have c2 : wr.cell? ⟨w.heap.size + 1 + 1 + 1, 0, none⟩ = some (.slice (some ⟨w.heap.size + 1 + 1, 0, none⟩) zs.length zs.length) := hb3.cell 0
      have c3 : wr.cell? ⟨w.heap.size, 0, none⟩ = some (.slice (some ⟨bb, off, none⟩) zs.length c) := hb0.cell 0
      have H2 := Lib.hid hb2; have H3 := Lib.hid hb3; have H0 := Lib.hid hb0; have H1 := Lib.hid hb1; have HL := Lib.hid hbel; clear hb1 hb2 hb0 hb3 hbel hr
      go_wp2
      have e1 : IntKind.i64.wrap ((k : Int) + t) = (k : Int) + t := IntWalk.i64_in _ (by omega)
      go_region_held3 (fun w' => w'.cell? ⟨w.heap.size + 1 + 1 + 1, 0, none⟩ = some (.slice (some ⟨w.heap.size + 1 + 1, 0, none⟩) zs.length zs.length) ∧ w'.cell? ⟨w.heap.size, 0, none⟩ = some (.slice (some ⟨bb, off, none⟩) zs.length c) ∧ w'.cell? ⟨bb, off + (((k : Int) + t) % (zs.length : Int)).toNat, none⟩ = some (.bool (gb zs (((k : Int) + t) % (zs.length : Int)).toNat)))
        (first | exact ⟨c2, c3, hc⟩ | exact ⟨(World.cell?_setCell_other _ _ _ _ (by simp)).trans c2, (World.cell?_setCell_other _ _ _ _ (by simp; try omega)).trans c3, (World.cell?_setCell_other _ _ _ _ (by simp; try omega)).trans hc⟩)
        (first | (go_at_call 41; refine (impl_modulo _ _ _ (by omega) (by omega)).mono ?_; rintro e w' ⟨rfl, rfl⟩))
      all_goals
        go_wp2
        go_roundw
        case rel =>
          have e2 : (mkB (turnTo zs t) k).setIfInBounds k (.bool (gb zs (((k : Int) + t) % (zs.length : Int)).toNat)) = mkB (turnTo zs t) (k + 1) := by
            rw [← turnTo_at zs t k hlt]; exact mkB_set (turnTo zs t) k (by rw [turnTo_len]; exact hlt)
          refine ⟨k + 1, by omega, by go_num, ?_, (H3.out.far (by simp) _).drew, (H0.out.far (by simp; try omega) _).drew, (H1.out.far (by simp) _).drew, (HL.out.setCell (by simp; try omega) _).drew⟩
          rw [← e2]
          exact (H2.out.set_ k _).drew
        case measure => simp [intOf]; omega
    · obtain rfl : k = zs.length := by omega
      have c2 : wr.cell? ⟨w.heap.size + 1 + 1 + 1, 0, none⟩ = some (.slice (some ⟨w.heap.size + 1 + 1, 0, none⟩) zs.length zs.length) := hb3.cell 0
      have c0 : wr.cell? ⟨w.heap.size + 1, 0, none⟩ = some (.slice none 0 0) := hb1.cell 0
      have f0 := hb1.frozen 0
      have H2 := Lib.hid hb2; have HL := Lib.hid hbel; clear hb1 hb2 hb0 hb3 hbel hr
      go_wp2
      refine bodyPost_ret (v := .agg #[.slice (some ⟨w.heap.size + 1 + 1, 0, none⟩) zs.length zs.length]) (by simp [results, Try.results36, go_sem, c0]) rfl ?_
      have ho := (H2.out.far (p := ⟨w.heap.size + 1, 0, none⟩) (by simp) (.slice (some ⟨w.heap.size + 1 + 1, 0, none⟩) zs.length zs.length)).own (base := w.heap.size) (size := 1) (n := zs.length) (by omega) (by unfold maxLen; omega) (by rw [mkB_size _ _ (by rw [turnTo_len]; omega), turnTo_len]; omega)
      have hall := mkB_all (turnTo zs t)
      rw [turnTo_len] at hall
      rw [hall] at ho
      exact ⟨_, _, rfl, ho, HL.out.setCell (by simp) _⟩
set_option maxHeartbeats 1000000 in
theorem impl_TurnPattern (A : Option Addr) (c : Nat) (zs : List Bool) (t : Int) (w : World) (hr : RdBo w w.heap.size A zs) (hl : zs.length ≤ 1048576) :
    Calls Try.prog 25 #[.agg #[.slice A zs.length c], .int .i64 t] w (RetP w 4 1 (turnL zs t).length (bv (turnL zs t))) := by
  have hb0 : Below w.heap.size w (((w.alloc (.cells #[.slice A zs.length c] 25)).alloc (.cells #[.slice none 0 0] 25)).alloc (.cells #[.slice A zs.length c] 25)) := by (repeat (first | exact Below.refl _ _ | refine Below.alloc ?_ (by simp; try omega) _ | refine below_drewN ?_ _ | refine Below.drew ?_))
  have HR := Lib.hid ((hr.below hb0 (Nat.le_refl _)).more (C := w.heap.size + 1 + 1 + 1) (by omega))
  have HB0 := Lib.hid hb0
  clear hr hb0
  by_cases hok : patL zs = true ∧ inR t (-32) 32 = true
  · obtain ⟨hp, ht⟩ := hok
    have HF : Hid (turnL zs t = turnTo zs t) := by unfold Hid; rw [turnL, if_pos ⟨hp, ht⟩]
    have hb := inR_iff.1 ht
    go_enter Try.func25, Try.ntmps25
    go_wp2_with (first | (go_at_call 10; refine (impl_PatternValid _ _ _ _).mono ?_; rintro e w' ⟨rfl, rfl⟩) | (go_at_call 32; refine (impl_within _ _ _ _).mono ?_; rintro e w' ⟨rfl, rfl⟩))
    refine (impl_turned _ _ _ _ _ (HR.out.more (by simp)) hp (by omega)).mono ?_
    rintro e w1 ⟨A1, c1, rfl, o1, b1⟩
    have s1 : w.heap.size + 1 + 1 + 1 ≤ w1.heap.size := by simpa using b1.size
    have q1 : w1.cell? ⟨w.heap.size + 1, 0, none⟩ = some (.slice none 0 0) := by rw [b1.cell (by simp)]; simp [go_sem]
    have f1 : w1.frozen? ⟨w.heap.size + 1, 0, none⟩ = false := by rw [b1.frozen (by simp)]; simp [go_sem]
    have O1 := Lib.hid o1; have B1 := Lib.hid b1; clear o1 b1 hp ht
    go_wp2_with fail
    refine bodyPost_ret (v := .agg #[.slice A1 zs.length c1]) (by simp [results, Try.results25, go_sem, q1]) rfl ?_
    have o1 := O1.out
    have b1 := B1.out
    simp only [World.size_alloc] at o1 b1
    rw [HF.out, turnTo_len]
    exact ⟨A1, c1, rfl, own_mono (ownsRow_setCell_below o1 (by simp; try omega) _) (by omega), (HB0.out.trans (b1.mono (by omega))).setCell (by simp) _⟩
  · have HF : Hid (turnL zs t = []) := by unfold Hid; rw [turnL, if_neg hok]
    have HN := Lib.hid hok; clear hok
    cases h1 : patL zs
    · go_enter Try.func25, Try.ntmps25
      go_wp2_with (first | (go_at_call 10; refine (impl_PatternValid _ _ _ _).mono ?_; rintro e w' ⟨rfl, rfl⟩) | (go_at_call 32; refine (impl_within _ _ _ _).mono ?_; rintro e w' ⟨rfl, rfl⟩))
      refine bodyPost_ret (v := .agg #[.slice none 0 0]) (by simp [results, Try.results25, go_sem]) rfl ?_
      rw [HF.out]
      exact ⟨_, _, rfl, World.ownsRow_nil _ _ _ _, by (repeat (first | exact Below.refl _ _ | refine Below.alloc ?_ (by simp; try omega) _ | refine below_drewN ?_ _ | refine Below.drew ?_))⟩
    · have h2 : inR t (-32) 32 = false := by
        cases e : inR t (-32) 32
        · rfl
        · exact absurd ⟨h1, e⟩ HN.out
      go_enter Try.func25, Try.ntmps25
      go_wp2_with (first | (go_at_call 10; refine (impl_PatternValid _ _ _ _).mono ?_; rintro e w' ⟨rfl, rfl⟩) | (go_at_call 32; refine (impl_within _ _ _ _).mono ?_; rintro e w' ⟨rfl, rfl⟩))
      refine bodyPost_ret (v := .agg #[.slice none 0 0]) (by simp [results, Try.results25, go_sem]) rfl ?_
      rw [HF.out]
      exact ⟨_, _, rfl, World.ownsRow_nil _ _ _ _, by (repeat (first | exact Below.refl _ _ | refine Below.alloc ?_ (by simp; try omega) _ | refine below_drewN ?_ _ | refine Below.drew ?_))⟩
set_option maxHeartbeats 2000000 in
theorem spec_TurnPattern (A : Option Addr) (c : Nat) (zs : List Bool) (t : Int) (w : World) (hr : RdBo w w.heap.size A zs) (hl : zs.length ≤ 1048576) :
    Calls Try.prog 26 #[.agg #[.slice A zs.length c], .int .i64 t] w (RetP w 4 1 (turnL zs t).length (bv (turnL zs t))) := by
  obtain ⟨i0, hi, hz0, hz1, hz2⟩ := info_parts infoBool
  have HI := Lib.hid hi; have HZ0 := Lib.hid hz0; have HZ1 := Lib.hid hz1; have HZ2 := Lib.hid hz2; clear hi hz0 hz1 hz2
  by_cases hok : patL zs = true ∧ inR t (-32) 32 = true
  · obtain ⟨hp, ht⟩ := hok
    have HF : Hid (turnL zs t = turnTo zs t) := by unfold Hid; rw [turnL, if_pos ⟨hp, ht⟩]
    have hb := inR_iff.1 ht
    have hn := inR_iff.1 hp
    go_enter Try.func26, Try.ntmps26
    go_wp2_with (first | (go_at_call 11; refine (spec_PatternValid _ _ _ _).mono ?_; rintro e w' ⟨rfl, rfl⟩) | (go_at_call 33; refine (spec_l1In _ _ _ _).mono ?_; rintro e w' ⟨rfl, rfl⟩))
    clear hp ht
    go_loopw [7] (fun i wr => ∃ k : Nat, k ≤ zs.length ∧ i = .int .i64 k ∧ ∃ A' c', Blk wr (w.heap.size + 1 + 1 + 1) 25 #[.slice A' k c'] ∧ wr.ownsRow (w.heap.size + 1 + 1 + 1 + 1) 4 1 (.slice A' k c') k (bv ((turnTo zs t).take k)) ∧ Blk wr w.heap.size 25 #[.slice A zs.length c] ∧ Blk wr (w.heap.size + 1) 25 #[.slice none 0 0] ∧ Below w.heap.size w wr ∧ w.heap.size + 1 + 1 + 1 + 1 ≤ wr.heap.size) (fun i _ => zs.length - (intOf i).toNat)
    case atStart => exact ⟨0, Nat.zero_le _, rfl, _, _, Blk.newAt (by simp), World.ownsRow_nil _ _ _ _, (((Blk.newAt rfl).alloc _).alloc _).alloc _, ((Blk.newAt (by simp)).alloc _).alloc _, by (repeat (first | exact Below.refl _ _ | refine Below.alloc ?_ (by simp; try omega) _ | refine below_drewN ?_ _ | refine Below.drew ?_)), by simp⟩
    case round =>
      obtain ⟨k, hk, rfl, A', c', hb3, ho, hb0, hb1, hbel, hsz⟩ := hrel
      by_cases hlt : k < zs.length
      · have hi1 : (k : Int) < (zs.length : Int) := by omega
        have hm1 : 0 ≤ ((k : Int) + t) % (zs.length : Int) := Int.emod_nonneg _ (by omega)
        have hm2 : ((k : Int) + t) % (zs.length : Int) < (zs.length : Int) := Int.emod_lt_of_pos _ (by omega)
        obtain ⟨bb, off, rfl, hbB, hc⟩ := (hr.below hbel (Nat.le_refl _)).at_ (k := (((k : Int) + t) % (zs.length : Int)).toNat) (by omega)
        have c1 : wr.cell? ⟨w.heap.size + 1 + 1 + 1, 0, none⟩ = some (.slice A' k c') := hb3.cell 0
        have f1 := hb3.frozen 0
        have c1' : ∀ o, (wr.alloc o).cell? ⟨w.heap.size + 1 + 1 + 1, 0, none⟩ = some (.slice A' k c') := fun o => (hb3.alloc o).cell 0
        have c3 : wr.cell? ⟨w.heap.size, 0, none⟩ = some (.slice (some ⟨bb, off, none⟩) zs.length c) := hb0.cell 0
        have hn0 : zs.length ≠ 0 := by omega
        have e1 : IntKind.i64.wrap ((k : Int) + t) = (k : Int) + t := IntWalk.i64_in _ (by omega)
        have e2 : IntKind.i64.wrap (32 * (zs.length : Int)) = 32 * (zs.length : Int) := IntWalk.i64_in _ (by omega)
        have e3 : IntKind.i64.wrap ((k : Int) + t + 32 * (zs.length : Int)) = (k : Int) + t + 32 * (zs.length : Int) := IntWalk.i64_in _ (by omega)
        have e4 : ((k : Int) + t + 32 * (zs.length : Int)).tmod (zs.length : Int) = ((k : Int) + t + 32 * (zs.length : Int)) % (zs.length : Int) := Int.tmod_eq_emod_of_nonneg (by omega)
        have H3 := Lib.hid hb3; have HO := Lib.hid ho; have H0 := Lib.hid hb0; have H1 := Lib.hid hb1; have HL := Lib.hid hbel; clear hb3 ho hb0 hb1 hbel hr
        go_wp2
        go_region_law (first | (refine step_append_el rfl _ _ 23 rfl (w.heap.size + 1 + 1 + 1 + 1) 4 i0 (.bool false) 1 1 Try.underlying23 HI.out HZ0.out HZ1.out HZ2.out rfl (by decide) (by decide) _ k _ rfl (own_drew (HO.out.alloc _)) (by omega) wr.heap.size _ rfl (heap_alloc_new wr _) rfl (by simp [Value.oneCell']) (by simp; omega) ?_; intro A2 c2 w2 o2 b2 s2; have q2 : w2.cell? ⟨w.heap.size + 1 + 1 + 1, 0, none⟩ = some (.slice A' k c') := ((H3.out.alloc _).drew.below b2 (by omega)).cell 0; have f2 := ((H3.out.alloc _).drew.below b2 (by omega)).frozen 0))
        all_goals
          have B2 := Lib.hid b2; have O2 := Lib.hid o2; clear b2 o2
          go_wp2
          go_roundw
          case rel =>
            have e5 : bv ((turnTo zs t).take (k + 1)) = bv ((turnTo zs t).take k) ++ [.bool (gb zs (((k : Int) + t) % (zs.length : Int)).toNat)] := by
              rw [take_succ_gb (by rw [turnTo_len]; exact hlt), bv_append, turnTo_at zs t k hlt]; rfl
            simp only [World.size_drew, World.size_alloc] at s2
            refine ⟨k + 1, by omega, by go_num, A2, c2, (((H3.out.alloc _).drew.below B2.out (by omega)).set_ 0 _), ?_, ((H0.out.alloc _).drew.below B2.out (by omega)).far (by simp; try omega) _, ((H1.out.alloc _).drew.below B2.out (by omega)).far (by simp; try omega) _, ?_, by simp; omega⟩
            · rw [e5]; exact ownsRow_setCell_below O2.out (by simp) _
            · exact (HL.out.trans (((Below.refl _ _).alloc (by omega) _).drew.trans (B2.out.mono (by omega)))).setCell (by simp; try omega) _
          case measure => simp [intOf]; omega
      · obtain rfl : k = zs.length := by omega
        have c1 : wr.cell? ⟨w.heap.size + 1 + 1 + 1, 0, none⟩ = some (.slice A' zs.length c') := hb3.cell 0
        have c0 : wr.cell? ⟨w.heap.size + 1, 0, none⟩ = some (.slice none 0 0) := hb1.cell 0
        have f0 := hb1.frozen 0
        have HO := Lib.hid ho; have HL := Lib.hid hbel; clear hb1 hb0 hb3 ho hbel hr
        go_wp2
        refine bodyPost_ret (v := .agg #[.slice A' zs.length c']) (by simp [results, Try.results26, go_sem, c0]) rfl ?_
        have e3 : (turnTo zs t).take zs.length = turnTo zs t := List.take_of_length_le (by rw [turnTo_len]; omega)
        have ho := HO.out
        rw [e3] at ho
        rw [HF.out, turnTo_len]
        exact ⟨_, _, rfl, own_mono (ownsRow_setCell_below ho (by simp; try omega) _) (by omega), HL.out.setCell (by simp) _⟩
  · have HF : Hid (turnL zs t = []) := by unfold Hid; rw [turnL, if_neg hok]
    have HN := Lib.hid hok; clear hok
    cases h1 : patL zs
    · go_enter Try.func26, Try.ntmps26
      go_wp2_with (first | (go_at_call 11; refine (spec_PatternValid _ _ _ _).mono ?_; rintro e w' ⟨rfl, rfl⟩) | (go_at_call 33; refine (spec_l1In _ _ _ _).mono ?_; rintro e w' ⟨rfl, rfl⟩))
      refine bodyPost_ret (v := .agg #[.slice none 0 0]) (by simp [results, Try.results26, go_sem]) rfl ?_
      rw [HF.out]
      exact ⟨_, _, rfl, World.ownsRow_nil _ _ _ _, by (repeat (first | exact Below.refl _ _ | refine Below.alloc ?_ (by simp; try omega) _ | refine below_drewN ?_ _ | refine Below.drew ?_))⟩
    · have h2 : inR t (-32) 32 = false := by
        cases e : inR t (-32) 32
        · rfl
        · exact absurd ⟨h1, e⟩ HN.out
      go_enter Try.func26, Try.ntmps26
      go_wp2_with (first | (go_at_call 11; refine (spec_PatternValid _ _ _ _).mono ?_; rintro e w' ⟨rfl, rfl⟩) | (go_at_call 33; refine (spec_l1In _ _ _ _).mono ?_; rintro e w' ⟨rfl, rfl⟩))
      refine bodyPost_ret (v := .agg #[.slice none 0 0]) (by simp [results, Try.results26, go_sem]) rfl ?_
      rw [HF.out]
      exact ⟨_, _, rfl, World.ownsRow_nil _ _ _ _, by (repeat (first | exact Below.refl _ _ | refine Below.alloc ?_ (by simp; try omega) _ | refine below_drewN ?_ _ | refine Below.drew ?_))⟩
end Go.Proofs.Ytelajonddhoafaa
