/- Contracts of VoiceValid, of the program and of the reference. Condition: at most 2^20 notes. -/
import Derived.Test.YtmodpleonhniaaaGreatDoorMrg1
import Derived.Test.YtmodpleonhniaaaGreatDoorQuiL
import Derived.Test.YtmodpleonhniaaaGreatDoorPreQ
import Derived.Deep.RegionHeld3
namespace Go.Proofs.YtmodpleonhniaaaGreatDoor
open Go.RowKit
set_option linter.unusedSimpArgs false
set_option linter.unusedVariables false
set_option maxRecDepth 100000
set_option maxHeartbeats 4000000 in
theorem impl_VoiceValid (A : Option Addr) (c : Nat) (v : List Nt) (w : World) (hr : RdNote w w.heap.size A v) (hl : v.length ≤ 1048576) :
    Calls Tryz.prog 28 #[.slice A v.length c] w (RetB w (vvB v)) := by
  by_cases h60 : v.length ≤ 60
  case neg =>
    have HF := Lib.hid (vv_no h60)
    have d0 : decide (60 < (v.length : Int)) = true := decide_eq_true (by omega)
    have d1 : decide (60 < v.length) = true := decide_eq_true (by omega)
    clear hr h60
    go_enter Tryz.func28, Tryz.ntmps28
    go_wp2_with fail
    go_ret
    exact ⟨ret_bool HF.out.symm, Below.refl _ _⟩
  have HR := Lib.hid hr
  clear hr
  go_enter Tryz.func28, Tryz.ntmps28
  go_wp2_with fail
  go_loopw [10] (fun i wr => ∃ k : Nat, k ≤ v.length ∧ i = .int .i64 k ∧ Below w.heap.size w wr ∧ ∀ j, j < k → vgB v j = true) (fun i _ => v.length - (intOf i).toNat)
  case atStart => exact ⟨0, Nat.zero_le _, rfl, Below.refl _ _, fun j h => by omega⟩
  case round =>
    obtain ⟨k, hk, rfl, hbel, hok⟩ := hrel
    have HB := Lib.hid hbel; have HK := Lib.hid hok
    have hsz := hbel.size
    clear hok
    by_cases hlt : k < v.length
    · have hr' := RdNote.below HR.out hbel (Nat.le_refl _)
      have HT := Lib.hid (fun h => vv_bad (v := v) hlt h)
      have hi1 : (k : Int) < (v.length : Int) := by omega
      have hin : (k : Int).toNat = k := by omega
      obtain ⟨b, off, rfl, hbB2, hc0, hc1, hc2, hc3, hc4, hc5⟩ := hr'.at_ (k := k) hlt
      have HD := Lib.hid (show vgB v k = (nvB (glNote v k) && (!(glNote v k).2.2.2.2.2 || (decide (k + 1 < v.length) && (!(glNote v (k + 1)).1 && decide ((glNote v (k + 1)).2.1 = (glNote v k).2.1 ∧ (glNote v (k + 1)).2.2.1 = (glNote v k).2.2.1 ∧ (glNote v (k + 1)).2.2.2.1 = (glNote v k).2.2.2.1))))) from rfl)
      have HN := Lib.hid (show glNote v k = ((glNote v k).1, (glNote v k).2.1, (glNote v k).2.2.1, (glNote v k).2.2.2.1, (glNote v k).2.2.2.2.1, (glNote v k).2.2.2.2.2) from rfl)
      have HR2 := Lib.hid hr'
      clear hr' hbel
      generalize hnv : nvB (glNote v k) = nv at *
      have HNV : Hid (nvB ((glNote v k).1, (glNote v k).2.1, (glNote v k).2.2.1, (glNote v k).2.2.2.1, (glNote v k).2.2.2.2.1, (glNote v k).2.2.2.2.2) = nv) := Lib.hid hnv
      clear hnv
      have HNC : Hid (∀ w', Calls Tryz.prog 58 #[.agg #[.bool (glNote v k).1, .int .i64 (glNote v k).2.1, .int .i64 (glNote v k).2.2.1, .int .i64 (glNote v k).2.2.2.1, .int .i64 (glNote v k).2.2.2.2.1, .bool (glNote v k).2.2.2.2.2]] w' (RetB w' nv)) := Lib.hid (fun w' => HNV.out ▸ impl_NoteValid _ _ _ _ _ _ w')
      clear HNV
      generalize (glNote v k).1 = r0 at *
      generalize (glNote v k).2.1 = x0 at *
      generalize (glNote v k).2.2.1 = y0 at *
      generalize (glNote v k).2.2.2.1 = z0 at *
      generalize (glNote v k).2.2.2.2.1 = t0 at *
      generalize (glNote v k).2.2.2.2.2 = d0 at *
      clear HN
      have HAB := Lib.hid (HB.out.alloc hsz (.cells #[.bool r0, .int .i64 x0, .int .i64 y0, .int .i64 z0, .int .i64 t0, .bool d0] 60))
      have hblk := Blk.new wr 60 #[.bool r0, .int .i64 x0, .int .i64 y0, .int .i64 z0, .int .i64 t0, .bool d0]
      have q0 := hblk.cell 0; have q1 := hblk.cell 1; have q2 := hblk.cell 2; have q3 := hblk.cell 3; have q4 := hblk.cell 4; have q5 := hblk.cell 5
      have za : wr.heap.size + 1 ≤ (wr.alloc (.cells #[.bool r0, .int .i64 x0, .int .i64 y0, .int .i64 z0, .int .i64 t0, .bool d0] 60)).heap.size := by simp
      clear hblk
      cases nv
      ·
        have HF := Lib.hid (HT.out (by rw [HD.out]; simp))
        clear HT HK HD
        go_wp2_with fail
        generalize (wr.alloc (.cells #[.bool r0, .int .i64 x0, .int .i64 y0, .int .i64 z0, .int .i64 t0, .bool d0] 60)) = wa at *
        have sd : wa.drew.heap.size = wa.heap.size := rfl
        have sq0 := fun (p : PreW wa) => p.cell q0
        have sq1 := fun (p : PreW wa) => p.cell q1
        have sq2 := fun (p : PreW wa) => p.cell q2
        have sq3 := fun (p : PreW wa) => p.cell q3
        have sq4 := fun (p : PreW wa) => p.cell q4
        have sq5 := fun (p : PreW wa) => p.cell q5
        
        refine wp_region_quiet_pre (by kernel_rfl) (by kernel_rfl) ?_
        repeat (go_big_quiet_step (((go_at_call 58; exact pre_of (HNC.out _)))))
        refine wpQuiet_nil ?_
        intro _ hw'
        obtain ⟨⟨wq, bq⟩, hw''⟩ := hw'
        subst hw''
        try dsimp only
        have HBF := Lib.hid (HAB.out.trans (bq.mono (by omega)))
        clear bq
        go_wp2_with fail
        go_ret
        exact ⟨ret_bool HF.out.symm, HBF.out⟩
      cases d0
      ·
        have HG : Hid (vgB v k = true) := Lib.hid (by rw [HD.out]; simp)
        have HF : Hid (∀ j, j < k + 1 → vgB v j = true) := Lib.hid (fun j hj => by
          rcases Nat.lt_or_ge j k with h | h
          · exact HK.out j h
          · obtain rfl : j = k := by omega
            exact HG.out)
        clear HT HK HD HG
        go_wp2_with fail
        generalize (wr.alloc (.cells #[.bool r0, .int .i64 x0, .int .i64 y0, .int .i64 z0, .int .i64 t0, .bool false] 60)) = wa at *
        have sd : wa.drew.heap.size = wa.heap.size := rfl
        have sq0 := fun (p : PreW wa) => p.cell q0
        have sq1 := fun (p : PreW wa) => p.cell q1
        have sq2 := fun (p : PreW wa) => p.cell q2
        have sq3 := fun (p : PreW wa) => p.cell q3
        have sq4 := fun (p : PreW wa) => p.cell q4
        have sq5 := fun (p : PreW wa) => p.cell q5
        
        refine wp_region_quiet_pre (by kernel_rfl) (by kernel_rfl) ?_
        repeat (go_big_quiet_step (((go_at_call 58; exact pre_of (HNC.out _)))))
        refine wpQuiet_nil ?_
        intro _ hw'
        obtain ⟨⟨wq, bq⟩, hw''⟩ := hw'
        subst hw''
        try dsimp only
        have HBF := Lib.hid (HAB.out.trans (bq.mono (by omega)))
        clear bq
        go_wp2_with fail
        go_roundw
        case rel => exact ⟨k + 1, by omega, by go_num, HBF.out, HF.out⟩
        case measure => simp [intOf]; omega
      by_cases hnx : k + 1 < v.length
      case neg =>
        have HF := Lib.hid (HT.out (by rw [HD.out, decide_eq_false hnx]; simp))
        have e1 : ((k : Int) + 1 == (v.length : Int)) = true := beq_iff_eq.2 (by omega)
        have e2 : ((k : Int) == (v.length : Int) - 1) = true := beq_iff_eq.2 (by omega)
        clear HT HK HD
        go_wp2_with fail
        generalize (wr.alloc (.cells #[.bool r0, .int .i64 x0, .int .i64 y0, .int .i64 z0, .int .i64 t0, .bool true] 60)) = wa at *
        have sd : wa.drew.heap.size = wa.heap.size := rfl
        have sq0 := fun (p : PreW wa) => p.cell q0
        have sq1 := fun (p : PreW wa) => p.cell q1
        have sq2 := fun (p : PreW wa) => p.cell q2
        have sq3 := fun (p : PreW wa) => p.cell q3
        have sq4 := fun (p : PreW wa) => p.cell q4
        have sq5 := fun (p : PreW wa) => p.cell q5
        
        refine wp_region_quiet_pre (by kernel_rfl) (by kernel_rfl) ?_
        repeat (go_big_quiet_step (((go_at_call 58; exact pre_of (HNC.out _)))))
        refine wpQuiet_nil ?_
        intro _ hw'
        obtain ⟨⟨wq, bq⟩, hw''⟩ := hw'
        subst hw''
        try dsimp only
        have HBF := Lib.hid (HAB.out.trans (bq.mono (by omega)))
        clear bq
        go_wp2_with fail
        go_ret
        exact ⟨ret_bool HF.out.symm, HBF.out⟩
      have e1 : ((k : Int) + 1 == (v.length : Int)) = false := beq_eq_false_iff_ne.2 (by omega)
      have e2 : ((k : Int) == (v.length : Int) - 1) = false := beq_eq_false_iff_ne.2 (by omega)
      have hi2 : (k : Int) + 1 < (v.length : Int) := by omega
      have hin2 : ((k : Int) + 1).toNat = k + 1 := by omega
      obtain ⟨b', off', e', -, p0, p1, p2, p3, -, -⟩ := HR2.out.at_ (k := k + 1) hnx
      injection e' with e'; injection e' with e3 e4; subst e3; subst e4
      generalize (glNote v (k + 1)).1 = r1 at *
      generalize (glNote v (k + 1)).2.1 = x1 at *
      generalize (glNote v (k + 1)).2.2.1 = y1 at *
      generalize (glNote v (k + 1)).2.2.2.1 = z1 at *
      have HNX := Lib.hid (decide_eq_true hnx)
      cases r1
      case true =>
        have HF := Lib.hid (HT.out (by rw [HD.out]; simp))
        clear HT HK HD HNX
        go_wp2_with fail
        have p0' : (wr.alloc (.cells #[.bool r0, .int .i64 x0, .int .i64 y0, .int .i64 z0, .int .i64 t0, .bool true] 60)).cell? ⟨b, off + (k + 1) * 6, none⟩ = _ := (World.cell?_alloc_lt wr _ _ (by simp; omega)).trans p0
        have p1' : (wr.alloc (.cells #[.bool r0, .int .i64 x0, .int .i64 y0, .int .i64 z0, .int .i64 t0, .bool true] 60)).cell? ⟨b, off + (k + 1) * 6 + 1, none⟩ = _ := (World.cell?_alloc_lt wr _ _ (by simp; omega)).trans p1
        have p2' : (wr.alloc (.cells #[.bool r0, .int .i64 x0, .int .i64 y0, .int .i64 z0, .int .i64 t0, .bool true] 60)).cell? ⟨b, off + (k + 1) * 6 + 2, none⟩ = _ := (World.cell?_alloc_lt wr _ _ (by simp; omega)).trans p2
        have p3' : (wr.alloc (.cells #[.bool r0, .int .i64 x0, .int .i64 y0, .int .i64 z0, .int .i64 t0, .bool true] 60)).cell? ⟨b, off + (k + 1) * 6 + 3, none⟩ = _ := (World.cell?_alloc_lt wr _ _ (by simp; omega)).trans p3
        generalize (wr.alloc (.cells #[.bool r0, .int .i64 x0, .int .i64 y0, .int .i64 z0, .int .i64 t0, .bool true] 60)) = wa at *
        have sd : wa.drew.heap.size = wa.heap.size := rfl
        have sq0 := fun (p : PreW wa) => p.cell q0
        have sq1 := fun (p : PreW wa) => p.cell q1
        have sq2 := fun (p : PreW wa) => p.cell q2
        have sq3 := fun (p : PreW wa) => p.cell q3
        have sq4 := fun (p : PreW wa) => p.cell q4
        have sq5 := fun (p : PreW wa) => p.cell q5
        have sp0 := fun (p : PreW wa) => p.cell p0'
        have sp1 := fun (p : PreW wa) => p.cell p1'
        have sp2 := fun (p : PreW wa) => p.cell p2'
        have sp3 := fun (p : PreW wa) => p.cell p3'
        clear p0'
        clear p1'
        clear p2'
        clear p3'
        refine wp_region_quiet_pre (by kernel_rfl) (by kernel_rfl) ?_
        repeat (go_big_quiet_step (((go_at_call 58; exact pre_of (HNC.out _)))))
        refine wpQuiet_nil ?_
        intro _ hw'
        obtain ⟨⟨wq, bq⟩, hw''⟩ := hw'
        subst hw''
        try dsimp only
        have HBF := Lib.hid (HAB.out.trans (bq.mono (by omega)))
        clear bq
        go_wp2_with fail
        go_ret
        exact ⟨ret_bool HF.out.symm, HBF.out⟩
      by_cases hx1 : x1 = x0
      case neg =>
        have HF := Lib.hid (HT.out (by rw [HD.out]; simp [hx1]))
        have f1 : (x1 == x0) = false := beq_eq_false_iff_ne.2 hx1
        clear HT HK HD HNX
        go_wp2_with fail
        have p0' : (wr.alloc (.cells #[.bool r0, .int .i64 x0, .int .i64 y0, .int .i64 z0, .int .i64 t0, .bool true] 60)).cell? ⟨b, off + (k + 1) * 6, none⟩ = _ := (World.cell?_alloc_lt wr _ _ (by simp; omega)).trans p0
        have p1' : (wr.alloc (.cells #[.bool r0, .int .i64 x0, .int .i64 y0, .int .i64 z0, .int .i64 t0, .bool true] 60)).cell? ⟨b, off + (k + 1) * 6 + 1, none⟩ = _ := (World.cell?_alloc_lt wr _ _ (by simp; omega)).trans p1
        have p2' : (wr.alloc (.cells #[.bool r0, .int .i64 x0, .int .i64 y0, .int .i64 z0, .int .i64 t0, .bool true] 60)).cell? ⟨b, off + (k + 1) * 6 + 2, none⟩ = _ := (World.cell?_alloc_lt wr _ _ (by simp; omega)).trans p2
        have p3' : (wr.alloc (.cells #[.bool r0, .int .i64 x0, .int .i64 y0, .int .i64 z0, .int .i64 t0, .bool true] 60)).cell? ⟨b, off + (k + 1) * 6 + 3, none⟩ = _ := (World.cell?_alloc_lt wr _ _ (by simp; omega)).trans p3
        generalize (wr.alloc (.cells #[.bool r0, .int .i64 x0, .int .i64 y0, .int .i64 z0, .int .i64 t0, .bool true] 60)) = wa at *
        have sd : wa.drew.heap.size = wa.heap.size := rfl
        have sq0 := fun (p : PreW wa) => p.cell q0
        have sq1 := fun (p : PreW wa) => p.cell q1
        have sq2 := fun (p : PreW wa) => p.cell q2
        have sq3 := fun (p : PreW wa) => p.cell q3
        have sq4 := fun (p : PreW wa) => p.cell q4
        have sq5 := fun (p : PreW wa) => p.cell q5
        have sp0 := fun (p : PreW wa) => p.cell p0'
        have sp1 := fun (p : PreW wa) => p.cell p1'
        have sp2 := fun (p : PreW wa) => p.cell p2'
        have sp3 := fun (p : PreW wa) => p.cell p3'
        clear p0'
        clear p1'
        clear p2'
        clear p3'
        refine wp_region_quiet_pre (by kernel_rfl) (by kernel_rfl) ?_
        repeat (go_big_quiet_step (((go_at_call 58; exact pre_of (HNC.out _)))))
        refine wpQuiet_nil ?_
        intro _ hw'
        obtain ⟨⟨wq, bq⟩, hw''⟩ := hw'
        subst hw''
        try dsimp only
        have HBF := Lib.hid (HAB.out.trans (bq.mono (by omega)))
        clear bq
        go_wp2_with fail
        go_ret
        exact ⟨ret_bool HF.out.symm, HBF.out⟩
      subst hx1
      by_cases hy1 : y1 = y0
      case neg =>
        have HF := Lib.hid (HT.out (by rw [HD.out]; simp [hy1]))
        have f1 : (y1 == y0) = false := beq_eq_false_iff_ne.2 hy1
        clear HT HK HD HNX
        go_wp2_with fail
        have p0' : (wr.alloc (.cells #[.bool r0, .int .i64 x1, .int .i64 y0, .int .i64 z0, .int .i64 t0, .bool true] 60)).cell? ⟨b, off + (k + 1) * 6, none⟩ = _ := (World.cell?_alloc_lt wr _ _ (by simp; omega)).trans p0
        have p1' : (wr.alloc (.cells #[.bool r0, .int .i64 x1, .int .i64 y0, .int .i64 z0, .int .i64 t0, .bool true] 60)).cell? ⟨b, off + (k + 1) * 6 + 1, none⟩ = _ := (World.cell?_alloc_lt wr _ _ (by simp; omega)).trans p1
        have p2' : (wr.alloc (.cells #[.bool r0, .int .i64 x1, .int .i64 y0, .int .i64 z0, .int .i64 t0, .bool true] 60)).cell? ⟨b, off + (k + 1) * 6 + 2, none⟩ = _ := (World.cell?_alloc_lt wr _ _ (by simp; omega)).trans p2
        have p3' : (wr.alloc (.cells #[.bool r0, .int .i64 x1, .int .i64 y0, .int .i64 z0, .int .i64 t0, .bool true] 60)).cell? ⟨b, off + (k + 1) * 6 + 3, none⟩ = _ := (World.cell?_alloc_lt wr _ _ (by simp; omega)).trans p3
        generalize (wr.alloc (.cells #[.bool r0, .int .i64 x1, .int .i64 y0, .int .i64 z0, .int .i64 t0, .bool true] 60)) = wa at *
        have sd : wa.drew.heap.size = wa.heap.size := rfl
        have sq0 := fun (p : PreW wa) => p.cell q0
        have sq1 := fun (p : PreW wa) => p.cell q1
        have sq2 := fun (p : PreW wa) => p.cell q2
        have sq3 := fun (p : PreW wa) => p.cell q3
        have sq4 := fun (p : PreW wa) => p.cell q4
        have sq5 := fun (p : PreW wa) => p.cell q5
        have sp0 := fun (p : PreW wa) => p.cell p0'
        have sp1 := fun (p : PreW wa) => p.cell p1'
        have sp2 := fun (p : PreW wa) => p.cell p2'
        have sp3 := fun (p : PreW wa) => p.cell p3'
        clear p0'
        clear p1'
        clear p2'
        clear p3'
        refine wp_region_quiet_pre (by kernel_rfl) (by kernel_rfl) ?_
        repeat (go_big_quiet_step (((go_at_call 58; exact pre_of (HNC.out _)))))
        refine wpQuiet_nil ?_
        intro _ hw'
        obtain ⟨⟨wq, bq⟩, hw''⟩ := hw'
        subst hw''
        try dsimp only
        have HBF := Lib.hid (HAB.out.trans (bq.mono (by omega)))
        clear bq
        go_wp2_with fail
        go_ret
        exact ⟨ret_bool HF.out.symm, HBF.out⟩
      subst hy1
      by_cases hz1 : z1 = z0
      case neg =>
        have HF := Lib.hid (HT.out (by rw [HD.out]; simp [hz1]))
        have f1 : (z1 == z0) = false := beq_eq_false_iff_ne.2 hz1
        clear HT HK HD HNX
        go_wp2_with fail
        have p0' : (wr.alloc (.cells #[.bool r0, .int .i64 x1, .int .i64 y1, .int .i64 z0, .int .i64 t0, .bool true] 60)).cell? ⟨b, off + (k + 1) * 6, none⟩ = _ := (World.cell?_alloc_lt wr _ _ (by simp; omega)).trans p0
        have p1' : (wr.alloc (.cells #[.bool r0, .int .i64 x1, .int .i64 y1, .int .i64 z0, .int .i64 t0, .bool true] 60)).cell? ⟨b, off + (k + 1) * 6 + 1, none⟩ = _ := (World.cell?_alloc_lt wr _ _ (by simp; omega)).trans p1
        have p2' : (wr.alloc (.cells #[.bool r0, .int .i64 x1, .int .i64 y1, .int .i64 z0, .int .i64 t0, .bool true] 60)).cell? ⟨b, off + (k + 1) * 6 + 2, none⟩ = _ := (World.cell?_alloc_lt wr _ _ (by simp; omega)).trans p2
        have p3' : (wr.alloc (.cells #[.bool r0, .int .i64 x1, .int .i64 y1, .int .i64 z0, .int .i64 t0, .bool true] 60)).cell? ⟨b, off + (k + 1) * 6 + 3, none⟩ = _ := (World.cell?_alloc_lt wr _ _ (by simp; omega)).trans p3
        generalize (wr.alloc (.cells #[.bool r0, .int .i64 x1, .int .i64 y1, .int .i64 z0, .int .i64 t0, .bool true] 60)) = wa at *
        have sd : wa.drew.heap.size = wa.heap.size := rfl
        have sq0 := fun (p : PreW wa) => p.cell q0
        have sq1 := fun (p : PreW wa) => p.cell q1
        have sq2 := fun (p : PreW wa) => p.cell q2
        have sq3 := fun (p : PreW wa) => p.cell q3
        have sq4 := fun (p : PreW wa) => p.cell q4
        have sq5 := fun (p : PreW wa) => p.cell q5
        have sp0 := fun (p : PreW wa) => p.cell p0'
        have sp1 := fun (p : PreW wa) => p.cell p1'
        have sp2 := fun (p : PreW wa) => p.cell p2'
        have sp3 := fun (p : PreW wa) => p.cell p3'
        clear p0'
        clear p1'
        clear p2'
        clear p3'
        refine wp_region_quiet_pre (by kernel_rfl) (by kernel_rfl) ?_
        repeat (go_big_quiet_step (((go_at_call 58; exact pre_of (HNC.out _)))))
        refine wpQuiet_nil ?_
        intro _ hw'
        obtain ⟨⟨wq, bq⟩, hw''⟩ := hw'
        subst hw''
        try dsimp only
        have HBF := Lib.hid (HAB.out.trans (bq.mono (by omega)))
        clear bq
        go_wp2_with fail
        go_ret
        exact ⟨ret_bool HF.out.symm, HBF.out⟩
      subst hz1
      have HG : Hid (vgB v k = true) := Lib.hid (by rw [HD.out, HNX.out]; simp)
      have HF : Hid (∀ j, j < k + 1 → vgB v j = true) := Lib.hid (fun j hj => by
        rcases Nat.lt_or_ge j k with h | h
        · exact HK.out j h
        · obtain rfl : j = k := by omega
          exact HG.out)
      clear HT HK HD HG HNX
      go_wp2_with fail
      have p0' : (wr.alloc (.cells #[.bool r0, .int .i64 x1, .int .i64 y1, .int .i64 z1, .int .i64 t0, .bool true] 60)).cell? ⟨b, off + (k + 1) * 6, none⟩ = _ := (World.cell?_alloc_lt wr _ _ (by simp; omega)).trans p0
      have p1' : (wr.alloc (.cells #[.bool r0, .int .i64 x1, .int .i64 y1, .int .i64 z1, .int .i64 t0, .bool true] 60)).cell? ⟨b, off + (k + 1) * 6 + 1, none⟩ = _ := (World.cell?_alloc_lt wr _ _ (by simp; omega)).trans p1
      have p2' : (wr.alloc (.cells #[.bool r0, .int .i64 x1, .int .i64 y1, .int .i64 z1, .int .i64 t0, .bool true] 60)).cell? ⟨b, off + (k + 1) * 6 + 2, none⟩ = _ := (World.cell?_alloc_lt wr _ _ (by simp; omega)).trans p2
      have p3' : (wr.alloc (.cells #[.bool r0, .int .i64 x1, .int .i64 y1, .int .i64 z1, .int .i64 t0, .bool true] 60)).cell? ⟨b, off + (k + 1) * 6 + 3, none⟩ = _ := (World.cell?_alloc_lt wr _ _ (by simp; omega)).trans p3
      generalize (wr.alloc (.cells #[.bool r0, .int .i64 x1, .int .i64 y1, .int .i64 z1, .int .i64 t0, .bool true] 60)) = wa at *
      have sd : wa.drew.heap.size = wa.heap.size := rfl
      have sq0 := fun (p : PreW wa) => p.cell q0
      have sq1 := fun (p : PreW wa) => p.cell q1
      have sq2 := fun (p : PreW wa) => p.cell q2
      have sq3 := fun (p : PreW wa) => p.cell q3
      have sq4 := fun (p : PreW wa) => p.cell q4
      have sq5 := fun (p : PreW wa) => p.cell q5
      have sp0 := fun (p : PreW wa) => p.cell p0'
      have sp1 := fun (p : PreW wa) => p.cell p1'
      have sp2 := fun (p : PreW wa) => p.cell p2'
      have sp3 := fun (p : PreW wa) => p.cell p3'
      clear p0'
      clear p1'
      clear p2'
      clear p3'
      refine wp_region_quiet_pre (by kernel_rfl) (by kernel_rfl) ?_
      repeat (go_big_quiet_step (((go_at_call 58; exact pre_of (HNC.out _)))))
      refine wpQuiet_nil ?_
      intro _ hw'
      obtain ⟨⟨wq, bq⟩, hw''⟩ := hw'
      subst hw''
      try dsimp only
      have HBF := Lib.hid (HAB.out.trans (bq.mono (by omega)))
      clear bq
      go_wp2_with fail
      go_roundw
      case rel => exact ⟨k + 1, by omega, by go_num, HBF.out, HF.out⟩
      case measure => simp [intOf]; omega
    · obtain rfl : k = v.length := by omega
      have HF := Lib.hid ((vv_all HK.out).trans (decide_eq_true h60))
      clear HK hbel
      go_wp2_with fail
      go_ret
      exact ⟨ret_bool HF.out.symm, HB.out⟩
set_option maxHeartbeats 4000000 in
theorem spec_VoiceValid (A : Option Addr) (c : Nat) (v : List Nt) (w : World) (hr : RdNote w w.heap.size A v) (hl : v.length ≤ 1048576) :
    Calls Tryz.prog 22 #[.slice A v.length c] w (RetB w (vvB v)) := by
  have HR := Lib.hid hr
  clear hr
  go_enter Tryz.func22, Tryz.ntmps22
  go_wp2_with fail
  go_loopw [3] (fun i wr => ∃ k : Nat, k ≤ v.length ∧ i = .int .i64 k ∧ Below w.heap.size w wr ∧ ∀ j, j < k → vgB v j = true) (fun i _ => v.length - (intOf i).toNat)
  case atStart => exact ⟨0, Nat.zero_le _, rfl, Below.refl _ _, fun j h => by omega⟩
  case round =>
    obtain ⟨k, hk, rfl, hbel, hok⟩ := hrel
    have HB := Lib.hid hbel; have HK := Lib.hid hok
    have hsz := hbel.size
    clear hok
    by_cases hlt : k < v.length
    · have hr' := RdNote.below HR.out hbel (Nat.le_refl _)
      have HT := Lib.hid (fun h => vv_bad (v := v) hlt h)
      have hi1 : (k : Int) < (v.length : Int) := by omega
      have hin : (k : Int).toNat = k := by omega
      obtain ⟨b, off, rfl, hbB2, hc0, hc1, hc2, hc3, hc4, hc5⟩ := hr'.at_ (k := k) hlt
      have HD := Lib.hid (show vgB v k = (nvB (glNote v k) && (!(glNote v k).2.2.2.2.2 || (decide (k + 1 < v.length) && (!(glNote v (k + 1)).1 && decide ((glNote v (k + 1)).2.1 = (glNote v k).2.1 ∧ (glNote v (k + 1)).2.2.1 = (glNote v k).2.2.1 ∧ (glNote v (k + 1)).2.2.2.1 = (glNote v k).2.2.2.1))))) from rfl)
      have HN := Lib.hid (show glNote v k = ((glNote v k).1, (glNote v k).2.1, (glNote v k).2.2.1, (glNote v k).2.2.2.1, (glNote v k).2.2.2.2.1, (glNote v k).2.2.2.2.2) from rfl)
      have HR2 := Lib.hid hr'
      clear hr' hbel
      generalize hnv : nvB (glNote v k) = nv at *
      have HNV : Hid (nvB ((glNote v k).1, (glNote v k).2.1, (glNote v k).2.2.1, (glNote v k).2.2.2.1, (glNote v k).2.2.2.2.1, (glNote v k).2.2.2.2.2) = nv) := Lib.hid hnv
      clear hnv
      have HNC : Hid (∀ w', Calls Tryz.prog 49 #[.agg #[.bool (glNote v k).1, .int .i64 (glNote v k).2.1, .int .i64 (glNote v k).2.2.1, .int .i64 (glNote v k).2.2.2.1, .int .i64 (glNote v k).2.2.2.2.1, .bool (glNote v k).2.2.2.2.2]] w' (RetB w' nv)) := Lib.hid (fun w' => HNV.out ▸ spec_NoteValid _ _ _ _ _ _ w')
      clear HNV
      generalize (glNote v k).1 = r0 at *
      generalize (glNote v k).2.1 = x0 at *
      generalize (glNote v k).2.2.1 = y0 at *
      generalize (glNote v k).2.2.2.1 = z0 at *
      generalize (glNote v k).2.2.2.2.1 = t0 at *
      generalize (glNote v k).2.2.2.2.2 = d0 at *
      clear HN
      cases nv
      ·
        have HF := Lib.hid (HT.out (by rw [HD.out]; simp))
        clear HT HK HD
        go_wp2_with fail
        refine (HNC.out _).mono ?_; rintro e w1 ⟨rfl, b1⟩; have z1 := b1.size
        have c0' := (b1.cell (p := ⟨b, off + k * 6, none⟩) (by simp; omega)).trans hc0
        have c1' := (b1.cell (p := ⟨b, off + k * 6 + 1, none⟩) (by simp; omega)).trans hc1
        have c2' := (b1.cell (p := ⟨b, off + k * 6 + 2, none⟩) (by simp; omega)).trans hc2
        have c3' := (b1.cell (p := ⟨b, off + k * 6 + 3, none⟩) (by simp; omega)).trans hc3
        have c4' := (b1.cell (p := ⟨b, off + k * 6 + 4, none⟩) (by simp; omega)).trans hc4
        have c5' := (b1.cell (p := ⟨b, off + k * 6 + 5, none⟩) (by simp; omega)).trans hc5
        have HB1 := Lib.hid (HB.out.trans (b1.mono hsz))
        clear b1
        have HBF := HB1
        go_wp2_with fail
        go_ret
        exact ⟨ret_bool HF.out.symm, HBF.out⟩
      cases d0
      ·
        have HG : Hid (vgB v k = true) := Lib.hid (by rw [HD.out]; simp)
        have HF : Hid (∀ j, j < k + 1 → vgB v j = true) := Lib.hid (fun j hj => by
          rcases Nat.lt_or_ge j k with h | h
          · exact HK.out j h
          · obtain rfl : j = k := by omega
            exact HG.out)
        clear HT HK HD HG
        go_wp2_with fail
        refine (HNC.out _).mono ?_; rintro e w1 ⟨rfl, b1⟩; have z1 := b1.size
        have c0' := (b1.cell (p := ⟨b, off + k * 6, none⟩) (by simp; omega)).trans hc0
        have c1' := (b1.cell (p := ⟨b, off + k * 6 + 1, none⟩) (by simp; omega)).trans hc1
        have c2' := (b1.cell (p := ⟨b, off + k * 6 + 2, none⟩) (by simp; omega)).trans hc2
        have c3' := (b1.cell (p := ⟨b, off + k * 6 + 3, none⟩) (by simp; omega)).trans hc3
        have c4' := (b1.cell (p := ⟨b, off + k * 6 + 4, none⟩) (by simp; omega)).trans hc4
        have c5' := (b1.cell (p := ⟨b, off + k * 6 + 5, none⟩) (by simp; omega)).trans hc5
        have HB1 := Lib.hid (HB.out.trans (b1.mono hsz))
        clear b1
        go_wp2_with fail
        go_quiet (fail)
        have HBF := Lib.hid (below_drewN HB1.out 0)
        go_wp2_with fail
        go_roundw
        case rel => exact ⟨k + 1, by omega, by go_num, below_drewN HB1.out _, HF.out⟩
        case measure => simp [intOf]; omega
      by_cases hnx : k + 1 < v.length
      case neg =>
        have HF := Lib.hid (HT.out (by rw [HD.out, decide_eq_false hnx]; simp))
        have e1 : ((k : Int) + 1 == (v.length : Int)) = true := beq_iff_eq.2 (by omega)
        have e2 : ((k : Int) == (v.length : Int) - 1) = true := beq_iff_eq.2 (by omega)
        clear HT HK HD
        go_wp2_with fail
        refine (HNC.out _).mono ?_; rintro e w1 ⟨rfl, b1⟩; have z1 := b1.size
        have c0' := (b1.cell (p := ⟨b, off + k * 6, none⟩) (by simp; omega)).trans hc0
        have c1' := (b1.cell (p := ⟨b, off + k * 6 + 1, none⟩) (by simp; omega)).trans hc1
        have c2' := (b1.cell (p := ⟨b, off + k * 6 + 2, none⟩) (by simp; omega)).trans hc2
        have c3' := (b1.cell (p := ⟨b, off + k * 6 + 3, none⟩) (by simp; omega)).trans hc3
        have c4' := (b1.cell (p := ⟨b, off + k * 6 + 4, none⟩) (by simp; omega)).trans hc4
        have c5' := (b1.cell (p := ⟨b, off + k * 6 + 5, none⟩) (by simp; omega)).trans hc5
        have HB1 := Lib.hid (HB.out.trans (b1.mono hsz))
        clear b1
        go_wp2_with fail
        go_quiet (fail)
        go_wp2_with fail
        go_ret
        exact ⟨ret_bool HF.out.symm, below_drewN HB1.out _⟩
      have e1 : ((k : Int) + 1 == (v.length : Int)) = false := beq_eq_false_iff_ne.2 (by omega)
      have e2 : ((k : Int) == (v.length : Int) - 1) = false := beq_eq_false_iff_ne.2 (by omega)
      have hi2 : (k : Int) + 1 < (v.length : Int) := by omega
      have hin2 : ((k : Int) + 1).toNat = k + 1 := by omega
      obtain ⟨b', off', e', -, p0, p1, p2, p3, -, -⟩ := HR2.out.at_ (k := k + 1) hnx
      injection e' with e'; injection e' with e3 e4; subst e3; subst e4
      generalize (glNote v (k + 1)).1 = r1 at *
      generalize (glNote v (k + 1)).2.1 = x1 at *
      generalize (glNote v (k + 1)).2.2.1 = y1 at *
      generalize (glNote v (k + 1)).2.2.2.1 = z1 at *
      have HNX := Lib.hid (decide_eq_true hnx)
      cases r1
      case true =>
        have HF := Lib.hid (HT.out (by rw [HD.out]; simp))
        clear HT HK HD HNX
        go_wp2_with fail
        refine (HNC.out _).mono ?_; rintro e w1 ⟨rfl, b1⟩; have z1 := b1.size
        have p0' := (b1.cell (p := ⟨b, off + (k + 1) * 6, none⟩) (by simp; omega)).trans p0
        have p1' := (b1.cell (p := ⟨b, off + (k + 1) * 6 + 1, none⟩) (by simp; omega)).trans p1
        have p2' := (b1.cell (p := ⟨b, off + (k + 1) * 6 + 2, none⟩) (by simp; omega)).trans p2
        have p3' := (b1.cell (p := ⟨b, off + (k + 1) * 6 + 3, none⟩) (by simp; omega)).trans p3
        have c0' := (b1.cell (p := ⟨b, off + k * 6, none⟩) (by simp; omega)).trans hc0
        have c1' := (b1.cell (p := ⟨b, off + k * 6 + 1, none⟩) (by simp; omega)).trans hc1
        have c2' := (b1.cell (p := ⟨b, off + k * 6 + 2, none⟩) (by simp; omega)).trans hc2
        have c3' := (b1.cell (p := ⟨b, off + k * 6 + 3, none⟩) (by simp; omega)).trans hc3
        have c4' := (b1.cell (p := ⟨b, off + k * 6 + 4, none⟩) (by simp; omega)).trans hc4
        have c5' := (b1.cell (p := ⟨b, off + k * 6 + 5, none⟩) (by simp; omega)).trans hc5
        have HB1 := Lib.hid (HB.out.trans (b1.mono hsz))
        clear b1
        go_wp2_with fail
        go_quiet (fail)
        go_wp2_with fail
        go_ret
        exact ⟨ret_bool HF.out.symm, below_drewN HB1.out _⟩
      by_cases hx1 : x1 = x0
      case neg =>
        have HF := Lib.hid (HT.out (by rw [HD.out]; simp [hx1]))
        have f1 : (x1 == x0) = false := beq_eq_false_iff_ne.2 hx1
        clear HT HK HD HNX
        go_wp2_with fail
        refine (HNC.out _).mono ?_; rintro e w1 ⟨rfl, b1⟩; have z1 := b1.size
        have p0' := (b1.cell (p := ⟨b, off + (k + 1) * 6, none⟩) (by simp; omega)).trans p0
        have p1' := (b1.cell (p := ⟨b, off + (k + 1) * 6 + 1, none⟩) (by simp; omega)).trans p1
        have p2' := (b1.cell (p := ⟨b, off + (k + 1) * 6 + 2, none⟩) (by simp; omega)).trans p2
        have p3' := (b1.cell (p := ⟨b, off + (k + 1) * 6 + 3, none⟩) (by simp; omega)).trans p3
        have c0' := (b1.cell (p := ⟨b, off + k * 6, none⟩) (by simp; omega)).trans hc0
        have c1' := (b1.cell (p := ⟨b, off + k * 6 + 1, none⟩) (by simp; omega)).trans hc1
        have c2' := (b1.cell (p := ⟨b, off + k * 6 + 2, none⟩) (by simp; omega)).trans hc2
        have c3' := (b1.cell (p := ⟨b, off + k * 6 + 3, none⟩) (by simp; omega)).trans hc3
        have c4' := (b1.cell (p := ⟨b, off + k * 6 + 4, none⟩) (by simp; omega)).trans hc4
        have c5' := (b1.cell (p := ⟨b, off + k * 6 + 5, none⟩) (by simp; omega)).trans hc5
        have HB1 := Lib.hid (HB.out.trans (b1.mono hsz))
        clear b1
        go_wp2_with fail
        go_quiet (fail)
        go_wp2_with fail
        go_ret
        exact ⟨ret_bool HF.out.symm, below_drewN HB1.out _⟩
      subst hx1
      by_cases hy1 : y1 = y0
      case neg =>
        have HF := Lib.hid (HT.out (by rw [HD.out]; simp [hy1]))
        have f1 : (y1 == y0) = false := beq_eq_false_iff_ne.2 hy1
        clear HT HK HD HNX
        go_wp2_with fail
        refine (HNC.out _).mono ?_; rintro e w1 ⟨rfl, b1⟩; have z1 := b1.size
        have p0' := (b1.cell (p := ⟨b, off + (k + 1) * 6, none⟩) (by simp; omega)).trans p0
        have p1' := (b1.cell (p := ⟨b, off + (k + 1) * 6 + 1, none⟩) (by simp; omega)).trans p1
        have p2' := (b1.cell (p := ⟨b, off + (k + 1) * 6 + 2, none⟩) (by simp; omega)).trans p2
        have p3' := (b1.cell (p := ⟨b, off + (k + 1) * 6 + 3, none⟩) (by simp; omega)).trans p3
        have c0' := (b1.cell (p := ⟨b, off + k * 6, none⟩) (by simp; omega)).trans hc0
        have c1' := (b1.cell (p := ⟨b, off + k * 6 + 1, none⟩) (by simp; omega)).trans hc1
        have c2' := (b1.cell (p := ⟨b, off + k * 6 + 2, none⟩) (by simp; omega)).trans hc2
        have c3' := (b1.cell (p := ⟨b, off + k * 6 + 3, none⟩) (by simp; omega)).trans hc3
        have c4' := (b1.cell (p := ⟨b, off + k * 6 + 4, none⟩) (by simp; omega)).trans hc4
        have c5' := (b1.cell (p := ⟨b, off + k * 6 + 5, none⟩) (by simp; omega)).trans hc5
        have HB1 := Lib.hid (HB.out.trans (b1.mono hsz))
        clear b1
        go_wp2_with fail
        go_quiet (fail)
        go_wp2_with fail
        go_ret
        exact ⟨ret_bool HF.out.symm, below_drewN HB1.out _⟩
      subst hy1
      by_cases hz1 : z1 = z0
      case neg =>
        have HF := Lib.hid (HT.out (by rw [HD.out]; simp [hz1]))
        have f1 : (z1 == z0) = false := beq_eq_false_iff_ne.2 hz1
        clear HT HK HD HNX
        go_wp2_with fail
        refine (HNC.out _).mono ?_; rintro e w1 ⟨rfl, b1⟩; have z1 := b1.size
        have p0' := (b1.cell (p := ⟨b, off + (k + 1) * 6, none⟩) (by simp; omega)).trans p0
        have p1' := (b1.cell (p := ⟨b, off + (k + 1) * 6 + 1, none⟩) (by simp; omega)).trans p1
        have p2' := (b1.cell (p := ⟨b, off + (k + 1) * 6 + 2, none⟩) (by simp; omega)).trans p2
        have p3' := (b1.cell (p := ⟨b, off + (k + 1) * 6 + 3, none⟩) (by simp; omega)).trans p3
        have c0' := (b1.cell (p := ⟨b, off + k * 6, none⟩) (by simp; omega)).trans hc0
        have c1' := (b1.cell (p := ⟨b, off + k * 6 + 1, none⟩) (by simp; omega)).trans hc1
        have c2' := (b1.cell (p := ⟨b, off + k * 6 + 2, none⟩) (by simp; omega)).trans hc2
        have c3' := (b1.cell (p := ⟨b, off + k * 6 + 3, none⟩) (by simp; omega)).trans hc3
        have c4' := (b1.cell (p := ⟨b, off + k * 6 + 4, none⟩) (by simp; omega)).trans hc4
        have c5' := (b1.cell (p := ⟨b, off + k * 6 + 5, none⟩) (by simp; omega)).trans hc5
        have HB1 := Lib.hid (HB.out.trans (b1.mono hsz))
        clear b1
        go_wp2_with fail
        go_quiet (fail)
        go_wp2_with fail
        go_ret
        exact ⟨ret_bool HF.out.symm, below_drewN HB1.out _⟩
      subst hz1
      have HG : Hid (vgB v k = true) := Lib.hid (by rw [HD.out, HNX.out]; simp)
      have HF : Hid (∀ j, j < k + 1 → vgB v j = true) := Lib.hid (fun j hj => by
        rcases Nat.lt_or_ge j k with h | h
        · exact HK.out j h
        · obtain rfl : j = k := by omega
          exact HG.out)
      clear HT HK HD HG HNX
      go_wp2_with fail
      refine (HNC.out _).mono ?_; rintro e w1 ⟨rfl, b1⟩; have z1 := b1.size
      have p0' := (b1.cell (p := ⟨b, off + (k + 1) * 6, none⟩) (by simp; omega)).trans p0
      have p1' := (b1.cell (p := ⟨b, off + (k + 1) * 6 + 1, none⟩) (by simp; omega)).trans p1
      have p2' := (b1.cell (p := ⟨b, off + (k + 1) * 6 + 2, none⟩) (by simp; omega)).trans p2
      have p3' := (b1.cell (p := ⟨b, off + (k + 1) * 6 + 3, none⟩) (by simp; omega)).trans p3
      have c0' := (b1.cell (p := ⟨b, off + k * 6, none⟩) (by simp; omega)).trans hc0
      have c1' := (b1.cell (p := ⟨b, off + k * 6 + 1, none⟩) (by simp; omega)).trans hc1
      have c2' := (b1.cell (p := ⟨b, off + k * 6 + 2, none⟩) (by simp; omega)).trans hc2
      have c3' := (b1.cell (p := ⟨b, off + k * 6 + 3, none⟩) (by simp; omega)).trans hc3
      have c4' := (b1.cell (p := ⟨b, off + k * 6 + 4, none⟩) (by simp; omega)).trans hc4
      have c5' := (b1.cell (p := ⟨b, off + k * 6 + 5, none⟩) (by simp; omega)).trans hc5
      have HB1 := Lib.hid (HB.out.trans (b1.mono hsz))
      clear b1
      go_wp2_with fail
      go_quiet (fail)
      go_wp2_with fail
      go_roundw
      case rel => exact ⟨k + 1, by omega, by go_num, below_drewN HB1.out _, HF.out⟩
      case measure => simp [intOf]; omega
    · obtain rfl : k = v.length := by omega
      have HF := Lib.hid (vv_all HK.out)
      clear HK hbel
      by_cases h60 : v.length ≤ 60
      · have HE := Lib.hid (HF.out.trans (decide_eq_true h60))
        have d0 : decide ((v.length : Int) ≤ 60) = true := decide_eq_true (by omega)
        go_wp2_with fail
        go_ret
        exact ⟨ret_bool (by rw [HE.out]), HB.out⟩
      · have HE := Lib.hid (HF.out.trans (decide_eq_false h60))
        have d0 : decide ((v.length : Int) ≤ 60) = false := decide_eq_false (by omega)
        go_wp2_with fail
        go_ret
        exact ⟨ret_bool (by rw [HE.out]), HB.out⟩
end Go.Proofs.YtmodpleonhniaaaGreatDoor
