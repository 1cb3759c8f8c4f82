/- Contracts of TemposValid, of the program and of the reference. Condition: at most 2^20 tempos. -/
import Derived.Test.YtmodpleonhniaaaGreatDoorTemp
import Derived.Test.YtmodpleonhniaaaGreatDoorMrg1
import Derived.Test.YtmodpleonhniaaaGreatDoorQuiL
namespace Go.Proofs.YtmodpleonhniaaaGreatDoor
open Go.RowKit
set_option linter.unusedSimpArgs false
set_option linter.unusedVariables false
set_option maxRecDepth 100000
set_option maxHeartbeats 2000000 in
theorem impl_TemposValid (A : Option Addr) (c : Nat) (ts : List (Int × Int)) (w : World) (hr : RdTempo w w.heap.size A ts) (hl : ts.length ≤ 1048576) :
    Calls Tryz.prog 36 #[.slice A ts.length c] w (RetB w (tvB ts)) := by
  cases hn : inR ts.length 1 8
  · have HF := Lib.hid (tv_no (.inl hn))
    clear hr
    go_enter Tryz.func36, Tryz.ntmps36
    go_wp2_with (go_at_call 42; refine (impl_within _ _ _ _).mono ?_; rintro e w' ⟨rfl, rfl⟩)
    go_ret
    exact ⟨ret_bool HF.out.symm, Below.refl _ _⟩
  have hn1 := inR_iff.1 hn
  obtain ⟨b, off, rfl, hbB, hz0, hz1⟩ := RdTempo.at_ hr (k := 0) (by omega)
  simp only [Nat.zero_mul, Nat.add_zero] at hz0 hz1
  by_cases hs : (glTempo ts 0).1 = 0
  case neg =>
    have HF := Lib.hid (tv_no (.inr hs))
    have hs1 : ((glTempo ts 0).1 != 0) = true := by simp [hs]
    have hs2 : (0 : Int) < (ts.length : Int) := by omega
    clear hr hs
    go_enter Tryz.func36, Tryz.ntmps36
    go_wp2_with (go_at_call 42; refine (impl_within _ _ _ _).mono ?_; rintro e w' ⟨rfl, rfl⟩)
    go_ret
    exact ⟨ret_bool HF.out.symm, Below.refl _ _⟩
  have hs1 : ((glTempo ts 0).1 != 0) = false := by simp [hs]
  have hs2 : (0 : Int) < (ts.length : Int) := by omega
  have HS := Lib.hid hs; have HN := Lib.hid hn1; have HR := Lib.hid hr
  clear hs hr
  go_enter Tryz.func36, Tryz.ntmps36
  go_wp2_with (go_at_call 42; refine (impl_within _ _ _ _).mono ?_; rintro e w' ⟨rfl, rfl⟩)
  clear hs1 hs2 hz0 hz1 hn hn1
  go_loopw [18] (fun i wr => ∃ k : Nat, k ≤ ts.length ∧ i = .int .i64 k ∧ Below w.heap.size w wr ∧ ∀ j, j < k → tgB ts j = true) (fun i _ => ts.length - (intOf i).toNat)
  case atStart => exact ⟨0, Nat.zero_le _, rfl, Below.refl _ _, fun j h => by omega⟩
  case round =>
    obtain ⟨k, hk, rfl, hbel, hok⟩ := hrel
    have HB := Lib.hid hbel; have HK := Lib.hid hok
    have hsz := hbel.size
    clear hok
    by_cases hlt : k < ts.length
    · have hr' := RdTempo.below HR.out hbel (Nat.le_refl _)
      have HT := Lib.hid (fun h => tv_bad (ts := ts) hlt h)
      have hi1 : (k : Int) < (ts.length : Int) := by omega
      have hin : (k : Int).toNat = k := by omega
      rcases Nat.eq_zero_or_pos k with hk0 | hk0
      ·
        have d0 : decide (0 < (k : Int)) = false := decide_eq_false (by omega)
        have d1 : decide (0 < k) = false := decide_eq_false (by omega)
        obtain ⟨b2, off2, e2, hbB2, hc0, hc1⟩ := hr'.at_ (k := k) hlt
        injection e2 with e2; injection e2 with e3 e4; subst e3; subst e4
        clear hr' hbel
        have c0 : ∀ ob, (wr.alloc ob).cell? ⟨b, off + k * 2, none⟩ = some (.int .i64 (glTempo ts k).1) := fun ob => (World.cell?_alloc_lt wr ob _ (by simp; omega)).trans hc0
        have c1 : ∀ ob, (wr.alloc ob).cell? ⟨b, off + k * 2 + 1, none⟩ = some (.int .i64 (glTempo ts k).2) := fun ob => (World.cell?_alloc_lt wr ob _ (by simp; omega)).trans hc1
        cases m1 : inR (glTempo ts k).2 100 100000
        ·
          skip
          have HF := Lib.hid (HT.out (by unfold tgB; rw [m1]; rfl))
          have HBF : Hid (Below w.heap.size w (wr.alloc (.cells #[.int .i64 (glTempo ts k).1, .int .i64 (glTempo ts k).2] 78))) := Lib.hid (HB.out.alloc hsz _)
          clear HT HK hlt hk hk0
          go_wp2_with fail
          go_quiet ((go_at_call 42; exact quiet_lft (impl_within _ _ _ _)))
          go_wp2_with fail
          go_ret
          exact ⟨ret_bool HF.out.symm, below_drewN HBF.out _⟩
        by_cases t1 : (glTempo ts k).1 ≤ 50000
        case neg =>
          have t2 : decide (50000 < (glTempo ts k).1) = true := decide_eq_true (by omega)
          have HF := Lib.hid (HT.out (by unfold tgB; rw [m1, decide_eq_false t1]; rfl))
          have HBF : Hid (Below w.heap.size w (wr.alloc (.cells #[.int .i64 (glTempo ts k).1, .int .i64 (glTempo ts k).2] 78))) := Lib.hid (HB.out.alloc hsz _)
          clear HT HK hlt hk hk0
          go_wp2_with fail
          go_quiet ((go_at_call 42; exact quiet_lft (impl_within _ _ _ _)))
          go_wp2_with fail
          go_ret
          exact ⟨ret_bool HF.out.symm, below_drewN HBF.out _⟩
        have t2 : decide (50000 < (glTempo ts k).1) = false := decide_eq_false (by omega)
        skip
        have HG : Hid (tgB ts k = true) := Lib.hid (by unfold tgB; rw [m1, decide_eq_true t1, decide_eq_true hk0]; rfl)
        have HF : Hid (∀ j, j < k + 1 → tgB ts j = true) := Lib.hid (fun j hj => by
          rcases Nat.lt_or_ge j k with h | h
          · exact HK.out j h
          · obtain rfl : j = k := by omega
            exact HG.out)
        have HBF : Hid (Below w.heap.size w (wr.alloc (.cells #[.int .i64 (glTempo ts k).1, .int .i64 (glTempo ts k).2] 78))) := Lib.hid (HB.out.alloc hsz _)
        clear HT HK hlt hk hk0
        have hkk : k + 1 ≤ ts.length := by omega
        go_wp2_with fail
        go_quiet ((go_at_call 42; exact quiet_lft (impl_within _ _ _ _)))
        go_wp2_with fail
        go_roundw
        case rel => exact ⟨k + 1, hkk, by go_num, below_drewN HBF.out _, HF.out⟩
        case measure => simp [intOf]; omega
      ·
        obtain ⟨k, rfl⟩ : ∃ k', k = k' + 1 := ⟨k - 1, by omega⟩
        have d0 : decide (0 < ((k : Int) + 1)) = true := decide_eq_true (by omega)
        have n1 : ((k : Int) + 1).toNat = k + 1 := by omega
        have p2 : (k : Int) < (ts.length : Int) := by omega
        obtain ⟨b', off', e', -, hp0, -⟩ := hr'.at_ (k := k) (by omega)
        obtain ⟨b2, off2, e2, hbB2, hc0, hc1⟩ := hr'.at_ (k := (k + 1)) hlt
        injection e2 with e2; injection e2 with e3 e4; subst e3; subst e4
        injection e' with e'; injection e' with e1 e2; subst e1; subst e2
        clear hr' hbel
        have c0 : ∀ ob, (wr.alloc ob).cell? ⟨b, off + (k + 1) * 2, none⟩ = some (.int .i64 (glTempo ts (k + 1)).1) := fun ob => (World.cell?_alloc_lt wr ob _ (by simp; omega)).trans hc0
        have c1 : ∀ ob, (wr.alloc ob).cell? ⟨b, off + (k + 1) * 2 + 1, none⟩ = some (.int .i64 (glTempo ts (k + 1)).2) := fun ob => (World.cell?_alloc_lt wr ob _ (by simp; omega)).trans hc1
        have c2 : ∀ ob, (wr.alloc ob).cell? ⟨b, off + k * 2, none⟩ = some (.int .i64 (glTempo ts k).1) := fun ob => (World.cell?_alloc_lt wr ob _ (by simp; omega)).trans hp0
        cases m1 : inR (glTempo ts (k + 1)).2 100 100000
        ·
          skip
          have HF := Lib.hid (HT.out (by unfold tgB; rw [m1]; rfl))
          have HBF : Hid (Below w.heap.size w (wr.alloc (.cells #[.int .i64 (glTempo ts (k + 1)).1, .int .i64 (glTempo ts (k + 1)).2] 78))) := Lib.hid (HB.out.alloc hsz _)
          clear HT HK hlt hk
          go_wp2_with fail
          go_quiet ((go_at_call 42; exact quiet_lft (impl_within _ _ _ _)))
          go_wp2_with fail
          go_ret
          exact ⟨ret_bool HF.out.symm, below_drewN HBF.out _⟩
        by_cases t1 : (glTempo ts (k + 1)).1 ≤ 50000
        case neg =>
          have t2 : decide (50000 < (glTempo ts (k + 1)).1) = true := decide_eq_true (by omega)
          have HF := Lib.hid (HT.out (by unfold tgB; rw [m1, decide_eq_false t1]; rfl))
          have HBF : Hid (Below w.heap.size w (wr.alloc (.cells #[.int .i64 (glTempo ts (k + 1)).1, .int .i64 (glTempo ts (k + 1)).2] 78))) := Lib.hid (HB.out.alloc hsz _)
          clear HT HK hlt hk
          go_wp2_with fail
          go_quiet ((go_at_call 42; exact quiet_lft (impl_within _ _ _ _)))
          go_wp2_with fail
          go_ret
          exact ⟨ret_bool HF.out.symm, below_drewN HBF.out _⟩
        have t2 : decide (50000 < (glTempo ts (k + 1)).1) = false := decide_eq_false (by omega)
        by_cases u1 : (glTempo ts k).1 < (glTempo ts (k + 1)).1
        case neg =>
          have u2 : decide ((glTempo ts (k + 1)).1 ≤ (glTempo ts k).1) = true := decide_eq_true (by omega)
          have HF := Lib.hid (HT.out (by unfold tgB; rw [m1, decide_eq_true t1, decide_eq_false (show ¬ (k + 1 = 0) by omega), Nat.add_sub_cancel, decide_eq_false u1]; rfl))
          have HBF : Hid (Below w.heap.size w (wr.alloc (.cells #[.int .i64 (glTempo ts (k + 1)).1, .int .i64 (glTempo ts (k + 1)).2] 78))) := Lib.hid (HB.out.alloc hsz _)
          clear HT HK hlt hk
          go_wp2_with fail
          go_quiet ((go_at_call 42; exact quiet_lft (impl_within _ _ _ _)))
          go_wp2_with fail
          go_ret
          exact ⟨ret_bool HF.out.symm, below_drewN HBF.out _⟩
        have u2 : decide ((glTempo ts (k + 1)).1 ≤ (glTempo ts k).1) = false := decide_eq_false (by omega)
        have HG : Hid (tgB ts (k + 1) = true) := Lib.hid (by unfold tgB; rw [m1, decide_eq_true t1, Nat.add_sub_cancel, decide_eq_true u1]; simp)
        have HF : Hid (∀ j, j < (k + 1) + 1 → tgB ts j = true) := Lib.hid (fun j hj => by
          rcases Nat.lt_or_ge j (k + 1) with h | h
          · exact HK.out j h
          · obtain rfl : j = (k + 1) := by omega
            exact HG.out)
        have HBF : Hid (Below w.heap.size w (wr.alloc (.cells #[.int .i64 (glTempo ts (k + 1)).1, .int .i64 (glTempo ts (k + 1)).2] 78))) := Lib.hid (HB.out.alloc hsz _)
        clear HT HK hlt hk
        have hkk : (k + 1) + 1 ≤ ts.length := by omega
        go_wp2_with fail
        go_quiet ((go_at_call 42; exact quiet_lft (impl_within _ _ _ _)))
        go_wp2_with fail
        go_roundw
        case rel => exact ⟨(k + 1) + 1, hkk, by go_num, below_drewN HBF.out _, HF.out⟩
        case measure => simp [intOf]; omega
    · obtain rfl : k = ts.length := by omega
      have HF := Lib.hid ((tv_all HK.out).trans (by rw [inR_t (by have := HN.out; omega), decide_eq_true HS.out, Bool.and_self]))
      clear HK hbel
      go_wp2_with fail
      go_ret
      exact ⟨ret_bool HF.out.symm, HB.out⟩
set_option maxHeartbeats 2000000 in
theorem spec_TemposValid (A : Option Addr) (c : Nat) (ts : List (Int × Int)) (w : World) (hr : RdTempo w w.heap.size A ts) (hl : ts.length ≤ 1048576) :
    Calls Tryz.prog 24 #[.slice A ts.length c] w (RetB w (tvB ts)) := by
  have HR := Lib.hid hr
  clear hr
  go_enter Tryz.func24, Tryz.ntmps24
  go_wp2_with fail
  go_loopw [3] (fun i wr => ∃ k : Nat, k ≤ ts.length ∧ i = .int .i64 k ∧ Below w.heap.size w wr ∧ ∀ j, j < k → tgB ts j = true) (fun i _ => ts.length - (intOf i).toNat)
  case atStart => exact ⟨0, Nat.zero_le _, rfl, Below.refl _ _, fun j h => by omega⟩
  case round =>
    obtain ⟨k, hk, rfl, hbel, hok⟩ := hrel
    have HB := Lib.hid hbel; have HK := Lib.hid hok
    have hsz := hbel.size
    clear hok
    by_cases hlt : k < ts.length
    · have hr' := RdTempo.below HR.out hbel (Nat.le_refl _)
      have HT := Lib.hid (fun h => tv_bad (ts := ts) hlt h)
      have hi1 : (k : Int) < (ts.length : Int) := by omega
      have hin : (k : Int).toNat = k := by omega
      rcases Nat.eq_zero_or_pos k with hk0 | hk0
      ·
        have d0 : decide (0 < (k : Int)) = false := decide_eq_false (by omega)
        have d1 : decide (0 < k) = false := decide_eq_false (by omega)
        obtain ⟨b, off, rfl, hbB2, hc0, hc1⟩ := hr'.at_ (k := k) hlt
        clear hr' hbel
        cases m1 : inR (glTempo ts k).2 100 100000
        ·
          skip
          have HF := Lib.hid (HT.out (by unfold tgB; rw [m1]; rfl))
          have HBF := HB
          clear HT HK hlt hk hk0
          go_wp2_with fail
          go_quiet ((go_at_call 20; exact quiet_lft (spec_l1In _ _ _ _)))
          go_wp2_with fail
          go_ret
          exact ⟨ret_bool HF.out.symm, below_drewN HBF.out _⟩
        by_cases t1 : (glTempo ts k).1 ≤ 50000
        case neg =>
          have t2 : decide (50000 < (glTempo ts k).1) = true := decide_eq_true (by omega)
          have HF := Lib.hid (HT.out (by unfold tgB; rw [m1, decide_eq_false t1]; rfl))
          have HBF := HB
          clear HT HK hlt hk hk0
          go_wp2_with fail
          go_quiet ((go_at_call 20; exact quiet_lft (spec_l1In _ _ _ _)))
          go_wp2_with fail
          go_ret
          exact ⟨ret_bool HF.out.symm, below_drewN HBF.out _⟩
        have t2 : decide (50000 < (glTempo ts k).1) = false := decide_eq_false (by omega)
        skip
        have HG : Hid (tgB ts k = true) := Lib.hid (by unfold tgB; rw [m1, decide_eq_true t1, decide_eq_true hk0]; rfl)
        have HF : Hid (∀ j, j < k + 1 → tgB ts j = true) := Lib.hid (fun j hj => by
          rcases Nat.lt_or_ge j k with h | h
          · exact HK.out j h
          · obtain rfl : j = k := by omega
            exact HG.out)
        have HBF := HB
        clear HT HK hlt hk hk0
        have hkk : k + 1 ≤ ts.length := by omega
        go_wp2_with fail
        go_quiet ((go_at_call 20; exact quiet_lft (spec_l1In _ _ _ _)))
        go_wp2_with fail
        go_roundw
        case rel => exact ⟨k + 1, hkk, by go_num, below_drewN HBF.out _, HF.out⟩
        case measure => simp [intOf]; omega
      ·
        obtain ⟨k, rfl⟩ : ∃ k', k = k' + 1 := ⟨k - 1, by omega⟩
        have d0 : decide (0 < ((k : Int) + 1)) = true := decide_eq_true (by omega)
        have n1 : ((k : Int) + 1).toNat = k + 1 := by omega
        have p2 : (k : Int) < (ts.length : Int) := by omega
        obtain ⟨b', off', e', -, hp0, -⟩ := hr'.at_ (k := k) (by omega)
        obtain ⟨b, off, rfl, hbB2, hc0, hc1⟩ := hr'.at_ (k := (k + 1)) hlt
        injection e' with e'; injection e' with e1 e2; subst e1; subst e2
        clear hr' hbel
        cases m1 : inR (glTempo ts (k + 1)).2 100 100000
        ·
          skip
          have HF := Lib.hid (HT.out (by unfold tgB; rw [m1]; rfl))
          have HBF := HB
          clear HT HK hlt hk
          go_wp2_with fail
          go_quiet ((go_at_call 20; exact quiet_lft (spec_l1In _ _ _ _)))
          go_wp2_with fail
          go_ret
          exact ⟨ret_bool HF.out.symm, below_drewN HBF.out _⟩
        by_cases t1 : (glTempo ts (k + 1)).1 ≤ 50000
        case neg =>
          have t2 : decide (50000 < (glTempo ts (k + 1)).1) = true := decide_eq_true (by omega)
          have HF := Lib.hid (HT.out (by unfold tgB; rw [m1, decide_eq_false t1]; rfl))
          have HBF := HB
          clear HT HK hlt hk
          go_wp2_with fail
          go_quiet ((go_at_call 20; exact quiet_lft (spec_l1In _ _ _ _)))
          go_wp2_with fail
          go_ret
          exact ⟨ret_bool HF.out.symm, below_drewN HBF.out _⟩
        have t2 : decide (50000 < (glTempo ts (k + 1)).1) = false := decide_eq_false (by omega)
        by_cases u1 : (glTempo ts k).1 < (glTempo ts (k + 1)).1
        case neg =>
          have u2 : decide ((glTempo ts (k + 1)).1 ≤ (glTempo ts k).1) = true := decide_eq_true (by omega)
          have HF := Lib.hid (HT.out (by unfold tgB; rw [m1, decide_eq_true t1, decide_eq_false (show ¬ (k + 1 = 0) by omega), Nat.add_sub_cancel, decide_eq_false u1]; rfl))
          have HBF := HB
          clear HT HK hlt hk
          go_wp2_with fail
          go_quiet ((go_at_call 20; exact quiet_lft (spec_l1In _ _ _ _)))
          go_wp2_with fail
          go_ret
          exact ⟨ret_bool HF.out.symm, below_drewN HBF.out _⟩
        have u2 : decide ((glTempo ts (k + 1)).1 ≤ (glTempo ts k).1) = false := decide_eq_false (by omega)
        have HG : Hid (tgB ts (k + 1) = true) := Lib.hid (by unfold tgB; rw [m1, decide_eq_true t1, Nat.add_sub_cancel, decide_eq_true u1]; simp)
        have HF : Hid (∀ j, j < (k + 1) + 1 → tgB ts j = true) := Lib.hid (fun j hj => by
          rcases Nat.lt_or_ge j (k + 1) with h | h
          · exact HK.out j h
          · obtain rfl : j = (k + 1) := by omega
            exact HG.out)
        have HBF := HB
        clear HT HK hlt hk
        have hkk : (k + 1) + 1 ≤ ts.length := by omega
        go_wp2_with fail
        go_quiet ((go_at_call 20; exact quiet_lft (spec_l1In _ _ _ _)))
        go_wp2_with fail
        go_roundw
        case rel => exact ⟨(k + 1) + 1, hkk, by go_num, below_drewN HBF.out _, HF.out⟩
        case measure => simp [intOf]; omega
    · obtain rfl : k = ts.length := by omega
      have HF := Lib.hid (tv_all HK.out)
      have hr' := RdTempo.below HR.out hbel (Nat.le_refl _)
      clear HK hbel
      cases hn : inR ts.length 1 8
      · go_wp2_with (go_at_call 20; refine (spec_l1In _ _ _ _).mono ?_; rintro e w' ⟨rfl, rfl⟩)
        go_ret
        exact ⟨ret_bool (by rw [HF.out, hn]; rfl), HB.out⟩
      · have hn1 := inR_iff.1 hn
        obtain ⟨b, off, rfl, hbB, hz0, hz1⟩ := RdTempo.at_ hr' (k := 0) (by omega)
        simp only [Nat.zero_mul, Nat.add_zero] at hz0 hz1
        have hs2 : (0 : Int) < (ts.length : Int) := by omega
        clear hr' hn1
        by_cases hs : (glTempo ts 0).1 = 0
        · have hs1 : ((glTempo ts 0).1 == 0) = true := by simp [hs]
          have HS := Lib.hid hs; clear hs
          go_wp2_with (go_at_call 20; refine (spec_l1In _ _ _ _).mono ?_; rintro e w' ⟨rfl, rfl⟩)
          go_ret
          exact ⟨ret_bool (by rw [HF.out, hn, decide_eq_true HS.out]; rfl), HB.out⟩
        · have hs1 : ((glTempo ts 0).1 == 0) = false := by simp [hs]
          have HS := Lib.hid hs; clear hs
          go_wp2_with (go_at_call 20; refine (spec_l1In _ _ _ _).mono ?_; rintro e w' ⟨rfl, rfl⟩)
          go_ret
          exact ⟨ret_bool (by rw [HF.out, hn, decide_eq_false HS.out]; rfl), HB.out⟩
end Go.Proofs.YtmodpleonhniaaaGreatDoor
