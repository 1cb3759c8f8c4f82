/- Contracts of EventsValid, of the program and of the reference. Condition: at most 2^20 events. -/
import Derived.Test.YtgnbnedjocolcaaEvt
import Derived.Test.YtgnbnedjocolcaaSam2
import Derived.Test.YtgnbnedjocolcaaQuiL
namespace Go.Proofs.Ytgnbnedjocolcaa
open Go.RowKit
set_option linter.unusedSimpArgs false
set_option linter.unusedVariables false
set_option maxRecDepth 100000
set_option maxHeartbeats 4000000 in
theorem impl_EventsValid (A : Option Addr) (c : Nat) (es : List (Int × Int × Int × Int)) (w : World) (hr : RdEvent w w.heap.size A es) (hl : es.length ≤ 1048576) :
    Calls Try.prog 32 #[.slice A es.length c] w (RetB w (evB es)) := by
  by_cases h60 : es.length ≤ 60
  case neg =>
    have HF := Lib.hid (ev_no h60)
    have d0 : decide (60 < (es.length : Int)) = true := decide_eq_true (by omega)
    have d1 : decide (60 < es.length) = true := decide_eq_true (by omega)
    clear hr h60
    go_enter Try.func32, Try.ntmps32
    go_wp2_with fail
    go_ret
    exact ⟨ret_bool HF.out.symm, Below.refl _ _⟩
  have HR := Lib.hid hr
  clear hr
  go_enter Try.func32, Try.ntmps32
  go_wp2_with fail
  go_loopw [10] (fun i wr => ∃ k : Nat, k ≤ es.length ∧ i = .int .i64 k ∧ Below w.heap.size w wr ∧ ∀ j, j < k → egB es j = true) (fun i _ => es.length - (intOf i).toNat)
  case atStart => exact ⟨0, Nat.zero_le _, rfl, Below.refl _ _, fun j h => by omega⟩
  case round =>
    obtain ⟨k, hk, rfl, hbel, hok⟩ := hrel
    have HB := Lib.hid hbel; have HK := Lib.hid hok
    have hsz := hbel.size
    clear hok
    by_cases hlt : k < es.length
    · have hr' := RdEvent.below HR.out hbel (Nat.le_refl _)
      have HT := Lib.hid (fun h => ev_bad (es := es) hlt h)
      have hi1 : (k : Int) < (es.length : Int) := by omega
      have hin : (k : Int).toNat = k := by omega
      rcases Nat.eq_zero_or_pos k with hk0 | hk0
      ·
        have d0 : decide (0 < (k : Int)) = false := decide_eq_false (by omega)
        have d1 : decide (0 < k) = false := decide_eq_false (by omega)
        obtain ⟨b, off, rfl, hbB2, hc0, hc1, hc2, hc3⟩ := hr'.at_ (k := k) hlt
        clear hr' hbel
        have HFB := Lib.hid (HB.out.alloc hsz (.cells #[.int .i64 (glEvent es k).1, .int .i64 (glEvent es k).2.1, .int .i64 (glEvent es k).2.2.1, .int .i64 (glEvent es k).2.2.2] 46))
        have HD := Lib.hid (show egB es k = (decide (0 ≤ (glEvent es k).1) && (decide ((glEvent es k).1 < (glEvent es k).2.1) && (decide ((glEvent es k).2.1 ≤ 5000000000) && (inR (glEvent es k).2.2.1 0 107 && (inR (glEvent es k).2.2.2 1 127 && (decide (k = 0) || decide ((glEvent es (k - 1)).2.1 ≤ (glEvent es k).1))))))) from rfl)
        generalize (glEvent es k).1 = on at *
        generalize (glEvent es k).2.1 = of at *
        generalize (glEvent es k).2.2.1 = ky at *
        generalize (glEvent es k).2.2.2 = ld at *
        by_cases c1 : 0 ≤ on
        case neg =>
          have g1 : decide (on < 0) = true := decide_eq_true (by omega)
          have HF := Lib.hid (HT.out (by rw [HD.out, decide_eq_false c1]; simp))
          clear HT HK HD hlt hk hk0
          go_wp2_with fail
          go_quiet ((go_at_call 28; first | exact quiet_lft (impl_within _ _ _ _) | exact quiet_add_lft (impl_within _ _ _ _)))
          go_wp2_with fail
          go_ret
          exact ⟨ret_bool HF.out.symm, below_drewN HFB.out _⟩
        have g1 : decide (on < 0) = false := decide_eq_false (by omega)
        by_cases c2 : on < of
        case neg =>
          have g2 : decide (of ≤ on) = true := decide_eq_true (by omega)
          have HF := Lib.hid (HT.out (by rw [HD.out, decide_eq_true c1, decide_eq_false c2]; simp))
          clear HT HK HD hlt hk hk0
          go_wp2_with fail
          go_quiet ((go_at_call 28; first | exact quiet_lft (impl_within _ _ _ _) | exact quiet_add_lft (impl_within _ _ _ _)))
          go_wp2_with fail
          go_ret
          exact ⟨ret_bool HF.out.symm, below_drewN HFB.out _⟩
        have g2 : decide (of ≤ on) = false := decide_eq_false (by omega)
        by_cases c3 : of ≤ 5000000000
        case neg =>
          have g3 : decide (5000000000 < of) = true := decide_eq_true (by omega)
          have HF := Lib.hid (HT.out (by rw [HD.out, decide_eq_true c1, decide_eq_true c2, decide_eq_false c3]; simp))
          clear HT HK HD hlt hk hk0
          go_wp2_with fail
          go_quiet ((go_at_call 28; first | exact quiet_lft (impl_within _ _ _ _) | exact quiet_add_lft (impl_within _ _ _ _)))
          go_wp2_with fail
          go_ret
          exact ⟨ret_bool HF.out.symm, below_drewN HFB.out _⟩
        have g3 : decide (5000000000 < of) = false := decide_eq_false (by omega)
        cases m1 : inR ky 0 107
        ·
          have HF := Lib.hid (HT.out (by rw [HD.out, decide_eq_true c1, decide_eq_true c2, decide_eq_true c3, m1]; simp))
          clear HT HK HD hlt hk hk0
          go_wp2_with fail
          go_quiet ((go_at_call 28; first | exact quiet_lft (impl_within _ _ _ _) | exact quiet_add_lft (impl_within _ _ _ _)))
          go_wp2_with fail
          go_ret
          exact ⟨ret_bool HF.out.symm, below_drewN HFB.out _⟩
        cases m2 : inR ld 1 127
        ·
          have HF := Lib.hid (HT.out (by rw [HD.out, decide_eq_true c1, decide_eq_true c2, decide_eq_true c3, m1, m2]; simp))
          clear HT HK HD hlt hk hk0
          go_wp2_with fail
          go_quiet ((go_at_call 28; first | exact quiet_lft (impl_within _ _ _ _) | exact quiet_add_lft (impl_within _ _ _ _)))
          go_wp2_with fail
          go_ret
          exact ⟨ret_bool HF.out.symm, below_drewN HFB.out _⟩
        have HG : Hid (egB es k = true) := Lib.hid (by rw [HD.out, decide_eq_true c1, decide_eq_true c2, decide_eq_true c3, m1, m2, decide_eq_true hk0]; simp)
        have HF : Hid (∀ j, j < k + 1 → egB es j = true) := Lib.hid (fun j hj => by
          rcases Nat.lt_or_ge j k with h | h
          · exact HK.out j h
          · obtain rfl : j = k := by omega
            exact HG.out)
        have hkk : k + 1 ≤ es.length := by omega
        clear HT HK HD hlt hk hk0
        go_wp2_with fail
        go_quiet ((go_at_call 28; first | exact quiet_lft (impl_within _ _ _ _) | exact quiet_add_lft (impl_within _ _ _ _)))
        go_wp2_with fail
        go_roundw
        case rel => exact ⟨k + 1, hkk, by go_num, below_drewN HFB.out _, HF.out⟩
        case measure => simp [intOf]; omega
      ·
        obtain ⟨k, rfl⟩ : ∃ k', k = k' + 1 := ⟨k - 1, by omega⟩
        have d0 : decide (0 < ((k : Int) + 1)) = true := decide_eq_true (by omega)
        have n1 : ((k : Int) + 1).toNat = k + 1 := by omega
        have p2 : (k : Int) < (es.length : Int) := by omega
        obtain ⟨b', off', e', -, -, hp1, -, -⟩ := hr'.at_ (k := k) (by omega)
        obtain ⟨b, off, rfl, hbB2, hc0, hc1, hc2, hc3⟩ := hr'.at_ (k := (k + 1)) hlt
        injection e' with e'; injection e' with e1 e2; subst e1; subst e2
        have c4 : ∀ ob, (wr.alloc ob).cell? ⟨b, off + k * 4 + 1, none⟩ = some (.int .i64 (glEvent es k).2.1) := fun ob => (World.cell?_alloc_lt wr ob _ (by simp; omega)).trans hp1
        clear hr' hbel
        have HFB := Lib.hid (HB.out.alloc hsz (.cells #[.int .i64 (glEvent es (k + 1)).1, .int .i64 (glEvent es (k + 1)).2.1, .int .i64 (glEvent es (k + 1)).2.2.1, .int .i64 (glEvent es (k + 1)).2.2.2] 46))
        have HD := Lib.hid (show egB es (k + 1) = (decide (0 ≤ (glEvent es (k + 1)).1) && (decide ((glEvent es (k + 1)).1 < (glEvent es (k + 1)).2.1) && (decide ((glEvent es (k + 1)).2.1 ≤ 5000000000) && (inR (glEvent es (k + 1)).2.2.1 0 107 && (inR (glEvent es (k + 1)).2.2.2 1 127 && (decide ((k + 1) = 0) || decide ((glEvent es ((k + 1) - 1)).2.1 ≤ (glEvent es (k + 1)).1))))))) from rfl)
        simp only [Nat.add_sub_cancel] at HD
        generalize (glEvent es (k + 1)).1 = on at *
        generalize (glEvent es (k + 1)).2.1 = of at *
        generalize (glEvent es (k + 1)).2.2.1 = ky at *
        generalize (glEvent es (k + 1)).2.2.2 = ld at *
        generalize (glEvent es k).2.1 = pv at *
        by_cases c1 : 0 ≤ on
        case neg =>
          have g1 : decide (on < 0) = true := decide_eq_true (by omega)
          have HF := Lib.hid (HT.out (by rw [HD.out, decide_eq_false c1]; simp))
          clear HT HK HD hlt hk
          go_wp2_with fail
          go_quiet ((go_at_call 28; first | exact quiet_lft (impl_within _ _ _ _) | exact quiet_add_lft (impl_within _ _ _ _)))
          go_wp2_with fail
          go_ret
          exact ⟨ret_bool HF.out.symm, below_drewN HFB.out _⟩
        have g1 : decide (on < 0) = false := decide_eq_false (by omega)
        by_cases c2 : on < of
        case neg =>
          have g2 : decide (of ≤ on) = true := decide_eq_true (by omega)
          have HF := Lib.hid (HT.out (by rw [HD.out, decide_eq_true c1, decide_eq_false c2]; simp))
          clear HT HK HD hlt hk
          go_wp2_with fail
          go_quiet ((go_at_call 28; first | exact quiet_lft (impl_within _ _ _ _) | exact quiet_add_lft (impl_within _ _ _ _)))
          go_wp2_with fail
          go_ret
          exact ⟨ret_bool HF.out.symm, below_drewN HFB.out _⟩
        have g2 : decide (of ≤ on) = false := decide_eq_false (by omega)
        by_cases c3 : of ≤ 5000000000
        case neg =>
          have g3 : decide (5000000000 < of) = true := decide_eq_true (by omega)
          have HF := Lib.hid (HT.out (by rw [HD.out, decide_eq_true c1, decide_eq_true c2, decide_eq_false c3]; simp))
          clear HT HK HD hlt hk
          go_wp2_with fail
          go_quiet ((go_at_call 28; first | exact quiet_lft (impl_within _ _ _ _) | exact quiet_add_lft (impl_within _ _ _ _)))
          go_wp2_with fail
          go_ret
          exact ⟨ret_bool HF.out.symm, below_drewN HFB.out _⟩
        have g3 : decide (5000000000 < of) = false := decide_eq_false (by omega)
        cases m1 : inR ky 0 107
        ·
          have HF := Lib.hid (HT.out (by rw [HD.out, decide_eq_true c1, decide_eq_true c2, decide_eq_true c3, m1]; simp))
          clear HT HK HD hlt hk
          go_wp2_with fail
          go_quiet ((go_at_call 28; first | exact quiet_lft (impl_within _ _ _ _) | exact quiet_add_lft (impl_within _ _ _ _)))
          go_wp2_with fail
          go_ret
          exact ⟨ret_bool HF.out.symm, below_drewN HFB.out _⟩
        cases m2 : inR ld 1 127
        ·
          have HF := Lib.hid (HT.out (by rw [HD.out, decide_eq_true c1, decide_eq_true c2, decide_eq_true c3, m1, m2]; simp))
          clear HT HK HD hlt hk
          go_wp2_with fail
          go_quiet ((go_at_call 28; first | exact quiet_lft (impl_within _ _ _ _) | exact quiet_add_lft (impl_within _ _ _ _)))
          go_wp2_with fail
          go_ret
          exact ⟨ret_bool HF.out.symm, below_drewN HFB.out _⟩
        by_cases c6 : pv ≤ on
        case neg =>
          have g6 : decide (on < pv) = true := decide_eq_true (by omega)
          have HF := Lib.hid (HT.out (by rw [HD.out, decide_eq_true c1, decide_eq_true c2, decide_eq_true c3, m1, m2, decide_eq_false (show ¬ (k + 1 = 0) by omega), decide_eq_false c6]; simp))
          clear HT HK HD hlt hk
          go_wp2_with fail
          go_quiet ((go_at_call 28; first | exact quiet_lft (impl_within _ _ _ _) | exact quiet_add_lft (impl_within _ _ _ _)))
          go_wp2_with fail
          go_ret
          exact ⟨ret_bool HF.out.symm, below_drewN HFB.out _⟩
        have g6 : decide (on < pv) = false := decide_eq_false (by omega)
        have HG : Hid (egB es (k + 1) = true) := Lib.hid (by rw [HD.out, decide_eq_true c1, decide_eq_true c2, decide_eq_true c3, m1, m2, decide_eq_true c6]; simp)
        have HF : Hid (∀ j, j < (k + 1) + 1 → egB es j = true) := Lib.hid (fun j hj => by
          rcases Nat.lt_or_ge j (k + 1) with h | h
          · exact HK.out j h
          · obtain rfl : j = (k + 1) := by omega
            exact HG.out)
        have hkk : (k + 1) + 1 ≤ es.length := by omega
        clear HT HK HD hlt hk
        go_wp2_with fail
        go_quiet ((go_at_call 28; first | exact quiet_lft (impl_within _ _ _ _) | exact quiet_add_lft (impl_within _ _ _ _)))
        go_wp2_with fail
        go_roundw
        case rel => exact ⟨(k + 1) + 1, hkk, by go_num, below_drewN HFB.out _, HF.out⟩
        case measure => simp [intOf]; omega
    · obtain rfl : k = es.length := by omega
      have HF := Lib.hid ((ev_all HK.out).trans (decide_eq_true h60))
      clear HK hbel
      go_wp2_with fail
      go_ret
      exact ⟨ret_bool HF.out.symm, HB.out⟩
set_option maxHeartbeats 4000000 in
theorem spec_EventsValid (A : Option Addr) (c : Nat) (es : List (Int × Int × Int × Int)) (w : World) (hr : RdEvent w w.heap.size A es) (hl : es.length ≤ 1048576) :
    Calls Try.prog 35 #[.slice A es.length c] w (RetB w (evB es)) := by
  have HR := Lib.hid hr
  clear hr
  go_enter Try.func35, Try.ntmps35
  go_wp2_with fail
  go_loopw [3] (fun i wr => ∃ k : Nat, k ≤ es.length ∧ i = .int .i64 k ∧ Below w.heap.size w wr ∧ ∀ j, j < k → egB es j = true) (fun i _ => es.length - (intOf i).toNat)
  case atStart => exact ⟨0, Nat.zero_le _, rfl, Below.refl _ _, fun j h => by omega⟩
  case round =>
    obtain ⟨k, hk, rfl, hbel, hok⟩ := hrel
    have HB := Lib.hid hbel; have HK := Lib.hid hok
    have hsz := hbel.size
    clear hok
    by_cases hlt : k < es.length
    · have hr' := RdEvent.below HR.out hbel (Nat.le_refl _)
      have HT := Lib.hid (fun h => ev_bad (es := es) hlt h)
      have hi1 : (k : Int) < (es.length : Int) := by omega
      have hin : (k : Int).toNat = k := by omega
      rcases Nat.eq_zero_or_pos k with hk0 | hk0
      ·
        have d0 : decide (0 < (k : Int)) = false := decide_eq_false (by omega)
        have d1 : decide (0 < k) = false := decide_eq_false (by omega)
        obtain ⟨b, off, rfl, hbB2, hc0, hc1, hc2, hc3⟩ := hr'.at_ (k := k) hlt
        clear hr' hbel
        have HFB := Lib.hid (HB.out.alloc hsz (.cells #[.int .i64 (glEvent es k).1, .int .i64 (glEvent es k).2.1, .int .i64 (glEvent es k).2.2.1, .int .i64 (glEvent es k).2.2.2] 46))
        have HD := Lib.hid (show egB es k = (decide (0 ≤ (glEvent es k).1) && (decide ((glEvent es k).1 < (glEvent es k).2.1) && (decide ((glEvent es k).2.1 ≤ 5000000000) && (inR (glEvent es k).2.2.1 0 107 && (inR (glEvent es k).2.2.2 1 127 && (decide (k = 0) || decide ((glEvent es (k - 1)).2.1 ≤ (glEvent es k).1))))))) from rfl)
        generalize (glEvent es k).1 = on at *
        generalize (glEvent es k).2.1 = of at *
        generalize (glEvent es k).2.2.1 = ky at *
        generalize (glEvent es k).2.2.2 = ld at *
        by_cases c1 : 0 ≤ on
        case neg =>
          have g1 : decide (on < 0) = true := decide_eq_true (by omega)
          have HF := Lib.hid (HT.out (by rw [HD.out, decide_eq_false c1]; simp))
          clear HT HK HD hlt hk hk0
          go_wp2_with fail
          go_quiet ((go_at_call 29; first | exact quiet_lft (spec_l1In _ _ _ _) | exact quiet_add_lft (spec_l1In _ _ _ _)))
          go_wp2_with fail
          go_ret
          exact ⟨ret_bool HF.out.symm, below_drewN HFB.out _⟩
        have g1 : decide (on < 0) = false := decide_eq_false (by omega)
        by_cases c2 : on < of
        case neg =>
          have g2 : decide (of ≤ on) = true := decide_eq_true (by omega)
          have HF := Lib.hid (HT.out (by rw [HD.out, decide_eq_true c1, decide_eq_false c2]; simp))
          clear HT HK HD hlt hk hk0
          go_wp2_with fail
          go_quiet ((go_at_call 29; first | exact quiet_lft (spec_l1In _ _ _ _) | exact quiet_add_lft (spec_l1In _ _ _ _)))
          go_wp2_with fail
          go_ret
          exact ⟨ret_bool HF.out.symm, below_drewN HFB.out _⟩
        have g2 : decide (of ≤ on) = false := decide_eq_false (by omega)
        by_cases c3 : of ≤ 5000000000
        case neg =>
          have g3 : decide (5000000000 < of) = true := decide_eq_true (by omega)
          have HF := Lib.hid (HT.out (by rw [HD.out, decide_eq_true c1, decide_eq_true c2, decide_eq_false c3]; simp))
          clear HT HK HD hlt hk hk0
          go_wp2_with fail
          go_quiet ((go_at_call 29; first | exact quiet_lft (spec_l1In _ _ _ _) | exact quiet_add_lft (spec_l1In _ _ _ _)))
          go_wp2_with fail
          go_ret
          exact ⟨ret_bool HF.out.symm, below_drewN HFB.out _⟩
        have g3 : decide (5000000000 < of) = false := decide_eq_false (by omega)
        cases m1 : inR ky 0 107
        ·
          have HF := Lib.hid (HT.out (by rw [HD.out, decide_eq_true c1, decide_eq_true c2, decide_eq_true c3, m1]; simp))
          clear HT HK HD hlt hk hk0
          go_wp2_with fail
          go_quiet ((go_at_call 29; first | exact quiet_lft (spec_l1In _ _ _ _) | exact quiet_add_lft (spec_l1In _ _ _ _)))
          go_wp2_with fail
          go_ret
          exact ⟨ret_bool HF.out.symm, below_drewN HFB.out _⟩
        cases m2 : inR ld 1 127
        ·
          have HF := Lib.hid (HT.out (by rw [HD.out, decide_eq_true c1, decide_eq_true c2, decide_eq_true c3, m1, m2]; simp))
          clear HT HK HD hlt hk hk0
          go_wp2_with fail
          go_quiet ((go_at_call 29; first | exact quiet_lft (spec_l1In _ _ _ _) | exact quiet_add_lft (spec_l1In _ _ _ _)))
          go_wp2_with fail
          go_ret
          exact ⟨ret_bool HF.out.symm, below_drewN HFB.out _⟩
        have HG : Hid (egB es k = true) := Lib.hid (by rw [HD.out, decide_eq_true c1, decide_eq_true c2, decide_eq_true c3, m1, m2, decide_eq_true hk0]; simp)
        have HF : Hid (∀ j, j < k + 1 → egB es j = true) := Lib.hid (fun j hj => by
          rcases Nat.lt_or_ge j k with h | h
          · exact HK.out j h
          · obtain rfl : j = k := by omega
            exact HG.out)
        have hkk : k + 1 ≤ es.length := by omega
        clear HT HK HD hlt hk hk0
        go_wp2_with fail
        go_quiet ((go_at_call 29; first | exact quiet_lft (spec_l1In _ _ _ _) | exact quiet_add_lft (spec_l1In _ _ _ _)))
        go_wp2_with fail
        go_roundw
        case rel => exact ⟨k + 1, hkk, by go_num, below_drewN HFB.out _, HF.out⟩
        case measure => simp [intOf]; omega
      ·
        obtain ⟨k, rfl⟩ : ∃ k', k = k' + 1 := ⟨k - 1, by omega⟩
        have d0 : decide (0 < ((k : Int) + 1)) = true := decide_eq_true (by omega)
        have n1 : ((k : Int) + 1).toNat = k + 1 := by omega
        have p2 : (k : Int) < (es.length : Int) := by omega
        obtain ⟨b', off', e', -, -, hp1, -, -⟩ := hr'.at_ (k := k) (by omega)
        obtain ⟨b, off, rfl, hbB2, hc0, hc1, hc2, hc3⟩ := hr'.at_ (k := (k + 1)) hlt
        injection e' with e'; injection e' with e1 e2; subst e1; subst e2
        have c4 : ∀ ob, (wr.alloc ob).cell? ⟨b, off + k * 4 + 1, none⟩ = some (.int .i64 (glEvent es k).2.1) := fun ob => (World.cell?_alloc_lt wr ob _ (by simp; omega)).trans hp1
        clear hr' hbel
        have HFB := Lib.hid (HB.out.alloc hsz (.cells #[.int .i64 (glEvent es (k + 1)).1, .int .i64 (glEvent es (k + 1)).2.1, .int .i64 (glEvent es (k + 1)).2.2.1, .int .i64 (glEvent es (k + 1)).2.2.2] 46))
        have HD := Lib.hid (show egB es (k + 1) = (decide (0 ≤ (glEvent es (k + 1)).1) && (decide ((glEvent es (k + 1)).1 < (glEvent es (k + 1)).2.1) && (decide ((glEvent es (k + 1)).2.1 ≤ 5000000000) && (inR (glEvent es (k + 1)).2.2.1 0 107 && (inR (glEvent es (k + 1)).2.2.2 1 127 && (decide ((k + 1) = 0) || decide ((glEvent es ((k + 1) - 1)).2.1 ≤ (glEvent es (k + 1)).1))))))) from rfl)
        simp only [Nat.add_sub_cancel] at HD
        generalize (glEvent es (k + 1)).1 = on at *
        generalize (glEvent es (k + 1)).2.1 = of at *
        generalize (glEvent es (k + 1)).2.2.1 = ky at *
        generalize (glEvent es (k + 1)).2.2.2 = ld at *
        generalize (glEvent es k).2.1 = pv at *
        by_cases c1 : 0 ≤ on
        case neg =>
          have g1 : decide (on < 0) = true := decide_eq_true (by omega)
          have HF := Lib.hid (HT.out (by rw [HD.out, decide_eq_false c1]; simp))
          clear HT HK HD hlt hk
          go_wp2_with fail
          go_quiet ((go_at_call 29; first | exact quiet_lft (spec_l1In _ _ _ _) | exact quiet_add_lft (spec_l1In _ _ _ _)))
          go_wp2_with fail
          go_ret
          exact ⟨ret_bool HF.out.symm, below_drewN HFB.out _⟩
        have g1 : decide (on < 0) = false := decide_eq_false (by omega)
        by_cases c2 : on < of
        case neg =>
          have g2 : decide (of ≤ on) = true := decide_eq_true (by omega)
          have HF := Lib.hid (HT.out (by rw [HD.out, decide_eq_true c1, decide_eq_false c2]; simp))
          clear HT HK HD hlt hk
          go_wp2_with fail
          go_quiet ((go_at_call 29; first | exact quiet_lft (spec_l1In _ _ _ _) | exact quiet_add_lft (spec_l1In _ _ _ _)))
          go_wp2_with fail
          go_ret
          exact ⟨ret_bool HF.out.symm, below_drewN HFB.out _⟩
        have g2 : decide (of ≤ on) = false := decide_eq_false (by omega)
        by_cases c3 : of ≤ 5000000000
        case neg =>
          have g3 : decide (5000000000 < of) = true := decide_eq_true (by omega)
          have HF := Lib.hid (HT.out (by rw [HD.out, decide_eq_true c1, decide_eq_true c2, decide_eq_false c3]; simp))
          clear HT HK HD hlt hk
          go_wp2_with fail
          go_quiet ((go_at_call 29; first | exact quiet_lft (spec_l1In _ _ _ _) | exact quiet_add_lft (spec_l1In _ _ _ _)))
          go_wp2_with fail
          go_ret
          exact ⟨ret_bool HF.out.symm, below_drewN HFB.out _⟩
        have g3 : decide (5000000000 < of) = false := decide_eq_false (by omega)
        cases m1 : inR ky 0 107
        ·
          have HF := Lib.hid (HT.out (by rw [HD.out, decide_eq_true c1, decide_eq_true c2, decide_eq_true c3, m1]; simp))
          clear HT HK HD hlt hk
          go_wp2_with fail
          go_quiet ((go_at_call 29; first | exact quiet_lft (spec_l1In _ _ _ _) | exact quiet_add_lft (spec_l1In _ _ _ _)))
          go_wp2_with fail
          go_ret
          exact ⟨ret_bool HF.out.symm, below_drewN HFB.out _⟩
        cases m2 : inR ld 1 127
        ·
          have HF := Lib.hid (HT.out (by rw [HD.out, decide_eq_true c1, decide_eq_true c2, decide_eq_true c3, m1, m2]; simp))
          clear HT HK HD hlt hk
          go_wp2_with fail
          go_quiet ((go_at_call 29; first | exact quiet_lft (spec_l1In _ _ _ _) | exact quiet_add_lft (spec_l1In _ _ _ _)))
          go_wp2_with fail
          go_ret
          exact ⟨ret_bool HF.out.symm, below_drewN HFB.out _⟩
        by_cases c6 : pv ≤ on
        case neg =>
          have g6 : decide (on < pv) = true := decide_eq_true (by omega)
          have HF := Lib.hid (HT.out (by rw [HD.out, decide_eq_true c1, decide_eq_true c2, decide_eq_true c3, m1, m2, decide_eq_false (show ¬ (k + 1 = 0) by omega), decide_eq_false c6]; simp))
          clear HT HK HD hlt hk
          go_wp2_with fail
          go_quiet ((go_at_call 29; first | exact quiet_lft (spec_l1In _ _ _ _) | exact quiet_add_lft (spec_l1In _ _ _ _)))
          go_wp2_with fail
          go_ret
          exact ⟨ret_bool HF.out.symm, below_drewN HFB.out _⟩
        have g6 : decide (on < pv) = false := decide_eq_false (by omega)
        have HG : Hid (egB es (k + 1) = true) := Lib.hid (by rw [HD.out, decide_eq_true c1, decide_eq_true c2, decide_eq_true c3, m1, m2, decide_eq_true c6]; simp)
        have HF : Hid (∀ j, j < (k + 1) + 1 → egB es j = true) := Lib.hid (fun j hj => by
          rcases Nat.lt_or_ge j (k + 1) with h | h
          · exact HK.out j h
          · obtain rfl : j = (k + 1) := by omega
            exact HG.out)
        have hkk : (k + 1) + 1 ≤ es.length := by omega
        clear HT HK HD hlt hk
        go_wp2_with fail
        go_quiet ((go_at_call 29; first | exact quiet_lft (spec_l1In _ _ _ _) | exact quiet_add_lft (spec_l1In _ _ _ _)))
        go_wp2_with fail
        go_roundw
        case rel => exact ⟨(k + 1) + 1, hkk, by go_num, below_drewN HFB.out _, HF.out⟩
        case measure => simp [intOf]; omega
    · obtain rfl : k = es.length := by omega
      have HF := Lib.hid (ev_all HK.out)
      clear HK hbel
      by_cases h60 : es.length ≤ 60
      · have HE := Lib.hid (HF.out.trans (decide_eq_true h60))
        have d0 : decide ((es.length : Int) ≤ 60) = true := decide_eq_true (by omega)
        go_wp2_with fail
        go_ret
        exact ⟨ret_bool (by rw [HE.out]), HB.out⟩
      · have HE := Lib.hid (HF.out.trans (decide_eq_false h60))
        have d0 : decide ((es.length : Int) ≤ 60) = false := decide_eq_false (by omega)
        go_wp2_with fail
        go_ret
        exact ⟨ret_bool (by rw [HE.out]), HB.out⟩
end Go.Proofs.Ytgnbnedjocolcaa
