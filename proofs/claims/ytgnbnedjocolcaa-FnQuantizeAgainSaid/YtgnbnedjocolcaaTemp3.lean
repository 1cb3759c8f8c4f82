/- Contracts of TickOf, of the program (by sort.Search) and of the reference. Condition: at most 2^20 tempos. -/
import Derived.Test.YtgnbnedjocolcaaTemp2
import Derived.Deep.RegionHeld3
import Derived.Laws.BitsAllLaws
import Derived.Laws.BitsLemmas
import Derived.Outline
namespace Go.Proofs.Ytgnbnedjocolcaa
open Go.RowKit
set_option linter.unusedSimpArgs false
set_option linter.unusedVariables false
set_option maxRecDepth 100000
set_option maxHeartbeats 2000000 in
/-- the closure: does the tick i + 1 begin behind x -/
theorem impl_TickOf_fn (ba bx : Nat) (A : Option Addr) (c : Nat) (ts : List (Int × Int)) (x : Int) (i : Nat) (W : World) (hr : RdTempo W W.heap.size A ts) (hv : tvB ts = true) (hi : i < 50000)
    (ha : W.cell? ⟨ba, 0, none⟩ = some (.slice A ts.length c)) (hx : W.cell? ⟨bx, 0, none⟩ = some (.int .i64 x)) :
    Calls Try.prog 51 #[.int .i64 (i : Int), .pointer (some ⟨ba, 0, none⟩), .pointer (some ⟨bx, 0, none⟩)] W (RetB W (decide (x < timeL ts ((i + 1 : Nat) : Int)))) := by
  have hla := World.block_lt_of_cell? _ _ ha
  have hlx := World.block_lt_of_cell? _ _ hx
  dsimp only at hla hlx
  have HR := Lib.hid (show RdTempo W.drew W.drew.heap.size A ts from RdR.drew hr); have HV := Lib.hid hv
  clear hr hv
  go_enter Try.func51, Try.ntmps51
  go_wp2_with fail
  have sd : W.drew.heap.size = W.heap.size := rfl
  have wi : IntKind.i64.wrap ((i : Int) + 1) = (i : Int) + 1 := IntWalk.i64_in _ (by omega)
  go_region_held3 (fun w' => w'.cell? ⟨ba, 0, none⟩ = some (.slice A ts.length c) ∧ w'.cell? ⟨bx, 0, none⟩ = some (.int .i64 x)) (first | exact ⟨ha, hx⟩ | exact ⟨(b1.cell (p := ⟨ba, 0, none⟩) (by simp; omega)).trans ha, (b1.cell (p := ⟨bx, 0, none⟩) (by simp; omega)).trans hx⟩) (first | (go_at_call 47; refine (impl_timeOf _ _ _ ((i : Int) + 1) _ HR.out HV.out (by omega) (by omega)).mono ?_; rintro e w1 ⟨rfl, b1⟩; have z1 : W.heap.size ≤ w1.heap.size := b1.size))
  have HB := Lib.hid (below_drew_left b1); clear b1
  go_wp2_with fail
  go_ret
  exact ⟨ret_bool rfl, HB.out⟩
set_option maxHeartbeats 4000000 in
theorem sort_Search_tick (ba bx : Nat) (A : Option Addr) (c : Nat) (ts : List (Int × Int)) (x : Int) (w : World) (hr : RdTempo w w.heap.size A ts) (hv : tvB ts = true) (h0 : 0 ≤ x)
    (ha : w.cell? ⟨ba, 0, none⟩ = some (.slice A ts.length c)) (hx : w.cell? ⟨bx, 0, none⟩ = some (.int .i64 x)) :
    Calls Try.prog 50 #[.int .i64 50000, .func (.func 51) #[] #[.pointer (some ⟨ba, 0, none⟩), .pointer (some ⟨bx, 0, none⟩)]] w (RetI w (tickN ts x : Int)) := by
  have hla := World.block_lt_of_cell? _ _ ha
  have hlx := World.block_lt_of_cell? _ _ hx
  dsimp only at hla hlx
  have HA := Lib.hid ha; have HX := Lib.hid hx
  have HR := Lib.hid hr; have HV := Lib.hid hv
  clear hr hv ha hx
  go_enter Try.func50, Try.ntmps50
  go_wp2_with fail
  go_loopw [5, 6] (fun s5 s6 wr => ∃ (lo hi : Nat), s5 = .int .i64 lo ∧ s6 = .int .i64 hi ∧ lo ≤ hi ∧ hi ≤ 50000 ∧ Below w.heap.size w wr ∧ (∀ t : Nat, t < lo → timeL ts ((t + 1 : Nat) : Int) ≤ x) ∧ (∀ t : Nat, hi ≤ t → t < 50000 → x < timeL ts ((t + 1 : Nat) : Int))) (fun s5 s6 _ => (intOf s6).toNat - (intOf s5).toNat)
  case atStart => exact ⟨0, 50000, rfl, rfl, by omega, by omega, Below.refl _ _, fun t h => by omega, fun t h1 h2 => by omega⟩
  case round =>
    obtain ⟨lo, hi, rfl, rfl, hlh, hin, hbel, hlo, hhi⟩ := hrel
    have HB := Lib.hid hbel; have HL := Lib.hid hlo; have HH := Lib.hid hhi
    have hsz := hbel.size
    clear hlo hhi
    by_cases hlt : lo < hi
    · have hc := impl_TickOf_fn ba bx A c ts x ((lo + hi) / 2) wr ((RdTempo.below HR.out hbel (Nat.le_refl _)).more hsz) HV.out (by omega) ((hbel.cell (p := ⟨ba, 0, none⟩) hla).trans HA.out) ((hbel.cell (p := ⟨bx, 0, none⟩) hlx).trans HX.out)
      rw [show (((lo + hi) / 2 : Nat) : Int) = ((lo : Int) + (hi : Int)) / 2 by omega] at hc
      have hm1 : lo ≤ (lo + hi) / 2 := by omega
      have hm2 : (lo + hi) / 2 < hi := by omega
      have e1 : ((lo : Int) + (hi : Int)) / 2 = (((lo + hi) / 2 : Nat) : Int) := by omega
      generalize hmid : (lo + hi) / 2 = m at *
      have HE := Lib.hid e1
      clear hbel e1
      cases hp : decide (x < timeL ts ((m + 1 : Nat) : Int))
      · rw [hp] at hc
        have HC := Lib.hid hc
        have HP := Lib.hid (of_decide_eq_false hp)
        clear hc hp
        go_wp2_with (go_at_call 51; refine HC.out.mono ?_; rintro e w1 ⟨rfl, b1⟩)
        have HB1 := Lib.hid (HB.out.trans (b1.mono hsz)); clear b1
        rw [HE.out]
        go_wp2_with fail
        go_roundw
        case rel => exact ⟨m + 1, hi, by go_num, rfl, by omega, by omega, HB1.out, fun t ht => by
          have := timeL_mono HV.out (show ((t + 1 : Nat) : Int) ≤ ((m + 1 : Nat) : Int) by omega)
          have := HP.out; omega, HH.out⟩
        case measure => simp [intOf]; omega
      · rw [hp] at hc
        have HC := Lib.hid hc
        have HP := Lib.hid (of_decide_eq_true hp)
        clear hc hp
        go_wp2_with (go_at_call 51; refine HC.out.mono ?_; rintro e w1 ⟨rfl, b1⟩)
        have HB1 := Lib.hid (HB.out.trans (b1.mono hsz)); clear b1
        rw [HE.out]
        go_wp2_with fail
        go_roundw
        case rel => exact ⟨lo, m, rfl, rfl, by omega, by omega, HB1.out, HL.out, fun t h1 h2 => by
          have := timeL_mono HV.out (show ((m + 1 : Nat) : Int) ≤ ((t + 1 : Nat) : Int) by omega)
          have := HP.out; omega⟩
        case measure => simp [intOf]; omega
    · obtain rfl : hi = lo := by omega
      have HF := Lib.hid (tickN_eq HV.out (x := x) hin (by
        rcases Nat.eq_zero_or_pos hi with h | h
        · subst h; have := timeL_zero HV.out; simp only [Int.natCast_zero]; omega
        · have := HL.out (hi - 1) (by omega)
          rwa [show hi - 1 + 1 = hi by omega] at this) (fun h => HH.out hi (Nat.le_refl _) h))
      clear hbel
      go_wp2_with fail
      go_ret
      exact ⟨ret_int (by rw [HF.out]), HB.out⟩
set_option maxHeartbeats 2000000 in
theorem impl_TickOf (A : Option Addr) (c : Nat) (ts : List (Int × Int)) (x : Int) (w : World) (hr : RdTempo w w.heap.size A ts) (hl : ts.length ≤ 1048576) :
    Calls Try.prog 25 #[.slice A ts.length c, .int .i64 x] w (RetI w (tickL ts x)) := by
  have b0 : Below w.heap.size w ((w.alloc (.cells #[.slice A ts.length c] 29)).alloc (.cells #[.int .i64 x] 3)) := by (repeat (first | exact Below.refl _ _ | refine Below.alloc ?_ (by simp; try omega) _ | refine below_drewN ?_ _ | refine Below.drew ?_))
  have q0 : ((w.alloc (.cells #[.slice A ts.length c] 29)).alloc (.cells #[.int .i64 x] 3)).cell? ⟨w.heap.size, 0, none⟩ = some (.slice A ts.length c) := by simp [go_sem]
  have q1 : ((w.alloc (.cells #[.slice A ts.length c] 29)).alloc (.cells #[.int .i64 x] 3)).cell? ⟨w.heap.size + 1, 0, none⟩ = some (.int .i64 x) := by simp [go_sem]
  have z0 : w.heap.size + 2 ≤ ((w.alloc (.cells #[.slice A ts.length c] 29)).alloc (.cells #[.int .i64 x] 3)).heap.size := by simp
  have HB := Lib.hid b0
  have HR := Lib.hid ((RdTempo.below hr b0 (Nat.le_refl _)).more (show w.heap.size ≤ ((w.alloc (.cells #[.slice A ts.length c] 29)).alloc (.cells #[.int .i64 x] 3)).heap.size by omega))
  clear hr b0
  have HN : Hid (tvB ts = false ∨ x < 0 → tickL ts x = -1) := Lib.hid (fun h => by
    unfold tickL
    rw [if_neg]
    rintro ⟨h1, h2⟩
    rcases h with h | h
    · rw [h] at h1; cases h1
    · omega)
  cases hv : tvB ts
  · have HV := Lib.hid hv; have HF := Lib.hid (HN.out (.inl hv)); clear hv HN
    go_enter Try.func25, Try.ntmps25
    go_wp2_with fail
    generalize ((w.alloc (.cells #[.slice A ts.length c] 29)).alloc (.cells #[.int .i64 x] 3)) = w0 at *
    refine (impl_TemposValid _ _ _ _ HR.out hl).mono ?_
    rw [HV.out]
    rintro e w1 ⟨rfl, b1⟩
    have HB1 := Lib.hid (HB.out.trans (b1.mono (by omega))); clear b1
    go_wp2_with fail
    go_ret
    exact ⟨ret_int HF.out.symm, HB1.out⟩
  have HV := Lib.hid hv; clear hv
  by_cases h0 : x < 0
  · have HF := Lib.hid (HN.out (.inr h0))
    have d0 : decide (x < 0) = true := decide_eq_true h0
    clear HN h0
    go_enter Try.func25, Try.ntmps25
    go_wp2_with fail
    generalize ((w.alloc (.cells #[.slice A ts.length c] 29)).alloc (.cells #[.int .i64 x] 3)) = w0 at *
    refine (impl_TemposValid _ _ _ _ HR.out hl).mono ?_
    rw [HV.out]
    rintro e w1 ⟨rfl, b1⟩
    have q2 := (b1.cell (p := ⟨w.heap.size + 1, 0, none⟩) (by simp; omega)).trans q1
    have HB1 := Lib.hid (HB.out.trans (b1.mono (by omega))); clear b1
    go_wp2_with fail
    go_ret
    exact ⟨ret_int HF.out.symm, HB1.out⟩
  have HF : Hid (tickL ts x = (tickN ts x : Int)) := by unfold Hid; unfold tickL; rw [if_pos ⟨HV.out, by omega⟩]
  have d0 : decide (x < 0) = false := decide_eq_false h0
  have h1 : 0 ≤ x := by omega
  clear HN h0
  go_enter Try.func25, Try.ntmps25
  go_wp2_with fail
  generalize ((w.alloc (.cells #[.slice A ts.length c] 29)).alloc (.cells #[.int .i64 x] 3)) = w0 at *
  refine (impl_TemposValid _ _ _ _ HR.out hl).mono ?_
  rw [HV.out]
  rintro e w1 ⟨rfl, b1⟩
  have z1 := b1.size
  have p0 := (b1.cell (p := ⟨w.heap.size, 0, none⟩) (by simp; omega)).trans q0
  have p1 := (b1.cell (p := ⟨w.heap.size + 1, 0, none⟩) (by simp; omega)).trans q1
  replace HR := Lib.hid ((HR.out.below b1 (Nat.le_refl _)).more z1)
  replace HB := Lib.hid (HB.out.trans (b1.mono (by omega))); clear b1 q0 q1
  go_wp2_with fail
  refine (sort_Search_tick w.heap.size (w.heap.size + 1) A c ts x w1 HR.out HV.out h1 p0 p1).mono ?_
  rintro e w2 ⟨rfl, b2⟩
  replace HB := Lib.hid (HB.out.trans (b2.mono (by omega))); clear b2
  go_wp2_with fail
  go_ret
  exact ⟨ret_int HF.out.symm, HB.out⟩
set_option maxHeartbeats 2000000 in
theorem spec_TickOf (A : Option Addr) (c : Nat) (ts : List (Int × Int)) (x : Int) (w : World) (hr : RdTempo w w.heap.size A ts) (hl : ts.length ≤ 1048576) :
    Calls Try.prog 37 #[.slice A ts.length c, .int .i64 x] w (RetI w (tickL ts x)) := by
  have HR := Lib.hid hr
  clear hr
  have HN : Hid (tvB ts = false ∨ x < 0 → tickL ts x = -1) := Lib.hid (fun h => by
    unfold tickL
    rw [if_neg]
    rintro ⟨h1, h2⟩
    rcases h with h | h
    · rw [h] at h1; cases h1
    · omega)
  cases hv : tvB ts
  · have HV := Lib.hid hv; have HF := Lib.hid (HN.out (.inl hv)); clear hv HN
    go_enter Try.func37, Try.ntmps37
    go_wp2_with fail
    refine (spec_TemposValid _ _ _ _ HR.out hl).mono ?_
    rw [HV.out]
    rintro e w1 ⟨rfl, b1⟩
    have HB1 := Lib.hid b1; clear b1
    go_wp2_with fail
    go_ret
    exact ⟨ret_int HF.out.symm, HB1.out⟩
  have HV := Lib.hid hv; clear hv
  by_cases h0 : x < 0
  · have HF := Lib.hid (HN.out (.inr h0))
    have d0 : decide (x < 0) = true := decide_eq_true h0
    clear HN h0
    go_enter Try.func37, Try.ntmps37
    go_wp2_with fail
    refine (spec_TemposValid _ _ _ _ HR.out hl).mono ?_
    rw [HV.out]
    rintro e w1 ⟨rfl, b1⟩
    have HB1 := Lib.hid b1; clear b1
    go_wp2_with fail
    go_ret
    exact ⟨ret_int HF.out.symm, HB1.out⟩
  have HF : Hid (tickL ts x = (tickN ts x : Int)) := by unfold Hid; unfold tickL; rw [if_pos ⟨HV.out, by omega⟩]
  have d0 : decide (x < 0) = false := decide_eq_false h0
  have h1 : 0 ≤ x := by omega
  clear HN h0
  go_enter Try.func37, Try.ntmps37
  go_wp2_with fail
  refine (spec_TemposValid _ _ _ _ HR.out hl).mono ?_
  rw [HV.out]
  rintro e w1 ⟨rfl, b1⟩
  have z1 := b1.size
  have HR1 := Lib.hid ((HR.out.below b1 (Nat.le_refl _)).more z1)
  have HB := Lib.hid b1; clear b1 HR
  go_wp2_with fail
  go_loopw [5, 6] (fun s5 s6 wr => ∃ (lo hi : Nat), s5 = .int .i64 lo ∧ s6 = .int .i64 hi ∧ lo ≤ hi ∧ hi ≤ 50000 ∧ Below w1.heap.size w1 wr ∧ timeL ts lo ≤ x ∧ (∀ t : Nat, hi < t → t ≤ 50000 → x < timeL ts t)) (fun s5 s6 _ => (intOf s6).toNat - (intOf s5).toNat)
  case atStart => exact ⟨0, 50000, rfl, rfl, by omega, by omega, Below.refl _ _, by have := timeL_zero HV.out; simp only [Int.natCast_zero]; omega, fun t a b => by omega⟩
  case round =>
    obtain ⟨lo, hi, rfl, rfl, hlh, hin, hbel, hlo, hhi⟩ := hrel
    have HL := Lib.hid hlo; have HH := Lib.hid hhi
    have hsz := hbel.size
    have HR2 := Lib.hid ((HR1.out.below hbel (Nat.le_refl _)).more hsz)
    have HB2 := Lib.hid hbel
    clear hlo hhi hbel
    by_cases hlt : lo < hi
    · have e1 : ((lo : Int) + (hi : Int) + 1) / 2 = (((lo + hi + 1) / 2 : Nat) : Int) := by omega
      have hm1 : lo < (lo + hi + 1) / 2 := by omega
      have hm2 : (lo + hi + 1) / 2 ≤ hi := by omega
      generalize (lo + hi + 1) / 2 = m at *
      have HE := Lib.hid e1; clear e1
      have HC := Lib.hid (spec_l19Time A c ts (m : Int) wr HR2.out HV.out (by omega) (by omega))
      generalize hx : timeL ts (m : Int) = y at *
      have HY := Lib.hid hx; clear hx
      by_cases hp : y ≤ x
      · have d1 : decide (y ≤ x) = true := decide_eq_true hp
        have HP := Lib.hid hp; clear hp
        go_wp2_with (rw [HE.out]; go_at_call 54; refine HC.out.mono ?_; rintro e w2 ⟨rfl, b2⟩)
        have HB3 := Lib.hid (HB2.out.trans (b2.mono hsz)); clear b2
        try rw [HE.out]
        go_wp2_with fail
        go_roundw
        case rel => exact ⟨m, hi, rfl, rfl, by omega, by omega, HB3.out, by rw [HY.out]; exact HP.out, HH.out⟩
        case measure => simp [intOf]; omega
      · have d1 : decide (y ≤ x) = false := decide_eq_false hp
        have HP := Lib.hid hp; clear hp
        go_wp2_with (rw [HE.out]; go_at_call 54; refine HC.out.mono ?_; rintro e w2 ⟨rfl, b2⟩)
        have HB3 := Lib.hid (HB2.out.trans (b2.mono hsz)); clear b2
        try rw [HE.out]
        go_wp2_with fail
        go_roundw
        case rel => exact ⟨lo, m - 1, rfl, congrArg (Value.int IntKind.i64) (by omega), by omega, by omega, HB3.out, HL.out, fun t a b => by
          have := timeL_mono HV.out (show (m : Int) ≤ (t : Int) by omega)
          have := HP.out; have := HY.out; omega⟩
        case measure => simp [intOf]; omega
    · obtain rfl : hi = lo := by omega
      have HG := Lib.hid (tickN_eq HV.out (x := x) hin HL.out (fun h => HH.out (hi + 1) (by omega) (by omega)))
      go_wp2_with fail
      go_ret
      exact ⟨ret_int (by rw [HF.out, HG.out]), HB.out.trans (HB2.out.mono (by omega))⟩
end Go.Proofs.Ytgnbnedjocolcaa
