/- Contracts of areKeys, linkCost and their like of the reference. Condition: lengths at most 2^20; keys within 0 .. 107 for a cost. -/
import Derived.Test.YtfmdpnnddhelaaaFolP
import Derived.Test.YtfmdpnnddhelaaaInts
namespace Go.Proofs.Ytfmdpnnddhelaaa
set_option linter.unusedVariables false
open Go.RowKit
set_option linter.unusedSimpArgs false
def okK (zs : List Int) : Bool := decide (zs.length ≤ 40) && zs.all fun z => inR z 0 107
theorem fall_take {p : Int → Bool} {zs : List Int} {k : Nat} (h : k < zs.length) (ha : (zs.take k).all p = true) (hp : p (gi zs k) = true) : (zs.take (k + 1)).all p = true := by
  rw [take_succ_gi h, List.all_append, ha]; simp [hp]
theorem fall_not {p : Int → Bool} {zs : List Int} {k : Nat} (h : k < zs.length) (hp : p (gi zs k) = false) : zs.all p = false := by
  rw [List.all_eq_false]; exact ⟨_, gi_mem h, by simp [hp]⟩
theorem fall_full {p : Int → Bool} {zs : List Int} (ha : (zs.take zs.length).all p = true) : zs.all p = true := by rwa [List.take_length] at ha
theorem okK_len {zs : List Int} (h : okK zs = true) : zs.length ≤ 40 := by simp [okK] at h; exact h.1
theorem okK_at {zs : List Int} (h : okK zs = true) {k : Nat} (hk : k < zs.length) : 0 ≤ gi zs k ∧ gi zs k ≤ 107 := by
  simp only [okK, Bool.and_eq_true, List.all_eq_true] at h
  exact inR_iff.1 (h.2 _ (gi_mem hk))
theorem impl_areKeys (A : Option Addr) (c : Nat) (zs : List Int) (w : World) (hr : RdI w w.heap.size A zs) (hl : zs.length ≤ 1048576) :
    Calls Try.prog 36 #[.slice A zs.length c] w fun e w' => e = .returned (.bool (okK zs)) ∧ w = w' := by
  by_cases h2 : zs.length ≤ 40
  · go_enter Try.func36, Try.ntmps36
    go_wp2
    go_loop [10] (fun i => ∃ k : Nat, k ≤ zs.length ∧ i = .int .i64 k ∧ (zs.take k).all (fun z => inR z 0 107) = true) (fun i => zs.length - (intOf i).toNat)
    case atStart => exact ⟨0, Nat.zero_le _, rfl, by simp⟩
    case round =>
      obtain ⟨k, hk, rfl, ht⟩ := hrel
      have HT := Lib.hid ht; clear ht
      by_cases hlt : k < zs.length
      · obtain ⟨b, off, rfl, hbB, hc⟩ := hr.at_ hlt
        have hi1 : (k : Int) < (zs.length : Int) := by omega
        clear hr
        cases hz : inR (gi zs k) 0 107
        · go_wp2_with (go_at_call 48; refine (impl_within _ _ _ _).mono ?_; rintro e w' ⟨rfl, rfl⟩)
          go_ret
          exact ⟨ret_bool (by rw [okK, fall_not hlt hz]; simp), rfl⟩
        · go_wp2_with (go_at_call 48; refine (impl_within _ _ _ _).mono ?_; rintro e w' ⟨rfl, rfl⟩)
          go_round
          case rel => exact ⟨k + 1, by omega, by go_num, fall_take hlt HT.out hz⟩
          case measure => simp [intOf]; omega
      · obtain rfl : k = zs.length := by omega
        clear hr
        go_wp2
        go_ret
        exact ⟨ret_bool (by rw [okK, fall_full HT.out]; simp [h2]), rfl⟩
  · go_enter Try.func36, Try.ntmps36
    clear hr
    go_wp2
    go_ret
    exact ⟨ret_bool (by simp [okK, h2]), rfl⟩
theorem impl_areKeysN (A : Option Addr) (c n : Nat) (zs : List Int) (w : World) (hn : zs.length = n) (hr : RdI w w.heap.size A zs) (hl : zs.length ≤ 1048576) :
    Calls Try.prog 36 #[.slice A n c] w fun e w' => e = .returned (.bool (okK zs)) ∧ w = w' := by
  subst hn; exact impl_areKeys A c zs w hr hl
theorem spec_l24Valid (A : Option Addr) (c : Nat) (zs : List Int) (w : World) (hr : RdI w w.heap.size A zs) (hl : zs.length ≤ 1048576) :
    Calls Try.prog 34 #[.slice A zs.length c] w fun e w' => e = .returned (.bool (okK zs)) ∧ w = w' := by
  go_enter Try.func34, Try.ntmps34
  go_wp2
  go_loop [3] (fun i => ∃ k : Nat, k ≤ zs.length ∧ i = .int .i64 k ∧ (zs.take k).all (fun z => inR z 0 107) = true) (fun i => zs.length - (intOf i).toNat)
  case atStart => exact ⟨0, Nat.zero_le _, rfl, by simp⟩
  case round =>
    obtain ⟨k, hk, rfl, ht⟩ := hrel
    have HT := Lib.hid ht; clear ht
    by_cases hlt : k < zs.length
    · obtain ⟨b, off, rfl, hbB, hc⟩ := hr.at_ hlt
      have hi1 : (k : Int) < (zs.length : Int) := by omega
      clear hr
      cases hz : inR (gi zs k) 0 107
      · go_wp2_with (go_at_call 47; refine (spec_l1In _ _ _ _).mono ?_; rintro e w' ⟨rfl, rfl⟩)
        go_ret
        exact ⟨ret_bool (by rw [okK, fall_not hlt hz]; simp), rfl⟩
      · go_wp2_with (go_at_call 47; refine (spec_l1In _ _ _ _).mono ?_; rintro e w' ⟨rfl, rfl⟩)
        go_round
        case rel => exact ⟨k + 1, by omega, by go_num, fall_take hlt HT.out hz⟩
        case measure => simp [intOf]; omega
    · obtain rfl : k = zs.length := by omega
      clear hr
      have hfin := Lib.hid (fall_full HT.out)
      go_wp2
      go_ret
      exact ⟨ret_bool (by rw [okK, hfin.out]; simp; omega), rfl⟩
theorem impl_distance (a b : Int) (w : World) (ha : -4000000000 ≤ a ∧ a ≤ 4000000000) (hb : -4000000000 ≤ b ∧ b ≤ 4000000000) :
    Calls Try.prog 51 #[.int .i64 a, .int .i64 b] w fun e w' => e = .returned (.int .i64 (max (a - b) (b - a))) ∧ w = w' := by
  go_enter Try.func51, Try.ntmps51
  go_wp2
  all_goals
    go_ret
    exact ⟨ret_int (by omega), rfl⟩
theorem impl_linkCost (a b : Int) (w : World) (ha : 0 ≤ a ∧ a ≤ 107) (hb : 0 ≤ b ∧ b ≤ 107) :
    Calls Try.prog 43 #[.int .i64 a, .int .i64 b] w fun e w' => e = .returned (.int .i64 (lc a b)) ∧ w = w' := by
  go_enter Try.func43, Try.ntmps43
  go_wp2_with fail
  refine (impl_distance a b w (by omega) (by omega)).mono ?_
  rintro e w' ⟨rfl, rfl⟩
  have hcs : (max (a - b) (b - a) = 0 ∧ lc a b = 0) ∨ (max (a - b) (b - a) = 1 ∧ lc a b = 2) ∨ (max (a - b) (b - a) = 2 ∧ lc a b = 2) ∨ (3 ≤ max (a - b) (b - a) ∧ lc a b = 3) := by
    unfold lc; (repeat' split) <;> omega
  generalize max (a - b) (b - a) = d at *
  rcases hcs with ⟨rfl, hl⟩ | ⟨rfl, hl⟩ | ⟨rfl, hl⟩ | ⟨h3, hl⟩
  · have HL := Lib.hid hl; clear hl
    go_wp2
    go_ret
    exact ⟨ret_int HL.out.symm, rfl⟩
  · have HL := Lib.hid hl; clear hl
    go_wp2
    go_ret
    exact ⟨ret_int HL.out.symm, rfl⟩
  · have HL := Lib.hid hl; clear hl
    go_wp2
    go_ret
    exact ⟨ret_int HL.out.symm, rfl⟩
  · have HL := Lib.hid hl; clear hl
    have e0 : (d == 0) = false := beq_eq_false_iff_ne.2 (by omega)
    have e1 : (d == 1) = false := beq_eq_false_iff_ne.2 (by omega)
    have e2 : (d == 2) = false := beq_eq_false_iff_ne.2 (by omega)
    go_wp2
    go_ret
    exact ⟨ret_int HL.out.symm, rfl⟩
theorem spec_l24Wrong (a b : Int) (w : World) (ha : 0 ≤ a ∧ a ≤ 107) (hb : 0 ≤ b ∧ b ≤ 107) :
    Calls Try.prog 41 #[.int .i64 a, .int .i64 b] w fun e w' => e = .returned (.int .i64 (lc a b)) ∧ w = w' := by
  by_cases h0 : a = b
  · subst h0
    have hl : lc a a = 0 := lc_zero.2 rfl
    have HL := Lib.hid hl; clear hl
    go_enter Try.func41, Try.ntmps41
    go_wp2
    go_ret
    exact ⟨ret_int HL.out.symm, rfl⟩
  rcases Int.lt_or_gt_of_ne h0 with h | h
  · by_cases h2 : -2 ≤ a - b ∧ a - b ≤ 2
    · have hl : lc a b = 2 := by unfold lc; rw [if_neg h0, if_pos h2]
      have HL := Lib.hid hl; clear hl
      obtain ⟨d, rfl⟩ : ∃ d, b = a + d := ⟨b - a, by omega⟩
      have hd : d = 1 ∨ d = 2 := by omega
      clear h0 h h2
      rcases hd with rfl | rfl
      all_goals
        go_enter Try.func41, Try.ntmps41
        go_wp2
        all_goals
          go_ret
          exact ⟨ret_int HL.out.symm, rfl⟩
    · have hl : lc a b = 3 := by unfold lc; rw [if_neg h0, if_neg h2]
      have HL := Lib.hid hl; clear hl
      have e0 : (max (a - b) (b - a) == 0) = false := beq_eq_false_iff_ne.2 (by omega)
      have e1 : (max (a - b) (b - a) == 1) = false := beq_eq_false_iff_ne.2 (by omega)
      have e2 : (max (a - b) (b - a) == 2) = false := beq_eq_false_iff_ne.2 (by omega)
      go_enter Try.func41, Try.ntmps41
      go_wp2
      all_goals
        go_ret
        exact ⟨ret_int HL.out.symm, rfl⟩
  · by_cases h2 : -2 ≤ a - b ∧ a - b ≤ 2
    · have hl : lc a b = 2 := by unfold lc; rw [if_neg h0, if_pos h2]
      have HL := Lib.hid hl; clear hl
      obtain ⟨d, rfl⟩ : ∃ d, a = b + d := ⟨a - b, by omega⟩
      have hd : d = 1 ∨ d = 2 := by omega
      clear h0 h h2
      rcases hd with rfl | rfl
      all_goals
        go_enter Try.func41, Try.ntmps41
        go_wp2
        all_goals
          go_ret
          exact ⟨ret_int HL.out.symm, rfl⟩
    · have hl : lc a b = 3 := by unfold lc; rw [if_neg h0, if_neg h2]
      have HL := Lib.hid hl; clear hl
      have e0 : (max (a - b) (b - a) == 0) = false := beq_eq_false_iff_ne.2 (by omega)
      have e1 : (max (a - b) (b - a) == 1) = false := beq_eq_false_iff_ne.2 (by omega)
      have e2 : (max (a - b) (b - a) == 2) = false := beq_eq_false_iff_ne.2 (by omega)
      go_enter Try.func41, Try.ntmps41
      go_wp2
      all_goals
        go_ret
        exact ⟨ret_int HL.out.symm, rfl⟩
end Go.Proofs.Ytfmdpnnddhelaaa
