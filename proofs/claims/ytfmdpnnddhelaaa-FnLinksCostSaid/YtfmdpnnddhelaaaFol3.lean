/- Contracts of FollowCost and FollowPlace, of the program and of the reference. Condition: lengths at most 2^20. -/
import Derived.Test.YtfmdpnnddhelaaaFol2
namespace Go.Proofs.Ytfmdpnnddhelaaa
set_option linter.unusedVariables false
open Go.RowKit
set_option linter.unusedSimpArgs false
def folL (a b : List Int) : Int := if okK a = true ∧ okK b = true then D a b a.length b.length else -1
def placeL (a b : List Int) : Int := if okK a = true ∧ okK b = true then (bestTo (fun i => D a b i b.length) (a.length + 1) : Nat) else -1
set_option maxHeartbeats 4000000 in
theorem impl_FollowCost (A C : Option Addr) (c d : Nat) (a b : List Int) (w : World) (hx : RdI w w.heap.size A a) (hy : RdI w w.heap.size C b) (hl : a.length ≤ 1048576) (hl2 : b.length ≤ 1048576) :
    Calls Try.prog 14 #[.slice A a.length c, .slice C b.length d] w (RetI w (folL a b)) := by
  have hfin : okK a = false ∨ okK b = false → folL a b = -1 := fun h => by
    unfold folL
    rw [if_neg]
    rintro ⟨h1, h2⟩
    rcases h with h | h
    · rw [h] at h1; cases h1
    · rw [h] at h2; cases h2
  have HX := Lib.hid hx; have HY := Lib.hid hy; clear hx hy
  cases ha : okK a
  · have HF := Lib.hid (hfin (.inl ha)); have HA := Lib.hid ha; clear ha hfin
    go_enter Try.func14, Try.ntmps14
    go_wp2_with fail
    refine (impl_areKeys A c a w HX.out hl).mono ?_
    rw [HA.out]
    rintro e w' ⟨rfl, rfl⟩
    go_wp2
    go_ret
    exact ⟨ret_int HF.out.symm, Below.refl _ _⟩
  cases hb : okK b
  · have HF := Lib.hid (hfin (.inr hb)); have HA := Lib.hid ha; have HB := Lib.hid hb; clear ha hb hfin
    go_enter Try.func14, Try.ntmps14
    go_wp2_with fail
    refine (impl_areKeys A c a w HX.out hl).mono ?_
    rw [HA.out]
    rintro e w' ⟨rfl, rfl⟩
    go_wp2_with fail
    refine (impl_areKeys C d b w HY.out hl2).mono ?_
    rw [HB.out]
    rintro e w' ⟨rfl, rfl⟩
    go_wp2
    go_ret
    exact ⟨ret_int HF.out.symm, Below.refl _ _⟩
  · have hyes : folL a b = D a b a.length b.length := by unfold folL; rw [if_pos ⟨ha, hb⟩]
    have HF := Lib.hid hyes; have HA := Lib.hid ha; have HB := Lib.hid hb; clear ha hb hfin hyes
    have hla := okK_len HA.out
    have hlb := okK_len HB.out
    go_enter Try.func14, Try.ntmps14
    go_wp2_with fail
    refine (impl_areKeys A c a w HX.out hl).mono ?_
    rw [HA.out]
    rintro e w' ⟨rfl, rfl⟩
    go_wp2_with fail
    refine (impl_areKeys C d b w HY.out hl2).mono ?_
    rw [HB.out]
    rintro e w' ⟨rfl, rfl⟩
    go_wp2_with fail
    refine (impl_followTable A C c d a b w HX.out HY.out HA.out HB.out).mono ?_
    rintro e w1 ⟨A1, c1, vs, rfl, ho, ht, hb1⟩
    have HO := Lib.hid ho; have HT := Lib.hid ht; have HW := Lib.hid hb1
    clear ho ht hb1
    obtain ⟨g, g1, cg, hA1, hc1, hr1⟩ := HT.out.at_ HO.out (i := a.length) (by omega) (by omega)
    have hc2 := hr1 b.length (by omega)
    subst hA1
    clear hr1
    have p1 : (a.length : Int) < (a.length : Int) + 1 := by omega
    have p2 : (b.length : Int) < (b.length : Int) + 1 := by omega
    generalize D a b a.length b.length = x at *
    go_wp2
    go_ret
    exact ⟨ret_int HF.out.symm, HW.out⟩
set_option maxHeartbeats 4000000 in
theorem spec_FollowCost (A C : Option Addr) (c d : Nat) (a b : List Int) (w : World) (hx : RdI w w.heap.size A a) (hy : RdI w w.heap.size C b) (hl : a.length ≤ 1048576) (hl2 : b.length ≤ 1048576) :
    Calls Try.prog 12 #[.slice A a.length c, .slice C b.length d] w (RetI w (folL a b)) := by
  have hfin : okK a = false ∨ okK b = false → folL a b = -1 := fun h => by
    unfold folL
    rw [if_neg]
    rintro ⟨h1, h2⟩
    rcases h with h | h
    · rw [h] at h1; cases h1
    · rw [h] at h2; cases h2
  have HX := Lib.hid hx; have HY := Lib.hid hy; clear hx hy
  cases ha : okK a
  · have HF := Lib.hid (hfin (.inl ha)); have HA := Lib.hid ha; clear ha hfin
    go_enter Try.func12, Try.ntmps12
    go_wp2_with fail
    refine (spec_l24Valid A c a w HX.out hl).mono ?_
    rw [HA.out]
    rintro e w' ⟨rfl, rfl⟩
    go_wp2
    go_ret
    exact ⟨ret_int HF.out.symm, Below.refl _ _⟩
  cases hb : okK b
  · have HF := Lib.hid (hfin (.inr hb)); have HA := Lib.hid ha; have HB := Lib.hid hb; clear ha hb hfin
    go_enter Try.func12, Try.ntmps12
    go_wp2_with fail
    refine (spec_l24Valid A c a w HX.out hl).mono ?_
    rw [HA.out]
    rintro e w' ⟨rfl, rfl⟩
    go_wp2_with fail
    refine (spec_l24Valid C d b w HY.out hl2).mono ?_
    rw [HB.out]
    rintro e w' ⟨rfl, rfl⟩
    go_wp2
    go_ret
    exact ⟨ret_int HF.out.symm, Below.refl _ _⟩
  · have hyes : folL a b = D a b a.length b.length := by unfold folL; rw [if_pos ⟨ha, hb⟩]
    have HF := Lib.hid hyes; have HA := Lib.hid ha; have HB := Lib.hid hb; clear ha hb hfin hyes
    have hla := okK_len HA.out
    have hlb := okK_len HB.out
    go_enter Try.func12, Try.ntmps12
    go_wp2_with fail
    refine (spec_l24Valid A c a w HX.out hl).mono ?_
    rw [HA.out]
    rintro e w' ⟨rfl, rfl⟩
    go_wp2_with fail
    refine (spec_l24Valid C d b w HY.out hl2).mono ?_
    rw [HB.out]
    rintro e w' ⟨rfl, rfl⟩
    go_wp2_with fail
    refine (spec_l24Table A C c d a b w HX.out HY.out HA.out HB.out).mono ?_
    rintro e w1 ⟨A1, c1, vs, rfl, ho, ht, hb1⟩
    have HO := Lib.hid ho; have HT := Lib.hid ht; have HW := Lib.hid hb1
    clear ho ht hb1
    obtain ⟨g, g1, cg, hA1, hc1, hr1⟩ := HT.out.at_ HO.out (i := a.length) (by omega) (by omega)
    have hc2 := hr1 b.length (by omega)
    subst hA1
    clear hr1
    have p1 : (a.length : Int) < (a.length : Int) + 1 := by omega
    have p2 : (b.length : Int) < (b.length : Int) + 1 := by omega
    generalize D a b a.length b.length = x at *
    go_wp2
    go_ret
    exact ⟨ret_int HF.out.symm, HW.out⟩
set_option maxHeartbeats 4000000 in
theorem impl_FollowPlace (A C : Option Addr) (c d : Nat) (a b : List Int) (w : World) (hx : RdI w w.heap.size A a) (hy : RdI w w.heap.size C b) (hl : a.length ≤ 1048576) (hl2 : b.length ≤ 1048576) :
    Calls Try.prog 17 #[.slice A a.length c, .slice C b.length d] w (RetI w (placeL a b)) := by
  have hfin : okK a = false ∨ okK b = false → placeL a b = -1 := fun h => by
    unfold placeL
    rw [if_neg]
    rintro ⟨h1, h2⟩
    rcases h with h | h
    · rw [h] at h1; cases h1
    · rw [h] at h2; cases h2
  have HX := Lib.hid hx; have HY := Lib.hid hy; clear hx hy
  cases ha : okK a
  · have HF := Lib.hid (hfin (.inl ha)); have HA := Lib.hid ha; clear ha hfin
    go_enter Try.func17, Try.ntmps17
    go_wp2_with fail
    refine (impl_areKeys A c a w HX.out hl).mono ?_
    rw [HA.out]
    rintro e w' ⟨rfl, rfl⟩
    go_wp2
    go_ret
    exact ⟨ret_int HF.out.symm, Below.refl _ _⟩
  cases hb : okK b
  · have HF := Lib.hid (hfin (.inr hb)); have HA := Lib.hid ha; have HB := Lib.hid hb; clear ha hb hfin
    go_enter Try.func17, Try.ntmps17
    go_wp2_with fail
    refine (impl_areKeys A c a w HX.out hl).mono ?_
    rw [HA.out]
    rintro e w' ⟨rfl, rfl⟩
    go_wp2_with fail
    refine (impl_areKeys C d b w HY.out hl2).mono ?_
    rw [HB.out]
    rintro e w' ⟨rfl, rfl⟩
    go_wp2
    go_ret
    exact ⟨ret_int HF.out.symm, Below.refl _ _⟩
  · have hyes : placeL a b = (bestTo (fun i => D a b i b.length) (a.length + 1) : Nat) := by unfold placeL; rw [if_pos ⟨ha, hb⟩]
    have HF := Lib.hid hyes; have HA := Lib.hid ha; have HB := Lib.hid hb; clear ha hb hfin hyes
    have hla := okK_len HA.out
    have hlb := okK_len HB.out
    go_enter Try.func17, Try.ntmps17
    go_wp2_with fail
    refine (impl_areKeys A c a w HX.out hl).mono ?_
    rw [HA.out]
    rintro e w' ⟨rfl, rfl⟩
    go_wp2_with fail
    refine (impl_areKeys C d b w HY.out hl2).mono ?_
    rw [HB.out]
    rintro e w' ⟨rfl, rfl⟩
    go_wp2_with fail
    refine (impl_followTable A C c d a b w HX.out HY.out HA.out HB.out).mono ?_
    rintro e w1 ⟨A1, c1, vs, rfl, ho, ht, hb1⟩
    have HO := Lib.hid ho; have HT := Lib.hid ht; have HW := Lib.hid hb1
    clear ho ht hb1
    go_wp2_with fail
    go_loopw [6, 21] (fun be i wr => ∃ k : Nat, k ≤ a.length + 1 ∧ i = .int .i64 k ∧ be = .int .i64 (bestTo (fun i => D a b i b.length) k : Nat) ∧ ∃ m, wr = w1.drewN m) (fun _ i _ => a.length + 1 - (intOf i).toNat)
    case atStart => exact ⟨0, Nat.zero_le _, rfl, rfl, 0, rfl⟩
    case round =>
      obtain ⟨k, hk, rfl, rfl, m, rfl⟩ := hrel
      by_cases hlt : k < a.length + 1
      · have hbb := bestTo_le (fun i => D a b i b.length) k
        have hs : bestTo (fun i => D a b i b.length) (k + 1) = if D a b k b.length ≤ D a b (bestTo (fun i => D a b i b.length) k) b.length then k else bestTo (fun i => D a b i b.length) k := rfl
        have HS := Lib.hid hs; clear hs
        generalize bestTo (fun i => D a b i b.length) k = bp at *
        obtain ⟨g, g1, cg, hA1, hc1, hr1⟩ := HT.out.at_ HO.out (i := k) (by omega) (by omega)
        obtain ⟨g', g2, cg2, hA2, hc2, hr2⟩ := HT.out.at_ HO.out (i := bp) (by omega) (by omega)
        subst hA1
        injection hA2 with e1; injection e1 with e2; subst e2
        have hd1 := hr1 b.length (by omega)
        have hd2 := hr2 b.length (by omega)
        clear hr1 hr2
        have p1 : (k : Int) < (a.length : Int) + 1 := by omega
        have p2 : (b.length : Int) < (b.length : Int) + 1 := by omega
        have p3 : (bp : Int) < (a.length : Int) + 1 := by omega
        have p4 : (k : Int) ≤ (a.length : Int) := by omega
        have hb2 : bp ≤ k := by omega
        clear hbb
        generalize D a b k b.length = x1 at *
        generalize D a b bp b.length = x2 at *
        by_cases hx : x1 ≤ x2
        · have hxd : decide (x1 ≤ x2) = true := decide_eq_true hx
          have HXX := Lib.hid hx; clear hx
          go_wp2_with fail
          go_quiet (fail)
          go_wp2
          go_roundw
          case rel => exact ⟨k + 1, by omega, by go_num, by rw [HS.out, if_pos HXX.out], _, rfl⟩
          case measure => simp [intOf]; omega
        · have hxd : decide (x1 ≤ x2) = false := decide_eq_false hx
          have HXX := Lib.hid hx; clear hx
          go_wp2_with fail
          go_quiet (fail)
          go_wp2
          go_roundw
          case rel => exact ⟨k + 1, by omega, by go_num, by rw [HS.out, if_neg (by have := HXX.out; omega)], _, rfl⟩
          case measure => simp [intOf]; omega
      · obtain rfl : k = a.length + 1 := by omega
        have p1 : ¬ ((a.length + 1 : Nat) : Int) < (a.length : Int) + 1 := by omega
        have p2 : ¬ ((a.length + 1 : Nat) : Int) ≤ (a.length : Int) := by omega
        go_wp2
        go_ret
        exact ⟨ret_int HF.out.symm, below_drewN HW.out _⟩
set_option maxHeartbeats 4000000 in
theorem spec_FollowPlace (A C : Option Addr) (c d : Nat) (a b : List Int) (w : World) (hx : RdI w w.heap.size A a) (hy : RdI w w.heap.size C b) (hl : a.length ≤ 1048576) (hl2 : b.length ≤ 1048576) :
    Calls Try.prog 16 #[.slice A a.length c, .slice C b.length d] w (RetI w (placeL a b)) := by
  have hfin : okK a = false ∨ okK b = false → placeL a b = -1 := fun h => by
    unfold placeL
    rw [if_neg]
    rintro ⟨h1, h2⟩
    rcases h with h | h
    · rw [h] at h1; cases h1
    · rw [h] at h2; cases h2
  have HX := Lib.hid hx; have HY := Lib.hid hy; clear hx hy
  cases ha : okK a
  · have HF := Lib.hid (hfin (.inl ha)); have HA := Lib.hid ha; clear ha hfin
    go_enter Try.func16, Try.ntmps16
    go_wp2_with fail
    refine (spec_l24Valid A c a w HX.out hl).mono ?_
    rw [HA.out]
    rintro e w' ⟨rfl, rfl⟩
    go_wp2
    go_ret
    exact ⟨ret_int HF.out.symm, Below.refl _ _⟩
  cases hb : okK b
  · have HF := Lib.hid (hfin (.inr hb)); have HA := Lib.hid ha; have HB := Lib.hid hb; clear ha hb hfin
    go_enter Try.func16, Try.ntmps16
    go_wp2_with fail
    refine (spec_l24Valid A c a w HX.out hl).mono ?_
    rw [HA.out]
    rintro e w' ⟨rfl, rfl⟩
    go_wp2_with fail
    refine (spec_l24Valid C d b w HY.out hl2).mono ?_
    rw [HB.out]
    rintro e w' ⟨rfl, rfl⟩
    go_wp2
    go_ret
    exact ⟨ret_int HF.out.symm, Below.refl _ _⟩
  · have hyes : placeL a b = (bestTo (fun i => D a b i b.length) (a.length + 1) : Nat) := by unfold placeL; rw [if_pos ⟨ha, hb⟩]
    have HF := Lib.hid hyes; have HA := Lib.hid ha; have HB := Lib.hid hb; clear ha hb hfin hyes
    have hla := okK_len HA.out
    have hlb := okK_len HB.out
    go_enter Try.func16, Try.ntmps16
    go_wp2_with fail
    refine (spec_l24Valid A c a w HX.out hl).mono ?_
    rw [HA.out]
    rintro e w' ⟨rfl, rfl⟩
    go_wp2_with fail
    refine (spec_l24Valid C d b w HY.out hl2).mono ?_
    rw [HB.out]
    rintro e w' ⟨rfl, rfl⟩
    go_wp2_with fail
    refine (spec_l24Table A C c d a b w HX.out HY.out HA.out HB.out).mono ?_
    rintro e w1 ⟨A1, c1, vs, rfl, ho, ht, hb1⟩
    have HO := Lib.hid ho; have HT := Lib.hid ht; have HW := Lib.hid hb1
    clear ho ht hb1
    go_wp2_with fail
    go_loopw [6, 7] (fun be i wr => ∃ k : Nat, k ≤ a.length + 1 ∧ i = .int .i64 k ∧ be = .int .i64 (bestTo (fun i => D a b i b.length) k : Nat) ∧ ∃ m, wr = w1.drewN m) (fun _ i _ => a.length + 1 - (intOf i).toNat)
    case atStart => exact ⟨0, Nat.zero_le _, rfl, rfl, 0, rfl⟩
    case round =>
      obtain ⟨k, hk, rfl, rfl, m, rfl⟩ := hrel
      by_cases hlt : k < a.length + 1
      · have hbb := bestTo_le (fun i => D a b i b.length) k
        have hs : bestTo (fun i => D a b i b.length) (k + 1) = if D a b k b.length ≤ D a b (bestTo (fun i => D a b i b.length) k) b.length then k else bestTo (fun i => D a b i b.length) k := rfl
        have HS := Lib.hid hs; clear hs
        generalize bestTo (fun i => D a b i b.length) k = bp at *
        obtain ⟨g, g1, cg, hA1, hc1, hr1⟩ := HT.out.at_ HO.out (i := k) (by omega) (by omega)
        obtain ⟨g', g2, cg2, hA2, hc2, hr2⟩ := HT.out.at_ HO.out (i := bp) (by omega) (by omega)
        subst hA1
        injection hA2 with e1; injection e1 with e2; subst e2
        have hd1 := hr1 b.length (by omega)
        have hd2 := hr2 b.length (by omega)
        clear hr1 hr2
        have p1 : (k : Int) < (a.length : Int) + 1 := by omega
        have p2 : (b.length : Int) < (b.length : Int) + 1 := by omega
        have p3 : (bp : Int) < (a.length : Int) + 1 := by omega
        have p4 : (k : Int) ≤ (a.length : Int) := by omega
        have hb2 : bp ≤ k := by omega
        clear hbb
        generalize D a b k b.length = x1 at *
        generalize D a b bp b.length = x2 at *
        by_cases hx : x1 ≤ x2
        · have hxd : decide (x1 ≤ x2) = true := decide_eq_true hx
          have HXX := Lib.hid hx; clear hx
          go_wp2_with fail
          go_quiet (fail)
          go_wp2
          go_roundw
          case rel => exact ⟨k + 1, by omega, by go_num, by rw [HS.out, if_pos HXX.out], _, rfl⟩
          case measure => simp [intOf]; omega
        · have hxd : decide (x1 ≤ x2) = false := decide_eq_false hx
          have HXX := Lib.hid hx; clear hx
          go_wp2_with fail
          go_quiet (fail)
          go_wp2
          go_roundw
          case rel => exact ⟨k + 1, by omega, by go_num, by rw [HS.out, if_neg (by have := HXX.out; omega)], _, rfl⟩
          case measure => simp [intOf]; omega
      · obtain rfl : k = a.length + 1 := by omega
        have p1 : ¬ ((a.length + 1 : Nat) : Int) < (a.length : Int) + 1 := by omega
        have p2 : ¬ ((a.length + 1 : Nat) : Int) ≤ (a.length : Int) := by omega
        go_wp2
        go_ret
        exact ⟨ret_int HF.out.symm, below_drewN HW.out _⟩
end Go.Proofs.Ytfmdpnnddhelaaa
