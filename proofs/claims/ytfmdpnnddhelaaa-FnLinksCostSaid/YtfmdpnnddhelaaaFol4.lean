/- Contracts of LinksCost, of the program and of the reference. Condition: lengths at most 2^20. -/
import Derived.Test.YtfmdpnnddhelaaaFol3
import Derived.Test.YtfmdpnnddhelaaaRecLink
namespace Go.Proofs.Ytfmdpnnddhelaaa
open Go.RowKit
set_option linter.unusedSimpArgs false
set_option linter.unusedVariables false
def lnkL (a b : List Int) (ls : List (Int × Int)) : Int := if okK a = true ∧ okK b = true then runL a b ls 0 0 0 else -1
theorem quiet_add_left {P : Program} {f : FuncId} {args : Array Value} {w : World} {a n : Nat} {v : Value}
    (h : Calls P f args (w.drewN (a + n)) fun e w' => e = .returned v ∧ w.drewN (a + n) = w') :
    Calls P f args (w.drewN (a + n)) fun e w'' => e = .returned v ∧ ∃ m, w'' = w.drewN (a + m) :=
  h.mono fun _ _ ⟨he, hm⟩ => ⟨he, n, hm.symm⟩
set_option maxRecDepth 100000 in
set_option maxHeartbeats 8000000 in
theorem impl_LinksCost (A C E : Option Addr) (c d m : Nat) (a b : List Int) (ls : List (Int × Int)) (w : World) (hx : RdI w w.heap.size A a) (hy : RdI w w.heap.size C b) (hz : RdLink w w.heap.size E ls) (hl : a.length ≤ 1048576) (hl2 : b.length ≤ 1048576) (hl3 : ls.length ≤ 1048576) :
    Calls Try.prog 23 #[.slice A a.length c, .slice C b.length d, .slice E ls.length m] w (RetI w (lnkL a b ls)) := by
  have hfin : okK a = false ∨ okK b = false → lnkL a b ls = -1 := fun h => by
    unfold lnkL
    rw [if_neg]
    rintro ⟨h1, h2⟩
    rcases h with h | h
    · rw [h] at h1; cases h1
    · rw [h] at h2; cases h2
  have HX := Lib.hid hx; have HY := Lib.hid hy; clear hx hy
  cases ha : okK a
  · have HF := Lib.hid (hfin (.inl ha)); have HA := Lib.hid ha; clear ha hfin
    go_enter Try.func23, Try.ntmps23
    go_wp2_with fail
    refine (impl_areKeys A c a w HX.out hl).mono ?_
    rw [HA.out]
    rintro e w' ⟨rfl, rfl⟩
    go_wp2
    go_ret
    exact ⟨ret_int HF.out.symm, Below.refl _ _⟩
  cases hb : okK b
  · have HF := Lib.hid (hfin (.inr hb)); have HA := Lib.hid ha; have HB := Lib.hid hb; clear ha hb hfin
    go_enter Try.func23, Try.ntmps23
    go_wp2_with fail
    refine (impl_areKeys A c a w HX.out hl).mono ?_
    rw [HA.out]
    rintro e w' ⟨rfl, rfl⟩
    go_wp2_with fail
    refine (impl_areKeys C d b w HY.out hl2).mono ?_
    rw [HB.out]
    rintro e w' ⟨rfl, rfl⟩
    go_wp2
    go_ret
    exact ⟨ret_int HF.out.symm, Below.refl _ _⟩
  · have hyes : lnkL a b ls = runL a b ls 0 0 0 := by unfold lnkL; rw [if_pos ⟨ha, hb⟩]
    have HF := Lib.hid hyes; have HA := Lib.hid ha; have HB := Lib.hid hb; have HZ := Lib.hid hz; clear ha hb hfin hyes hz
    have hla := okK_len HA.out
    have hlb := okK_len HB.out
    go_enter Try.func23, Try.ntmps23
    go_wp2_with fail
    refine (impl_areKeys A c a w HX.out hl).mono ?_
    rw [HA.out]
    rintro e w' ⟨rfl, rfl⟩
    go_wp2_with fail
    refine (impl_areKeys C d b w HY.out hl2).mono ?_
    rw [HB.out]
    rintro e w' ⟨rfl, rfl⟩
    go_wp2_with fail
    go_loopw [7, 8, 9, 24] (fun vi vj vc vq wr => ∃ (q i j : Nat) (cs : Int), q ≤ ls.length ∧ vq = .int .i64 q ∧ vi = .int .i64 i ∧ vj = .int .i64 j ∧ vc = .int .i64 cs ∧ i ≤ a.length ∧ j ≤ b.length ∧ 0 ≤ cs ∧ cs ≤ 3 * q ∧ runL a b (ls.drop q) i j cs = runL a b ls 0 0 0 ∧ Below w.heap.size w wr) (fun _ _ _ vq _ => ls.length - (intOf vq).toNat)
    case atStart => exact ⟨0, 0, 0, 0, Nat.zero_le _, rfl, rfl, rfl, rfl, Nat.zero_le _, Nat.zero_le _, Int.le_refl _, by omega, by rw [List.drop_zero], Below.refl _ _⟩
    case round =>
      obtain ⟨q, i, j, cs, hq, rfl, rfl, rfl, rfl, hi, hj, hc0, hc1, hrun, hbel⟩ := hrel
      have hsz := hbel.size
      have HL := Lib.hid hbel; clear hbel
      have HRN := Lib.hid hrun; clear hrun
      by_cases hlt : q < ls.length
      · obtain ⟨b1, o1, rfl, hb1, hk0, hk1⟩ := (HZ.out.below HL.out (Nat.le_refl _)).at_ hlt
        have hdr : ls.drop q = glLink ls q :: ls.drop (q + 1) := by rw [List.drop_eq_getElem_cons hlt, glLink_get hlt]
        have hql : (q : Int) < (ls.length : Int) := by omega
        have hnb : b1 ≠ wr.heap.size := by omega
        generalize hgl : glLink ls q = l at *
        obtain ⟨s, p⟩ := l
        dsimp only at hk0 hk1
        have HDR := Lib.hid hdr; clear hdr hgl
        by_cases hs : s = -1
        · subst hs
          by_cases hp : p = -1
          · subst hp
            have HBD : Hid (badL a b i j (-1, -1) = true) := by unfold Hid badL; simp
            go_wp2_with fail
            go_quiet (fail)
            go_wp2_with fail
            go_ret
            exact ⟨ret_int (by rw [HF.out, ← HRN.out, HDR.out, runL, if_pos HBD.out]), (by repeat (first | exact HL.out | exact below_drewN HL.out _ | refine Below.alloc ?_ (by first | exact hsz | (simp; omega) | omega) _ | refine below_drewN ?_ _))⟩
          by_cases hpj : p = (j : Int)
          case neg =>
            have p1 : ((p : Int) != -1) = true := bne_iff_ne.2 (by omega)
            have p2 : ((p : Int) == -1) = false := beq_eq_false_iff_ne.2 (by omega)
            have p3 : ((p : Int) != (j : Int)) = true := bne_iff_ne.2 (by omega)
            have HBD : Hid (badL a b i j (-1, p) = true) := by unfold Hid badL; simp [hp, hpj]
            clear hp hpj
            go_wp2_with fail
            go_quiet (fail)
            go_wp2_with fail
            go_ret
            exact ⟨ret_int (by rw [HF.out, ← HRN.out, HDR.out, runL, if_pos HBD.out]), (by repeat (first | exact HL.out | exact below_drewN HL.out _ | refine Below.alloc ?_ (by first | exact hsz | (simp; omega) | omega) _ | refine below_drewN ?_ _))⟩
          subst hpj
          by_cases hjb : j = b.length
          · have hjb2 : (j : Int) = (b.length : Int) := by omega
            have p1 : ((j : Int) != -1) = true := bne_iff_ne.2 (by omega)
            have p2 : ((j : Int) == -1) = false := beq_eq_false_iff_ne.2 (by omega)
            have j3 : (b.length ≤ j) = True := eq_true (by omega)
            have j1 : ((j : Int) == (b.length : Int)) = true := beq_iff_eq.2 (by omega)
            have j2 : decide ((j : Int) < (b.length : Int)) = false := decide_eq_false (by omega)
            have HBD : Hid (badL a b i j (-1, (j : Int)) = true) := by unfold Hid badL; simp [hjb2]; try omega
            have HJB := Lib.hid hjb; clear hjb hjb2 hp
            go_wp2_with fail
            go_quiet (fail)
            go_wp2_with fail
            go_ret
            exact ⟨ret_int (by rw [HF.out, ← HRN.out, HDR.out, runL, if_pos HBD.out]), (by repeat (first | exact HL.out | exact below_drewN HL.out _ | refine Below.alloc ?_ (by first | exact hsz | (simp; omega) | omega) _ | refine below_drewN ?_ _))⟩
          · have hjb2 : ¬ (j : Int) = (b.length : Int) := by omega
            have p1 : ((j : Int) != -1) = true := bne_iff_ne.2 (by omega)
            have p2 : ((j : Int) == -1) = false := beq_eq_false_iff_ne.2 (by omega)
            have j3 : (b.length ≤ j) = False := eq_false (by omega)
            have j1 : ((j : Int) == (b.length : Int)) = false := beq_eq_false_iff_ne.2 (by omega)
            have j2 : decide ((j : Int) < (b.length : Int)) = true := decide_eq_true (by omega)
            have HBD : Hid (badL a b i j (-1, (j : Int)) = false) := by unfold Hid badL; simp [hjb2]; try omega
            have HUS : Hid (upS (-1, (j : Int)) i = i) := by unfold Hid upS; simp
            have HUP : Hid (upP (-1, (j : Int)) j = j + 1) := by unfold Hid upP; rw [if_pos (by simp; try omega)]
            have HCS : Hid (costL a b i j (-1, (j : Int)) = 2) := by unfold Hid costL; simp
            clear hjb2 hp
            go_wp2_with fail
            go_quiet (fail)
            go_wp2_with fail
            go_roundw
            case rel => exact ⟨q + 1, i, j + 1, cs + 2, by omega, by go_num, by first | rfl | go_num, by first | rfl | go_num, by first | rfl | go_num, by omega, by omega, by omega, by omega, by rw [← HRN.out, HDR.out, runL, if_neg (by rw [HBD.out]; simp), HUS.out, HUP.out, HCS.out], (by repeat (first | exact HL.out | exact below_drewN HL.out _ | refine Below.alloc ?_ (by first | exact hsz | (simp; omega) | omega) _ | refine below_drewN ?_ _))⟩
            case measure => simp [intOf]; omega
        by_cases hsi : s = (i : Int)
        case neg =>
          have s1 : ((s : Int) != -1) = true := bne_iff_ne.2 (by omega)
          have s2 : ((s : Int) == -1) = false := beq_eq_false_iff_ne.2 (by omega)
          have s3 : ((s : Int) != (i : Int)) = true := bne_iff_ne.2 (by omega)
          have HBD : Hid (badL a b i j (s, p) = true) := by unfold Hid badL; simp [hs, hsi]
          clear hs hsi
          go_wp2_with fail
          go_quiet (fail)
          go_wp2_with fail
          go_ret
          exact ⟨ret_int (by rw [HF.out, ← HRN.out, HDR.out, runL, if_pos HBD.out]), (by repeat (first | exact HL.out | exact below_drewN HL.out _ | refine Below.alloc ?_ (by first | exact hsz | (simp; omega) | omega) _ | refine below_drewN ?_ _))⟩
        subst hsi
        by_cases hia : i = a.length
        case pos =>
          have hia2 : (i : Int) = (a.length : Int) := by omega
          have s1 : ((i : Int) != -1) = true := bne_iff_ne.2 (by omega)
          have s2 : ((i : Int) == -1) = false := beq_eq_false_iff_ne.2 (by omega)
          have i3 : (a.length ≤ i) = True := eq_true (by omega)
          have i1 : ((i : Int) == (a.length : Int)) = true := beq_iff_eq.2 (by omega)
          have i2 : decide ((i : Int) < (a.length : Int)) = false := decide_eq_false (by omega)
          have HBD : Hid (badL a b i j ((i : Int), p) = true) := by unfold Hid badL; simp [hia2]; try omega
          have HIA := Lib.hid hia; clear hia hia2 hs
          go_wp2_with fail
          go_quiet (fail)
          go_wp2_with fail
          go_ret
          exact ⟨ret_int (by rw [HF.out, ← HRN.out, HDR.out, runL, if_pos HBD.out]), (by repeat (first | exact HL.out | exact below_drewN HL.out _ | refine Below.alloc ?_ (by first | exact hsz | (simp; omega) | omega) _ | refine below_drewN ?_ _))⟩
        have hia2 : ¬ (i : Int) = (a.length : Int) := by omega
        by_cases hp : p = -1
        · subst hp
          have s1 : ((i : Int) != -1) = true := bne_iff_ne.2 (by omega)
          have s2 : ((i : Int) == -1) = false := beq_eq_false_iff_ne.2 (by omega)
          have i3 : (a.length ≤ i) = False := eq_false (by omega)
          have i1 : ((i : Int) == (a.length : Int)) = false := beq_eq_false_iff_ne.2 (by omega)
          have i2 : decide ((i : Int) < (a.length : Int)) = true := decide_eq_true (by omega)
          have HBD : Hid (badL a b i j ((i : Int), -1) = false) := by unfold Hid badL; simp [hia2]; try omega
          have HUS : Hid (upS ((i : Int), -1) i = i + 1) := by unfold Hid upS; rw [if_pos (by simp; try omega)]
          have HUP : Hid (upP ((i : Int), -1) j = j) := by unfold Hid upP; simp
          have HCS : Hid (costL a b i j ((i : Int), -1) = 2) := by unfold Hid costL; simp
          clear hia2 hs
          go_wp2_with fail
          go_quiet (fail)
          go_wp2_with fail
          go_roundw
          case rel => exact ⟨q + 1, i + 1, j, cs + 2, by omega, by go_num, by first | rfl | go_num, by first | rfl | go_num, by first | rfl | go_num, by omega, by omega, by omega, by omega, by rw [← HRN.out, HDR.out, runL, if_neg (by rw [HBD.out]; simp), HUS.out, HUP.out, HCS.out], (by repeat (first | exact HL.out | exact below_drewN HL.out _ | refine Below.alloc ?_ (by first | exact hsz | (simp; omega) | omega) _ | refine below_drewN ?_ _))⟩
          case measure => simp [intOf]; omega
        by_cases hpj : p = (j : Int)
        case neg =>
          have s1 : ((i : Int) != -1) = true := bne_iff_ne.2 (by omega)
          have s2 : ((i : Int) == -1) = false := beq_eq_false_iff_ne.2 (by omega)
          have i3 : (a.length ≤ i) = False := eq_false (by omega)
          have i1 : ((i : Int) == (a.length : Int)) = false := beq_eq_false_iff_ne.2 (by omega)
          have i2 : decide ((i : Int) < (a.length : Int)) = true := decide_eq_true (by omega)
          have p1 : ((p : Int) != -1) = true := bne_iff_ne.2 (by omega)
          have p2 : ((p : Int) == -1) = false := beq_eq_false_iff_ne.2 (by omega)
          have p3 : ((p : Int) != (j : Int)) = true := bne_iff_ne.2 (by omega)
          have HBD : Hid (badL a b i j ((i : Int), p) = true) := by unfold Hid badL; simp [hp, hpj]
          clear hp hpj hia2 hs
          go_wp2_with fail
          go_quiet (fail)
          go_wp2_with fail
          go_ret
          exact ⟨ret_int (by rw [HF.out, ← HRN.out, HDR.out, runL, if_pos HBD.out]), (by repeat (first | exact HL.out | exact below_drewN HL.out _ | refine Below.alloc ?_ (by first | exact hsz | (simp; omega) | omega) _ | refine below_drewN ?_ _))⟩
        subst hpj
        by_cases hjb : j = b.length
        · have hjb2 : (j : Int) = (b.length : Int) := by omega
          have s1 : ((i : Int) != -1) = true := bne_iff_ne.2 (by omega)
          have s2 : ((i : Int) == -1) = false := beq_eq_false_iff_ne.2 (by omega)
          have i3 : (a.length ≤ i) = False := eq_false (by omega)
          have i1 : ((i : Int) == (a.length : Int)) = false := beq_eq_false_iff_ne.2 (by omega)
          have i2 : decide ((i : Int) < (a.length : Int)) = true := decide_eq_true (by omega)
          have p1 : ((j : Int) != -1) = true := bne_iff_ne.2 (by omega)
          have p2 : ((j : Int) == -1) = false := beq_eq_false_iff_ne.2 (by omega)
          have j3 : (b.length ≤ j) = True := eq_true (by omega)
          have j1 : ((j : Int) == (b.length : Int)) = true := beq_iff_eq.2 (by omega)
          have j2 : decide ((j : Int) < (b.length : Int)) = false := decide_eq_false (by omega)
          have HBD : Hid (badL a b i j ((i : Int), (j : Int)) = true) := by unfold Hid badL; simp [hjb2]; try omega
          have HJB := Lib.hid hjb; clear hjb hjb2 hp hia2 hs
          go_wp2_with fail
          go_quiet (fail)
          go_wp2_with fail
          go_ret
          exact ⟨ret_int (by rw [HF.out, ← HRN.out, HDR.out, runL, if_pos HBD.out]), (by repeat (first | exact HL.out | exact below_drewN HL.out _ | refine Below.alloc ?_ (by first | exact hsz | (simp; omega) | omega) _ | refine below_drewN ?_ _))⟩
        · have hjb2 : ¬ (j : Int) = (b.length : Int) := by omega
          obtain ⟨b2, o2, rfl, hb2, hka⟩ := (HX.out.below HL.out (Nat.le_refl _)).at_ (k := i) (by omega)
          obtain ⟨b3, o3, rfl, hb3, hkb⟩ := (HY.out.below HL.out (Nat.le_refl _)).at_ (k := j) (by omega)
          have hnb2 : b2 ≠ wr.heap.size := by omega
          have hnb3 : b3 ≠ wr.heap.size := by omega
          have hga := okK_at HA.out (k := i) (by omega)
          have hgb := okK_at HB.out (k := j) (by omega)
          have hlc := lc_bd (gi a i) (gi b j)
          have hia3 : (i : Int) < (a.length : Int) := by omega
          have hjb3 : (j : Int) < (b.length : Int) := by omega
          have s1 : ((i : Int) != -1) = true := bne_iff_ne.2 (by omega)
          have s2 : ((i : Int) == -1) = false := beq_eq_false_iff_ne.2 (by omega)
          have i3 : (a.length ≤ i) = False := eq_false (by omega)
          have i1 : ((i : Int) == (a.length : Int)) = false := beq_eq_false_iff_ne.2 (by omega)
          have i2 : decide ((i : Int) < (a.length : Int)) = true := decide_eq_true (by omega)
          have p1 : ((j : Int) != -1) = true := bne_iff_ne.2 (by omega)
          have p2 : ((j : Int) == -1) = false := beq_eq_false_iff_ne.2 (by omega)
          have j3 : (b.length ≤ j) = False := eq_false (by omega)
          have j1 : ((j : Int) == (b.length : Int)) = false := beq_eq_false_iff_ne.2 (by omega)
          have j2 : decide ((j : Int) < (b.length : Int)) = true := decide_eq_true (by omega)
          have HBD : Hid (badL a b i j ((i : Int), (j : Int)) = false) := by unfold Hid badL; simp [hjb2, hia2]; try omega
          have HUS : Hid (upS ((i : Int), (j : Int)) i = i + 1) := by unfold Hid upS; rw [if_pos (by simp; try omega)]
          have HUP : Hid (upP ((i : Int), (j : Int)) j = j + 1) := by unfold Hid upP; rw [if_pos (by simp; try omega)]
          have HCS : Hid (costL a b i j ((i : Int), (j : Int)) = lc (gi a i) (gi b j)) := by unfold Hid costL; rw [if_pos (by simp; try omega)]
          clear hjb2 hp hia2 hs
          have hla2 : ∀ ob, (wr.alloc ob).cell? ⟨b2, o2 + i, none⟩ = some (.int .i64 (gi a i)) := fun ob => (World.cell?_alloc_lt wr ob _ (by simp; omega)).trans hka
          have hlb2 : ∀ ob, (wr.alloc ob).cell? ⟨b3, o3 + j, none⟩ = some (.int .i64 (gi b j)) := fun ob => (World.cell?_alloc_lt wr ob _ (by simp; omega)).trans hkb
          generalize hG1 : gi a i = x1 at *
          generalize hG2 : gi b j = x2 at *
          clear hG1 hG2 hka hkb
          go_wp2_with fail
          go_quiet (fail)
          go_wp2_with fail
          go_quiet ((go_at_call 43; first | exact quiet_left (impl_linkCost _ _ _ (by omega) (by omega)) | exact quiet_add_left (impl_linkCost _ _ _ (by omega) (by omega))))
          go_wp2_with fail
          go_roundw
          case rel => exact ⟨q + 1, i + 1, j + 1, cs + lc x1 x2, by omega, by go_num, by first | rfl | go_num, by first | rfl | go_num, by first | rfl | go_num, by omega, by omega, by omega, by omega, by rw [← HRN.out, HDR.out, runL, if_neg (by rw [HBD.out]; simp), HUS.out, HUP.out, HCS.out], (by repeat (first | exact HL.out | exact below_drewN HL.out _ | refine Below.alloc ?_ (by first | exact hsz | (simp; omega) | omega) _ | refine below_drewN ?_ _))⟩
          case measure => simp [intOf]; omega
      · obtain rfl : ls.length = q := by omega
        have hdr : ls.drop ls.length = [] := List.drop_length
        have HDR := Lib.hid hdr; clear hdr
        by_cases hia : i < a.length
        · have i1 : ((i : Int) != (a.length : Int)) = true := bne_iff_ne.2 (by omega)
          have i2 : decide ((i : Int) < (a.length : Int)) = true := decide_eq_true (by omega)
          go_wp2
          go_ret
          exact ⟨ret_int (by rw [HF.out, ← HRN.out, HDR.out, runL, if_pos (by omega)]), HL.out⟩
        have i1 : ((i : Int) != (a.length : Int)) = false := by simp; omega
        have i2 : decide ((i : Int) < (a.length : Int)) = false := decide_eq_false (by omega)
        by_cases hjb : j < b.length
        · have j1 : ((j : Int) != (b.length : Int)) = true := bne_iff_ne.2 (by omega)
          have j2 : decide ((j : Int) < (b.length : Int)) = true := decide_eq_true (by omega)
          go_wp2
          go_ret
          exact ⟨ret_int (by rw [HF.out, ← HRN.out, HDR.out, runL, if_pos (by omega)]), HL.out⟩
        · have j1 : ((j : Int) != (b.length : Int)) = false := by simp; omega
          have j2 : decide ((j : Int) < (b.length : Int)) = false := decide_eq_false (by omega)
          have hno : ¬ (i < a.length ∨ j < b.length) := by omega
          have HNO := Lib.hid hno; clear hno
          go_wp2
          go_ret
          exact ⟨ret_int (by rw [HF.out, ← HRN.out, HDR.out, runL, if_neg HNO.out]), HL.out⟩
set_option maxRecDepth 100000 in
set_option maxHeartbeats 8000000 in
theorem spec_LinksCost (A C E : Option Addr) (c d m : Nat) (a b : List Int) (ls : List (Int × Int)) (w : World) (hx : RdI w w.heap.size A a) (hy : RdI w w.heap.size C b) (hz : RdLink w w.heap.size E ls) (hl : a.length ≤ 1048576) (hl2 : b.length ≤ 1048576) (hl3 : ls.length ≤ 1048576) :
    Calls Try.prog 21 #[.slice A a.length c, .slice C b.length d, .slice E ls.length m] w (RetI w (lnkL a b ls)) := by
  have hfin : okK a = false ∨ okK b = false → lnkL a b ls = -1 := fun h => by
    unfold lnkL
    rw [if_neg]
    rintro ⟨h1, h2⟩
    rcases h with h | h
    · rw [h] at h1; cases h1
    · rw [h] at h2; cases h2
  have HX := Lib.hid hx; have HY := Lib.hid hy; clear hx hy
  cases ha : okK a
  · have HF := Lib.hid (hfin (.inl ha)); have HA := Lib.hid ha; clear ha hfin
    go_enter Try.func21, Try.ntmps21
    go_wp2_with fail
    refine (spec_l24Valid A c a w HX.out hl).mono ?_
    rw [HA.out]
    rintro e w' ⟨rfl, rfl⟩
    go_wp2
    go_ret
    exact ⟨ret_int HF.out.symm, Below.refl _ _⟩
  cases hb : okK b
  · have HF := Lib.hid (hfin (.inr hb)); have HA := Lib.hid ha; have HB := Lib.hid hb; clear ha hb hfin
    go_enter Try.func21, Try.ntmps21
    go_wp2_with fail
    refine (spec_l24Valid A c a w HX.out hl).mono ?_
    rw [HA.out]
    rintro e w' ⟨rfl, rfl⟩
    go_wp2_with fail
    refine (spec_l24Valid C d b w HY.out hl2).mono ?_
    rw [HB.out]
    rintro e w' ⟨rfl, rfl⟩
    go_wp2
    go_ret
    exact ⟨ret_int HF.out.symm, Below.refl _ _⟩
  · have hyes : lnkL a b ls = runL a b ls 0 0 0 := by unfold lnkL; rw [if_pos ⟨ha, hb⟩]
    have HF := Lib.hid hyes; have HA := Lib.hid ha; have HB := Lib.hid hb; have HZ := Lib.hid hz; clear ha hb hfin hyes hz
    have hla := okK_len HA.out
    have hlb := okK_len HB.out
    go_enter Try.func21, Try.ntmps21
    go_wp2_with fail
    refine (spec_l24Valid A c a w HX.out hl).mono ?_
    rw [HA.out]
    rintro e w' ⟨rfl, rfl⟩
    go_wp2_with fail
    refine (spec_l24Valid C d b w HY.out hl2).mono ?_
    rw [HB.out]
    rintro e w' ⟨rfl, rfl⟩
    go_wp2_with fail
    go_loopw [7, 8, 9, 10] (fun vi vj vc vq wr => ∃ (q i j : Nat) (cs : Int), q ≤ ls.length ∧ vq = .int .i64 q ∧ vi = .int .i64 i ∧ vj = .int .i64 j ∧ vc = .int .i64 cs ∧ i ≤ a.length ∧ j ≤ b.length ∧ 0 ≤ cs ∧ cs ≤ 3 * q ∧ runL a b (ls.drop q) i j cs = runL a b ls 0 0 0 ∧ Below w.heap.size w wr) (fun _ _ _ vq _ => ls.length - (intOf vq).toNat)
    case atStart => exact ⟨0, 0, 0, 0, Nat.zero_le _, rfl, rfl, rfl, rfl, Nat.zero_le _, Nat.zero_le _, Int.le_refl _, by omega, by rw [List.drop_zero], Below.refl _ _⟩
    case round =>
      obtain ⟨q, i, j, cs, hq, rfl, rfl, rfl, rfl, hi, hj, hc0, hc1, hrun, hbel⟩ := hrel
      have hsz := hbel.size
      have HL := Lib.hid hbel; clear hbel
      have HRN := Lib.hid hrun; clear hrun
      by_cases hlt : q < ls.length
      · obtain ⟨b1, o1, rfl, hb1, hk0, hk1⟩ := (HZ.out.below HL.out (Nat.le_refl _)).at_ hlt
        have hdr : ls.drop q = glLink ls q :: ls.drop (q + 1) := by rw [List.drop_eq_getElem_cons hlt, glLink_get hlt]
        have hql : (q : Int) < (ls.length : Int) := by omega
        have hnb : b1 ≠ wr.heap.size := by omega
        generalize hgl : glLink ls q = l at *
        obtain ⟨s, p⟩ := l
        dsimp only at hk0 hk1
        have HDR := Lib.hid hdr; clear hdr hgl
        by_cases hs : s = -1
        · subst hs
          by_cases hp : p = -1
          · subst hp
            have HBD : Hid (badL a b i j (-1, -1) = true) := by unfold Hid badL; simp
            go_wp2_with fail
            go_ret
            exact ⟨ret_int (by rw [HF.out, ← HRN.out, HDR.out, runL, if_pos HBD.out]), (by repeat (first | exact HL.out | exact below_drewN HL.out _ | refine Below.alloc ?_ (by first | exact hsz | (simp; omega) | omega) _ | refine below_drewN ?_ _))⟩
          by_cases hpj : p = (j : Int)
          case neg =>
            have p1 : ((p : Int) != -1) = true := bne_iff_ne.2 (by omega)
            have p2 : ((p : Int) == -1) = false := beq_eq_false_iff_ne.2 (by omega)
            have p3 : ((p : Int) != (j : Int)) = true := bne_iff_ne.2 (by omega)
            have HBD : Hid (badL a b i j (-1, p) = true) := by unfold Hid badL; simp [hp, hpj]
            clear hp hpj
            go_wp2_with fail
            go_ret
            exact ⟨ret_int (by rw [HF.out, ← HRN.out, HDR.out, runL, if_pos HBD.out]), (by repeat (first | exact HL.out | exact below_drewN HL.out _ | refine Below.alloc ?_ (by first | exact hsz | (simp; omega) | omega) _ | refine below_drewN ?_ _))⟩
          subst hpj
          by_cases hjb : j = b.length
          · have hjb2 : (j : Int) = (b.length : Int) := by omega
            have p1 : ((j : Int) != -1) = true := bne_iff_ne.2 (by omega)
            have p2 : ((j : Int) == -1) = false := beq_eq_false_iff_ne.2 (by omega)
            have j3 : (b.length ≤ j) = True := eq_true (by omega)
            have j1 : ((j : Int) == (b.length : Int)) = true := beq_iff_eq.2 (by omega)
            have j2 : decide ((j : Int) < (b.length : Int)) = false := decide_eq_false (by omega)
            have HBD : Hid (badL a b i j (-1, (j : Int)) = true) := by unfold Hid badL; simp [hjb2]; try omega
            have HJB := Lib.hid hjb; clear hjb hjb2 hp
            go_wp2_with fail
            go_ret
            exact ⟨ret_int (by rw [HF.out, ← HRN.out, HDR.out, runL, if_pos HBD.out]), (by repeat (first | exact HL.out | exact below_drewN HL.out _ | refine Below.alloc ?_ (by first | exact hsz | (simp; omega) | omega) _ | refine below_drewN ?_ _))⟩
          · have hjb2 : ¬ (j : Int) = (b.length : Int) := by omega
            have p1 : ((j : Int) != -1) = true := bne_iff_ne.2 (by omega)
            have p2 : ((j : Int) == -1) = false := beq_eq_false_iff_ne.2 (by omega)
            have j3 : (b.length ≤ j) = False := eq_false (by omega)
            have j1 : ((j : Int) == (b.length : Int)) = false := beq_eq_false_iff_ne.2 (by omega)
            have j2 : decide ((j : Int) < (b.length : Int)) = true := decide_eq_true (by omega)
            have HBD : Hid (badL a b i j (-1, (j : Int)) = false) := by unfold Hid badL; simp [hjb2]; try omega
            have HUS : Hid (upS (-1, (j : Int)) i = i) := by unfold Hid upS; simp
            have HUP : Hid (upP (-1, (j : Int)) j = j + 1) := by unfold Hid upP; rw [if_pos (by simp; try omega)]
            have HCS : Hid (costL a b i j (-1, (j : Int)) = 2) := by unfold Hid costL; simp
            clear hjb2 hp
            go_wp2_with fail
            go_roundw
            case rel => exact ⟨q + 1, i, j + 1, cs + 2, by omega, by go_num, by first | rfl | go_num, by first | rfl | go_num, by first | rfl | go_num, by omega, by omega, by omega, by omega, by rw [← HRN.out, HDR.out, runL, if_neg (by rw [HBD.out]; simp), HUS.out, HUP.out, HCS.out], (by repeat (first | exact HL.out | exact below_drewN HL.out _ | refine Below.alloc ?_ (by first | exact hsz | (simp; omega) | omega) _ | refine below_drewN ?_ _))⟩
            case measure => simp [intOf]; omega
        by_cases hsi : s = (i : Int)
        case neg =>
          have s1 : ((s : Int) != -1) = true := bne_iff_ne.2 (by omega)
          have s2 : ((s : Int) == -1) = false := beq_eq_false_iff_ne.2 (by omega)
          have s3 : ((s : Int) != (i : Int)) = true := bne_iff_ne.2 (by omega)
          have HBD : Hid (badL a b i j (s, p) = true) := by unfold Hid badL; simp [hs, hsi]
          clear hs hsi
          go_wp2_with fail
          go_ret
          exact ⟨ret_int (by rw [HF.out, ← HRN.out, HDR.out, runL, if_pos HBD.out]), (by repeat (first | exact HL.out | exact below_drewN HL.out _ | refine Below.alloc ?_ (by first | exact hsz | (simp; omega) | omega) _ | refine below_drewN ?_ _))⟩
        subst hsi
        by_cases hia : i = a.length
        case pos =>
          have hia2 : (i : Int) = (a.length : Int) := by omega
          have s1 : ((i : Int) != -1) = true := bne_iff_ne.2 (by omega)
          have s2 : ((i : Int) == -1) = false := beq_eq_false_iff_ne.2 (by omega)
          have i3 : (a.length ≤ i) = True := eq_true (by omega)
          have i1 : ((i : Int) == (a.length : Int)) = true := beq_iff_eq.2 (by omega)
          have i2 : decide ((i : Int) < (a.length : Int)) = false := decide_eq_false (by omega)
          have HBD : Hid (badL a b i j ((i : Int), p) = true) := by unfold Hid badL; simp [hia2]; try omega
          have HIA := Lib.hid hia; clear hia hia2 hs
          go_wp2_with fail
          go_ret
          exact ⟨ret_int (by rw [HF.out, ← HRN.out, HDR.out, runL, if_pos HBD.out]), (by repeat (first | exact HL.out | exact below_drewN HL.out _ | refine Below.alloc ?_ (by first | exact hsz | (simp; omega) | omega) _ | refine below_drewN ?_ _))⟩
        have hia2 : ¬ (i : Int) = (a.length : Int) := by omega
        by_cases hp : p = -1
        · subst hp
          have s1 : ((i : Int) != -1) = true := bne_iff_ne.2 (by omega)
          have s2 : ((i : Int) == -1) = false := beq_eq_false_iff_ne.2 (by omega)
          have i3 : (a.length ≤ i) = False := eq_false (by omega)
          have i1 : ((i : Int) == (a.length : Int)) = false := beq_eq_false_iff_ne.2 (by omega)
          have i2 : decide ((i : Int) < (a.length : Int)) = true := decide_eq_true (by omega)
          have HBD : Hid (badL a b i j ((i : Int), -1) = false) := by unfold Hid badL; simp [hia2]; try omega
          have HUS : Hid (upS ((i : Int), -1) i = i + 1) := by unfold Hid upS; rw [if_pos (by simp; try omega)]
          have HUP : Hid (upP ((i : Int), -1) j = j) := by unfold Hid upP; simp
          have HCS : Hid (costL a b i j ((i : Int), -1) = 2) := by unfold Hid costL; simp
          clear hia2 hs
          go_wp2_with fail
          go_roundw
          case rel => exact ⟨q + 1, i + 1, j, cs + 2, by omega, by go_num, by first | rfl | go_num, by first | rfl | go_num, by first | rfl | go_num, by omega, by omega, by omega, by omega, by rw [← HRN.out, HDR.out, runL, if_neg (by rw [HBD.out]; simp), HUS.out, HUP.out, HCS.out], (by repeat (first | exact HL.out | exact below_drewN HL.out _ | refine Below.alloc ?_ (by first | exact hsz | (simp; omega) | omega) _ | refine below_drewN ?_ _))⟩
          case measure => simp [intOf]; omega
        by_cases hpj : p = (j : Int)
        case neg =>
          have s1 : ((i : Int) != -1) = true := bne_iff_ne.2 (by omega)
          have s2 : ((i : Int) == -1) = false := beq_eq_false_iff_ne.2 (by omega)
          have i3 : (a.length ≤ i) = False := eq_false (by omega)
          have i1 : ((i : Int) == (a.length : Int)) = false := beq_eq_false_iff_ne.2 (by omega)
          have i2 : decide ((i : Int) < (a.length : Int)) = true := decide_eq_true (by omega)
          have p1 : ((p : Int) != -1) = true := bne_iff_ne.2 (by omega)
          have p2 : ((p : Int) == -1) = false := beq_eq_false_iff_ne.2 (by omega)
          have p3 : ((p : Int) != (j : Int)) = true := bne_iff_ne.2 (by omega)
          have HBD : Hid (badL a b i j ((i : Int), p) = true) := by unfold Hid badL; simp [hp, hpj]
          clear hp hpj hia2 hs
          go_wp2_with fail
          go_ret
          exact ⟨ret_int (by rw [HF.out, ← HRN.out, HDR.out, runL, if_pos HBD.out]), (by repeat (first | exact HL.out | exact below_drewN HL.out _ | refine Below.alloc ?_ (by first | exact hsz | (simp; omega) | omega) _ | refine below_drewN ?_ _))⟩
        subst hpj
        by_cases hjb : j = b.length
        · have hjb2 : (j : Int) = (b.length : Int) := by omega
          have s1 : ((i : Int) != -1) = true := bne_iff_ne.2 (by omega)
          have s2 : ((i : Int) == -1) = false := beq_eq_false_iff_ne.2 (by omega)
          have i3 : (a.length ≤ i) = False := eq_false (by omega)
          have i1 : ((i : Int) == (a.length : Int)) = false := beq_eq_false_iff_ne.2 (by omega)
          have i2 : decide ((i : Int) < (a.length : Int)) = true := decide_eq_true (by omega)
          have p1 : ((j : Int) != -1) = true := bne_iff_ne.2 (by omega)
          have p2 : ((j : Int) == -1) = false := beq_eq_false_iff_ne.2 (by omega)
          have j3 : (b.length ≤ j) = True := eq_true (by omega)
          have j1 : ((j : Int) == (b.length : Int)) = true := beq_iff_eq.2 (by omega)
          have j2 : decide ((j : Int) < (b.length : Int)) = false := decide_eq_false (by omega)
          have HBD : Hid (badL a b i j ((i : Int), (j : Int)) = true) := by unfold Hid badL; simp [hjb2]; try omega
          have HJB := Lib.hid hjb; clear hjb hjb2 hp hia2 hs
          go_wp2_with fail
          go_ret
          exact ⟨ret_int (by rw [HF.out, ← HRN.out, HDR.out, runL, if_pos HBD.out]), (by repeat (first | exact HL.out | exact below_drewN HL.out _ | refine Below.alloc ?_ (by first | exact hsz | (simp; omega) | omega) _ | refine below_drewN ?_ _))⟩
        · have hjb2 : ¬ (j : Int) = (b.length : Int) := by omega
          obtain ⟨b2, o2, rfl, hb2, hka⟩ := (HX.out.below HL.out (Nat.le_refl _)).at_ (k := i) (by omega)
          obtain ⟨b3, o3, rfl, hb3, hkb⟩ := (HY.out.below HL.out (Nat.le_refl _)).at_ (k := j) (by omega)
          have hnb2 : b2 ≠ wr.heap.size := by omega
          have hnb3 : b3 ≠ wr.heap.size := by omega
          have hga := okK_at HA.out (k := i) (by omega)
          have hgb := okK_at HB.out (k := j) (by omega)
          have hlc := lc_bd (gi a i) (gi b j)
          have hia3 : (i : Int) < (a.length : Int) := by omega
          have hjb3 : (j : Int) < (b.length : Int) := by omega
          have s1 : ((i : Int) != -1) = true := bne_iff_ne.2 (by omega)
          have s2 : ((i : Int) == -1) = false := beq_eq_false_iff_ne.2 (by omega)
          have i3 : (a.length ≤ i) = False := eq_false (by omega)
          have i1 : ((i : Int) == (a.length : Int)) = false := beq_eq_false_iff_ne.2 (by omega)
          have i2 : decide ((i : Int) < (a.length : Int)) = true := decide_eq_true (by omega)
          have p1 : ((j : Int) != -1) = true := bne_iff_ne.2 (by omega)
          have p2 : ((j : Int) == -1) = false := beq_eq_false_iff_ne.2 (by omega)
          have j3 : (b.length ≤ j) = False := eq_false (by omega)
          have j1 : ((j : Int) == (b.length : Int)) = false := beq_eq_false_iff_ne.2 (by omega)
          have j2 : decide ((j : Int) < (b.length : Int)) = true := decide_eq_true (by omega)
          have HBD : Hid (badL a b i j ((i : Int), (j : Int)) = false) := by unfold Hid badL; simp [hjb2, hia2]; try omega
          have HUS : Hid (upS ((i : Int), (j : Int)) i = i + 1) := by unfold Hid upS; rw [if_pos (by simp; try omega)]
          have HUP : Hid (upP ((i : Int), (j : Int)) j = j + 1) := by unfold Hid upP; rw [if_pos (by simp; try omega)]
          have HCS : Hid (costL a b i j ((i : Int), (j : Int)) = lc (gi a i) (gi b j)) := by unfold Hid costL; rw [if_pos (by simp; try omega)]
          clear hjb2 hp hia2 hs
          have hla2 : ∀ ob, (wr.alloc ob).cell? ⟨b2, o2 + i, none⟩ = some (.int .i64 (gi a i)) := fun ob => (World.cell?_alloc_lt wr ob _ (by simp; omega)).trans hka
          have hlb2 : ∀ ob, (wr.alloc ob).cell? ⟨b3, o3 + j, none⟩ = some (.int .i64 (gi b j)) := fun ob => (World.cell?_alloc_lt wr ob _ (by simp; omega)).trans hkb
          generalize hG1 : gi a i = x1 at *
          generalize hG2 : gi b j = x2 at *
          clear hG1 hG2 hka hkb
          go_wp2_with fail
          go_quiet ((go_at_call 41; first | exact quiet_left (spec_l24Wrong _ _ _ (by omega) (by omega)) | exact quiet_add_left (spec_l24Wrong _ _ _ (by omega) (by omega))))
          go_wp2_with fail
          go_roundw
          case rel => exact ⟨q + 1, i + 1, j + 1, cs + lc x1 x2, by omega, by go_num, by first | rfl | go_num, by first | rfl | go_num, by first | rfl | go_num, by omega, by omega, by omega, by omega, by rw [← HRN.out, HDR.out, runL, if_neg (by rw [HBD.out]; simp), HUS.out, HUP.out, HCS.out], (by repeat (first | exact HL.out | exact below_drewN HL.out _ | refine Below.alloc ?_ (by first | exact hsz | (simp; omega) | omega) _ | refine below_drewN ?_ _))⟩
          case measure => simp [intOf]; omega
      · obtain rfl : ls.length = q := by omega
        have hdr : ls.drop ls.length = [] := List.drop_length
        have HDR := Lib.hid hdr; clear hdr
        by_cases hia : i < a.length
        · have i1 : ((i : Int) != (a.length : Int)) = true := bne_iff_ne.2 (by omega)
          have i2 : decide ((i : Int) < (a.length : Int)) = true := decide_eq_true (by omega)
          go_wp2
          go_ret
          exact ⟨ret_int (by rw [HF.out, ← HRN.out, HDR.out, runL, if_pos (by omega)]), HL.out⟩
        have i1 : ((i : Int) != (a.length : Int)) = false := by simp; omega
        have i2 : decide ((i : Int) < (a.length : Int)) = false := decide_eq_false (by omega)
        by_cases hjb : j < b.length
        · have j1 : ((j : Int) != (b.length : Int)) = true := bne_iff_ne.2 (by omega)
          have j2 : decide ((j : Int) < (b.length : Int)) = true := decide_eq_true (by omega)
          go_wp2
          go_ret
          exact ⟨ret_int (by rw [HF.out, ← HRN.out, HDR.out, runL, if_pos (by omega)]), HL.out⟩
        · have j1 : ((j : Int) != (b.length : Int)) = false := by simp; omega
          have j2 : decide ((j : Int) < (b.length : Int)) = false := decide_eq_false (by omega)
          have hno : ¬ (i < a.length ∨ j < b.length) := by omega
          have HNO := Lib.hid hno; clear hno
          go_wp2
          go_ret
          exact ⟨ret_int (by rw [HF.out, ← HRN.out, HDR.out, runL, if_neg HNO.out]), HL.out⟩
end Go.Proofs.Ytfmdpnnddhelaaa
