/- Contracts of SamePattern, of the program and of the reference, and of slices.Equal at bools. No condition but that the slices are readable. -/
import Derived.Test.YtelajonddhoafaaTurn
import Derived.Test.YtelajonddhoafaaText
namespace Go.Proofs.Ytelajonddhoafaa
set_option linter.unusedVariables false
open Go.RowKit

def samePatL (a b : List Bool) : Bool := patL a && patL b && (List.range a.length).any fun (k : Nat) => sameBo (turnTo a k) b
theorem any_range_succ (p : Nat → Bool) (k : Nat) : (List.range (k + 1)).any p = ((List.range k).any p || p k) := by simp [List.range_succ]
theorem textB_inj {a b : List Bool} : textB a = textB b ↔ a = b := by
  constructor
  · intro h
    exact (List.map_inj_right (fun x y hxy => by cases x <;> cases y <;> simp_all)).1 h
  · rintro rfl; rfl
theorem beq_toList_strV (a b : List UInt8) : ((strV a).toList == (strV b).toList) = (a == b) := by
  simp only [strV, Go.ByteArray.toList_mk]
theorem strV_inj {a b : List UInt8} : strV a = strV b ↔ a = b := by
  constructor
  · intro h; simpa [strV] using h
  · rintro rfl; rfl
theorem slices_Equal (A C : Option Addr) (c d : Nat) (xs ys : List Bool) (w : World) (hx : RdBo w w.heap.size A xs) (hy : RdBo w w.heap.size C ys) (hl : xs.length ≤ 1048576) (hl2 : ys.length ≤ 1048576) :
    Calls Try.prog 37 #[.slice A xs.length c, .slice C ys.length d] w (RetB w (sameBo xs ys)) := by
  by_cases hne : xs.length = ys.length
  · have hb0 : ((xs.length : Int) != (ys.length : Int)) = false := by simp [hne]
    have HN := Lib.hid hne
    clear hne
    go_enter Try.func37, Try.ntmps37
    go_wp2
    go_loopw [13] (fun i wr => ∃ k : Nat, k ≤ xs.length ∧ i = .int .i64 k ∧ xs.take k = ys.take k ∧ ∃ m, wr = w.drewN m) (fun i _ => xs.length - (intOf i).toNat)
    case atStart => exact ⟨0, Nat.zero_le _, rfl, by simp, 0, rfl⟩
    case round =>
      obtain ⟨k, hk, rfl, ht, m, rfl⟩ := hrel
      have HT := Lib.hid ht; clear ht
      by_cases hlt : k < xs.length
      · have hlt2 : k < ys.length := by have := HN.out; omega
        obtain ⟨b, off, rfl, hbB, hc⟩ := hx.at_ hlt
        obtain ⟨b', off', rfl, hbB', hc'⟩ := hy.at_ hlt2
        have hi1 : (k : Int) < (xs.length : Int) := by omega
        have hi2 : (k : Int) < (ys.length : Int) := by omega
        clear hx hy
        cases hp : gb xs k <;> cases hq : gb ys k <;> rw [hp] at hc <;> rw [hq] at hc'
        all_goals
          have HP := Lib.hid hp; have HQ := Lib.hid hq; clear hp hq
          go_wp2
          go_quiet (fail)
          go_wp2
          first
            | (go_ret
               exact ⟨ret_bool (by rw [take_neB hlt hlt2 (by rw [HP.out, HQ.out]; decide)]), below_drewN (below_drewN (Below.refl _ _) _) _⟩)
            | (go_roundw
               case rel => exact ⟨k + 1, by omega, by go_num, by rw [take_succ_gb hlt, take_succ_gb hlt2, HT.out, HP.out, HQ.out], _, rfl⟩
               case measure => simp [intOf]; omega)
      · obtain rfl : k = xs.length := by omega
        go_wp2
        go_ret
        have e : xs = ys := by
          have := HT.out
          rw [List.take_of_length_le (Nat.le_refl _), List.take_of_length_le (by have := HN.out; omega)] at this
          exact this
        exact ⟨ret_bool (by simp [sameBo, e]), below_drewN (Below.refl _ _) _⟩
  · have hb0 : ((xs.length : Int) != (ys.length : Int)) = true := by simp; omega
    go_enter Try.func37, Try.ntmps37
    go_wp2
    go_ret
    exact ⟨ret_bool (by
      have : sameBo xs ys = false := by
        simp only [sameBo, decide_eq_false_iff_not]
        rintro rfl
        exact hne rfl
      rw [this]), Below.refl _ _⟩
theorem slices_EqualN (A C : Option Addr) (c d n : Nat) (xs ys : List Bool) (w : World) (hn : xs.length = n) (hx : RdBo w w.heap.size A xs) (hy : RdBo w w.heap.size C ys) (hl : xs.length ≤ 1048576) (hl2 : ys.length ≤ 1048576) (v : Bool) (hv : sameBo xs ys = v) :
    Calls Try.prog 37 #[.slice A n c, .slice C ys.length d] w (RetB w v) := by
  subst hn; subst hv; exact slices_Equal A C c d xs ys w hx hy hl hl2
set_option maxHeartbeats 1000000 in
theorem impl_SamePattern (A C : Option Addr) (c d : Nat) (xs ys : List Bool) (w : World) (hx : RdBo w w.heap.size A xs) (hy : RdBo w w.heap.size C ys) (hl : xs.length ≤ 1048576) (hl2 : ys.length ≤ 1048576) :
    Calls Try.prog 28 #[.agg #[.slice A xs.length c], .agg #[.slice C ys.length d]] w (RetB w (samePatL xs ys)) := by
  cases hp : patL xs
  · have HF : Hid (samePatL xs ys = false) := by unfold Hid; rw [samePatL, hp]; rfl
    go_enter Try.func28, Try.ntmps28
    go_wp2_with (go_at_call 10; refine (impl_PatternValid _ _ _ _).mono ?_; rintro e w' ⟨rfl, rfl⟩)
    go_ret
    exact ⟨ret_bool HF.out.symm, by (repeat (first | exact Below.refl _ _ | refine Below.alloc ?_ (by simp; try omega) _ | refine below_drewN ?_ _ | refine Below.drew ?_))⟩
  cases hq : patL ys
  · have HF : Hid (samePatL xs ys = false) := by unfold Hid; rw [samePatL, hq, Bool.and_false]; rfl
    go_enter Try.func28, Try.ntmps28
    go_wp2_with (go_at_call 10; refine (impl_PatternValid _ _ _ _).mono ?_; rintro e w' ⟨rfl, rfl⟩)
    go_ret
    exact ⟨ret_bool HF.out.symm, by (repeat (first | exact Below.refl _ _ | refine Below.alloc ?_ (by simp; try omega) _ | refine below_drewN ?_ _ | refine Below.drew ?_))⟩
  · have HF : Hid (samePatL xs ys = (List.range xs.length).any fun (k : Nat) => sameBo (turnTo xs k) ys) := by unfold Hid; rw [samePatL, hp, hq]; rfl
    have hn := inR_iff.1 hp
    have hfd : ∀ (A1 : Option Addr) (n1 c1 : Nat) (w1 : World), (Instr.field 25 (.agg #[.slice A1 n1 c1]) 0).run Try.prog w1 = .ok (.slice A1 n1 c1) w1 := fun _ _ _ _ => by kernel_rfl
    go_enter Try.func28, Try.ntmps28
    go_wp2_with (go_at_call 10; refine (impl_PatternValid _ _ _ _).mono ?_; rintro e w' ⟨rfl, rfl⟩)
    go_loopw [17] (fun i wr => ∃ k : Nat, k ≤ xs.length ∧ i = .int .i64 k ∧ ((List.range k).any fun (k : Nat) => sameBo (turnTo xs k) ys) = false ∧ Blk wr w.heap.size 25 #[.slice A xs.length c] ∧ Blk wr (w.heap.size + 1) 25 #[.slice C ys.length d] ∧ Below w.heap.size w wr ∧ w.heap.size + 1 + 1 ≤ wr.heap.size) (fun i _ => xs.length - (intOf i).toNat)
    case atStart => exact ⟨0, Nat.zero_le _, rfl, rfl, (((Blk.newAt rfl).alloc _).alloc _).alloc _, ((Blk.newAt (by simp)).alloc _).alloc _, by (repeat (first | exact Below.refl _ _ | refine Below.alloc ?_ (by simp; try omega) _ | refine below_drewN ?_ _ | refine Below.drew ?_)), by simp⟩
    case round =>
      obtain ⟨k, hk, rfl, hf, hb0, hb1, hbel, hsz⟩ := hrel
      by_cases hlt : k < xs.length
      · have hi1 : (k : Int) < (xs.length : Int) := by omega
        have c0 : wr.cell? ⟨w.heap.size, 0, none⟩ = some (.slice A xs.length c) := hb0.cell 0
        have c1 : wr.cell? ⟨w.heap.size + 1, 0, none⟩ = some (.slice C ys.length d) := hb1.cell 0
        have HX := Lib.hid (hx.below hbel (Nat.le_refl _)); have HY := Lib.hid (hy.below hbel (Nat.le_refl _))
        have HFA := Lib.hid hf; have H0 := Lib.hid hb0; have H1 := Lib.hid hb1; have HL := Lib.hid hbel; clear hf hb0 hb1 hbel hx hy
        cases hs : sameBo (turnTo xs k) ys
        all_goals
          have HS := Lib.hid hs
          have hcall : ∀ (A1 : Option Addr) (c1 : Nat) (w1 : World), w1.ownsRow wr.drew.heap.size 4 1 (.slice A1 xs.length c1) xs.length (bv (turnTo xs k)) → Below wr.drew.heap.size wr.drew w1 → Calls Try.prog 37 #[.slice A1 xs.length c1, .slice C ys.length d] w1 (RetB w1 (sameBo (turnTo xs k) ys)) := by
            intro A1 c1 w1 o1 b1
            exact slices_EqualN _ _ _ _ _ (turnTo xs k) ys _ (turnTo_len _ _) (RdBo.of_own' o1 (turnTo_len _ _)) ((HY.out.drew.below b1 (by simp; try omega)).more (by have := b1.size; simp at this; omega)) (by rw [turnTo_len]; omega) hl2 _ rfl
          rw [hs] at hcall
          clear hs
          go_wp2
          go_region_held3 (fun w' => w'.cell? ⟨w.heap.size, 0, none⟩ = some (.slice A xs.length c) ∧ w'.cell? ⟨w.heap.size + 1, 0, none⟩ = some (.slice C ys.length d))
            (first | exact ⟨c0, c1⟩ | exact ⟨(b1.cell (by simp; try omega)).trans c0, (b1.cell (by simp; try omega)).trans c1⟩ | (have z1 := b1.size; simp only [World.size_drew] at z1; exact ⟨(b2.cell (by simp; try omega)).trans ((b1.cell (by simp; try omega)).trans c0), (b2.cell (by simp; try omega)).trans ((b1.cell (by simp; try omega)).trans c1)⟩))
            (first | (go_at_call 36; refine (impl_turned _ _ _ _ _ (HX.out.more (by simp; try omega)).drew hp (by omega)).mono ?_; rintro e w1 ⟨A1, c1', rfl, o1, b1⟩) | (go_at_call 37; refine (hcall _ _ _ o1 b1).mono ?_; rintro e w2 ⟨rfl, b2⟩))
          all_goals
            have HB2 : Hid (Below wr.heap.size wr w2) := by
              have z1 := b1.size
              simp only [World.size_drew] at z1
              exact below_drew_left (b1.trans (b2.mono z1))
            clear b1 b2 o1 hcall
            go_wp2
            first
              | (go_ret
                 exact ⟨ret_bool (by rw [HF.out, List.any_eq_true.2 ⟨k, List.mem_range.2 hlt, HS.out⟩]), HL.out.trans (HB2.out.mono HL.out.size)⟩)
              | (go_roundw
                 case rel => exact ⟨k + 1, by omega, by go_num, by rw [any_range_succ, HFA.out, HS.out]; rfl, H0.out.below HB2.out (by omega), H1.out.below HB2.out (by omega), HL.out.trans (HB2.out.mono HL.out.size), by have := HB2.out.size; omega⟩
                 case measure => simp [intOf]; omega)
      · obtain rfl : k = xs.length := by omega
        have hi1 : decide ((xs.length : Int) < (xs.length : Int)) = false := decide_eq_false (by omega)
        have HFA := Lib.hid hf; have HL := Lib.hid hbel; clear hf hb0 hb1 hbel hx hy
        go_wp2
        go_ret
        exact ⟨ret_bool (by rw [HF.out, HFA.out]), HL.out⟩
set_option maxHeartbeats 1000000 in
theorem spec_SamePattern (A C : Option Addr) (c d : Nat) (xs ys : List Bool) (w : World) (hx : RdBo w w.heap.size A xs) (hy : RdBo w w.heap.size C ys) (hl : xs.length ≤ 1048576) (hl2 : ys.length ≤ 1048576) :
    Calls Try.prog 29 #[.agg #[.slice A xs.length c], .agg #[.slice C ys.length d]] w (RetB w (samePatL xs ys)) := by
  have hb0 : Below w.heap.size w ((w.alloc (.cells #[.slice A xs.length c] 25)).alloc (.cells #[.slice C ys.length d] 25)) := by (repeat (first | exact Below.refl _ _ | refine Below.alloc ?_ (by simp; try omega) _ | refine below_drewN ?_ _ | refine Below.drew ?_))
  have HB := Lib.hid hb0; clear hb0
  by_cases hok : patL xs = true ∧ patL ys = true
  · obtain ⟨hp, hq⟩ := hok
    have HF : Hid (samePatL xs ys = (List.range xs.length).any fun (k : Nat) => sameBo (turnTo xs k) ys) := by unfold Hid; rw [samePatL, hp, hq]; rfl
    have hn := inR_iff.1 hp
    go_enter Try.func29, Try.ntmps29
    go_wp2_with fail
    go_loopw [5] (fun i wr => ∃ k : Nat, k ≤ xs.length ∧ i = .int .i64 k ∧ ((List.range k).any fun (k : Nat) => sameBo (turnTo xs k) ys) = false ∧ Blk wr w.heap.size 25 #[.slice A xs.length c] ∧ Blk wr (w.heap.size + 1) 25 #[.slice C ys.length d] ∧ Below w.heap.size w wr ∧ w.heap.size + 1 + 1 ≤ wr.heap.size) (fun i _ => xs.length - (intOf i).toNat)
    case atStart => exact ⟨0, Nat.zero_le _, rfl, rfl, ((Blk.newAt rfl).alloc _), (Blk.newAt (by simp)), by (repeat (first | exact Below.refl _ _ | refine Below.alloc ?_ (by simp; try omega) _ | refine below_drewN ?_ _ | refine Below.drew ?_)), by simp⟩
    case round =>
      obtain ⟨k, hk, rfl, hf, hb0, hb1, hbel, hsz⟩ := hrel
      by_cases hlt : k < xs.length
      · have hi1 : (k : Int) < (xs.length : Int) := by omega
        have hi2 : decide ((k : Int) < (xs.length : Int)) = true := decide_eq_true (by omega)
        have c0 : wr.cell? ⟨w.heap.size, 0, none⟩ = some (.slice A xs.length c) := hb0.cell 0
        have c1 : wr.cell? ⟨w.heap.size + 1, 0, none⟩ = some (.slice C ys.length d) := hb1.cell 0
        have HX := Lib.hid (hx.below hbel (Nat.le_refl _)); have HY := Lib.hid (hy.below hbel (Nat.le_refl _))
        have HFA := Lib.hid hf; have H0 := Lib.hid hb0; have H1 := Lib.hid hb1; have HL := Lib.hid hbel; clear hf hb0 hb1 hbel hx hy
        have hc0 : ∀ W : World, Below wr.heap.size wr W → W.cell? ⟨w.heap.size, 0, none⟩ = some (.slice A xs.length c) ∧ W.cell? ⟨w.heap.size + 1, 0, none⟩ = some (.slice C ys.length d) := fun W hW => ⟨(hW.cell (by simp; try omega)).trans c0, (hW.cell (by simp; try omega)).trans c1⟩
        have HC := Lib.hid hc0; clear hc0
        go_wp2_with fail
        refine (spec_PatternValid _ _ _ _).mono ?_; rintro e w' ⟨rfl, rfl⟩
        have hb1 : Below wr.heap.size wr (wr.alloc (.cells #[.slice A xs.length c] 25)) := (Below.refl _ _).alloc (Nat.le_refl _) _
        have hb2 := (hb1.alloc (by simp) (.cells #[.slice C ys.length d] 25))
        obtain ⟨d0, d1⟩ := HC.out _ hb1
        obtain ⟨e0, e1⟩ := HC.out _ hb2
        have HB1 := Lib.hid hb1; have HB2 := Lib.hid hb2; clear hb1 hb2
        go_wp2_with fail
        refine (spec_PatternValid _ _ _ _).mono ?_; rintro e w' ⟨rfl, rfl⟩
        generalize ((wr.alloc (.cells #[.slice A xs.length c] 25)).alloc (.cells #[.slice C ys.length d] 25)) = w2 at *
        clear d0 d1 HB1 c0 c1
        have hsz2 : wr.heap.size ≤ w2.heap.size := HB2.out.size
        have HX2 := Lib.hid (HX.out.below HB2.out (by omega)); have HY2 := Lib.hid (HY.out.below HB2.out (by omega))
        have hlt1 : turnL xs k = turnTo xs k := by rw [turnL, if_pos ⟨hp, by rw [inR_iff]; omega⟩]
        have hcT := spec_TurnPattern A c xs k w2.drew (HX2.out.drew.more (by simp; omega)) hl
        have hcP1 : ∀ (A1 : Option Addr) (c1 : Nat) (w3 : World), w3.ownsRow w2.drew.heap.size 4 1 (.slice A1 xs.length c1) xs.length (bv (turnTo xs k)) → Calls Try.prog 15 #[.agg #[.slice A1 xs.length c1]] w3 (RetS w3 (strV (textB (turnTo xs k)))) := by
          intro A1 c1 w3 o3
          have h := spec_PatternText A1 c1 (turnTo xs k) w3 (RdBo.of_own' o3 (turnTo_len _ _)) (by rw [turnTo_len]; exact hl)
          rw [turnTo_len, textL, if_pos (show patL (turnTo xs k) = true by rw [patL, turnTo_len]; exact hp)] at h
          exact h
        have hcP2 : ∀ (w4 : World), Below w2.drew.heap.size w2.drew w4 → Calls Try.prog 15 #[.agg #[.slice C ys.length d]] w4 (RetS w4 (strV (textB ys))) := by
          intro w4 b4
          have h := spec_PatternText C d ys w4 ((HY2.out.drew.below b4 (by simp; omega)).more (by have := b4.size; simp at this; omega)) hl2
          rw [textL, if_pos hq] at h
          exact h
        rw [hlt1, turnTo_len] at hcT
        clear hlt1
        cases hs : sameBo (turnTo xs k) ys
        all_goals
          have HS := Lib.hid hs
          have hse : ((strV (textB (turnTo xs k))).toList == (strV (textB ys)).toList) = sameBo (turnTo xs k) ys := by
            rw [beq_toList_strV, sameBo]
            by_cases h : turnTo xs k = ys
            · simp [h]
            · rw [decide_eq_false h]; simpa using fun h' => h (textB_inj.1 h')
          rw [hs] at hse
          clear hs
          generalize hL1 : strV (textB (turnTo xs k)) = L1 at *
          generalize hL2 : strV (textB ys) = L2 at *
          have HL1 := Lib.hid hL1; have HL2 := Lib.hid hL2; have HcT := Lib.hid hcT; have HcP1 := Lib.hid hcP1; have HcP2 := Lib.hid hcP2; clear hL1 hL2 hcT hcP1 hcP2
          go_wp2_with fail
          go_region_held3 (fun w' => w'.cell? ⟨w.heap.size, 0, none⟩ = some (.slice A xs.length c) ∧ w'.cell? ⟨w.heap.size + 1, 0, none⟩ = some (.slice C ys.length d))
            (first | exact ⟨(b5.cell (by simp; try omega)).trans e0, (b5.cell (by simp; try omega)).trans e1⟩ | exact ⟨(b4.cell (by simp; try omega)).trans e0, (b4.cell (by simp; try omega)).trans e1⟩ | exact ⟨(b3.cell (by simp; try omega)).trans e0, (b3.cell (by simp; try omega)).trans e1⟩ | exact ⟨e0, e1⟩)
            (first | (go_at_call 15; refine (HcP2.out _ b4).mono ?_; rintro e w5 ⟨rfl, b45⟩; have b5 := b4.trans (b45.mono b4.size)) | (go_at_call 15; refine (HcP1.out _ _ _ o3).mono ?_; rintro e w4 ⟨rfl, b34⟩; have b4 := b3.trans (b34.mono b3.size)) | (go_at_call 26; refine HcT.out.mono ?_; rintro e w3 ⟨A1, c1', rfl, o3, b3⟩))
          all_goals
            have HB5 : Hid (Below wr.heap.size wr w5) := HB2.out.trans ((below_drew_left b5).mono (by simp; omega))
            clear b3 b34 b4 b45 b5 o3 HcT HcP1 HcP2
            go_wp2_with fail
            first
              | (go_ret
                 exact ⟨ret_bool (by rw [HF.out, List.any_eq_true.2 ⟨k, List.mem_range.2 hlt, HS.out⟩]), HL.out.trans (HB5.out.mono HL.out.size)⟩)
              | (go_roundw
                 case rel => exact ⟨k + 1, by omega, by go_num, by rw [any_range_succ, HFA.out, HS.out]; rfl, H0.out.below HB5.out (by omega), H1.out.below HB5.out (by omega), HL.out.trans (HB5.out.mono HL.out.size), by have := HB5.out.size; omega⟩
                 case measure => simp [intOf]; omega)
      · obtain rfl : k = xs.length := by omega
        have hi2 : decide ((xs.length : Int) < (xs.length : Int)) = false := decide_eq_false (by omega)
        have HFA := Lib.hid hf; have HL := Lib.hid hbel; have c0 : wr.cell? ⟨w.heap.size, 0, none⟩ = some (.slice A xs.length c) := hb0.cell 0
        clear hf hb0 hb1 hbel hx hy
        go_wp2
        go_ret
        exact ⟨ret_bool (by rw [HF.out, HFA.out]), HL.out⟩
  · have HF : Hid (samePatL xs ys = false) := by
      unfold Hid
      cases h1 : patL xs
      · rw [samePatL, h1]; rfl
      · cases h2 : patL ys
        · rw [samePatL, h2, Bool.and_false]; rfl
        · exact absurd ⟨h1, h2⟩ hok
    have HN := Lib.hid hok; clear hok hx hy
    go_enter Try.func29, Try.ntmps29
    go_wp2_with fail
    refine wp_loop_once ?_
    by_cases hz : 0 < xs.length
    · have hi1 : decide ((0 : Int) < (xs.length : Int)) = true := decide_eq_true (by omega)
      cases hp : patL xs
      · go_wp2_with (go_at_call 11; refine (spec_PatternValid _ _ _ _).mono ?_; rintro e w' ⟨rfl, rfl⟩)
        go_ret
        exact ⟨ret_bool HF.out.symm, by (repeat (first | exact Below.refl _ _ | refine Below.alloc ?_ (by simp; try omega) _ | refine below_drewN ?_ _ | refine Below.drew ?_))⟩
      · have hq : patL ys = false := by
          cases e : patL ys
          · rfl
          · exact absurd ⟨hp, e⟩ HN.out
        go_wp2_with (go_at_call 11; refine (spec_PatternValid _ _ _ _).mono ?_; rintro e w' ⟨rfl, rfl⟩)
        go_ret
        exact ⟨ret_bool HF.out.symm, by (repeat (first | exact Below.refl _ _ | refine Below.alloc ?_ (by simp; try omega) _ | refine below_drewN ?_ _ | refine Below.drew ?_))⟩
    · have hi1 : decide ((0 : Int) < (xs.length : Int)) = false := decide_eq_false (by omega)
      go_wp2_with fail
      go_ret
      exact ⟨ret_bool HF.out.symm, by (repeat (first | exact Below.refl _ _ | refine Below.alloc ?_ (by simp; try omega) _ | refine below_drewN ?_ _ | refine Below.drew ?_))⟩
end Go.Proofs.Ytelajonddhoafaa
