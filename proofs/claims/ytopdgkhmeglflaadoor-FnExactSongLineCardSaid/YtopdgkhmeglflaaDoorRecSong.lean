/- Contracts of the helpers of the exact laws on songs: copy, compare, write, count. Conditions: lengths at most 2^20. -/
import Derived.Test.YtopdgkhmeglflaaDoorVsO
import Derived.Test.YtopdgkhmeglflaaDoorRecNote
import Derived.Test.YtopdgkhmeglflaaDoorRecTempo
import Derived.Deep.Cut
namespace Go.Proofs.YtopdgkhmeglflaaDoor
open Go.RowKit
set_option linter.unusedSimpArgs false
set_option linter.unusedVariables false
set_option maxRecDepth 100000
theorem laws_toMeter (b u : Int) (w : World) : Calls Tryd.prog 18 #[.agg #[.int .i64 b, .int .i64 u]] w fun e w' => e = .returned (.agg #[.int .i64 b, .int .i64 u]) ∧ Below w.heap.size w w' := by
  go_enter Tryd.func18, Tryd.ntmps18
  go_wp2
  refine bodyPost_ret (v := .agg #[.int .i64 b, .int .i64 u]) (by simp [results, Tryd.results18, go_sem]) rfl ⟨rfl, ?_⟩
  repeat (first | exact Below.refl _ _ | refine Below.setCell ?_ (by simp; try omega) _ | refine Below.alloc ?_ (by simp; try omega) _)
theorem laws_eqMeter (b u : Int) (w : World) : Calls Tryd.prog 23 #[.agg #[.int .i64 b, .int .i64 u], .agg #[.int .i64 b, .int .i64 u]] w (RetB w true) := by
  have e0 : (b != b) = false := by simp
  have e1 : (u != u) = false := by simp
  go_enter Tryd.func23, Tryd.ntmps23
  go_wp2
  go_ret
  exact ⟨rfl, by (repeat (first | exact Below.refl _ _ | refine Below.alloc ?_ (by simp; try omega) _ | refine below_drewN ?_ _ | refine Below.drew ?_))⟩
set_option maxHeartbeats 2000000 in
theorem laws_toNoteSS (A : Option Addr) (c : Nat) (vs : List (List Nt)) (w : World) (hr : RdVs w w.heap.size A vs) (hlv : LenV vs) :
    Calls Tryd.prog 20 #[.slice A vs.length c] w fun e w' => ∃ A2 c2 hs, e = .returned (.slice A2 vs.length c2) ∧ OwX w' w.heap.size w'.heap.size A2 c2 vs.length (glV vs) hs ∧ Below w.heap.size w w' := by
  obtain ⟨i0, hi, hz0, hz1, hz2⟩ := info_parts info_hdN
  have hlv1 : vs.length ≤ 1048576 := hlv.1
  have hmk := fun W => run_make_rowN (P := Tryd.prog) 32 47 i0 (.slice none 0 0) Tryd.underlying32 hi hz0 .i64 .i64 vs.length vs.length (Nat.le_refl _) (by rw [hz2]; omega) (by omega) W
  have hmz : madeCells (Value.cells (.slice none 0 0)) (vs.length * 1) = (fl encHd [] ++ List.replicate vs.length (Value.slice none 0 0)).toArray := by
    rw [Nat.mul_one]; exact madeOne _ _
  rw [hz1, hmz] at hmk
  have HR := Lib.hid hr; clear hr hi hz0 hz1 hz2 hmz
  go_enter Tryd.func20, Tryd.ntmps20
  go_wp2
  clear hmk
  go_loopw [4] (fun i wr => ∃ (k : Nat) (hs : List Hd), k ≤ vs.length ∧ i = .int .i64 k ∧ Blk wr w.heap.size 47 (fl encHd hs ++ List.replicate (vs.length - k) (Value.slice none 0 0)).toArray ∧ OwP wr (w.heap.size + 1) wr.heap.size vs k hs ∧ Below w.heap.size w wr ∧ w.heap.size < wr.heap.size) (fun i _ => vs.length - (intOf i).toNat)
  case atStart => exact ⟨0, [], Nat.zero_le _, rfl, Blk.new _ _ _, OwP.zero _ _ _ _, (Below.refl _ _).alloc (Nat.le_refl _) _, by simp⟩
  case round =>
    obtain ⟨k, hs, hk, rfl, hb, hp, hbel, hsz⟩ := hrel
    have HBK := Lib.hid hb; have HP := Lib.hid hp; have HB := Lib.hid hbel
    have hln := hp.len
    have hz := hbel.size
    by_cases hlt : k < vs.length
    · obtain ⟨b8, off, C8, d8, rfl, hb8, hc8, hn8⟩ := (HR.out.below hbel (Nat.le_refl _)).at_ hlt
      have HN := Lib.hid (RdNote.more hn8 hz); clear hn8 hbel hb hp
      have hi1 : (k : Int) < (vs.length : Int) := by omega
      have hl8 := hlv.at_ hlt
      go_wp2_with fail
      refine (laws_toNoteS _ _ _ _ HN.out hl8).mono ?_
      rintro e w1 ⟨A2, c2, rfl, o1, b1⟩
      have z1 := b1.size
      have HB1 := Lib.hid (HB.out.trans (b1.mono hz))
      have HP1 := Lib.hid (HP.out.next b1 (by omega) o1)
      have HK1 := HBK.out.below b1 (by omega)
      have f1 := HK1.frozen k
      have c1 : w1.cell? ⟨w.heap.size, k, none⟩ = some (.slice none 0 0) := by
        have h1 := HK1.cell k
        rw [h1]
        have hfl : (fl encHd hs).length = k := by rw [fl_length encHd_len, hln]; omega
        simp only [List.getElem?_toArray]
        rw [List.getElem?_append_right (by omega), hfl, Nat.sub_self, List.getElem?_replicate, if_pos (by omega)]
      have HS : Hid (Blk (w1.setCell ⟨w.heap.size, k, none⟩ (.slice A2 (glV vs k).length c2)) w.heap.size 47 (fl encHd (hs ++ [(A2, (glV vs k).length, c2)]) ++ List.replicate (vs.length - (k + 1)) (Value.slice none 0 0)).toArray) := by
        have hfl : (fl encHd hs).length = k := by rw [fl_length encHd_len, hln]; omega
        have h1 := HK1.set_ k (.slice A2 (glV vs k).length c2)
        rw [show vs.length - k = vs.length - (k + 1) + 1 by omega] at h1
        have h2 := set_hd (fl encHd hs) (.slice none 0 0) (.slice A2 (glV vs k).length c2) (vs.length - (k + 1))
        rw [hfl] at h2
        rw [h2] at h1
        rw [fl_append, fl_one]
        exact Lib.hid h1
      clear b1 o1 HK1
      go_wp2_with fail
      go_roundw
      case rel => exact ⟨k + 1, _, by omega, by go_num, HS.out, by have h := HP1.out.setOff (p := ⟨w.heap.size, k, none⟩) (by simp) (.slice A2 (glV vs k).length c2); simpa using h, HB1.out.setCell (Nat.le_refl _) _, by simp; omega⟩
      case measure => simp [intOf]; omega
    · obtain rfl : k = vs.length := by omega
      clear hbel hb hp
      go_wp2_with fail
      go_ret
      have hb : Blk wr w.heap.size 47 (fl encHd hs).toArray := by
        have h := HBK.out
        rw [Nat.sub_self, List.replicate_zero, List.append_nil] at h
        exact h
      have hown := hb.own (base := w.heap.size) (size := 1) (n := vs.length) (Nat.le_refl _) (by unfold maxLen; omega) (by simp [fl_length encHd_len, hln])
      exact ⟨some ⟨w.heap.size, 0, none⟩, vs.length, hs, rfl, ⟨hln, Row.mk_ (by simpa using hown), fun k hk => ⟨(HP.out.inn k hk).1, (HP.out.inn k hk).2.widen (by omega) (Nat.le_refl _)⟩, fun k hk g e e2 => by
        have h1 := (HP.out.inn k hk).2.ob g e
        simp [obA] at e2
        omega, HP.out.db⟩, HB.out⟩
set_option maxHeartbeats 1000000 in
theorem laws_szNoteSS (A : Option Addr) (c : Nat) (vs : List (List Nt)) (l : Int) (w : World) (hr : RdVs w w.heap.size A vs) (hl : (vs.length : Int) + totV vs ≤ l) (h2 : l ≤ 1048576) :
    Calls Tryd.prog 10 #[.slice A vs.length c, .int .i64 l] w fun e w' => e = .returned (.int .i64 (l - vs.length - totV vs)) ∧ Below w.heap.size w w' := by
  have HR := Lib.hid hr; clear hr
  have hd : decide (l - (vs.length : Int) < 0) = false := decide_eq_false (by omega)
  go_enter Tryd.func10, Tryd.ntmps10
  go_wp2_with fail
  clear hd
  go_loopw [1, 5] (fun q i wr => ∃ k : Nat, k ≤ vs.length ∧ i = .int .i64 k ∧ q = .int .i64 (l - vs.length - totV (vs.take k)) ∧ Below w.heap.size w wr) (fun _ i _ => vs.length - (intOf i).toNat)
  case atStart => exact ⟨0, Nat.zero_le _, rfl, by simp [totV], Below.refl _ _⟩
  case round =>
    obtain ⟨k, hk, rfl, rfl, hbel⟩ := hrel
    have HB := Lib.hid hbel
    have hz := hbel.size
    by_cases hlt : k < vs.length
    · obtain ⟨b8, off, C8, d8, rfl, hb8, hc8, hn8⟩ := (HR.out.below hbel (Nat.le_refl _)).at_ hlt
      have hi1 : (k : Int) < (vs.length : Int) := by omega
      have ht := totV_succ hlt
      have ht2 := totV_le vs (k + 1)
      have HT := Lib.hid ht; clear hbel hn8
      generalize hq : totV (vs.take k) = q at *
      have hd2 : decide (l - (vs.length : Int) - (q : Int) - ((glV vs k).length : Int) < 0) = false := decide_eq_false (by omega)
      go_wp2_with fail
      refine (laws_szNoteS _ _ _ _ _ (by omega) (by omega)).mono ?_
      rintro e w1 ⟨rfl, b1⟩
      have HB1 := Lib.hid (HB.out.trans (b1.mono hz)); clear b1
      go_wp2_with fail
      go_roundw
      case rel => exact ⟨k + 1, by omega, by go_num, congrArg (Value.int IntKind.i64) (by rw [HT.out]; push_cast; omega), HB1.out⟩
      case measure => simp [intOf]; omega
    · obtain rfl : k = vs.length := by omega
      clear hbel
      rw [List.take_length]
      go_wp2_with fail
      go_ret
      exact ⟨rfl, HB.out⟩
theorem laws_szNoteSS_no (A : Option Addr) (c : Nat) (vs : List (List Nt)) (l : Int) (w : World) (hr : RdVs w w.heap.size A vs) (hl : l < (vs.length : Int) + totV vs) (h0 : 0 ≤ l) (h2 : l ≤ 1048576) (hm : vs.length ≤ maxLen) (hn : ∀ v ∈ vs, v.length ≤ maxLen) :
    Calls Tryd.prog 10 #[.slice A vs.length c, .int .i64 l] w fun e w' => e = .returned (.int .i64 (-1)) ∧ Below w.heap.size w w' := by
  have HR := Lib.hid hr; clear hr
  have hN := Lib.hid hn; clear hn
  unfold maxLen at hm
  by_cases hlt0 : l < (vs.length : Int)
  case pos =>
    have hd : decide (l - (vs.length : Int) < 0) = true := decide_eq_true (by omega)
    have hw : IntKind.i64.wrap (l - (vs.length : Int)) = l - (vs.length : Int) := IntWalk.i64_in _ (by omega)
    go_enter Tryd.func10, Tryd.ntmps10
    go_wp2_with fail
    go_ret
    exact ⟨rfl, Below.refl _ _⟩
  have hd : decide (l - (vs.length : Int) < 0) = false := decide_eq_false (by omega)
  go_enter Tryd.func10, Tryd.ntmps10
  go_wp2_with fail
  clear hd
  go_loopw [1, 5] (fun q i wr => ∃ k : Nat, k ≤ vs.length ∧ i = .int .i64 k ∧ q = .int .i64 (l - vs.length - totV (vs.take k)) ∧ (vs.length : Int) + totV (vs.take k) ≤ l ∧ Below w.heap.size w wr) (fun _ i _ => vs.length - (intOf i).toNat)
  case atStart => exact ⟨0, Nat.zero_le _, rfl, by simp [totV], by simp [totV]; omega, Below.refl _ _⟩
  case round =>
    obtain ⟨k, hk, rfl, rfl, hle, hbel⟩ := hrel
    have HB := Lib.hid hbel
    have hz := hbel.size
    by_cases hlt : k < vs.length
    · obtain ⟨b8, off, C8, d8, rfl, hb8, hc8, hn8⟩ := (HR.out.below hbel (Nat.le_refl _)).at_ hlt
      have hi1 : (k : Int) < (vs.length : Int) := by omega
      have HT := Lib.hid (totV_succ hlt); clear hbel hn8
      have hm8 : (glV vs k).length ≤ 9223372036854775807 := by have := hN.out _ (glV_mem hlt); unfold maxLen at this; omega
      generalize hq : totV (vs.take k) = q at *
      by_cases hov : l - (vs.length : Int) - (q : Int) < ((glV vs k).length : Int)
      · go_wp2_with fail
        refine (laws_szNoteS_no _ _ _ _ _ hov (by omega) hm8).mono ?_
        rintro e w1 ⟨rfl, b1⟩
        have HB1 := Lib.hid (HB.out.trans (b1.mono hz)); clear b1
        go_wp2_with fail
        go_ret
        exact ⟨rfl, HB1.out⟩
      · have hd2 : decide (l - (vs.length : Int) - (q : Int) - ((glV vs k).length : Int) < 0) = false := decide_eq_false (by omega)
        go_wp2_with fail
        refine (laws_szNoteS _ _ _ _ _ (by omega) (by omega)).mono ?_
        rintro e w1 ⟨rfl, b1⟩
        have HB1 := Lib.hid (HB.out.trans (b1.mono hz)); clear b1
        go_wp2_with fail
        go_roundw
        case rel => exact ⟨k + 1, by omega, by go_num, congrArg (Value.int IntKind.i64) (by rw [HT.out]; push_cast; omega), by rw [HT.out]; push_cast; omega, HB1.out⟩
        case measure => simp [intOf]; omega
    · obtain rfl : k = vs.length := by omega
      rw [List.take_length] at hle
      omega
set_option maxHeartbeats 2000000 in
theorem laws_eqNoteSS (A C : Option Addr) (c d n : Nat) (vs : List (List Nt)) (w : World) (hn : vs.length = n) (hx : RdVs w w.heap.size A vs) (hy : RdVs w w.heap.size C vs) (hlv : LenV vs) :
    Calls Tryd.prog 25 #[.slice A vs.length c, .slice C n d] w (RetB w true) := by
  subst hn
  have hlv1 : vs.length ≤ 1048576 := hlv.1
  have HX := Lib.hid hx; have HY := Lib.hid hy; clear hx hy
  have hb0 : ((vs.length : Int) != (vs.length : Int)) = false := by simp
  go_enter Tryd.func25, Tryd.ntmps25
  go_wp2_with fail
  go_loopw [5] (fun i wr => ∃ k : Nat, k ≤ vs.length ∧ i = .int .i64 k ∧ Below w.heap.size w wr) (fun i _ => vs.length - (intOf i).toNat)
  case atStart => exact ⟨0, Nat.zero_le _, rfl, Below.refl _ _⟩
  case round =>
    obtain ⟨k, hk, rfl, hbel⟩ := hrel
    have HB := Lib.hid hbel
    have hz := hbel.size
    by_cases hlt : k < vs.length
    · obtain ⟨b8, off, C8, d8, rfl, hb8, hc8, hn8⟩ := (HX.out.below hbel (Nat.le_refl _)).at_ hlt
      obtain ⟨b9, off9, C9, d9, rfl, hb9, hc9, hn9⟩ := (HY.out.below hbel (Nat.le_refl _)).at_ hlt
      have HN := Lib.hid (RdNote.more hn8 hz); have HM := Lib.hid (RdNote.more hn9 hz)
      clear hn8 hn9 hbel
      have hi1 : (k : Int) < (vs.length : Int) := by omega
      have hl8 := hlv.at_ hlt
      have HS := Lib.hid (sameNote_refl (glV vs k))
      generalize glV vs k = v at *
      go_wp2_with fail
      go_region_held3 (fun w' => w'.cell? ⟨b8, off + k, none⟩ = some (.slice C8 v.length d8) ∧ w'.cell? ⟨b9, off9 + k, none⟩ = some (.slice C9 v.length d9)) (first | exact ⟨hc8, hc9⟩ | exact ⟨(b1.cell (p := ⟨b8, off + k, none⟩) (show b8 < wr.heap.size by omega)).trans hc8, (b1.cell (p := ⟨b9, off9 + k, none⟩) (show b9 < wr.heap.size by omega)).trans hc9⟩) (first | (go_at_call 49; refine (laws_eqNoteS _ _ _ _ _ _ _ (show RdNote wr.drew wr.drew.heap.size C8 v from HN.out) (show RdNote wr.drew wr.drew.heap.size C9 v from HM.out) hl8 hl8).mono ?_; rw [HS.out]; rintro e w1 ⟨rfl, b1⟩))
      all_goals
        have HB1 := Lib.hid (HB.out.trans ((below_drew_left b1).mono hz)); clear b1
        go_wp2_with fail
        go_roundw
        case rel => exact ⟨k + 1, by omega, by go_num, HB1.out⟩
        case measure => simp [intOf]; omega
    · obtain rfl : k = vs.length := by omega
      clear hbel
      go_wp2_with fail
      go_ret
      exact ⟨rfl, HB.out⟩
end Go.Proofs.YtopdgkhmeglflaaDoor
