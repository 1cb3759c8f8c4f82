/- Contracts of the helpers of the exact laws on slices of Event: copy, compare, write, look. Conditions: lengths at most 2^20 where memory is made. -/
import Derived.Test.YtkmgmnjggnamfaaRecs
import Derived.Test.YtkmgmnjggnamfaaNum
import Derived.Test.YtkmgmnjggnamfaaNum
import Derived.Deep.RegionHeld3
namespace Go.Proofs.Ytkmgmnjggnamfaa
open Go.RowKit
set_option linter.unusedSimpArgs false
set_option linter.unusedVariables false
/-- a record of 4 ints -/
def encEvent (z : Int × Int × Int × Int) : List Value := [.int .i64 (z.1), .int .i64 (z.2.1), .int .i64 (z.2.2.1), .int .i64 (z.2.2.2)]
theorem encEvent_len (z : Int × Int × Int × Int) : (encEvent z).length = 4 := rfl
def RdEvent (w : World) (B : Nat) (A : Option Addr) (zs : List (Int × Int × Int × Int)) : Prop := RdR encEvent 4 w B A zs
def glEvent (zs : List (Int × Int × Int × Int)) (k : Nat) : Int × Int × Int × Int := zs.getD k (0, 0, 0, 0)
theorem glEvent_get {zs : List (Int × Int × Int × Int)} {k : Nat} (h : k < zs.length) : zs[k] = glEvent zs k := by simp [glEvent, h]
theorem RdEvent.at_ {w : World} {B : Nat} {A : Option Addr} {zs : List (Int × Int × Int × Int)} {k : Nat} (h : RdEvent w B A zs) (hk : k < zs.length) :
    ∃ b off, A = some ⟨b, off, none⟩ ∧ b < B ∧ w.cell? ⟨b, off + k * 4, none⟩ = some (.int .i64 ((glEvent zs k).1)) ∧ w.cell? ⟨b, off + k * 4 + 1, none⟩ = some (.int .i64 ((glEvent zs k).2.1)) ∧ w.cell? ⟨b, off + k * 4 + 2, none⟩ = some (.int .i64 ((glEvent zs k).2.2.1)) ∧ w.cell? ⟨b, off + k * 4 + 3, none⟩ = some (.int .i64 ((glEvent zs k).2.2.2)) := by
  obtain ⟨b, off, e, hb, hc⟩ := RdR.at_ encEvent_len h hk
  rw [glEvent_get hk] at hc
  exact ⟨b, off, e, hb, hc 0 _ rfl, hc 1 _ rfl, hc 2 _ rfl, hc 3 _ rfl⟩
theorem RdEvent.below {w w' : World} {B C : Nat} {A : Option Addr} {zs : List (Int × Int × Int × Int)} (h : RdEvent w B A zs) (hb : Below C w w') (hB : B ≤ C) : RdEvent w' B A zs := RdR.below h hb hB
theorem RdEvent.more {w : World} {B C : Nat} {A : Option Addr} {zs : List (Int × Int × Int × Int)} (h : RdEvent w B A zs) (hB : B ≤ C) : RdEvent w C A zs := RdR.more h hB
theorem RdEvent.drewN {w : World} {B : Nat} {A : Option Addr} {zs : List (Int × Int × Int × Int)} (h : RdEvent w B A zs) (k : Nat) : RdEvent (w.drewN k) B A zs := h
theorem RdEvent.al {w : World} {B : Nat} {A : Option Addr} {zs : List (Int × Int × Int × Int)} (h : RdEvent w B A zs) (hB : B ≤ w.heap.size) (o : Obj) : RdEvent (w.alloc o) B A zs := RdR.al h hB o
theorem RdEvent.far {w w' : World} {B lo' hi' E' size' c' n' : Nat} {A A' : Option Addr} {xs' : List Value} {zs : List (Int × Int × Int × Int)} (h : RdEvent w B A zs) (h' : Row w lo' hi' E' size' A' c' n' xs')
    (hg : w.grownBy w' (Value.slice A' n' c').ownBlock) (hw : B ≤ w.heap.size) (hd : B ≤ lo') : RdEvent w' B A zs := RdR.far h h' hg hw hd
theorem Row.rdEvent {w : World} {lo hi E c : Nat} {A : Option Addr} {zs : List (Int × Int × Int × Int)} (h : Row w lo hi E 4 A c zs.length (fl encEvent zs)) : RdEvent w hi A zs := h.rdR
def eqbEvent (x y : Int × Int × Int × Int) : Bool := decide (x = y)
def sameEvent (xs ys : List (Int × Int × Int × Int)) : Bool := decide (xs = ys)
theorem sameEvent_refl (a : List (Int × Int × Int × Int)) : sameEvent a a = true := by simp [sameEvent]
theorem take_succ_Event {zs : List (Int × Int × Int × Int)} {k : Nat} (h : k < zs.length) : zs.take (k + 1) = zs.take k ++ [glEvent zs k] := by rw [List.take_succ_eq_append_getElem h, glEvent_get h]
theorem take_ne_Event {xs ys : List (Int × Int × Int × Int)} {k : Nat} (h : k < xs.length) (h' : k < ys.length) (hne : glEvent xs k ≠ glEvent ys k) : sameEvent xs ys = false := by
  simp only [sameEvent, decide_eq_false_iff_not]
  rintro rfl
  exact hne rfl
theorem infoEvent : (Try.prog.info? 54).map (fun i => (i.zero, i.size, i.bytes)) = some (some (Value.agg #[Value.int .i64 0, Value.int .i64 0, Value.int .i64 0, Value.int .i64 0]), 4, 32) := by kernel_rfl

theorem laws_toEvent (z : Int × Int × Int × Int) (w : World) : Calls Try.prog 38 #[.agg #[.int .i64 (z.1), .int .i64 (z.2.1), .int .i64 (z.2.2.1), .int .i64 (z.2.2.2)]] w fun e w' => e = .returned (.agg #[.int .i64 (z.1), .int .i64 (z.2.1), .int .i64 (z.2.2.1), .int .i64 (z.2.2.2)]) ∧ Below w.heap.size w w' := by
  obtain ⟨z0, z1, z2, z3⟩ := z
  dsimp only
  go_enter Try.func38, Try.ntmps38
  go_wp2
  refine bodyPost_ret (v := .agg #[.int .i64 (z0), .int .i64 (z1), .int .i64 (z2), .int .i64 (z3)]) (by simp [results, Try.results38, go_sem]) rfl ⟨rfl, ?_⟩
  repeat (first | exact Below.refl _ _ | refine Below.setCell ?_ (by simp; try omega) _ | refine Below.alloc ?_ (by simp; try omega) _)
set_option maxHeartbeats 2000000 in
theorem laws_toEventS (A : Option Addr) (c : Nat) (zs : List (Int × Int × Int × Int)) (w : World) (hr : RdEvent w w.heap.size A zs) (hl : zs.length ≤ 1048576) :
    Calls Try.prog 13 #[.slice A zs.length c] w (RetRow w 54 4 zs.length (fl encEvent zs)) := by
  obtain ⟨i0, hi, hz0, hz1, hz2⟩ := info_parts infoEvent
  have hmk := fun W => run_make_rowN (P := Try.prog) 29 54 i0 (.agg #[Value.int .i64 0, Value.int .i64 0, Value.int .i64 0, Value.int .i64 0]) Try.underlying29 hi hz0 .i64 .i64 zs.length zs.length (Nat.le_refl _) (by rw [hz2]; omega) (by omega) W
  have hmz : madeCells (Value.cells (.agg #[Value.int .i64 0, Value.int .i64 0, Value.int .i64 0, Value.int .i64 0])) (zs.length * 4) = mkR encEvent [.int .i64 0, .int .i64 0, .int .i64 0, .int .i64 0] zs 0 := mkR_none (s := 4) #[Value.int .i64 0, Value.int .i64 0, Value.int .i64 0, Value.int .i64 0] zs rfl (by decide)
  rw [hz1, hmz] at hmk
  have HI := Lib.hid hi; clear hi hz0 hz1 hz2 hmz
  go_enter Try.func13, Try.ntmps13
  go_wp2
  clear hmk
  go_loopw [4] (fun i wr => ∃ k : Nat, k ≤ zs.length ∧ i = .int .i64 k ∧ Blk wr w.heap.size 54 (mkR encEvent [.int .i64 0, .int .i64 0, .int .i64 0, .int .i64 0] zs k) ∧ Below w.heap.size w wr ∧ w.heap.size < wr.heap.size) (fun i _ => zs.length - (intOf i).toNat)
  case atStart => exact ⟨0, Nat.zero_le _, rfl, Blk.new _ _ _, (Below.refl _ _).alloc (Nat.le_refl _) _, by simp⟩
  case round =>
    obtain ⟨k, hk, rfl, hb, hbel, hsz⟩ := hrel
    by_cases hlt : k < zs.length
    · obtain ⟨b, off, rfl, hbB, hc0, hc1, hc2, hc3⟩ := (RdEvent.below hr hbel (Nat.le_refl _)).at_ hlt
      have HB := Lib.hid hb; have HR := Lib.hid hr; have HL := Lib.hid hbel; clear hb hr hbel
      have HST := Lib.hid (mkR_set (z0 := [.int .i64 0, .int .i64 0, .int .i64 0, .int .i64 0]) encEvent_len rfl zs k hlt)
      have HZ := Lib.hid (glEvent_get hlt)
      have hkl : (k : Int) < (zs.length : Int) := by omega
      go_wp2_with fail
      refine (laws_toEvent (glEvent zs k) wr).mono ?_
      rintro e w2 ⟨rfl, b2⟩
      have z2 := b2.size
      have hK := HB.out.below b2 hsz
      have hcell0 := (hK.cell (k * 4)).trans (mkR_at encEvent_len rfl zs k 0 hlt (by decide))
      have hfro0 := hK.frozen (k * 4)
      have hcell1 := (hK.cell (k * 4 + 1)).trans (mkR_at encEvent_len rfl zs k 1 hlt (by decide))
      have hfro1 := hK.frozen (k * 4 + 1)
      have hcell2 := (hK.cell (k * 4 + 2)).trans (mkR_at encEvent_len rfl zs k 2 hlt (by decide))
      have hfro2 := hK.frozen (k * 4 + 2)
      have hcell3 := (hK.cell (k * 4 + 3)).trans (mkR_at encEvent_len rfl zs k 3 hlt (by decide))
      have hfro3 := hK.frozen (k * 4 + 3)
      have HK := Lib.hid hK; have B2 := Lib.hid b2; clear b2 hK
      have hnz : wr.heap.size ≤ w2.heap.size := z2
      go_wp2
      go_roundw
      case rel => exact ⟨k + 1, by omega, by go_num, by
        rw [← HST.out, HZ.out]
        exact ((((HK.out.set_ (k * 4) _).set_ (k * 4 + 1) _).set_ (k * 4 + 2) _).set_ (k * 4 + 3) _), (((((HL.out.trans (B2.out.mono (by omega))).setCell (Nat.le_refl _) _).setCell (Nat.le_refl _) _).setCell (Nat.le_refl _) _).setCell (Nat.le_refl _) _), by simp [World.setCell]; omega⟩
      case measure => simp [intOf]; omega
    · obtain rfl : k = zs.length := by omega
      have HB := Lib.hid hb; have HL := Lib.hid hbel; clear hb hbel hr
      go_wp2
      go_ret
      have ho := HB.out.own (size := 4) (n := zs.length) (Nat.le_refl _) (by unfold maxLen; omega) (by rw [mkR_size (s := 4) encEvent_len rfl _ _ (Nat.le_refl _)])
      rw [mkR_all] at ho
      exact ⟨_, _, rfl, ho, HL.out⟩
theorem laws_eqEvent (x y : Int × Int × Int × Int) (w : World) : Calls Try.prog 44 #[.agg #[.int .i64 (x.1), .int .i64 (x.2.1), .int .i64 (x.2.2.1), .int .i64 (x.2.2.2)], .agg #[.int .i64 (y.1), .int .i64 (y.2.1), .int .i64 (y.2.2.1), .int .i64 (y.2.2.2)]] w (RetB w (eqbEvent x y)) := by
  obtain ⟨x0, x1, x2, x3⟩ := x
  obtain ⟨y0, y1, y2, y3⟩ := y
  dsimp only
  by_cases h0 : x0 = y0
  case neg =>
    have e0 : (x0 != y0) = true := by simp [h0]
    have hfin : Hid (eqbEvent ((x0, x1, x2, x3) : Int × Int × Int × Int) (y0, y1, y2, y3) = false) := by unfold Hid eqbEvent; simp [h0]
    clear h0
    go_enter Try.func44, Try.ntmps44
    go_wp2
    go_ret
    exact ⟨ret_bool hfin.out.symm, by (repeat (first | exact Below.refl _ _ | refine Below.alloc ?_ (by simp; try omega) _ | refine below_drewN ?_ _ | refine Below.drew ?_))⟩
  subst h0
  have e0 : (x0 != x0) = false := by simp
  by_cases h1 : x1 = y1
  case neg =>
    have e1 : (x1 != y1) = true := by simp [h1]
    have hfin : Hid (eqbEvent ((x0, x1, x2, x3) : Int × Int × Int × Int) (x0, y1, y2, y3) = false) := by unfold Hid eqbEvent; simp [h1]
    clear h1
    go_enter Try.func44, Try.ntmps44
    go_wp2
    go_ret
    exact ⟨ret_bool hfin.out.symm, by (repeat (first | exact Below.refl _ _ | refine Below.alloc ?_ (by simp; try omega) _ | refine below_drewN ?_ _ | refine Below.drew ?_))⟩
  subst h1
  have e1 : (x1 != x1) = false := by simp
  by_cases h2 : x2 = y2
  case neg =>
    have e2 : (x2 != y2) = true := by simp [h2]
    have hfin : Hid (eqbEvent ((x0, x1, x2, x3) : Int × Int × Int × Int) (x0, x1, y2, y3) = false) := by unfold Hid eqbEvent; simp [h2]
    clear h2
    go_enter Try.func44, Try.ntmps44
    go_wp2
    go_ret
    exact ⟨ret_bool hfin.out.symm, by (repeat (first | exact Below.refl _ _ | refine Below.alloc ?_ (by simp; try omega) _ | refine below_drewN ?_ _ | refine Below.drew ?_))⟩
  subst h2
  have e2 : (x2 != x2) = false := by simp
  by_cases h3 : x3 = y3
  case neg =>
    have e3 : (x3 != y3) = true := by simp [h3]
    have hfin : Hid (eqbEvent ((x0, x1, x2, x3) : Int × Int × Int × Int) (x0, x1, x2, y3) = false) := by unfold Hid eqbEvent; simp [h3]
    clear h3
    go_enter Try.func44, Try.ntmps44
    go_wp2
    go_ret
    exact ⟨ret_bool hfin.out.symm, by (repeat (first | exact Below.refl _ _ | refine Below.alloc ?_ (by simp; try omega) _ | refine below_drewN ?_ _ | refine Below.drew ?_))⟩
  subst h3
  have e3 : (x3 != x3) = false := by simp
  have hfin : Hid (eqbEvent ((x0, x1, x2, x3) : Int × Int × Int × Int) (x0, x1, x2, x3) = true) := by unfold Hid eqbEvent; simp
  go_enter Try.func44, Try.ntmps44
  go_wp2
  go_ret
  exact ⟨ret_bool hfin.out.symm, by (repeat (first | exact Below.refl _ _ | refine Below.alloc ?_ (by simp; try omega) _ | refine below_drewN ?_ _ | refine Below.drew ?_))⟩
set_option maxHeartbeats 2000000 in
theorem laws_eqEventS (A C : Option Addr) (c d : Nat) (xs ys : List (Int × Int × Int × Int)) (w : World) (hx : RdEvent w w.heap.size A xs) (hy : RdEvent w w.heap.size C ys) (hl : xs.length ≤ 1048576) (hl2 : ys.length ≤ 1048576) :
    Calls Try.prog 16 #[.slice A xs.length c, .slice C ys.length d] w (RetB w (sameEvent xs ys)) := by
  by_cases hne : xs.length = ys.length
  · have hb0 : ((xs.length : Int) != (ys.length : Int)) = false := by simp [hne]
    have HN := Lib.hid hne
    clear hne
    go_enter Try.func16, Try.ntmps16
    go_wp2
    go_loopw [5] (fun i wr => ∃ k : Nat, k ≤ xs.length ∧ i = .int .i64 k ∧ xs.take k = ys.take k ∧ Below w.heap.size w wr) (fun i _ => xs.length - (intOf i).toNat)
    case atStart => exact ⟨0, Nat.zero_le _, rfl, by simp, Below.refl _ _⟩
    case round =>
      obtain ⟨k, hk, rfl, ht, hbel⟩ := hrel
      have HT := Lib.hid ht; have HB := Lib.hid hbel; clear ht
      have hz := hbel.size
      by_cases hlt : k < xs.length
      · have hlt2 : k < ys.length := by have := HN.out; omega
        obtain ⟨b, off, rfl, hbB, hc0, hc1, hc2, hc3⟩ := (hx.below hbel (Nat.le_refl _)).at_ hlt
        obtain ⟨b', off', rfl, hbB', hd0, hd1, hd2, hd3⟩ := (hy.below hbel (Nat.le_refl _)).at_ hlt2
        have HS := Lib.hid (take_succ_Event hlt); have HS2 := Lib.hid (take_succ_Event hlt2); have HNE := Lib.hid (fun h => take_ne_Event hlt hlt2 h)
        generalize glEvent xs k = x at *
        generalize glEvent ys k = y at *
        have hi1 : (k : Int) < (xs.length : Int) := by omega
        have hi2 : (k : Int) < (ys.length : Int) := by omega
        have sd : wr.drew.heap.size = wr.heap.size := rfl
        clear hx hy hbel
        go_wp2_with fail
        go_region_held3 (fun w' => w'.cell? ⟨b, off + k * 4, none⟩ = some (.int .i64 (x.1)) ∧ w'.cell? ⟨b, off + k * 4 + 1, none⟩ = some (.int .i64 (x.2.1)) ∧ w'.cell? ⟨b, off + k * 4 + 2, none⟩ = some (.int .i64 (x.2.2.1)) ∧ w'.cell? ⟨b, off + k * 4 + 3, none⟩ = some (.int .i64 (x.2.2.2)) ∧ w'.cell? ⟨b', off' + k * 4, none⟩ = some (.int .i64 (y.1)) ∧ w'.cell? ⟨b', off' + k * 4 + 1, none⟩ = some (.int .i64 (y.2.1)) ∧ w'.cell? ⟨b', off' + k * 4 + 2, none⟩ = some (.int .i64 (y.2.2.1)) ∧ w'.cell? ⟨b', off' + k * 4 + 3, none⟩ = some (.int .i64 (y.2.2.2))) (first | exact ⟨hc0, hc1, hc2, hc3, hd0, hd1, hd2, hd3⟩ | exact ⟨(b1.cell (p := ⟨b, off + k * 4, none⟩) (by simp; omega)).trans hc0, (b1.cell (p := ⟨b, off + k * 4 + 1, none⟩) (by simp; omega)).trans hc1, (b1.cell (p := ⟨b, off + k * 4 + 2, none⟩) (by simp; omega)).trans hc2, (b1.cell (p := ⟨b, off + k * 4 + 3, none⟩) (by simp; omega)).trans hc3, (b1.cell (p := ⟨b', off' + k * 4, none⟩) (by simp; omega)).trans hd0, (b1.cell (p := ⟨b', off' + k * 4 + 1, none⟩) (by simp; omega)).trans hd1, (b1.cell (p := ⟨b', off' + k * 4 + 2, none⟩) (by simp; omega)).trans hd2, (b1.cell (p := ⟨b', off' + k * 4 + 3, none⟩) (by simp; omega)).trans hd3⟩) (first | (go_at_call 44; refine (laws_eqEvent x y _).mono ?_; rintro e w1 ⟨rfl, b1⟩; have z1 : wr.heap.size ≤ w1.heap.size := b1.size))
        have HB1 := Lib.hid (HB.out.trans ((below_drew_left b1).mono (by simp; omega)))
        clear b1
        cases he : eqbEvent x y
        · have HE := Lib.hid (show x ≠ y by simpa [eqbEvent] using he)
          go_wp2
          go_ret
          exact ⟨ret_bool (by rw [HNE.out HE.out]), HB1.out⟩
        · have HE := Lib.hid (show x = y by simpa [eqbEvent] using he)
          go_wp2
          go_roundw
          case rel => exact ⟨k + 1, by omega, by go_num, by rw [HS.out, HS2.out, HT.out, HE.out], HB1.out⟩
          case measure => simp [intOf]; omega
      · obtain rfl : k = xs.length := by omega
        clear hx hy hbel
        go_wp2
        go_ret
        have e : xs = ys := by
          have := HT.out
          rw [List.take_of_length_le (Nat.le_refl _), List.take_of_length_le (by have := HN.out; omega)] at this
          exact this
        exact ⟨ret_bool (by simp [sameEvent, e]), HB.out⟩
  · have hb0 : ((xs.length : Int) != (ys.length : Int)) = true := by simp; omega
    go_enter Try.func16, Try.ntmps16
    go_wp2
    go_ret
    exact ⟨ret_bool (by
      have : sameEvent xs ys = false := by
        simp only [sameEvent, decide_eq_false_iff_not]
        rintro rfl
        exact hne rfl
      rw [this]), Below.refl _ _⟩
/-- k, k + 1, .. -/
def upEvent (k : Int) (n : Nat) : List (Int × Int × Int × Int) := (List.range n).map fun (j : Nat) => (k + 4 * (j : Int), k + 4 * (j : Int) + 1, k + 4 * (j : Int) + 1 + 1, k + 4 * (j : Int) + 1 + 1 + 1)
theorem upEvent_length (k : Int) (n : Nat) : (upEvent k n).length = n := by simp [upEvent]
theorem upEvent_at (k : Int) (n j : Nat) (h : j < n) : glEvent (upEvent k n) j = (k + 4 * (j : Int), k + 4 * (j : Int) + 1, k + 4 * (j : Int) + 1 + 1, k + 4 * (j : Int) + 1 + 1 + 1) := by simp [glEvent, upEvent, h]
theorem upEvent_succ (k : Int) (n : Nat) : upEvent k (n + 1) = upEvent k n ++ [(k + 4 * (n : Int), k + 4 * (n : Int) + 1, k + 4 * (n : Int) + 1 + 1, k + 4 * (n : Int) + 1 + 1 + 1)] := by simp [upEvent, List.range_succ]
def setUpEvent (cur : Array Value) (k : Int) (j : Nat) : Array Value := (fl encEvent (upEvent k j) ++ cur.toList.drop (j * 4)).toArray
theorem setUpEvent_zero (cur : Array Value) (k : Int) : setUpEvent cur k 0 = cur := by simp [setUpEvent, upEvent, fl]
theorem setUpEvent_size (cur : Array Value) (k : Int) (j : Nat) (h : j * 4 ≤ cur.size) : (setUpEvent cur k j).size = cur.size := by
  simp only [setUpEvent, List.size_toArray, List.length_append, List.length_drop, Array.length_toList]
  rw [fl_length encEvent_len, upEvent_length]; omega
theorem setUpEvent_at (cur : Array Value) (k : Int) (j i : Nat) (h : j * 4 + i < cur.size) : ∃ u, (setUpEvent cur k j)[j * 4 + i]? = some u := ⟨_, Array.getElem?_eq_getElem (by rw [setUpEvent_size _ _ _ (by omega)]; exact h)⟩
theorem setUpEvent_set (cur : Array Value) (k : Int) (j : Nat) (h : j * 4 + 4 ≤ cur.size) : setR (setUpEvent cur k j) (j * 4) [.int .i64 (k + 4 * (j : Int)), .int .i64 (k + 4 * (j : Int) + 1), .int .i64 (k + 4 * (j : Int) + 1 + 1), .int .i64 (k + 4 * (j : Int) + 1 + 1 + 1)] = setUpEvent cur k (j + 1) := by
  have e : cur.toList.drop (j * 4) = (cur.toList.drop (j * 4)).take 4 ++ cur.toList.drop ((j + 1) * 4) := by
    rw [show (j + 1) * 4 = j * 4 + 4 by omega, ← List.drop_drop, List.take_append_drop]
  have hl : (fl encEvent (upEvent k j)).length = j * 4 := by rw [fl_length encEvent_len, upEvent_length]
  unfold setUpEvent
  rw [e, ← List.append_assoc, setR_mid _ _ _ _ _ hl.symm (by simp; omega), upEvent_succ, fl_append, fl_one]
  rfl
theorem Blk.setsEvent {w : World} {g : Nat} {t : TypeId} {cs : Array Value} (h : Blk w g t cs) (p : Nat) (v0 v1 v2 v3 : Value) : Blk ((((w.setCell ⟨g, p, none⟩ v0).setCell ⟨g, p + 1, none⟩ v1).setCell ⟨g, p + 2, none⟩ v2).setCell ⟨g, p + 3, none⟩ v3) g t (setR cs p [v0, v1, v2, v3]) := by
  simp only [setR]
  exact ((((h.set_ (p) _).set_ (p + 1) _).set_ (p + 2) _).set_ (p + 3) _)
theorem only_setsEvent {a w : World} {g : Nat} (h : a.grownBy w (some g)) (p : Nat) (v0 v1 v2 v3 : Value) : a.grownBy ((((w.setCell ⟨g, p, none⟩ v0).setCell ⟨g, p + 1, none⟩ v1).setCell ⟨g, p + 2, none⟩ v2).setCell ⟨g, p + 3, none⟩ v3) (some g) := (only_setCell (only_setCell (only_setCell (only_setCell h (.inl rfl) _) (.inl rfl) _) (.inl rfl) _) (.inl rfl) _)
set_option maxHeartbeats 4000000 in
theorem laws_markEventS (base n c : Nat) (A : Option Addr) (k : Int) (xs : List Value) (w : World) (ho : w.ownsRow base 54 4 (.slice A n c) n xs) (hn : n ≤ 1048576) (h0 : 0 ≤ k) (h1 : k ≤ 1000000000) :
    Calls Try.prog 28 #[.slice A n c, .int .i64 k] w (RetMark w base 54 4 (.slice A n c) n (fl encEvent (upEvent k n)) (k + 4 * n)) := by
  rcases ho.2 with ⟨hv, rfl⟩ | ⟨g, cap, cur, hv, hb, hg, hnc, hcm, hsz, htk⟩
  · obtain ⟨rfl, _, rfl⟩ : A = none ∧ 0 = 0 ∧ c = 0 := by injection hv with a b c; exact ⟨a, b, c⟩
    go_enter Try.func28, Try.ntmps28
    go_wp2
    refine wp_loop_once ?_
    go_wp2
    go_ret
    exact ⟨ret_int (by simp), by simpa [upEvent, fl] using World.ownsRow_nil w base _ 4, only_refl _ _⟩
  · obtain ⟨rfl, rfl⟩ : A = some ⟨g, 0, none⟩ ∧ c = cap := by injection hv with a b c; exact ⟨a, c⟩
    have HG : Blk w g 54 cur := hg
    have HS : Hid (cur.size = c * 4) := hsz
    clear hv htk ho hg hsz
    unfold maxLen at hcm
    go_enter Try.func28, Try.ntmps28
    go_wp2
    go_loopw [1, 5] (fun kk i wr => ∃ j : Nat, j ≤ n ∧ i = .int .i64 j ∧ kk = .int .i64 (k + 4 * j) ∧ Blk wr g 54 (setUpEvent cur k j) ∧ w.grownBy wr (some g)) (fun _ i _ => n - (intOf i).toNat)
    case atStart => exact ⟨0, Nat.zero_le _, rfl, by simp, by rw [setUpEvent_zero]; exact HG, only_refl _ _⟩
    case round =>
      obtain ⟨j, hj, rfl, rfl, hb', ho'⟩ := hrel
      have hjs : j < n → j * 4 + 4 ≤ cur.size := by have := HS.out; omega
      by_cases hlt : j < n
      · have hjs2 := hjs hlt
        obtain ⟨u0, hu0⟩ := setUpEvent_at cur k j 0 (by omega)
        have hcell0 := (hb'.cell (j * 4)).trans hu0
        have hfro0 := hb'.frozen (j * 4)
        obtain ⟨u1, hu1⟩ := setUpEvent_at cur k j 1 (by omega)
        have hcell1 := (hb'.cell (j * 4 + 1)).trans hu1
        have hfro1 := hb'.frozen (j * 4 + 1)
        obtain ⟨u2, hu2⟩ := setUpEvent_at cur k j 2 (by omega)
        have hcell2 := (hb'.cell (j * 4 + 2)).trans hu2
        have hfro2 := hb'.frozen (j * 4 + 2)
        obtain ⟨u3, hu3⟩ := setUpEvent_at cur k j 3 (by omega)
        have hcell3 := (hb'.cell (j * 4 + 3)).trans hu3
        have hfro3 := hb'.frozen (j * 4 + 3)
        have HB := Lib.hid hb'; have HO := Lib.hid ho'; clear hb' ho' hjs hu0 hu1 hu2 hu3
        have HST := Lib.hid (setUpEvent_set cur k j hjs2)
        generalize hkk : k + 4 * (j : Int) = kj at *
        have hkb : 0 ≤ kj ∧ kj ≤ 2000000000 := by omega
        have HKK := Lib.hid hkk; clear hkk
        go_wp2
        go_roundw
        case rel => exact ⟨j + 1, by omega, congrArg (Value.int IntKind.i64) (by omega), congrArg (Value.int IntKind.i64) (by have := HKK.out; omega), by
          rw [← HST.out]
          exact HB.out.setsEvent (j * 4) _ _ _ _, only_setsEvent HO.out (j * 4) _ _ _ _⟩
        case measure => simp [intOf]; omega
      · obtain rfl : j = n := by omega
        have HB := Lib.hid hb'; have HO := Lib.hid ho'; clear hb' ho' hjs
        go_wp2
        go_ret
        refine ⟨rfl, ⟨by rw [fl_length encEvent_len, upEvent_length], .inr ⟨g, c, _, rfl, hb, HB.out, hnc, by unfold maxLen; omega, by rw [setUpEvent_size _ _ _ (by have := HS.out; omega)]; exact HS.out, ?_⟩⟩, HO.out⟩
        have hl : (fl encEvent (upEvent k j)).length = j * 4 := by rw [fl_length encEvent_len, upEvent_length]
        simp only [setUpEvent]
        rw [← hl, List.take_left']
        rfl
theorem laws_heldEventS (A : Option Addr) (n c : Nat) (k : Int) (w : World) (hr0 : Rd w w.heap.size 4 A n (fl encEvent (upEvent k n))) (hn : n ≤ 1048576) (h0 : 0 ≤ k) (h1 : k ≤ 1000000000) :
    Calls Try.prog 29 #[.slice A n c, .int .i64 k] w fun e w' => e = .returned (.int .i64 (k + 4 * n)) ∧ w = w' := by
  have hr : RdEvent w w.heap.size A (upEvent k n) := by unfold RdEvent RdR; rw [upEvent_length]; exact hr0
  clear hr0
  go_enter Try.func29, Try.ntmps29
  go_wp2
  go_loop [1, 5] (fun kk i => ∃ j : Nat, j ≤ n ∧ i = .int .i64 j ∧ kk = .int .i64 (k + 4 * j)) (fun _ i => n - (intOf i).toNat)
  case atStart => exact ⟨0, Nat.zero_le _, rfl, by simp⟩
  case round =>
    obtain ⟨j, hj, rfl, rfl⟩ := hrel
    by_cases hlt : j < n
    · obtain ⟨b, off, rfl, hbB, hc0, hc1, hc2, hc3⟩ := hr.at_ (k := j) (by rw [upEvent_length]; exact hlt)
      rw [upEvent_at _ _ _ hlt] at hc0 hc1 hc2 hc3
      dsimp only at hc0 hc1 hc2 hc3
      clear hr
      generalize hkk : k + 4 * (j : Int) = kj at *
      have hkb : 0 ≤ kj ∧ kj ≤ 2000000000 := by omega
      have eq0 : (kj != kj) = false := by simp
      have eq1 : (kj + 1 != kj + 1) = false := by simp
      have eq2 : (kj + 1 + 1 != kj + 1 + 1) = false := by simp
      have eq3 : (kj + 1 + 1 + 1 != kj + 1 + 1 + 1) = false := by simp
      have HKK := Lib.hid hkk; clear hkk
      go_wp2
      go_round
      case rel => exact ⟨j + 1, by omega, congrArg (Value.int IntKind.i64) (by omega), congrArg (Value.int IntKind.i64) (by have := HKK.out; omega)⟩
      case measure => simp [intOf]; omega
    · obtain rfl : j = n := by omega
      go_wp2
      go_ret
      exact ⟨rfl, rfl⟩
theorem laws_szEventS (A : Option Addr) (c n : Nat) (l : Int) (w : World) (hl : (n : Int) ≤ l) (h2 : l ≤ 1048576) :
    Calls Try.prog 10 #[.slice A n c, .int .i64 l] w fun e w' => e = .returned (.int .i64 (l - n)) ∧ Below w.heap.size w w' := by
  have hd : decide (l - (n : Int) < 0) = false := decide_eq_false (by omega)
  go_enter Try.func10, Try.ntmps10
  go_wp2
  go_ret
  exact ⟨rfl, Below.refl _ _⟩
theorem laws_szEventS_no (A : Option Addr) (c n : Nat) (l : Int) (w : World) (hl : l < (n : Int)) (h0 : 0 ≤ l) (h2 : n ≤ 9223372036854775807) :
    Calls Try.prog 10 #[.slice A n c, .int .i64 l] w fun e w' => e = .returned (.int .i64 (-1)) ∧ Below w.heap.size w w' := by
  have hd : decide (l - (n : Int) < 0) = true := decide_eq_true (by omega)
  have hw : IntKind.i64.wrap (l - (n : Int)) = l - (n : Int) := IntWalk.i64_in _ (by omega)
  go_enter Try.func10, Try.ntmps10
  go_wp2
  go_ret
  exact ⟨rfl, Below.refl _ _⟩
end Go.Proofs.Ytkmgmnjggnamfaa
