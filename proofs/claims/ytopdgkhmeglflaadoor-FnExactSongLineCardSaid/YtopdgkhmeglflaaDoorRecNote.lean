/- Contracts of the helpers of the exact laws on slices of Note: copy, compare, write, look. Conditions: lengths at most 2^20 where memory is made. -/
import Derived.Test.YtopdgkhmeglflaaDoorRecs
import Derived.Test.YtopdgkhmeglflaaDoorMrg1
import Derived.Deep.RegionHeld3
namespace Go.Proofs.YtopdgkhmeglflaaDoor
open Go.RowKit
set_option linter.unusedSimpArgs false
set_option linter.unusedVariables false
/-- a record of 6 ints -/
def encNote (z : Bool × Int × Int × Int × Int × Bool) : List Value := [.bool (z.1), .int .i64 (z.2.1), .int .i64 (z.2.2.1), .int .i64 (z.2.2.2.1), .int .i64 (z.2.2.2.2.1), .bool (z.2.2.2.2.2)]
theorem encNote_len (z : Bool × Int × Int × Int × Int × Bool) : (encNote z).length = 6 := rfl
def RdNote (w : World) (B : Nat) (A : Option Addr) (zs : List (Bool × Int × Int × Int × Int × Bool)) : Prop := RdR encNote 6 w B A zs
def glNote (zs : List (Bool × Int × Int × Int × Int × Bool)) (k : Nat) : Bool × Int × Int × Int × Int × Bool := zs.getD k (false, 0, 0, 0, 0, false)
theorem glNote_get {zs : List (Bool × Int × Int × Int × Int × Bool)} {k : Nat} (h : k < zs.length) : zs[k] = glNote zs k := by simp [glNote, h]
theorem RdNote.at_ {w : World} {B : Nat} {A : Option Addr} {zs : List (Bool × Int × Int × Int × Int × Bool)} {k : Nat} (h : RdNote w B A zs) (hk : k < zs.length) :
    ∃ b off, A = some ⟨b, off, none⟩ ∧ b < B ∧ w.cell? ⟨b, off + k * 6, none⟩ = some (.bool ((glNote zs k).1)) ∧ w.cell? ⟨b, off + k * 6 + 1, none⟩ = some (.int .i64 ((glNote zs k).2.1)) ∧ w.cell? ⟨b, off + k * 6 + 2, none⟩ = some (.int .i64 ((glNote zs k).2.2.1)) ∧ w.cell? ⟨b, off + k * 6 + 3, none⟩ = some (.int .i64 ((glNote zs k).2.2.2.1)) ∧ w.cell? ⟨b, off + k * 6 + 4, none⟩ = some (.int .i64 ((glNote zs k).2.2.2.2.1)) ∧ w.cell? ⟨b, off + k * 6 + 5, none⟩ = some (.bool ((glNote zs k).2.2.2.2.2)) := by
  obtain ⟨b, off, e, hb, hc⟩ := RdR.at_ encNote_len h hk
  rw [glNote_get hk] at hc
  exact ⟨b, off, e, hb, hc 0 _ rfl, hc 1 _ rfl, hc 2 _ rfl, hc 3 _ rfl, hc 4 _ rfl, hc 5 _ rfl⟩
theorem RdNote.below {w w' : World} {B C : Nat} {A : Option Addr} {zs : List (Bool × Int × Int × Int × Int × Bool)} (h : RdNote w B A zs) (hb : Below C w w') (hB : B ≤ C) : RdNote w' B A zs := RdR.below h hb hB
theorem RdNote.more {w : World} {B C : Nat} {A : Option Addr} {zs : List (Bool × Int × Int × Int × Int × Bool)} (h : RdNote w B A zs) (hB : B ≤ C) : RdNote w C A zs := RdR.more h hB
theorem RdNote.drewN {w : World} {B : Nat} {A : Option Addr} {zs : List (Bool × Int × Int × Int × Int × Bool)} (h : RdNote w B A zs) (k : Nat) : RdNote (w.drewN k) B A zs := h
theorem RdNote.al {w : World} {B : Nat} {A : Option Addr} {zs : List (Bool × Int × Int × Int × Int × Bool)} (h : RdNote w B A zs) (hB : B ≤ w.heap.size) (o : Obj) : RdNote (w.alloc o) B A zs := RdR.al h hB o
theorem RdNote.far {w w' : World} {B lo' hi' E' size' c' n' : Nat} {A A' : Option Addr} {xs' : List Value} {zs : List (Bool × Int × Int × Int × Int × Bool)} (h : RdNote w B A zs) (h' : Row w lo' hi' E' size' A' c' n' xs')
    (hg : w.grownBy w' (Value.slice A' n' c').ownBlock) (hw : B ≤ w.heap.size) (hd : B ≤ lo') : RdNote w' B A zs := RdR.far h h' hg hw hd
theorem Row.rdNote {w : World} {lo hi E c : Nat} {A : Option Addr} {zs : List (Bool × Int × Int × Int × Int × Bool)} (h : Row w lo hi E 6 A c zs.length (fl encNote zs)) : RdNote w hi A zs := h.rdR
def eqbNote (x y : Bool × Int × Int × Int × Int × Bool) : Bool := decide (x = y)
def sameNote (xs ys : List (Bool × Int × Int × Int × Int × Bool)) : Bool := decide (xs = ys)
theorem sameNote_refl (a : List (Bool × Int × Int × Int × Int × Bool)) : sameNote a a = true := by simp [sameNote]
theorem take_succ_Note {zs : List (Bool × Int × Int × Int × Int × Bool)} {k : Nat} (h : k < zs.length) : zs.take (k + 1) = zs.take k ++ [glNote zs k] := by rw [List.take_succ_eq_append_getElem h, glNote_get h]
theorem take_ne_Note {xs ys : List (Bool × Int × Int × Int × Int × Bool)} {k : Nat} (h : k < xs.length) (h' : k < ys.length) (hne : glNote xs k ≠ glNote ys k) : sameNote xs ys = false := by
  simp only [sameNote, decide_eq_false_iff_not]
  rintro rfl
  exact hne rfl
theorem infoNote : (Tryd.prog.info? 66).map (fun i => (i.zero, i.size, i.bytes)) = some (some (Value.agg #[Value.bool false, Value.int .i64 0, Value.int .i64 0, Value.int .i64 0, Value.int .i64 0, Value.bool false]), 6, 48) := by kernel_rfl
set_option maxHeartbeats 1000000 in
theorem laws_toNote (z : Bool × Int × Int × Int × Int × Bool) (w : World) : Calls Tryd.prog 56 #[.agg #[.bool (z.1), .int .i64 (z.2.1), .int .i64 (z.2.2.1), .int .i64 (z.2.2.2.1), .int .i64 (z.2.2.2.2.1), .bool (z.2.2.2.2.2)]] w fun e w' => e = .returned (.agg #[.bool (z.1), .int .i64 (z.2.1), .int .i64 (z.2.2.1), .int .i64 (z.2.2.2.1), .int .i64 (z.2.2.2.2.1), .bool (z.2.2.2.2.2)]) ∧ Below w.heap.size w w' := by
  obtain ⟨z0, z1, z2, z3, z4, z5⟩ := z
  dsimp only
  go_enter Tryd.func56, Tryd.ntmps56
  go_wp2_with fail
  refine (laws_toPitch z1 z2 z3 _).mono ?_
  rintro e w1 ⟨rfl, b1⟩
  have k0 := (((Blk.new w _ _).alloc _).alloc _).below b1 (by simp; omega)
  have k1 := ((Blk.newAt (w := w.alloc _) (by simp)).alloc _).below (g := w.heap.size + 1) b1 (by simp)
  have k2 := (Blk.newAt (w := (w.alloc _).alloc _) (by simp)).below (g := w.heap.size + 1 + 1) b1 (by simp)
  have c0 := k0.cell 4
  have c1 := k0.cell 5
  have c2 : ∀ i, w1.frozen? ⟨w.heap.size + 1 + 1, i, none⟩ = false := fun i => k2.frozen i
  have c3 : ∀ i, w1.frozen? ⟨w.heap.size + 1, i, none⟩ = false := fun i => k1.frozen i
  have e0 := k2.cell 0; have e1 := k2.cell 1; have e2 := k2.cell 2; have e3 := k2.cell 3; have e4 := k2.cell 4; have e5 := k2.cell 5
  have d0 := k1.cell 0; have d1 := k1.cell 1; have d2 := k1.cell 2; have d3 := k1.cell 3; have d4 := k1.cell 4; have d5 := k1.cell 5
  have hz := b1.size
  simp only [World.size_alloc] at hz
  have HB := Lib.hid b1; clear b1 k0 k1 k2
  go_wp2
  refine bodyPost_ret (v := .agg #[.bool (z0), .int .i64 (z1), .int .i64 (z2), .int .i64 (z3), .int .i64 (z4), .bool (z5)]) (by simp [results, Tryd.results56, go_sem, d0, d1, d2, d3, d4, d5, c2, c3]) rfl ⟨rfl, ?_⟩
  repeat (with_reducible refine Below.setCell ?_ (by simp; try omega) _)
  exact ((((Below.refl _ _).alloc (Nat.le_refl _) _).alloc (by simp) _).alloc (by simp; omega) _).trans (HB.out.mono (by simp; omega))
set_option maxHeartbeats 2000000 in
theorem laws_toNoteS (A : Option Addr) (c : Nat) (zs : List (Bool × Int × Int × Int × Int × Bool)) (w : World) (hr : RdNote w w.heap.size A zs) (hl : zs.length ≤ 1048576) :
    Calls Tryd.prog 36 #[.slice A zs.length c] w (RetRow w 66 6 zs.length (fl encNote zs)) := by
  obtain ⟨i0, hi, hz0, hz1, hz2⟩ := info_parts infoNote
  have hmk := fun W => run_make_rowN (P := Tryd.prog) 47 66 i0 (.agg #[Value.bool false, Value.int .i64 0, Value.int .i64 0, Value.int .i64 0, Value.int .i64 0, Value.bool false]) Tryd.underlying47 hi hz0 .i64 .i64 zs.length zs.length (Nat.le_refl _) (by rw [hz2]; omega) (by omega) W
  have hmz : madeCells (Value.cells (.agg #[Value.bool false, Value.int .i64 0, Value.int .i64 0, Value.int .i64 0, Value.int .i64 0, Value.bool false])) (zs.length * 6) = mkR encNote [.bool false, .int .i64 0, .int .i64 0, .int .i64 0, .int .i64 0, .bool false] zs 0 := mkR_none (s := 6) #[Value.bool false, Value.int .i64 0, Value.int .i64 0, Value.int .i64 0, Value.int .i64 0, Value.bool false] zs rfl (by decide)
  rw [hz1, hmz] at hmk
  have HI := Lib.hid hi; clear hi hz0 hz1 hz2 hmz
  go_enter Tryd.func36, Tryd.ntmps36
  go_wp2
  clear hmk
  go_loopw [4] (fun i wr => ∃ k : Nat, k ≤ zs.length ∧ i = .int .i64 k ∧ Blk wr w.heap.size 66 (mkR encNote [.bool false, .int .i64 0, .int .i64 0, .int .i64 0, .int .i64 0, .bool false] zs k) ∧ Below w.heap.size w wr ∧ w.heap.size < wr.heap.size) (fun i _ => zs.length - (intOf i).toNat)
  case atStart => exact ⟨0, Nat.zero_le _, rfl, Blk.new _ _ _, (Below.refl _ _).alloc (Nat.le_refl _) _, by simp⟩
  case round =>
    obtain ⟨k, hk, rfl, hb, hbel, hsz⟩ := hrel
    by_cases hlt : k < zs.length
    · obtain ⟨b, off, rfl, hbB, hc0, hc1, hc2, hc3, hc4, hc5⟩ := (RdNote.below hr hbel (Nat.le_refl _)).at_ hlt
      have HB := Lib.hid hb; have HR := Lib.hid hr; have HL := Lib.hid hbel; clear hb hr hbel
      have HST := Lib.hid (mkR_set (z0 := [.bool false, .int .i64 0, .int .i64 0, .int .i64 0, .int .i64 0, .bool false]) encNote_len rfl zs k hlt)
      have HZ := Lib.hid (glNote_get hlt)
      have hkl : (k : Int) < (zs.length : Int) := by omega
      go_wp2_with fail
      refine (laws_toNote (glNote zs k) wr).mono ?_
      rintro e w2 ⟨rfl, b2⟩
      have z2 := b2.size
      have hK := HB.out.below b2 hsz
      have hcell0 := (hK.cell (k * 6)).trans (mkR_at encNote_len rfl zs k 0 hlt (by decide))
      have hfro0 := hK.frozen (k * 6)
      have hcell1 := (hK.cell (k * 6 + 1)).trans (mkR_at encNote_len rfl zs k 1 hlt (by decide))
      have hfro1 := hK.frozen (k * 6 + 1)
      have hcell2 := (hK.cell (k * 6 + 2)).trans (mkR_at encNote_len rfl zs k 2 hlt (by decide))
      have hfro2 := hK.frozen (k * 6 + 2)
      have hcell3 := (hK.cell (k * 6 + 3)).trans (mkR_at encNote_len rfl zs k 3 hlt (by decide))
      have hfro3 := hK.frozen (k * 6 + 3)
      have hcell4 := (hK.cell (k * 6 + 4)).trans (mkR_at encNote_len rfl zs k 4 hlt (by decide))
      have hfro4 := hK.frozen (k * 6 + 4)
      have hcell5 := (hK.cell (k * 6 + 5)).trans (mkR_at encNote_len rfl zs k 5 hlt (by decide))
      have hfro5 := hK.frozen (k * 6 + 5)
      have HK := Lib.hid hK; have B2 := Lib.hid b2; clear b2 hK
      have hnz : wr.heap.size ≤ w2.heap.size := z2
      go_wp2
      go_roundw
      case rel => exact ⟨k + 1, by omega, by go_num, by
        rw [← HST.out, HZ.out]
        exact ((((((HK.out.set_ (k * 6) _).set_ (k * 6 + 1) _).set_ (k * 6 + 2) _).set_ (k * 6 + 3) _).set_ (k * 6 + 4) _).set_ (k * 6 + 5) _), (((((((HL.out.trans (B2.out.mono (by omega))).setCell (Nat.le_refl _) _).setCell (Nat.le_refl _) _).setCell (Nat.le_refl _) _).setCell (Nat.le_refl _) _).setCell (Nat.le_refl _) _).setCell (Nat.le_refl _) _), by simp [World.setCell]; omega⟩
      case measure => simp [intOf]; omega
    · obtain rfl : k = zs.length := by omega
      have HB := Lib.hid hb; have HL := Lib.hid hbel; clear hb hbel hr
      go_wp2
      go_ret
      have ho := HB.out.own (size := 6) (n := zs.length) (Nat.le_refl _) (by unfold maxLen; omega) (by rw [mkR_size (s := 6) encNote_len rfl _ _ (Nat.le_refl _)])
      rw [mkR_all] at ho
      exact ⟨_, _, rfl, ho, HL.out⟩
theorem laws_eqNote (x y : Bool × Int × Int × Int × Int × Bool) (w : World) : Calls Tryd.prog 66 #[.agg #[.bool (x.1), .int .i64 (x.2.1), .int .i64 (x.2.2.1), .int .i64 (x.2.2.2.1), .int .i64 (x.2.2.2.2.1), .bool (x.2.2.2.2.2)], .agg #[.bool (y.1), .int .i64 (y.2.1), .int .i64 (y.2.2.1), .int .i64 (y.2.2.2.1), .int .i64 (y.2.2.2.2.1), .bool (y.2.2.2.2.2)]] w (RetB w (eqbNote x y)) := by
  obtain ⟨x0, x1, x2, x3, x4, x5⟩ := x
  obtain ⟨y0, y1, y2, y3, y4, y5⟩ := y
  dsimp only
  have hall : ∀ b : Bool, b = eqbNote ((x0, x1, x2, x3, x4, x5) : Bool × Int × Int × Int × Int × Bool) (y0, y1, y2, y3, y4, y5) → eqbNote ((x0, x1, x2, x3, x4, x5) : Bool × Int × Int × Int × Int × Bool) (y0, y1, y2, y3, y4, y5) = b := fun b h => h.symm
  have hb : eqbNote ((x0, x1, x2, x3, x4, x5) : Bool × Int × Int × Int × Int × Bool) (y0, y1, y2, y3, y4, y5) = ((x0 == y0) && (eqP3 x1 x2 x3 y1 y2 y3 && ((x4 == y4) && (x5 == y5)))) := by
    rw [Bool.eq_iff_iff]; simp [eqbNote, eqP3, and_assoc]
  rw [hb]
  clear hb hall
  cases x0 <;> cases y0
  case false.true => go_enter Tryd.func66, Tryd.ntmps66; go_wp2; go_ret; exact ⟨rfl, by (repeat (first | exact Below.refl _ _ | refine Below.alloc ?_ (by simp; try omega) _ | refine below_drewN ?_ _ | refine Below.drew ?_))⟩
  case true.false => go_enter Tryd.func66, Tryd.ntmps66; go_wp2; go_ret; exact ⟨rfl, by (repeat (first | exact Below.refl _ _ | refine Below.alloc ?_ (by simp; try omega) _ | refine below_drewN ?_ _ | refine Below.drew ?_))⟩
  all_goals
    cases hp : eqP3 x1 x2 x3 y1 y2 y3
    · go_enter Tryd.func66, Tryd.ntmps66
      go_wp2_with fail
      refine (laws_eqPitch x1 x2 x3 y1 y2 y3 _).mono ?_
      rw [hp]
      rintro e w1 ⟨rfl, b1⟩
      have HB := Lib.hid b1; clear b1
      go_wp2
      go_ret
      exact ⟨rfl, (((Below.refl _ _).alloc (Nat.le_refl _) _).alloc (by simp) _).trans (HB.out.mono (by simp; omega))⟩
    cases ht : (x4 == y4)
    · have ht2 : (x4 != y4) = true := by simpa [bne] using ht
      go_enter Tryd.func66, Tryd.ntmps66
      go_wp2_with fail
      refine (laws_eqPitch x1 x2 x3 y1 y2 y3 _).mono ?_
      rw [hp]
      rintro e w1 ⟨rfl, b1⟩
      have hq := below_cells b1
      have hz := b1.size
      simp only [World.size_alloc] at hz
      have HB := Lib.hid b1; clear b1
      go_wp2
      go_ret
      exact ⟨rfl, (((Below.refl _ _).alloc (Nat.le_refl _) _).alloc (by simp) _).trans (HB.out.mono (by simp; omega))⟩
    have ht2 : (x4 != y4) = false := by simpa [bne] using ht
    cases x5 <;> cases y5
    all_goals
      go_enter Tryd.func66, Tryd.ntmps66
      go_wp2_with fail
      refine (laws_eqPitch x1 x2 x3 y1 y2 y3 _).mono ?_
      rw [hp]
      rintro e w1 ⟨rfl, b1⟩
      have hq := below_cells b1
      have hz := b1.size
      simp only [World.size_alloc] at hz
      have HB := Lib.hid b1; clear b1
      go_wp2
      go_ret
      exact ⟨rfl, (((Below.refl _ _).alloc (Nat.le_refl _) _).alloc (by simp) _).trans (HB.out.mono (by simp; omega))⟩
set_option maxHeartbeats 2000000 in
theorem laws_eqNoteS (A C : Option Addr) (c d : Nat) (xs ys : List (Bool × Int × Int × Int × Int × Bool)) (w : World) (hx : RdNote w w.heap.size A xs) (hy : RdNote w w.heap.size C ys) (hl : xs.length ≤ 1048576) (hl2 : ys.length ≤ 1048576) :
    Calls Tryd.prog 49 #[.slice A xs.length c, .slice C ys.length d] w (RetB w (sameNote xs ys)) := by
  by_cases hne : xs.length = ys.length
  · have hb0 : ((xs.length : Int) != (ys.length : Int)) = false := by simp [hne]
    have HN := Lib.hid hne
    clear hne
    go_enter Tryd.func49, Tryd.ntmps49
    go_wp2
    go_loopw [5] (fun i wr => ∃ k : Nat, k ≤ xs.length ∧ i = .int .i64 k ∧ xs.take k = ys.take k ∧ Below w.heap.size w wr) (fun i _ => xs.length - (intOf i).toNat)
    case atStart => exact ⟨0, Nat.zero_le _, rfl, by simp, Below.refl _ _⟩
    case round =>
      obtain ⟨k, hk, rfl, ht, hbel⟩ := hrel
      have HT := Lib.hid ht; have HB := Lib.hid hbel; clear ht
      have hz := hbel.size
      by_cases hlt : k < xs.length
      · have hlt2 : k < ys.length := by have := HN.out; omega
        obtain ⟨b, off, rfl, hbB, hc0, hc1, hc2, hc3, hc4, hc5⟩ := (hx.below hbel (Nat.le_refl _)).at_ hlt
        obtain ⟨b', off', rfl, hbB', hd0, hd1, hd2, hd3, hd4, hd5⟩ := (hy.below hbel (Nat.le_refl _)).at_ hlt2
        have HS := Lib.hid (take_succ_Note hlt); have HS2 := Lib.hid (take_succ_Note hlt2); have HNE := Lib.hid (fun h => take_ne_Note hlt hlt2 h)
        generalize glNote xs k = x at *
        generalize glNote ys k = y at *
        have hi1 : (k : Int) < (xs.length : Int) := by omega
        have hi2 : (k : Int) < (ys.length : Int) := by omega
        have sd : wr.drew.heap.size = wr.heap.size := rfl
        clear hx hy hbel
        go_wp2_with fail
        go_region_held3 (fun w' => w'.cell? ⟨b, off + k * 6, none⟩ = some (.bool (x.1)) ∧ w'.cell? ⟨b, off + k * 6 + 1, none⟩ = some (.int .i64 (x.2.1)) ∧ w'.cell? ⟨b, off + k * 6 + 2, none⟩ = some (.int .i64 (x.2.2.1)) ∧ w'.cell? ⟨b, off + k * 6 + 3, none⟩ = some (.int .i64 (x.2.2.2.1)) ∧ w'.cell? ⟨b, off + k * 6 + 4, none⟩ = some (.int .i64 (x.2.2.2.2.1)) ∧ w'.cell? ⟨b, off + k * 6 + 5, none⟩ = some (.bool (x.2.2.2.2.2)) ∧ w'.cell? ⟨b', off' + k * 6, none⟩ = some (.bool (y.1)) ∧ w'.cell? ⟨b', off' + k * 6 + 1, none⟩ = some (.int .i64 (y.2.1)) ∧ w'.cell? ⟨b', off' + k * 6 + 2, none⟩ = some (.int .i64 (y.2.2.1)) ∧ w'.cell? ⟨b', off' + k * 6 + 3, none⟩ = some (.int .i64 (y.2.2.2.1)) ∧ w'.cell? ⟨b', off' + k * 6 + 4, none⟩ = some (.int .i64 (y.2.2.2.2.1)) ∧ w'.cell? ⟨b', off' + k * 6 + 5, none⟩ = some (.bool (y.2.2.2.2.2))) (first | exact ⟨hc0, hc1, hc2, hc3, hc4, hc5, hd0, hd1, hd2, hd3, hd4, hd5⟩ | exact ⟨(b1.cell (p := ⟨b, off + k * 6, none⟩) (by simp; omega)).trans hc0, (b1.cell (p := ⟨b, off + k * 6 + 1, none⟩) (by simp; omega)).trans hc1, (b1.cell (p := ⟨b, off + k * 6 + 2, none⟩) (by simp; omega)).trans hc2, (b1.cell (p := ⟨b, off + k * 6 + 3, none⟩) (by simp; omega)).trans hc3, (b1.cell (p := ⟨b, off + k * 6 + 4, none⟩) (by simp; omega)).trans hc4, (b1.cell (p := ⟨b, off + k * 6 + 5, none⟩) (by simp; omega)).trans hc5, (b1.cell (p := ⟨b', off' + k * 6, none⟩) (by simp; omega)).trans hd0, (b1.cell (p := ⟨b', off' + k * 6 + 1, none⟩) (by simp; omega)).trans hd1, (b1.cell (p := ⟨b', off' + k * 6 + 2, none⟩) (by simp; omega)).trans hd2, (b1.cell (p := ⟨b', off' + k * 6 + 3, none⟩) (by simp; omega)).trans hd3, (b1.cell (p := ⟨b', off' + k * 6 + 4, none⟩) (by simp; omega)).trans hd4, (b1.cell (p := ⟨b', off' + k * 6 + 5, none⟩) (by simp; omega)).trans hd5⟩) (first | (go_at_call 66; refine (laws_eqNote x y _).mono ?_; rintro e w1 ⟨rfl, b1⟩; have z1 : wr.heap.size ≤ w1.heap.size := b1.size))
        have HB1 := Lib.hid (HB.out.trans ((below_drew_left b1).mono (by simp; omega)))
        clear b1
        cases he : eqbNote x y
        · have HE := Lib.hid (show x ≠ y by simpa [eqbNote] using he)
          go_wp2
          go_ret
          exact ⟨ret_bool (by rw [HNE.out HE.out]), HB1.out⟩
        · have HE := Lib.hid (show x = y by simpa [eqbNote] using he)
          go_wp2
          go_roundw
          case rel => exact ⟨k + 1, by omega, by go_num, by rw [HS.out, HS2.out, HT.out, HE.out], HB1.out⟩
          case measure => simp [intOf]; omega
      · obtain rfl : k = xs.length := by omega
        clear hx hy hbel
        go_wp2
        go_ret
        have e : xs = ys := by
          have := HT.out
          rw [List.take_of_length_le (Nat.le_refl _), List.take_of_length_le (by have := HN.out; omega)] at this
          exact this
        exact ⟨ret_bool (by simp [sameNote, e]), HB.out⟩
  · have hb0 : ((xs.length : Int) != (ys.length : Int)) = true := by simp; omega
    go_enter Tryd.func49, Tryd.ntmps49
    go_wp2
    go_ret
    exact ⟨ret_bool (by
      have : sameNote xs ys = false := by
        simp only [sameNote, decide_eq_false_iff_not]
        rintro rfl
        exact hne rfl
      rw [this]), Below.refl _ _⟩
/-- k, k + 1, .. -/
def upNote (k : Int) (n : Nat) : List (Bool × Int × Int × Int × Int × Bool) := (List.range n).map fun (j : Nat) => (((k + 6 * (j : Int)) % 3 == 0), k + 6 * (j : Int) + 1, k + 6 * (j : Int) + 1 + 1, k + 6 * (j : Int) + 1 + 1 + 1, k + 6 * (j : Int) + 1 + 1 + 1 + 1, ((k + 6 * (j : Int) + 1 + 1 + 1 + 1 + 1) % 3 == 0))
theorem upNote_length (k : Int) (n : Nat) : (upNote k n).length = n := by simp [upNote]
theorem upNote_at (k : Int) (n j : Nat) (h : j < n) : glNote (upNote k n) j = (((k + 6 * (j : Int)) % 3 == 0), k + 6 * (j : Int) + 1, k + 6 * (j : Int) + 1 + 1, k + 6 * (j : Int) + 1 + 1 + 1, k + 6 * (j : Int) + 1 + 1 + 1 + 1, ((k + 6 * (j : Int) + 1 + 1 + 1 + 1 + 1) % 3 == 0)) := by simp [glNote, upNote, h]
theorem upNote_succ (k : Int) (n : Nat) : upNote k (n + 1) = upNote k n ++ [(((k + 6 * (n : Int)) % 3 == 0), k + 6 * (n : Int) + 1, k + 6 * (n : Int) + 1 + 1, k + 6 * (n : Int) + 1 + 1 + 1, k + 6 * (n : Int) + 1 + 1 + 1 + 1, ((k + 6 * (n : Int) + 1 + 1 + 1 + 1 + 1) % 3 == 0))] := by simp [upNote, List.range_succ]
def setUpNote (cur : Array Value) (k : Int) (j : Nat) : Array Value := (fl encNote (upNote k j) ++ cur.toList.drop (j * 6)).toArray
theorem setUpNote_zero (cur : Array Value) (k : Int) : setUpNote cur k 0 = cur := by simp [setUpNote, upNote, fl]
theorem setUpNote_size (cur : Array Value) (k : Int) (j : Nat) (h : j * 6 ≤ cur.size) : (setUpNote cur k j).size = cur.size := by
  simp only [setUpNote, List.size_toArray, List.length_append, List.length_drop, Array.length_toList]
  rw [fl_length encNote_len, upNote_length]; omega
theorem setUpNote_at (cur : Array Value) (k : Int) (j i : Nat) (h : j * 6 + i < cur.size) : ∃ u, (setUpNote cur k j)[j * 6 + i]? = some u := ⟨_, Array.getElem?_eq_getElem (by rw [setUpNote_size _ _ _ (by omega)]; exact h)⟩
theorem setUpNote_set (cur : Array Value) (k : Int) (j : Nat) (h : j * 6 + 6 ≤ cur.size) : setR (setUpNote cur k j) (j * 6) [.bool (((k + 6 * (j : Int)) % 3 == 0)), .int .i64 (k + 6 * (j : Int) + 1), .int .i64 (k + 6 * (j : Int) + 1 + 1), .int .i64 (k + 6 * (j : Int) + 1 + 1 + 1), .int .i64 (k + 6 * (j : Int) + 1 + 1 + 1 + 1), .bool (((k + 6 * (j : Int) + 1 + 1 + 1 + 1 + 1) % 3 == 0))] = setUpNote cur k (j + 1) := by
  have e : cur.toList.drop (j * 6) = (cur.toList.drop (j * 6)).take 6 ++ cur.toList.drop ((j + 1) * 6) := by
    rw [show (j + 1) * 6 = j * 6 + 6 by omega, ← List.drop_drop, List.take_append_drop]
  have hl : (fl encNote (upNote k j)).length = j * 6 := by rw [fl_length encNote_len, upNote_length]
  unfold setUpNote
  rw [e, ← List.append_assoc, setR_mid _ _ _ _ _ hl.symm (by simp; omega), upNote_succ, fl_append, fl_one]
  rfl
theorem Blk.setsNote {w : World} {g : Nat} {t : TypeId} {cs : Array Value} (h : Blk w g t cs) (p : Nat) (v0 v1 v2 v3 v4 v5 : Value) : Blk ((((((w.setCell ⟨g, p, none⟩ v0).setCell ⟨g, p + 1, none⟩ v1).setCell ⟨g, p + 1 + 1, none⟩ v2).setCell ⟨g, p + 1 + 2, none⟩ v3).setCell ⟨g, p + 4, none⟩ v4).setCell ⟨g, p + 5, none⟩ v5) g t (setR cs p [v0, v1, v2, v3, v4, v5]) := by
  simp only [setR]
  exact ((((((h.set_ (p) _).set_ (p + 1) _).set_ (p + 2) _).set_ (p + 3) _).set_ (p + 4) _).set_ (p + 5) _)
theorem only_setsNote {a w : World} {g : Nat} (h : a.grownBy w (some g)) (p : Nat) (v0 v1 v2 v3 v4 v5 : Value) : a.grownBy ((((((w.setCell ⟨g, p, none⟩ v0).setCell ⟨g, p + 1, none⟩ v1).setCell ⟨g, p + 1 + 1, none⟩ v2).setCell ⟨g, p + 1 + 2, none⟩ v3).setCell ⟨g, p + 4, none⟩ v4).setCell ⟨g, p + 5, none⟩ v5) (some g) := (only_setCell (only_setCell (only_setCell (only_setCell (only_setCell (only_setCell h (.inl rfl) _) (.inl rfl) _) (.inl rfl) _) (.inl rfl) _) (.inl rfl) _) (.inl rfl) _)
theorem laws_szNoteS (A : Option Addr) (c n : Nat) (l : Int) (w : World) (hl : (n : Int) ≤ l) (h2 : l ≤ 1048576) :
    Calls Tryd.prog 26 #[.slice A n c, .int .i64 l] w fun e w' => e = .returned (.int .i64 (l - n)) ∧ Below w.heap.size w w' := by
  have hd : decide (l - (n : Int) < 0) = false := decide_eq_false (by omega)
  go_enter Tryd.func26, Tryd.ntmps26
  go_wp2
  go_ret
  exact ⟨rfl, Below.refl _ _⟩
theorem laws_szNoteS_no (A : Option Addr) (c n : Nat) (l : Int) (w : World) (hl : l < (n : Int)) (h0 : 0 ≤ l) (h2 : n ≤ 9223372036854775807) :
    Calls Tryd.prog 26 #[.slice A n c, .int .i64 l] w fun e w' => e = .returned (.int .i64 (-1)) ∧ Below w.heap.size w w' := by
  have hd : decide (l - (n : Int) < 0) = true := decide_eq_true (by omega)
  have hw : IntKind.i64.wrap (l - (n : Int)) = l - (n : Int) := IntWalk.i64_in _ (by omega)
  go_enter Tryd.func26, Tryd.ntmps26
  go_wp2
  go_ret
  exact ⟨rfl, Below.refl _ _⟩
end Go.Proofs.YtopdgkhmeglflaaDoor
