/- Contracts of the helpers of the exact laws on slices of Tempo: copy, compare, write, look. Conditions: lengths at most 2^20 where memory is made. -/
import Derived.Test.YtopdgkhmeglflaaDoorRecs
import Derived.Test.YtopdgkhmeglflaaDoorMrg1
import Derived.Deep.RegionHeld3
namespace Go.Proofs.YtopdgkhmeglflaaDoor
open Go.RowKit
set_option linter.unusedSimpArgs false
set_option linter.unusedVariables false
/-- a record of 2 ints -/
def encTempo (z : Int × Int) : List Value := [.int .i64 (z.1), .int .i64 (z.2)]
theorem encTempo_len (z : Int × Int) : (encTempo z).length = 2 := rfl
def RdTempo (w : World) (B : Nat) (A : Option Addr) (zs : List (Int × Int)) : Prop := RdR encTempo 2 w B A zs
def glTempo (zs : List (Int × Int)) (k : Nat) : Int × Int := zs.getD k (0, 0)
theorem glTempo_get {zs : List (Int × Int)} {k : Nat} (h : k < zs.length) : zs[k] = glTempo zs k := by simp [glTempo, h]
theorem RdTempo.at_ {w : World} {B : Nat} {A : Option Addr} {zs : List (Int × Int)} {k : Nat} (h : RdTempo w B A zs) (hk : k < zs.length) :
    ∃ b off, A = some ⟨b, off, none⟩ ∧ b < B ∧ w.cell? ⟨b, off + k * 2, none⟩ = some (.int .i64 ((glTempo zs k).1)) ∧ w.cell? ⟨b, off + k * 2 + 1, none⟩ = some (.int .i64 ((glTempo zs k).2)) := by
  obtain ⟨b, off, e, hb, hc⟩ := RdR.at_ encTempo_len h hk
  rw [glTempo_get hk] at hc
  exact ⟨b, off, e, hb, hc 0 _ rfl, hc 1 _ rfl⟩
theorem RdTempo.below {w w' : World} {B C : Nat} {A : Option Addr} {zs : List (Int × Int)} (h : RdTempo w B A zs) (hb : Below C w w') (hB : B ≤ C) : RdTempo w' B A zs := RdR.below h hb hB
theorem RdTempo.more {w : World} {B C : Nat} {A : Option Addr} {zs : List (Int × Int)} (h : RdTempo w B A zs) (hB : B ≤ C) : RdTempo w C A zs := RdR.more h hB
theorem RdTempo.drewN {w : World} {B : Nat} {A : Option Addr} {zs : List (Int × Int)} (h : RdTempo w B A zs) (k : Nat) : RdTempo (w.drewN k) B A zs := h
theorem RdTempo.al {w : World} {B : Nat} {A : Option Addr} {zs : List (Int × Int)} (h : RdTempo w B A zs) (hB : B ≤ w.heap.size) (o : Obj) : RdTempo (w.alloc o) B A zs := RdR.al h hB o
theorem RdTempo.far {w w' : World} {B lo' hi' E' size' c' n' : Nat} {A A' : Option Addr} {xs' : List Value} {zs : List (Int × Int)} (h : RdTempo w B A zs) (h' : Row w lo' hi' E' size' A' c' n' xs')
    (hg : w.grownBy w' (Value.slice A' n' c').ownBlock) (hw : B ≤ w.heap.size) (hd : B ≤ lo') : RdTempo w' B A zs := RdR.far h h' hg hw hd
theorem Row.rdTempo {w : World} {lo hi E c : Nat} {A : Option Addr} {zs : List (Int × Int)} (h : Row w lo hi E 2 A c zs.length (fl encTempo zs)) : RdTempo w hi A zs := h.rdR
def eqbTempo (x y : Int × Int) : Bool := decide (x = y)
def sameTempo (xs ys : List (Int × Int)) : Bool := decide (xs = ys)
theorem sameTempo_refl (a : List (Int × Int)) : sameTempo a a = true := by simp [sameTempo]
theorem take_succ_Tempo {zs : List (Int × Int)} {k : Nat} (h : k < zs.length) : zs.take (k + 1) = zs.take k ++ [glTempo zs k] := by rw [List.take_succ_eq_append_getElem h, glTempo_get h]
theorem take_ne_Tempo {xs ys : List (Int × Int)} {k : Nat} (h : k < xs.length) (h' : k < ys.length) (hne : glTempo xs k ≠ glTempo ys k) : sameTempo xs ys = false := by
  simp only [sameTempo, decide_eq_false_iff_not]
  rintro rfl
  exact hne rfl
theorem infoTempo : (Tryd.prog.info? 72).map (fun i => (i.zero, i.size, i.bytes)) = some (some (Value.agg #[Value.int .i64 0, Value.int .i64 0]), 2, 16) := by kernel_rfl

theorem laws_toTempo (z : Int × Int) (w : World) : Calls Tryd.prog 35 #[.agg #[.int .i64 (z.1), .int .i64 (z.2)]] w fun e w' => e = .returned (.agg #[.int .i64 (z.1), .int .i64 (z.2)]) ∧ Below w.heap.size w w' := by
  obtain ⟨z0, z1⟩ := z
  dsimp only
  go_enter Tryd.func35, Tryd.ntmps35
  go_wp2
  refine bodyPost_ret (v := .agg #[.int .i64 (z0), .int .i64 (z1)]) (by simp [results, Tryd.results35, go_sem]) rfl ⟨rfl, ?_⟩
  repeat (first | exact Below.refl _ _ | refine Below.setCell ?_ (by simp; try omega) _ | refine Below.alloc ?_ (by simp; try omega) _)
set_option maxHeartbeats 2000000 in
theorem laws_toTempoS (A : Option Addr) (c : Nat) (zs : List (Int × Int)) (w : World) (hr : RdTempo w w.heap.size A zs) (hl : zs.length ≤ 1048576) :
    Calls Tryd.prog 19 #[.slice A zs.length c] w (RetRow w 72 2 zs.length (fl encTempo zs)) := by
  obtain ⟨i0, hi, hz0, hz1, hz2⟩ := info_parts infoTempo
  have hmk := fun W => run_make_rowN (P := Tryd.prog) 31 72 i0 (.agg #[Value.int .i64 0, Value.int .i64 0]) Tryd.underlying31 hi hz0 .i64 .i64 zs.length zs.length (Nat.le_refl _) (by rw [hz2]; omega) (by omega) W
  have hmz : madeCells (Value.cells (.agg #[Value.int .i64 0, Value.int .i64 0])) (zs.length * 2) = mkR encTempo [.int .i64 0, .int .i64 0] zs 0 := mkR_none (s := 2) #[Value.int .i64 0, Value.int .i64 0] zs rfl (by decide)
  rw [hz1, hmz] at hmk
  have HI := Lib.hid hi; clear hi hz0 hz1 hz2 hmz
  go_enter Tryd.func19, Tryd.ntmps19
  go_wp2
  clear hmk
  go_loopw [4] (fun i wr => ∃ k : Nat, k ≤ zs.length ∧ i = .int .i64 k ∧ Blk wr w.heap.size 72 (mkR encTempo [.int .i64 0, .int .i64 0] zs k) ∧ Below w.heap.size w wr ∧ w.heap.size < wr.heap.size) (fun i _ => zs.length - (intOf i).toNat)
  case atStart => exact ⟨0, Nat.zero_le _, rfl, Blk.new _ _ _, (Below.refl _ _).alloc (Nat.le_refl _) _, by simp⟩
  case round =>
    obtain ⟨k, hk, rfl, hb, hbel, hsz⟩ := hrel
    by_cases hlt : k < zs.length
    · obtain ⟨b, off, rfl, hbB, hc0, hc1⟩ := (RdTempo.below hr hbel (Nat.le_refl _)).at_ hlt
      have HB := Lib.hid hb; have HR := Lib.hid hr; have HL := Lib.hid hbel; clear hb hr hbel
      have HST := Lib.hid (mkR_set (z0 := [.int .i64 0, .int .i64 0]) encTempo_len rfl zs k hlt)
      have HZ := Lib.hid (glTempo_get hlt)
      have hkl : (k : Int) < (zs.length : Int) := by omega
      go_wp2_with fail
      refine (laws_toTempo (glTempo zs k) wr).mono ?_
      rintro e w2 ⟨rfl, b2⟩
      have z2 := b2.size
      have hK := HB.out.below b2 hsz
      have hcell0 := (hK.cell (k * 2)).trans (mkR_at encTempo_len rfl zs k 0 hlt (by decide))
      have hfro0 := hK.frozen (k * 2)
      have hcell1 := (hK.cell (k * 2 + 1)).trans (mkR_at encTempo_len rfl zs k 1 hlt (by decide))
      have hfro1 := hK.frozen (k * 2 + 1)
      have HK := Lib.hid hK; have B2 := Lib.hid b2; clear b2 hK
      have hnz : wr.heap.size ≤ w2.heap.size := z2
      go_wp2
      go_roundw
      case rel => exact ⟨k + 1, by omega, by go_num, by
        rw [← HST.out, HZ.out]
        exact ((HK.out.set_ (k * 2) _).set_ (k * 2 + 1) _), (((HL.out.trans (B2.out.mono (by omega))).setCell (Nat.le_refl _) _).setCell (Nat.le_refl _) _), by simp [World.setCell]; omega⟩
      case measure => simp [intOf]; omega
    · obtain rfl : k = zs.length := by omega
      have HB := Lib.hid hb; have HL := Lib.hid hbel; clear hb hbel hr
      go_wp2
      go_ret
      have ho := HB.out.own (size := 2) (n := zs.length) (Nat.le_refl _) (by unfold maxLen; omega) (by rw [mkR_size (s := 2) encTempo_len rfl _ _ (Nat.le_refl _)])
      rw [mkR_all] at ho
      exact ⟨_, _, rfl, ho, HL.out⟩
theorem laws_eqTempo (x y : Int × Int) (w : World) : Calls Tryd.prog 48 #[.agg #[.int .i64 (x.1), .int .i64 (x.2)], .agg #[.int .i64 (y.1), .int .i64 (y.2)]] w (RetB w (eqbTempo x y)) := by
  obtain ⟨x0, x1⟩ := x
  obtain ⟨y0, y1⟩ := y
  dsimp only
  by_cases h0 : x0 = y0
  case neg =>
    have e0 : (x0 != y0) = true := by simp [h0]
    have hfin : Hid (eqbTempo ((x0, x1) : Int × Int) (y0, y1) = false) := by unfold Hid eqbTempo; simp [h0]
    clear h0
    go_enter Tryd.func48, Tryd.ntmps48
    go_wp2
    go_ret
    exact ⟨ret_bool hfin.out.symm, by (repeat (first | exact Below.refl _ _ | refine Below.alloc ?_ (by simp; try omega) _ | refine below_drewN ?_ _ | refine Below.drew ?_))⟩
  subst h0
  have e0 : (x0 != x0) = false := by simp
  by_cases h1 : x1 = y1
  case neg =>
    have e1 : (x1 != y1) = true := by simp [h1]
    have hfin : Hid (eqbTempo ((x0, x1) : Int × Int) (x0, y1) = false) := by unfold Hid eqbTempo; simp [h1]
    clear h1
    go_enter Tryd.func48, Tryd.ntmps48
    go_wp2
    go_ret
    exact ⟨ret_bool hfin.out.symm, by (repeat (first | exact Below.refl _ _ | refine Below.alloc ?_ (by simp; try omega) _ | refine below_drewN ?_ _ | refine Below.drew ?_))⟩
  subst h1
  have e1 : (x1 != x1) = false := by simp
  have hfin : Hid (eqbTempo ((x0, x1) : Int × Int) (x0, x1) = true) := by unfold Hid eqbTempo; simp
  go_enter Tryd.func48, Tryd.ntmps48
  go_wp2
  go_ret
  exact ⟨ret_bool hfin.out.symm, by (repeat (first | exact Below.refl _ _ | refine Below.alloc ?_ (by simp; try omega) _ | refine below_drewN ?_ _ | refine Below.drew ?_))⟩
set_option maxHeartbeats 2000000 in
theorem laws_eqTempoS (A C : Option Addr) (c d : Nat) (xs ys : List (Int × Int)) (w : World) (hx : RdTempo w w.heap.size A xs) (hy : RdTempo w w.heap.size C ys) (hl : xs.length ≤ 1048576) (hl2 : ys.length ≤ 1048576) :
    Calls Tryd.prog 24 #[.slice A xs.length c, .slice C ys.length d] w (RetB w (sameTempo xs ys)) := by
  by_cases hne : xs.length = ys.length
  · have hb0 : ((xs.length : Int) != (ys.length : Int)) = false := by simp [hne]
    have HN := Lib.hid hne
    clear hne
    go_enter Tryd.func24, Tryd.ntmps24
    go_wp2
    go_loopw [5] (fun i wr => ∃ k : Nat, k ≤ xs.length ∧ i = .int .i64 k ∧ xs.take k = ys.take k ∧ Below w.heap.size w wr) (fun i _ => xs.length - (intOf i).toNat)
    case atStart => exact ⟨0, Nat.zero_le _, rfl, by simp, Below.refl _ _⟩
    case round =>
      obtain ⟨k, hk, rfl, ht, hbel⟩ := hrel
      have HT := Lib.hid ht; have HB := Lib.hid hbel; clear ht
      have hz := hbel.size
      by_cases hlt : k < xs.length
      · have hlt2 : k < ys.length := by have := HN.out; omega
        obtain ⟨b, off, rfl, hbB, hc0, hc1⟩ := (hx.below hbel (Nat.le_refl _)).at_ hlt
        obtain ⟨b', off', rfl, hbB', hd0, hd1⟩ := (hy.below hbel (Nat.le_refl _)).at_ hlt2
        have HS := Lib.hid (take_succ_Tempo hlt); have HS2 := Lib.hid (take_succ_Tempo hlt2); have HNE := Lib.hid (fun h => take_ne_Tempo hlt hlt2 h)
        generalize glTempo xs k = x at *
        generalize glTempo ys k = y at *
        have hi1 : (k : Int) < (xs.length : Int) := by omega
        have hi2 : (k : Int) < (ys.length : Int) := by omega
        have sd : wr.drew.heap.size = wr.heap.size := rfl
        clear hx hy hbel
        go_wp2_with fail
        go_region_held3 (fun w' => w'.cell? ⟨b, off + k * 2, none⟩ = some (.int .i64 (x.1)) ∧ w'.cell? ⟨b, off + k * 2 + 1, none⟩ = some (.int .i64 (x.2)) ∧ w'.cell? ⟨b', off' + k * 2, none⟩ = some (.int .i64 (y.1)) ∧ w'.cell? ⟨b', off' + k * 2 + 1, none⟩ = some (.int .i64 (y.2))) (first | exact ⟨hc0, hc1, hd0, hd1⟩ | exact ⟨(b1.cell (p := ⟨b, off + k * 2, none⟩) (by simp; omega)).trans hc0, (b1.cell (p := ⟨b, off + k * 2 + 1, none⟩) (by simp; omega)).trans hc1, (b1.cell (p := ⟨b', off' + k * 2, none⟩) (by simp; omega)).trans hd0, (b1.cell (p := ⟨b', off' + k * 2 + 1, none⟩) (by simp; omega)).trans hd1⟩) (first | (go_at_call 48; refine (laws_eqTempo x y _).mono ?_; rintro e w1 ⟨rfl, b1⟩; have z1 : wr.heap.size ≤ w1.heap.size := b1.size))
        have HB1 := Lib.hid (HB.out.trans ((below_drew_left b1).mono (by simp; omega)))
        clear b1
        cases he : eqbTempo x y
        · have HE := Lib.hid (show x ≠ y by simpa [eqbTempo] using he)
          go_wp2
          go_ret
          exact ⟨ret_bool (by rw [HNE.out HE.out]), HB1.out⟩
        · have HE := Lib.hid (show x = y by simpa [eqbTempo] using he)
          go_wp2
          go_roundw
          case rel => exact ⟨k + 1, by omega, by go_num, by rw [HS.out, HS2.out, HT.out, HE.out], HB1.out⟩
          case measure => simp [intOf]; omega
      · obtain rfl : k = xs.length := by omega
        clear hx hy hbel
        go_wp2
        go_ret
        have e : xs = ys := by
          have := HT.out
          rw [List.take_of_length_le (Nat.le_refl _), List.take_of_length_le (by have := HN.out; omega)] at this
          exact this
        exact ⟨ret_bool (by simp [sameTempo, e]), HB.out⟩
  · have hb0 : ((xs.length : Int) != (ys.length : Int)) = true := by simp; omega
    go_enter Tryd.func24, Tryd.ntmps24
    go_wp2
    go_ret
    exact ⟨ret_bool (by
      have : sameTempo xs ys = false := by
        simp only [sameTempo, decide_eq_false_iff_not]
        rintro rfl
        exact hne rfl
      rw [this]), Below.refl _ _⟩
/-- k, k + 1, .. -/
def upTempo (k : Int) (n : Nat) : List (Int × Int) := (List.range n).map fun (j : Nat) => (k + 2 * (j : Int), k + 2 * (j : Int) + 1)
theorem upTempo_length (k : Int) (n : Nat) : (upTempo k n).length = n := by simp [upTempo]
theorem upTempo_at (k : Int) (n j : Nat) (h : j < n) : glTempo (upTempo k n) j = (k + 2 * (j : Int), k + 2 * (j : Int) + 1) := by simp [glTempo, upTempo, h]
theorem upTempo_succ (k : Int) (n : Nat) : upTempo k (n + 1) = upTempo k n ++ [(k + 2 * (n : Int), k + 2 * (n : Int) + 1)] := by simp [upTempo, List.range_succ]
def setUpTempo (cur : Array Value) (k : Int) (j : Nat) : Array Value := (fl encTempo (upTempo k j) ++ cur.toList.drop (j * 2)).toArray
theorem setUpTempo_zero (cur : Array Value) (k : Int) : setUpTempo cur k 0 = cur := by simp [setUpTempo, upTempo, fl]
theorem setUpTempo_size (cur : Array Value) (k : Int) (j : Nat) (h : j * 2 ≤ cur.size) : (setUpTempo cur k j).size = cur.size := by
  simp only [setUpTempo, List.size_toArray, List.length_append, List.length_drop, Array.length_toList]
  rw [fl_length encTempo_len, upTempo_length]; omega
theorem setUpTempo_at (cur : Array Value) (k : Int) (j i : Nat) (h : j * 2 + i < cur.size) : ∃ u, (setUpTempo cur k j)[j * 2 + i]? = some u := ⟨_, Array.getElem?_eq_getElem (by rw [setUpTempo_size _ _ _ (by omega)]; exact h)⟩
theorem setUpTempo_set (cur : Array Value) (k : Int) (j : Nat) (h : j * 2 + 2 ≤ cur.size) : setR (setUpTempo cur k j) (j * 2) [.int .i64 (k + 2 * (j : Int)), .int .i64 (k + 2 * (j : Int) + 1)] = setUpTempo cur k (j + 1) := by
  have e : cur.toList.drop (j * 2) = (cur.toList.drop (j * 2)).take 2 ++ cur.toList.drop ((j + 1) * 2) := by
    rw [show (j + 1) * 2 = j * 2 + 2 by omega, ← List.drop_drop, List.take_append_drop]
  have hl : (fl encTempo (upTempo k j)).length = j * 2 := by rw [fl_length encTempo_len, upTempo_length]
  unfold setUpTempo
  rw [e, ← List.append_assoc, setR_mid _ _ _ _ _ hl.symm (by simp; omega), upTempo_succ, fl_append, fl_one]
  rfl
theorem Blk.setsTempo {w : World} {g : Nat} {t : TypeId} {cs : Array Value} (h : Blk w g t cs) (p : Nat) (v0 v1 : Value) : Blk ((w.setCell ⟨g, p, none⟩ v0).setCell ⟨g, p + 1, none⟩ v1) g t (setR cs p [v0, v1]) := by
  simp only [setR]
  exact ((h.set_ (p) _).set_ (p + 1) _)
theorem only_setsTempo {a w : World} {g : Nat} (h : a.grownBy w (some g)) (p : Nat) (v0 v1 : Value) : a.grownBy ((w.setCell ⟨g, p, none⟩ v0).setCell ⟨g, p + 1, none⟩ v1) (some g) := (only_setCell (only_setCell h (.inl rfl) _) (.inl rfl) _)
theorem laws_szTempoS (A : Option Addr) (c n : Nat) (l : Int) (w : World) (hl : (n : Int) ≤ l) (h2 : l ≤ 1048576) :
    Calls Tryd.prog 9 #[.slice A n c, .int .i64 l] w fun e w' => e = .returned (.int .i64 (l - n)) ∧ Below w.heap.size w w' := by
  have hd : decide (l - (n : Int) < 0) = false := decide_eq_false (by omega)
  go_enter Tryd.func9, Tryd.ntmps9
  go_wp2
  go_ret
  exact ⟨rfl, Below.refl _ _⟩
theorem laws_szTempoS_no (A : Option Addr) (c n : Nat) (l : Int) (w : World) (hl : l < (n : Int)) (h0 : 0 ≤ l) (h2 : n ≤ 9223372036854775807) :
    Calls Tryd.prog 9 #[.slice A n c, .int .i64 l] w fun e w' => e = .returned (.int .i64 (-1)) ∧ Below w.heap.size w w' := by
  have hd : decide (l - (n : Int) < 0) = true := decide_eq_true (by omega)
  have hw : IntKind.i64.wrap (l - (n : Int)) = l - (n : Int) := IntWalk.i64_in _ (by omega)
  go_enter Tryd.func9, Tryd.ntmps9
  go_wp2
  go_ret
  exact ⟨rfl, Below.refl _ _⟩
end Go.Proofs.YtopdgkhmeglflaaDoor
