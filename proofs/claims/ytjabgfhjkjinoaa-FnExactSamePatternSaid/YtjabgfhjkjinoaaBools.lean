/- Contracts of the helpers of the exact laws on slices of bools and on patterns. Conditions: lengths at most 2^20 where memory is made. -/
import Derived.Test.YtjabgfhjkjinoaaNum
namespace Go.Proofs.Ytjabgfhjkjinoaa
set_option linter.unusedVariables false
open Go.RowKit

/-- the k-th bool -/
def gb (zs : List Bool) (k : Nat) : Bool := zs.getD k false
def bv (zs : List Bool) : List Value := zs.map Value.bool
def RdBo (w : World) (B : Nat) (A : Option Addr) (zs : List Bool) : Prop := Rd w B 1 A zs.length (bv zs)
theorem bv_append (a b : List Bool) : bv (a ++ b) = bv a ++ bv b := by simp [bv]
theorem bv_one (z : Bool) : bv [z] = [.bool z] := rfl
theorem gb_get {zs : List Bool} {k : Nat} (h : k < zs.length) : zs[k] = gb zs k := by simp [gb, h]
theorem gb_mem {zs : List Bool} {k : Nat} (h : k < zs.length) : gb zs k ∈ zs := by rw [← gb_get h]; exact List.getElem_mem h
theorem take_succ_gb {zs : List Bool} {k : Nat} (h : k < zs.length) : zs.take (k + 1) = zs.take k ++ [gb zs k] := by
  rw [List.take_succ_eq_append_getElem h, gb_get h]
theorem RdBo.at_ {w : World} {B : Nat} {A : Option Addr} {zs : List Bool} {k : Nat} (h : RdBo w B A zs) (hk : k < zs.length) :
    ∃ b off, A = some ⟨b, off, none⟩ ∧ b < B ∧ w.cell? ⟨b, off + k, none⟩ = some (.bool (gb zs k)) := by
  obtain ⟨b, off, u, e, hb, hx, hc⟩ := Rd.at1 h hk
  refine ⟨b, off, e, hb, ?_⟩
  rw [hc, ← hx, bv, List.getElem?_map, List.getElem?_eq_getElem hk, gb_get hk]; rfl
theorem RdBo.below {w w' : World} {B C : Nat} {A : Option Addr} {zs : List Bool} (h : RdBo w B A zs) (hb : Below C w w') (hB : B ≤ C) : RdBo w' B A zs := Rd.below h hb hB
theorem RdBo.more {w : World} {B C : Nat} {A : Option Addr} {zs : List Bool} (h : RdBo w B A zs) (hB : B ≤ C) : RdBo w C A zs := Rd.more h hB
theorem RdBo.drew {w : World} {B : Nat} {A : Option Addr} {zs : List Bool} (h : RdBo w B A zs) : RdBo w.drew B A zs := h
theorem RdBo.far {w w' : World} {B lo' hi' E' size' c' n' : Nat} {A A' : Option Addr} {xs' : List Value} {zs : List Bool} (h : RdBo w B A zs) (h' : Row w lo' hi' E' size' A' c' n' xs')
    (hg : w.grownBy w' (Value.slice A' n' c').ownBlock) (hw : B ≤ w.heap.size) (hd : B ≤ lo') : RdBo w' B A zs := Rd.far h h' hg hw hd
theorem RdBo.of_own' {w : World} {base c n : Nat} {e : TypeId} {A : Option Addr} {zs : List Bool} (h : w.ownsRow base e 1 (.slice A n c) n (bv zs)) (hn : zs.length = n) : RdBo w w.heap.size A zs := by subst hn; exact Rd.of_own h

theorem infoBool : (Try.prog.info? 4).map (fun i => (i.zero, i.size, i.bytes)) = some (some (Value.bool false), 1, 1) := by kernel_rfl
/-- the array after k stores -/
def mkB (zs : List Bool) (k : Nat) : Array Value := (bv (zs.take k) ++ List.replicate (zs.length - k) (Value.bool false)).toArray
theorem mkB_size (zs : List Bool) (k : Nat) (h : k ≤ zs.length) : (mkB zs k).size = zs.length := by simp [mkB, bv]; omega
theorem mkB_at (zs : List Bool) (k : Nat) (h : k < zs.length) : (mkB zs k)[k]? = some (.bool false) := by
  have hl : (bv (zs.take k)).length = k := by simp [bv]; omega
  simp only [mkB, List.getElem?_toArray]
  rw [List.getElem?_append_right (by omega), hl, Nat.sub_self, List.getElem?_replicate, if_pos (by omega)]
theorem mkB_set (zs : List Bool) (k : Nat) (h : k < zs.length) : (mkB zs k).setIfInBounds k (.bool (gb zs k)) = mkB zs (k + 1) := by
  have e : zs.length - k = (zs.length - (k + 1)) + 1 := by omega
  simp only [mkB, List.setIfInBounds_toArray]
  congr 1
  rw [List.set_append]
  have hl : (bv (zs.take k)).length = k := by simp [bv]; omega
  rw [if_neg (by omega), hl, Nat.sub_self, e, List.replicate_succ, List.set_cons_zero, take_succ_gb h, bv_append]
  simp [bv]
theorem mkB_all (zs : List Bool) : mkB zs zs.length = (bv zs).toArray := by simp [mkB]
theorem mkB_none (zs : List Bool) : madeCells (Value.cells (.bool false)) (zs.length * 1) = mkB zs 0 := by
  rw [Nat.mul_one]
  exact (madeOne _ _).trans (by simp [mkB, bv])

theorem laws_toBoolS (A : Option Addr) (c : Nat) (zs : List Bool) (w : World) (hr : RdBo w w.heap.size A zs) (hl : zs.length ≤ 1048576) :
    Calls Try.prog 31 #[.slice A zs.length c] w (RetRow w 4 1 zs.length (bv zs)) := by
  obtain ⟨i0, hi, hz0, hz1, hz2⟩ := info_parts infoBool
  have hmk := fun W => run_make_rowN (P := Try.prog) 22 4 i0 (.bool false) Try.underlying22 hi hz0 .i64 .i64 zs.length zs.length (Nat.le_refl _) (by rw [hz2]; omega) (by omega) W
  rw [hz1, mkB_none] at hmk
  have HI := Lib.hid hi; have H0 := Lib.hid hz0; have H1 := Lib.hid hz1; have H2 := Lib.hid hz2; clear hi hz0 hz1 hz2
  go_enter Try.func31, Try.ntmps31
  go_wp2
  go_loopw [4] (fun i wr => ∃ k : Nat, k ≤ zs.length ∧ i = .int .i64 k ∧ Blk wr w.heap.size 4 (mkB zs k) ∧ Below w.heap.size w wr) (fun i _ => zs.length - (intOf i).toNat)
  case atStart => exact ⟨0, Nat.zero_le _, rfl, Blk.new _ _ _, (Below.refl _ _).alloc (Nat.le_refl _) _⟩
  case round =>
    obtain ⟨k, hk, rfl, hb, hbel⟩ := hrel
    clear hmk
    by_cases hlt : k < zs.length
    · obtain ⟨b, off, rfl, hbB, hc⟩ := (RdBo.below hr hbel (Nat.le_refl _)).at_ hlt
      have hcell := (hb.cell k).trans (mkB_at zs k hlt)
      have hfro := hb.frozen k
      have HB := Lib.hid hb; have HR := Lib.hid hr; have HL := Lib.hid hbel; clear hb hr hbel
      go_wp2
      go_roundw
      case rel => exact ⟨k + 1, by omega, by go_num, by rw [← mkB_set zs k hlt]; exact HB.out.set_ _ _, HL.out.setCell (Nat.le_refl _) _⟩
      case measure => simp [intOf]; omega
    · obtain rfl : k = zs.length := by omega
      have HB := Lib.hid hb; have HL := Lib.hid hbel; clear hb hbel hr
      go_wp2
      go_ret
      have ho := HB.out.own (size := 1) (n := zs.length) (Nat.le_refl _) (by unfold maxLen; omega) (by rw [mkB_size _ _ (Nat.le_refl _)]; omega)
      rw [mkB_all] at ho
      exact ⟨_, _, rfl, ho, HL.out⟩

def sameBo (xs ys : List Bool) : Bool := decide (xs = ys)
theorem sameBo_refl (a : List Bool) : sameBo a a = true := by simp [sameBo]
theorem take_neB {xs ys : List Bool} {k : Nat} (h : k < xs.length) (h' : k < ys.length) (hne : gb xs k ≠ gb ys k) : sameBo xs ys = false := by
  simp only [sameBo, decide_eq_false_iff_not]
  rintro rfl
  exact hne rfl
theorem laws_eqBoolS (A C : Option Addr) (c d : Nat) (xs ys : List Bool) (w : World) (hx : RdBo w w.heap.size A xs) (hy : RdBo w w.heap.size C ys) (hl : xs.length ≤ 1048576) (hl2 : ys.length ≤ 1048576) :
    Calls Try.prog 33 #[.slice A xs.length c, .slice C ys.length d] w (RetB w (sameBo xs ys)) := by
  by_cases hne : xs.length = ys.length
  · have hb0 : ((xs.length : Int) != (ys.length : Int)) = false := by simp [hne]
    have HN := Lib.hid hne
    clear hne
    go_enter Try.func33, Try.ntmps33
    go_wp2
    go_loopw [5] (fun i wr => ∃ k : Nat, k ≤ xs.length ∧ i = .int .i64 k ∧ xs.take k = ys.take k ∧ ∃ m, wr = w.drewN m) (fun i _ => xs.length - (intOf i).toNat)
    case atStart => exact ⟨0, Nat.zero_le _, rfl, by simp, 0, rfl⟩
    case round =>
      obtain ⟨k, hk, rfl, ht, m, rfl⟩ := hrel
      have HT := Lib.hid ht; clear ht
      by_cases hlt : k < xs.length
      · have hlt2 : k < ys.length := by have := HN.out; omega
        obtain ⟨b, off, rfl, hbB, hc⟩ := hx.at_ hlt
        obtain ⟨b', off', rfl, hbB', hc'⟩ := hy.at_ hlt2
        have hi1 : (k : Int) < (xs.length : Int) := by omega
        have hi2 : (k : Int) < (ys.length : Int) := by omega
        clear hx hy
        cases hp : gb xs k <;> cases hq : gb ys k <;> rw [hp] at hc <;> rw [hq] at hc'
        all_goals
          have HP := Lib.hid hp; have HQ := Lib.hid hq; clear hp hq
          go_wp2
          go_quiet (fail)
          go_wp2
          first
            | (go_ret
               exact ⟨ret_bool (by rw [take_neB hlt hlt2 (by rw [HP.out, HQ.out]; decide)]), below_drewN (below_drewN (Below.refl _ _) _) _⟩)
            | (go_roundw
               case rel => exact ⟨k + 1, by omega, by go_num, by rw [take_succ_gb hlt, take_succ_gb hlt2, HT.out, HP.out, HQ.out], _, rfl⟩
               case measure => simp [intOf]; omega)
      · obtain rfl : k = xs.length := by omega
        go_wp2
        go_ret
        have e : xs = ys := by
          have := HT.out
          rw [List.take_of_length_le (Nat.le_refl _), List.take_of_length_le (by have := HN.out; omega)] at this
          exact this
        exact ⟨ret_bool (by simp [sameBo, e]), below_drewN (Below.refl _ _) _⟩
  · have hb0 : ((xs.length : Int) != (ys.length : Int)) = true := by simp; omega
    go_enter Try.func33, Try.ntmps33
    go_wp2
    go_ret
    exact ⟨ret_bool (by
      have : sameBo xs ys = false := by
        simp only [sameBo, decide_eq_false_iff_not]
        rintro rfl
        exact hne rfl
      rw [this]), Below.refl _ _⟩

/-- k % 3 == 0 -/
def m3 (k : Int) : Bool := k % 3 == 0
def upB (k : Int) (n : Nat) : List Bool := (List.range n).map (fun (j : Nat) => m3 (k + (j : Int)))
theorem upB_length (k : Int) (n : Nat) : (upB k n).length = n := by simp [upB]
theorem upB_succ (k : Int) (n : Nat) : upB k (n + 1) = upB k n ++ [m3 (k + n)] := by simp [upB, List.range_succ]
theorem upB_at (k : Int) (n j : Nat) (h : j < n) : gb (upB k n) j = m3 (k + j) := by simp [gb, upB, h]
def setUpB (cur : Array Value) (k : Int) (j : Nat) : Array Value := (bv (upB k j) ++ cur.toList.drop j).toArray
theorem setUpB_zero (cur : Array Value) (k : Int) : setUpB cur k 0 = cur := by simp [setUpB, upB, bv]
theorem setUpB_size (cur : Array Value) (k : Int) (j : Nat) (h : j ≤ cur.size) : (setUpB cur k j).size = cur.size := by simp [setUpB, bv, upB]; omega
theorem setUpB_at (cur : Array Value) (k : Int) (j : Nat) (h : j < cur.size) : ∃ u, (setUpB cur k j)[j]? = some u := ⟨_, Array.getElem?_eq_getElem (by rw [setUpB_size _ _ _ (by omega)]; exact h)⟩
theorem setUpB_set (cur : Array Value) (k : Int) (j : Nat) (h : j < cur.size) : (setUpB cur k j).setIfInBounds j (.bool (m3 (k + j))) = setUpB cur k (j + 1) := by
  simp only [setUpB, List.setIfInBounds_toArray]
  congr 1
  rw [set_app_drop _ _ _ _ (by simp [bv, upB]) (by simpa using h), upB_succ, bv_append]
  rfl
theorem laws_markBoolS (base n c : Nat) (A : Option Addr) (k : Int) (xs : List Value) (w : World) (ho : w.ownsRow base 4 1 (.slice A n c) n xs) (hn : n ≤ 1048576) (h0 : 0 ≤ k) (h1 : k ≤ 1000000000) :
    Calls Try.prog 34 #[.slice A n c, .int .i64 k] w (RetMark w base 4 1 (.slice A n c) n (bv (upB k n)) (k + n)) := by
  rcases ho.2 with ⟨hv, rfl⟩ | ⟨g, cap, cur, hv, hb, hg, hnc, hcm, hsz, htk⟩
  · obtain ⟨rfl, _, rfl⟩ : A = none ∧ 0 = 0 ∧ c = 0 := by injection hv with a b c; exact ⟨a, b, c⟩
    go_enter Try.func34, Try.ntmps34
    go_wp2
    refine wp_loop_once ?_
    go_wp2
    go_ret
    exact ⟨ret_int (by simp), by simpa [upB, bv] using World.ownsRow_nil w base _ 1, only_refl _ _⟩
  · obtain ⟨rfl, rfl⟩ : A = some ⟨g, 0, none⟩ ∧ c = cap := by injection hv with a b c; exact ⟨a, c⟩
    have HG : Blk w g 4 cur := hg
    have HS : Hid (cur.size = c * 1) := hsz
    clear hv htk ho hg hsz
    unfold maxLen at hcm
    go_enter Try.func34, Try.ntmps34
    go_wp2
    go_loopw [1, 5] (fun kk i wr => ∃ j : Nat, j ≤ n ∧ i = .int .i64 j ∧ kk = .int .i64 (k + j) ∧ Blk wr g 4 (setUpB cur k j) ∧ w.grownBy wr (some g)) (fun _ i _ => n - (intOf i).toNat)
    case atStart => exact ⟨0, Nat.zero_le _, rfl, by simp, by rw [setUpB_zero]; exact HG, only_refl _ _⟩
    case round =>
      obtain ⟨j, hj, rfl, rfl, hb', ho'⟩ := hrel
      have hjs : j < n → j < cur.size := by have := HS.out; omega
      by_cases hlt : j < n
      · obtain ⟨u, hu⟩ := setUpB_at cur k j (hjs hlt)
        have hcell := (hb'.cell j).trans hu
        have hfro := hb'.frozen j
        have HB := Lib.hid hb'; have HO := Lib.hid ho'; clear hb' ho' hjs hu
        go_wp2
        go_roundw
        case rel => exact ⟨j + 1, by omega, by go_num, by go_num, by rw [← setUpB_set cur k j (by have := HS.out; omega)]; exact HB.out.set_ _ _, only_setCell HO.out (.inl rfl) _⟩
        case measure => simp [intOf]; omega
      · obtain rfl : j = n := by omega
        have HB := Lib.hid hb'; have HO := Lib.hid ho'; clear hb' ho' hjs
        go_wp2
        go_ret
        refine ⟨rfl, ⟨by simp [bv, upB], .inr ⟨g, c, _, rfl, hb, HB.out, hnc, by unfold maxLen; omega, by rw [setUpB_size _ _ _ (by have := HS.out; omega)]; exact HS.out, ?_⟩⟩, HO.out⟩
        simp [setUpB, bv, upB]
theorem laws_heldBoolS (A : Option Addr) (n c : Nat) (k : Int) (w : World) (hr0 : Rd w w.heap.size 1 A n (bv (upB k n))) (hn : n ≤ 1048576) (h0 : 0 ≤ k) (h1 : k ≤ 1000000000) :
    Calls Try.prog 35 #[.slice A n c, .int .i64 k] w fun e w' => e = .returned (.int .i64 (k + n)) ∧ w = w' := by
  have hr : RdBo w w.heap.size A (upB k n) := by unfold RdBo; rw [upB_length]; exact hr0
  clear hr0
  go_enter Try.func35, Try.ntmps35
  go_wp2
  go_loop [1, 5] (fun kk i => ∃ j : Nat, j ≤ n ∧ i = .int .i64 j ∧ kk = .int .i64 (k + j)) (fun _ i => n - (intOf i).toNat)
  case atStart => exact ⟨0, Nat.zero_le _, rfl, by simp⟩
  case round =>
    obtain ⟨j, hj, rfl, rfl⟩ := hrel
    by_cases hlt : j < n
    · obtain ⟨b, off, rfl, hbB, hc⟩ := hr.at_ (k := j) (by rw [upB_length]; exact hlt)
      rw [upB_at _ _ _ hlt] at hc
      have hbe : (m3 (k + (j : Int)) == ((k + (j : Int)) % 3 == 0)) = true := by simp [m3]
      clear hr
      go_wp2
      go_round
      case rel => exact ⟨j + 1, by omega, by go_num, by go_num⟩
      case measure => simp [intOf]; omega
    · obtain rfl : j = n := by omega
      go_wp2
      go_ret
      exact ⟨rfl, rfl⟩
end Go.Proofs.Ytjabgfhjkjinoaa
