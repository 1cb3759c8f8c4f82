/- Contracts of the helpers of the exact laws on slices of ints: toIntS copies, eqIntS compares, markIntS writes, heldIntS looks. Conditions: lengths at most 2^20 where memory is made. -/
import Derived.Test.YtfmdpnnddhelaaaNum
namespace Go.Proofs.Ytfmdpnnddhelaaa
set_option linter.unusedVariables false
open Go.RowKit

theorem infoInt : (Try.prog.info? 3).map (fun i => (i.zero, i.size, i.bytes)) = some (some (Value.int .i64 0), 1, 8) := by kernel_rfl

/-- the array after k stores -/
def mkI (zs : List Int) (k : Nat) : Array Value := (iv (zs.take k) ++ List.replicate (zs.length - k) (Value.int .i64 0)).toArray
theorem mkI_size (zs : List Int) (k : Nat) (h : k ≤ zs.length) : (mkI zs k).size = zs.length := by simp [mkI, iv]; omega
theorem mkI_at (zs : List Int) (k : Nat) (h : k < zs.length) : (mkI zs k)[k]? = some (.int .i64 0) := by
  have hl : (iv (zs.take k)).length = k := by simp [iv]; omega
  simp only [mkI, List.getElem?_toArray]
  rw [List.getElem?_append_right (by omega), hl, Nat.sub_self, List.getElem?_replicate, if_pos (by omega)]
theorem mkI_set (zs : List Int) (k : Nat) (h : k < zs.length) : (mkI zs k).setIfInBounds k (.int .i64 (gi zs k)) = mkI zs (k + 1) := by
  have e : zs.length - k = (zs.length - (k + 1)) + 1 := by omega
  simp only [mkI, List.setIfInBounds_toArray]
  congr 1
  rw [List.set_append]
  have hl : (iv (zs.take k)).length = k := by simp [iv]; omega
  rw [if_neg (by omega), hl, Nat.sub_self, e, List.replicate_succ, List.set_cons_zero, take_succ_gi h, iv_append]
  simp [iv]
theorem mkI_all (zs : List Int) : mkI zs zs.length = (iv zs).toArray := by simp [mkI]
theorem mkI_none (zs : List Int) : madeCells (Value.cells (.int .i64 0)) (zs.length * 1) = mkI zs 0 := by
  rw [Nat.mul_one]
  exact (madeOne _ _).trans (by simp [mkI, iv])

theorem laws_toIntS (A : Option Addr) (c : Nat) (zs : List Int) (w : World) (hr : RdI w w.heap.size A zs) (hl : zs.length ≤ 1048576) :
    Calls Try.prog 13 #[.slice A zs.length c] w (RetRow w 3 1 zs.length (iv zs)) := by
  obtain ⟨i0, hi, hz0, hz1, hz2⟩ := info_parts infoInt
  have hmk := fun W => run_make_rowN (P := Try.prog) 22 3 i0 (.int .i64 0) Try.underlying22 hi hz0 .i64 .i64 zs.length zs.length (Nat.le_refl _) (by rw [hz2]; omega) (by omega) W
  rw [hz1, mkI_none] at hmk
  have HI := Lib.hid hi; have H0 := Lib.hid hz0; have H1 := Lib.hid hz1; have H2 := Lib.hid hz2; clear hi hz0 hz1 hz2
  go_enter Try.func13, Try.ntmps13
  go_wp2
  go_loopw [4] (fun i wr => ∃ k : Nat, k ≤ zs.length ∧ i = .int .i64 k ∧ Blk wr w.heap.size 3 (mkI zs k) ∧ Below w.heap.size w wr) (fun i _ => zs.length - (intOf i).toNat)
  case atStart => exact ⟨0, Nat.zero_le _, rfl, Blk.new _ _ _, (Below.refl _ _).alloc (Nat.le_refl _) _⟩
  case round =>
    obtain ⟨k, hk, rfl, hb, hbel⟩ := hrel
    clear hmk
    by_cases hlt : k < zs.length
    · obtain ⟨b, off, rfl, hbB, hc⟩ := (RdI.below hr hbel (Nat.le_refl _)).at_ hlt
      have hcell := (hb.cell k).trans (mkI_at zs k hlt)
      have hfro := hb.frozen k
      have HB := Lib.hid hb; have HR := Lib.hid hr; have HL := Lib.hid hbel; clear hb hr hbel
      go_wp2
      go_roundw
      case rel => exact ⟨k + 1, by omega, by go_num, by rw [← mkI_set zs k hlt]; exact HB.out.set_ _ _, HL.out.setCell (Nat.le_refl _) _⟩
      case measure => simp [intOf]; omega
    · obtain rfl : k = zs.length := by omega
      have HB := Lib.hid hb; have HL := Lib.hid hbel; clear hb hbel hr
      go_wp2
      go_ret
      have ho := HB.out.own (size := 1) (n := zs.length) (Nat.le_refl _) (by unfold maxLen; omega) (by rw [mkI_size _ _ (Nat.le_refl _)]; omega)
      rw [mkI_all] at ho
      exact ⟨_, _, rfl, ho, HL.out⟩

def sameI (xs ys : List Int) : Bool := decide (xs = ys)
theorem sameI_refl (a : List Int) : sameI a a = true := by simp [sameI]
theorem take_ne {xs ys : List Int} {k : Nat} (h : k < xs.length) (h' : k < ys.length) (hne : gi xs k ≠ gi ys k) : sameI xs ys = false := by
  simp only [sameI, decide_eq_false_iff_not]
  rintro rfl
  exact hne rfl
theorem laws_eqIntS (A C : Option Addr) (c d : Nat) (xs ys : List Int) (w : World) (hx : RdI w w.heap.size A xs) (hy : RdI w w.heap.size C ys) (hl : xs.length ≤ 1048576) (hl2 : ys.length ≤ 1048576) :
    Calls Try.prog 15 #[.slice A xs.length c, .slice C ys.length d] w (RetB w (sameI xs ys)) := by
  by_cases hne : xs.length = ys.length
  · have hb0 : ((xs.length : Int) != (ys.length : Int)) = false := by simp [hne]
    have HN := Lib.hid hne
    clear hne
    go_enter Try.func15, Try.ntmps15
    go_wp2
    go_loopw [5] (fun i wr => ∃ k : Nat, k ≤ xs.length ∧ i = .int .i64 k ∧ xs.take k = ys.take k ∧ ∃ m, wr = w.drewN m) (fun i _ => xs.length - (intOf i).toNat)
    case atStart => exact ⟨0, Nat.zero_le _, rfl, by simp, 0, rfl⟩
    case round =>
      obtain ⟨k, hk, rfl, ht, m, rfl⟩ := hrel
      have HT := Lib.hid ht; clear ht
      by_cases hlt : k < xs.length
      · have hlt2 : k < ys.length := by have := HN.out; omega
        obtain ⟨b, off, rfl, hbB, hc⟩ := hx.at_ hlt
        obtain ⟨b', off', rfl, hbB', hc'⟩ := hy.at_ hlt2
        have hi1 : (k : Int) < (xs.length : Int) := by omega
        have hi2 : (k : Int) < (ys.length : Int) := by omega
        clear hx hy
        go_wp2
        go_quiet (fail)
        by_cases he : gi xs k = gi ys k
        · have hbe : (gi xs k != gi ys k) = false := by simp [he]
          have HE := Lib.hid he; clear he
          go_wp2
          go_roundw
          case rel => exact ⟨k + 1, by omega, by go_num, by rw [take_succ_gi hlt, take_succ_gi hlt2, HT.out, HE.out], _, rfl⟩
          case measure => simp [intOf]; omega
        · have hbe : (gi xs k != gi ys k) = true := by simp [he]
          go_wp2
          go_ret
          exact ⟨ret_bool (by rw [take_ne hlt hlt2 he]), below_drewN (below_drewN (Below.refl _ _) _) _⟩
      · obtain rfl : k = xs.length := by omega
        go_wp2
        go_ret
        have e : xs = ys := by
          have := HT.out
          rw [List.take_of_length_le (Nat.le_refl _), List.take_of_length_le (by have := HN.out; omega)] at this
          exact this
        exact ⟨ret_bool (by simp [sameI, e]), below_drewN (Below.refl _ _) _⟩
  · have hb0 : ((xs.length : Int) != (ys.length : Int)) = true := by simp; omega
    go_enter Try.func15, Try.ntmps15
    go_wp2
    go_ret
    exact ⟨ret_bool (by
      have : sameI xs ys = false := by
        simp only [sameI, decide_eq_false_iff_not]
        rintro rfl
        exact hne rfl
      rw [this]), Below.refl _ _⟩
theorem laws_sameInts (A C : Option Addr) (c d : Nat) (xs ys : List Int) (w : World) (hx : RdI w w.heap.size A xs) (hy : RdI w w.heap.size C ys) (hl : xs.length ≤ 1048576) (hl2 : ys.length ≤ 1048576) :
    Calls Try.prog 25 #[.slice A xs.length c, .slice C ys.length d] w (RetB w (sameI xs ys)) := by
  by_cases hne : xs.length = ys.length
  · have hb0 : ((xs.length : Int) != (ys.length : Int)) = false := by simp [hne]
    have HN := Lib.hid hne
    clear hne
    go_enter Try.func25, Try.ntmps25
    go_wp2
    go_loopw [5] (fun i wr => ∃ k : Nat, k ≤ xs.length ∧ i = .int .i64 k ∧ xs.take k = ys.take k ∧ ∃ m, wr = w.drewN m) (fun i _ => xs.length - (intOf i).toNat)
    case atStart => exact ⟨0, Nat.zero_le _, rfl, by simp, 0, rfl⟩
    case round =>
      obtain ⟨k, hk, rfl, ht, m, rfl⟩ := hrel
      have HT := Lib.hid ht; clear ht
      by_cases hlt : k < xs.length
      · have hlt2 : k < ys.length := by have := HN.out; omega
        obtain ⟨b, off, rfl, hbB, hc⟩ := hx.at_ hlt
        obtain ⟨b', off', rfl, hbB', hc'⟩ := hy.at_ hlt2
        have hi1 : (k : Int) < (xs.length : Int) := by omega
        have hi2 : (k : Int) < (ys.length : Int) := by omega
        clear hx hy
        go_wp2
        go_quiet (fail)
        by_cases he : gi xs k = gi ys k
        · have hbe : (gi xs k != gi ys k) = false := by simp [he]
          have HE := Lib.hid he; clear he
          go_wp2
          go_roundw
          case rel => exact ⟨k + 1, by omega, by go_num, by rw [take_succ_gi hlt, take_succ_gi hlt2, HT.out, HE.out], _, rfl⟩
          case measure => simp [intOf]; omega
        · have hbe : (gi xs k != gi ys k) = true := by simp [he]
          go_wp2
          go_ret
          exact ⟨ret_bool (by rw [take_ne hlt hlt2 he]), below_drewN (below_drewN (Below.refl _ _) _) _⟩
      · obtain rfl : k = xs.length := by omega
        go_wp2
        go_ret
        have e : xs = ys := by
          have := HT.out
          rw [List.take_of_length_le (Nat.le_refl _), List.take_of_length_le (by have := HN.out; omega)] at this
          exact this
        exact ⟨ret_bool (by simp [sameI, e]), below_drewN (Below.refl _ _) _⟩
  · have hb0 : ((xs.length : Int) != (ys.length : Int)) = true := by simp; omega
    go_enter Try.func25, Try.ntmps25
    go_wp2
    go_ret
    exact ⟨ret_bool (by
      have : sameI xs ys = false := by
        simp only [sameI, decide_eq_false_iff_not]
        rintro rfl
        exact hne rfl
      rw [this]), Below.refl _ _⟩

/-- k, k + 1, .. -/
def upI (k : Int) (n : Nat) : List Int := (List.range n).map (fun (j : Nat) => k + (j : Int))
theorem upI_length (k : Int) (n : Nat) : (upI k n).length = n := by simp [upI]
theorem upI_succ (k : Int) (n : Nat) : upI k (n + 1) = upI k n ++ [k + n] := by simp [upI, List.range_succ]
theorem upI_at (k : Int) (n j : Nat) (h : j < n) : gi (upI k n) j = k + j := by simp [gi, upI, h]
def setUp (cur : Array Value) (k : Int) (j : Nat) : Array Value := (iv (upI k j) ++ cur.toList.drop j).toArray
theorem setUp_zero (cur : Array Value) (k : Int) : setUp cur k 0 = cur := by simp [setUp, upI, iv]
theorem setUp_size (cur : Array Value) (k : Int) (j : Nat) (h : j ≤ cur.size) : (setUp cur k j).size = cur.size := by simp [setUp, iv, upI]; omega
theorem setUp_at (cur : Array Value) (k : Int) (j : Nat) (h : j < cur.size) : ∃ u, (setUp cur k j)[j]? = some u := ⟨_, Array.getElem?_eq_getElem (by rw [setUp_size _ _ _ (by omega)]; exact h)⟩
theorem setUp_set (cur : Array Value) (k : Int) (j : Nat) (h : j < cur.size) : (setUp cur k j).setIfInBounds j (.int .i64 (k + j)) = setUp cur k (j + 1) := by
  simp only [setUp, List.setIfInBounds_toArray]
  congr 1
  rw [set_app_drop _ _ _ _ (by simp [iv, upI]) (by simpa using h), upI_succ, iv_append]
  rfl
theorem laws_markIntS (base n c : Nat) (A : Option Addr) (k : Int) (xs : List Value) (w : World) (ho : w.ownsRow base 3 1 (.slice A n c) n xs) (hn : n ≤ 1048576) (h0 : 0 ≤ k) (h1 : k ≤ 1000000000) :
    Calls Try.prog 29 #[.slice A n c, .int .i64 k] w (RetMark w base 3 1 (.slice A n c) n (iv (upI k n)) (k + n)) := by
  rcases ho.2 with ⟨hv, rfl⟩ | ⟨g, cap, cur, hv, hb, hg, hnc, hcm, hsz, htk⟩
  · obtain ⟨rfl, _, rfl⟩ : A = none ∧ 0 = 0 ∧ c = 0 := by injection hv with a b c; exact ⟨a, b, c⟩
    go_enter Try.func29, Try.ntmps29
    go_wp2
    refine wp_loop_once ?_
    go_wp2
    go_ret
    exact ⟨ret_int (by simp), by simpa [upI, iv] using World.ownsRow_nil w base _ 1, only_refl _ _⟩
  · obtain ⟨rfl, rfl⟩ : A = some ⟨g, 0, none⟩ ∧ c = cap := by injection hv with a b c; exact ⟨a, c⟩
    have HG : Blk w g 3 cur := hg
    have HS : Hid (cur.size = c * 1) := hsz
    clear hv htk ho hg hsz
    unfold maxLen at hcm
    go_enter Try.func29, Try.ntmps29
    go_wp2
    go_loopw [1, 5] (fun kk i wr => ∃ j : Nat, j ≤ n ∧ i = .int .i64 j ∧ kk = .int .i64 (k + j) ∧ Blk wr g 3 (setUp cur k j) ∧ w.grownBy wr (some g)) (fun _ i _ => n - (intOf i).toNat)
    case atStart => exact ⟨0, Nat.zero_le _, rfl, by simp, by rw [setUp_zero]; exact HG, only_refl _ _⟩
    case round =>
      obtain ⟨j, hj, rfl, rfl, hb', ho'⟩ := hrel
      have hjs : j < n → j < cur.size := by have := HS.out; omega
      by_cases hlt : j < n
      · obtain ⟨u, hu⟩ := setUp_at cur k j (hjs hlt)
        have hcell := (hb'.cell j).trans hu
        have hfro := hb'.frozen j
        have HB := Lib.hid hb'; have HO := Lib.hid ho'; clear hb' ho' hjs hu
        go_wp2
        go_roundw
        case rel => exact ⟨j + 1, by omega, by go_num, by go_num, by rw [← setUp_set cur k j (by have := HS.out; omega)]; exact HB.out.set_ _ _, only_setCell HO.out (.inl rfl) _⟩
        case measure => simp [intOf]; omega
      · obtain rfl : j = n := by omega
        have HB := Lib.hid hb'; have HO := Lib.hid ho'; clear hb' ho' hjs
        go_wp2
        go_ret
        refine ⟨rfl, ⟨by simp [iv, upI], .inr ⟨g, c, _, rfl, hb, HB.out, hnc, by unfold maxLen; omega, by rw [setUp_size _ _ _ (by have := HS.out; omega)]; exact HS.out, ?_⟩⟩, HO.out⟩
        simp [setUp, iv, upI]
end Go.Proofs.Ytfmdpnnddhelaaa
