/- Contracts of the functions on samples: SamplesValid, PeakOf, ScaleSamples, EchoSamples, MixSamples, of the program and of the reference. Conditions: lengths at most 2^20, numbers that fit int64. -/
import Derived.Test.YtijbciiocmdmmaaInts
namespace Go.Proofs.Ytijbciiocmdmmaa
set_option linter.unusedVariables false
open Go.RowKit

def okZ (z : Int) : Bool := inR z (-32767) 32767
def okS (zs : List Int) : Bool := decide (zs.length ≤ 200) && zs.all okZ
theorem all_take {p : Int → Bool} {zs : List Int} {k : Nat} (h : k < zs.length) (ha : (zs.take k).all p = true) (hp : p (gi zs k) = true) : (zs.take (k + 1)).all p = true := by
  rw [take_succ_gi h, List.all_append, ha]; simp [hp]
theorem all_not {p : Int → Bool} {zs : List Int} {k : Nat} (h : k < zs.length) (hp : p (gi zs k) = false) : zs.all p = false := by
  rw [List.all_eq_false]; exact ⟨_, gi_mem h, by simp [hp]⟩
theorem all_full {p : Int → Bool} {zs : List Int} (ha : (zs.take zs.length).all p = true) : zs.all p = true := by rwa [List.take_length] at ha
theorem okS_len {zs : List Int} (h : okS zs = true) : zs.length ≤ 200 := by simp [okS] at h; exact h.1
theorem okS_at {zs : List Int} (h : okS zs = true) {k : Nat} (hk : k < zs.length) : -32767 ≤ gi zs k ∧ gi zs k ≤ 32767 := by
  simp only [okS, Bool.and_eq_true, List.all_eq_true] at h
  exact inR_iff.1 (h.2 _ (gi_mem hk))
theorem okS_mk {zs : List Int} (h : zs.length ≤ 200) (h2 : ∀ z ∈ zs, -32767 ≤ z ∧ z ≤ 32767) : okS zs = true := by
  simp only [okS, Bool.and_eq_true, List.all_eq_true, decide_eq_true_eq]
  exact ⟨h, fun z hz => inR_t (h2 z hz)⟩

theorem impl_SamplesValid (A : Option Addr) (c : Nat) (zs : List Int) (w : World) (hr : RdI w w.heap.size A zs) (hl : zs.length ≤ 1048576) :
    Calls Try.prog 21 #[.slice A zs.length c] w fun e w' => e = .returned (.bool (okS zs)) ∧ w = w' := by
  by_cases h2 : zs.length ≤ 200
  · go_enter Try.func21, Try.ntmps21
    go_wp2
    go_loop [10] (fun i => ∃ k : Nat, k ≤ zs.length ∧ i = .int .i64 k ∧ (zs.take k).all okZ = true) (fun i => zs.length - (intOf i).toNat)
    case atStart => exact ⟨0, Nat.zero_le _, rfl, by simp⟩
    case round =>
      obtain ⟨k, hk, rfl, ht⟩ := hrel
      have HT := Lib.hid ht; clear ht
      by_cases hlt : k < zs.length
      · obtain ⟨b, off, rfl, hbB, hc⟩ := hr.at_ hlt
        have hi1 : (k : Int) < (zs.length : Int) := by omega
        clear hr
        cases hz : inR (gi zs k) (-32767) 32767
        · go_wp2_with (go_at_call 47; refine (impl_within _ _ _ _).mono ?_; rintro e w' ⟨rfl, rfl⟩)
          go_ret
          exact ⟨ret_bool (by rw [okS, all_not hlt hz]; simp), rfl⟩
        · go_wp2_with (go_at_call 47; refine (impl_within _ _ _ _).mono ?_; rintro e w' ⟨rfl, rfl⟩)
          go_round
          case rel => exact ⟨k + 1, by omega, by go_num, all_take hlt HT.out hz⟩
          case measure => simp [intOf]; omega
      · obtain rfl : k = zs.length := by omega
        clear hr
        go_wp2
        go_ret
        exact ⟨ret_bool (by rw [okS, all_full HT.out]; simp [h2]), rfl⟩
  · go_enter Try.func21, Try.ntmps21
    clear hr
    go_wp2
    go_ret
    exact ⟨ret_bool (by simp [okS, h2]), rfl⟩
theorem impl_SamplesValidN (A : Option Addr) (c n : Nat) (zs : List Int) (w : World) (hn : zs.length = n) (hr : RdI w w.heap.size A zs) (hl : zs.length ≤ 1048576) :
    Calls Try.prog 21 #[.slice A n c] w fun e w' => e = .returned (.bool (okS zs)) ∧ w = w' := by
  subst hn; exact impl_SamplesValid A c zs w hr hl
theorem spec_SamplesValid (A : Option Addr) (c : Nat) (zs : List Int) (w : World) (hr : RdI w w.heap.size A zs) (hl : zs.length ≤ 1048576) :
    Calls Try.prog 22 #[.slice A zs.length c] w fun e w' => e = .returned (.bool (okS zs)) ∧ w = w' := by
  go_enter Try.func22, Try.ntmps22
  go_wp2
  go_loop [3] (fun i => ∃ k : Nat, k ≤ zs.length ∧ i = .int .i64 k ∧ (zs.take k).all okZ = true) (fun i => zs.length - (intOf i).toNat)
  case atStart => exact ⟨0, Nat.zero_le _, rfl, by simp⟩
  case round =>
    obtain ⟨k, hk, rfl, ht⟩ := hrel
    have HT := Lib.hid ht; clear ht
    by_cases hlt : k < zs.length
    · obtain ⟨b, off, rfl, hbB, hc⟩ := hr.at_ hlt
      have hi1 : (k : Int) < (zs.length : Int) := by omega
      clear hr
      cases hz : inR (gi zs k) (-32767) 32767
      · go_wp2_with (go_at_call 48; refine (spec_l1In _ _ _ _).mono ?_; rintro e w' ⟨rfl, rfl⟩)
        go_ret
        exact ⟨ret_bool (by rw [okS, all_not hlt hz]; simp), rfl⟩
      · go_wp2_with (go_at_call 48; refine (spec_l1In _ _ _ _).mono ?_; rintro e w' ⟨rfl, rfl⟩)
        go_round
        case rel => exact ⟨k + 1, by omega, by go_num, all_take hlt HT.out hz⟩
        case measure => simp [intOf]; omega
    · obtain rfl : k = zs.length := by omega
      clear hr
      go_wp2
      go_ret
      exact ⟨ret_bool (by rw [okS, all_full HT.out]; simp; omega), rfl⟩
def pk1 (m z : Int) : Int := if (if m < z then z else m) < -z then -z else if m < z then z else m
def peakTo (zs : List Int) : Int := zs.foldl pk1 0
theorem pk1_bd (m z : Int) (h : 0 ≤ m ∧ m ≤ 32767) (hz : -32767 ≤ z ∧ z ≤ 32767) : 0 ≤ pk1 m z ∧ pk1 m z ≤ 32767 := by unfold pk1; split <;> (try split) <;> omega
theorem pk1_max (m z : Int) : pk1 m z = max m (max z (-z)) := by unfold pk1; split <;> (try split) <;> omega
theorem peakTo_succ {zs : List Int} {k : Nat} (h : k < zs.length) : peakTo (zs.take (k + 1)) = pk1 (peakTo (zs.take k)) (gi zs k) := by
  rw [take_succ_gi h, peakTo, List.foldl_append]; rfl
theorem peakTo_bd {zs : List Int} (h : ∀ z ∈ zs, -32767 ≤ z ∧ z ≤ 32767) : 0 ≤ peakTo zs ∧ peakTo zs ≤ 32767 := by
  suffices H : ∀ (l : List Int) (m : Int), (∀ z ∈ l, -32767 ≤ z ∧ z ≤ 32767) → 0 ≤ m ∧ m ≤ 32767 → 0 ≤ l.foldl pk1 m ∧ l.foldl pk1 m ≤ 32767 from H zs 0 h (by omega)
  intro l
  induction l with
  | nil => intro m _ hm; exact hm
  | cons z r ih => intro m hl hm; exact ih _ (fun y hy => hl y (List.mem_cons_of_mem _ hy)) (pk1_bd m z hm (hl z List.mem_cons_self))
theorem okS_all {zs : List Int} (h : okS zs = true) : ∀ z ∈ zs, -32767 ≤ z ∧ z ≤ 32767 := by
  simp only [okS, Bool.and_eq_true, List.all_eq_true] at h
  exact fun z hz => inR_iff.1 (h.2 z hz)
def peakL (zs : List Int) : Int := if okS zs = true then peakTo zs else -1
theorem impl_PeakOf (A : Option Addr) (c : Nat) (zs : List Int) (w : World) (hr : RdI w w.heap.size A zs) (hl : zs.length ≤ 1048576) :
    Calls Try.prog 27 #[.slice A zs.length c] w (RetI w (peakL zs)) := by
  cases hv : okS zs
  · have hfin : peakL zs = -1 := by simp [peakL, hv]
    have HF := Lib.hid hfin; clear hfin
    go_enter Try.func27, Try.ntmps27
    go_wp2_with (go_at_call 21; refine (impl_SamplesValid _ _ _ _ hr hl).mono ?_; rintro e w' ⟨rfl, rfl⟩)
    go_ret
    exact ⟨ret_int HF.out.symm, Below.refl _ _⟩
  · go_enter Try.func27, Try.ntmps27
    go_wp2_with (go_at_call 21; refine (impl_SamplesValid _ _ _ _ hr hl).mono ?_; rintro e w' ⟨rfl, rfl⟩)
    go_loop [3, 11] (fun p i => ∃ k : Nat, k ≤ zs.length ∧ i = .int .i64 k ∧ p = .int .i64 (peakTo (zs.take k))) (fun _ i => zs.length - (intOf i).toNat)
    case atStart => exact ⟨0, Nat.zero_le _, rfl, rfl⟩
    case round =>
      obtain ⟨k, hk, rfl, rfl⟩ := hrel
      have HV := Lib.hid hv; clear hv
      by_cases hlt : k < zs.length
      · obtain ⟨b, off, rfl, hbB, hc⟩ := hr.at_ hlt
        have hi1 : (k : Int) < (zs.length : Int) := by omega
        have hb := okS_at HV.out hlt
        have hp := peakTo_bd (zs := zs.take k) (fun z hz => okS_all HV.out z (List.mem_of_mem_take hz))
        clear hr
        go_wp2
        go_round
        case rel => exact ⟨k + 1, by omega, by go_num, by rw [peakTo_succ hlt]; rfl⟩
        case measure => simp [intOf]; omega
      · obtain rfl : k = zs.length := by omega
        go_wp2
        go_ret
        exact ⟨ret_int (by simp [peakL, HV.out]), Below.refl _ _⟩
theorem impl_PeakOfN (A : Option Addr) (c n : Nat) (zs : List Int) (w : World) (hn : zs.length = n) (hr : RdI w w.heap.size A zs) (hl : zs.length ≤ 1048576) :
    Calls Try.prog 27 #[.slice A n c] w (RetI w (peakL zs)) := by
  subst hn; exact impl_PeakOf A c zs w hr hl
theorem spec_PeakOf (A : Option Addr) (c : Nat) (zs : List Int) (w : World) (hr : RdI w w.heap.size A zs) (hl : zs.length ≤ 1048576) :
    Calls Try.prog 28 #[.slice A zs.length c] w (RetI w (peakL zs)) := by
  cases hv : okS zs
  · have hfin : peakL zs = -1 := by simp [peakL, hv]
    have HF := Lib.hid hfin; clear hfin
    go_enter Try.func28, Try.ntmps28
    go_wp2_with (go_at_call 22; refine (spec_SamplesValid _ _ _ _ hr hl).mono ?_; rintro e w' ⟨rfl, rfl⟩)
    go_ret
    exact ⟨ret_int HF.out.symm, Below.refl _ _⟩
  · go_enter Try.func28, Try.ntmps28
    go_wp2_with (go_at_call 22; refine (spec_SamplesValid _ _ _ _ hr hl).mono ?_; rintro e w' ⟨rfl, rfl⟩)
    go_loopw [3, 4] (fun p i wr => ∃ k : Nat, k ≤ zs.length ∧ i = .int .i64 k ∧ p = .int .i64 (peakTo (zs.take k)) ∧ ∃ m, wr = w.drewN m) (fun _ i _ => zs.length - (intOf i).toNat)
    case atStart => exact ⟨0, Nat.zero_le _, rfl, rfl, 0, rfl⟩
    case round =>
      obtain ⟨k, hk, rfl, rfl, m, rfl⟩ := hrel
      have HV := Lib.hid hv; clear hv
      by_cases hlt : k < zs.length
      · obtain ⟨b, off, rfl, hbB, hc⟩ := hr.at_ hlt
        have hi1 : (k : Int) < (zs.length : Int) := by omega
        have hb := okS_at HV.out hlt
        have hp := peakTo_bd (zs := zs.take k) (fun z hz => okS_all HV.out z (List.mem_of_mem_take hz))
        clear hr
        go_wp2
        go_quiet (fail)
        go_wp2
        go_roundw
        case rel => exact ⟨k + 1, by omega, by go_num, by rw [peakTo_succ hlt, pk1_max]; refine congrArg _ ?_; (repeat' split) <;> omega, _, rfl⟩
        case measure => simp [intOf]; omega
      · obtain rfl : k = zs.length := by omega
        go_wp2
        go_ret
        exact ⟨ret_int (by simp [peakL, HV.out]), below_drewN (Below.refl _ _) _⟩
theorem tdiv_bd (x : Int) (b : Int) (h : -b ≤ x ∧ x ≤ b) : -b ≤ x.tdiv 1000 ∧ x.tdiv 1000 ≤ b := by
  rcases Int.le_total 0 x with h0 | h0
  · rw [Int.tdiv_eq_ediv_of_nonneg h0]; omega
  · have e : x.tdiv 1000 = -((-x).tdiv 1000) := by rw [Int.neg_tdiv, Int.neg_neg]
    rw [e, Int.tdiv_eq_ediv_of_nonneg (by omega)]; omega
theorem mul_bd (z l : Int) (h : -32767 ≤ z ∧ z ≤ 32767) (hl : 0 ≤ l ∧ l ≤ 1000) : -32767000 ≤ z * l ∧ z * l ≤ 32767000 := by
  constructor
  · have h1 : (-32767) * l ≤ z * l := Int.mul_le_mul_of_nonneg_right h.1 hl.1
    omega
  · have h1 : z * l ≤ 32767 * l := Int.mul_le_mul_of_nonneg_right h.2 hl.1
    omega
def scaleTo (zs : List Int) (l : Int) : List Int := zs.map fun z => (z * l).tdiv 1000
def scaleL (zs : List Int) (l : Int) : List Int := if okS zs = true ∧ inR l 0 1000 = true then scaleTo zs l else []
theorem scaleTo_succ {zs : List Int} {l : Int} {k : Nat} (h : k < zs.length) : iv (scaleTo (zs.take (k + 1)) l) = iv (scaleTo (zs.take k) l) ++ [.int .i64 ((gi zs k * l).tdiv 1000)] := by
  rw [take_succ_gi h, scaleTo, List.map_append, iv_append]; rfl
theorem impl_ScaleSamples (A : Option Addr) (c : Nat) (zs : List Int) (l : Int) (w : World) (hr : RdI w w.heap.size A zs) (hl : zs.length ≤ 1048576) :
    Calls Try.prog 33 #[.slice A zs.length c, .int .i64 l] w (RetRow w 3 1 (scaleL zs l).length (iv (scaleL zs l))) := by
  obtain ⟨i0, hi, hz0, hz1, hz2⟩ := info_parts infoInt
  have HI := Lib.hid hi; have H0 := Lib.hid hz0; have H1 := Lib.hid hz1; have H2 := Lib.hid hz2; clear hi hz0 hz1 hz2
  have hsv := fun W => impl_SamplesValid A c zs W
  by_cases hbad : okS zs = true ∧ inR l 0 1000 = true
  · obtain ⟨hv, hv2⟩ := hbad
    have HF : Hid (scaleL zs l = scaleTo zs l) := by unfold Hid; rw [scaleL, if_pos ⟨hv, hv2⟩]
    have hL := inR_iff.1 hv2
    go_enter Try.func33, Try.ntmps33
    go_wp2_with (first | (go_at_call 21; refine (impl_SamplesValid _ _ _ _ hr hl).mono ?_; rintro e w' ⟨rfl, rfl⟩) | (go_at_call 47; refine (impl_within _ _ _ _).mono ?_; rintro e w' ⟨rfl, rfl⟩))
    have HV := Lib.hid hv; clear hv
    go_loopw [5, 19] (fun v i wr => ∃ k : Nat, k ≤ zs.length ∧ i = .int .i64 k ∧ ∃ A c, v = .slice A k c ∧ wr.ownsRow w.heap.size 3 1 (.slice A k c) k (iv (scaleTo (zs.take k) l)) ∧ Below w.heap.size w wr ∧ w.heap.size ≤ wr.heap.size) (fun _ i _ => zs.length - (intOf i).toNat)
    case atStart => exact ⟨0, Nat.zero_le _, rfl, _, _, rfl, own_empty (Below.refl _ _) (Nat.le_refl _)⟩
    case round =>
      obtain ⟨k, hk, rfl, A', c', rfl, hown, hbel, hbase⟩ := hrel
      by_cases hlt : k < zs.length
      · obtain ⟨b, off, rfl, hbB, hc⟩ := (hr.below hbel (Nat.le_refl _)).at_ hlt
        have hi1 : (k : Int) < (zs.length : Int) := by omega
        have hb := okS_at HV.out hlt
        have hp := mul_bd _ _ hb hL
        have HO := Lib.hid hown; have HB := Lib.hid hbel
        clear hr hown hbel
        go_wp2_with (at_builtin; refine append_el rfl _ _ 31 rfl 3 i0 (.int .i64 0) 1 8 Try.underlying31 HI.out H0.out H1.out H2.out rfl (by decide) (by decide) w.heap.size w wr _ k _ HO.out HB.out hbase (by omega) rfl [.int .i64 ((gi zs k * l).tdiv 1000)] rfl (by simp [Value.oneCell']) rfl ?_; intro A2 c2 w2 hown2 hbel2 hbase2 _)
        rw [← scaleTo_succ hlt] at hown2
        go_wp2
        go_roundw
        case rel => exact ⟨k + 1, by omega, by go_num, _, _, rfl, hown2, hbel2, hbase2⟩
        case measure => simp [intOf]; omega
      · obtain rfl : k = zs.length := by omega
        have HO := Lib.hid hown; have HB := Lib.hid hbel
        clear hr hown hbel
        go_wp2
        go_ret
        have ho := HO.out
        have hlen : (scaleTo zs l).length = zs.length := by simp [scaleTo]
        refine ⟨A', c', ?_, ?_, HB.out⟩
        · rw [HF.out, hlen]; rfl
        · rw [HF.out, hlen, ← List.take_length (l := zs)]; simpa using ho
  · have HF : Hid (scaleL zs l = []) := by unfold Hid; rw [scaleL, if_neg hbad]
    cases hv : okS zs
    · go_enter Try.func33, Try.ntmps33
      go_wp2_with (first | (go_at_call 21; refine (impl_SamplesValid _ _ _ _ hr hl).mono ?_; rintro e w' ⟨rfl, rfl⟩))
      go_ret
      rw [HF.out]
      exact ⟨_, _, rfl, World.ownsRow_nil _ _ _ _, Below.refl _ _⟩
    · have hv2 : inR l 0 1000 = false := by
        cases e : inR l 0 1000
        · rfl
        · exact absurd ⟨hv, e⟩ hbad
      go_enter Try.func33, Try.ntmps33
      go_wp2_with (first | (go_at_call 21; refine (impl_SamplesValid _ _ _ _ hr hl).mono ?_; rintro e w' ⟨rfl, rfl⟩) | (go_at_call 47; refine (impl_within _ _ _ _).mono ?_; rintro e w' ⟨rfl, rfl⟩))
      go_ret
      rw [HF.out]
      exact ⟨_, _, rfl, World.ownsRow_nil _ _ _ _, Below.refl _ _⟩
end Go.Proofs.Ytijbciiocmdmmaa
