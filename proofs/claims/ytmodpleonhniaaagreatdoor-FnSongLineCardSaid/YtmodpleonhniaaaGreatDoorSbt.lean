/- Contracts of longest, SongBars, SongTime, TimeOf, BarCount. Condition: at most 2^20 tempos, voices, notes of a voice. -/
import Derived.Test.YtmodpleonhniaaaGreatDoorSng
import Derived.Test.YtmodpleonhniaaaGreatDoorTks
import Derived.Test.YtmodpleonhniaaaGreatDoorTemp2
namespace Go.Proofs.YtmodpleonhniaaaGreatDoor
open Go.RowKit
set_option linter.unusedSimpArgs false
set_option linter.unusedVariables false
set_option maxRecDepth 100000
/-- the ticks of the longest of the first k voices -/
def lgTo (vs : List (List Nt)) : Nat → Int
  | 0 => 0
  | k + 1 => max (lgTo vs k) (ticksL (glV vs k))
def lgL (vs : List (List Nt)) : Int := lgTo vs vs.length
theorem lgTo_bd {vs : List (List Nt)} (h : ∀ k, k < vs.length → vvB (glV vs k) = true) : ∀ k, k ≤ vs.length → 0 ≤ lgTo vs k ∧ lgTo vs k ≤ 46080 := by
  intro k
  induction k with
  | zero => intro _; simp [lgTo]
  | succ k ih =>
    intro hk
    have h1 := ih (by omega)
    have h2 := tk_bd (h k (by omega))
    simp only [lgTo]; omega
def sbL (f b u : Int) (ts : List (Int × Int)) (vs : List (List Nt)) : Int := if svB f b u ts vs = true then (lgL vs + btL b u - 1) / btL b u else -1
def smL (f b u : Int) (ts : List (Int × Int)) (vs : List (List Nt)) : Int := if svB f b u ts vs = true then timeL ts (lgL vs) else -1
/-- the bars of a voice -/
def bcL (v : List Nt) (q : Int) : Int := (ticksL v + q - 1) / q
def bcTo (vs : List (List Nt)) (q : Int) : Nat → Int
  | 0 => 0
  | k + 1 => max (bcTo vs q k) (bcL (glV vs k) q)
theorem ceil_max {a b q : Int} (hq : 0 < q) : (max a b + q - 1) / q = max ((a + q - 1) / q) ((b + q - 1) / q) := by
  rcases Int.le_total a b with h | h
  · have h1 : (a + q - 1) / q ≤ (b + q - 1) / q := Int.ediv_le_ediv hq (by omega)
    rw [Int.max_eq_right h, Int.max_eq_right h1]
  · have h1 : (b + q - 1) / q ≤ (a + q - 1) / q := Int.ediv_le_ediv hq (by omega)
    rw [Int.max_eq_left h, Int.max_eq_left h1]
theorem bcTo_eq {vs : List (List Nt)} {q : Int} (hq : 0 < q) : ∀ k, bcTo vs q k = (lgTo vs k + q - 1) / q := by
  intro k
  induction k with
  | zero => simp only [bcTo, lgTo]; rw [show (0 : Int) + q - 1 = q - 1 by omega, Int.ediv_eq_zero_of_lt (by omega) (by omega)]
  | succ k ih => simp only [bcTo, lgTo, bcL]; rw [ih, ceil_max hq]
theorem bc_bd {v : List Nt} {q : Int} (hv : vvB v = true) (hq : 12 ≤ q ∧ q ≤ 1152) : 0 ≤ bcL v q ∧ bcL v q ≤ 50000 := by
  have h := tk_bd hv
  unfold bcL
  have h1 : 0 ≤ (ticksL v + q - 1) / q := Int.ediv_nonneg (by omega) (by omega)
  have h2 : (ticksL v + q - 1) / q ≤ ticksL v + q - 1 := Int.ediv_le_self _ (by omega)
  exact ⟨h1, by omega⟩
theorem bcTo_bd {vs : List (List Nt)} {q : Int} (h : ∀ k, k < vs.length → vvB (glV vs k) = true) (hq : 12 ≤ q ∧ q ≤ 1152) : ∀ k, k ≤ vs.length → 0 ≤ bcTo vs q k ∧ bcTo vs q k ≤ 50000 := by
  intro k
  induction k with
  | zero => intro _; simp [bcTo]
  | succ k ih =>
    intro hk
    have h1 := ih (by omega)
    have h2 := bc_bd (h k (by omega)) hq
    simp only [bcTo]; omega
theorem impl_TimeOf (A : Option Addr) (c : Nat) (ts : List (Int × Int)) (t : Int) (w : World) (hr : RdTempo w w.heap.size A ts) (hv : tvB ts = true) (ht : 0 ≤ t ∧ t ≤ 50000) :
    Calls Tryz.prog 64 #[.slice A ts.length c, .int .i64 t] w (RetI w (timeL ts t)) := by
  have hl := (tvB_iff.1 hv).1
  have HR := Lib.hid hr; have HV := Lib.hid hv; clear hr hv
  have hin : inR t 0 50000 = true := inR_iff.2 ht
  have HN := Lib.hid hin; clear hin
  go_enter Tryz.func64, Tryz.ntmps64
  go_wp2_with fail
  refine (impl_TemposValid _ _ _ _ HR.out (by omega)).mono ?_
  rw [HV.out]
  rintro e w1 ⟨rfl, b1⟩
  have z1 := b1.size
  have HR1 := Lib.hid (RdTempo.more (RdTempo.below HR.out b1 (by omega)) z1); have HB := Lib.hid b1; clear b1
  go_wp2_with (go_at_call 42; refine (impl_within _ _ _ _).mono ?_; rw [HN.out]; rintro e w' ⟨rfl, rfl⟩)
  refine (impl_timeOf _ _ _ _ _ HR1.out HV.out (by omega) (by omega)).mono ?_
  rintro e w2 ⟨rfl, b2⟩
  have HB2 := Lib.hid (HB.out.trans (b2.mono z1)); clear b2
  go_wp2_with fail
  go_ret
  exact ⟨rfl, HB2.out⟩
theorem spec_TimeOf (A : Option Addr) (c : Nat) (ts : List (Int × Int)) (t : Int) (w : World) (hr : RdTempo w w.heap.size A ts) (hv : tvB ts = true) (ht : 0 ≤ t ∧ t ≤ 50000) :
    Calls Tryz.prog 47 #[.slice A ts.length c, .int .i64 t] w (RetI w (timeL ts t)) := by
  have hl := (tvB_iff.1 hv).1
  have HR := Lib.hid hr; have HV := Lib.hid hv; clear hr hv
  have hin : inR t 0 50000 = true := inR_iff.2 ht
  have HN := Lib.hid hin; clear hin
  go_enter Tryz.func47, Tryz.ntmps47
  go_wp2_with fail
  refine (spec_TemposValid _ _ _ _ HR.out (by omega)).mono ?_
  rw [HV.out]
  rintro e w1 ⟨rfl, b1⟩
  have z1 := b1.size
  have HR1 := Lib.hid (RdTempo.more (RdTempo.below HR.out b1 (by omega)) z1); have HB := Lib.hid b1; clear b1
  go_wp2_with (go_at_call 20; refine (spec_l1In _ _ _ _).mono ?_; rw [HN.out]; rintro e w' ⟨rfl, rfl⟩)
  refine (spec_l19Time _ _ _ _ _ HR1.out HV.out (by omega) (by omega)).mono ?_
  rintro e w2 ⟨rfl, b2⟩
  have HB2 := Lib.hid (HB.out.trans (b2.mono z1)); clear b2
  go_wp2_with fail
  go_ret
  exact ⟨rfl, HB2.out⟩
theorem spec_BarCount (A : Option Addr) (c : Nat) (v : List Nt) (b u : Int) (w : World) (hr : RdNote w w.heap.size A v) (hv : vvB v = true) (hm : mvB b u = true) :
    Calls Tryz.prog 44 #[.slice A v.length c, .agg #[.int .i64 b, .int .i64 u]] w (RetI w (bcL v (btL b u))) := by
  have hlen := vv_len hv
  have htk := tk_bd hv
  have hbt := (btL_bd hm).2
  have HR := Lib.hid (RdNote.more (RdNote.al hr (Nat.le_refl _) (.cells #[.int .i64 b, .int .i64 u] 24)) (show w.heap.size ≤ (w.alloc (.cells #[.int .i64 b, .int .i64 u] 24)).heap.size by simp))
  have HK := Lib.hid (Blk.new w 24 #[.int .i64 b, .int .i64 u])
  have HB := Lib.hid ((Below.refl w.heap.size w).alloc (Nat.le_refl _) (.cells #[.int .i64 b, .int .i64 u] 24))
  have z0 : w.heap.size + 1 ≤ (w.alloc (.cells #[.int .i64 b, .int .i64 u] 24)).heap.size := by simp
  have HV := Lib.hid hv; have HM := Lib.hid hm; clear hr hv hm
  go_enter Tryz.func44, Tryz.ntmps44
  go_upto_region 1 with fail
  generalize w.alloc (.cells #[.int .i64 b, .int .i64 u] 24) = w0 at *
  go_wp2_with fail
  refine (spec_VoiceValid _ _ _ _ HR.out (by omega)).mono ?_
  rw [HV.out]
  rintro e w1 ⟨rfl, b1⟩
  have z1 := b1.size
  replace HR := Lib.hid (RdNote.more (RdNote.below HR.out b1 (by omega)) z1); replace HK := Lib.hid (HK.out.below b1 (by omega)); replace HB := Lib.hid (HB.out.trans (b1.mono (by omega))); clear b1
  have c0 := HK.out.cell 0; have c1 := HK.out.cell 1
  go_wp2_with fail
  refine (spec_MeterValid b u _).mono ?_
  rw [HM.out]
  rintro e w2 ⟨rfl, b2⟩
  have z2 := b2.size
  replace HR := Lib.hid (RdNote.more (RdNote.below HR.out b2 (by omega)) z2); replace HK := Lib.hid (HK.out.below b2 (by omega)); replace HB := Lib.hid (HB.out.trans (b2.mono (by omega))); clear b2 c0 c1
  have c0 := HK.out.cell 0; have c1 := HK.out.cell 1
  go_wp2_with fail
  refine (spec_BarTicks b u _).mono ?_
  rintro e w3 ⟨rfl, b3⟩
  have z3 := b3.size
  replace HR := Lib.hid (RdNote.more (RdNote.below HR.out b3 (by omega)) z3); replace HB := Lib.hid (HB.out.trans (b3.mono (by omega))); clear b3 c0 c1
  generalize hq : btL b u = q at *
  go_wp2_with fail
  refine (spec_VoiceTicks _ _ _ _ HR.out HV.out).mono ?_
  rintro e w4 ⟨rfl, b4⟩
  replace HB := Lib.hid (HB.out.trans (b4.mono (by omega))); clear b4
  have HF : Hid ((ticksL v + q - 1) / q = bcL v q) := Lib.hid rfl
  generalize ticksL v = tk at *
  have hq0 : q ≠ 0 := by omega
  have hq1 : q ≠ -1 := by omega
  have hdv : (tk + q - 1).tdiv q = (tk + q - 1) / q := Int.tdiv_eq_ediv_of_nonneg (by omega)
  have hb1 : 0 ≤ (tk + q - 1) / q := Int.ediv_nonneg (by omega) (by omega)
  have hb2 : (tk + q - 1) / q ≤ tk + q - 1 := Int.ediv_le_self _ (by omega)
  generalize hr9 : (tk + q - 1) / q = r9 at *
  have hw9 : IntKind.i64.wrap r9 = r9 := IntWalk.i64_in _ (by omega)
  clear hr9
  go_wp2_with fail
  go_ret
  exact ⟨ret_int HF.out, HB.out⟩
set_option maxHeartbeats 4000000 in
theorem impl_longest (f : Int) (m : Bool) (b u : Int) (C A : Option Addr) (d c : Nat) (ts : List (Int × Int)) (vs : List (List Nt)) (w : World) (hT : RdTempo w w.heap.size C ts) (hV : RdVs w w.heap.size A vs) (hlt : ts.length ≤ 1048576) (hlv : LenV vs) (h4 : vs.length ≤ 4) (hall : ∀ k, k < vs.length → vvB (glV vs k) = true) :
    Calls Tryz.prog 62 #[.agg #[.int .i64 f, .bool m, .int .i64 b, .int .i64 u, .slice C ts.length d, .slice A vs.length c]] w (RetI w (lgL vs)) := by
  have HA := Lib.hid hall; have HBD := Lib.hid (lgTo_bd hall); clear hall
  have HK := Lib.hid (Blk.new w 28 #[.int .i64 f, .bool m, .int .i64 b, .int .i64 u, .slice C ts.length d, .slice A vs.length c])
  have HT := Lib.hid (RdTempo.more (RdTempo.al hT (Nat.le_refl _) (.cells #[.int .i64 f, .bool m, .int .i64 b, .int .i64 u, .slice C ts.length d, .slice A vs.length c] 28)) (show w.heap.size ≤ (w.alloc (.cells #[.int .i64 f, .bool m, .int .i64 b, .int .i64 u, .slice C ts.length d, .slice A vs.length c] 28)).heap.size by simp))
  have HV := Lib.hid (RdVs.more (RdVs.al hV (Nat.le_refl _) (.cells #[.int .i64 f, .bool m, .int .i64 b, .int .i64 u, .slice C ts.length d, .slice A vs.length c] 28)) (show w.heap.size ≤ (w.alloc (.cells #[.int .i64 f, .bool m, .int .i64 b, .int .i64 u, .slice C ts.length d, .slice A vs.length c] 28)).heap.size by simp))
  have HB := Lib.hid ((Below.refl w.heap.size w).alloc (Nat.le_refl _) (.cells #[.int .i64 f, .bool m, .int .i64 b, .int .i64 u, .slice C ts.length d, .slice A vs.length c] 28))
  have z0 : w.heap.size + 1 ≤ (w.alloc (.cells #[.int .i64 f, .bool m, .int .i64 b, .int .i64 u, .slice C ts.length d, .slice A vs.length c] 28)).heap.size := by simp
  clear hT hV
  go_enter Tryz.func62, Tryz.ntmps62
  go_upto_region 1 with fail
  generalize w.alloc (.cells #[.int .i64 f, .bool m, .int .i64 b, .int .i64 u, .slice C ts.length d, .slice A vs.length c] 28) = w0 at *
  have c0 := HK.out.cell 0; have c1 := HK.out.cell 1; have c2 := HK.out.cell 2; have c3 := HK.out.cell 3; have c4 := HK.out.cell 4; have c5 := HK.out.cell 5
  have zz := HB.out.size
  go_wp2_with fail
  go_loopw [3, 5, 9] (fun q _ i wr => ∃ k : Nat, k ≤ vs.length ∧ i = .int .i64 k ∧ q = .int .i64 (lgTo vs k) ∧ Below w0.heap.size w0 wr) (fun _ _ i _ => vs.length - (intOf i).toNat)
  case atStart => exact ⟨0, Nat.zero_le _, rfl, rfl, Below.refl _ _⟩
  case round =>
    obtain ⟨k, hk, rfl, rfl, hbel⟩ := hrel
    have hsz := hbel.size
    have HR := Lib.hid hbel
    by_cases hlt2 : k < vs.length
    · obtain ⟨b8, off, C8, d8, rfl, hb8, hc8, hn8⟩ := (HV.out.below hbel (Nat.le_refl _)).at_ hlt2
      have HN := Lib.hid (RdNote.more hn8 hsz); clear hn8 hbel
      have hi1 : (k : Int) < (vs.length : Int) := by omega
      have hbd := HBD.out k hk
      have htk := tk_bd (HA.out k hlt2)
      have HS : Hid (lgTo vs (k + 1) = max (lgTo vs k) (ticksL (glV vs k))) := Lib.hid rfl
      go_wp2_with fail
      refine (impl_voiceTicks _ _ _ _ HN.out (HA.out k hlt2)).mono ?_
      rintro e w9 ⟨rfl, b9⟩
      have HB9 := Lib.hid (HR.out.trans (b9.mono hsz)); clear b9
      generalize lgTo vs k = q at *
      generalize ticksL (glV vs k) = tk at *
      go_wp2_with fail
      all_goals
        go_roundw
        case rel => exact ⟨k + 1, by omega, by go_num, congrArg (Value.int IntKind.i64) (by rw [HS.out]; first | omega | (split <;> omega)), HB9.out⟩
        case measure => simp [intOf]; omega
    · obtain rfl : k = vs.length := by omega
      clear hbel
      go_wp2_with fail
      go_ret
      exact ⟨rfl, HB.out.trans (HR.out.mono zz)⟩
set_option maxHeartbeats 4000000 in
theorem impl_SongBars (f : Int) (m : Bool) (b u : Int) (C A : Option Addr) (d c : Nat) (ts : List (Int × Int)) (vs : List (List Nt)) (w : World) (hT : RdTempo w w.heap.size C ts) (hV : RdVs w w.heap.size A vs) (hlt : ts.length ≤ 1048576) (hlv : LenV vs) :
    Calls Tryz.prog 38 #[.agg #[.int .i64 f, .bool m, .int .i64 b, .int .i64 u, .slice C ts.length d, .slice A vs.length c]] w (RetI w (sbL f b u ts vs)) := by
  cases hs : svB f b u ts vs
  · have HF : Hid (sbL f b u ts vs = -1) := Lib.hid (if_neg (by rw [hs]; decide)); have HS := Lib.hid hs; clear hs
    have HK := Lib.hid (Blk.new w 28 #[.int .i64 f, .bool m, .int .i64 b, .int .i64 u, .slice C ts.length d, .slice A vs.length c])
    have HT := Lib.hid (RdTempo.more (RdTempo.al hT (Nat.le_refl _) (.cells #[.int .i64 f, .bool m, .int .i64 b, .int .i64 u, .slice C ts.length d, .slice A vs.length c] 28)) (show w.heap.size ≤ (w.alloc (.cells #[.int .i64 f, .bool m, .int .i64 b, .int .i64 u, .slice C ts.length d, .slice A vs.length c] 28)).heap.size by simp))
    have HV := Lib.hid (RdVs.more (RdVs.al hV (Nat.le_refl _) (.cells #[.int .i64 f, .bool m, .int .i64 b, .int .i64 u, .slice C ts.length d, .slice A vs.length c] 28)) (show w.heap.size ≤ (w.alloc (.cells #[.int .i64 f, .bool m, .int .i64 b, .int .i64 u, .slice C ts.length d, .slice A vs.length c] 28)).heap.size by simp))
    have HB := Lib.hid ((Below.refl w.heap.size w).alloc (Nat.le_refl _) (.cells #[.int .i64 f, .bool m, .int .i64 b, .int .i64 u, .slice C ts.length d, .slice A vs.length c] 28))
    have z0 : w.heap.size + 1 ≤ (w.alloc (.cells #[.int .i64 f, .bool m, .int .i64 b, .int .i64 u, .slice C ts.length d, .slice A vs.length c] 28)).heap.size := by simp
    clear hT hV
    go_enter Tryz.func38, Tryz.ntmps38
    go_upto_region 1 with fail
    generalize w.alloc (.cells #[.int .i64 f, .bool m, .int .i64 b, .int .i64 u, .slice C ts.length d, .slice A vs.length c] 28) = w0 at *
    have c0 := HK.out.cell 0; have c1 := HK.out.cell 1; have c2 := HK.out.cell 2; have c3 := HK.out.cell 3; have c4 := HK.out.cell 4; have c5 := HK.out.cell 5
    go_wp2_with fail
    refine (impl_SongValid f m b u _ _ _ _ ts vs _ HT.out HV.out hlt hlv).mono ?_
    rw [HS.out]
    rintro e w1 ⟨rfl, b1⟩
    have z1 := b1.size
    clear c0 c1 c2 c3 c4 c5
    replace HK := Lib.hid (HK.out.below b1 (by omega)); replace HT := Lib.hid (RdTempo.more (RdTempo.below HT.out b1 (by omega)) z1); replace HV := Lib.hid (RdVs.more (RdVs.below HV.out b1 (by omega)) z1); replace HB := Lib.hid (HB.out.trans (b1.mono (by omega)))
    clear b1
    have c0 := HK.out.cell 0; have c1 := HK.out.cell 1; have c2 := HK.out.cell 2; have c3 := HK.out.cell 3; have c4 := HK.out.cell 4; have c5 := HK.out.cell 5
    go_wp2_with fail
    go_ret
    exact ⟨ret_int HF.out.symm, HB.out⟩
  have HS := Lib.hid hs
  obtain ⟨s1, s2, s3, s4, s5⟩ := svB_iff.1 hs
  have HM := Lib.hid s2; have HTV := Lib.hid s3; have HA := Lib.hid s5; have HBD := Lib.hid (lgTo_bd s5)
  have HF : Hid ((lgL vs + btL b u - 1) / btL b u = sbL f b u ts vs) := Lib.hid (if_pos hs).symm
  have hbt := (btL_bd s2).2
  have hlg : 0 ≤ lgL vs ∧ lgL vs ≤ 46080 := HBD.out vs.length (Nat.le_refl _)
  clear hs s1 s2 s3 s5
  have HK := Lib.hid (Blk.new w 28 #[.int .i64 f, .bool m, .int .i64 b, .int .i64 u, .slice C ts.length d, .slice A vs.length c])
  have HT := Lib.hid (RdTempo.more (RdTempo.al hT (Nat.le_refl _) (.cells #[.int .i64 f, .bool m, .int .i64 b, .int .i64 u, .slice C ts.length d, .slice A vs.length c] 28)) (show w.heap.size ≤ (w.alloc (.cells #[.int .i64 f, .bool m, .int .i64 b, .int .i64 u, .slice C ts.length d, .slice A vs.length c] 28)).heap.size by simp))
  have HV := Lib.hid (RdVs.more (RdVs.al hV (Nat.le_refl _) (.cells #[.int .i64 f, .bool m, .int .i64 b, .int .i64 u, .slice C ts.length d, .slice A vs.length c] 28)) (show w.heap.size ≤ (w.alloc (.cells #[.int .i64 f, .bool m, .int .i64 b, .int .i64 u, .slice C ts.length d, .slice A vs.length c] 28)).heap.size by simp))
  have HB := Lib.hid ((Below.refl w.heap.size w).alloc (Nat.le_refl _) (.cells #[.int .i64 f, .bool m, .int .i64 b, .int .i64 u, .slice C ts.length d, .slice A vs.length c] 28))
  have z0 : w.heap.size + 1 ≤ (w.alloc (.cells #[.int .i64 f, .bool m, .int .i64 b, .int .i64 u, .slice C ts.length d, .slice A vs.length c] 28)).heap.size := by simp
  clear hT hV
  go_enter Tryz.func38, Tryz.ntmps38
  go_upto_region 1 with fail
  generalize w.alloc (.cells #[.int .i64 f, .bool m, .int .i64 b, .int .i64 u, .slice C ts.length d, .slice A vs.length c] 28) = w0 at *
  have c0 := HK.out.cell 0; have c1 := HK.out.cell 1; have c2 := HK.out.cell 2; have c3 := HK.out.cell 3; have c4 := HK.out.cell 4; have c5 := HK.out.cell 5
  go_wp2_with fail
  refine (impl_SongValid f m b u _ _ _ _ ts vs _ HT.out HV.out hlt hlv).mono ?_
  rw [HS.out]
  rintro e w1 ⟨rfl, b1⟩
  have z1 := b1.size
  clear c0 c1 c2 c3 c4 c5
  replace HK := Lib.hid (HK.out.below b1 (by omega)); replace HT := Lib.hid (RdTempo.more (RdTempo.below HT.out b1 (by omega)) z1); replace HV := Lib.hid (RdVs.more (RdVs.below HV.out b1 (by omega)) z1); replace HB := Lib.hid (HB.out.trans (b1.mono (by omega)))
  clear b1
  have c0 := HK.out.cell 0; have c1 := HK.out.cell 1; have c2 := HK.out.cell 2; have c3 := HK.out.cell 3; have c4 := HK.out.cell 4; have c5 := HK.out.cell 5
  go_wp2_with fail
  refine (impl_BarTicks b u _).mono ?_
  rintro e w2 ⟨rfl, b2⟩
  have z2 := b2.size
  clear c0 c1 c2 c3 c4 c5
  replace HK := Lib.hid (HK.out.below b2 (by omega)); replace HT := Lib.hid (RdTempo.more (RdTempo.below HT.out b2 (by omega)) z2); replace HV := Lib.hid (RdVs.more (RdVs.below HV.out b2 (by omega)) z2); replace HB := Lib.hid (HB.out.trans (b2.mono (by omega)))
  clear b2
  have c0 := HK.out.cell 0; have c1 := HK.out.cell 1; have c2 := HK.out.cell 2; have c3 := HK.out.cell 3; have c4 := HK.out.cell 4; have c5 := HK.out.cell 5
  generalize hq : btL b u = q at *
  go_wp2_with fail
  refine (impl_longest f m b u _ _ _ _ ts vs _ HT.out HV.out hlt hlv s4 HA.out).mono ?_
  rintro e w3 ⟨rfl, b3⟩
  have z3 := b3.size
  clear c0 c1 c2 c3 c4 c5
  replace HK := Lib.hid (HK.out.below b3 (by omega)); replace HT := Lib.hid (RdTempo.more (RdTempo.below HT.out b3 (by omega)) z3); replace HV := Lib.hid (RdVs.more (RdVs.below HV.out b3 (by omega)) z3); replace HB := Lib.hid (HB.out.trans (b3.mono (by omega)))
  clear b3
  have c0 := HK.out.cell 0; have c1 := HK.out.cell 1; have c2 := HK.out.cell 2; have c3 := HK.out.cell 3; have c4 := HK.out.cell 4; have c5 := HK.out.cell 5
  generalize lgL vs = tk at *
  have hq0 : q ≠ 0 := by omega
  have hq1 : q ≠ -1 := by omega
  have hdv : (tk + q - 1).tdiv q = (tk + q - 1) / q := Int.tdiv_eq_ediv_of_nonneg (by omega)
  have hb1 : 0 ≤ (tk + q - 1) / q := Int.ediv_nonneg (by omega) (by omega)
  have hb2 : (tk + q - 1) / q ≤ tk + q - 1 := Int.ediv_le_self _ (by omega)
  generalize hr9 : (tk + q - 1) / q = r9 at *
  have hw9 : IntKind.i64.wrap r9 = r9 := IntWalk.i64_in _ (by omega)
  clear hr9
  go_wp2_with fail
  go_ret
  exact ⟨ret_int HF.out, HB.out⟩
set_option maxHeartbeats 4000000 in
theorem spec_SongBars (f : Int) (m : Bool) (b u : Int) (C A : Option Addr) (d c : Nat) (ts : List (Int × Int)) (vs : List (List Nt)) (w : World) (hT : RdTempo w w.heap.size C ts) (hV : RdVs w w.heap.size A vs) (hlt : ts.length ≤ 1048576) (hlv : LenV vs) :
    Calls Tryz.prog 17 #[.agg #[.int .i64 f, .bool m, .int .i64 b, .int .i64 u, .slice C ts.length d, .slice A vs.length c]] w (RetI w (sbL f b u ts vs)) := by
  cases hs : svB f b u ts vs
  · have HF : Hid (sbL f b u ts vs = -1) := Lib.hid (if_neg (by rw [hs]; decide)); have HS := Lib.hid hs; clear hs
    have HK := Lib.hid (Blk.new w 28 #[.int .i64 f, .bool m, .int .i64 b, .int .i64 u, .slice C ts.length d, .slice A vs.length c])
    have HT := Lib.hid (RdTempo.more (RdTempo.al hT (Nat.le_refl _) (.cells #[.int .i64 f, .bool m, .int .i64 b, .int .i64 u, .slice C ts.length d, .slice A vs.length c] 28)) (show w.heap.size ≤ (w.alloc (.cells #[.int .i64 f, .bool m, .int .i64 b, .int .i64 u, .slice C ts.length d, .slice A vs.length c] 28)).heap.size by simp))
    have HV := Lib.hid (RdVs.more (RdVs.al hV (Nat.le_refl _) (.cells #[.int .i64 f, .bool m, .int .i64 b, .int .i64 u, .slice C ts.length d, .slice A vs.length c] 28)) (show w.heap.size ≤ (w.alloc (.cells #[.int .i64 f, .bool m, .int .i64 b, .int .i64 u, .slice C ts.length d, .slice A vs.length c] 28)).heap.size by simp))
    have HB := Lib.hid ((Below.refl w.heap.size w).alloc (Nat.le_refl _) (.cells #[.int .i64 f, .bool m, .int .i64 b, .int .i64 u, .slice C ts.length d, .slice A vs.length c] 28))
    have z0 : w.heap.size + 1 ≤ (w.alloc (.cells #[.int .i64 f, .bool m, .int .i64 b, .int .i64 u, .slice C ts.length d, .slice A vs.length c] 28)).heap.size := by simp
    clear hT hV
    go_enter Tryz.func17, Tryz.ntmps17
    go_upto_region 1 with fail
    generalize w.alloc (.cells #[.int .i64 f, .bool m, .int .i64 b, .int .i64 u, .slice C ts.length d, .slice A vs.length c] 28) = w0 at *
    have c0 := HK.out.cell 0; have c1 := HK.out.cell 1; have c2 := HK.out.cell 2; have c3 := HK.out.cell 3; have c4 := HK.out.cell 4; have c5 := HK.out.cell 5
    go_wp2_with fail
    refine (spec_SongValid f m b u _ _ _ _ ts vs _ HT.out HV.out hlt hlv).mono ?_
    rw [HS.out]
    rintro e w1 ⟨rfl, b1⟩
    have z1 := b1.size
    clear c0 c1 c2 c3 c4 c5
    replace HK := Lib.hid (HK.out.below b1 (by omega)); replace HT := Lib.hid (RdTempo.more (RdTempo.below HT.out b1 (by omega)) z1); replace HV := Lib.hid (RdVs.more (RdVs.below HV.out b1 (by omega)) z1); replace HB := Lib.hid (HB.out.trans (b1.mono (by omega)))
    clear b1
    have c0 := HK.out.cell 0; have c1 := HK.out.cell 1; have c2 := HK.out.cell 2; have c3 := HK.out.cell 3; have c4 := HK.out.cell 4; have c5 := HK.out.cell 5
    go_wp2_with fail
    go_ret
    exact ⟨ret_int HF.out.symm, HB.out⟩
  have HS := Lib.hid hs
  obtain ⟨s1, s2, s3, s4, s5⟩ := svB_iff.1 hs
  have HM := Lib.hid s2; have HTV := Lib.hid s3; have HA := Lib.hid s5; have HBD := Lib.hid (lgTo_bd s5)
  have hbt := (btL_bd s2).2
  have HF : Hid (bcTo vs (btL b u) vs.length = sbL f b u ts vs) := Lib.hid (by rw [bcTo_eq (by omega)]; exact (if_pos hs).symm)
  have HCB := Lib.hid (bcTo_bd s5 hbt)
  have HBB := Lib.hid (fun k (hk : k < vs.length) => bc_bd (s5 k hk) hbt)
  clear hs s1 s2 s3 s5
  have HK := Lib.hid (Blk.new w 28 #[.int .i64 f, .bool m, .int .i64 b, .int .i64 u, .slice C ts.length d, .slice A vs.length c])
  have HT := Lib.hid (RdTempo.more (RdTempo.al hT (Nat.le_refl _) (.cells #[.int .i64 f, .bool m, .int .i64 b, .int .i64 u, .slice C ts.length d, .slice A vs.length c] 28)) (show w.heap.size ≤ (w.alloc (.cells #[.int .i64 f, .bool m, .int .i64 b, .int .i64 u, .slice C ts.length d, .slice A vs.length c] 28)).heap.size by simp))
  have HV := Lib.hid (RdVs.more (RdVs.al hV (Nat.le_refl _) (.cells #[.int .i64 f, .bool m, .int .i64 b, .int .i64 u, .slice C ts.length d, .slice A vs.length c] 28)) (show w.heap.size ≤ (w.alloc (.cells #[.int .i64 f, .bool m, .int .i64 b, .int .i64 u, .slice C ts.length d, .slice A vs.length c] 28)).heap.size by simp))
  have HB := Lib.hid ((Below.refl w.heap.size w).alloc (Nat.le_refl _) (.cells #[.int .i64 f, .bool m, .int .i64 b, .int .i64 u, .slice C ts.length d, .slice A vs.length c] 28))
  have z0 : w.heap.size + 1 ≤ (w.alloc (.cells #[.int .i64 f, .bool m, .int .i64 b, .int .i64 u, .slice C ts.length d, .slice A vs.length c] 28)).heap.size := by simp
  clear hT hV
  go_enter Tryz.func17, Tryz.ntmps17
  go_upto_region 1 with fail
  generalize w.alloc (.cells #[.int .i64 f, .bool m, .int .i64 b, .int .i64 u, .slice C ts.length d, .slice A vs.length c] 28) = w0 at *
  have c0 := HK.out.cell 0; have c1 := HK.out.cell 1; have c2 := HK.out.cell 2; have c3 := HK.out.cell 3; have c4 := HK.out.cell 4; have c5 := HK.out.cell 5
  go_wp2_with fail
  refine (spec_SongValid f m b u _ _ _ _ ts vs _ HT.out HV.out hlt hlv).mono ?_
  rw [HS.out]
  rintro e w1 ⟨rfl, b1⟩
  have z1 := b1.size
  clear c0 c1 c2 c3 c4 c5
  replace HK := Lib.hid (HK.out.below b1 (by omega)); replace HT := Lib.hid (RdTempo.more (RdTempo.below HT.out b1 (by omega)) z1); replace HV := Lib.hid (RdVs.more (RdVs.below HV.out b1 (by omega)) z1); replace HB := Lib.hid (HB.out.trans (b1.mono (by omega)))
  clear b1
  have c0 := HK.out.cell 0; have c1 := HK.out.cell 1; have c2 := HK.out.cell 2; have c3 := HK.out.cell 3; have c4 := HK.out.cell 4; have c5 := HK.out.cell 5
  have zz := HB.out.size
  generalize w1 = ws at *
  go_wp2_with fail
  go_loopw [3, 4] (fun q i wr => ∃ k : Nat, k ≤ vs.length ∧ i = .int .i64 k ∧ q = .int .i64 (bcTo vs (btL b u) k) ∧ Below ws.heap.size ws wr) (fun _ i _ => vs.length - (intOf i).toNat)
  case atStart => exact ⟨0, Nat.zero_le _, rfl, rfl, Below.refl _ _⟩
  case round =>
    clear c0 c1 c2 c3 c4 c5
    obtain ⟨k, hk, rfl, rfl, hbel⟩ := hrel
    have hsz := hbel.size
    have HR := Lib.hid hbel
    have HKR := Lib.hid (HK.out.below hbel (by omega))
    have c2 := HKR.out.cell 2; have c3 := HKR.out.cell 3; have c5 := HKR.out.cell 5
    by_cases hlt2 : k < vs.length
    · obtain ⟨b8, off, C8, d8, rfl, hb8, hc8, hn8⟩ := (HV.out.below hbel (Nat.le_refl _)).at_ hlt2
      have HN := Lib.hid (RdNote.more hn8 hsz); clear hn8 hbel
      have hi1 : (k : Int) < (vs.length : Int) := by omega
      have hbd := HCB.out k hk
      have hbb := HBB.out k hlt2
      have HSS : Hid (bcTo vs (btL b u) (k + 1) = max (bcTo vs (btL b u) k) (bcL (glV vs k) (btL b u))) := Lib.hid rfl
      go_wp2_with fail
      go_region_held3 (fun w' => w'.cell? ⟨w.heap.size, 2, none⟩ = some (.int .i64 b) ∧ w'.cell? ⟨w.heap.size, 3, none⟩ = some (.int .i64 u) ∧ w'.cell? ⟨w.heap.size, 5, none⟩ = some (.slice (some ⟨b8, off, none⟩) vs.length c) ∧ w'.cell? ⟨b8, off + k, none⟩ = some (.slice C8 (glV vs k).length d8))
        (first | exact ⟨c2, c3, c5, hc8⟩ | exact ⟨K9.out.cell 2, K9.out.cell 3, K9.out.cell 5, (b9.cell (p := ⟨b8, off + k, none⟩) (show b8 < wr.heap.size by omega)).trans hc8⟩)
        (first | (go_at_call 44; refine (spec_BarCount _ _ (glV vs k) b u _ (show RdNote wr.drew wr.drew.heap.size C8 (glV vs k) from HN.out) (HA.out k hlt2) HM.out).mono ?_; rintro e w9 ⟨rfl, b9⟩; have sd : wr.drew.heap.size = wr.heap.size := rfl; have K9 := Lib.hid (HKR.out.drew.below b9 (by omega))))
      all_goals
        have HB9 := Lib.hid (HR.out.trans ((below_drew_left b9).mono hsz)); clear b9 K9 c2 c3 c5
        generalize bcTo vs (btL b u) k = q at *
        generalize bcL (glV vs k) (btL b u) = tk at *
        go_wp2_with fail
      all_goals
        go_roundw
        case' rel => exact ⟨k + 1, by omega, by go_num, congrArg (Value.int IntKind.i64) (by rw [HSS.out]; first | omega | (split <;> omega)), HB9.out⟩
        case' measure => simp [intOf]; omega
    · obtain rfl : k = vs.length := by omega
      clear hbel
      go_wp2_with fail
      go_ret
      exact ⟨ret_int HF.out, HB.out.trans (HR.out.mono zz)⟩
set_option maxHeartbeats 4000000 in
theorem impl_SongTime (f : Int) (m : Bool) (b u : Int) (C A : Option Addr) (d c : Nat) (ts : List (Int × Int)) (vs : List (List Nt)) (w : World) (hT : RdTempo w w.heap.size C ts) (hV : RdVs w w.heap.size A vs) (hlt : ts.length ≤ 1048576) (hlv : LenV vs) :
    Calls Tryz.prog 40 #[.agg #[.int .i64 f, .bool m, .int .i64 b, .int .i64 u, .slice C ts.length d, .slice A vs.length c]] w (RetI w (smL f b u ts vs)) := by
  cases hs : svB f b u ts vs
  · have HF : Hid (smL f b u ts vs = -1) := Lib.hid (if_neg (by rw [hs]; decide)); have HS := Lib.hid hs; clear hs
    have HK := Lib.hid (Blk.new w 28 #[.int .i64 f, .bool m, .int .i64 b, .int .i64 u, .slice C ts.length d, .slice A vs.length c])
    have HT := Lib.hid (RdTempo.more (RdTempo.al hT (Nat.le_refl _) (.cells #[.int .i64 f, .bool m, .int .i64 b, .int .i64 u, .slice C ts.length d, .slice A vs.length c] 28)) (show w.heap.size ≤ (w.alloc (.cells #[.int .i64 f, .bool m, .int .i64 b, .int .i64 u, .slice C ts.length d, .slice A vs.length c] 28)).heap.size by simp))
    have HV := Lib.hid (RdVs.more (RdVs.al hV (Nat.le_refl _) (.cells #[.int .i64 f, .bool m, .int .i64 b, .int .i64 u, .slice C ts.length d, .slice A vs.length c] 28)) (show w.heap.size ≤ (w.alloc (.cells #[.int .i64 f, .bool m, .int .i64 b, .int .i64 u, .slice C ts.length d, .slice A vs.length c] 28)).heap.size by simp))
    have HB := Lib.hid ((Below.refl w.heap.size w).alloc (Nat.le_refl _) (.cells #[.int .i64 f, .bool m, .int .i64 b, .int .i64 u, .slice C ts.length d, .slice A vs.length c] 28))
    have z0 : w.heap.size + 1 ≤ (w.alloc (.cells #[.int .i64 f, .bool m, .int .i64 b, .int .i64 u, .slice C ts.length d, .slice A vs.length c] 28)).heap.size := by simp
    clear hT hV
    go_enter Tryz.func40, Tryz.ntmps40
    go_upto_region 1 with fail
    generalize w.alloc (.cells #[.int .i64 f, .bool m, .int .i64 b, .int .i64 u, .slice C ts.length d, .slice A vs.length c] 28) = w0 at *
    have c0 := HK.out.cell 0; have c1 := HK.out.cell 1; have c2 := HK.out.cell 2; have c3 := HK.out.cell 3; have c4 := HK.out.cell 4; have c5 := HK.out.cell 5
    go_wp2_with fail
    refine (impl_SongValid f m b u _ _ _ _ ts vs _ HT.out HV.out hlt hlv).mono ?_
    rw [HS.out]
    rintro e w1 ⟨rfl, b1⟩
    have z1 := b1.size
    clear c0 c1 c2 c3 c4 c5
    replace HK := Lib.hid (HK.out.below b1 (by omega)); replace HT := Lib.hid (RdTempo.more (RdTempo.below HT.out b1 (by omega)) z1); replace HV := Lib.hid (RdVs.more (RdVs.below HV.out b1 (by omega)) z1); replace HB := Lib.hid (HB.out.trans (b1.mono (by omega)))
    clear b1
    have c0 := HK.out.cell 0; have c1 := HK.out.cell 1; have c2 := HK.out.cell 2; have c3 := HK.out.cell 3; have c4 := HK.out.cell 4; have c5 := HK.out.cell 5
    go_wp2_with fail
    go_ret
    exact ⟨ret_int HF.out.symm, HB.out⟩
  have HS := Lib.hid hs
  obtain ⟨s1, s2, s3, s4, s5⟩ := svB_iff.1 hs
  have HM := Lib.hid s2; have HTV := Lib.hid s3; have HA := Lib.hid s5; have HBD := Lib.hid (lgTo_bd s5)
  have HF : Hid (timeL ts (lgL vs) = smL f b u ts vs) := Lib.hid (if_pos hs).symm
  have hlg : 0 ≤ lgL vs ∧ lgL vs ≤ 46080 := HBD.out vs.length (Nat.le_refl _)
  clear hs s1 s2 s3 s5
  have HK := Lib.hid (Blk.new w 28 #[.int .i64 f, .bool m, .int .i64 b, .int .i64 u, .slice C ts.length d, .slice A vs.length c])
  have HT := Lib.hid (RdTempo.more (RdTempo.al hT (Nat.le_refl _) (.cells #[.int .i64 f, .bool m, .int .i64 b, .int .i64 u, .slice C ts.length d, .slice A vs.length c] 28)) (show w.heap.size ≤ (w.alloc (.cells #[.int .i64 f, .bool m, .int .i64 b, .int .i64 u, .slice C ts.length d, .slice A vs.length c] 28)).heap.size by simp))
  have HV := Lib.hid (RdVs.more (RdVs.al hV (Nat.le_refl _) (.cells #[.int .i64 f, .bool m, .int .i64 b, .int .i64 u, .slice C ts.length d, .slice A vs.length c] 28)) (show w.heap.size ≤ (w.alloc (.cells #[.int .i64 f, .bool m, .int .i64 b, .int .i64 u, .slice C ts.length d, .slice A vs.length c] 28)).heap.size by simp))
  have HB := Lib.hid ((Below.refl w.heap.size w).alloc (Nat.le_refl _) (.cells #[.int .i64 f, .bool m, .int .i64 b, .int .i64 u, .slice C ts.length d, .slice A vs.length c] 28))
  have z0 : w.heap.size + 1 ≤ (w.alloc (.cells #[.int .i64 f, .bool m, .int .i64 b, .int .i64 u, .slice C ts.length d, .slice A vs.length c] 28)).heap.size := by simp
  clear hT hV
  go_enter Tryz.func40, Tryz.ntmps40
  go_upto_region 1 with fail
  generalize w.alloc (.cells #[.int .i64 f, .bool m, .int .i64 b, .int .i64 u, .slice C ts.length d, .slice A vs.length c] 28) = w0 at *
  have c0 := HK.out.cell 0; have c1 := HK.out.cell 1; have c2 := HK.out.cell 2; have c3 := HK.out.cell 3; have c4 := HK.out.cell 4; have c5 := HK.out.cell 5
  go_wp2_with fail
  refine (impl_SongValid f m b u _ _ _ _ ts vs _ HT.out HV.out hlt hlv).mono ?_
  rw [HS.out]
  rintro e w1 ⟨rfl, b1⟩
  have z1 := b1.size
  clear c0 c1 c2 c3 c4 c5
  replace HK := Lib.hid (HK.out.below b1 (by omega)); replace HT := Lib.hid (RdTempo.more (RdTempo.below HT.out b1 (by omega)) z1); replace HV := Lib.hid (RdVs.more (RdVs.below HV.out b1 (by omega)) z1); replace HB := Lib.hid (HB.out.trans (b1.mono (by omega)))
  clear b1
  have c0 := HK.out.cell 0; have c1 := HK.out.cell 1; have c2 := HK.out.cell 2; have c3 := HK.out.cell 3; have c4 := HK.out.cell 4; have c5 := HK.out.cell 5
  go_wp2_with fail
  go_region_held3 (fun w' => w'.cell? ⟨w.heap.size, 0, none⟩ = some (.int .i64 f) ∧ w'.cell? ⟨w.heap.size, 1, none⟩ = some (.bool m) ∧ w'.cell? ⟨w.heap.size, 2, none⟩ = some (.int .i64 b) ∧ w'.cell? ⟨w.heap.size, 3, none⟩ = some (.int .i64 u) ∧ w'.cell? ⟨w.heap.size, 4, none⟩ = some (.slice C ts.length d) ∧ w'.cell? ⟨w.heap.size, 5, none⟩ = some (.slice A vs.length c))
    (first | exact ⟨HK.out.cell 0, HK.out.cell 1, HK.out.cell 2, HK.out.cell 3, HK.out.cell 4, HK.out.cell 5⟩ | exact ⟨K8.out.cell 0, K8.out.cell 1, K8.out.cell 2, K8.out.cell 3, K8.out.cell 4, K8.out.cell 5⟩ | exact ⟨K9.out.cell 0, K9.out.cell 1, K9.out.cell 2, K9.out.cell 3, K9.out.cell 4, K9.out.cell 5⟩)
    (first
      | (go_at_call 62; refine (impl_longest f m b u _ _ _ _ ts vs _ (show RdTempo w1.drew w1.drew.heap.size C ts from HT.out) (show RdVs w1.drew w1.drew.heap.size A vs from HV.out) hlt hlv s4 HA.out).mono ?_; rintro e w8 ⟨rfl, b8⟩; have z8 : w1.heap.size ≤ w8.heap.size := b8.size; have sd : w1.drew.heap.size = w1.heap.size := rfl; have K8 := Lib.hid (HK.out.drew.below b8 (by omega)); have T8 := Lib.hid (RdTempo.more (RdTempo.below HT.out (below_drew_left b8) (by omega)) z8))
      | (go_at_call 64; refine (impl_TimeOf _ _ ts (lgL vs) _ T8.out HTV.out (by omega)).mono ?_; rintro e w9 ⟨rfl, b9⟩; have z9 : w8.heap.size ≤ w9.heap.size := b9.size; have K9 := Lib.hid (K8.out.below b9 (by omega))))
  all_goals
    have HB9 := Lib.hid (HB.out.trans (((below_drew_left b8).trans (b9.mono (by omega))).mono (by omega)))
    clear b8 b9 K8 K9 T8
    go_wp2_with fail
    go_ret
    exact ⟨ret_int HF.out, HB9.out⟩
set_option maxHeartbeats 4000000 in
theorem spec_SongTime (f : Int) (m : Bool) (b u : Int) (C A : Option Addr) (d c : Nat) (ts : List (Int × Int)) (vs : List (List Nt)) (w : World) (hT : RdTempo w w.heap.size C ts) (hV : RdVs w w.heap.size A vs) (hlt : ts.length ≤ 1048576) (hlv : LenV vs) :
    Calls Tryz.prog 19 #[.agg #[.int .i64 f, .bool m, .int .i64 b, .int .i64 u, .slice C ts.length d, .slice A vs.length c]] w (RetI w (smL f b u ts vs)) := by
  cases hs : svB f b u ts vs
  · have HF : Hid (smL f b u ts vs = -1) := Lib.hid (if_neg (by rw [hs]; decide)); have HS := Lib.hid hs; clear hs
    have HK := Lib.hid (Blk.new w 28 #[.int .i64 f, .bool m, .int .i64 b, .int .i64 u, .slice C ts.length d, .slice A vs.length c])
    have HT := Lib.hid (RdTempo.more (RdTempo.al hT (Nat.le_refl _) (.cells #[.int .i64 f, .bool m, .int .i64 b, .int .i64 u, .slice C ts.length d, .slice A vs.length c] 28)) (show w.heap.size ≤ (w.alloc (.cells #[.int .i64 f, .bool m, .int .i64 b, .int .i64 u, .slice C ts.length d, .slice A vs.length c] 28)).heap.size by simp))
    have HV := Lib.hid (RdVs.more (RdVs.al hV (Nat.le_refl _) (.cells #[.int .i64 f, .bool m, .int .i64 b, .int .i64 u, .slice C ts.length d, .slice A vs.length c] 28)) (show w.heap.size ≤ (w.alloc (.cells #[.int .i64 f, .bool m, .int .i64 b, .int .i64 u, .slice C ts.length d, .slice A vs.length c] 28)).heap.size by simp))
    have HB := Lib.hid ((Below.refl w.heap.size w).alloc (Nat.le_refl _) (.cells #[.int .i64 f, .bool m, .int .i64 b, .int .i64 u, .slice C ts.length d, .slice A vs.length c] 28))
    have z0 : w.heap.size + 1 ≤ (w.alloc (.cells #[.int .i64 f, .bool m, .int .i64 b, .int .i64 u, .slice C ts.length d, .slice A vs.length c] 28)).heap.size := by simp
    clear hT hV
    go_enter Tryz.func19, Tryz.ntmps19
    go_upto_region 1 with fail
    generalize w.alloc (.cells #[.int .i64 f, .bool m, .int .i64 b, .int .i64 u, .slice C ts.length d, .slice A vs.length c] 28) = w0 at *
    have c0 := HK.out.cell 0; have c1 := HK.out.cell 1; have c2 := HK.out.cell 2; have c3 := HK.out.cell 3; have c4 := HK.out.cell 4; have c5 := HK.out.cell 5
    go_wp2_with fail
    refine (spec_SongValid f m b u _ _ _ _ ts vs _ HT.out HV.out hlt hlv).mono ?_
    rw [HS.out]
    rintro e w1 ⟨rfl, b1⟩
    have z1 := b1.size
    clear c0 c1 c2 c3 c4 c5
    replace HK := Lib.hid (HK.out.below b1 (by omega)); replace HT := Lib.hid (RdTempo.more (RdTempo.below HT.out b1 (by omega)) z1); replace HV := Lib.hid (RdVs.more (RdVs.below HV.out b1 (by omega)) z1); replace HB := Lib.hid (HB.out.trans (b1.mono (by omega)))
    clear b1
    have c0 := HK.out.cell 0; have c1 := HK.out.cell 1; have c2 := HK.out.cell 2; have c3 := HK.out.cell 3; have c4 := HK.out.cell 4; have c5 := HK.out.cell 5
    go_wp2_with fail
    go_ret
    exact ⟨ret_int HF.out.symm, HB.out⟩
  have HS := Lib.hid hs
  obtain ⟨s1, s2, s3, s4, s5⟩ := svB_iff.1 hs
  have HM := Lib.hid s2; have HTV := Lib.hid s3; have HA := Lib.hid s5; have HBD := Lib.hid (lgTo_bd s5)
  have HF : Hid (timeL ts (lgL vs) = smL f b u ts vs) := Lib.hid (if_pos hs).symm
  have HLG : Hid (lgTo vs vs.length = lgL vs) := Lib.hid rfl
  have hlg : 0 ≤ lgL vs ∧ lgL vs ≤ 46080 := HBD.out vs.length (Nat.le_refl _)
  clear hs s1 s2 s3 s5
  have HK := Lib.hid (Blk.new w 28 #[.int .i64 f, .bool m, .int .i64 b, .int .i64 u, .slice C ts.length d, .slice A vs.length c])
  have HT := Lib.hid (RdTempo.more (RdTempo.al hT (Nat.le_refl _) (.cells #[.int .i64 f, .bool m, .int .i64 b, .int .i64 u, .slice C ts.length d, .slice A vs.length c] 28)) (show w.heap.size ≤ (w.alloc (.cells #[.int .i64 f, .bool m, .int .i64 b, .int .i64 u, .slice C ts.length d, .slice A vs.length c] 28)).heap.size by simp))
  have HV := Lib.hid (RdVs.more (RdVs.al hV (Nat.le_refl _) (.cells #[.int .i64 f, .bool m, .int .i64 b, .int .i64 u, .slice C ts.length d, .slice A vs.length c] 28)) (show w.heap.size ≤ (w.alloc (.cells #[.int .i64 f, .bool m, .int .i64 b, .int .i64 u, .slice C ts.length d, .slice A vs.length c] 28)).heap.size by simp))
  have HB := Lib.hid ((Below.refl w.heap.size w).alloc (Nat.le_refl _) (.cells #[.int .i64 f, .bool m, .int .i64 b, .int .i64 u, .slice C ts.length d, .slice A vs.length c] 28))
  have z0 : w.heap.size + 1 ≤ (w.alloc (.cells #[.int .i64 f, .bool m, .int .i64 b, .int .i64 u, .slice C ts.length d, .slice A vs.length c] 28)).heap.size := by simp
  clear hT hV
  go_enter Tryz.func19, Tryz.ntmps19
  go_upto_region 1 with fail
  generalize w.alloc (.cells #[.int .i64 f, .bool m, .int .i64 b, .int .i64 u, .slice C ts.length d, .slice A vs.length c] 28) = w0 at *
  have c0 := HK.out.cell 0; have c1 := HK.out.cell 1; have c2 := HK.out.cell 2; have c3 := HK.out.cell 3; have c4 := HK.out.cell 4; have c5 := HK.out.cell 5
  go_wp2_with fail
  refine (spec_SongValid f m b u _ _ _ _ ts vs _ HT.out HV.out hlt hlv).mono ?_
  rw [HS.out]
  rintro e w1 ⟨rfl, b1⟩
  have z1 := b1.size
  clear c0 c1 c2 c3 c4 c5
  replace HK := Lib.hid (HK.out.below b1 (by omega)); replace HT := Lib.hid (RdTempo.more (RdTempo.below HT.out b1 (by omega)) z1); replace HV := Lib.hid (RdVs.more (RdVs.below HV.out b1 (by omega)) z1); replace HB := Lib.hid (HB.out.trans (b1.mono (by omega)))
  clear b1
  have c0 := HK.out.cell 0; have c1 := HK.out.cell 1; have c2 := HK.out.cell 2; have c3 := HK.out.cell 3; have c4 := HK.out.cell 4; have c5 := HK.out.cell 5
  have zz := HB.out.size
  generalize w1 = ws at *
  go_wp2_with fail
  go_loopw [3, 4] (fun q i wr => ∃ k : Nat, k ≤ vs.length ∧ i = .int .i64 k ∧ q = .int .i64 (lgTo vs k) ∧ Below ws.heap.size ws wr) (fun _ i _ => vs.length - (intOf i).toNat)
  case atStart => exact ⟨0, Nat.zero_le _, rfl, rfl, Below.refl _ _⟩
  case round =>
    clear c0 c1 c2 c3 c4 c5
    obtain ⟨k, hk, rfl, rfl, hbel⟩ := hrel
    have hsz := hbel.size
    have HR := Lib.hid hbel
    have HKR := Lib.hid (HK.out.below hbel (by omega))
    have c4 := HKR.out.cell 4; have c5 := HKR.out.cell 5
    by_cases hlt2 : k < vs.length
    · obtain ⟨b8, off, C8, d8, rfl, hb8, hc8, hn8⟩ := (HV.out.below hbel (Nat.le_refl _)).at_ hlt2
      have HN := Lib.hid (RdNote.more hn8 hsz); clear hn8 hbel
      have hi1 : (k : Int) < (vs.length : Int) := by omega
      have hbd := HBD.out k hk
      have htk := tk_bd (HA.out k hlt2)
      have HSS : Hid (lgTo vs (k + 1) = max (lgTo vs k) (ticksL (glV vs k))) := Lib.hid rfl
      go_wp2_with fail
      refine (spec_VoiceTicks _ _ _ _ HN.out (HA.out k hlt2)).mono ?_
      rintro e w9 ⟨rfl, b9⟩
      have HB9 := Lib.hid (HR.out.trans (b9.mono hsz)); clear b9 c4 c5
      generalize lgTo vs k = q at *
      generalize ticksL (glV vs k) = tk at *
      go_wp2_with fail
      all_goals
        go_roundw
        case rel => exact ⟨k + 1, by omega, by go_num, congrArg (Value.int IntKind.i64) (by rw [HSS.out]; first | omega | (split <;> omega)), HB9.out⟩
        case measure => simp [intOf]; omega
    · obtain rfl : k = vs.length := by omega
      have HT8 := Lib.hid (RdTempo.more (RdTempo.below HT.out hbel (Nat.le_refl _)) hsz)
      clear hbel
      rw [HLG.out]
      go_wp2_with fail
      refine (spec_TimeOf _ _ ts (lgL vs) _ HT8.out HTV.out (by omega)).mono ?_
      rintro e w8 ⟨rfl, b8⟩
      have HB8 := Lib.hid (HB.out.trans ((HR.out.trans (b8.mono hsz)).mono zz)); clear b8
      go_wp2_with fail
      go_ret
      exact ⟨ret_int HF.out, HB8.out⟩
end Go.Proofs.YtmodpleonhniaaaGreatDoor
