/- Contracts of SongFaults, of the program and of the reference. Condition: at most 2^20 tempos, voices, notes of a voice. -/
import Derived.Test.YtmodpleonhniaaaGreatDoorSng
import Derived.Test.YtmodpleonhniaaaGreatDoorKys
import Derived.Test.YtmodpleonhniaaaGreatDoorMrg1
namespace Go.Proofs.YtmodpleonhniaaaGreatDoor
open Go.RowKit
set_option linter.unusedSimpArgs false
set_option linter.unusedVariables false
set_option maxRecDepth 100000
/-- a note is not in the key -/
def faultB (f : Int) (n : Nt) : Bool := !n.1 && !ikB f n.2.1 n.2.2.1 n.2.2.2.1
/-- the faults of the first j notes of voice k -/
def ftN (f : Int) (k : Nat) (v : List Nt) : Nat → List Int
  | 0 => []
  | j + 1 => ftN f k v j ++ (if faultB f (glNote v j) = true then [100 * (k : Int) + (j : Int)] else [])
def ftTo (f : Int) (vs : List (List Nt)) : Nat → List Int
  | 0 => []
  | k + 1 => ftTo f vs k ++ ftN f k (glV vs k) (glV vs k).length
def ftL (f b u : Int) (ts : List (Int × Int)) (vs : List (List Nt)) : List Int := if svB f b u ts vs = true then ftTo f vs vs.length else []
theorem vvlen60 {v : List Nt} (h : vvB v = true) : v.length ≤ 60 := (vvB_iff.1 h).1
theorem ftN_len (f : Int) (k : Nat) (v : List Nt) : ∀ j, (ftN f k v j).length ≤ j := by
  intro j
  induction j with
  | zero => simp [ftN]
  | succ j ih => simp only [ftN, List.length_append]; split <;> simp <;> omega
theorem ftTo_len {f : Int} {vs : List (List Nt)} (h : ∀ k, k < vs.length → vvB (glV vs k) = true) : ∀ k, k ≤ vs.length → (ftTo f vs k).length ≤ 60 * k := by
  intro k
  induction k with
  | zero => intro _; simp [ftTo]
  | succ k ih =>
    intro hk
    have h1 := ih (by omega)
    have h2 := ftN_len f k (glV vs k) (glV vs k).length
    have h3 := vvlen60 (h k (by omega))
    simp only [ftTo, List.length_append]; omega
theorem ftL_len (f b u : Int) (ts : List (Int × Int)) (vs : List (List Nt)) : (ftL f b u ts vs).length ≤ 240 := by
  unfold ftL
  split
  · rename_i h
    obtain ⟨-, -, -, h4, h5⟩ := svB_iff.1 h
    have := ftTo_len (f := f) h5 vs.length (Nat.le_refl _)
    omega
  · simp

set_option maxHeartbeats 8000000 in
theorem impl_SongFaults (f : Int) (m : Bool) (b u : Int) (C A : Option Addr) (d c : Nat) (ts : List (Int × Int)) (vs : List (List Nt)) (w : World) (hT : RdTempo w w.heap.size C ts) (hV : RdVs w w.heap.size A vs) (hlt : ts.length ≤ 1048576) (hlv : LenV vs) :
    Calls Tryz.prog 39 #[.agg #[.int .i64 f, .bool m, .int .i64 b, .int .i64 u, .slice C ts.length d, .slice A vs.length c]] w (RetRow w 3 1 (ftL f b u ts vs).length (iv (ftL f b u ts vs))) := by
  obtain ⟨i0, hi, hz0, hz1, hz2⟩ := info_parts infoInt
  have HI := Lib.hid hi; have H0 := Lib.hid hz0; have H1 := Lib.hid hz1; have H2 := Lib.hid hz2; clear hi hz0 hz1 hz2
  cases hs : svB f b u ts vs
  · have HF : Hid (ftL f b u ts vs = []) := Lib.hid (if_neg (by rw [hs]; decide)); have HS := Lib.hid hs; clear hs
    have HK := Lib.hid (Blk.new w 28 #[.int .i64 f, .bool m, .int .i64 b, .int .i64 u, .slice C ts.length d, .slice A vs.length c])
    have HT := Lib.hid (RdTempo.more (RdTempo.al hT (Nat.le_refl _) (.cells #[.int .i64 f, .bool m, .int .i64 b, .int .i64 u, .slice C ts.length d, .slice A vs.length c] 28)) (show w.heap.size ≤ (w.alloc (.cells #[.int .i64 f, .bool m, .int .i64 b, .int .i64 u, .slice C ts.length d, .slice A vs.length c] 28)).heap.size by simp))
    have HV := Lib.hid (RdVs.more (RdVs.al hV (Nat.le_refl _) (.cells #[.int .i64 f, .bool m, .int .i64 b, .int .i64 u, .slice C ts.length d, .slice A vs.length c] 28)) (show w.heap.size ≤ (w.alloc (.cells #[.int .i64 f, .bool m, .int .i64 b, .int .i64 u, .slice C ts.length d, .slice A vs.length c] 28)).heap.size by simp))
    have HB := Lib.hid ((Below.refl w.heap.size w).alloc (Nat.le_refl _) (.cells #[.int .i64 f, .bool m, .int .i64 b, .int .i64 u, .slice C ts.length d, .slice A vs.length c] 28))
    have z0 : w.heap.size + 1 ≤ (w.alloc (.cells #[.int .i64 f, .bool m, .int .i64 b, .int .i64 u, .slice C ts.length d, .slice A vs.length c] 28)).heap.size := by simp
    clear hT hV
    go_enter Tryz.func39, Tryz.ntmps39
    go_upto_region 1 with fail
    generalize w.alloc (.cells #[.int .i64 f, .bool m, .int .i64 b, .int .i64 u, .slice C ts.length d, .slice A vs.length c] 28) = w0 at *
    have c0 := HK.out.cell 0; have c1 := HK.out.cell 1; have c2 := HK.out.cell 2; have c3 := HK.out.cell 3; have c4 := HK.out.cell 4; have c5 := HK.out.cell 5
    go_wp2_with fail
    refine (impl_SongValid f m b u _ _ _ _ ts vs _ HT.out HV.out hlt hlv).mono ?_
    rw [HS.out]
    rintro e w1 ⟨rfl, b1⟩
    have z1 := b1.size
    clear c0 c1 c2 c3 c4 c5
    replace HK := Lib.hid (HK.out.below b1 (by omega)); replace HT := Lib.hid (RdTempo.more (RdTempo.below HT.out b1 (by omega)) z1); replace HV := Lib.hid (RdVs.more (RdVs.below HV.out b1 (by omega)) z1); replace HB := Lib.hid (HB.out.trans (b1.mono (by omega)))
    clear b1
    have c0 := HK.out.cell 0; have c1 := HK.out.cell 1; have c2 := HK.out.cell 2; have c3 := HK.out.cell 3; have c4 := HK.out.cell 4; have c5 := HK.out.cell 5
    go_wp2_with fail
    go_ret
    unfold RetRow; rw [HF.out]
    exact ⟨none, 0, rfl, World.ownsRow_nil _ _ _ _, HB.out⟩
  have HS := Lib.hid hs
  obtain ⟨s1, s2, s3, s4, s5⟩ := svB_iff.1 hs
  have HA := Lib.hid s5
  have HFL := Lib.hid (ftTo_len (f := f) s5)
  have HF : Hid (ftL f b u ts vs = ftTo f vs vs.length) := Lib.hid (if_pos hs)
  clear hs s1 s2 s3 s5
  have HK := Lib.hid (Blk.new w 28 #[.int .i64 f, .bool m, .int .i64 b, .int .i64 u, .slice C ts.length d, .slice A vs.length c])
  have HT := Lib.hid (RdTempo.more (RdTempo.al hT (Nat.le_refl _) (.cells #[.int .i64 f, .bool m, .int .i64 b, .int .i64 u, .slice C ts.length d, .slice A vs.length c] 28)) (show w.heap.size ≤ (w.alloc (.cells #[.int .i64 f, .bool m, .int .i64 b, .int .i64 u, .slice C ts.length d, .slice A vs.length c] 28)).heap.size by simp))
  have HV := Lib.hid (RdVs.more (RdVs.al hV (Nat.le_refl _) (.cells #[.int .i64 f, .bool m, .int .i64 b, .int .i64 u, .slice C ts.length d, .slice A vs.length c] 28)) (show w.heap.size ≤ (w.alloc (.cells #[.int .i64 f, .bool m, .int .i64 b, .int .i64 u, .slice C ts.length d, .slice A vs.length c] 28)).heap.size by simp))
  have HB := Lib.hid ((Below.refl w.heap.size w).alloc (Nat.le_refl _) (.cells #[.int .i64 f, .bool m, .int .i64 b, .int .i64 u, .slice C ts.length d, .slice A vs.length c] 28))
  have z0 : w.heap.size + 1 ≤ (w.alloc (.cells #[.int .i64 f, .bool m, .int .i64 b, .int .i64 u, .slice C ts.length d, .slice A vs.length c] 28)).heap.size := by simp
  clear hT hV
  go_enter Tryz.func39, Tryz.ntmps39
  go_upto_region 1 with fail
  generalize w.alloc (.cells #[.int .i64 f, .bool m, .int .i64 b, .int .i64 u, .slice C ts.length d, .slice A vs.length c] 28) = w0 at *
  have c0 := HK.out.cell 0; have c1 := HK.out.cell 1; have c2 := HK.out.cell 2; have c3 := HK.out.cell 3; have c4 := HK.out.cell 4; have c5 := HK.out.cell 5
  go_wp2_with fail
  refine (impl_SongValid f m b u _ _ _ _ ts vs _ HT.out HV.out hlt hlv).mono ?_
  rw [HS.out]
  rintro e w1 ⟨rfl, b1⟩
  have z1 := b1.size
  clear c0 c1 c2 c3 c4 c5
  replace HK := Lib.hid (HK.out.below b1 (by omega)); replace HT := Lib.hid (RdTempo.more (RdTempo.below HT.out b1 (by omega)) z1); replace HV := Lib.hid (RdVs.more (RdVs.below HV.out b1 (by omega)) z1); replace HB := Lib.hid (HB.out.trans (b1.mono (by omega)))
  clear b1
  have c0 := HK.out.cell 0; have c1 := HK.out.cell 1; have c2 := HK.out.cell 2; have c3 := HK.out.cell 3; have c4 := HK.out.cell 4; have c5 := HK.out.cell 5
  have zz := HB.out.size
  generalize w1 = ws at *
  have HK9 := Lib.hid (HK.out.alloc (.cells #[] 3))
  clear c0 c1 c2 c3 c4 c5
  go_upto_region 4 with fail
  have c0 := HK9.out.cell 0; have c1 := HK9.out.cell 1; have c2 := HK9.out.cell 2; have c3 := HK9.out.cell 3; have c4 := HK9.out.cell 4; have c5 := HK9.out.cell 5
  go_wp2_with fail
  go_loopw [3, 15] (fun oq i wr => ∃ (k : Nat) (A3 : Option Addr) (c3 : Nat), k ≤ vs.length ∧ i = .int .i64 k ∧ oq = .slice A3 (ftTo f vs k).length c3 ∧ wr.ownsRow ws.heap.size 3 1 (.slice A3 (ftTo f vs k).length c3) (ftTo f vs k).length (iv (ftTo f vs k)) ∧ Below ws.heap.size ws wr) (fun _ i _ => vs.length - (intOf i).toNat)
  case atStart => exact ⟨0, _, 0, Nat.zero_le _, rfl, rfl, (own_empty (e := 3) (size := 1) (Below.refl ws.heap.size ws) (Nat.le_refl _)).1, (Below.refl _ _).alloc (Nat.le_refl _) _⟩
  case round =>
    clear c0 c1 c2 c3 c4 c5
    obtain ⟨k, A3, c3, hk, rfl, rfl, ho, hbel⟩ := hrel
    have hsz := hbel.size
    have HR := Lib.hid hbel; have HO := Lib.hid ho
    have HKR := Lib.hid (HK.out.below hbel (by omega))
    have hfl := HFL.out k hk
    clear ho
    by_cases hlt2 : k < vs.length
    · have hi1 : (k : Int) < (vs.length : Int) := by omega
      have hi1' : ((k : Int) < (vs.length : Int)) = True := eq_true hi1
      have hin : (k : Int).toNat = k := by omega
      have hvl := vvlen60 (HA.out k hlt2)
      have hfn := ftN_len f k (glV vs k)
      have HFN := Lib.hid hfn; clear hfn
      have HST : Hid (ftTo f vs (k + 1) = ftTo f vs k ++ ftN f k (glV vs k) (glV vs k).length) := Lib.hid rfl
      have hz0 : ftN f k (glV vs k) 0 = [] := rfl
      obtain ⟨b8, off, C8, d8, rfl, hb8, hc8, hn8⟩ := (HV.out.below hbel (Nat.le_refl _)).at_ hlt2
      have HN := Lib.hid hn8; clear hn8 hbel
      go_wp2_with fail
      go_loopw [3, 22] (fun oq i wq => ∃ (j : Nat) (A3 : Option Addr) (c3 : Nat), j ≤ (glV vs k).length ∧ i = .int .i64 j ∧ oq = .slice A3 (ftTo f vs k ++ ftN f k (glV vs k) j).length c3 ∧ wq.ownsRow ws.heap.size 3 1 (.slice A3 (ftTo f vs k ++ ftN f k (glV vs k) j).length c3) (ftTo f vs k ++ ftN f k (glV vs k) j).length (iv (ftTo f vs k ++ ftN f k (glV vs k) j)) ∧ Below ws.heap.size ws wq ∧ RdNote wq ws.heap.size C8 (glV vs k)) (fun _ i _ => (glV vs k).length - (intOf i).toNat)
      case atStart => exact ⟨0, A3, c3, Nat.zero_le _, rfl, by rw [hz0, List.append_nil], by rw [hz0, List.append_nil]; exact HO.out, HR.out, HN.out⟩
      case round =>
        clear HO HR hz0
        clear HKR HN
        obtain ⟨j, A3, c3, hj, rfl, rfl, ho, hbel, hn8⟩ := hrel
        have hzq := hbel.size
        have HBQ := Lib.hid hbel; have HO := Lib.hid ho
        have HKQ := Lib.hid (HK.out.below hbel (by omega))
        have hfn := HFN.out j
        have hll : (ftTo f vs k ++ ftN f k (glV vs k) j).length ≤ 400 := by rw [List.length_append]; omega
        clear ho
        generalize hzz : ftTo f vs k ++ ftN f k (glV vs k) j = zz at *
        have HZ := Lib.hid hzz
        clear hzz
        have HN := Lib.hid hn8; clear hn8
        by_cases hlt3 : j < (glV vs k).length
        · have hj1 : (j : Int) < ((glV vs k).length : Int) := by omega
          have hjn : (j : Int).toNat = j := by omega
          obtain ⟨b7, off7, rfl, hb7, hd0, hd1, hd2, hd3, hd4, hd5⟩ := RdNote.at_ HN.out hlt3
          clear hbel
          have HSF : Hid (ftN f k (glV vs k) (j + 1) = ftN f k (glV vs k) j ++ (if faultB f (glNote (glV vs k) j) = true then [100 * (k : Int) + (j : Int)] else [])) := Lib.hid rfl
          have HFB : Hid (faultB f (glNote (glV vs k) j) = (!(glNote (glV vs k) j).1 && !ikB f (glNote (glV vs k) j).2.1 (glNote (glV vs k) j).2.2.1 (glNote (glV vs k) j).2.2.2.1)) := Lib.hid rfl
          generalize (glNote (glV vs k) j).1 = r at *
          generalize (glNote (glV vs k) j).2.1 = s at *
          generalize (glNote (glV vs k) j).2.2.1 = a at *
          generalize (glNote (glV vs k) j).2.2.2.1 = o1 at *
          generalize (glNote (glV vs k) j).2.2.2.2.1 = t at *
          generalize (glNote (glV vs k) j).2.2.2.2.2 = dd at *
          have hj9 : 0 ≤ 100 * (k : Int) + (j : Int) ∧ 100 * (k : Int) + (j : Int) ≤ 1000 := by omega
          have hblk := Blk.new wr 60 #[.bool r, .int .i64 s, .int .i64 a, .int .i64 o1, .int .i64 t, .bool dd]
          have HBN := Lib.hid hblk
          have HKN := Lib.hid (HKQ.out.alloc (.cells #[.bool r, .int .i64 s, .int .i64 a, .int .i64 o1, .int .i64 t, .bool dd] 60))
          have HON := Lib.hid (HO.out.alloc (.cells #[.bool r, .int .i64 s, .int .i64 a, .int .i64 o1, .int .i64 t, .bool dd] 60))
          have HBQN := Lib.hid (HBQ.out.alloc hzq (.cells #[.bool r, .int .i64 s, .int .i64 a, .int .i64 o1, .int .i64 t, .bool dd] 60))
          have HNN := Lib.hid (RdNote.al HN.out (by omega) (.cells #[.bool r, .int .i64 s, .int .i64 a, .int .i64 o1, .int .i64 t, .bool dd] 60))
          have h0 := hblk.cell 0; have h1 := hblk.cell 1; have h2 := hblk.cell 2; have h3 := hblk.cell 3
          go_upto_region 10 with fail
          have zn : wr.heap.size + 1 ≤ (wr.alloc (.cells #[.bool r, .int .i64 s, .int .i64 a, .int .i64 o1, .int .i64 t, .bool dd] 60)).heap.size := by simp
          have k0 := HKN.out.cell 0; have k5 := HKN.out.cell 5
          clear hblk
          generalize hwn : wr.alloc (.cells #[.bool r, .int .i64 s, .int .i64 a, .int .i64 o1, .int .i64 t, .bool dd] 60) = wn at *
          clear hwn
          cases r
          case true =>
            have HE : Hid (ftN f k (glV vs k) (j + 1) = ftN f k (glV vs k) j) := Lib.hid (by rw [HSF.out, HFB.out]; simp)
            go_wp2_with fail
            go_roundw
            case rel => exact ⟨j + 1, A3, c3, by omega, by go_num, by rw [HE.out, HZ.out], by rw [HE.out, HZ.out]; exact HON.out, HBQN.out, HNN.out⟩
            case measure => simp [intOf]; omega
          case false =>
            cases hik : ikB f s a o1
            case true =>
              have HE : Hid (ftN f k (glV vs k) (j + 1) = ftN f k (glV vs k) j) := Lib.hid (by rw [HSF.out, HFB.out, hik]; simp)
              have HIK := Lib.hid hik; clear hik
              go_wp2_with fail
              refine (impl_InKey f s a o1 _).mono ?_
              rw [HIK.out]
              rintro e w9 ⟨rfl, b9⟩
              have HO9 := Lib.hid (own_bel HON.out b9); have HB9 := Lib.hid (HBQN.out.trans (b9.mono (by omega))); have HN9 := Lib.hid (RdNote.below HNN.out b9 (by omega)); clear b9
              go_wp2_with fail
              go_roundw
              case rel => exact ⟨j + 1, A3, c3, by omega, by go_num, by rw [HE.out, HZ.out], by rw [HE.out, HZ.out]; exact HO9.out, HB9.out, HN9.out⟩
              case measure => simp [intOf]; omega
            case false =>
              have HE : Hid (ftN f k (glV vs k) (j + 1) = ftN f k (glV vs k) j ++ [100 * (k : Int) + (j : Int)]) := Lib.hid (by rw [HSF.out, HFB.out, hik]; rfl)
              have HIK := Lib.hid hik; clear hik
              have hw1 : IntKind.i64.wrap (100 * (k : Int)) = 100 * (k : Int) := IntWalk.i64_in _ (by omega)
              have hw2 : IntKind.i64.wrap (100 * (k : Int) + (j : Int)) = 100 * (k : Int) + (j : Int) := IntWalk.i64_in _ (by omega)
              go_upto_region 11 with (go_at_call 63; refine (impl_InKey f s a o1 _).mono ?_; rw [HIK.out]; rintro e w9 ⟨rfl, b9⟩; have z9 := b9.size; have HO9 := Lib.hid (own_bel HON.out b9); have HB9 := Lib.hid (HBQN.out.trans (b9.mono (by omega))); have HN9 := Lib.hid (RdNote.below HNN.out b9 (by omega)); clear b9)
              replace HO := HO9
              generalize hx9 : 100 * (k : Int) + (j : Int) = x9 at *
              go_wp2_with (at_builtin; refine append_el rfl _ _ 48 rfl 3 i0 (.int .i64 0) 1 8 Tryz.underlying48 HI.out H0.out H1.out H2.out rfl (by decide) (by decide) ws.heap.size w9 w9 _ zz.length _ HO.out (Below.refl _ _) (by omega) (by omega) rfl [.int .i64 (x9)] rfl (by simp [Value.oneCell']) rfl ?_; intro A2 c2 w10 hown2 hbel2 hbase2 _)
              have HO10 : Hid (w10.ownsRow ws.heap.size 3 1 (.slice A2 (zz ++ [x9]).length c2) (zz ++ [x9]).length (iv (zz ++ [x9]))) := Lib.hid (by rw [iv_append, List.length_append]; exact hown2)
              have HB10 := Lib.hid (HB9.out.trans hbel2)
              have HN10 := Lib.hid (RdNote.below HN9.out hbel2 (Nat.le_refl _))
              go_roundw
              case rel => exact ⟨j + 1, A2, c2, by omega, by go_num, by simp only [HE.out, ← List.append_assoc, HZ.out, List.length_append]; rfl, by rw [HE.out, ← List.append_assoc, HZ.out]; exact HO10.out, HB10.out, HN10.out⟩
              case measure => simp [intOf]; omega
        · obtain rfl : j = (glV vs k).length := by omega
          clear hbel
          go_wp2_with fail
          go_roundw
          case rel => exact ⟨k + 1, A3, c3, by omega, by go_num, by rw [HST.out, HZ.out], by rw [HST.out, HZ.out]; exact HO.out, HBQ.out⟩
          case measure => simp [intOf]; omega
    · obtain rfl : k = vs.length := by omega
      clear hbel
      go_wp2_with fail
      go_ret
      unfold RetRow; rw [HF.out]
      exact ⟨A3, c3, rfl, own_mono HO.out (by omega), HB.out.trans (HR.out.mono zz)⟩
set_option maxHeartbeats 8000000 in
theorem spec_SongFaults (f : Int) (m : Bool) (b u : Int) (C A : Option Addr) (d c : Nat) (ts : List (Int × Int)) (vs : List (List Nt)) (w : World) (hT : RdTempo w w.heap.size C ts) (hV : RdVs w w.heap.size A vs) (hlt : ts.length ≤ 1048576) (hlv : LenV vs) :
    Calls Tryz.prog 18 #[.agg #[.int .i64 f, .bool m, .int .i64 b, .int .i64 u, .slice C ts.length d, .slice A vs.length c]] w (RetRow w 3 1 (ftL f b u ts vs).length (iv (ftL f b u ts vs))) := by
  obtain ⟨i0, hi, hz0, hz1, hz2⟩ := info_parts infoInt
  have HI := Lib.hid hi; have H0 := Lib.hid hz0; have H1 := Lib.hid hz1; have H2 := Lib.hid hz2; clear hi hz0 hz1 hz2
  have hlv1 : vs.length ≤ 1048576 := hlv.1
  cases hs : svB f b u ts vs
  · have HF : Hid (ftL f b u ts vs = []) := Lib.hid (if_neg (by rw [hs]; decide)); have HS := Lib.hid hs; clear hs
    have HK := Lib.hid (Blk.new w 28 #[.int .i64 f, .bool m, .int .i64 b, .int .i64 u, .slice C ts.length d, .slice A vs.length c])
    have HT := Lib.hid (RdTempo.more (RdTempo.al hT (Nat.le_refl _) (.cells #[.int .i64 f, .bool m, .int .i64 b, .int .i64 u, .slice C ts.length d, .slice A vs.length c] 28)) (show w.heap.size ≤ (w.alloc (.cells #[.int .i64 f, .bool m, .int .i64 b, .int .i64 u, .slice C ts.length d, .slice A vs.length c] 28)).heap.size by simp))
    have HV := Lib.hid (RdVs.more (RdVs.al hV (Nat.le_refl _) (.cells #[.int .i64 f, .bool m, .int .i64 b, .int .i64 u, .slice C ts.length d, .slice A vs.length c] 28)) (show w.heap.size ≤ (w.alloc (.cells #[.int .i64 f, .bool m, .int .i64 b, .int .i64 u, .slice C ts.length d, .slice A vs.length c] 28)).heap.size by simp))
    have HB := Lib.hid ((Below.refl w.heap.size w).alloc (Nat.le_refl _) (.cells #[.int .i64 f, .bool m, .int .i64 b, .int .i64 u, .slice C ts.length d, .slice A vs.length c] 28))
    have z0 : w.heap.size + 1 ≤ (w.alloc (.cells #[.int .i64 f, .bool m, .int .i64 b, .int .i64 u, .slice C ts.length d, .slice A vs.length c] 28)).heap.size := by simp
    clear hT hV
    go_enter Tryz.func18, Tryz.ntmps18
    go_upto_region 1 with fail
    generalize w.alloc (.cells #[.int .i64 f, .bool m, .int .i64 b, .int .i64 u, .slice C ts.length d, .slice A vs.length c] 28) = w0 at *
    have c0 := HK.out.cell 0; have c1 := HK.out.cell 1; have c2 := HK.out.cell 2; have c3 := HK.out.cell 3; have c4 := HK.out.cell 4; have c5 := HK.out.cell 5
    have HO := Lib.hid (own_empty (e := 3) (size := 1) (Below.refl w0.heap.size w0) (Nat.le_refl _)).1
    have HB9 := Lib.hid (HB.out.alloc (by omega) (.cells #[] 3))
    have HK9 := Lib.hid (HK.out.alloc (.cells #[] 3)); have HT9 := Lib.hid (RdTempo.more (RdTempo.al HT.out (Nat.le_refl _) (.cells #[] 3)) (show w0.heap.size ≤ (w0.alloc (.cells #[] 3)).heap.size by simp)); have HV9 := Lib.hid (RdVs.more (RdVs.al HV.out (Nat.le_refl _) (.cells #[] 3)) (show w0.heap.size ≤ (w0.alloc (.cells #[] 3)).heap.size by simp))
    have zz9 : w0.heap.size + 1 ≤ (w0.alloc (.cells #[] 3)).heap.size := by simp
    clear c0 c1 c2 c3 c4 c5
    go_upto_region 2 with fail
    generalize hwa : w0.alloc (.cells #[] 3) = wa at *
    go_wp2_with fail
    go_loopw [3, 4] (fun oq i wr => oq = .slice (some ⟨w0.heap.size, 0, none⟩) 0 0 ∧ i = .int .i64 0 ∧ wr = wa) (fun _ _ _ => 0)
    case atStart => exact ⟨rfl, rfl, rfl⟩
    case round =>
      obtain ⟨rfl, rfl, rfl⟩ := hrel
      have c0 := HK9.out.cell 0; have c1 := HK9.out.cell 1; have c2 := HK9.out.cell 2; have c3 := HK9.out.cell 3; have c4 := HK9.out.cell 4; have c5 := HK9.out.cell 5
      by_cases hz : 0 < vs.length
      · have hi1 : ((0 : Int) < (vs.length : Int)) = True := eq_true (by omega)
        clear hwa
        go_wp2_with fail
        refine (spec_SongValid f m b u _ _ _ _ ts vs _ HT9.out HV9.out hlt hlv).mono ?_
        rw [HS.out]
        rintro e w3 ⟨rfl, b3⟩
        have HO3 := Lib.hid (own_bel HO.out b3); have HB3 := Lib.hid (HB9.out.trans (b3.mono (by omega))); clear b3
        go_wp2_with fail
        go_ret
        unfold RetRow; rw [HF.out]
        exact ⟨_, 0, rfl, own_mono HO3.out (by omega), HB3.out⟩
      · have hi1 : ((0 : Int) < (vs.length : Int)) = False := eq_false (by omega)
        clear hwa
        go_wp2_with fail
        go_ret
        unfold RetRow; rw [HF.out]
        exact ⟨_, 0, rfl, own_mono HO.out (by omega), HB9.out⟩
  have HS := Lib.hid hs
  obtain ⟨s1, s2, s3, s4, s5⟩ := svB_iff.1 hs
  have HA := Lib.hid s5
  have HFL := Lib.hid (ftTo_len (f := f) s5)
  have HF : Hid (ftL f b u ts vs = ftTo f vs vs.length) := Lib.hid (if_pos hs)
  clear hs s1 s2 s3 s5
  have HK := Lib.hid (Blk.new w 28 #[.int .i64 f, .bool m, .int .i64 b, .int .i64 u, .slice C ts.length d, .slice A vs.length c])
  have HT := Lib.hid (RdTempo.more (RdTempo.al hT (Nat.le_refl _) (.cells #[.int .i64 f, .bool m, .int .i64 b, .int .i64 u, .slice C ts.length d, .slice A vs.length c] 28)) (show w.heap.size ≤ (w.alloc (.cells #[.int .i64 f, .bool m, .int .i64 b, .int .i64 u, .slice C ts.length d, .slice A vs.length c] 28)).heap.size by simp))
  have HV := Lib.hid (RdVs.more (RdVs.al hV (Nat.le_refl _) (.cells #[.int .i64 f, .bool m, .int .i64 b, .int .i64 u, .slice C ts.length d, .slice A vs.length c] 28)) (show w.heap.size ≤ (w.alloc (.cells #[.int .i64 f, .bool m, .int .i64 b, .int .i64 u, .slice C ts.length d, .slice A vs.length c] 28)).heap.size by simp))
  have HB := Lib.hid ((Below.refl w.heap.size w).alloc (Nat.le_refl _) (.cells #[.int .i64 f, .bool m, .int .i64 b, .int .i64 u, .slice C ts.length d, .slice A vs.length c] 28))
  have z0 : w.heap.size + 1 ≤ (w.alloc (.cells #[.int .i64 f, .bool m, .int .i64 b, .int .i64 u, .slice C ts.length d, .slice A vs.length c] 28)).heap.size := by simp
  clear hT hV
  go_enter Tryz.func18, Tryz.ntmps18
  go_upto_region 1 with fail
  generalize w.alloc (.cells #[.int .i64 f, .bool m, .int .i64 b, .int .i64 u, .slice C ts.length d, .slice A vs.length c] 28) = w0 at *
  have c0 := HK.out.cell 0; have c1 := HK.out.cell 1; have c2 := HK.out.cell 2; have c3 := HK.out.cell 3; have c4 := HK.out.cell 4; have c5 := HK.out.cell 5
  have zz := HB.out.size
  generalize w0 = ws at *
  have HK9 := Lib.hid (HK.out.alloc (.cells #[] 3))
  clear c0 c1 c2 c3 c4 c5
  
  have c0 := HK9.out.cell 0; have c1 := HK9.out.cell 1; have c2 := HK9.out.cell 2; have c3 := HK9.out.cell 3; have c4 := HK9.out.cell 4; have c5 := HK9.out.cell 5
  go_wp2_with fail
  go_loopw [3, 4] (fun oq i wr => ∃ (k : Nat) (A3 : Option Addr) (c3 : Nat), k ≤ vs.length ∧ i = .int .i64 k ∧ oq = .slice A3 (ftTo f vs k).length c3 ∧ wr.ownsRow ws.heap.size 3 1 (.slice A3 (ftTo f vs k).length c3) (ftTo f vs k).length (iv (ftTo f vs k)) ∧ Below ws.heap.size ws wr) (fun _ i _ => vs.length - (intOf i).toNat)
  case atStart => exact ⟨0, _, 0, Nat.zero_le _, rfl, rfl, (own_empty (e := 3) (size := 1) (Below.refl ws.heap.size ws) (Nat.le_refl _)).1, (Below.refl _ _).alloc (Nat.le_refl _) _⟩
  case round =>
    clear c0 c1 c2 c3 c4 c5
    obtain ⟨k, A3, c3, hk, rfl, rfl, ho, hbel⟩ := hrel
    have hsz := hbel.size
    have HR := Lib.hid hbel; have HO := Lib.hid ho
    have HKR := Lib.hid (HK.out.below hbel (by omega))
    have hfl := HFL.out k hk
    clear ho
    by_cases hlt2 : k < vs.length
    · have hi1 : (k : Int) < (vs.length : Int) := by omega
      have hi1' : ((k : Int) < (vs.length : Int)) = True := eq_true hi1
      have hin : (k : Int).toNat = k := by omega
      have hvl := vvlen60 (HA.out k hlt2)
      have hfn := ftN_len f k (glV vs k)
      have HFN := Lib.hid hfn; clear hfn
      have HST : Hid (ftTo f vs (k + 1) = ftTo f vs k ++ ftN f k (glV vs k) (glV vs k).length) := Lib.hid rfl
      have hz0 : ftN f k (glV vs k) 0 = [] := rfl
      have c0 := HKR.out.cell 0; have c1 := HKR.out.cell 1; have c2 := HKR.out.cell 2; have c3' := HKR.out.cell 3; have c4 := HKR.out.cell 4; have c5 := HKR.out.cell 5
      go_upto_region 5 with (go_at_call 7; refine (spec_SongValid f m b u _ _ _ _ ts vs _ (RdTempo.more (RdTempo.below HT.out HR.out (Nat.le_refl _)) hsz) (RdVs.more (RdVs.below HV.out HR.out (Nat.le_refl _)) hsz) hlt hlv).mono ?_; rw [HS.out]; rintro e w3 ⟨rfl, b3⟩; have z3 := b3.size; replace HO := Lib.hid (own_bel HO.out b3); replace HR := Lib.hid (HR.out.trans (b3.mono hsz)); clear b3)
      clear c0 c1 c2 c3' c4 c5 HKR hbel
      go_wp2_with fail
      go_loopw [3, 5] (fun oq i wq => ∃ (j : Nat) (A3 : Option Addr) (c3 : Nat), j ≤ (glV vs k).length ∧ i = .int .i64 j ∧ oq = .slice A3 (ftTo f vs k ++ ftN f k (glV vs k) j).length c3 ∧ wq.ownsRow ws.heap.size 3 1 (.slice A3 (ftTo f vs k ++ ftN f k (glV vs k) j).length c3) (ftTo f vs k ++ ftN f k (glV vs k) j).length (iv (ftTo f vs k ++ ftN f k (glV vs k) j)) ∧ Below ws.heap.size ws wq) (fun _ i _ => (glV vs k).length - (intOf i).toNat)
      case atStart => exact ⟨0, A3, c3, Nat.zero_le _, rfl, by rw [hz0, List.append_nil], by rw [hz0, List.append_nil]; exact HO.out, HR.out⟩
      case round =>
        clear HO HR hz0
        obtain ⟨j, A3, c3, hj, rfl, rfl, ho, hbel⟩ := hrel
        have hzq := hbel.size
        have HBQ := Lib.hid hbel; have HO := Lib.hid ho
        have HKQ := Lib.hid (HK.out.below hbel (by omega))
        have hfn := HFN.out j
        have hll : (ftTo f vs k ++ ftN f k (glV vs k) j).length ≤ 400 := by rw [List.length_append]; omega
        clear ho
        generalize hzz : ftTo f vs k ++ ftN f k (glV vs k) j = zz at *
        have HZ := Lib.hid hzz
        clear hzz
        obtain ⟨b8, off, C8, d8, rfl, hb8, hc8, hn8⟩ := (HV.out.below hbel (Nat.le_refl _)).at_ hlt2
        have HN := Lib.hid hn8; clear hn8
        have k5' := HKQ.out.cell 5
        by_cases hlt3 : j < (glV vs k).length
        · have hj1 : (j : Int) < ((glV vs k).length : Int) := by omega
          have hjn : (j : Int).toNat = j := by omega
          obtain ⟨b7, off7, rfl, hb7, hd0, hd1, hd2, hd3, hd4, hd5⟩ := RdNote.at_ HN.out hlt3
          clear hbel
          have HSF : Hid (ftN f k (glV vs k) (j + 1) = ftN f k (glV vs k) j ++ (if faultB f (glNote (glV vs k) j) = true then [100 * (k : Int) + (j : Int)] else [])) := Lib.hid rfl
          have HFB : Hid (faultB f (glNote (glV vs k) j) = (!(glNote (glV vs k) j).1 && !ikB f (glNote (glV vs k) j).2.1 (glNote (glV vs k) j).2.2.1 (glNote (glV vs k) j).2.2.2.1)) := Lib.hid rfl
          generalize (glNote (glV vs k) j).1 = r at *
          generalize (glNote (glV vs k) j).2.1 = s at *
          generalize (glNote (glV vs k) j).2.2.1 = a at *
          generalize (glNote (glV vs k) j).2.2.2.1 = o1 at *
          generalize (glNote (glV vs k) j).2.2.2.2.1 = t at *
          generalize (glNote (glV vs k) j).2.2.2.2.2 = dd at *
          have hj9 : 0 ≤ 100 * (k : Int) + (j : Int) ∧ 100 * (k : Int) + (j : Int) ≤ 1000 := by omega
          have hblk := Blk.new wr 60 #[.bool r, .int .i64 s, .int .i64 a, .int .i64 o1, .int .i64 t, .bool dd]
          have HBN := Lib.hid hblk
          have HKN := Lib.hid (HKQ.out.alloc (.cells #[.bool r, .int .i64 s, .int .i64 a, .int .i64 o1, .int .i64 t, .bool dd] 60))
          have HON := Lib.hid (HO.out.alloc (.cells #[.bool r, .int .i64 s, .int .i64 a, .int .i64 o1, .int .i64 t, .bool dd] 60))
          have HBQN := Lib.hid (HBQ.out.alloc hzq (.cells #[.bool r, .int .i64 s, .int .i64 a, .int .i64 o1, .int .i64 t, .bool dd] 60))
          have h0 := hblk.cell 0; have h1 := hblk.cell 1; have h2 := hblk.cell 2; have h3 := hblk.cell 3
          go_upto_region 9 with fail
          have zn : wr.heap.size + 1 ≤ (wr.alloc (.cells #[.bool r, .int .i64 s, .int .i64 a, .int .i64 o1, .int .i64 t, .bool dd] 60)).heap.size := by simp
          have k0 := HKN.out.cell 0; have k5 := HKN.out.cell 5
          clear hblk
          generalize hwn : wr.alloc (.cells #[.bool r, .int .i64 s, .int .i64 a, .int .i64 o1, .int .i64 t, .bool dd] 60) = wn at *
          clear hwn
          cases r
          case true =>
            have HE : Hid (ftN f k (glV vs k) (j + 1) = ftN f k (glV vs k) j) := Lib.hid (by rw [HSF.out, HFB.out]; simp)
            go_wp2_with fail
            go_roundw
            case rel => exact ⟨j + 1, A3, c3, by omega, by go_num, by rw [HE.out, HZ.out], by rw [HE.out, HZ.out]; exact HON.out, HBQN.out⟩
            case measure => simp [intOf]; omega
          case false =>
            cases hik : ikB f s a o1
            case true =>
              have HE : Hid (ftN f k (glV vs k) (j + 1) = ftN f k (glV vs k) j) := Lib.hid (by rw [HSF.out, HFB.out, hik]; simp)
              have HIK := Lib.hid hik; clear hik
              go_wp2_with fail
              refine (spec_InKey f s a o1 _).mono ?_
              rw [HIK.out]
              rintro e w9 ⟨rfl, b9⟩
              have HO9 := Lib.hid (own_bel HON.out b9); have HB9 := Lib.hid (HBQN.out.trans (b9.mono (by omega))); clear b9
              go_wp2_with fail
              go_roundw
              case rel => exact ⟨j + 1, A3, c3, by omega, by go_num, by rw [HE.out, HZ.out], by rw [HE.out, HZ.out]; exact HO9.out, HB9.out⟩
              case measure => simp [intOf]; omega
            case false =>
              have HE : Hid (ftN f k (glV vs k) (j + 1) = ftN f k (glV vs k) j ++ [100 * (k : Int) + (j : Int)]) := Lib.hid (by rw [HSF.out, HFB.out, hik]; rfl)
              have HIK := Lib.hid hik; clear hik
              have hw1 : IntKind.i64.wrap (100 * (k : Int)) = 100 * (k : Int) := IntWalk.i64_in _ (by omega)
              have hw2 : IntKind.i64.wrap (100 * (k : Int) + (j : Int)) = 100 * (k : Int) + (j : Int) := IntWalk.i64_in _ (by omega)
              go_upto_region 10 with (go_at_call 45; refine (spec_InKey f s a o1 _).mono ?_; rw [HIK.out]; rintro e w9 ⟨rfl, b9⟩; have z9 := b9.size; have HO9 := Lib.hid (own_bel HON.out b9); have HB9 := Lib.hid (HBQN.out.trans (b9.mono (by omega))); clear b9)
              replace HO := HO9
              generalize hx9 : 100 * (k : Int) + (j : Int) = x9 at *
              go_wp2_with (at_builtin; refine append_el rfl _ _ 48 rfl 3 i0 (.int .i64 0) 1 8 Tryz.underlying48 HI.out H0.out H1.out H2.out rfl (by decide) (by decide) ws.heap.size w9 w9 _ zz.length _ HO.out (Below.refl _ _) (by omega) (by omega) rfl [.int .i64 (x9)] rfl (by simp [Value.oneCell']) rfl ?_; intro A2 c2 w10 hown2 hbel2 hbase2 _)
              have HO10 : Hid (w10.ownsRow ws.heap.size 3 1 (.slice A2 (zz ++ [x9]).length c2) (zz ++ [x9]).length (iv (zz ++ [x9]))) := Lib.hid (by rw [iv_append, List.length_append]; exact hown2)
              have HB10 := Lib.hid (HB9.out.trans hbel2)
              go_roundw
              case rel => exact ⟨j + 1, A2, c2, by omega, by go_num, by simp only [HE.out, ← List.append_assoc, HZ.out, List.length_append]; rfl, by rw [HE.out, ← List.append_assoc, HZ.out]; exact HO10.out, HB10.out⟩
              case measure => simp [intOf]; omega
        · obtain rfl : j = (glV vs k).length := by omega
          clear hbel
          go_wp2_with fail
          go_roundw
          case rel => exact ⟨k + 1, A3, c3, by omega, by go_num, by rw [HST.out, HZ.out], by rw [HST.out, HZ.out]; exact HO.out, HBQ.out⟩
          case measure => simp [intOf]; omega
    · obtain rfl : k = vs.length := by omega
      have c5 := HKR.out.cell 5
      have hi1 : ((vs.length : Int) < (vs.length : Int)) = False := eq_false (by omega)
      clear hbel
      go_wp2_with fail
      go_ret
      unfold RetRow; rw [HF.out]
      exact ⟨A3, c3, rfl, own_mono HO.out (by omega), HB.out.trans (HR.out.mono zz)⟩
end Go.Proofs.YtmodpleonhniaaaGreatDoor
