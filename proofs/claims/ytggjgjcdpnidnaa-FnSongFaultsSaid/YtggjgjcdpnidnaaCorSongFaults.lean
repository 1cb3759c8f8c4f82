/- The walk of FnSongFaults: it returns true. Condition: at most 2^20 bytes. -/
import Derived.Test.YtggjgjcdpnidnaaDrawX
import Derived.Test.YtggjgjcdpnidnaaFlt
import Derived.Test.YtggjgjcdpnidnaaInts
import Derived.Test.YtggjgjcdpnidnaaAlive
namespace Go.Proofs.Ytggjgjcdpnidnaa.fnSongFaults
set_option linter.unusedVariables false
open Go.RowKit
set_option linter.unusedSimpArgs false
theorem ftN_pre (f : Int) (k : Nat) (v : List Nt) (j : Nat) : ∀ d, ∃ t, ftN f k v (j + d) = ftN f k v j ++ t := by
  intro d
  induction d with
  | zero => exact ⟨[], by simp⟩
  | succ d ih =>
    obtain ⟨t, ht⟩ := ih
    exact ⟨t ++ _, by show ftN f k v (j + d) ++ _ = _; rw [ht, List.append_assoc]⟩
theorem ftTo_pre (f : Int) (vs : List (List Nt)) (k : Nat) : ∀ d, ∃ t, ftTo f vs (k + d) = ftTo f vs k ++ t := by
  intro d
  induction d with
  | zero => exact ⟨[], by simp⟩
  | succ d ih =>
    obtain ⟨t, ht⟩ := ih
    exact ⟨t ++ _, by show ftTo f vs (k + d) ++ _ = _; rw [ht, List.append_assoc]⟩
theorem ft_at {f : Int} {vs : List (List Nt)} {k j : Nat} (hk : k < vs.length) (hj : j < (glV vs k).length) (h : faultB f (glNote (glV vs k) j) = true) :
    (ftTo f vs k).length + (ftN f k (glV vs k) j).length < (ftTo f vs vs.length).length ∧ gi (ftTo f vs vs.length) ((ftTo f vs k).length + (ftN f k (glV vs k) j).length) = 100 * (k : Int) + (j : Int) := by
  obtain ⟨t1, h1⟩ := ftN_pre f k (glV vs k) (j + 1) ((glV vs k).length - (j + 1))
  obtain ⟨t2, h2⟩ := ftTo_pre f vs (k + 1) (vs.length - (k + 1))
  rw [Nat.add_sub_of_le hj] at h1
  rw [Nat.add_sub_of_le hk] at h2
  have h3 : ftN f k (glV vs k) (j + 1) = ftN f k (glV vs k) j ++ [100 * (k : Int) + (j : Int)] := by simp only [ftN]; rw [if_pos h]
  have h4 : ftTo f vs (k + 1) = ftTo f vs k ++ ftN f k (glV vs k) (glV vs k).length := rfl
  have h5 : ftTo f vs vs.length = (ftTo f vs k ++ ftN f k (glV vs k) j) ++ ((100 * (k : Int) + (j : Int)) :: (t1 ++ t2)) := by
    rw [h2, h4, h1, h3]; simp
  rw [h5, ← List.length_append]
  exact ⟨by rw [List.length_append (bs := _ :: _)]; simp, by simp [gi]⟩
set_option maxRecDepth 100000 in
set_option maxHeartbeats 4000000 in
theorem core (w : World) (A_z : Option Addr) (c_z : Nat) (z : List Int) (r_z : RdY w w.heap.size A_z z) (f_z : WfY z) (k_z : z.length ≤ c_z) (hbig : z.length ≤ 1048576) :
    Calls Try.prog 6 #[.slice A_z z.length c_z] w (RetB w true) := by
  have hi1 : (z.length : Int) ≤ 1048576 := by omega
  go_enter Try.func6, Try.ntmps6
  go_wp2_with fail
  refine (spec_DrawSongFaults A_z c_z z w r_z f_z hbig k_z).mono ?_
  rintro e wd ⟨f, m, b, u, C, d, ts, A, c, vs, rfl, hts, hvs, h61, hT, hV, hB⟩
  have hzd := hB.size
  have HK := Lib.hid (Blk.new wd 28 #[.int .i64 f, .bool m, .int .i64 b, .int .i64 u, .slice C ts.length d, .slice A vs.length c])
  have HT := Lib.hid (RdTempo.more (RdTempo.al hT (Nat.le_refl _) (.cells #[.int .i64 f, .bool m, .int .i64 b, .int .i64 u, .slice C ts.length d, .slice A vs.length c] 28)) (show wd.heap.size ≤ (wd.alloc (.cells #[.int .i64 f, .bool m, .int .i64 b, .int .i64 u, .slice C ts.length d, .slice A vs.length c] 28)).heap.size by simp))
  have HV := Lib.hid (RdVs.more (RdVs.al hV (Nat.le_refl _) (.cells #[.int .i64 f, .bool m, .int .i64 b, .int .i64 u, .slice C ts.length d, .slice A vs.length c] 28)) (show wd.heap.size ≤ (wd.alloc (.cells #[.int .i64 f, .bool m, .int .i64 b, .int .i64 u, .slice C ts.length d, .slice A vs.length c] 28)).heap.size by simp))
  have HB := Lib.hid (hB.alloc hzd (.cells #[.int .i64 f, .bool m, .int .i64 b, .int .i64 u, .slice C ts.length d, .slice A vs.length c] 28))
  have z0 : wd.heap.size + 1 ≤ (wd.alloc (.cells #[.int .i64 f, .bool m, .int .i64 b, .int .i64 u, .slice C ts.length d, .slice A vs.length c] 28)).heap.size := by simp
  have hlt : ts.length ≤ 1048576 := by omega
  have hlv : LenV vs := ⟨by omega, fun v hv => Nat.le_trans (h61 v hv) (by decide)⟩
  have H61 := Lib.hid h61
  clear hT hV hB r_z f_z h61
  go_upto_region 4 with fail
  generalize wd.alloc (.cells #[.int .i64 f, .bool m, .int .i64 b, .int .i64 u, .slice C ts.length d, .slice A vs.length c] 28) = w0 at *
  have c0 := HK.out.cell 0; have c1 := HK.out.cell 1; have c2 := HK.out.cell 2; have c3 := HK.out.cell 3; have c4 := HK.out.cell 4; have c5 := HK.out.cell 5
  have hl9 : (ftL f b u ts vs).length ≤ 1048576 := Nat.le_trans (ftL_len f b u ts vs) (by decide)
  have HFL : Hid (ftL f b u ts vs = if svB f b u ts vs = true then ftTo f vs vs.length else []) := Lib.hid rfl
  generalize hGL : ftL f b u ts vs = L9 at *
  have HG := Lib.hid hGL; clear hGL
  go_wp2_with fail
  refine (impl_SongFaults f m b u _ _ _ _ ts vs _ HT.out HV.out hlt hlv).mono ?_
  rw [HG.out]
  rintro e w1 ⟨A1, kc1, rfl, o1, b1⟩
  have z1 := b1.size
  have RX_ := Lib.hid (Row.mk_ o1); clear o1
  clear c0 c1 c2 c3 c4 c5
  replace HK := Lib.hid (HK.out.below b1 (by omega)); replace HT := Lib.hid (RdTempo.more (RdTempo.below HT.out b1 (by omega)) z1); replace HV := Lib.hid (RdVs.more (RdVs.below HV.out b1 (by omega)) z1); replace HB := Lib.hid (HB.out.trans (b1.mono (by omega)))
  clear b1
  have c0 := HK.out.cell 0; have c1 := HK.out.cell 1; have c2 := HK.out.cell 2; have c3 := HK.out.cell 3; have c4 := HK.out.cell 4; have c5 := HK.out.cell 5
  have RX := RX_; clear RX_
  go_wp2_with fail
  refine (spec_SongFaults f m b u _ _ _ _ ts vs _ HT.out HV.out hlt hlv).mono ?_
  rw [HG.out]
  rintro e w2 ⟨A2, kc2, rfl, o2, b2⟩
  have z2 := b2.size
  have RW_ := Lib.hid (Row.mk_ o2); clear o2
  replace RX := Lib.hid (RX.out.below b2 (by omega))
  clear c0 c1 c2 c3 c4 c5
  replace HK := Lib.hid (HK.out.below b2 (by omega)); replace HT := Lib.hid (RdTempo.more (RdTempo.below HT.out b2 (by omega)) z2); replace HV := Lib.hid (RdVs.more (RdVs.below HV.out b2 (by omega)) z2); replace HB := Lib.hid (HB.out.trans (b2.mono (by omega)))
  clear b2
  have c0 := HK.out.cell 0; have c1 := HK.out.cell 1; have c2 := HK.out.cell 2; have c3 := HK.out.cell 3; have c4 := HK.out.cell 4; have c5 := HK.out.cell 5
  have RW := RW_; clear RW_
  go_wp2_with fail
  refine (laws_sameInts _ _ _ _ L9 L9 _ (RX.out.rdI.more (by omega)) (RW.out.rdI.more (by omega)) hl9 hl9).mono ?_
  rw [sameI_refl]
  rintro e w3 ⟨rfl, b3⟩
  have z3 := b3.size
  replace RX := Lib.hid (RX.out.below b3 (by omega))
  replace RW := Lib.hid (RW.out.below b3 (by omega))
  clear c0 c1 c2 c3 c4 c5
  replace HK := Lib.hid (HK.out.below b3 (by omega)); replace HT := Lib.hid (RdTempo.more (RdTempo.below HT.out b3 (by omega)) z3); replace HV := Lib.hid (RdVs.more (RdVs.below HV.out b3 (by omega)) z3); replace HB := Lib.hid (HB.out.trans (b3.mono (by omega)))
  clear b3
  have c0 := HK.out.cell 0; have c1 := HK.out.cell 1; have c2 := HK.out.cell 2; have c3 := HK.out.cell 3; have c4 := HK.out.cell 4; have c5 := HK.out.cell 5
  clear RW
  cases hs : svB f b u ts vs
  · have HS := Lib.hid hs; clear hs
    have hn : L9 = [] := by rw [HFL.out, if_neg (by rw [HS.out]; decide)]
    subst hn
    go_wp2_with fail
    refine (spec_SongValid f m b u _ _ _ _ ts vs _ HT.out HV.out hlt hlv).mono ?_
    rw [HS.out]
    rintro e w4 ⟨rfl, b4⟩
    have z4 := b4.size
    replace RX := Lib.hid (RX.out.below b4 (by omega))
    clear c0 c1 c2 c3 c4 c5
    replace HK := Lib.hid (HK.out.below b4 (by omega)); replace HT := Lib.hid (RdTempo.more (RdTempo.below HT.out b4 (by omega)) z4); replace HV := Lib.hid (RdVs.more (RdVs.below HV.out b4 (by omega)) z4); replace HB := Lib.hid (HB.out.trans (b4.mono (by omega)))
    clear b4
    have c0 := HK.out.cell 0; have c1 := HK.out.cell 1; have c2 := HK.out.cell 2; have c3 := HK.out.cell 3; have c4 := HK.out.cell 4; have c5 := HK.out.cell 5
    go_wp2_with fail
    refine (laws_alive _).mono ?_
    rintro e w5 ⟨rfl, b5⟩
    have z5 := b5.size
    replace RX := Lib.hid (RX.out.below b5 (by omega))
    clear c0 c1 c2 c3 c4 c5
    replace HK := Lib.hid (HK.out.below b5 (by omega)); replace HT := Lib.hid (RdTempo.more (RdTempo.below HT.out b5 (by omega)) z5); replace HV := Lib.hid (RdVs.more (RdVs.below HV.out b5 (by omega)) z5); replace HB := Lib.hid (HB.out.trans (b5.mono (by omega)))
    clear b5
    have c0 := HK.out.cell 0; have c1 := HK.out.cell 1; have c2 := HK.out.cell 2; have c3 := HK.out.cell 3; have c4 := HK.out.cell 4; have c5 := HK.out.cell 5
    go_wp2_with fail
    go_ret
    exact ⟨rfl, HB.out⟩
  obtain ⟨s1, s2, s3, s4, s5⟩ := svB_iff.1 hs
  have HS := Lib.hid hs
  have HA := Lib.hid s5
  have HF : Hid (L9 = ftTo f vs vs.length) := Lib.hid (by rw [HFL.out, if_pos hs])
  have HTL := Lib.hid (ftTo_len (f := f) s5)
  have HAT : Hid (∀ k j, k < vs.length → j < (glV vs k).length → faultB f (glNote (glV vs k) j) = true → (ftTo f vs k).length + (ftN f k (glV vs k) j).length < L9.length ∧ gi L9 ((ftTo f vs k).length + (ftN f k (glV vs k) j).length) = 100 * (k : Int) + (j : Int)) := Lib.hid (fun k j h1 h2 h3 => by rw [HF.out]; exact ft_at h1 h2 h3)
  clear hs s1 s2 s3 s5 HFL
  go_wp2_with fail
  refine (spec_SongValid f m b u _ _ _ _ ts vs _ HT.out HV.out hlt hlv).mono ?_
  rw [HS.out]
  rintro e w11 ⟨rfl, b11⟩
  have z11 := b11.size
  replace RX := Lib.hid (RX.out.below b11 (by omega))
  clear c0 c1 c2 c3 c4 c5
  replace HK := Lib.hid (HK.out.below b11 (by omega)); replace HT := Lib.hid (RdTempo.more (RdTempo.below HT.out b11 (by omega)) z11); replace HV := Lib.hid (RdVs.more (RdVs.below HV.out b11 (by omega)) z11); replace HB := Lib.hid (HB.out.trans (b11.mono (by omega)))
  clear b11
  have c0 := HK.out.cell 0; have c1 := HK.out.cell 1; have c2 := HK.out.cell 2; have c3 := HK.out.cell 3; have c4 := HK.out.cell 4; have c5 := HK.out.cell 5
  have zz : wd.heap.size + 1 ≤ w11.heap.size := by omega
  have RI := Lib.hid (show RdI w11 w11.heap.size _ L9 from RX.out.rdI.more (by omega))
  clear RX
  generalize w11 = ws at *
  go_wp2_with fail
  go_loopw [5, 6] (fun a i wr => ∃ k : Nat, k ≤ vs.length ∧ a = .int .i64 ((ftTo f vs k).length : Nat) ∧ i = .int .i64 k ∧ Below ws.heap.size ws wr) (fun _ i _ => vs.length - (intOf i).toNat)
  case atStart => exact ⟨0, Nat.zero_le _, rfl, rfl, Below.refl _ _⟩
  case round =>
    clear c0 c1 c2 c3 c4 c5
    obtain ⟨k, hk, rfl, rfl, hbel⟩ := hrel
    have hsz := hbel.size
    have HR := Lib.hid hbel
    have HKR := Lib.hid (HK.out.below hbel (by omega))
    have htl := HTL.out k hk
    have c5 := HKR.out.cell 5
    clear hbel
    by_cases hlt2 : k < vs.length
    · have hi1 : (k : Int) < (vs.length : Int) := by omega
      have hi1' : ((k : Int) < (vs.length : Int)) = True := eq_true hi1
      have hin : (k : Int).toNat = k := by omega
      have hvl := vvlen60 (HA.out k hlt2)
      have HFN := Lib.hid (fun j => ftN_len f k (glV vs k) j)
      have HST : Hid ((ftTo f vs (k + 1)).length = (ftTo f vs k).length + (ftN f k (glV vs k) (glV vs k).length).length) := Lib.hid (by show (_ ++ _ : List Int).length = _; rw [List.length_append])
      have hz0 : ((ftN f k (glV vs k) 0).length : Nat) = 0 := rfl
      go_wp2_with fail
      go_loopw [5, 7] (fun a i wq => ∃ j : Nat, j ≤ (glV vs k).length ∧ a = .int .i64 (((ftTo f vs k).length + (ftN f k (glV vs k) j).length : Nat) : Int) ∧ i = .int .i64 j ∧ Below ws.heap.size ws wq) (fun _ i _ => (glV vs k).length - (intOf i).toNat)
      case atStart => exact ⟨0, Nat.zero_le _, by rw [hz0, Nat.add_zero], rfl, HR.out⟩
      case round =>
        clear HR HKR c5 hz0
        obtain ⟨j, hj, rfl, rfl, hbel⟩ := hrel
        have hzq := hbel.size
        have HBQ := Lib.hid hbel
        have HKQ := Lib.hid (HK.out.below hbel (by omega))
        have hfn := HFN.out j
        have c0 := HKQ.out.cell 0; have c5 := HKQ.out.cell 5
        obtain ⟨b8, off, C8, d8, rfl, hb8, hc8, hn8⟩ := (HV.out.below hbel (Nat.le_refl _)).at_ hlt2
        have HN := Lib.hid hn8; clear hn8
        by_cases hlt3 : j < (glV vs k).length
        · have hj1 : (j : Int) < ((glV vs k).length : Int) := by omega
          have hjn : (j : Int).toNat = j := by omega
          obtain ⟨b7, off7, rfl, hb7, hd0, hd1, hd2, hd3, hd4, hd5⟩ := RdNote.at_ HN.out hlt3
          have HFB : Hid (faultB f (glNote (glV vs k) j) = (!(glNote (glV vs k) j).1 && !ikB f (glNote (glV vs k) j).2.1 (glNote (glV vs k) j).2.2.1 (glNote (glV vs k) j).2.2.2.1)) := Lib.hid rfl
          have HSF : Hid ((ftN f k (glV vs k) (j + 1)).length = (ftN f k (glV vs k) j).length + (if faultB f (glNote (glV vs k) j) = true then 1 else 0)) := Lib.hid (by show (_ ++ _ : List Int).length = _; rw [List.length_append]; split <;> rfl)
          have HAJ := Lib.hid (HAT.out k j hlt2 hlt3)
          have HRI := Lib.hid (RdI.below RI.out hbel (Nat.le_refl _))
          clear hbel hd4 hd5
          generalize (glNote (glV vs k) j).1 = r at *
          generalize (glNote (glV vs k) j).2.1 = s at *
          generalize (glNote (glV vs k) j).2.2.1 = a at *
          generalize (glNote (glV vs k) j).2.2.2.1 = o1 at *
          generalize hat : (ftTo f vs k).length + (ftN f k (glV vs k) j).length = at9 at *
          have HAE := Lib.hid hat
          have hat2 : at9 ≤ 400 := by omega
          clear hat
          go_upto_region 16 with fail
          cases r
          case true =>
            have HE : Hid ((ftTo f vs k).length + (ftN f k (glV vs k) (j + 1)).length = at9) := Lib.hid (by rw [HSF.out, HFB.out, ← HAE.out]; simp)
            go_quiet (fail)
            all_goals
              go_wp2_with fail
              go_roundw
              case rel => exact ⟨j + 1, by omega, by rw [HE.out], by go_num, below_drewN HBQ.out _⟩
              case measure => simp [intOf]; omega
          case false =>
            have HIB : Hid (ikB f s a o1 = ikB f s a o1) := Lib.hid rfl
            go_region_held3 (fun w' => w'.cell? ⟨wd.heap.size, 0, none⟩ = some (.int .i64 f) ∧ w'.cell? ⟨wd.heap.size, 5, none⟩ = some (.slice (some ⟨b8, off, none⟩) vs.length c) ∧ w'.cell? ⟨b8, off + k, none⟩ = some (.slice (some ⟨b7, off7, none⟩) (glV vs k).length d8) ∧ w'.cell? ⟨b7, off7 + j * 6, none⟩ = some (.bool false) ∧ w'.cell? ⟨b7, off7 + j * 6 + 1, none⟩ = some (.int .i64 s) ∧ w'.cell? ⟨b7, off7 + j * 6 + 2, none⟩ = some (.int .i64 a) ∧ w'.cell? ⟨b7, off7 + j * 6 + 3, none⟩ = some (.int .i64 o1)) (first | exact ⟨c0, c5, hc8, hd0, hd1, hd2, hd3⟩ | exact ⟨X9.out.1, X9.out.2.1, X9.out.2.2.1, X9.out.2.2.2.1, X9.out.2.2.2.2.1, X9.out.2.2.2.2.2.1, X9.out.2.2.2.2.2.2⟩)
              (first | (go_at_call 23; refine (impl_InKey f s a o1 _).mono ?_; rintro e w9 ⟨rfl, b9⟩; have z9 : wr.heap.size ≤ w9.heap.size := b9.size; have B9 := Lib.hid (below_drew_left b9); have X9 := Lib.hid (And.intro ((B9.out.cell (p := ⟨wd.heap.size, 0, none⟩) (show wd.heap.size < wr.heap.size by omega)).trans c0) (And.intro ((B9.out.cell (p := ⟨wd.heap.size, 5, none⟩) (show wd.heap.size < wr.heap.size by omega)).trans c5) (And.intro ((B9.out.cell (p := ⟨b8, off + k, none⟩) (show b8 < wr.heap.size by omega)).trans hc8) (And.intro ((B9.out.cell (p := ⟨b7, off7 + j * 6, none⟩) (show b7 < wr.heap.size by omega)).trans hd0) (And.intro ((B9.out.cell (p := ⟨b7, off7 + j * 6 + 1, none⟩) (show b7 < wr.heap.size by omega)).trans hd1) (And.intro ((B9.out.cell (p := ⟨b7, off7 + j * 6 + 2, none⟩) (show b7 < wr.heap.size by omega)).trans hd2) ((B9.out.cell (p := ⟨b7, off7 + j * 6 + 3, none⟩) (show b7 < wr.heap.size by omega)).trans hd3)))))))))
            all_goals
              have HB9 := Lib.hid (HBQ.out.trans (B9.out.mono hzq))
              have HR9 := Lib.hid (RdI.below HRI.out B9.out hzq)
              clear b9 B9 X9 c0 c5 hc8 hd0 hd1 hd2 hd3
              cases hik : ikB f s a o1
              case true =>
                have HE : Hid ((ftTo f vs k).length + (ftN f k (glV vs k) (j + 1)).length = at9) := Lib.hid (by rw [HSF.out, HFB.out, ← HAE.out, hik]; simp)
                clear hik
                go_wp2_with fail
                go_roundw
                case rel => exact ⟨j + 1, by omega, by rw [HE.out], by go_num, HB9.out⟩
                case measure => simp [intOf]; omega
              case false =>
                have HE : Hid ((ftTo f vs k).length + (ftN f k (glV vs k) (j + 1)).length = at9 + 1) := Lib.hid (by rw [HSF.out, HFB.out, ← HAE.out, hik]; simp; omega)
                obtain ⟨h1, h2⟩ := HAJ.out (by rw [HFB.out, hik]; rfl)
                obtain ⟨b6, off6, e6, hb6, hx6⟩ := RdI.at_ HR9.out h1
                rw [h2] at hx6
                subst e6
                have hw1 : IntKind.i64.wrap (100 * (k : Int)) = 100 * (k : Int) := IntWalk.i64_in _ (by omega)
                have hw2 : IntKind.i64.wrap (100 * (k : Int) + (j : Int)) = 100 * (k : Int) + (j : Int) := IntWalk.i64_in _ (by omega)
                have hge : (L9.length ≤ at9) = False := eq_false (by omega)
                have hlt9 : ((at9 : Int) < (L9.length : Int)) = True := eq_true (by omega)
                have hat3 : (at9 : Int).toNat = at9 := by omega
                clear hik h2
                go_wp2_with fail
                go_roundw
                case rel => exact ⟨j + 1, by omega, by rw [HE.out]; go_num, by go_num, HB9.out⟩
                case measure => simp [intOf]; omega
        · obtain rfl : j = (glV vs k).length := by omega
          clear hbel
          go_wp2_with fail
          go_roundw
          case rel => exact ⟨k + 1, by omega, by rw [HST.out], by go_num, HBQ.out⟩
          case measure => simp [intOf]; omega
    · obtain rfl : k = vs.length := by omega
      rw [← HF.out] at *
      go_wp2_with fail
      go_ret
      exact ⟨rfl, HB.out.trans (HR.out.mono (by omega))⟩
end Go.Proofs.Ytggjgjcdpnidnaa.fnSongFaults
