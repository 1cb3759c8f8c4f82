/- Contracts of NoteText and VoiceText, of the reference. Condition: at most 2^20 notes. -/
import Derived.Test.YtmodpleonhniaaaGreatDoorPtx
import Derived.Test.YtmodpleonhniaaaGreatDoorNte2
namespace Go.Proofs.YtmodpleonhniaaaGreatDoor
open Go.RowKit
set_option linter.unusedSimpArgs false
set_option linter.unusedVariables false
set_option maxRecDepth 100000
/-- the text of a note -/
def ntB (n : Nt) : List UInt8 := (if n.1 = true then [114] else ptL n.2.1 n.2.2.1 n.2.2.2.1) ++ [47] ++ Lib.decDigits n.2.2.2.2.1.toNat ++ (if n.2.2.2.2.2 = true then [126] else [])
def ntL (n : Nt) : List UInt8 := if nvB n = true then ntB n else []
theorem pt_len (s a o : Int) : (ptL s a o).length ≤ 7 := by
  unfold ptL
  split
  · rename_i h
    have hp := pvB_iff.1 h
    simp; omega
  · simp
theorem nv_facts {n : Nt} (h : nvB n = true) : 1 ≤ n.2.2.2.2.1 ∧ n.2.2.2.2.1 ≤ 768 := by
  unfold nvB at h
  rw [Bool.and_eq_true] at h
  exact inR_iff.1 h.1
theorem nt_len {n : Nt} : (ntL n).length ≤ 40 := by
  unfold ntL
  split
  · rename_i h
    have h1 := nv_facts h
    have h2 := dec_len (N := n.2.2.2.2.1.toNat) (by omega)
    have h3 := pt_len n.2.1 n.2.2.1 n.2.2.2.1
    unfold ntB
    simp only [List.length_append]
    split <;> split <;> simp <;> omega
  · simp
set_option maxHeartbeats 2000000 in
theorem spec_NoteText (r : Bool) (a b c t : Int) (d : Bool) (w : World) : Calls Tryz.prog 48 #[.agg #[.bool r, .int .i64 a, .int .i64 b, .int .i64 c, .int .i64 t, .bool d]] w (RetS w (ntL (r, a, b, c, t, d))) := by
  have HK := Lib.hid (Blk.new w 60 #[.bool r, .int .i64 a, .int .i64 b, .int .i64 c, .int .i64 t, .bool d])
  have HB := Lib.hid ((Below.refl w.heap.size w).alloc (Nat.le_refl _) (.cells #[.bool r, .int .i64 a, .int .i64 b, .int .i64 c, .int .i64 t, .bool d] 60))
  have z0 : w.heap.size + 1 ≤ (w.alloc (.cells #[.bool r, .int .i64 a, .int .i64 b, .int .i64 c, .int .i64 t, .bool d] 60)).heap.size := by simp
  cases hv : nvB (r, a, b, c, t, d)
  · have HF : Hid (ntL (r, a, b, c, t, d) = []) := Lib.hid (if_neg (by rw [hv]; simp))
    have HV := Lib.hid hv; clear hv
    go_enter Tryz.func48, Tryz.ntmps48
    go_upto_region 1 with fail
    generalize w.alloc (.cells #[.bool r, .int .i64 a, .int .i64 b, .int .i64 c, .int .i64 t, .bool d] 60) = w0 at *
    have p0 := HK.out.cell 0; have p1 := HK.out.cell 1; have p2 := HK.out.cell 2; have p3 := HK.out.cell 3; have p4 := HK.out.cell 4; have p5 := HK.out.cell 5
    go_wp2_with fail
    refine (spec_NoteValid r a b c t d _).mono ?_
    rw [HV.out]
    rintro e w1 ⟨rfl, b1⟩
    have HB2 := Lib.hid (HB.out.trans (b1.mono (by omega))); clear b1
    go_wp2_with fail
    go_ret
    exact ⟨ret_st (by rw [HF.out]; rfl), HB2.out⟩
  have hn := nv_facts hv
  dsimp only at hn
  have HF : Hid (ntL (r, a, b, c, t, d) = ntB (r, a, b, c, t, d)) := Lib.hid (if_pos hv)
  have HN : Hid (ntB (r, a, b, c, t, d) = (if r = true then [114] else ptL a b c) ++ [47] ++ Lib.decDigits t.toNat ++ (if d = true then [126] else [])) := Lib.hid rfl
  have HV := Lib.hid hv; clear hv
  obtain ⟨T, rfl⟩ : ∃ T : Nat, t = (T : Int) := ⟨t.toNat, by omega⟩
  have hdl := dec_len (N := T) (by omega)
  have hpl := pt_len a b c
  go_enter Tryz.func48, Tryz.ntmps48
  go_upto_region 1 with fail
  generalize w.alloc (.cells #[.bool r, .int .i64 a, .int .i64 b, .int .i64 c, .int .i64 T, .bool d] 60) = w0 at *
  have p0 := HK.out.cell 0; have p1 := HK.out.cell 1; have p2 := HK.out.cell 2; have p3 := HK.out.cell 3; have p4 := HK.out.cell 4; have p5 := HK.out.cell 5
  go_wp2_with fail
  refine (spec_NoteValid r a b c T d _).mono ?_
  rw [HV.out]
  rintro e w1 ⟨rfl, b1⟩
  have z1 := b1.size
  clear p0 p1 p2 p3 p4 p5
  replace HK := Lib.hid (HK.out.below b1 (by omega)); replace HB := Lib.hid (HB.out.trans (b1.mono (by omega))); clear b1
  have p0 := HK.out.cell 0; have p1 := HK.out.cell 1; have p2 := HK.out.cell 2; have p3 := HK.out.cell 3; have p4 := HK.out.cell 4; have p5 := HK.out.cell 5
  have hdd : (stV (Lib.decDigits T)).size = (Lib.decDigits T).length := stV_size _
  generalize hx : Lib.decDigits T = x at *
  have HX : Hid (Lib.decDigits ((T : Int).toNat) = x) := Lib.hid (by rw [Int.toNat_natCast]; exact hx)
  have HX2 := Lib.hid hx; clear hx
  have hzo : (ByteArray.mk #[126]).size = 1 := rfl
  have hzs : (ByteArray.mk #[47]).size = 1 := rfl
  cases r
  case true =>
    have hs1 : ByteArray.mk #[114] ++ ByteArray.mk #[47] = stV [114, 47] := rfl
    have hs2 : stV [114, 47] ++ stV x = stV ([114, 47] ++ x) := stV_app _ _
    have hs3 : (ByteArray.mk #[114]).size = 1 := rfl
    have hs4 : (stV [114, 47]).size = 2 := rfl
    have hs5 : (stV (114 :: 47 :: x)).size = x.length + 1 + 1 := stV_size _
    have hs6 : stV (114 :: 47 :: x) ++ ByteArray.mk #[126] = stV ([114, 47] ++ x ++ [126]) := stV_app _ [126]
    have hq1 : ¬ (9223372036854775807 : Int) < 2 + (x.length : Int) := by omega
    have hq2 : ¬ (9223372036854775807 : Int) < (x.length : Int) + 1 + 1 + 1 := by omega
    cases d
    all_goals
      go_wp2_with (go_at_call 16; refine (spec_l8Number T _ (by omega)).mono ?_; rw [HX2.out]; rintro e w3 ⟨rfl, b3⟩; replace HK := Lib.hid (HK.out.below b3 (by omega)); replace HB := Lib.hid (HB.out.trans (b3.mono (by omega))); clear b3 p0 p1 p2 p3 p4 p5; have p5 := HK.out.cell 5)
      go_ret
      exact ⟨ret_st (by rw [HF.out, HN.out, HX.out]; simp), HB.out⟩
  case false =>
    have hzp := stV_size (ptL a b c)
    generalize hy : ptL a b c = y at *
    have HY := Lib.hid hy; clear hy
    have hs1 : stV y ++ ByteArray.mk #[47] = stV (y ++ [47]) := stV_app y [47]
    have hs2 : stV (y ++ [47]) ++ stV x = stV (y ++ [47] ++ x) := stV_app _ _
    have hs4 : (stV (y ++ [47])).size = y.length + 1 := (stV_size _).trans (by simp)
    have hs5 : (stV (y ++ [47] ++ x)).size = y.length + 1 + x.length := (stV_size _).trans (by simp; omega)
    have hs6 : stV (y ++ [47] ++ x) ++ ByteArray.mk #[126] = stV (y ++ [47] ++ x ++ [126]) := stV_app _ [126]
    rw [List.append_assoc] at hs2 hs5 hs6
    rw [List.singleton_append] at hs2 hs5 hs6
    have hq0 : ¬ (9223372036854775807 : Int) < (y.length : Int) + 1 := by omega
    have hq1 : ¬ (9223372036854775807 : Int) < (y.length : Int) + 1 + (x.length : Int) := by omega
    have hq2 : ¬ (9223372036854775807 : Int) < (y.length : Int) + 1 + (x.length : Int) + 1 := by omega
    cases d
    all_goals
      go_wp2_with (first
        | (go_at_call 71; refine (spec_PitchText a b c _).mono ?_; rw [HY.out]; rintro e w2 ⟨rfl, b2⟩; replace HK := Lib.hid (HK.out.below b2 (by omega)); have z2 := b2.size; replace HB := Lib.hid (HB.out.trans (b2.mono (by omega))); clear b2 p0 p1 p2 p3 p4 p5; have p4 := HK.out.cell 4; have p5 := HK.out.cell 5)
        | (go_at_call 16; refine (spec_l8Number T _ (by omega)).mono ?_; rw [HX2.out]; rintro e w3 ⟨rfl, b3⟩; replace HK := Lib.hid (HK.out.below b3 (by omega)); replace HB := Lib.hid (HB.out.trans (b3.mono (by omega))); clear b3 p4 p5; have p5 := HK.out.cell 5))
      go_ret
      exact ⟨ret_st (by rw [HF.out, HN.out, HX.out]; simp), HB.out⟩
/-- the texts of the first k notes, with a space between two -/
def vxTo (v : List Nt) : Nat → List UInt8
  | 0 => []
  | k + 1 => vxTo v k ++ (if 0 < k then [32] else []) ++ ntL (glNote v k)
def vxL (v : List Nt) : List UInt8 := if vvB v = true then vxTo v v.length else []
theorem vx_len (v : List Nt) : ∀ k, (vxTo v k).length ≤ 41 * k := by
  intro k
  induction k with
  | zero => simp [vxTo]
  | succ k ih =>
    have h1 := nt_len (n := glNote v k)
    simp only [vxTo, List.length_append]
    split <;> simp <;> omega
set_option maxHeartbeats 2000000 in
theorem spec_VoiceText (A : Option Addr) (c : Nat) (v : List Nt) (w : World) (hr : RdNote w w.heap.size A v) (hl : v.length ≤ 1048576) : Calls Tryz.prog 21 #[.slice A v.length c] w (RetS w (vxL v)) := by
  have HR := Lib.hid hr; clear hr
  go_enter Tryz.func21, Tryz.ntmps21
  go_wp2_with fail
  go_loopw [3, 4] (fun s i wr => ∃ (k : Nat) (l : List UInt8), k ≤ v.length ∧ i = .int .i64 k ∧ s = .string (stV l) ∧ l = vxTo v k ∧ (0 < k → vvB v = true) ∧ Below w.heap.size w wr) (fun _ i _ => v.length - (intOf i).toNat)
  case atStart => exact ⟨0, [], Nat.zero_le _, rfl, rfl, rfl, fun h => by omega, Below.refl _ _⟩
  case round =>
    obtain ⟨k, l, hk, rfl, rfl, hll, hval, hbel⟩ := hrel
    have HB := Lib.hid hbel; have HL := Lib.hid hll; have hsz := HB.out.size; have HVL := Lib.hid hval
    have hlen := vx_len v k
    rw [← hll] at hlen
    clear hbel hll hval
    by_cases hlt : k < v.length
    · have hi : ((k : Int) < (v.length : Int)) = True := eq_true (by omega)
      cases hv : vvB v
      · have HF : Hid (vxL v = l) := Lib.hid (by
          have h0 : k = 0 := by
            rcases Nat.eq_zero_or_pos k with h | h
            · exact h
            · rw [HVL.out h] at hv; cases hv
          unfold vxL; rw [if_neg (by rw [hv]; simp), HL.out, h0]; rfl)
        have HV := Lib.hid hv; clear hv
        go_wp2_with (go_at_call 22; refine (spec_VoiceValid _ _ _ _ (RdNote.more (RdNote.below HR.out HB.out (Nat.le_refl _)) hsz) hl).mono ?_; rw [HV.out]; rintro e w1 ⟨rfl, b1⟩; have HB1 := Lib.hid (HB.out.trans (b1.mono hsz)); clear b1)
        go_ret
        exact ⟨ret_st (by rw [HF.out]), HB1.out⟩
      · have h60 := (vvB_iff.1 hv).1
        have HV := Lib.hid hv; clear hv
        have HN := Lib.hid (show vxTo v (k + 1) = vxTo v k ++ (if 0 < k then [32] else []) ++ ntL (glNote v k) from rfl)
        have hnl := nt_len (n := glNote v k)
        obtain ⟨b8, off, hA, hbB, hc0, hc1, hc2, hc3, hc4, hc5⟩ := (RdNote.below HR.out HB.out (Nat.le_refl _)).at_ (k := k) hlt
        have hin : (k : Int).toNat = k := by omega
        have HRR := Lib.hid (RdNote.more (RdNote.below HR.out HB.out (Nat.le_refl _)) hsz)
        rcases hgn : glNote v k with ⟨r, a, b, c1, t, d⟩
        rw [hgn] at hc0 hc1 hc2 hc3 hc4 hc5 hnl
        have HGN := Lib.hid hgn; clear hgn
        dsimp only at hc0 hc1 hc2 hc3 hc4 hc5
        subst hA
        generalize hx : ntL (r, a, b, c1, t, d) = x at *
        have HX := Lib.hid hx; clear hx
        have hz1 := stV_size l; have hz2 := stV_size x
        have hzs : (ByteArray.mk #[32]).size = 1 := rfl
        have hs1 : stV l ++ ByteArray.mk #[32] = stV (l ++ [32]) := stV_app l [32]
        have hs2 : stV (l ++ [32]) ++ stV x = stV (l ++ [32] ++ x) := stV_app _ _
        have hs3 : stV l ++ stV x = stV (l ++ x) := stV_app _ _
        have hs4 : (stV (l ++ [32])).size = l.length + 1 := (stV_size _).trans (by simp)
        rw [List.append_assoc, List.singleton_append] at hs2
        have hq1 : ¬ (9223372036854775807 : Int) < (l.length : Int) + 1 := by omega
        have hq2 : ¬ (9223372036854775807 : Int) < (l.length : Int) + 1 + (x.length : Int) := by omega
        have hq3 : ¬ (9223372036854775807 : Int) < (l.length : Int) + (x.length : Int) := by omega
        by_cases hk0 : 0 < k
        · have hj : ((0 : Int) < (k : Int)) = True := eq_true (by omega)
          go_wp2_with (first
            | (go_at_call 22; refine (spec_VoiceValid _ _ _ _ HRR.out hl).mono ?_; rw [HV.out]; rintro e w1 ⟨rfl, b1⟩; have z1 := b1.size; have HB1 := Lib.hid (HB.out.trans (b1.mono hsz)); have e0 := (b1.cell (p := ⟨b8, off + k * 6, none⟩) (show b8 < wr.heap.size by omega)).trans hc0; have e1 := (b1.cell (p := ⟨b8, off + k * 6 + 1, none⟩) (show b8 < wr.heap.size by omega)).trans hc1; have e2 := (b1.cell (p := ⟨b8, off + k * 6 + 2, none⟩) (show b8 < wr.heap.size by omega)).trans hc2; have e3 := (b1.cell (p := ⟨b8, off + k * 6 + 3, none⟩) (show b8 < wr.heap.size by omega)).trans hc3; have e4 := (b1.cell (p := ⟨b8, off + k * 6 + 4, none⟩) (show b8 < wr.heap.size by omega)).trans hc4; have e5 := (b1.cell (p := ⟨b8, off + k * 6 + 5, none⟩) (show b8 < wr.heap.size by omega)).trans hc5; clear b1)
            | (go_at_call 48; refine (spec_NoteText r a b c1 t d _).mono ?_; rw [HX.out]; rintro e w2 ⟨rfl, b2⟩; have HB2 := Lib.hid (HB1.out.trans (b2.mono (by omega))); clear b2))
          go_roundw
          case rel => exact ⟨k + 1, l ++ ([32] ++ x), by omega, by go_num, rfl, by rw [HN.out, ← HL.out, HGN.out, HX.out, if_pos hk0, List.append_assoc], fun _ => (by first | exact HV.out | trivial), HB2.out⟩
          case measure => simp [intOf]; omega
        · have hj : ((0 : Int) < (k : Int)) = False := eq_false (by omega)
          go_wp2_with (first
            | (go_at_call 22; refine (spec_VoiceValid _ _ _ _ HRR.out hl).mono ?_; rw [HV.out]; rintro e w1 ⟨rfl, b1⟩; have z1 := b1.size; have HB1 := Lib.hid (HB.out.trans (b1.mono hsz)); have e0 := (b1.cell (p := ⟨b8, off + k * 6, none⟩) (show b8 < wr.heap.size by omega)).trans hc0; have e1 := (b1.cell (p := ⟨b8, off + k * 6 + 1, none⟩) (show b8 < wr.heap.size by omega)).trans hc1; have e2 := (b1.cell (p := ⟨b8, off + k * 6 + 2, none⟩) (show b8 < wr.heap.size by omega)).trans hc2; have e3 := (b1.cell (p := ⟨b8, off + k * 6 + 3, none⟩) (show b8 < wr.heap.size by omega)).trans hc3; have e4 := (b1.cell (p := ⟨b8, off + k * 6 + 4, none⟩) (show b8 < wr.heap.size by omega)).trans hc4; have e5 := (b1.cell (p := ⟨b8, off + k * 6 + 5, none⟩) (show b8 < wr.heap.size by omega)).trans hc5; clear b1)
            | (go_at_call 48; refine (spec_NoteText r a b c1 t d _).mono ?_; rw [HX.out]; rintro e w2 ⟨rfl, b2⟩; have HB2 := Lib.hid (HB1.out.trans (b2.mono (by omega))); clear b2))
          go_roundw
          case rel => exact ⟨k + 1, l ++ x, by omega, by go_num, rfl, by rw [HN.out, ← HL.out, HGN.out, HX.out, if_neg hk0, List.append_nil], fun _ => (by first | exact HV.out | trivial), HB2.out⟩
          case measure => simp [intOf]; omega
    · have hi : ((k : Int) < (v.length : Int)) = False := eq_false (by omega)
      have HF : Hid (vxL v = l) := Lib.hid (by
        have h0 : k = v.length := by omega
        unfold vxL
        split
        · rw [HL.out, h0]
        · rename_i hv
          rcases Nat.eq_zero_or_pos k with h | h
          · rw [HL.out, h]; rfl
          · exact absurd (HVL.out h) hv)
      go_wp2_with fail
      go_ret
      exact ⟨ret_st (by rw [HF.out]), HB.out⟩
end Go.Proofs.YtmodpleonhniaaaGreatDoor
