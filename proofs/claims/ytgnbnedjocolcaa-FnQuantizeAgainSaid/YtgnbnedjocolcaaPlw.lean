/- Contract of PlainVoice of the reference. Condition: at most 2^20 notes. -/
import Derived.Test.YtgnbnedjocolcaaPlv
namespace Go.Proofs.Ytgnbnedjocolcaa
open Go.RowKit
set_option linter.unusedSimpArgs false
set_option linter.unusedVariables false
set_option maxRecDepth 100000
set_option maxHeartbeats 8000000 in
theorem spec_PlainVoice (A : Option Addr) (c : Nat) (v : List Nt) (w : World) (hr : RdNote w w.heap.size A v) (hl : v.length ≤ 1048576) :
    Calls Try.prog 17 #[.slice A v.length c] w (RetNB w (plainL v)) := by
  have HE0 := Lib.hid (own_empty (size := 6) (e := 63) (Below.refl _ w) (Nat.le_refl _))
  have HR := Lib.hid (hr.al (Nat.le_refl _) (.cells #[] 63))
  clear hr
  cases hv : vvB v
  · have HF := Lib.hid (plain_no (.inl hv)); have HV := Lib.hid hv; clear hv
    go_enter Try.func17, Try.ntmps17
    go_wp2_with fail
    refine (spec_VoiceValid _ _ _ _ (HR.out.more (by simp)) hl).mono ?_
    rw [HV.out]
    rintro e w1 ⟨rfl, b1⟩
    have HB := Lib.hid b1; clear b1
    go_wp2_with fail
    go_ret2
    unfold RetNB; rw [HF.out]
    exact ⟨_, 0, rfl, HE0.out.1.kept (row := none) (only_of_below HB.out none) (by rw [ob_slice]; exact .inr (by simp [obA])), HE0.out.2.1.trans (HB.out.mono (by simp))⟩
  have hlen := vv_len hv
  have HV := Lib.hid hv; clear hv
  have hgl := grp_len HV.out
  have hgf := grp_facts HV.out
  have HGF := Lib.hid hgf
  have htk := tk_bd HV.out
  have HGP := Lib.hid (grp_pv HV.out)
  clear hgf
  go_enter Try.func17, Try.ntmps17
  go_wp2_with fail
  refine (spec_VoiceValid _ _ _ _ (HR.out.more (by simp)) hl).mono ?_
  rw [HV.out]
  rintro e w1 ⟨rfl, b1⟩
  have z1 := b1.size
  simp only [World.size_alloc] at z1
  have HB1 := Lib.hid (HE0.out.2.1.trans (b1.mono (by simp)))
  have HO1 := Lib.hid (HE0.out.1.kept (row := none) (only_of_below b1 none) (by rw [ob_slice]; exact .inr (by simp [obA])))
  have HR1 := Lib.hid (RdNote.below HR.out b1 (by simp))
  clear b1
  go_wp2_with fail
  refine (spec_l19Groups _ _ _ _ (HR1.out.more (by omega)) HV.out).mono ?_
  rintro e w2 ⟨AG, cG, rfl, oG, b2⟩
  have z2 := b2.size
  have HB2 := Lib.hid (HB1.out.trans (b2.mono (by omega)))
  have HO2 := Lib.hid (HO1.out.kept (row := none) (only_of_below b2 none) (by rw [ob_slice]; exact .inr (by simp [obA])))
  have HOG := Lib.hid oG
  have HDI : Hid (∀ g, obA AG = some g → obA (some ⟨w.heap.size, 0, none⟩) ≠ some g) := Lib.hid (fun g hg e => by have := (own_ob oG g hg).1; simp [obA] at e; omega)
  clear b2 oG
  generalize hGG : grpL v = G at *
  go_wp2_with fail
  go_loopw [4, 6, 7] (fun oq rq i wr => ∃ (k : Nat) (A2 : Option Addr) (c2 : Nat), k ≤ G.length ∧ i = .int .i64 k ∧ rq = .int .i64 (wT G k).2 ∧ oq = .slice A2 (wT G k).1.length c2 ∧ wr.ownsRow w.heap.size 63 6 (.slice A2 (wT G k).1.length c2) (wT G k).1.length (fl encNote (wT G k).1) ∧ wr.ownsRow w1.heap.size 63 6 (.slice AG G.length cG) G.length (fl encNote G) ∧ (∀ g, obA AG = some g → obA A2 ≠ some g) ∧ ksT G k ∧ Below w.heap.size w wr) (fun _ _ i _ => G.length - (intOf i).toNat)
  case atStart => exact ⟨0, _, 0, Nat.zero_le _, rfl, by rw [wT_zero], by rw [wT_zero]; rfl, by rw [wT_zero]; exact HO2.out, HOG.out, HDI.out, fun j h => by omega, HB2.out⟩
  case round =>
    obtain ⟨k, A2, c2, hk, rfl, rfl, rfl, ho, hog, hdi, hks, hbel⟩ := hrel
    have hsz := hbel.size
    have HO := Lib.hid ho; have HG := Lib.hid hog; have HD := Lib.hid hdi; have HK := Lib.hid hks; have HB := Lib.hid hbel
    have HGL := Lib.hid (fun g (h : obA AG = some g) => (own_ob hog g h).2)
    clear hks hbel hdi
    by_cases hlt : k < G.length
    · obtain ⟨b, off, rfl, hbB, hc0, hc1, hc2, hc3, hc4, hc5⟩ := RdNote.at_ (show RdNote wr wr.heap.size AG G from RdR.of_own hog) hlt
      have hi1 : (k : Int) < (G.length : Int) := by omega
      have hin : (k : Int).toNat = k := by omega
      have hwb := wT_bd HGF.out.1 k hk
      have heb := eT_mono HGF.out.1 hk
      have heb2 := eT_mono HGF.out.1 (k := k + 1) hlt
      rw [eT_tick hlt, HGF.out.2.1] at heb2
      have hpos := HGF.out.1 _ (gl_mem hlt)
      have HWT1 := Lib.hid (fun (h : (glNote G k).1 = true) => show (wT G (k + 1)).1 = (wT G k).1 ∧ (wT G (k + 1)).2 = (wT G k).2 + (glNote G k).2.2.2.2.1 by rw [wT_succ hlt]; unfold wStep; rw [h]; exact ⟨rfl, rfl⟩)
      have HWT0 := Lib.hid (fun (h : (glNote G k).1 = false) => show (wT G (k + 1)).1 = (wT G k).1 ++ pcs (true, 0, 0, 0) (wT G k).2 ++ pcs (false, spL (pkL ((glNote G k).2.1, (glNote G k).2.2.1, (glNote G k).2.2.2.1))) (glNote G k).2.2.2.2.1 ∧ (wT G (k + 1)).2 = 0 by rw [wT_succ hlt]; unfold wStep; rw [h]; exact ⟨rfl, rfl⟩)
      have HPV := Lib.hid (fun h1 => pkB_ok (HGP.out _ (gl_mem hlt) h1))
      have HNO := Lib.hid (fun h1 h2 => plain_no (.inr (ksG_no HV.out (by rw [hGG]; exact hlt) (by rw [hGG]; exact h1) (by rw [hGG]; exact h2))))
      have HK1 : Hid ((glNote G k).1 = true ∨ inR (pkL ((glNote G k).2.1, (glNote G k).2.2.1, (glNote G k).2.2.2.1)) 0 107 = true → ksT G (k + 1)) := Lib.hid (fun h j hj => by
        rcases Nat.lt_or_ge j k with h2 | h2
        · exact HK.out j h2
        · obtain rfl : j = k := by omega
          exact h)
      have HXB := Lib.hid (show (wr.alloc (.cells #[.bool (glNote G k).1, .int .i64 (glNote G k).2.1, .int .i64 (glNote G k).2.2.1, .int .i64 (glNote G k).2.2.2.1, .int .i64 (glNote G k).2.2.2.2.1, .bool (glNote G k).2.2.2.2.2] 63)).heap.size = wr.heap.size + 1 by simp)
      have hblk := Blk.new wr 63 #[.bool (glNote G k).1, .int .i64 (glNote G k).2.1, .int .i64 (glNote G k).2.2.1, .int .i64 (glNote G k).2.2.2.1, .int .i64 (glNote G k).2.2.2.2.1, .bool (glNote G k).2.2.2.2.2]
      have HBK := Lib.hid hblk
      have HGA := Lib.hid ((Grw.refl wr A2).al (.cells #[.bool (glNote G k).1, .int .i64 (glNote G k).2.1, .int .i64 (glNote G k).2.2.1, .int .i64 (glNote G k).2.2.2.1, .int .i64 (glNote G k).2.2.2.2.1, .bool (glNote G k).2.2.2.2.2] 63))
      have HOA := Lib.hid (ho.alloc (.cells #[.bool (glNote G k).1, .int .i64 (glNote G k).2.1, .int .i64 (glNote G k).2.2.1, .int .i64 (glNote G k).2.2.2.1, .int .i64 (glNote G k).2.2.2.2.1, .bool (glNote G k).2.2.2.2.2] 63))
      have q0 := hblk.cell 0; have q1 := hblk.cell 1; have q2 := hblk.cell 2; have q3 := hblk.cell 3; have q4 := hblk.cell 4; have q5 := hblk.cell 5
      have HOB := Lib.hid (own_ob ho)
      clear hblk ho hog heb
      generalize (wT G k).2 = rk at *
      generalize hwk : (wT G k).1 = wk at *
      generalize (eT G k).2 = ek at *
      generalize (glNote G k).1 = r at *
      generalize (glNote G k).2.1 = a at *
      generalize (glNote G k).2.2.1 = b1 at *
      generalize (glNote G k).2.2.2.1 = o1 at *
      generalize (glNote G k).2.2.2.2.1 = dt at *
      generalize (glNote G k).2.2.2.2.2 = d at *
      have v1 : IntKind.i64.wrap (rk + dt) = rk + dt := IntWalk.i64_in _ (by omega)
      generalize hwa : (wr.alloc (.cells #[.bool r, .int .i64 a, .int .i64 b1, .int .i64 o1, .int .i64 dt, .bool d] 63)) = wa at *
      have hxb := HXB.out
      have HGT := Lib.hid (fun (w7 : World) (A7 : Option Addr) (h : Grw wr w7 A2 A7) => show w7.ownsRow w1.heap.size 63 6 (.slice (some ⟨b, off, none⟩) G.length cG) G.length (fl encNote G) ∧ (∀ g, obA (some ⟨b, off, none⟩) = some g → obA A7 ≠ some g) ∧ Below w.heap.size w w7 from ⟨h.own HG.out HD.out, h.apart HGL.out HD.out, HB.out.trans (h.below hsz (fun q e => (HOB.out q e).1))⟩)
      cases r
      case true =>
        have HKN := Lib.hid (HK1.out (.inl rfl))
        have HWN : Hid ((wT G (k + 1)).1 = wk ∧ (wT G (k + 1)).2 = rk + dt) := Lib.hid (by first | exact HWT1.out rfl | exact HWT1.out trivial)
        go_wp2_with fail
        go_roundw
        case rel => exact ⟨k + 1, A2, c2, by omega, by go_num, by rw [HWN.out.2], by rw [HWN.out.1], by rw [HWN.out.1]; exact HOA.out, (HGT.out _ _ HGA.out).1, (HGT.out _ _ HGA.out).2.1, HKN.out, (HGT.out _ _ HGA.out).2.2⟩
        case measure => simp [intOf]; omega
      case false =>
        have HPK : Hid (pkB a b1 o1 = pkL (a, b1, o1)) := Lib.hid (by first | exact HPV.out rfl | exact HPV.out trivial | simpa using HPV.out)
        cases hin2 : inR (pkL (a, b1, o1)) 0 107
        · have HF : Hid (plainL v = ([], false)) := Lib.hid (by first | exact HNO.out rfl hin2 | exact HNO.out trivial hin2)
          have HN := Lib.hid hin2
          clear hin2
          go_wp2_with fail
          refine (spec_PitchKey a b1 o1 _).mono ?_
          rw [HPK.out]
          rintro e w3 ⟨rfl, b3⟩
          have z3 := b3.size
          have HG3 := Lib.hid (HGA.out.bel b3)
          clear b3
          go_wp2_with fail
          refine (spec_SpellKey _ _).mono ?_
          unfold RetSp
          rw [HN.out]
          simp only [Bool.false_eq_true, if_false]
          rintro e w4 ⟨rfl, b4⟩
          have z4 := b4.size
          have HG4 := Lib.hid (HG3.out.bel b4)
          clear b4
          go_wp2_with fail
          go_ret2
          unfold RetNB; rw [HF.out]
          have hbz := (HGT.out _ _ HG4.out).2.2.alloc (show w.heap.size ≤ w4.heap.size by omega) (.cells #[.int .i64 0, .int .i64 0, .int .i64 0] 54)
          have hoz := own_empty (size := 6) (e := 63) hbz (by simp; omega)
          exact ⟨_, 0, rfl, by simpa [fl] using hoz.1, hoz.2.1⟩
        · have HN := Lib.hid hin2
          have HKN : Hid (ksT G (k + 1)) := Lib.hid (HK1.out (.inr hin2))
          have HWN : Hid ((wT G (k + 1)).1 = wk ++ pcs (true, 0, 0, 0) rk ++ pcs (false, spL (pkL (a, b1, o1))) dt ∧ (wT G (k + 1)).2 = 0) := Lib.hid (by first | exact HWT0.out rfl | exact HWT0.out trivial)
          clear hin2
          have hl1 := pcs_len (true, 0, 0, 0) rk (by omega)
          have hl2 : (wk ++ pcs (true, 0, 0, 0) rk).length ≤ 2000000 := by rw [List.length_append]; omega
          have hl3 : wk.length ≤ 2000000 := by omega
          have HL2 := Lib.hid hl2; have HL3 := Lib.hid hl3
          clear hl1 hl2 hl3
          go_wp2_with fail
          refine (spec_PitchKey a b1 o1 _).mono ?_
          rw [HPK.out]
          rintro e w3 ⟨rfl, b3⟩
          have z3 := b3.size
          have HG3 := Lib.hid (HGA.out.bel b3)
          have HO3 := Lib.hid (own_bel HOA.out b3)
          have HX3 := Lib.hid (HBK.out.below b3 (by omega))
          clear b3
          go_wp2_with fail
          refine (spec_SpellKey _ _).mono ?_
          unfold RetSp
          rw [HN.out]
          simp only [if_true]
          rintro e w4 ⟨rfl, b4⟩
          have z4 := b4.size
          have HG4 := Lib.hid (HG3.out.bel b4)
          have HO4 := Lib.hid (own_bel HO3.out b4)
          have HX4 := Lib.hid (HX3.out.below b4 (by omega))
          clear b4
          go_wp2_with fail
          have hsp := Blk.new w4 54 #[.int .i64 (spL (pkL (a, b1, o1))).1, .int .i64 (spL (pkL (a, b1, o1))).2.1, .int .i64 (spL (pkL (a, b1, o1))).2.2]
          have HSP := Lib.hid hsp
          have hzs : (w4.alloc (.cells #[.int .i64 (spL (pkL (a, b1, o1))).1, .int .i64 (spL (pkL (a, b1, o1))).2.1, .int .i64 (spL (pkL (a, b1, o1))).2.2] 54)).heap.size = w4.heap.size + 1 := by simp
          have HG5 := Lib.hid (HG4.out.al (.cells #[.int .i64 (spL (pkL (a, b1, o1))).1, .int .i64 (spL (pkL (a, b1, o1))).2.1, .int .i64 (spL (pkL (a, b1, o1))).2.2] 54))
          have HO5 := Lib.hid (HO4.out.alloc (.cells #[.int .i64 (spL (pkL (a, b1, o1))).1, .int .i64 (spL (pkL (a, b1, o1))).2.1, .int .i64 (spL (pkL (a, b1, o1))).2.2] 54))
          have HX5 := Lib.hid (HX4.out.alloc (.cells #[.int .i64 (spL (pkL (a, b1, o1))).1, .int .i64 (spL (pkL (a, b1, o1))).2.1, .int .i64 (spL (pkL (a, b1, o1))).2.2] 54))
          clear hsp
          generalize (w4.alloc (.cells #[.int .i64 (spL (pkL (a, b1, o1))).1, .int .i64 (spL (pkL (a, b1, o1))).2.1, .int .i64 (spL (pkL (a, b1, o1))).2.2] 54)) = w5 at *
          refine (spec_l20Add true 0 0 0 0 false rk w.heap.size A2 c2 wk w5 HO5.out (by omega) (by omega) HL3.out).mono ?_
          rintro e w6 ⟨A6, c6, rfl, o6, g6⟩
          have z6 := g6.1.size
          have hn1 : obA A2 ≠ some wr.heap.size := fun e9 => by have := HOB.out _ e9; omega
          have hn2 : obA A2 ≠ some w4.heap.size := fun e9 => by have := HOB.out _ e9; omega
          have hx6 := g6.blk HX5.out hn1
          have hs6 := g6.blk HSP.out hn2
          have s4 : w6.cell? ⟨wr.heap.size, 4, none⟩ = some (.int .i64 dt) := hx6.cell 4
          have r0 : w6.cell? ⟨w4.heap.size, 0, none⟩ = some (.int .i64 (spL (pkL (a, b1, o1))).1) := hs6.cell 0
          have r1 : w6.cell? ⟨w4.heap.size, 1, none⟩ = some (.int .i64 (spL (pkL (a, b1, o1))).2.1) := hs6.cell 1
          have r2 : w6.cell? ⟨w4.heap.size, 2, none⟩ = some (.int .i64 (spL (pkL (a, b1, o1))).2.2) := hs6.cell 2
          have HG6 := Lib.hid (HG5.out.trans g6)
          have HO6 := Lib.hid o6
          clear hx6 hs6 o6 g6 hn1 hn2
          generalize hw6 : wk ++ pcs (true, 0, 0, 0) rk = wk6 at *
          go_wp2_with fail
          refine (spec_l20Add false _ _ _ 0 false dt w.heap.size A6 c6 wk6 w6 HO6.out (by omega) (by omega) HL2.out).mono ?_
          rintro e w7 ⟨A7, c7, rfl, o7, g7⟩
          have HG7 := Lib.hid (HG6.out.trans g7)
          have HO7 := Lib.hid o7
          clear o7 g7
          go_wp2_with fail
          go_roundw
          case rel => exact ⟨k + 1, A7, c7, by omega, by go_num, by rw [HWN.out.2], by rw [HWN.out.1, List.length_append], by rw [HWN.out.1]; exact HO7.out, (HGT.out _ _ HG7.out).1, (HGT.out _ _ HG7.out).2.1, HKN.out, (HGT.out _ _ HG7.out).2.2⟩
          case measure => simp [intOf]; omega
    · obtain rfl : k = G.length := by omega
      have HKB := Lib.hid (ksG_all HV.out (by rw [hGG]; exact HK.out))
      have HF : Hid (plainL v = ((wT G G.length).1, true)) := Lib.hid (by rw [plain_yes HV.out HKB.out, wT_all, HGF.out.2.2.2.2])
      clear ho hog
      go_wp2_with fail
      go_ret2
      unfold RetNB; rw [HF.out]
      exact ⟨_, _, rfl, HO.out, HB.out⟩

end Go.Proofs.Ytgnbnedjocolcaa
