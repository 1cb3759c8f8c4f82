/- Contract of Quantize of the reference. Condition: at most 2^20 events and tempos. -/
import Derived.Test.YtgnbnedjocolcaaQnz
namespace Go.Proofs.Ytgnbnedjocolcaa
open Go.RowKit
set_option linter.unusedSimpArgs false
set_option linter.unusedVariables false
set_option maxRecDepth 100000
set_option maxHeartbeats 8000000 in
theorem spec_Quantize (A C : Option Addr) (c d : Nat) (es : List Ev) (ts : List (Int × Int)) (g : Int) (w : World) (hx : RdEvent w w.heap.size A es) (hy : RdTempo w w.heap.size C ts) (hl : es.length ≤ 1048576) (hl2 : ts.length ≤ 1048576) :
    Calls Try.prog 24 #[.slice A es.length c, .slice C ts.length d, .int .i64 g] w (RetNB w (quanL es ts g)) := by
  have HE0 := Lib.hid (own_empty (size := 6) (e := 63) (Below.refl _ w) (Nat.le_refl _))
  have HB := Lib.hid HE0.out.2.1
  have HO := Lib.hid HE0.out.1
  have hz0 : (w.alloc (.cells #[] 63)).heap.size = w.heap.size + 1 := by simp
  have HX := Lib.hid hx; have HY := Lib.hid hy
  clear hx hy
  cases he : evB es
  · have HF := Lib.hid (quan_no (ts := ts) (g := g) (.inl he)); have HE := Lib.hid he; clear he
    go_enter Try.func24, Try.ntmps24
    go_wp2_with fail
    refine (spec_EventsValid _ _ _ _ (RdEvent.more (RdEvent.below HX.out HB.out (Nat.le_refl _)) (by simp only [World.size_alloc]; omega)) hl).mono ?_
    rw [HE.out]
    rintro e w1 ⟨rfl, b1⟩
    have z1 := b1.size
    simp only [World.size_alloc] at z1
    replace HO := Lib.hid (own_bel HO.out b1)
    replace HB := Lib.hid (HB.out.trans (b1.mono (by simp only [World.size_alloc]; omega))); clear b1
    go_wp2_with fail
    go_ret2
    unfold RetNB; rw [HF.out]
    exact ⟨_, 0, rfl, HO.out, HB.out⟩
  cases ht : tvB ts
  · have HF := Lib.hid (quan_no (es := es) (g := g) (.inr (.inl ht))); have HE := Lib.hid he; have HT := Lib.hid ht; clear he ht
    go_enter Try.func24, Try.ntmps24
    go_wp2_with fail
    refine (spec_EventsValid _ _ _ _ (RdEvent.more (RdEvent.below HX.out HB.out (Nat.le_refl _)) (by simp only [World.size_alloc]; omega)) hl).mono ?_
    rw [HE.out]
    rintro e w1 ⟨rfl, b1⟩
    have z1 := b1.size
    simp only [World.size_alloc] at z1
    replace HO := Lib.hid (own_bel HO.out b1)
    replace HB := Lib.hid (HB.out.trans (b1.mono (by simp only [World.size_alloc]; omega))); clear b1
    go_wp2_with fail
    refine (spec_TemposValid _ _ _ _ (RdTempo.more (RdTempo.below HY.out HB.out (Nat.le_refl _)) (by omega)) hl2).mono ?_
    rw [HT.out]
    rintro e w2 ⟨rfl, b2⟩
    have z2 := b2.size
    replace HO := Lib.hid (own_bel HO.out b2)
    replace HB := Lib.hid (HB.out.trans (b2.mono (by omega))); clear b2
    go_wp2_with fail
    go_ret2
    unfold RetNB; rw [HF.out]
    exact ⟨_, 0, rfl, HO.out, HB.out⟩
  cases hg : inR g 1 768
  · have HF := Lib.hid (quan_no (es := es) (ts := ts) (.inr (.inr hg))); have HE := Lib.hid he; have HT := Lib.hid ht; clear he ht
    go_enter Try.func24, Try.ntmps24
    go_wp2_with fail
    refine (spec_EventsValid _ _ _ _ (RdEvent.more (RdEvent.below HX.out HB.out (Nat.le_refl _)) (by simp only [World.size_alloc]; omega)) hl).mono ?_
    rw [HE.out]
    rintro e w1 ⟨rfl, b1⟩
    have z1 := b1.size
    simp only [World.size_alloc] at z1
    replace HO := Lib.hid (own_bel HO.out b1)
    replace HB := Lib.hid (HB.out.trans (b1.mono (by simp only [World.size_alloc]; omega))); clear b1
    go_wp2_with fail
    refine (spec_TemposValid _ _ _ _ (RdTempo.more (RdTempo.below HY.out HB.out (Nat.le_refl _)) (by omega)) hl2).mono ?_
    rw [HT.out]
    rintro e w2 ⟨rfl, b2⟩
    have z2 := b2.size
    replace HO := Lib.hid (own_bel HO.out b2)
    replace HB := Lib.hid (HB.out.trans (b2.mono (by omega))); clear b2
    go_wp2_with (go_at_call 29; refine (spec_l1In _ _ _ _).mono ?_; rintro e w' ⟨rfl, rfl⟩)
    go_ret2
    unfold RetNB; rw [HF.out]
    exact ⟨_, 0, rfl, HO.out, HB.out⟩
  have hg1 := inR_iff.1 hg
  have HQ := Lib.hid (vT_bd he ht hg1)
  have HF := Lib.hid (quan_yes he ht hg)
  have hel : es.length ≤ 60 := (evB_iff.1 he).1
  have HE := Lib.hid he; have HT := Lib.hid ht; clear he ht
  go_enter Try.func24, Try.ntmps24
  go_wp2_with fail
  refine (spec_EventsValid _ _ _ _ (RdEvent.more (RdEvent.below HX.out HB.out (Nat.le_refl _)) (by simp only [World.size_alloc]; omega)) hl).mono ?_
  rw [HE.out]
  rintro e w1 ⟨rfl, b1⟩
  have z1 := b1.size
  simp only [World.size_alloc] at z1
  replace HO := Lib.hid (own_bel HO.out b1)
  replace HB := Lib.hid (HB.out.trans (b1.mono (by simp only [World.size_alloc]; omega))); clear b1
  go_wp2_with fail
  refine (spec_TemposValid _ _ _ _ (RdTempo.more (RdTempo.below HY.out HB.out (Nat.le_refl _)) (by omega)) hl2).mono ?_
  rw [HT.out]
  rintro e w2 ⟨rfl, b2⟩
  have z2 := b2.size
  replace HO := Lib.hid (own_bel HO.out b2)
  replace HB := Lib.hid (HB.out.trans (b2.mono (by omega))); clear b2
  go_wp2_with (go_at_call 29; refine (spec_l1In _ _ _ _).mono ?_; rintro e w' ⟨rfl, rfl⟩)
  clear hg
  go_loopw [8, 9, 10] (fun oq aq i wr => ∃ (k : Nat) (A2 : Option Addr) (c2 : Nat), k ≤ es.length ∧ i = .int .i64 k ∧ aq = .int .i64 (vT es ts g k).2 ∧ oq = .slice A2 (vT es ts g k).1.length c2 ∧ wr.ownsRow w.heap.size 63 6 (.slice A2 (vT es ts g k).1.length c2) (vT es ts g k).1.length (fl encNote (vT es ts g k).1) ∧ Below w.heap.size w wr) (fun _ _ i _ => es.length - (intOf i).toNat)
  case atStart => exact ⟨0, _, 0, Nat.zero_le _, rfl, by rw [vT_zero], by rw [vT_zero]; rfl, by rw [vT_zero]; exact HO.out, HB.out⟩
  case round =>
    clear HO
    obtain ⟨k, A2, c2, hk, rfl, rfl, rfl, ho, hbel⟩ := hrel
    have hsz := hbel.size
    have HO := Lib.hid ho; replace HB := Lib.hid hbel; have HB0 := Lib.hid hbel
    have HOB := Lib.hid (own_ob ho)
    clear ho
    by_cases hlt : k < es.length
    · obtain ⟨b, off, rfl, hbB, hc0, hc1, hc2, hc3⟩ := (HX.out.below hbel (Nat.le_refl _)).at_ hlt
      clear hbel
      obtain ⟨a0, a1, a2, a3, _⟩ := (evB_iff.1 HE.out).2 k hlt
      have hq := HQ.out k
      have t0 := tickL_in HT.out a0
      have t1 := tickL_in HT.out (show 0 ≤ (glEvent es k).2.1 by omega)
      have r0 := (rnd_bd t0 hg1).2.2
      have r1 := (rnd_bd t1 hg1).2.2
      have HS := Lib.hid (show vT es ts g (k + 1) = qStep ((vT es ts g k).1, (vT es ts g k).2) ((glEvent es k).2.2.1, rnd (tickL ts (glEvent es k).1) g, rnd (tickL ts (glEvent es k).2.1) g) from vT_succ hlt)
      have hi1 : (k : Int) < (es.length : Int) := by omega
      have hin : (k : Int).toNat = k := by omega
      generalize (glEvent es k).2.2.1 = ky at *
      generalize (glEvent es k).2.2.2 = ld at *
      generalize (glEvent es k).1 = on at *
      generalize (glEvent es k).2.1 = of at *
      generalize hx0 : rnd (tickL ts on) g = x0 at *
      generalize hx1 : rnd (tickL ts of) g = x1 at *
      generalize hy0 : tickL ts on = y0 at *
      generalize hy1 : tickL ts of = y1 at *
      generalize hve : (vT es ts g k).2 = ve at *
      generalize hvl : (vT es ts g k).1 = vl at *
      have HX0 := Lib.hid hx0; have HX1 := Lib.hid hx1; have HY0 := Lib.hid hy0; have HY1 := Lib.hid hy1
      clear hx0 hx1 hy0 hy1 hve hvl
      have hky : inR ky 0 107 = true := inR_iff.2 a3
      have HKY := Lib.hid hky; clear hky
      go_wp2_with fail
      refine (spec_TickOf _ _ _ _ _ (RdTempo.more (RdTempo.below HY.out HB.out (Nat.le_refl _)) (by omega)) hl2).mono ?_
      rw [HY0.out]
      rintro e w4 ⟨rfl, b4⟩
      have z4 := b4.size
      have d1 := (b4.cell (p := ⟨b, off + k * 4 + 1, none⟩) (by simp; omega)).trans hc1
      have d2 := (b4.cell (p := ⟨b, off + k * 4 + 2, none⟩) (by simp; omega)).trans hc2
      replace HO := Lib.hid (own_bel HO.out b4)
      have HG4 := Lib.hid ((Grw.refl wr A2).bel b4)
      replace HB := Lib.hid (HB.out.trans (b4.mono hsz)); clear b4
      go_wp2_with fail
      refine (spec_l20Round y0 g _ t0 hg1).mono ?_
      rw [HX0.out]
      rintro e w' ⟨rfl, rfl⟩
      go_wp2_with fail
      refine (spec_TickOf _ _ _ _ _ (RdTempo.more (RdTempo.below HY.out HB.out (Nat.le_refl _)) (by omega)) hl2).mono ?_
      rw [HY1.out]
      rintro e w5 ⟨rfl, b5⟩
      have z5 := b5.size
      have e2 := (b5.cell (p := ⟨b, off + k * 4 + 2, none⟩) (by simp; omega)).trans d2
      replace HO := Lib.hid (own_bel HO.out b5)
      replace HG4 := Lib.hid (HG4.out.bel b5)
      replace HB := Lib.hid (HB.out.trans (b5.mono (by omega))); clear b5
      go_wp2_with fail
      refine (spec_l20Round y1 g _ t1 hg1).mono ?_
      rw [HX1.out]
      rintro e w' ⟨rfl, rfl⟩
      clear hc0 hc1 hc2 hc3 d1 d2
      go_wp2_with fail
      refine (spec_SpellKey _ _).mono ?_
      unfold RetSp
      rw [HKY.out]
      simp only [if_true]
      rintro e w6 ⟨rfl, b6⟩
      have z6 := b6.size
      have HG6 := Lib.hid (HG4.out.bel b6)
      have HO6 := Lib.hid (own_bel HO.out b6)
      have HB6 := Lib.hid (HB.out.trans (b6.mono (by omega)))
      clear b6 e2 HO HG4
      have hsp := Blk.new w6 54 #[.int .i64 (spL ky).1, .int .i64 (spL ky).2.1, .int .i64 (spL ky).2.2]
      have HSP := Lib.hid hsp
      have hzs : (w6.alloc (.cells #[.int .i64 (spL ky).1, .int .i64 (spL ky).2.1, .int .i64 (spL ky).2.2] 54)).heap.size = w6.heap.size + 1 := by simp
      have HG7 := Lib.hid (HG6.out.al (.cells #[.int .i64 (spL ky).1, .int .i64 (spL ky).2.1, .int .i64 (spL ky).2.2] 54))
      have HO7 := Lib.hid (HO6.out.alloc (.cells #[.int .i64 (spL ky).1, .int .i64 (spL ky).2.1, .int .i64 (spL ky).2.2] 54))
      have HB7 := Lib.hid (HB6.out.alloc (show w.heap.size ≤ w6.heap.size by omega) (.cells #[.int .i64 (spL ky).1, .int .i64 (spL ky).2.1, .int .i64 (spL ky).2.2] 54))
      have c0 := hsp.cell 0; have c1 := hsp.cell 1; have c2' := hsp.cell 2
      clear hsp
      by_cases h1 : x0 < ve
      · have HFN : Hid (qStep (vl, ve) (ky, x0, x1) = (vl, ve)) := Lib.hid (by unfold qStep; rw [if_pos (.inl h1)])
        go_wp2_with fail
        go_roundw
        case rel => exact ⟨k + 1, A2, c2, by omega, by go_num, by rw [HS.out, HFN.out], by rw [HS.out, HFN.out], by rw [HS.out, HFN.out]; exact HO7.out, HB7.out⟩
        case measure => simp [intOf]; omega
      by_cases h2 : x1 ≤ x0
      · have HFN : Hid (qStep (vl, ve) (ky, x0, x1) = (vl, ve)) := Lib.hid (by unfold qStep; rw [if_pos (.inr h2)])
        go_wp2_with fail
        go_roundw
        case rel => exact ⟨k + 1, A2, c2, by omega, by go_num, by rw [HS.out, HFN.out], by rw [HS.out, HFN.out], by rw [HS.out, HFN.out]; exact HO7.out, HB7.out⟩
        case measure => simp [intOf]; omega
      have HFN : Hid (qStep (vl, ve) (ky, x0, x1) = (vl ++ pcs (true, 0, 0, 0) (x0 - ve) ++ pcs (false, spL ky) (x1 - x0), x1)) := Lib.hid (by unfold qStep; rw [if_neg (by simp; omega)])
      have hl1 := pcs_len (true, 0, 0, 0) (x0 - ve) (by omega)
      have hl4 : (vl ++ pcs (true, 0, 0, 0) (x0 - ve)).length ≤ 2000000 := by rw [List.length_append]; omega
      have hl3 : vl.length ≤ 2000000 := by omega
      have HL2 := Lib.hid hl4; have HL3 := Lib.hid hl3
      clear hl1 hl4 hl3
      go_wp2_with fail
      generalize hw7 : (w6.alloc (.cells #[.int .i64 (spL ky).1, .int .i64 (spL ky).2.1, .int .i64 (spL ky).2.2] 54)) = w7 at *
      refine (spec_l20Add true 0 0 0 0 false (x0 - ve) w.heap.size A2 c2 vl w7 HO7.out (by omega) (by omega) HL3.out).mono ?_
      rintro e w8 ⟨A6, c6, rfl, o6, g6⟩
      have z8 := g6.1.size
      have hn2 : obA A2 ≠ some w6.heap.size := fun e9 => by have := HOB.out _ e9; omega
      have hs6 := g6.blk HSP.out hn2
      have r0' : w8.cell? ⟨w6.heap.size, 0, none⟩ = some (.int .i64 (spL ky).1) := hs6.cell 0
      have r1' : w8.cell? ⟨w6.heap.size, 1, none⟩ = some (.int .i64 (spL ky).2.1) := hs6.cell 1
      have r2' : w8.cell? ⟨w6.heap.size, 2, none⟩ = some (.int .i64 (spL ky).2.2) := hs6.cell 2
      have HG8 := Lib.hid (HG7.out.trans g6)
      have HO8 := Lib.hid o6
      clear hs6 o6 g6 hn2 c0 c1 c2'
      generalize hw6 : vl ++ pcs (true, 0, 0, 0) (x0 - ve) = wk6 at *
      go_wp2_with fail
      refine (spec_l20Add false _ _ _ 0 false (x1 - x0) w.heap.size A6 c6 wk6 w8 HO8.out (by omega) (by omega) HL2.out).mono ?_
      rintro e w9 ⟨A7, c7, rfl, o7, g7⟩
      have HG9 := Lib.hid (HG8.out.trans g7)
      have HO9 := Lib.hid o7
      have HB9 := Lib.hid (HB0.out.trans (HG9.out.below hsz (fun q e => (HOB.out q e).1)))
      clear o7 g7
      go_wp2_with fail
      go_roundw
      case rel => exact ⟨k + 1, A7, c7, by omega, by go_num, by rw [HS.out, HFN.out], by rw [HS.out, HFN.out]; dsimp only; rw [List.length_append], by rw [HS.out, HFN.out]; exact HO9.out, HB9.out⟩
      case measure => simp [intOf]; omega
    · obtain rfl : k = es.length := by omega
      clear hbel
      have hq := HQ.out es.length
      by_cases h60 : (vT es ts g es.length).1.length ≤ 60
      · have HF2 : Hid (quanL es ts g = ((vT es ts g es.length).1, true)) := Lib.hid (by rw [HF.out, if_pos h60])
        generalize hvl : (vT es ts g es.length).1 = vl at *
        clear hvl
        go_wp2_with fail
        go_ret2
        unfold RetNB; rw [HF2.out]
        exact ⟨_, _, rfl, HO.out, HB.out⟩
      · have HF2 : Hid (quanL es ts g = ([], false)) := Lib.hid (by rw [HF.out, if_neg h60])
        generalize hvl : (vT es ts g es.length).1 = vl at *
        clear hvl
        go_wp2_with fail
        go_ret2
        unfold RetNB; rw [HF2.out]
        have hoz := own_empty (size := 6) (e := 63) HB.out (by omega)
        exact ⟨_, 0, rfl, by simpa [fl] using hoz.1, hoz.2.1⟩
end Go.Proofs.Ytgnbnedjocolcaa
