/- The walk of FnQuantizeAgain: it returns true. Condition: at most 2^20 bytes. -/
import Derived.Test.YtgnbnedjocolcaaDrawR
import Derived.Test.YtgnbnedjocolcaaQns
import Derived.Test.YtgnbnedjocolcaaVlw
import Derived.Test.YtgnbnedjocolcaaAlive
namespace Go.Proofs.Ytgnbnedjocolcaa.fnQuantizeAgain
set_option linter.unusedVariables false
open Go.RowKit
set_option linter.unusedSimpArgs false
theorem quan_okf {es : List Ev} {ts : List (Int × Int)} {g : Int} {u : List Nt} (h : quanL es ts g = (u, false)) : u = [] := by
  unfold quanL at h
  split at h
  · cases h
  · injection h with h1; exact h1.symm
theorem quan_okt {es : List Ev} {ts : List (Int × Int)} {g : Int} {u : List Nt} (h : quanL es ts g = (u, true)) : evB es = true ∧ tvB ts = true ∧ inR g 1 768 = true ∧ u = (qL (es.map (qev ts g))).1 ∧ (qL (es.map (qev ts g))).1.length ≤ 60 := by
  unfold quanL at h
  split at h
  · rename_i h2
    injection h with h1
    exact ⟨h2.1.1, h2.1.2.1, h2.1.2.2, h1.symm, h2.2⟩
  · cases h
/-- what is written for events is a voice that is right, and is written again -/
theorem quan_u {es : List Ev} {ts : List (Int × Int)} {g : Int} {u : List Nt} (h : quanL es ts g = (u, true)) : tvB ts = true ∧ (1 ≤ g ∧ g ≤ 768) ∧ vvB u = true ∧ ticksL u ≤ 50000 ∧ quanL (perfL u ts 64) ts 1 = (u, true) ∧ (perfL u ts 64).length ≤ es.length ∧ ∀ e ∈ perfL u ts 64, tickL ts e.1 % g = 0 ∧ tickL ts e.2.1 % g = 0 ∧ 0 ≤ tickL ts e.1 ∧ 0 ≤ tickL ts e.2.1 := by
  obtain ⟨h1, h2, h3, rfl, h5⟩ := quan_okt h
  obtain ⟨p1, p2, p3, -⟩ := q_right (ev_keys h1 ts g) h5
  have hn := tk_bd p1
  obtain ⟨d1, d2⟩ := quan_played (l := 64) h1 h2 h5
  refine ⟨h2, inR_iff.1 h3, p1, by omega, by rw [quan_perf p1 h2 (by decide) (by omega) p2, p3], d1, fun e he => ?_⟩
  have hev := perf_ev p1 h2 (show inR 64 1 127 = true by decide) (by omega) p2
  have hp : perfL (qL (es.map (qev ts g))).1 ts 64 = (sndL (qL (es.map (qev ts g))).1).1.map (evOf ts 64) := if_pos ⟨p1, h2, by decide, by omega, p2⟩
  rw [← hp] at hev
  obtain ⟨k, hk, rfl⟩ := List.getElem_of_mem he
  obtain ⟨a0, a1, -⟩ := (evB_iff.1 hev).2 k hk
  rw [← glEvent_get hk] at a0 a1
  have t0 := tickL_in h2 a0
  have t1 := tickL_in h2 (show 0 ≤ ((perfL (qL (es.map (qev ts g))).1 ts 64)[k]).2.1 by omega)
  exact ⟨(d2 _ he).1, (d2 _ he).2, t0.1, t1.1⟩
set_option maxRecDepth 100000 in
set_option maxHeartbeats 4000000 in
theorem core (w : World) (A_z : Option Addr) (c_z : Nat) (z : List Int) (r_z : RdY w w.heap.size A_z z) (f_z : WfY z) (k_z : z.length ≤ c_z) (hbig : z.length ≤ 1048576) :
    Calls Try.prog 7 #[.slice A_z z.length c_z] w (RetB w true) := by
  have hi1 : (z.length : Int) ≤ 1048576 := by omega
  go_enter Try.func7, Try.ntmps7
  go_wp2_with fail
  refine (spec_DrawQuantize A_z c_z z w r_z f_z hbig k_z).mono ?_
  rintro e w1 ⟨A1, C1, c1, d1, es, ts, gr, rfl, hes, hts, hgr, hE, hT, b1⟩
  have z1 := b1.size
  have HE := Lib.hid hE; have HT := Lib.hid hT; have HB := Lib.hid b1; clear b1 r_z f_z hE hT
  have hpl := quanL_len es ts gr
  rcases hQ : quanL es ts gr with ⟨u, ok⟩
  rw [hQ] at hpl
  have HF : Hid (ok = false → u = []) := Lib.hid (fun h => quan_okf (h ▸ hQ))
  have HU := Lib.hid (fun (h : ok = true) => quan_u (h ▸ hQ))
  have HP := Lib.hid hQ; clear hQ
  dsimp only at hpl
  cases ok
  · obtain rfl : u = [] := HF.out rfl
    go_wp2_with fail
    refine (impl_Quantize _ _ _ _ _ _ _ _ HE.out HT.out (by omega) (by omega)).mono ?_
    rw [HP.out]
    rintro e w2 ⟨A2, c2, rfl, o2, b2⟩
    have z2 := b2.size
    replace HE := Lib.hid (RdEvent.more (RdEvent.below HE.out b2 (by omega)) z2)
    replace HT := Lib.hid (RdTempo.more (RdTempo.below HT.out b2 (by omega)) z2)
    replace HB := Lib.hid (HB.out.trans (b2.mono (by omega)))
    have HX := Lib.hid (show RdNote w2 w2.heap.size A2 _ from RdR.of_own o2)
    clear o2 b2
    go_wp2_with fail
    refine (spec_Quantize _ _ _ _ _ _ _ _ HE.out HT.out (by omega) (by omega)).mono ?_
    rw [HP.out]
    rintro e w3 ⟨A3, c3, rfl, o3, b3⟩
    have z3 := b3.size
    replace HE := Lib.hid (RdEvent.more (RdEvent.below HE.out b3 (by omega)) z3)
    replace HT := Lib.hid (RdTempo.more (RdTempo.below HT.out b3 (by omega)) z3)
    replace HX := Lib.hid (RdNote.more (RdNote.below HX.out b3 (by omega)) z3)
    replace HB := Lib.hid (HB.out.trans (b3.mono (by omega)))
    have HY := Lib.hid (show RdNote w3 w3.heap.size A3 _ from RdR.of_own o3)
    clear o3 b3
    go_wp2_with fail
    refine (laws_sameVoice A2 A3 c2 c3 _ _ _ rfl HX.out HY.out (by first | omega | (simp; done))).mono ?_
    rintro e w4 ⟨rfl, b4⟩
    have z4 := b4.size
    replace HE := Lib.hid (RdEvent.more (RdEvent.below HE.out b4 (by omega)) z4)
    replace HT := Lib.hid (RdTempo.more (RdTempo.below HT.out b4 (by omega)) z4)
    replace HX := Lib.hid (RdNote.more (RdNote.below HX.out b4 (by omega)) z4)
    replace HY := Lib.hid (RdNote.more (RdNote.below HY.out b4 (by omega)) z4)
    replace HB := Lib.hid (HB.out.trans (b4.mono (by omega)))
    clear b4
    go_wp2_with fail
    refine (laws_alive _).mono ?_
    rintro e w5 ⟨rfl, b5⟩
    have z5 := b5.size
    replace HE := Lib.hid (RdEvent.more (RdEvent.below HE.out b5 (by omega)) z5)
    replace HT := Lib.hid (RdTempo.more (RdTempo.below HT.out b5 (by omega)) z5)
    replace HX := Lib.hid (RdNote.more (RdNote.below HX.out b5 (by omega)) z5)
    replace HY := Lib.hid (RdNote.more (RdNote.below HY.out b5 (by omega)) z5)
    replace HB := Lib.hid (HB.out.trans (b5.mono (by omega)))
    clear b5
    go_wp2_with fail
    go_ret
    exact ⟨rfl, HB.out⟩
  · obtain ⟨htv, hg1, huv, htk, hq1, hpl2, hpt⟩ := HU.out rfl
    have htk2 : (50000 < vtL u) = False := eq_false (by rw [show vtL u = ticksL u from if_pos huv]; omega)
    have htk3 : decide (50000 < vtL u) = false := decide_eq_false (by rw [show vtL u = ticksL u from if_pos huv]; omega)
    have HQ1 := Lib.hid hq1
    clear HU HF hpt huv htv hq1 htk
    have hbb : ((true : Bool) != true) = false := rfl
    go_wp2_with fail
    refine (impl_Quantize _ _ _ _ _ _ _ _ HE.out HT.out (by omega) (by omega)).mono ?_
    rw [HP.out]
    rintro e w2 ⟨A2, c2, rfl, o2, b2⟩
    have z2 := b2.size
    replace HE := Lib.hid (RdEvent.more (RdEvent.below HE.out b2 (by omega)) z2)
    replace HT := Lib.hid (RdTempo.more (RdTempo.below HT.out b2 (by omega)) z2)
    replace HB := Lib.hid (HB.out.trans (b2.mono (by omega)))
    have HX := Lib.hid (show RdNote w2 w2.heap.size A2 _ from RdR.of_own o2)
    clear o2 b2
    go_wp2_with fail
    refine (spec_Quantize _ _ _ _ _ _ _ _ HE.out HT.out (by omega) (by omega)).mono ?_
    rw [HP.out]
    rintro e w3 ⟨A3, c3, rfl, o3, b3⟩
    have z3 := b3.size
    replace HE := Lib.hid (RdEvent.more (RdEvent.below HE.out b3 (by omega)) z3)
    replace HT := Lib.hid (RdTempo.more (RdTempo.below HT.out b3 (by omega)) z3)
    replace HX := Lib.hid (RdNote.more (RdNote.below HX.out b3 (by omega)) z3)
    replace HB := Lib.hid (HB.out.trans (b3.mono (by omega)))
    have HY := Lib.hid (show RdNote w3 w3.heap.size A3 _ from RdR.of_own o3)
    clear o3 b3
    go_wp2_with fail
    refine (laws_sameVoice A2 A3 c2 c3 _ _ _ rfl HX.out HY.out (by first | omega | (simp; done))).mono ?_
    rintro e w4 ⟨rfl, b4⟩
    have z4 := b4.size
    replace HE := Lib.hid (RdEvent.more (RdEvent.below HE.out b4 (by omega)) z4)
    replace HT := Lib.hid (RdTempo.more (RdTempo.below HT.out b4 (by omega)) z4)
    replace HX := Lib.hid (RdNote.more (RdNote.below HX.out b4 (by omega)) z4)
    replace HY := Lib.hid (RdNote.more (RdNote.below HY.out b4 (by omega)) z4)
    replace HB := Lib.hid (HB.out.trans (b4.mono (by omega)))
    clear b4
    clear HY
    go_wp2_with fail
    refine (impl_VoiceTicks _ _ _ _ HX.out (by omega)).mono ?_
    rintro e w5 ⟨rfl, b5⟩
    have z5 := b5.size
    replace HE := Lib.hid (RdEvent.more (RdEvent.below HE.out b5 (by omega)) z5)
    replace HT := Lib.hid (RdTempo.more (RdTempo.below HT.out b5 (by omega)) z5)
    replace HX := Lib.hid (RdNote.more (RdNote.below HX.out b5 (by omega)) z5)
    replace HB := Lib.hid (HB.out.trans (b5.mono (by omega)))
    clear b5
    generalize vtL u = vt at *
    go_wp2_with fail
    refine (impl_Perform _ _ _ _ _ _ 64 _ HX.out HT.out (by omega) (by omega)).mono ?_
    rintro e w6 ⟨A6, c6, rfl, o6, b6⟩
    have z6 := b6.size
    replace HE := Lib.hid (RdEvent.more (RdEvent.below HE.out b6 (by omega)) z6)
    replace HT := Lib.hid (RdTempo.more (RdTempo.below HT.out b6 (by omega)) z6)
    replace HX := Lib.hid (RdNote.more (RdNote.below HX.out b6 (by omega)) z6)
    replace HB := Lib.hid (HB.out.trans (b6.mono (by omega)))
    have HA := Lib.hid (show RdEvent w6 w6.heap.size A6 _ from RdR.of_own o6)
    clear o6 b6
    have hel := perfL_len u ts 64
    generalize hEV : perfL u ts 64 = E at *
    clear hEV
    go_wp2_with fail
    refine (impl_Quantize _ _ _ _ _ _ 1 _ HA.out HT.out (by omega) (by omega)).mono ?_
    rw [HQ1.out]
    rintro e w7 ⟨A7, c7, rfl, o7, b7⟩
    have z7 := b7.size
    replace HE := Lib.hid (RdEvent.more (RdEvent.below HE.out b7 (by omega)) z7)
    replace HT := Lib.hid (RdTempo.more (RdTempo.below HT.out b7 (by omega)) z7)
    replace HX := Lib.hid (RdNote.more (RdNote.below HX.out b7 (by omega)) z7)
    replace HA := Lib.hid (RdEvent.more (RdEvent.below HA.out b7 (by omega)) z7)
    replace HB := Lib.hid (HB.out.trans (b7.mono (by omega)))
    have HW := Lib.hid (show RdNote w7 w7.heap.size A7 _ from RdR.of_own o7)
    clear o7 b7
    go_wp2_with fail
    refine (laws_sameVoice A7 A2 c7 c2 _ _ _ rfl HW.out HX.out (by omega)).mono ?_
    rintro e w8 ⟨rfl, b8⟩
    have z8 := b8.size
    replace HE := Lib.hid (RdEvent.more (RdEvent.below HE.out b8 (by omega)) z8)
    replace HT := Lib.hid (RdTempo.more (RdTempo.below HT.out b8 (by omega)) z8)
    replace HX := Lib.hid (RdNote.more (RdNote.below HX.out b8 (by omega)) z8)
    replace HA := Lib.hid (RdEvent.more (RdEvent.below HA.out b8 (by omega)) z8)
    replace HW := Lib.hid (RdNote.more (RdNote.below HW.out b8 (by omega)) z8)
    replace HB := Lib.hid (HB.out.trans (b8.mono (by omega)))
    clear b8
    go_wp2_with fail
    go_ret
    exact ⟨rfl, HB.out⟩
end Go.Proofs.Ytgnbnedjocolcaa.fnQuantizeAgain
