/- Contract of Perform of the reference. Condition: at most 2^20 notes and tempos. -/
import Derived.Test.YtgnbnedjocolcaaPrf
namespace Go.Proofs.Ytgnbnedjocolcaa
open Go.RowKit
set_option linter.unusedSimpArgs false
set_option linter.unusedVariables false
set_option maxRecDepth 100000
set_option maxHeartbeats 16000000 in
theorem spec_Perform (A C : Option Addr) (c cc : Nat) (v : List Nt) (ts : List (Int × Int)) (l : Int) (w : World) (hr : RdNote w w.heap.size A v) (hy : RdTempo w w.heap.size C ts) (hl : v.length ≤ 1048576) (hl2 : ts.length ≤ 1048576) :
    Calls Try.prog 63 #[.slice A v.length c, .slice C ts.length cc, .int .i64 l] w (RetEv w (perfL v ts l)) := by
  obtain ⟨i0, hi, hz0, hz1, hz2⟩ := info_parts infoEvent
  have HI := Lib.hid hi; have H0 := Lib.hid hz0; have H1 := Lib.hid hz1; have H2 := Lib.hid hz2; clear hi hz0 hz1 hz2
  have HE0 := Lib.hid (own_empty (size := 4) (e := 46) (Below.refl _ w) (Nat.le_refl _))
  have HB := Lib.hid HE0.out.2.1
  have HO := Lib.hid HE0.out.1
  have hz0 : (w.alloc (.cells #[] 46)).heap.size = w.heap.size + 1 := by simp
  have HR := Lib.hid hr; have HY := Lib.hid hy
  clear hr hy HE0
  cases hv : vvB v
  · have HF := Lib.hid (perf_no (ts := ts) (l := l) (.inl hv)); have HV := Lib.hid hv; clear hv
    go_enter Try.func63, Try.ntmps63
    go_wp2_with fail
    refine (spec_VoiceValid _ _ _ _ (RdNote.more (RdNote.below HR.out HB.out (Nat.le_refl _)) (by simp only [World.size_alloc]; omega)) hl).mono ?_
    rw [HV.out]
    rintro e w1 ⟨rfl, b1⟩
    have z1 := b1.size
    simp only [World.size_alloc] at z1
    replace HO := Lib.hid (own_bel HO.out b1)
    replace HB := Lib.hid (HB.out.trans (b1.mono (by (try simp only [World.size_alloc]); omega))); clear b1
    go_wp2_with fail
    go_ret
    unfold RetEv; rw [HF.out]
    exact ⟨_, 0, rfl, HO.out, HB.out⟩
  cases ht : tvB ts
  · have HF := Lib.hid (perf_no (v := v) (l := l) (.inr (.inl ht))); have HV := Lib.hid hv; have HT := Lib.hid ht; clear hv ht
    go_enter Try.func63, Try.ntmps63
    go_wp2_with fail
    refine (spec_VoiceValid _ _ _ _ (RdNote.more (RdNote.below HR.out HB.out (Nat.le_refl _)) (by simp only [World.size_alloc]; omega)) hl).mono ?_
    rw [HV.out]
    rintro e w1 ⟨rfl, b1⟩
    have z1 := b1.size
    simp only [World.size_alloc] at z1
    replace HO := Lib.hid (own_bel HO.out b1)
    replace HB := Lib.hid (HB.out.trans (b1.mono (by (try simp only [World.size_alloc]); omega))); clear b1
    go_wp2_with fail
    refine (spec_TemposValid _ _ _ _ (RdTempo.more (RdTempo.below HY.out HB.out (Nat.le_refl _)) (by omega)) hl2).mono ?_
    rw [HT.out]
    rintro e w2 ⟨rfl, b2⟩
    have z2 := b2.size
    replace HO := Lib.hid (own_bel HO.out b2)
    replace HB := Lib.hid (HB.out.trans (b2.mono (by (try simp only [World.size_alloc]); omega))); clear b2
    go_wp2_with fail
    go_ret
    unfold RetEv; rw [HF.out]
    exact ⟨_, 0, rfl, HO.out, HB.out⟩
  cases hL : inR l 1 127
  · have HF := Lib.hid (perf_no (v := v) (ts := ts) (.inr (.inr (.inl hL)))); have HV := Lib.hid hv; have HT := Lib.hid ht; clear hv ht
    go_enter Try.func63, Try.ntmps63
    go_wp2_with fail
    refine (spec_VoiceValid _ _ _ _ (RdNote.more (RdNote.below HR.out HB.out (Nat.le_refl _)) (by simp only [World.size_alloc]; omega)) hl).mono ?_
    rw [HV.out]
    rintro e w1 ⟨rfl, b1⟩
    have z1 := b1.size
    simp only [World.size_alloc] at z1
    replace HO := Lib.hid (own_bel HO.out b1)
    replace HB := Lib.hid (HB.out.trans (b1.mono (by (try simp only [World.size_alloc]); omega))); clear b1
    go_wp2_with fail
    refine (spec_TemposValid _ _ _ _ (RdTempo.more (RdTempo.below HY.out HB.out (Nat.le_refl _)) (by omega)) hl2).mono ?_
    rw [HT.out]
    rintro e w2 ⟨rfl, b2⟩
    have z2 := b2.size
    replace HO := Lib.hid (own_bel HO.out b2)
    replace HB := Lib.hid (HB.out.trans (b2.mono (by (try simp only [World.size_alloc]); omega))); clear b2
    go_wp2_with (go_at_call 29; refine (spec_l1In _ _ _ _).mono ?_; rintro e w' ⟨rfl, rfl⟩)
    go_ret
    unfold RetEv; rw [HF.out]
    exact ⟨_, 0, rfl, HO.out, HB.out⟩
  have hlen := vv_len hv
  have htk := tk_bd hv
  have HV := Lib.hid hv; have HT := Lib.hid ht; clear hv ht
  have hgl := grp_len HV.out
  have HGF := Lib.hid (grp_facts HV.out)
  have HGP := Lib.hid (grp_pv HV.out)
  go_enter Try.func63, Try.ntmps63
  go_wp2_with fail
  refine (spec_VoiceValid _ _ _ _ (RdNote.more (RdNote.below HR.out HB.out (Nat.le_refl _)) (by simp only [World.size_alloc]; omega)) hl).mono ?_
  rw [HV.out]
  rintro e w1 ⟨rfl, b1⟩
  have z1 := b1.size
  simp only [World.size_alloc] at z1
  replace HO := Lib.hid (own_bel HO.out b1)
  replace HB := Lib.hid (HB.out.trans (b1.mono (by (try simp only [World.size_alloc]); omega))); clear b1
  go_wp2_with fail
  refine (spec_TemposValid _ _ _ _ (RdTempo.more (RdTempo.below HY.out HB.out (Nat.le_refl _)) (by omega)) hl2).mono ?_
  rw [HT.out]
  rintro e w2 ⟨rfl, b2⟩
  have z2 := b2.size
  replace HO := Lib.hid (own_bel HO.out b2)
  replace HB := Lib.hid (HB.out.trans (b2.mono (by (try simp only [World.size_alloc]); omega))); clear b2
  go_wp2_with (go_at_call 29; refine (spec_l1In _ _ _ _).mono ?_; rintro e w' ⟨rfl, rfl⟩)
  refine (spec_VoiceTicks _ _ _ _ (RdNote.more (RdNote.below HR.out HB.out (Nat.le_refl _)) (by omega)) HV.out).mono ?_
  rintro e w3 ⟨rfl, b3⟩
  have z3 := b3.size
  replace HO := Lib.hid (own_bel HO.out b3)
  replace HB := Lib.hid (HB.out.trans (b3.mono (by (try simp only [World.size_alloc]); omega))); clear b3
  have HL := Lib.hid hL; clear hL
  go_wp2_with fail
  refine (spec_l19Groups _ _ _ _ (RdNote.more (RdNote.below HR.out HB.out (Nat.le_refl _)) (by omega)) HV.out).mono ?_
  rintro e w4 ⟨AG, cG, rfl, oG, b4⟩
  have z4 := b4.size
  replace HO := Lib.hid (own_bel HO.out b4)
  replace HB := Lib.hid (HB.out.trans (b4.mono (by omega)))
  have HOG := Lib.hid oG
  have HDI : Hid (∀ g, obA AG = some g → obA (some ⟨w.heap.size, 0, none⟩) ≠ some g) := Lib.hid (fun g hg e => by have := (own_ob oG g hg).1; simp [obA] at e; omega)
  clear b4 oG
  generalize hGG : grpL v = G at *
  go_wp2_with fail
  go_loopw [7, 8, 10] (fun eq tq i wr => ∃ (k : Nat) (A2 : Option Addr) (c2 : Nat), k ≤ G.length ∧ i = .int .i64 k ∧ tq = .int .i64 (eT G k).2 ∧ eq = .slice A2 (uT G ts l k).length c2 ∧ wr.ownsRow w.heap.size 46 4 (.slice A2 (uT G ts l k).length c2) (uT G ts l k).length (fl encEvent (uT G ts l k)) ∧ wr.ownsRow w3.heap.size 63 6 (.slice AG G.length cG) G.length (fl encNote G) ∧ (∀ g, obA AG = some g → obA A2 ≠ some g) ∧ ksT G k ∧ Below w.heap.size w wr) (fun _ _ i _ => G.length - (intOf i).toNat)
  case atStart => exact ⟨0, _, 0, Nat.zero_le _, rfl, by rw [eT_zero], by rw [uT_zero]; rfl, by rw [uT_zero]; exact HO.out, HOG.out, HDI.out, fun j h => by omega, HB.out⟩
  case round =>
    clear HO
    obtain ⟨k, A2, c2, hk, rfl, rfl, rfl, ho, hog, hdi, hks, hbel⟩ := hrel
    have hsz := hbel.size
    have HO := Lib.hid ho; have HG := Lib.hid hog; have HD := Lib.hid hdi; have HK := Lib.hid hks; replace HB := Lib.hid hbel
    have HGL := Lib.hid (fun g (h : obA AG = some g) => (own_ob hog g h).2)
    have hpl := uT_len (ts := ts) (l := l) k hk
    clear hks hbel hdi
    by_cases hlt : k < G.length
    · obtain ⟨b, off, rfl, hbB, hc0, hc1, hc2, hc3, hc4, hc5⟩ := RdNote.at_ (show RdNote wr wr.heap.size AG G from RdR.of_own hog) hlt
      have hi1 : (k : Int) < (G.length : Int) := by omega
      have hin : (k : Int).toNat = k := by omega
      have heb := eT_mono HGF.out.1 hk
      have heb2 := eT_mono HGF.out.1 (k := k + 1) hlt
      rw [eT_tick hlt, HGF.out.2.1] at heb2
      have hpos := HGF.out.1 _ (gl_mem hlt)
      have HTK := Lib.hid (eT_tick hlt)
      have HPS := Lib.hid (fun h1 => uT_skip (ts := ts) (l := l) hlt h1)
      have HPQ := Lib.hid (fun h1 => uT_sound (ts := ts) (l := l) hlt h1)
      have HPV := Lib.hid (fun h1 => pkB_ok (HGP.out _ (gl_mem hlt) h1))
      have HNO := Lib.hid (fun h1 h2 => perf_no (ts := ts) (l := l) (.inr (.inr (.inr (ksG_no HV.out (by rw [hGG]; exact hlt) (by rw [hGG]; exact h1) (by rw [hGG]; exact h2))))))
      have HK1 : Hid ((glNote G k).1 = true ∨ inR (pkL ((glNote G k).2.1, (glNote G k).2.2.1, (glNote G k).2.2.2.1)) 0 107 = true → ksT G (k + 1)) := Lib.hid (fun h j hj => by
        rcases Nat.lt_or_ge j k with h2 | h2
        · exact HK.out j h2
        · obtain rfl : j = k := by omega
          exact h)
      have HXB := Lib.hid (show (wr.alloc (.cells #[.bool (glNote G k).1, .int .i64 (glNote G k).2.1, .int .i64 (glNote G k).2.2.1, .int .i64 (glNote G k).2.2.2.1, .int .i64 (glNote G k).2.2.2.2.1, .bool (glNote G k).2.2.2.2.2] 63)).heap.size = wr.heap.size + 1 by simp)
      have hblk := Blk.new wr 63 #[.bool (glNote G k).1, .int .i64 (glNote G k).2.1, .int .i64 (glNote G k).2.2.1, .int .i64 (glNote G k).2.2.2.1, .int .i64 (glNote G k).2.2.2.2.1, .bool (glNote G k).2.2.2.2.2]
      have HBK := Lib.hid hblk
      have HGA := Lib.hid ((Grw.refl wr A2).al (.cells #[.bool (glNote G k).1, .int .i64 (glNote G k).2.1, .int .i64 (glNote G k).2.2.1, .int .i64 (glNote G k).2.2.2.1, .int .i64 (glNote G k).2.2.2.2.1, .bool (glNote G k).2.2.2.2.2] 63))
      have HOA := Lib.hid (ho.alloc (.cells #[.bool (glNote G k).1, .int .i64 (glNote G k).2.1, .int .i64 (glNote G k).2.2.1, .int .i64 (glNote G k).2.2.2.1, .int .i64 (glNote G k).2.2.2.2.1, .bool (glNote G k).2.2.2.2.2] 63))
      have q0 := hblk.cell 0; have q1 := hblk.cell 1; have q2 := hblk.cell 2; have q3 := hblk.cell 3; have q4 := hblk.cell 4; have q5 := hblk.cell 5
      have HOB := Lib.hid (own_ob ho)
      rw [HGF.out.2.1] at heb
      clear hblk ho hog
      generalize (eT G k).2 = ek at *
      generalize hpe : uT G ts l k = pe at *
      generalize (glNote G k).1 = r at *
      generalize (glNote G k).2.1 = a at *
      generalize (glNote G k).2.2.1 = b1 at *
      generalize (glNote G k).2.2.2.1 = o1 at *
      generalize (glNote G k).2.2.2.2.1 = dt at *
      generalize (glNote G k).2.2.2.2.2 = d at *
      have v1 : IntKind.i64.wrap (ek + dt) = ek + dt := IntWalk.i64_in _ (by omega)
      generalize hwa : (wr.alloc (.cells #[.bool r, .int .i64 a, .int .i64 b1, .int .i64 o1, .int .i64 dt, .bool d] 63)) = wa at *
      have hxb := HXB.out
      have HGT := Lib.hid (fun (w7 : World) (A7 : Option Addr) (h : Grw wr w7 A2 A7) => show w7.ownsRow w3.heap.size 63 6 (.slice (some ⟨b, off, none⟩) G.length cG) G.length (fl encNote G) ∧ (∀ g, obA (some ⟨b, off, none⟩) = some g → obA A7 ≠ some g) ∧ Below w.heap.size w w7 from ⟨h.own HG.out HD.out, h.apart HGL.out HD.out, HB.out.trans (h.below hsz (fun q e => (HOB.out q e).1))⟩)
      cases r
      case true =>
        have HKN := Lib.hid (HK1.out (.inl rfl))
        have HKK : Hid (uT G ts l (k + 1) = pe) := Lib.hid (by first | exact HPS.out rfl | exact HPS.out trivial)
        go_wp2_with fail
        go_roundw
        case rel => exact ⟨k + 1, A2, c2, by omega, by go_num, by rw [HTK.out], by rw [HKK.out], by rw [HKK.out]; exact HOA.out, (HGT.out _ _ HGA.out).1, (HGT.out _ _ HGA.out).2.1, HKN.out, (HGT.out _ _ HGA.out).2.2⟩
        case measure => simp [intOf]; omega
      case false =>
        have HPK : Hid (pkB a b1 o1 = pkL (a, b1, o1)) := Lib.hid (by first | exact HPV.out rfl | exact HPV.out trivial | simpa using HPV.out)
        cases hin2 : inR (pkL (a, b1, o1)) 0 107
        · have HF : Hid (perfL v ts l = []) := Lib.hid (by first | exact HNO.out rfl hin2 | exact HNO.out trivial hin2)
          have HN := Lib.hid hin2
          clear hin2
          go_wp2_with fail
          refine (spec_PitchKey a b1 o1 _).mono ?_
          rw [HPK.out]
          rintro e w5 ⟨rfl, b5⟩
          have z5 := b5.size
          have HG5 := Lib.hid (HGA.out.bel b5)
          clear b5
          go_wp2_with (go_at_call 29; refine (spec_l1In _ _ _ _).mono ?_; rw [HN.out]; rintro e w' ⟨rfl, rfl⟩)
          go_ret
          unfold RetEv; rw [HF.out]
          have hoz := own_empty (size := 4) (e := 46) (HGT.out _ _ HG5.out).2.2 (by omega)
          exact ⟨_, 0, rfl, by simpa [fl] using hoz.1, hoz.2.1⟩
        · have HN := Lib.hid hin2
          have HKN : Hid (ksT G (k + 1)) := Lib.hid (HK1.out (.inr hin2))
          have HKK : Hid (uT G ts l (k + 1) = pe ++ [(timeL ts ek, timeL ts (ek + dt), pkL (a, b1, o1), l)]) := Lib.hid (by first | exact HPQ.out rfl | exact HPQ.out trivial)
          have HNX : Hid (obA A2 ≠ some wr.heap.size) := Lib.hid (fun e9 => by have := HOB.out _ e9; omega)
          clear hin2
          go_wp2_with fail
          refine (spec_PitchKey a b1 o1 _).mono ?_
          rw [HPK.out]
          rintro e w6 ⟨rfl, b6⟩
          have z6 := b6.size
          have HG6 := Lib.hid (HGA.out.bel b6)
          have HO6 := Lib.hid (own_bel HOA.out b6)
          have HX6 := Lib.hid (HBK.out.below b6 (by omega))
          have HB6 := Lib.hid (HGT.out _ _ HG6.out).2.2
          clear b6
          have t2 : w6.cell? ⟨wr.heap.size, 4, none⟩ = some (.int .i64 dt) := HX6.out.cell 4
          go_wp2_with (go_at_call 29; refine (spec_l1In _ _ _ _).mono ?_; rw [HN.out]; rintro e w' ⟨rfl, rfl⟩)
          go_region_held3 (fun w' => w'.cell? ⟨wr.heap.size, 4, none⟩ = some (.int .i64 dt))
            (first | exact t2 | exact X7.out.cell 4 | exact X8.out.cell 4 | exact (X8.out.alloc _).cell 4 | exact X9.out.cell 4)
            (first
              | (go_at_call_of 54 (Value.int IntKind.i64 ek); refine (spec_l19Time _ _ _ ek _ (show RdTempo w6.drew w6.drew.heap.size C ts from RdTempo.more (RdTempo.below HY.out HB6.out.drew (Nat.le_refl _)) (show w.heap.size ≤ w6.heap.size by omega)) HT.out (by omega) (by omega)).mono ?_; rintro e w7 ⟨rfl, b7⟩; have z7 : w6.heap.size ≤ w7.heap.size := b7.size; have X7 := Lib.hid (HX6.out.drew.below b7 (show wr.heap.size < w6.heap.size by omega)); have O7 := Lib.hid (own_bel (own_drew HO6.out) b7); have G7 := Lib.hid (HG6.out.drew.bel b7); have B7 := Lib.hid (HGT.out _ _ G7.out).2.2)
              | (go_at_call_of 54 (Value.int IntKind.i64 (ek + dt)); refine (spec_l19Time _ _ _ (ek + dt) _ (RdTempo.more (RdTempo.below HY.out B7.out (Nat.le_refl _)) (show w.heap.size ≤ w7.heap.size by omega)) HT.out (by omega) (by omega)).mono ?_; rintro e w8 ⟨rfl, b8⟩; have z8 : w7.heap.size ≤ w8.heap.size := b8.size; have X8 := Lib.hid (X7.out.below b8 (by omega)); have O8 := Lib.hid (own_bel O7.out b8); have G8 := Lib.hid (G7.out.bel b8))
              | (refine step_app_rec rfl _ _ 28 rfl w.heap.size 46 i0 (.agg #[Value.int .i64 0, Value.int .i64 0, Value.int .i64 0, Value.int .i64 0]) 32 Try.underlying28 HI.out H0.out H1.out H2.out rfl (by decide) (by decide) w8 A2 c2 pe rfl O8.out (by omega) (by omega) (timeL ts ek, timeL ts (ek + dt), pkL (a, b1, o1), l) [.int .i64 (timeL ts ek), .int .i64 (timeL ts (ek + dt)), .int .i64 (pkL (a, b1, o1)), .int .i64 l] rfl rfl (event_one _ _ _ _) rfl ?_; intro g9 c9 w9 o9 gr9; have X9 := Lib.hid (gr9.blk X8.out HNX.out)))
          all_goals
            have O9 := Lib.hid o9; have G9 := Lib.hid (G8.out.trans gr9)
            clear o9 gr9 b7 b8
            have t9 : w9.cell? ⟨wr.heap.size, 4, none⟩ = some (.int .i64 dt) := X9.out.cell 4
            go_wp2_with fail
            go_roundw
            case rel => exact ⟨k + 1, some ⟨g9, 0, none⟩, c9, by omega, by go_num, by rw [HTK.out], by rw [HKK.out, List.length_append]; rfl, by rw [HKK.out, List.length_append]; exact O9.out, (HGT.out _ _ G9.out).1, (HGT.out _ _ G9.out).2.1, HKN.out, (HGT.out _ _ G9.out).2.2⟩
            case measure => simp [intOf]; omega
    · obtain rfl : k = G.length := by omega
      have HKB := Lib.hid (ksG_all HV.out (by rw [hGG]; exact HK.out))
      have HF : Hid (perfL v ts l = uT G ts l G.length) := Lib.hid (by rw [perf_grp HV.out HT.out HL.out HKB.out, hGG])
      clear ho hog
      go_wp2_with fail
      go_ret
      unfold RetEv; rw [HF.out]
      exact ⟨_, _, rfl, HO.out, HB.out⟩
end Go.Proofs.Ytgnbnedjocolcaa
