/- Contract of Perform of the program. Condition: at most 2^20 notes and tempos. -/
import Derived.Test.YtggjgjcdpnidnaaPlv
import Derived.Test.YtggjgjcdpnidnaaTemp2
import Derived.Test.YtggjgjcdpnidnaaTemp1
import Derived.Test.YtggjgjcdpnidnaaRecEvent
namespace Go.Proofs.Ytggjgjcdpnidnaa
open Go.RowKit
set_option linter.unusedSimpArgs false
set_option linter.unusedVariables false
set_option maxRecDepth 100000
def RetEv (w : World) (q : List Ev) (e : Ending) (w' : World) : Prop := RetRow w 39 4 q.length (fl encEvent q) e w'
theorem event_one (a b c t : Int) : ∀ u ∈ [Value.int .i64 a, .int .i64 b, .int .i64 c, .int .i64 t], u.oneCell' = true := by simp [Value.oneCell']
set_option maxHeartbeats 16000000 in
theorem impl_Perform (A C : Option Addr) (c cc : Nat) (v : List Nt) (ts : List (Int × Int)) (l : Int) (w : World) (hr : RdNote w w.heap.size A v) (hy : RdTempo w w.heap.size C ts) (hl : v.length ≤ 1048576) (hl2 : ts.length ≤ 1048576) :
    Calls Try.prog 18 #[.slice A v.length c, .slice C ts.length cc, .int .i64 l] w (RetEv w (perfL v ts l)) := by
  obtain ⟨i0, hi, hz0, hz1, hz2⟩ := info_parts infoEvent
  have HI := Lib.hid hi; have H0 := Lib.hid hz0; have H1 := Lib.hid hz1; have H2 := Lib.hid hz2; clear hi hz0 hz1 hz2
  have HR := Lib.hid hr; have HY := Lib.hid hy; clear hr hy
  cases hv : vvB v
  · have HF := Lib.hid (perf_no (ts := ts) (l := l) (.inl hv)); have HV := Lib.hid hv; clear hv
    go_enter Try.func18, Try.ntmps18
    go_wp2_with fail
    refine (impl_VoiceValid _ _ _ _ HR.out hl).mono ?_
    rw [HV.out]
    rintro e w1 ⟨rfl, b1⟩
    have z1 := b1.size
    have HB := Lib.hid b1; clear b1
    go_wp2_with fail
    go_ret
    unfold RetEv; rw [HF.out]
    exact ⟨none, 0, rfl, World.ownsRow_nil _ _ _ _, HB.out⟩
  cases ht : tvB ts
  · have HF := Lib.hid (perf_no (v := v) (l := l) (.inr (.inl ht))); have HV := Lib.hid hv; have HT := Lib.hid ht; clear hv ht
    go_enter Try.func18, Try.ntmps18
    go_wp2_with fail
    refine (impl_VoiceValid _ _ _ _ HR.out hl).mono ?_
    rw [HV.out]
    rintro e w1 ⟨rfl, b1⟩
    have z1 := b1.size
    have HB := Lib.hid b1; clear b1
    go_wp2_with fail
    refine (impl_TemposValid _ _ _ _ (RdTempo.more (RdTempo.below HY.out HB.out (Nat.le_refl _)) (by omega)) hl2).mono ?_
    rw [HT.out]
    rintro e w2 ⟨rfl, b2⟩
    have z2 := b2.size
    replace HB := Lib.hid (HB.out.trans (b2.mono (by omega))); clear b2
    go_wp2_with fail
    go_ret
    unfold RetEv; rw [HF.out]
    exact ⟨none, 0, rfl, World.ownsRow_nil _ _ _ _, HB.out⟩
  cases hL : inR l 1 127
  · have HF := Lib.hid (perf_no (v := v) (ts := ts) (.inr (.inr (.inl hL)))); have HV := Lib.hid hv; have HT := Lib.hid ht; clear hv ht
    go_enter Try.func18, Try.ntmps18
    go_wp2_with fail
    refine (impl_VoiceValid _ _ _ _ HR.out hl).mono ?_
    rw [HV.out]
    rintro e w1 ⟨rfl, b1⟩
    have z1 := b1.size
    have HB := Lib.hid b1; clear b1
    go_wp2_with fail
    refine (impl_TemposValid _ _ _ _ (RdTempo.more (RdTempo.below HY.out HB.out (Nat.le_refl _)) (by omega)) hl2).mono ?_
    rw [HT.out]
    rintro e w2 ⟨rfl, b2⟩
    have z2 := b2.size
    replace HB := Lib.hid (HB.out.trans (b2.mono (by omega))); clear b2
    go_wp2_with (go_at_call 42; refine (impl_within _ _ _ _).mono ?_; rintro e w' ⟨rfl, rfl⟩)
    go_ret
    unfold RetEv; rw [HF.out]
    exact ⟨none, 0, rfl, World.ownsRow_nil _ _ _ _, HB.out⟩
  have hlen := vv_len hv
  have htk := tk_bd hv
  have HV := Lib.hid hv; have HT := Lib.hid ht; clear hv ht
  go_enter Try.func18, Try.ntmps18
  go_wp2_with fail
  refine (impl_VoiceValid _ _ _ _ HR.out hl).mono ?_
  rw [HV.out]
  rintro e w1 ⟨rfl, b1⟩
  have z1 := b1.size
  have HB := Lib.hid b1; clear b1
  go_wp2_with fail
  refine (impl_TemposValid _ _ _ _ (RdTempo.more (RdTempo.below HY.out HB.out (Nat.le_refl _)) (by omega)) hl2).mono ?_
  rw [HT.out]
  rintro e w2 ⟨rfl, b2⟩
  have z2 := b2.size
  replace HB := Lib.hid (HB.out.trans (b2.mono (by omega))); clear b2
  go_wp2_with (go_at_call 42; refine (impl_within _ _ _ _).mono ?_; rintro e w' ⟨rfl, rfl⟩)
  refine (impl_voiceTicks _ _ _ _ (RdNote.more (RdNote.below HR.out HB.out (Nat.le_refl _)) (by omega)) HV.out).mono ?_
  rintro e w3 ⟨rfl, b3⟩
  have z3 := b3.size
  replace HB := Lib.hid (HB.out.trans (b3.mono (by omega))); clear b3
  have HL := Lib.hid hL; clear hL
  go_wp2_with fail
  go_loopw [7, 8, 9, 33] (fun eq tq oq i wr => ∃ (k : Nat) (A2 : Option Addr) (c2 : Nat), k ≤ v.length ∧ i = .int .i64 k ∧ tq = .int .i64 (sT v k).2.2.1 ∧ oq = .int .i64 (timeL ts (sT v k).2.1) ∧ eq = .slice A2 (pT v ts l k).length c2 ∧ wr.ownsRow w.heap.size 39 4 (.slice A2 (pT v ts l k).length c2) (pT v ts l k).length (fl encEvent (pT v ts l k)) ∧ ksT v k ∧ Below w.heap.size w wr) (fun _ _ _ i _ => v.length - (intOf i).toNat)
  case atStart => exact ⟨0, _, 0, Nat.zero_le _, rfl, by rw [sT_zero], by rw [sT_zero, timeL_zero HT.out], by rw [pT_zero]; rfl, by rw [pT_zero]; exact (own_empty (Below.refl _ w3) (Nat.le_refl _)).1 |> fun h => own_mono h (by omega), fun j h => by omega, HB.out.alloc (by omega) _⟩
  case round =>
    obtain ⟨k, A2, c2, hk, rfl, rfl, rfl, rfl, ho, hks, hbel⟩ := hrel
    have hsz := hbel.size
    have HO := Lib.hid ho; have HK := Lib.hid hks; have HB := Lib.hid hbel
    have HOB := Lib.hid (own_ob ho)
    have hpl := pT_len (ts := ts) (l := l) hk
    clear hks
    by_cases hlt : k < v.length
    · have hr' := HR.out.below hbel (Nat.le_refl _)
      obtain ⟨b, off, rfl, hbB, hc0, hc1, hc2, hc3, hc4, hc5⟩ := hr'.at_ (k := k) hlt
      have hi1 : (k : Int) < (v.length : Int) := by omega
      have hin : (k : Int).toNat = k := by omega
      have hd := vv_tick HV.out hlt
      have ht := sT_bd HV.out k hk
      have hf := sT_from HV.out k hk
      have htn := sT_mono HV.out (k := k + 1) hlt
      rw [sT_tick hlt] at htn
      have hf0 : 0 ≤ (sT v k).2.1 ∧ (sT v k).2.1 ≤ (sT v k).2.2.1 := ⟨hf.1, hf.2.1⟩
      have HTK := Lib.hid (sT_tick hlt); have HFR := Lib.hid (sT_fr hlt)
      have HNV := Lib.hid (vv_nv HV.out hlt)
      have HPS := Lib.hid (fun h1 => pT_skip (ts := ts) (l := l) hlt h1)
      have HPQ := Lib.hid (fun h1 h2 => pT_sound (ts := ts) (l := l) hlt h1 h2)
      have HPV := Lib.hid (fun h1 => pkB_ok (nv_pv HNV.out h1))
      have HNO := Lib.hid (fun h1 h2 => perf_no (ts := ts) (l := l) (.inr (.inr (.inr (ks_no hlt h1 h2)))))
      have HBA := Lib.hid (HB.out.alloc hsz (.cells #[.bool (glNote v k).1, .int .i64 (glNote v k).2.1, .int .i64 (glNote v k).2.2.1, .int .i64 (glNote v k).2.2.2.1, .int .i64 (glNote v k).2.2.2.2.1, .bool (glNote v k).2.2.2.2.2] 46))
      have hblk := Blk.new wr 46 #[.bool (glNote v k).1, .int .i64 (glNote v k).2.1, .int .i64 (glNote v k).2.2.1, .int .i64 (glNote v k).2.2.2.1, .int .i64 (glNote v k).2.2.2.2.1, .bool (glNote v k).2.2.2.2.2]
      have HGA := Lib.hid ((Grw.refl wr A2).al (.cells #[.bool (glNote v k).1, .int .i64 (glNote v k).2.1, .int .i64 (glNote v k).2.2.1, .int .i64 (glNote v k).2.2.2.1, .int .i64 (glNote v k).2.2.2.2.1, .bool (glNote v k).2.2.2.2.2] 46))
      have HOA := Lib.hid (ho.alloc (.cells #[.bool (glNote v k).1, .int .i64 (glNote v k).2.1, .int .i64 (glNote v k).2.2.1, .int .i64 (glNote v k).2.2.2.1, .int .i64 (glNote v k).2.2.2.2.1, .bool (glNote v k).2.2.2.2.2] 46))
      have HBK := Lib.hid hblk
      have q0 := hblk.cell 0; have q1 := hblk.cell 1; have q2 := hblk.cell 2; have q3 := hblk.cell 3; have q4 := hblk.cell 4; have q5 := hblk.cell 5
      have za : (wr.alloc (.cells #[.bool (glNote v k).1, .int .i64 (glNote v k).2.1, .int .i64 (glNote v k).2.2.1, .int .i64 (glNote v k).2.2.2.1, .int .i64 (glNote v k).2.2.2.2.1, .bool (glNote v k).2.2.2.2.2] 46)).heap.size = wr.heap.size + 1 := by simp
      have v1 : IntKind.i64.wrap ((sT v k).2.2.1 + (glNote v k).2.2.2.2.1) = (sT v k).2.2.1 + (glNote v k).2.2.2.2.1 := IntWalk.i64_in _ (by omega)
      have hp : 0 < k → (wr.alloc (.cells #[.bool (glNote v k).1, .int .i64 (glNote v k).2.1, .int .i64 (glNote v k).2.2.1, .int .i64 (glNote v k).2.2.2.1, .int .i64 (glNote v k).2.2.2.2.1, .bool (glNote v k).2.2.2.2.2] 46)).cell? ⟨b, off + (k - 1) * 6 + 5, none⟩ = some (.bool (sT v k).2.2.2) := fun hk0 => by
        obtain ⟨b2, off2, e2, -, -, -, -, -, -, p5⟩ := hr'.at_ (k := k - 1) (by omega)
        injection e2 with e2; injection e2 with e3 e4; subst e3; subst e4
        rw [World.cell?_alloc_lt _ _ _ (show b < wr.heap.size by omega), p5, ← sT_tied (k := k - 1) (by omega), show k - 1 + 1 = k by omega]
      have HK1 : Hid ((glNote v k).1 = true ∨ inR (pkL ((glNote v k).2.1, (glNote v k).2.2.1, (glNote v k).2.2.2.1)) 0 107 = true → ksT v (k + 1)) := Lib.hid (fun h j hj => by
        rcases Nat.lt_or_ge j k with h2 | h2
        · exact HK.out j h2
        · obtain rfl : j = k := by omega
          exact h)
      have HT0 : Hid (k = 0 → (sT v k).2.2.2 = false) := Lib.hid (fun h => by rw [h, sT_zero])
      have HFT := Lib.hid (show fT v k = if (sT v k).2.2.2 = true then (sT v k).2.1 else (sT v k).2.2.1 from rfl)
      clear hblk hr' hbel hf ho
      generalize (sT v k).2.2.1 = tk at *
      generalize (sT v k).2.1 = fr at *
      generalize (sT v k).2.2.2 = td at *
      generalize hpe : pT v ts l k = pe at *
      generalize (glNote v k).1 = r at *
      generalize (glNote v k).2.1 = a at *
      generalize (glNote v k).2.2.1 = b1 at *
      generalize (glNote v k).2.2.2.1 = o1 at *
      generalize (glNote v k).2.2.2.2.1 = dt at *
      generalize (glNote v k).2.2.2.2.2 = d at *
      generalize hwa : (wr.alloc (.cells #[.bool r, .int .i64 a, .int .i64 b1, .int .i64 o1, .int .i64 dt, .bool d] 46)) = wa at *
      have hX : ∃ X : Int, 0 ≤ X ∧ X ≤ tk ∧ Hid (fT v k = X) ∧ (td = true → X = fr) ∧ (td = false → X = tk) := by
        refine ⟨fT v k, ?_, ?_, Lib.hid rfl, fun h => by rw [HFT.out, if_pos h], fun h => by rw [HFT.out, if_neg (by rw [h]; decide)]⟩ <;> (rw [HFT.out]; split <;> omega)
      obtain ⟨X, hx0, hx1, HX, hxt, hxf⟩ := hX
      clear HFT
      have HGT := Lib.hid (fun (w7 : World) (A7 : Option Addr) (h : Grw wr w7 A2 A7) => show Below w.heap.size w w7 from HB.out.trans (h.below hsz (fun q e => (HOB.out q e).1)))
      rcases Nat.eq_zero_or_pos k with hk0 | hk0
      case' inl =>
        have htd := HT0.out hk0
        have hXt := hxf htd
        have ha1 : ((k : Int) == 0) = true := beq_iff_eq.2 (by omega)
        clear hp hk0
        go_wp2_with fail
        refine (impl_timeOf _ _ _ _ _ (RdTempo.more (RdTempo.below HY.out HBA.out (Nat.le_refl _)) (by omega)) HT.out (by omega) (by omega)).mono ?_
        rw [show timeL ts tk = timeL ts X by rw [hXt]]
        clear hXt
        rintro e w5 ⟨rfl, b5⟩
        have z5 := b5.size
        have HG5 := Lib.hid (HGA.out.bel b5)
        have HO5 := Lib.hid (own_bel HOA.out b5)
        have HX5 := Lib.hid (HBK.out.below b5 (by omega))
        have s0 := (b5.cell (p := ⟨wr.heap.size, 0, none⟩) (by simp only []; omega)).trans q0
        have s1 := (b5.cell (p := ⟨wr.heap.size, 1, none⟩) (by simp only []; omega)).trans q1
        have s2 := (b5.cell (p := ⟨wr.heap.size, 2, none⟩) (by simp only []; omega)).trans q2
        have s3 := (b5.cell (p := ⟨wr.heap.size, 3, none⟩) (by simp only []; omega)).trans q3
        have s4 := (b5.cell (p := ⟨wr.heap.size, 4, none⟩) (by simp only []; omega)).trans q4
        have s5 := (b5.cell (p := ⟨wr.heap.size, 5, none⟩) (by simp only []; omega)).trans q5
        clear b5 q0 q1 q2 q3 q4 q5
      case' inr =>
        have p5 := hp hk0
        have ha0 : ((k : Int) == 0) = false := beq_eq_false_iff_ne.2 (by omega)
        have ha1 : ((k : Int) - 1).toNat = k - 1 := by omega
        have ha2 : (k : Int) - 1 < (v.length : Int) := by omega
        have ha3 : 0 ≤ (k : Int) - 1 := by omega
        have ha4 : IntKind.i64.wrap ((k : Int) - 1) = (k : Int) - 1 := IntWalk.i64_in _ (by omega)
        clear hp hk0
        cases td
        case' false =>
          have hXt := hxf rfl
          go_wp2_with fail
          refine (impl_timeOf _ _ _ _ _ (RdTempo.more (RdTempo.below HY.out HBA.out (Nat.le_refl _)) (by omega)) HT.out (by omega) (by omega)).mono ?_
          rw [show timeL ts tk = timeL ts X by rw [hXt]]
          clear hXt
          rintro e w5 ⟨rfl, b5⟩
          have z5 := b5.size
          have HG5 := Lib.hid (HGA.out.bel b5)
          have HO5 := Lib.hid (own_bel HOA.out b5)
          have HX5 := Lib.hid (HBK.out.below b5 (by omega))
          have s0 := (b5.cell (p := ⟨wr.heap.size, 0, none⟩) (by simp only []; omega)).trans q0
          have s1 := (b5.cell (p := ⟨wr.heap.size, 1, none⟩) (by simp only []; omega)).trans q1
          have s2 := (b5.cell (p := ⟨wr.heap.size, 2, none⟩) (by simp only []; omega)).trans q2
          have s3 := (b5.cell (p := ⟨wr.heap.size, 3, none⟩) (by simp only []; omega)).trans q3
          have s4 := (b5.cell (p := ⟨wr.heap.size, 4, none⟩) (by simp only []; omega)).trans q4
          have s5 := (b5.cell (p := ⟨wr.heap.size, 5, none⟩) (by simp only []; omega)).trans q5
          clear b5 q0 q1 q2 q3 q4 q5
        case' true =>
          obtain rfl := hxt rfl
          obtain ⟨w5, rfl⟩ : ∃ w5 : World, w5 = wa := ⟨_, rfl⟩
          have HG5 := HGA; have HO5 := HOA; have HX5 := HBK
          have z5 : w5.heap.size ≤ w5.heap.size := Nat.le_refl _
          have s0 := q0; have s1 := q1; have s2 := q2; have s3 := q3; have s4 := q4; have s5 := q5
          clear q0 q1 q2 q3 q4 q5
      all_goals
        clear hxt hxf
        have HB5 := Lib.hid (HGT.out _ _ HG5.out)
        cases r
        case' true =>
          have HKK := Lib.hid (HPS.out (.inl rfl))
          have HKN := Lib.hid (HK1.out (.inl rfl))
          go_wp2_with fail
          go_roundw
          case' rel => exact ⟨k + 1, A2, c2, by omega, by go_num, by rw [HTK.out], by rw [HFR.out, HX.out], by rw [HKK.out], by rw [HKK.out]; exact HO5.out, HKN.out, HB5.out⟩
          case' measure => simp [intOf]; omega
        case' false =>
          have zb : wr.heap.size < w5.heap.size := by omega
          have HPK := Lib.hid (HPV.out rfl)
          cases hin2 : inR (pkL (a, b1, o1)) 0 107
          · have HF := Lib.hid (HNO.out rfl hin2)
            have HN := Lib.hid hin2
            clear hin2
            go_wp2_with fail
            refine (impl_PitchKey a b1 o1 _).mono ?_
            rw [HPK.out]
            rintro e w6 ⟨rfl, b6⟩
            have HB6 := Lib.hid (HB5.out.trans (b6.mono (by omega)))
            clear b6
            go_wp2_with (go_at_call 42; refine (impl_within _ _ _ _).mono ?_; rw [HN.out]; rintro e w' ⟨rfl, rfl⟩)
            go_ret
            unfold RetEv; rw [HF.out]
            exact ⟨none, 0, rfl, World.ownsRow_nil _ _ _ _, HB6.out⟩
          · have HN := Lib.hid hin2
            have hky := inR_iff.1 hin2
            have HKN1 := HK1.out (.inr hin2)
            have HKN := Lib.hid HKN1
            clear hin2 HKN1
            go_wp2_with fail
            refine (impl_PitchKey a b1 o1 _).mono ?_
            rw [HPK.out]
            rintro e w6 ⟨rfl, b6⟩
            have z6 := b6.size
            have HG6 := Lib.hid (HG5.out.bel b6)
            have HO6 := Lib.hid (own_bel HO5.out b6)
            have HX6 := Lib.hid (HX5.out.below b6 zb)
            have HB6 := Lib.hid (HB5.out.trans (b6.mono (by omega)))
            have t1 := (b6.cell (p := ⟨wr.heap.size, 1, none⟩) zb).trans s1
            have t2 := (b6.cell (p := ⟨wr.heap.size, 2, none⟩) zb).trans s2
            have t3 := (b6.cell (p := ⟨wr.heap.size, 3, none⟩) zb).trans s3
            have t5 := (b6.cell (p := ⟨wr.heap.size, 5, none⟩) zb).trans s5
            clear b6 s0 s1 s2 s3 s4 s5
            cases d
            case' true =>
              have HKK := Lib.hid (HPS.out (.inr rfl))
              go_wp2_with (go_at_call 42; refine (impl_within _ _ _ _).mono ?_; rw [HN.out]; rintro e w' ⟨rfl, rfl⟩)
              go_roundw
              case' rel => exact ⟨k + 1, A2, c2, by omega, by go_num, by rw [HTK.out], by rw [HFR.out, HX.out], by rw [HKK.out], by rw [HKK.out]; exact HO6.out, HKN.out, HB6.out⟩
              case' measure => simp [intOf]; omega
            case' false =>
              have HNX : Hid (obA A2 ≠ some wr.heap.size) := Lib.hid (fun e9 => by have := HOB.out _ e9; omega)
              have HKK : Hid (pT v ts l (k + 1) = pe ++ [(timeL ts (fT v k), timeL ts (tk + dt), pkL (a, b1, o1), l)]) := Lib.hid (by first | exact HPQ.out rfl rfl | exact HPQ.out trivial rfl | exact HPQ.out trivial trivial | simpa using HPQ.out)
              go_wp2_with (go_at_call 42; refine (impl_within _ _ _ _).mono ?_; rw [HN.out]; rintro e w' ⟨rfl, rfl⟩)
              go_region_held3 (fun w' => w'.cell? ⟨wr.heap.size, 1, none⟩ = some (.int .i64 a) ∧ w'.cell? ⟨wr.heap.size, 2, none⟩ = some (.int .i64 b1) ∧ w'.cell? ⟨wr.heap.size, 3, none⟩ = some (.int .i64 o1))
                (first | exact ⟨t1, t2, t3⟩ | exact ⟨X7.out.cell 1, X7.out.cell 2, X7.out.cell 3⟩ | exact ⟨X8.out.cell 1, X8.out.cell 2, X8.out.cell 3⟩ | exact ⟨(X8.out.alloc _).cell 1, (X8.out.alloc _).cell 2, (X8.out.alloc _).cell 3⟩ | exact ⟨X9.out.cell 1, X9.out.cell 2, X9.out.cell 3⟩)
                (first
                  | (go_at_call 43; refine (impl_timeOf _ _ _ _ _ (show RdTempo w6.drew w6.drew.heap.size C ts from RdTempo.more (RdTempo.below HY.out HB6.out.drew (Nat.le_refl _)) (show w.heap.size ≤ w6.heap.size by omega)) HT.out (by omega) (by omega)).mono ?_; rintro e w7 ⟨rfl, b7⟩; have z7 : w6.heap.size ≤ w7.heap.size := b7.size; have X7 := Lib.hid (HX6.out.drew.below b7 (show wr.heap.size < w6.heap.size by omega)); have O7 := Lib.hid (own_bel (own_drew HO6.out) b7); have G7 := Lib.hid (HG6.out.drew.bel b7))
                  | (go_at_call 34; refine (impl_PitchKey a b1 o1 _).mono ?_; rw [HPK.out]; rintro e w8 ⟨rfl, b8⟩; have z8 : w7.heap.size ≤ w8.heap.size := b8.size; have X8 := Lib.hid (X7.out.below b8 (by omega)); have O8 := Lib.hid (own_bel O7.out b8); have G8 := Lib.hid (G7.out.bel b8))
                  | (refine step_app_rec rfl _ _ 36 rfl w.heap.size 39 i0 (.agg #[Value.int .i64 0, Value.int .i64 0, Value.int .i64 0, Value.int .i64 0]) 32 Try.underlying36 HI.out H0.out H1.out H2.out rfl (by decide) (by decide) w8 A2 c2 pe rfl O8.out (by omega) (by omega) (timeL ts X, timeL ts (tk + dt), pkL (a, b1, o1), l) [.int .i64 (timeL ts X), .int .i64 (timeL ts (tk + dt)), .int .i64 (pkL (a, b1, o1)), .int .i64 l] rfl rfl (event_one _ _ _ _) rfl ?_; intro g9 c9 w9 o9 gr9; have X9 := Lib.hid (gr9.blk X8.out HNX.out)))
              all_goals
                have O9 := Lib.hid o9; have G9 := Lib.hid (G8.out.trans gr9)
                clear o9 gr9 b7 b8 t1 t2 t3 t5
                go_wp2_with fail
                go_roundw
                case rel => exact ⟨k + 1, some ⟨g9, 0, none⟩, c9, by omega, by go_num, by rw [HTK.out], by rw [HFR.out, HX.out], by rw [HKK.out, List.length_append]; rfl, by rw [HKK.out, HX.out, List.length_append]; exact O9.out, HKN.out, HGT.out _ _ G9.out⟩
                case measure => simp [intOf]; omega
    · obtain rfl : k = v.length := by omega
      have HKB := Lib.hid (ks_all HK.out)
      have HF : Hid (perfL v ts l = pT v ts l v.length) := Lib.hid (perf_yes HV.out HT.out HL.out HKB.out)
      clear hbel ho
      go_wp2_with fail
      go_ret
      unfold RetEv; rw [HF.out]
      exact ⟨_, _, rfl, HO.out, HB.out⟩
end Go.Proofs.Ytggjgjcdpnidnaa
