/- Contracts of voiceTicks, VoiceTicks and l19Groups. Condition: a valid voice. -/
import Derived.Test.YtgnbnedjocolcaaAppR
import Derived.Test.YtgnbnedjocolcaaNte2
import Derived.Test.YtgnbnedjocolcaaPrfL
import Derived.BigRegion
namespace Go.Proofs.Ytgnbnedjocolcaa
open Go.RowKit
set_option linter.unusedSimpArgs false
set_option linter.unusedVariables false
set_option maxRecDepth 100000
set_option maxHeartbeats 1000000 in
theorem impl_voiceTicks (A : Option Addr) (c : Nat) (v : List Nt) (w : World) (hr : RdNote w w.heap.size A v) (hv : vvB v = true) :
    Calls Try.prog 46 #[.slice A v.length c] w (RetI w (ticksL v)) := by
  have HR := Lib.hid hr; have HV := Lib.hid hv
  have hlen := vv_len hv
  clear hr hv
  go_enter Try.func46, Try.ntmps46
  go_wp2_with fail
  go_loopw [3, 8] (fun q i wr => ∃ k : Nat, k ≤ v.length ∧ i = .int .i64 k ∧ q = .int .i64 (sT v k).2.2.1 ∧ Below w.heap.size w wr) (fun _ i _ => v.length - (intOf i).toNat)
  case atStart => exact ⟨0, Nat.zero_le _, rfl, by rw [sT_zero], Below.refl _ _⟩
  case round =>
    obtain ⟨k, hk, rfl, rfl, hbel⟩ := hrel
    have hsz := hbel.size
    by_cases hlt : k < v.length
    · obtain ⟨b, off, rfl, hbB, hc0, hc1, hc2, hc3, hc4, hc5⟩ := (HR.out.below hbel (Nat.le_refl _)).at_ (k := k) hlt
      have HB := Lib.hid hbel; clear hbel
      have hi1 : (k : Int) < (v.length : Int) := by omega
      have ht := sT_bd HV.out k hk
      have hd := vv_tick HV.out hlt
      have HT := Lib.hid (sT_tick hlt)
      generalize (sT v k).2.2.1 = tk at *
      generalize (glNote v k).2.2.2.2.1 = dt at *
      have v1 : IntKind.i64.wrap (tk + dt) = tk + dt := IntWalk.i64_in _ (by omega)
      go_wp2_with fail
      go_roundw
      case rel => exact ⟨k + 1, by omega, by go_num, by rw [HT.out], by
        repeat (with_reducible refine Below.setCell ?_ (by simp; try omega) _)
        first | exact HB.out.alloc hsz _ | exact HB.out⟩
      case measure => simp [intOf]; omega
    · obtain rfl : k = v.length := by omega
      have HB := Lib.hid hbel; clear hbel
      have HF : Hid ((sT v v.length).2.2.1 = ticksL v) := Lib.hid (by rw [sT_all]; rfl)
      go_wp2_with fail
      go_ret
      exact ⟨ret_int HF.out, HB.out⟩
set_option maxHeartbeats 1000000 in
theorem spec_VoiceTicks (A : Option Addr) (c : Nat) (v : List Nt) (w : World) (hr : RdNote w w.heap.size A v) (hv : vvB v = true) :
    Calls Try.prog 65 #[.slice A v.length c] w (RetI w (ticksL v)) := by
  have HR := Lib.hid hr; have HV := Lib.hid hv
  have hlen := vv_len hv
  clear hr hv
  go_enter Try.func65, Try.ntmps65
  go_wp2_with fail
  refine (spec_VoiceValid _ _ _ _ HR.out (by omega)).mono ?_
  rw [HV.out]
  rintro e w1 ⟨rfl, b1⟩
  have HB1 := Lib.hid b1; clear b1
  go_wp2_with fail
  go_loopw [3, 4] (fun q i wr => ∃ k : Nat, k ≤ v.length ∧ i = .int .i64 k ∧ q = .int .i64 (sT v k).2.2.1 ∧ Below w.heap.size w wr) (fun _ i _ => v.length - (intOf i).toNat)
  case atStart => exact ⟨0, Nat.zero_le _, rfl, by rw [sT_zero], HB1.out⟩
  case round =>
    obtain ⟨k, hk, rfl, rfl, hbel⟩ := hrel
    have hsz := hbel.size
    by_cases hlt : k < v.length
    · obtain ⟨b, off, rfl, hbB, hc0, hc1, hc2, hc3, hc4, hc5⟩ := (HR.out.below hbel (Nat.le_refl _)).at_ (k := k) hlt
      have HB := Lib.hid hbel; clear hbel
      have hi1 : (k : Int) < (v.length : Int) := by omega
      have ht := sT_bd HV.out k hk
      have hd := vv_tick HV.out hlt
      have HT := Lib.hid (sT_tick hlt)
      generalize (sT v k).2.2.1 = tk at *
      generalize (glNote v k).2.2.2.2.1 = dt at *
      have v1 : IntKind.i64.wrap (tk + dt) = tk + dt := IntWalk.i64_in _ (by omega)
      go_wp2_with fail
      go_roundw
      case rel => exact ⟨k + 1, by omega, by go_num, by rw [HT.out], HB.out⟩
      case measure => simp [intOf]; omega
    · obtain rfl : k = v.length := by omega
      have HB := Lib.hid hbel; clear hbel
      have HF : Hid ((sT v v.length).2.2.1 = ticksL v) := Lib.hid (by rw [sT_all]; rfl)
      go_wp2_with fail
      go_ret
      exact ⟨ret_int HF.out, HB.out⟩
theorem fl_addG {G : List Nt} {t : Int} (h : 0 < G.length) : (fl encNote G).set ((G.length - 1) * 6 + 4) (.int .i64 ((glNote G (G.length - 1)).2.2.2.2.1 + t)) = fl encNote (addG G t) := by
  obtain ⟨G0, x, rfl⟩ : ∃ G0 x, G = G0 ++ [x] := ⟨G.dropLast, G.getLast (List.ne_nil_of_length_pos h), (List.dropLast_concat_getLast _).symm⟩
  rw [addG_snoc, fl_append, fl_append, fl_one, fl_one]
  have e : (G0 ++ [x]).length - 1 = G0.length := by simp
  have e2 : glNote (G0 ++ [x]) G0.length = x := by simp [glNote]
  have e3 : (fl encNote G0).length = G0.length * 6 := fl_length encNote_len G0
  rw [e, e2, List.set_append_right _ _ (by omega), e3]
  congr 1
  rw [Nat.add_sub_cancel_left]
  rfl
set_option maxHeartbeats 4000000 in
theorem spec_l19Groups (A : Option Addr) (c : Nat) (v : List Nt) (w : World) (hr : RdNote w w.heap.size A v) (hv : vvB v = true) :
    Calls Try.prog 42 #[.slice A v.length c] w (RetRow w 63 6 (grpL v).length (fl encNote (grpL v))) := by
  obtain ⟨i0, hi, hz0, hz1, hz2⟩ := info_parts infoNote
  have HI := Lib.hid hi; have H0 := Lib.hid hz0; have H1 := Lib.hid hz1; have H2 := Lib.hid hz2; clear hi hz0 hz1 hz2
  have HR := Lib.hid hr; have HV := Lib.hid hv
  have hlen := vv_len hv
  clear hr hv
  go_enter Try.func42, Try.ntmps42
  go_wp2_with fail
  go_loopw [3, 4] (fun q i wr => ∃ (k : Nat) (A2 : Option Addr) (c2 : Nat), k ≤ v.length ∧ i = .int .i64 k ∧ q = .slice A2 (gT v k).1.length c2 ∧ wr.ownsRow w.heap.size 63 6 (.slice A2 (gT v k).1.length c2) (gT v k).1.length (fl encNote (gT v k).1) ∧ Below w.heap.size w wr) (fun _ i _ => v.length - (intOf i).toNat)
  case atStart => exact ⟨0, _, _, Nat.zero_le _, rfl, by rw [gT_zero]; rfl, by rw [gT_zero]; exact (own_empty (Below.refl _ w) (Nat.le_refl _)).1, (own_empty (size := 6) (e := 63) (Below.refl _ w) (Nat.le_refl _)).2.1⟩
  case round =>
    obtain ⟨k, A2, c2, hk, rfl, rfl, ho, hbel⟩ := hrel
    have hsz := hbel.size
    have hgl := gT_len v k hk
    by_cases hlt : k < v.length
    · have hr' := HR.out.below hbel (Nat.le_refl _)
      obtain ⟨b, off, rfl, hbB, hc0, hc1, hc2, hc3, hc4, hc5⟩ := hr'.at_ (k := k) hlt
      have hi1 : (k : Int) < (v.length : Int) := by omega
      have hin : (k : Int).toNat = k := by omega
      have hd := vv_tick HV.out hlt
      have HG := Lib.hid (gT_succ hlt)
      have HB := Lib.hid hbel; have HO := Lib.hid ho
      by_cases hd0 : (gT v k).2 = true
      · have hk0 : 0 < k := by
          rcases Nat.eq_zero_or_pos k with h | h
          · subst h; rw [gT_zero] at hd0; cases hd0
          · exact h
        obtain ⟨b2, off2, e2, -, -, -, -, -, -, p5⟩ := hr'.at_ (k := k - 1) (by omega)
        injection e2 with e2; injection e2 with e3 e4; subst e3; subst e4
        have ht1 : (glNote v (k - 1)).2.2.2.2.2 = true := by
          rw [← gT_tied (k := k - 1) (by omega), show k - 1 + 1 = k by omega]; exact hd0
        rw [ht1] at p5
        have hg0 : 0 < (gT v k).1.length := hgl.2 hk0
        obtain ⟨g, cap, e9, -, -⟩ := ho.form (by omega)
        injection e9 with e9 e10 e11; subst e9; subst e11
        have q4 : wr.cell? ⟨g, ((gT v k).1.length - 1) * 6 + 4, none⟩ = some (.int .i64 (glNote (gT v k).1 ((gT v k).1.length - 1)).2.2.2.2.1) := by
          have := (ho.cellAt (((gT v k).1.length - 1) * 6 + 4) (by omega)).trans (fl_at encNote_len (k := (gT v k).1.length - 1) (j := 4) (by omega) (by decide))
          rw [glNote_get (by omega)] at this
          exact this
        have f4 := ho.frozenAt (((gT v k).1.length - 1) * 6 + 4)
        have HS := Lib.hid (ho.stored (((gT v k).1.length - 1) * 6 + 4) (.int .i64 ((glNote (gT v k).1 ((gT v k).1.length - 1)).2.2.2.2.1 + (glNote v k).2.2.2.2.1)))
        have hgt := gT_tk HV.out k hk _ (gl_mem (G := (gT v k).1) (k := (gT v k).1.length - 1) (by omega))
        have HA := Lib.hid (fl_addG (t := (glNote v k).2.2.2.2.1) hg0)
        have HGN : Hid ((gT v (k + 1)).1 = addG (gT v k).1 (glNote v k).2.2.2.2.1 ∧ (addG (gT v k).1 (glNote v k).2.2.2.2.1).length = (gT v k).1.length) := Lib.hid ⟨by rw [HG.out]; unfold gStep; rw [hd0]; rfl, by unfold addG; rw [List.length_set]⟩
        have ha1 : ((k : Int) - 1).toNat = k - 1 := by omega
        have ha2 : (k : Int) - 1 < (v.length : Int) := by omega
        have ha3 : 0 ≤ (k : Int) - 1 := by omega
        have ha4 : (0 : Int) < k := by omega
        have hb1 : (((gT v k).1.length : Int) - 1).toNat = (gT v k).1.length - 1 := by omega
        have hb2 : ((gT v k).1.length : Int) - 1 < ((gT v k).1.length : Int) := by omega
        have hb3 : 0 ≤ ((gT v k).1.length : Int) - 1 := by omega
        have hb4 : IntKind.i64.wrap (((gT v k).1.length : Int) - 1) = ((gT v k).1.length : Int) - 1 := IntWalk.i64_in _ (by omega)
        have hb5 : (gT v k).1.length ≤ 60 := by omega
        clear hr' hbel ho hd0 ht1 hgl hc0 hc1 hc2 hc3 hc5 HG
        generalize (glNote (gT v k).1 ((gT v k).1.length - 1)).2.2.2.2.1 = x4 at *
        generalize (glNote v k).2.2.2.2.1 = x5 at *
        generalize hL : (gT v k).1.length = L at *
        have v1 : IntKind.i64.wrap (x4 + x5) = x4 + x5 := IntWalk.i64_in _ (by omega)
        go_wp2_with fail
        go_region
        go_wp2_with fail
        go_roundw
        case rel =>
          refine ⟨k + 1, some ⟨g, 0, none⟩, c2, by omega, by go_num, ?_, ?_, ((HB.out.setCell (own_ob HO.out g rfl).1 _).drew)⟩
          · rw [HGN.out.1, HGN.out.2]
          · rw [HGN.out.1, HGN.out.2, ← HA.out]; exact own_drew HS.out.1
        case measure => simp [intOf]; omega
      · have hd1 : (gT v k).2 = false := by simpa using hd0
        have HGN : Hid ((gT v (k + 1)).1 = (gT v k).1 ++ [glNote v k]) := Lib.hid (by rw [HG.out]; unfold gStep; rw [hd1]; rfl)
        have hnl : (gT v k).1.length ≤ 4194304 := by omega
        have HX := Lib.hid (show (gT v k).1.length ≤ 4194304 by omega)
        rcases Nat.eq_zero_or_pos k with hk0 | hk0
        case' inl =>
          have ha5 : decide ((0 : Int) < (k : Int)) = false := decide_eq_false (by omega)
          have ha6 : decide (0 < k) = false := decide_eq_false (by omega)
          clear hr' hbel ho hd0 hd1 hgl HG hnl hk0
        case' inr =>
          obtain ⟨b2, off2, e2, -, -, -, -, -, -, p5⟩ := hr'.at_ (k := k - 1) (by omega)
          injection e2 with e2; injection e2 with e3 e4; subst e3; subst e4
          have ht1 : (glNote v (k - 1)).2.2.2.2.2 = false := by
            rw [← gT_tied (k := k - 1) (by omega), show k - 1 + 1 = k by omega]; exact hd1
          rw [ht1] at p5
          have ha1 : ((k : Int) - 1).toNat = k - 1 := by omega
          have ha2 : (k : Int) - 1 < (v.length : Int) := by omega
          have ha3 : 0 ≤ (k : Int) - 1 := by omega
          have ha4 : (0 : Int) < k := by omega
          clear hr' hbel ho hd0 hd1 hgl HG hnl ht1
        all_goals
          go_wp2_with (at_builtin; refine app_rec (enc := encNote) rfl _ _ 33 rfl w.heap.size 63 i0 (.agg #[Value.bool false, Value.int .i64 0, Value.int .i64 0, Value.int .i64 0, Value.int .i64 0, Value.bool false]) 48 Try.underlying33 HI.out H0.out H1.out H2.out rfl (by decide) (by decide) wr A2 c2 (gT v k).1 HO.out hsz HX.out rfl (glNote v k) [.bool (glNote v k).1, .int .i64 (glNote v k).2.1, .int .i64 (glNote v k).2.2.1, .int .i64 (glNote v k).2.2.2.1, .int .i64 (glNote v k).2.2.2.2.1, .bool (glNote v k).2.2.2.2.2] rfl rfl (note_one _ _ _ _ _ _) wr.heap.size rfl rfl ?_; intro g2 cap2 w2 o2 gr2; have O2 := Lib.hid o2; have G2 := Lib.hid gr2; clear o2 gr2)
          go_roundw
          case rel =>
            refine ⟨k + 1, some ⟨g2, 0, none⟩, cap2, by omega, by go_num, ?_, ?_, HB.out.trans (G2.out.below hsz (fun q e => (own_ob HO.out q e).1))⟩
            · rw [HGN.out, List.length_append]; rfl
            · rw [HGN.out, List.length_append]; exact O2.out
          case measure => simp [intOf]; omega
    · obtain rfl : k = v.length := by omega
      have HB := Lib.hid hbel; have HO := Lib.hid ho; clear hbel ho
      have HF : Hid ((gT v v.length).1 = grpL v) := Lib.hid (gT_all v)
      rw [gT_all] at *
      go_wp2_with fail
      go_ret
      exact ⟨_, _, rfl, HO.out, HB.out⟩
end Go.Proofs.Ytgnbnedjocolcaa
