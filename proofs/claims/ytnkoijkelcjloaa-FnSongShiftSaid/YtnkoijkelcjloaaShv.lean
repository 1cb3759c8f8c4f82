/- Contracts of ShiftVoice, of the program and of the reference. Condition: at most 2^20 notes. -/
import Derived.Test.YtnkoijkelcjloaaTon
import Derived.Test.YtnkoijkelcjloaaNte2
import Derived.Test.YtnkoijkelcjloaaMrg1
namespace Go.Proofs.Ytnkoijkelcjloaa
open Go.RowKit
set_option linter.unusedSimpArgs false
set_option linter.unusedVariables false
set_option maxRecDepth 100000
def RetNV (w : World) (q : List Nt × Bool) (e : Ending) (w' : World) : Prop := ∃ A c, e = .returned (.tuple #[.slice A q.1.length c, .bool q.2]) ∧ w'.ownsRow w.heap.size 68 6 (.slice A q.1.length c) q.1.length (fl encNote q.1) ∧ Below w.heap.size w w'
theorem take_map_succ {s h : Int} {v : List Nt} {k : Nat} (hk : k < v.length) : (v.take (k + 1)).map (shN s h) = (v.take k).map (shN s h) ++ [shN s h (glNote v k)] := by
  rw [List.take_succ_eq_append_getElem hk, List.map_append, glNote_get hk]; rfl
set_option maxHeartbeats 8000000 in
theorem impl_ShiftVoice (A : Option Addr) (c : Nat) (v : List Nt) (s h : Int) (w : World) (hr : RdNote w w.heap.size A v) (hl : v.length ≤ 1048576) :
    Calls Try.prog 22 #[.slice A v.length c, .agg #[.int .i64 s, .int .i64 h]] w (RetNV w (shL s h v, shB s h v)) := by
  obtain ⟨i0, hi, hz0, hz1, hz2⟩ := info_parts infoNote
  have HI := Lib.hid hi; have H0 := Lib.hid hz0; have H1 := Lib.hid hz1; have H2 := Lib.hid hz2; clear hi hz0 hz1 hz2
  have HR := Lib.hid hr; clear hr
  have HK := Lib.hid (Blk.new w 30 #[.int .i64 s, .int .i64 h])
  have HB := Lib.hid ((Below.refl w.heap.size w).alloc (Nat.le_refl _) (.cells #[.int .i64 s, .int .i64 h] 30))
  have z0 : w.heap.size + 1 ≤ (w.alloc (.cells #[.int .i64 s, .int .i64 h] 30)).heap.size := by simp
  go_enter Try.func22, Try.ntmps22
  go_upto_region 1 with fail
  generalize w.alloc (.cells #[.int .i64 s, .int .i64 h] 30) = w0 at *
  go_wp2_with fail
  refine (impl_VoiceValid _ _ _ _ (RdNote.more (RdNote.below HR.out HB.out (Nat.le_refl _)) HB.out.size) hl).mono ?_
  cases hv : vvB v
  · have HF : Hid (shB s h v = false) := Lib.hid (shB_no1 hv); clear hv
    rintro e w1 ⟨rfl, b1⟩
    have z1 := b1.size
    replace HB := Lib.hid (HB.out.trans (b1.mono (by omega))); clear b1
    go_wp2_with fail
    go_ret2
    unfold RetNV; rw [shL_no HF.out, HF.out]
    exact ⟨none, 0, rfl, World.ownsRow_nil _ _ _ _, HB.out⟩
  have HV := Lib.hid hv; clear hv
  rintro e w1 ⟨rfl, b1⟩
  have z1 := b1.size
  replace HB := Lib.hid (HB.out.trans (b1.mono (by omega))); replace HK := Lib.hid (HK.out.below b1 (by omega)); clear b1
  have k0 := HK.out.cell 0; have k1 := HK.out.cell 1
  go_wp2_with fail
  refine (impl_IntervalValid s h _).mono ?_
  cases hv : ivB s h
  · have HF : Hid (shB s h v = false) := Lib.hid (shB_no2 hv); clear hv
    rintro e w2 ⟨rfl, b2⟩
    have z2 := b2.size
    replace HB := Lib.hid (HB.out.trans (b2.mono (by omega))); clear b2 k0 k1
    go_wp2_with fail
    go_ret2
    unfold RetNV; rw [shL_no HF.out, HF.out]
    exact ⟨none, 0, rfl, World.ownsRow_nil _ _ _ _, HB.out⟩
  have HV2 := Lib.hid hv; clear hv
  rintro e w2 ⟨rfl, b2⟩
  have z2 := b2.size
  replace HB := Lib.hid (HB.out.trans (b2.mono (by omega))); replace HK := Lib.hid (HK.out.below b2 (by omega)); clear b2 k0 k1
  have hw2 : w.heap.size + 1 ≤ w2.heap.size := by omega
  have HLN : Hid (v.length ≤ 60) := Lib.hid (vvB_iff.1 HV.out).1
  go_wp2_with fail
  go_loopw [6, 22] (fun q i wr => ∃ (k : Nat) (A2 : Option Addr) (c2 : Nat) (zs : List Nt), k ≤ v.length ∧ i = .int .i64 k ∧ q = .slice A2 zs.length c2 ∧ zs = (v.take k).map (shN s h) ∧ (∀ j, j < k → soB s h (glNote v j) = true) ∧ wr.ownsRow (w.heap.size + 1) 68 6 (.slice A2 zs.length c2) zs.length (fl encNote zs) ∧ Blk wr w.heap.size 30 #[.int .i64 s, .int .i64 h] ∧ Below w.heap.size w wr ∧ w2.heap.size ≤ wr.heap.size) (fun _ i _ => v.length - (intOf i).toNat)
  case atStart => exact ⟨0, _, _, [], Nat.zero_le _, rfl, rfl, rfl, fun j h => by omega, (own_empty (size := 6) (e := 68) ((Below.refl w2.heap.size w2).mono hw2) hw2).1, HK.out.alloc _, HB.out.alloc (by omega) _, by simp⟩
  case round =>
    clear HK HB
    
    obtain ⟨k, A2, c2, zs, hk, rfl, rfl, hz_, hall, ho_, hk_, hb_, hsz⟩ := hrel
    have HZL : Hid (zs.length = k) := Lib.hid (by rw [hz_]; simp; omega)
    have HZ := Lib.hid hz_; have HA := Lib.hid hall; have HO := Lib.hid ho_; have HK := Lib.hid hk_; have HB := Lib.hid hb_
    clear hz_ hall ho_ hk_ hb_
    have hr_ := RdNote.below HR.out HB.out (Nat.le_refl _)
    by_cases hlt : k < v.length
    · obtain ⟨b8, off, rfl, hbB, hc0, hc1, hc2, hc3, hc4, hc5⟩ := hr_.at_ (k := k) hlt
      clear hr_
      have hi1 : (k : Int) < (v.length : Int) := by omega
      have hin : (k : Int).toNat = k := by omega
      have HA2 : Hid (soB s h (glNote v k) = true → ∀ j, j < k + 1 → soB s h (glNote v j) = true) := Lib.hid (fun h9 j hj => by
        rcases Nat.lt_or_ge j k with h | h
        · exact HA.out j h
        · obtain rfl : j = k := by omega
          exact h9)
      have HBAD : Hid (soB s h (glNote v k) = false → shB s h v = false) := Lib.hid (fun h9 => shB_no3 hlt h9)
      have HSO : Hid (soB s h (glNote v k) = ((glNote v k).1 || (aiL (glNote v k).2.1 (glNote v k).2.2.1 (glNote v k).2.2.2.1 s h).2)) := Lib.hid rfl
      have HSH : Hid (shN s h (glNote v k) = if (glNote v k).1 = true then glNote v k else ((glNote v k).1, (aiL (glNote v k).2.1 (glNote v k).2.2.1 (glNote v k).2.2.2.1 s h).1.1, (aiL (glNote v k).2.1 (glNote v k).2.2.1 (glNote v k).2.2.2.1 s h).1.2.1, (aiL (glNote v k).2.1 (glNote v k).2.2.1 (glNote v k).2.2.2.1 s h).1.2.2, (glNote v k).2.2.2.2.1, (glNote v k).2.2.2.2.2)) := Lib.hid rfl
      rcases hgn : glNote v k with ⟨r, a, b1, c1, t, d⟩
      rw [hgn] at hc0 hc1 hc2 hc3 hc4 hc5
      have HGN := Lib.hid hgn; clear hgn
      dsimp only at hc0 hc1 hc2 hc3 hc4 hc5
      go_upto_region 7 with fail
      clear hc0 hc1 hc2 hc3 hc4 hc5
      have HN := Lib.hid (Blk.new wr 68 #[.bool r, .int .i64 a, .int .i64 b1, .int .i64 c1, .int .i64 t, .bool d])
      have HOB0 := Lib.hid (own_ob HO.out)
      replace HO := Lib.hid (HO.out.alloc (.cells #[.bool r, .int .i64 a, .int .i64 b1, .int .i64 c1, .int .i64 t, .bool d] 68))
      replace HK := Lib.hid (HK.out.alloc (.cells #[.bool r, .int .i64 a, .int .i64 b1, .int .i64 c1, .int .i64 t, .bool d] 68))
      replace HB := Lib.hid (HB.out.alloc (by omega) (.cells #[.bool r, .int .i64 a, .int .i64 b1, .int .i64 c1, .int .i64 t, .bool d] 68))
      have z3 : wr.heap.size + 1 ≤ (wr.alloc (.cells #[.bool r, .int .i64 a, .int .i64 b1, .int .i64 c1, .int .i64 t, .bool d] 68)).heap.size := by simp
      have HNB : Hid (∀ q, obA A2 = some q → q < wr.heap.size) := Lib.hid (fun q e => (HOB0.out q e).2)
      generalize wr.alloc (.cells #[.bool r, .int .i64 a, .int .i64 b1, .int .i64 c1, .int .i64 t, .bool d] 68) = w3 at *
      have n0 := HN.out.cell 0; have n1 := HN.out.cell 1; have n2 := HN.out.cell 2; have n3 := HN.out.cell 3; have n4 := HN.out.cell 4; have n5 := HN.out.cell 5
      have k0 := HK.out.cell 0; have k1 := HK.out.cell 1
      cases r
      case true =>
        have HS9 : Hid (soB s h (glNote v k) = true) := Lib.hid (by rw [HSO.out, HGN.out]; rfl)
        have HSN : Hid ([Value.bool true, .int .i64 a, .int .i64 b1, .int .i64 c1, .int .i64 t, .bool d] = encNote (shN s h (glNote v k))) := Lib.hid (by rw [HSH.out, HGN.out]; rfl)
        replace HA2 := Lib.hid (HA2.out HS9.out)
        go_wp2_with (at_builtin; refine app_rec (enc := encNote) rfl _ _ 56 rfl (w.heap.size + 1) 68 i0 (.agg #[Value.bool false, Value.int .i64 0, Value.int .i64 0, Value.int .i64 0, Value.int .i64 0, Value.bool false]) 48 Try.underlying56 HI.out H0.out H1.out H2.out rfl (by decide) (by decide) w3 A2 c2 zs HO.out (by omega) (by have := HZL.out; omega) rfl (shN s h (glNote v k)) [.bool true, .int .i64 a, .int .i64 b1, .int .i64 c1, .int .i64 t, .bool d] HSN.out rfl (note_one _ _ _ _ _ _) w3.heap.size rfl rfl ?_; intro g2 cap2 w9 o9 gr9; have O9 := Lib.hid o9; have G9 := Lib.hid gr9; clear o9 gr9)
        have z9 := G9.out.1.size
        have HX9 : Hid (zs ++ [shN s h (glNote v k)] = (v.take (k + 1)).map (shN s h)) := Lib.hid (by rw [take_map_succ hlt, HZ.out])
        have HL9 : Hid ((zs ++ [shN s h (glNote v k)]).length = zs.length + 1) := Lib.hid (by simp)
        have HOB := Lib.hid (own_ob HO.out)
        have B9 := Lib.hid (G9.out.below (B := w.heap.size + 1) (by omega) (fun q e => (HOB.out q e).1))
        go_roundw
        case rel => exact ⟨k + 1, some ⟨g2, 0, none⟩, cap2, zs ++ [shN s h (glNote v k)], by omega, by go_num, by rw [HL9.out], HX9.out, HA2.out, by rw [HL9.out]; exact O9.out, HK.out.below B9.out (by omega), HB.out.trans (B9.out.mono (by omega)), by omega⟩
        case measure => simp [intOf]; omega
      case false =>
        rcases hai : aiL a b1 c1 s h with ⟨⟨x1, x2, x3⟩, ok⟩
        have HAI := Lib.hid hai; clear hai
        go_upto_region 9 with (go_at_call 20; refine (impl_AddInterval a b1 c1 s h _).mono ?_; rw [HAI.out]; rintro e w4 ⟨rfl, b4⟩; have z4 := b4.size; replace HN := Lib.hid (HN.out.below b4 (by omega)); replace HO := Lib.hid (own_bel HO.out b4); replace HK := Lib.hid (HK.out.below b4 (by omega)); replace HB := Lib.hid (HB.out.trans (b4.mono (by omega))); clear b4 n0 n1 n2 n3 n4 n5 k0 k1)
        have HT := Lib.hid (Blk.new w4 50 #[.int .i64 x1, .int .i64 x2, .int .i64 x3])
        replace HN := Lib.hid (HN.out.alloc (.cells #[.int .i64 x1, .int .i64 x2, .int .i64 x3] 50))
        replace HO := Lib.hid (HO.out.alloc (.cells #[.int .i64 x1, .int .i64 x2, .int .i64 x3] 50))
        replace HK := Lib.hid (HK.out.alloc (.cells #[.int .i64 x1, .int .i64 x2, .int .i64 x3] 50))
        replace HB := Lib.hid (HB.out.alloc (by omega) (.cells #[.int .i64 x1, .int .i64 x2, .int .i64 x3] 50))
        have z5 : w4.heap.size + 1 ≤ (w4.alloc (.cells #[.int .i64 x1, .int .i64 x2, .int .i64 x3] 50)).heap.size := by simp
        generalize w4.alloc (.cells #[.int .i64 x1, .int .i64 x2, .int .i64 x3] 50) = w5 at *
        cases ok
        case false =>
          have HF : Hid (shB s h v = false) := Lib.hid (HBAD.out (by rw [HSO.out, HGN.out]; show (false || (aiL a b1 c1 s h).2) = false; rw [HAI.out]; rfl))
          go_wp2_with fail
          go_ret2
          unfold RetNV; rw [shL_no HF.out, HF.out]
          exact ⟨none, 0, rfl, World.ownsRow_nil _ _ _ _, HB.out⟩
        case true =>
          have HS9 : Hid (soB s h (glNote v k) = true) := Lib.hid (by rw [HSO.out, HGN.out]; show (false || (aiL a b1 c1 s h).2) = true; rw [HAI.out]; rfl)
          have HSN : Hid ([Value.bool false, .int .i64 x1, .int .i64 x2, .int .i64 x3, .int .i64 t, .bool d] = encNote (shN s h (glNote v k))) := Lib.hid (by
            rw [HSH.out, HGN.out, if_neg (by simp)]
            show _ = encNote (false, (aiL a b1 c1 s h).1.1, (aiL a b1 c1 s h).1.2.1, (aiL a b1 c1 s h).1.2.2, t, d)
            rw [HAI.out]; rfl)
          replace HA2 := Lib.hid (HA2.out HS9.out)
          have t0 := HT.out.cell 0; have t1 := HT.out.cell 1; have t2 := HT.out.cell 2
          have n1 := HN.out.cell 1; have n2 := HN.out.cell 2; have n3 := HN.out.cell 3
          have f1 := HN.out.frozen 1; have f2 := HN.out.frozen 2; have f3 := HN.out.frozen 3
          go_upto_region 12 with fail
          replace HN := Lib.hid (((HN.out.set_ 1 (.int .i64 x1)).set_ 2 (.int .i64 x2)).set_ 3 (.int .i64 x3))
          have HNN : obA A2 ≠ some wr.heap.size := fun e => by have := HNB.out _ e; omega
          replace HO := Lib.hid (own_far (own_far (own_far HO.out (p := ⟨wr.heap.size, 1, none⟩) HNN (.int .i64 x1)) (p := ⟨wr.heap.size, 2, none⟩) HNN (.int .i64 x2)) (p := ⟨wr.heap.size, 3, none⟩) HNN (.int .i64 x3))
          replace HK := Lib.hid (((HK.out.far (p := ⟨wr.heap.size, 1, none⟩) (by simp; omega) (.int .i64 x1)).far (p := ⟨wr.heap.size, 2, none⟩) (by simp; omega) (.int .i64 x2)).far (p := ⟨wr.heap.size, 3, none⟩) (by simp; omega) (.int .i64 x3))
          have HS5 := Lib.hid ((((Below.refl wr.heap.size w5).setCell (p := ⟨wr.heap.size, 1, none⟩) (Nat.le_refl _) (.int .i64 x1)).setCell (p := ⟨wr.heap.size, 2, none⟩) (Nat.le_refl _) (.int .i64 x2)).setCell (p := ⟨wr.heap.size, 3, none⟩) (Nat.le_refl _) (.int .i64 x3))
          have zs5 := HS5.out.size
          replace HB := Lib.hid (HB.out.trans (HS5.out.mono (by omega)))
          clear t0 t1 t2 n1 n2 n3 f1 f2 f3 HNN
          generalize ((w5.setCell ⟨wr.heap.size, 1, none⟩ (.int .i64 x1)).setCell ⟨wr.heap.size, 1 + 1, none⟩ (.int .i64 x2)).setCell ⟨wr.heap.size, 1 + 2, none⟩ (.int .i64 x3) = w6 at *
          have n0 : w6.cell? ⟨wr.heap.size, 0, none⟩ = some (.bool false) := HN.out.cell 0
          have n1 : w6.cell? ⟨wr.heap.size, 1, none⟩ = some (.int .i64 x1) := HN.out.cell 1
          have n2 : w6.cell? ⟨wr.heap.size, 2, none⟩ = some (.int .i64 x2) := HN.out.cell 2
          have n3 : w6.cell? ⟨wr.heap.size, 3, none⟩ = some (.int .i64 x3) := HN.out.cell 3
          have n4 : w6.cell? ⟨wr.heap.size, 4, none⟩ = some (.int .i64 t) := HN.out.cell 4
          have n5 : w6.cell? ⟨wr.heap.size, 5, none⟩ = some (.bool d) := HN.out.cell 5
          go_wp2_with (at_builtin; refine app_rec (enc := encNote) rfl _ _ 56 rfl (w.heap.size + 1) 68 i0 (.agg #[Value.bool false, Value.int .i64 0, Value.int .i64 0, Value.int .i64 0, Value.int .i64 0, Value.bool false]) 48 Try.underlying56 HI.out H0.out H1.out H2.out rfl (by decide) (by decide) w6 A2 c2 zs HO.out (by omega) (by have := HZL.out; omega) rfl (shN s h (glNote v k)) [.bool false, .int .i64 x1, .int .i64 x2, .int .i64 x3, .int .i64 t, .bool d] HSN.out rfl (note_one _ _ _ _ _ _) w6.heap.size rfl rfl ?_; intro g2 cap2 w9 o9 gr9; have O9 := Lib.hid o9; have G9 := Lib.hid gr9; clear o9 gr9)
          have z9 := G9.out.1.size
          have HX9 : Hid (zs ++ [shN s h (glNote v k)] = (v.take (k + 1)).map (shN s h)) := Lib.hid (by rw [take_map_succ hlt, HZ.out])
          have HL9 : Hid ((zs ++ [shN s h (glNote v k)]).length = zs.length + 1) := Lib.hid (by simp)
          have HOB := Lib.hid (own_ob HO.out)
          have B9 := Lib.hid (G9.out.below (B := w.heap.size + 1) (by omega) (fun q e => (HOB.out q e).1))
          go_roundw
          case rel => exact ⟨k + 1, some ⟨g2, 0, none⟩, cap2, zs ++ [shN s h (glNote v k)], by omega, by go_num, by rw [HL9.out], HX9.out, HA2.out, by rw [HL9.out]; exact O9.out, HK.out.below B9.out (by omega), HB.out.trans (B9.out.mono (by omega)), by omega⟩
          case measure => simp [intOf]; omega
    · obtain rfl : k = v.length := by omega
      clear hr_
      have HF : Hid (shB s h v = true) := Lib.hid (shB_iff.2 ⟨HV.out, HV2.out, HA.out⟩)
      have HX : Hid (zs = shL s h v) := Lib.hid (by rw [shL_yes HF.out, HZ.out, List.take_length])
      have hi1 : ¬ (v.length : Int) < (v.length : Int) := by omega
      go_wp2_with fail
      go_ret2
      unfold RetNV; rw [← HX.out, HF.out]
      exact ⟨A2, c2, rfl, own_mono HO.out (by omega), HB.out⟩
set_option maxHeartbeats 8000000 in
theorem spec_ShiftVoice (A : Option Addr) (c : Nat) (v : List Nt) (s h : Int) (w : World) (hr : RdNote w w.heap.size A v) (hl : v.length ≤ 1048576) :
    Calls Try.prog 28 #[.slice A v.length c, .agg #[.int .i64 s, .int .i64 h]] w (RetNV w (shL s h v, shB s h v)) := by
  obtain ⟨i0, hi, hz0, hz1, hz2⟩ := info_parts infoNote
  have HI := Lib.hid hi; have H0 := Lib.hid hz0; have H1 := Lib.hid hz1; have H2 := Lib.hid hz2; clear hi hz0 hz1 hz2
  have HR := Lib.hid hr; clear hr
  have HK := Lib.hid (Blk.new w 30 #[.int .i64 s, .int .i64 h])
  have HB := Lib.hid ((Below.refl w.heap.size w).alloc (Nat.le_refl _) (.cells #[.int .i64 s, .int .i64 h] 30))
  have z0 : w.heap.size + 1 ≤ (w.alloc (.cells #[.int .i64 s, .int .i64 h] 30)).heap.size := by simp
  go_enter Try.func28, Try.ntmps28
  go_upto_region 1 with fail
  generalize w.alloc (.cells #[.int .i64 s, .int .i64 h] 30) = w0 at *
  go_upto_region 2 with fail
  have HE := Lib.hid (own_empty (size := 6) (e := 68) (base := w.heap.size + 1) ((Below.refl w0.heap.size w0).mono z0) z0)
  replace HK := Lib.hid (HK.out.alloc (.cells #[] 68))
  replace HB := Lib.hid (HB.out.alloc (by omega) (.cells #[] 68))
  have ze : w.heap.size + 2 ≤ (w0.alloc (.cells #[] 68)).heap.size := by simp; omega
  have zf : w0.heap.size < (w0.alloc (.cells #[] 68)).heap.size := by simp
  generalize w0.alloc (.cells #[] 68) = we at *
  go_wp2_with fail
  refine (spec_VoiceValid _ _ _ _ (RdNote.more (RdNote.below HR.out HB.out (Nat.le_refl _)) HB.out.size) hl).mono ?_
  cases hv : vvB v
  · have HF : Hid (shB s h v = false) := Lib.hid (shB_no1 hv); clear hv
    rintro e w1 ⟨rfl, b1⟩
    have z1 := b1.size
    replace HE := Lib.hid (own_bel HE.out.1 b1); replace HB := Lib.hid (HB.out.trans (b1.mono (by omega))); clear b1
    go_wp2_with fail
    go_ret2
    unfold RetNV; rw [shL_no HF.out, HF.out]
    exact ⟨_, 0, rfl, own_mono HE.out (by omega), HB.out⟩
  have HV := Lib.hid hv; clear hv
  rintro e w1 ⟨rfl, b1⟩
  have z1 := b1.size
  replace HE := Lib.hid (own_bel HE.out.1 b1); replace HB := Lib.hid (HB.out.trans (b1.mono (by omega))); replace HK := Lib.hid (HK.out.below b1 (by omega)); clear b1
  have k0 := HK.out.cell 0; have k1 := HK.out.cell 1
  go_wp2_with fail
  refine (spec_IntervalValid s h _).mono ?_
  cases hv : ivB s h
  · have HF : Hid (shB s h v = false) := Lib.hid (shB_no2 hv); clear hv
    rintro e w2 ⟨rfl, b2⟩
    have z2 := b2.size
    replace HE := Lib.hid (own_bel HE.out b2); replace HB := Lib.hid (HB.out.trans (b2.mono (by omega))); clear b2 k0 k1
    go_wp2_with fail
    go_ret2
    unfold RetNV; rw [shL_no HF.out, HF.out]
    exact ⟨_, 0, rfl, own_mono HE.out (by omega), HB.out⟩
  have HV2 := Lib.hid hv; clear hv
  rintro e w2 ⟨rfl, b2⟩
  have z2 := b2.size
  replace HE := Lib.hid (own_bel HE.out b2); replace HB := Lib.hid (HB.out.trans (b2.mono (by omega))); replace HK := Lib.hid (HK.out.below b2 (by omega)); clear b2 k0 k1
  have hw2 : w.heap.size + 1 ≤ w2.heap.size := by omega
  have HLN : Hid (v.length ≤ 60) := Lib.hid (vvB_iff.1 HV.out).1
  go_wp2_with fail
  go_loopw [6, 7] (fun q i wr => ∃ (k : Nat) (A2 : Option Addr) (c2 : Nat) (zs : List Nt), k ≤ v.length ∧ i = .int .i64 k ∧ q = .slice A2 zs.length c2 ∧ zs = (v.take k).map (shN s h) ∧ (∀ j, j < k → soB s h (glNote v j) = true) ∧ wr.ownsRow (w.heap.size + 1) 68 6 (.slice A2 zs.length c2) zs.length (fl encNote zs) ∧ Blk wr w.heap.size 30 #[.int .i64 s, .int .i64 h] ∧ Below w.heap.size w wr ∧ w2.heap.size ≤ wr.heap.size) (fun _ i _ => v.length - (intOf i).toNat)
  case atStart => exact ⟨0, _, _, [], Nat.zero_le _, rfl, rfl, rfl, fun j h => by omega, HE.out, HK.out, HB.out, Nat.le_refl _⟩
  case round =>
    clear HK HB
    clear HE
    obtain ⟨k, A2, c2, zs, hk, rfl, rfl, hz_, hall, ho_, hk_, hb_, hsz⟩ := hrel
    have HZL : Hid (zs.length = k) := Lib.hid (by rw [hz_]; simp; omega)
    have HZ := Lib.hid hz_; have HA := Lib.hid hall; have HO := Lib.hid ho_; have HK := Lib.hid hk_; have HB := Lib.hid hb_
    clear hz_ hall ho_ hk_ hb_
    have hr_ := RdNote.below HR.out HB.out (Nat.le_refl _)
    by_cases hlt : k < v.length
    · obtain ⟨b8, off, rfl, hbB, hc0, hc1, hc2, hc3, hc4, hc5⟩ := hr_.at_ (k := k) hlt
      clear hr_
      have hi1 : (k : Int) < (v.length : Int) := by omega
      have hin : (k : Int).toNat = k := by omega
      have HA2 : Hid (soB s h (glNote v k) = true → ∀ j, j < k + 1 → soB s h (glNote v j) = true) := Lib.hid (fun h9 j hj => by
        rcases Nat.lt_or_ge j k with h | h
        · exact HA.out j h
        · obtain rfl : j = k := by omega
          exact h9)
      have HBAD : Hid (soB s h (glNote v k) = false → shB s h v = false) := Lib.hid (fun h9 => shB_no3 hlt h9)
      have HSO : Hid (soB s h (glNote v k) = ((glNote v k).1 || (aiL (glNote v k).2.1 (glNote v k).2.2.1 (glNote v k).2.2.2.1 s h).2)) := Lib.hid rfl
      have HSH : Hid (shN s h (glNote v k) = if (glNote v k).1 = true then glNote v k else ((glNote v k).1, (aiL (glNote v k).2.1 (glNote v k).2.2.1 (glNote v k).2.2.2.1 s h).1.1, (aiL (glNote v k).2.1 (glNote v k).2.2.1 (glNote v k).2.2.2.1 s h).1.2.1, (aiL (glNote v k).2.1 (glNote v k).2.2.1 (glNote v k).2.2.2.1 s h).1.2.2, (glNote v k).2.2.2.2.1, (glNote v k).2.2.2.2.2)) := Lib.hid rfl
      rcases hgn : glNote v k with ⟨r, a, b1, c1, t, d⟩
      rw [hgn] at hc0 hc1 hc2 hc3 hc4 hc5
      have HGN := Lib.hid hgn; clear hgn
      dsimp only at hc0 hc1 hc2 hc3 hc4 hc5
      go_upto_region 8 with fail
      clear hc0 hc1 hc2 hc3 hc4 hc5
      have HN := Lib.hid (Blk.new wr 68 #[.bool r, .int .i64 a, .int .i64 b1, .int .i64 c1, .int .i64 t, .bool d])
      have HOB0 := Lib.hid (own_ob HO.out)
      replace HO := Lib.hid (HO.out.alloc (.cells #[.bool r, .int .i64 a, .int .i64 b1, .int .i64 c1, .int .i64 t, .bool d] 68))
      replace HK := Lib.hid (HK.out.alloc (.cells #[.bool r, .int .i64 a, .int .i64 b1, .int .i64 c1, .int .i64 t, .bool d] 68))
      replace HB := Lib.hid (HB.out.alloc (by omega) (.cells #[.bool r, .int .i64 a, .int .i64 b1, .int .i64 c1, .int .i64 t, .bool d] 68))
      have z3 : wr.heap.size + 1 ≤ (wr.alloc (.cells #[.bool r, .int .i64 a, .int .i64 b1, .int .i64 c1, .int .i64 t, .bool d] 68)).heap.size := by simp
      have HNB : Hid (∀ q, obA A2 = some q → q < wr.heap.size) := Lib.hid (fun q e => (HOB0.out q e).2)
      generalize wr.alloc (.cells #[.bool r, .int .i64 a, .int .i64 b1, .int .i64 c1, .int .i64 t, .bool d] 68) = w3 at *
      have n0 := HN.out.cell 0; have n1 := HN.out.cell 1; have n2 := HN.out.cell 2; have n3 := HN.out.cell 3; have n4 := HN.out.cell 4; have n5 := HN.out.cell 5
      have k0 := HK.out.cell 0; have k1 := HK.out.cell 1
      cases r
      case true =>
        have HS9 : Hid (soB s h (glNote v k) = true) := Lib.hid (by rw [HSO.out, HGN.out]; rfl)
        have HSN : Hid ([Value.bool true, .int .i64 a, .int .i64 b1, .int .i64 c1, .int .i64 t, .bool d] = encNote (shN s h (glNote v k))) := Lib.hid (by rw [HSH.out, HGN.out]; rfl)
        replace HA2 := Lib.hid (HA2.out HS9.out)
        go_wp2_with (at_builtin; refine app_rec (enc := encNote) rfl _ _ 56 rfl (w.heap.size + 1) 68 i0 (.agg #[Value.bool false, Value.int .i64 0, Value.int .i64 0, Value.int .i64 0, Value.int .i64 0, Value.bool false]) 48 Try.underlying56 HI.out H0.out H1.out H2.out rfl (by decide) (by decide) w3 A2 c2 zs HO.out (by omega) (by have := HZL.out; omega) rfl (shN s h (glNote v k)) [.bool true, .int .i64 a, .int .i64 b1, .int .i64 c1, .int .i64 t, .bool d] HSN.out rfl (note_one _ _ _ _ _ _) w3.heap.size rfl rfl ?_; intro g2 cap2 w9 o9 gr9; have O9 := Lib.hid o9; have G9 := Lib.hid gr9; clear o9 gr9)
        have z9 := G9.out.1.size
        have HX9 : Hid (zs ++ [shN s h (glNote v k)] = (v.take (k + 1)).map (shN s h)) := Lib.hid (by rw [take_map_succ hlt, HZ.out])
        have HL9 : Hid ((zs ++ [shN s h (glNote v k)]).length = zs.length + 1) := Lib.hid (by simp)
        have HOB := Lib.hid (own_ob HO.out)
        have B9 := Lib.hid (G9.out.below (B := w.heap.size + 1) (by omega) (fun q e => (HOB.out q e).1))
        go_roundw
        case rel => exact ⟨k + 1, some ⟨g2, 0, none⟩, cap2, zs ++ [shN s h (glNote v k)], by omega, by go_num, by rw [HL9.out], HX9.out, HA2.out, by rw [HL9.out]; exact O9.out, HK.out.below B9.out (by omega), HB.out.trans (B9.out.mono (by omega)), by omega⟩
        case measure => simp [intOf]; omega
      case false =>
        rcases hai : aiL a b1 c1 s h with ⟨⟨x1, x2, x3⟩, ok⟩
        have HAI := Lib.hid hai; clear hai
        go_upto_region 10 with (go_at_call 26; refine (spec_AddInterval a b1 c1 s h _).mono ?_; rw [HAI.out]; rintro e w4 ⟨rfl, b4⟩; have z4 := b4.size; replace HN := Lib.hid (HN.out.below b4 (by omega)); replace HO := Lib.hid (own_bel HO.out b4); replace HK := Lib.hid (HK.out.below b4 (by omega)); replace HB := Lib.hid (HB.out.trans (b4.mono (by omega))); clear b4 n0 n1 n2 n3 n4 n5 k0 k1)
        have HT := Lib.hid (Blk.new w4 50 #[.int .i64 x1, .int .i64 x2, .int .i64 x3])
        replace HN := Lib.hid (HN.out.alloc (.cells #[.int .i64 x1, .int .i64 x2, .int .i64 x3] 50))
        replace HO := Lib.hid (HO.out.alloc (.cells #[.int .i64 x1, .int .i64 x2, .int .i64 x3] 50))
        replace HK := Lib.hid (HK.out.alloc (.cells #[.int .i64 x1, .int .i64 x2, .int .i64 x3] 50))
        replace HB := Lib.hid (HB.out.alloc (by omega) (.cells #[.int .i64 x1, .int .i64 x2, .int .i64 x3] 50))
        have z5 : w4.heap.size + 1 ≤ (w4.alloc (.cells #[.int .i64 x1, .int .i64 x2, .int .i64 x3] 50)).heap.size := by simp
        generalize w4.alloc (.cells #[.int .i64 x1, .int .i64 x2, .int .i64 x3] 50) = w5 at *
        cases ok
        case false =>
          have HF : Hid (shB s h v = false) := Lib.hid (HBAD.out (by rw [HSO.out, HGN.out]; show (false || (aiL a b1 c1 s h).2) = false; rw [HAI.out]; rfl))
          go_wp2_with fail
          go_ret2
          unfold RetNV; rw [shL_no HF.out, HF.out]
          exact ⟨_, 0, rfl, (own_empty (size := 6) (e := 68) (base := w.heap.size) ((Below.refl w5.heap.size w5).mono (by omega)) (by omega)).1, HB.out.alloc (by omega) _⟩
        case true =>
          have HS9 : Hid (soB s h (glNote v k) = true) := Lib.hid (by rw [HSO.out, HGN.out]; show (false || (aiL a b1 c1 s h).2) = true; rw [HAI.out]; rfl)
          have HSN : Hid ([Value.bool false, .int .i64 x1, .int .i64 x2, .int .i64 x3, .int .i64 t, .bool d] = encNote (shN s h (glNote v k))) := Lib.hid (by
            rw [HSH.out, HGN.out, if_neg (by simp)]
            show _ = encNote (false, (aiL a b1 c1 s h).1.1, (aiL a b1 c1 s h).1.2.1, (aiL a b1 c1 s h).1.2.2, t, d)
            rw [HAI.out]; rfl)
          replace HA2 := Lib.hid (HA2.out HS9.out)
          have t0 := HT.out.cell 0; have t1 := HT.out.cell 1; have t2 := HT.out.cell 2
          have n1 := HN.out.cell 1; have n2 := HN.out.cell 2; have n3 := HN.out.cell 3
          have f1 := HN.out.frozen 1; have f2 := HN.out.frozen 2; have f3 := HN.out.frozen 3
          go_upto_region 13 with fail
          replace HN := Lib.hid (((HN.out.set_ 1 (.int .i64 x1)).set_ 2 (.int .i64 x2)).set_ 3 (.int .i64 x3))
          have HNN : obA A2 ≠ some wr.heap.size := fun e => by have := HNB.out _ e; omega
          replace HO := Lib.hid (own_far (own_far (own_far HO.out (p := ⟨wr.heap.size, 1, none⟩) HNN (.int .i64 x1)) (p := ⟨wr.heap.size, 2, none⟩) HNN (.int .i64 x2)) (p := ⟨wr.heap.size, 3, none⟩) HNN (.int .i64 x3))
          replace HK := Lib.hid (((HK.out.far (p := ⟨wr.heap.size, 1, none⟩) (by simp; omega) (.int .i64 x1)).far (p := ⟨wr.heap.size, 2, none⟩) (by simp; omega) (.int .i64 x2)).far (p := ⟨wr.heap.size, 3, none⟩) (by simp; omega) (.int .i64 x3))
          have HS5 := Lib.hid ((((Below.refl wr.heap.size w5).setCell (p := ⟨wr.heap.size, 1, none⟩) (Nat.le_refl _) (.int .i64 x1)).setCell (p := ⟨wr.heap.size, 2, none⟩) (Nat.le_refl _) (.int .i64 x2)).setCell (p := ⟨wr.heap.size, 3, none⟩) (Nat.le_refl _) (.int .i64 x3))
          have zs5 := HS5.out.size
          replace HB := Lib.hid (HB.out.trans (HS5.out.mono (by omega)))
          clear t0 t1 t2 n1 n2 n3 f1 f2 f3 HNN
          generalize ((w5.setCell ⟨wr.heap.size, 1, none⟩ (.int .i64 x1)).setCell ⟨wr.heap.size, 1 + 1, none⟩ (.int .i64 x2)).setCell ⟨wr.heap.size, 1 + 2, none⟩ (.int .i64 x3) = w6 at *
          have n0 : w6.cell? ⟨wr.heap.size, 0, none⟩ = some (.bool false) := HN.out.cell 0
          have n1 : w6.cell? ⟨wr.heap.size, 1, none⟩ = some (.int .i64 x1) := HN.out.cell 1
          have n2 : w6.cell? ⟨wr.heap.size, 2, none⟩ = some (.int .i64 x2) := HN.out.cell 2
          have n3 : w6.cell? ⟨wr.heap.size, 3, none⟩ = some (.int .i64 x3) := HN.out.cell 3
          have n4 : w6.cell? ⟨wr.heap.size, 4, none⟩ = some (.int .i64 t) := HN.out.cell 4
          have n5 : w6.cell? ⟨wr.heap.size, 5, none⟩ = some (.bool d) := HN.out.cell 5
          go_wp2_with (at_builtin; refine app_rec (enc := encNote) rfl _ _ 56 rfl (w.heap.size + 1) 68 i0 (.agg #[Value.bool false, Value.int .i64 0, Value.int .i64 0, Value.int .i64 0, Value.int .i64 0, Value.bool false]) 48 Try.underlying56 HI.out H0.out H1.out H2.out rfl (by decide) (by decide) w6 A2 c2 zs HO.out (by omega) (by have := HZL.out; omega) rfl (shN s h (glNote v k)) [.bool false, .int .i64 x1, .int .i64 x2, .int .i64 x3, .int .i64 t, .bool d] HSN.out rfl (note_one _ _ _ _ _ _) w6.heap.size rfl rfl ?_; intro g2 cap2 w9 o9 gr9; have O9 := Lib.hid o9; have G9 := Lib.hid gr9; clear o9 gr9)
          have z9 := G9.out.1.size
          have HX9 : Hid (zs ++ [shN s h (glNote v k)] = (v.take (k + 1)).map (shN s h)) := Lib.hid (by rw [take_map_succ hlt, HZ.out])
          have HL9 : Hid ((zs ++ [shN s h (glNote v k)]).length = zs.length + 1) := Lib.hid (by simp)
          have HOB := Lib.hid (own_ob HO.out)
          have B9 := Lib.hid (G9.out.below (B := w.heap.size + 1) (by omega) (fun q e => (HOB.out q e).1))
          go_roundw
          case rel => exact ⟨k + 1, some ⟨g2, 0, none⟩, cap2, zs ++ [shN s h (glNote v k)], by omega, by go_num, by rw [HL9.out], HX9.out, HA2.out, by rw [HL9.out]; exact O9.out, HK.out.below B9.out (by omega), HB.out.trans (B9.out.mono (by omega)), by omega⟩
          case measure => simp [intOf]; omega
    · obtain rfl : k = v.length := by omega
      clear hr_
      have HF : Hid (shB s h v = true) := Lib.hid (shB_iff.2 ⟨HV.out, HV2.out, HA.out⟩)
      have HX : Hid (zs = shL s h v) := Lib.hid (by rw [shL_yes HF.out, HZ.out, List.take_length])
      have hi1 : ¬ (v.length : Int) < (v.length : Int) := by omega
      go_wp2_with fail
      go_ret2
      unfold RetNV; rw [← HX.out, HF.out]
      exact ⟨A2, c2, rfl, own_mono HO.out (by omega), HB.out⟩
end Go.Proofs.Ytnkoijkelcjloaa
