/- Contracts of PlainVoice, of the program and of the reference. Condition: at most 2^20 notes. -/
import Derived.Test.YtgnbnedjocolcaaWrt
import Derived.Test.YtgnbnedjocolcaaTks
namespace Go.Proofs.Ytgnbnedjocolcaa
open Go.RowKit
set_option linter.unusedSimpArgs false
set_option linter.unusedVariables false
set_option maxRecDepth 100000
def RetNB (w : World) (q : List Nt × Bool) (e : Ending) (w' : World) : Prop := ∃ A c, e = .returned (.tuple #[.slice A q.1.length c, .bool q.2]) ∧ w'.ownsRow w.heap.size 63 6 (.slice A q.1.length c) q.1.length (fl encNote q.1) ∧ Below w.heap.size w w'
theorem pkB_ok {a b c : Int} (h : pvB a b c = true) : pkB a b c = pkL (a, b, c) := if_pos h
set_option maxHeartbeats 8000000 in
theorem impl_PlainVoice (A : Option Addr) (c : Nat) (v : List Nt) (w : World) (hr : RdNote w w.heap.size A v) (hl : v.length ≤ 1048576) :
    Calls Try.prog 16 #[.slice A v.length c] w (RetNB w (plainL v)) := by
  have HR := Lib.hid hr; clear hr
  cases hv : vvB v
  · have HF := Lib.hid (plain_no (.inl hv)); have HV := Lib.hid hv; clear hv
    go_enter Try.func16, Try.ntmps16
    go_wp2_with fail
    refine (impl_VoiceValid _ _ _ _ HR.out hl).mono ?_
    rw [HV.out]
    rintro e w1 ⟨rfl, b1⟩
    have HB := Lib.hid b1; clear b1
    go_wp2_with fail
    go_ret2
    unfold RetNB; rw [HF.out]
    exact ⟨none, 0, rfl, World.ownsRow_nil _ _ _ _, HB.out⟩
  have hlen := vv_len hv
  have HV := Lib.hid hv; clear hv
  go_enter Try.func16, Try.ntmps16
  go_wp2_with fail
  refine (impl_VoiceValid _ _ _ _ HR.out hl).mono ?_
  rw [HV.out]
  rintro e w1 ⟨rfl, b1⟩
  have z1 := b1.size
  have HB1 := Lib.hid b1; clear b1
  go_wp2_with fail
  go_loopw [5, 6, 16] (fun tq fq i wr => ∃ k : Nat, k ≤ v.length ∧ i = .int .i64 k ∧ tq = .int .i64 (sT v k).2.2.1 ∧ fq = .int .i64 (sT v k).2.1 ∧ Wtr wr w1.heap.size (kT v k).1 (kT v k).2 ∧ ksT v k ∧ Below w.heap.size w wr) (fun _ _ i _ => v.length - (intOf i).toNat)
  case atStart => exact ⟨0, Nat.zero_le _, rfl, by rw [sT_zero], by rw [sT_zero], by rw [kT_zero]; exact ⟨none, 0, Blk.new _ _ _, World.ownsRow_nil _ _ _ _⟩, fun j h => by omega, HB1.out.alloc z1 _⟩
  case round =>
    obtain ⟨k, hk, rfl, rfl, rfl, hW, hks, hbel⟩ := hrel
    have hsz := hbel.size
    have HW := Lib.hid hW; have HK := Lib.hid hks; have HB := Lib.hid hbel
    have hgl : w1.heap.size < wr.heap.size := by obtain ⟨_, _, h1, _⟩ := hW; exact h1.lt
    clear hW hks
    by_cases hlt : k < v.length
    · have hr' := HR.out.below hbel (Nat.le_refl _)
      obtain ⟨b, off, rfl, hbB, hc0, hc1, hc2, hc3, hc4, hc5⟩ := hr'.at_ (k := k) hlt
      have hi1 : (k : Int) < (v.length : Int) := by omega
      have hin : (k : Int).toNat = k := by omega
      have hd := vv_tick HV.out hlt
      have ht := sT_bd HV.out k hk
      have hf := sT_from HV.out k hk
      have hkb := kT_bd HV.out hk
      have hf0 : 0 ≤ (sT v k).2.1 ∧ (sT v k).2.1 ≤ (sT v k).2.2.1 := ⟨hf.1, hf.2.1⟩
      have HTK := Lib.hid (sT_tick hlt); have HFR := Lib.hid (sT_fr hlt)
      have HNV := Lib.hid (vv_nv HV.out hlt)
      have HKS := Lib.hid (fun h1 => show (kT v (k + 1)).1 = (kT v k).1 ∧ (kT v (k + 1)).2 = (kT v k).2 by rw [kT_skip hlt h1]; exact ⟨rfl, rfl⟩)
      have HKQ := Lib.hid (fun h1 h2 => show kT v (k + 1) = qStep ((kT v k).1, (kT v k).2) (pkL ((glNote v k).2.1, (glNote v k).2.2.1, (glNote v k).2.2.2.1), fT v k, (sT v k).2.2.1 + (glNote v k).2.2.2.2.1) from kT_sound hlt h1 h2)
      have HPV := Lib.hid (fun h1 => pkB_ok (nv_pv HNV.out h1))
      have HNO := Lib.hid (fun h1 h2 => plain_no (.inr (ks_no hlt h1 h2)))
      have HBA := Lib.hid (HB.out.alloc hsz (.cells #[.bool (glNote v k).1, .int .i64 (glNote v k).2.1, .int .i64 (glNote v k).2.2.1, .int .i64 (glNote v k).2.2.2.1, .int .i64 (glNote v k).2.2.2.2.1, .bool (glNote v k).2.2.2.2.2] 63))
      have hblk := Blk.new wr 63 #[.bool (glNote v k).1, .int .i64 (glNote v k).2.1, .int .i64 (glNote v k).2.2.1, .int .i64 (glNote v k).2.2.2.1, .int .i64 (glNote v k).2.2.2.2.1, .bool (glNote v k).2.2.2.2.2]
      have HWA := Lib.hid (HW.out.al (.cells #[.bool (glNote v k).1, .int .i64 (glNote v k).2.1, .int .i64 (glNote v k).2.2.1, .int .i64 (glNote v k).2.2.2.1, .int .i64 (glNote v k).2.2.2.2.1, .bool (glNote v k).2.2.2.2.2] 63))
      have HBK := Lib.hid hblk
      have q0 := hblk.cell 0; have q1 := hblk.cell 1; have q2 := hblk.cell 2; have q3 := hblk.cell 3; have q4 := hblk.cell 4; have q5 := hblk.cell 5
      have za : wr.heap.size + 1 ≤ (wr.alloc (.cells #[.bool (glNote v k).1, .int .i64 (glNote v k).2.1, .int .i64 (glNote v k).2.2.1, .int .i64 (glNote v k).2.2.2.1, .int .i64 (glNote v k).2.2.2.2.1, .bool (glNote v k).2.2.2.2.2] 63)).heap.size := by simp
      have v1 : IntKind.i64.wrap ((sT v k).2.2.1 + (glNote v k).2.2.2.2.1) = (sT v k).2.2.1 + (glNote v k).2.2.2.2.1 := IntWalk.i64_in _ (by omega)
      have hp : 0 < k → ∃ b3 o3, Hid (b3 = b ∧ o3 = off) ∧ (wr.alloc (.cells #[.bool (glNote v k).1, .int .i64 (glNote v k).2.1, .int .i64 (glNote v k).2.2.1, .int .i64 (glNote v k).2.2.2.1, .int .i64 (glNote v k).2.2.2.2.1, .bool (glNote v k).2.2.2.2.2] 63)).cell? ⟨b, off + (k - 1) * 6 + 5, none⟩ = some (.bool (sT v k).2.2.2) := fun hk0 => by
        obtain ⟨b2, off2, e2, -, -, -, -, -, -, p5⟩ := hr'.at_ (k := k - 1) (by omega)
        injection e2 with e2; injection e2 with e3 e4; subst e3; subst e4
        refine ⟨b, off, Lib.hid ⟨rfl, rfl⟩, ?_⟩
        rw [World.cell?_alloc_lt _ _ _ (show b < wr.heap.size by omega), p5, ← sT_tied (k := k - 1) (by omega), show k - 1 + 1 = k by omega]
      have HK1 : Hid ((glNote v k).1 = true ∨ inR (pkL ((glNote v k).2.1, (glNote v k).2.2.1, (glNote v k).2.2.2.1)) 0 107 = true → ksT v (k + 1)) := Lib.hid (fun h j hj => by
        rcases Nat.lt_or_ge j k with h2 | h2
        · exact HK.out j h2
        · obtain rfl : j = k := by omega
          exact h)
      have HT0 : Hid (k = 0 → (sT v k).2.2.2 = false) := Lib.hid (fun h => by rw [h, sT_zero])
      have HFT := Lib.hid (show fT v k = if (sT v k).2.2.2 = true then (sT v k).2.1 else (sT v k).2.2.1 from rfl)
      clear hblk hr' hbel hf
      generalize (sT v k).2.2.1 = tk at *
      generalize (sT v k).2.1 = fr at *
      generalize (sT v k).2.2.2 = td at *
      generalize (kT v k).2 = ek at *
      generalize (glNote v k).1 = r at *
      generalize (glNote v k).2.1 = a at *
      generalize (glNote v k).2.2.1 = b1 at *
      generalize (glNote v k).2.2.2.1 = o1 at *
      generalize (glNote v k).2.2.2.2.1 = dt at *
      generalize (glNote v k).2.2.2.2.2 = d at *
      generalize hwa : (wr.alloc (.cells #[.bool r, .int .i64 a, .int .i64 b1, .int .i64 o1, .int .i64 dt, .bool d] 63)) = wa at *
      have hX : ∃ X : Int, 0 ≤ X ∧ X ≤ tk ∧ Hid (fT v k = X) ∧ (td = true → X = fr) ∧ (td = false → X = tk) := by
        refine ⟨fT v k, ?_, ?_, Lib.hid rfl, fun h => by rw [HFT.out, if_pos h], fun h => by rw [HFT.out, if_neg (by rw [h]; decide)]⟩ <;> (rw [HFT.out]; split <;> omega)
      obtain ⟨X, hx0, hx1, HX, hxt, hxf⟩ := hX
      clear HFT
      rcases Nat.eq_zero_or_pos k with hk0 | hk0
      case' inl =>
        have htd := HT0.out hk0
        rw [hxf htd] at HX
        have ha1 : ((k : Int) == 0) = true := beq_iff_eq.2 (by omega)
        clear hp hk0
      case' inr =>
        obtain ⟨-, -, -, p5⟩ := hp hk0
        have ha0 : ((k : Int) == 0) = false := beq_eq_false_iff_ne.2 (by omega)
        have ha1 : ((k : Int) - 1).toNat = k - 1 := by omega
        have ha2 : (k : Int) - 1 < (v.length : Int) := by omega
        have ha3 : 0 ≤ (k : Int) - 1 := by omega
        have ha4 : IntKind.i64.wrap ((k : Int) - 1) = (k : Int) - 1 := IntWalk.i64_in _ (by omega)
        clear hp hk0
        cases td
        case' false =>
          rw [hxf rfl] at HX
        case' true =>
          rw [hxt rfl] at HX
      all_goals
        clear hxt hxf
        cases r
        case' true =>
          have HKK := Lib.hid (HKS.out (.inl rfl))
          have HKN := Lib.hid (HK1.out (.inl rfl))
          go_wp2_with fail
          go_roundw
          case' rel => exact ⟨k + 1, by omega, by go_num, by rw [HTK.out], by rw [HFR.out, HX.out], by rw [HKK.out.1, HKK.out.2]; exact HWA.out, HKN.out, HBA.out⟩
          case' measure => simp [intOf]; omega
        case' false =>
          have zb : wr.heap.size < wa.heap.size := by omega
          have HPK := Lib.hid (HPV.out rfl)
          cases hin2 : inR (pkL (a, b1, o1)) 0 107
          · have HF := Lib.hid (HNO.out rfl hin2)
            have HN := Lib.hid hin2
            clear hin2
            go_wp2_with fail
            refine (impl_PitchKey a b1 o1 _).mono ?_
            rw [HPK.out]
            rintro e w2 ⟨rfl, b2⟩
            have HB2 := Lib.hid (HBA.out.trans (b2.mono (by omega)))
            clear b2
            go_wp2_with (go_at_call 28; refine (impl_within _ _ _ _).mono ?_; rw [HN.out]; rintro e w' ⟨rfl, rfl⟩)
            go_ret2
            unfold RetNB; rw [HF.out]
            exact ⟨none, 0, rfl, World.ownsRow_nil _ _ _ _, HB2.out⟩
          · have HN := Lib.hid hin2
            have hky := inR_iff.1 hin2
            have HKN1 := HK1.out (.inr hin2)
            have HKN := Lib.hid HKN1
            clear hin2 HKN1
            go_wp2_with fail
            refine (impl_PitchKey a b1 o1 _).mono ?_
            rw [HPK.out]
            rintro e w2 ⟨rfl, b2⟩
            have z2 := b2.size
            have HB2 := Lib.hid (HBA.out.trans (b2.mono (by omega)))
            have HW2 := Lib.hid (HWA.out.below b2)
            have s1 := (b2.cell (p := ⟨wr.heap.size, 1, none⟩) zb).trans q1
            have s2 := (b2.cell (p := ⟨wr.heap.size, 2, none⟩) zb).trans q2
            have s3 := (b2.cell (p := ⟨wr.heap.size, 3, none⟩) zb).trans q3
            have s5 := (b2.cell (p := ⟨wr.heap.size, 5, none⟩) zb).trans q5
            clear b2
            cases d
            case' true =>
              have HKK := Lib.hid (HKS.out (.inr rfl))
              go_wp2_with (go_at_call 28; refine (impl_within _ _ _ _).mono ?_; rw [HN.out]; rintro e w' ⟨rfl, rfl⟩)
              go_roundw
              case' rel => exact ⟨k + 1, by omega, by go_num, by rw [HTK.out], by rw [HFR.out, HX.out], by rw [HKK.out.1, HKK.out.2]; exact HW2.out, HKN.out, HB2.out⟩
              case' measure => simp [intOf]; omega
            case' false =>
              have HKK : Hid (kT v (k + 1) = qStep ((kT v k).1, ek) (pkL (a, b1, o1), fT v k, tk + dt)) := Lib.hid (by first | exact HKQ.out rfl rfl | exact HKQ.out trivial rfl | exact HKQ.out trivial trivial | simpa using HKQ.out)
              go_wp2_with (go_at_call 28; refine (impl_within _ _ _ _).mono ?_; rw [HN.out]; rintro e w' ⟨rfl, rfl⟩)
              refine (impl_PitchKey a b1 o1 _).mono ?_
              rw [HPK.out]
              rintro e w3 ⟨rfl, b3⟩
              have HB3 := Lib.hid (HB2.out.trans (b3.mono (by omega)))
              have HW3 := Lib.hid (HW2.out.below b3)
              have z3 := b3.size
              clear b3
              go_wp2_with fail
              refine (impl_sound _ _ _ _ _ _ _ HW3.out hky (by omega) (by omega) (by omega) hkb.2.2).mono ?_
              rintro e w4 ⟨rfl, hw4, b4, -⟩
              have HW4 := Lib.hid hw4
              have HB4 := Lib.hid (HB3.out.trans (b4.mono z1))
              clear hw4 b4
              go_wp2_with fail
              go_roundw
              case' rel => exact ⟨k + 1, by omega, by go_num, by rw [HTK.out], by rw [HFR.out, HX.out], by rw [HKK.out, HX.out]; exact HW4.out, HKN.out, HB4.out⟩
              case' measure => simp [intOf]; omega
    · obtain rfl : k = v.length := by omega
      have HKB := Lib.hid (ks_all HK.out)
      have HF : Hid (plainL v = ((qL (keysL v)).1, true)) := Lib.hid (plain_yes HV.out HKB.out)
      have HL := Lib.hid (plain_le HV.out)
      clear hbel
      go_wp2_with fail
      refine (impl_result _ _ _ _ HW.out).mono ?_
      rw [kT_all, if_pos HL.out, decide_eq_true HL.out]
      rintro e w2 ⟨rfl, A9, c9, rfl, o9⟩
      have HO := Lib.hid o9; clear o9
      go_wp2_with fail
      go_ret2
      unfold RetNB; rw [HF.out]
      exact ⟨A9, c9, rfl, own_mono HO.out (by omega), HB.out⟩
end Go.Proofs.Ytgnbnedjocolcaa
