/- Contracts of ToneSamples, of the program and of the reference. Condition: numbers that fit int64. -/
import Derived.Test.YtijbciiocmdmmaaLvl
import Derived.Test.YtijbciiocmdmmaaMix
import Derived.Test.YtijbciiocmdmmaaReg
namespace Go.Proofs.Ytijbciiocmdmmaa
set_option linter.unusedVariables false
open Go.RowKit
theorem speedL_bd {n : Int} (h : inR n 0 107 = true) : 0 ≤ speedL n ∧ speedL n ≤ 181139 := by
  have hb := inR_iff.1 h
  have H : ∀ m : Nat, m < 108 → 0 ≤ speedL (m : Int) ∧ speedL (m : Int) ≤ 181139 := by decide +kernel
  have := H n.toNat (by omega)
  rwa [Int.toNat_of_nonneg hb.1] at this
theorem waveL_bd (f p : Int) : -1000 ≤ waveL f p ∧ waveL f p ≤ 1000 := by
  unfold waveL
  split
  · have hb := inR_iff.1 ‹_›
    (repeat' split) <;> omega
  · omega
theorem levelL_bd {a d s r h t : Int} (hk : lvlOk a d s r h t) : 0 ≤ levelL a d s r h t ∧ levelL a d s r h t ≤ 1000 := by
  rw [levelL, if_pos hk, levelIn]
  obtain ⟨h1, h2, h3⟩ := hk
  obtain ⟨ha, hd, hr, hs⟩ := shapeL_iff.1 h1
  have hh := inR_iff.1 h2
  have ht := inR_iff.1 h3
  split
  · exact heldLv_bd ha.1 hs ht.1
  split
  · omega
  · have hv := heldLv_bd (d := d) ha.1 hs hh.1
    have hm := mul_le_cap (x := heldLv a d s h) (y := r - (t - h)) (X := 1000) (Y := r) hv (by omega)
    exact div_bd hm.1 (by omega) hm.2
/-- sample k -/
def toneAt (key f a d s r h : Int) (k : Nat) : Int := (waveL f (((k : Int) * speedL key) % 1000000 / 1000) * levelL a d s r h k * 30).tdiv 1000
def toneTo (key f a d s r h : Int) (n : Nat) : List Int := (List.range n).map (fun (k : Nat) => toneAt key f a d s r h k)
theorem toneTo_succ (key f a d s r h : Int) (n : Nat) : toneTo key f a d s r h (n + 1) = toneTo key f a d s r h n ++ [toneAt key f a d s r h n] := by simp [toneTo, List.range_succ]
theorem toneTo_len (key f a d s r h : Int) (n : Nat) : (toneTo key f a d s r h n).length = n := by simp [toneTo]
def toneOk (key f a d s r h m : Int) : Prop := inR key 0 107 = true ∧ inR f 0 2 = true ∧ shapeL a d s r = true ∧ inR h 0 200 = true ∧ inR m 0 200 = true
instance (key f a d s r h m : Int) : Decidable (toneOk key f a d s r h m) := by unfold toneOk; infer_instance
def toneL (key f a d s r h m : Int) : List Int := if toneOk key f a d s r h m then toneTo key f a d s r h m.toNat else []
theorem toneL_len (key f a d s r h m : Int) : (toneL key f a d s r h m).length ≤ 200 := by
  unfold toneL; split
  · have := inR_iff.1 (‹toneOk key f a d s r h m›).2.2.2.2
    rw [toneTo_len]; omega
  · simp
theorem mul_abs {x y X Y : Int} (hx : -X ≤ x ∧ x ≤ X) (hy : 0 ≤ y ∧ y ≤ Y) (hX : 0 ≤ X) : -(X * Y) ≤ x * y ∧ x * y ≤ X * Y := by
  have h1 : x * y ≤ X * y := Int.mul_le_mul_of_nonneg_right hx.2 hy.1
  have h2 : -X * y ≤ x * y := Int.mul_le_mul_of_nonneg_right hx.1 hy.1
  have h3 : X * y ≤ X * Y := Int.mul_le_mul_of_nonneg_left hy.2 hX
  rw [Int.neg_mul] at h2
  omega
theorem lvlOk_mk {a d s r h : Int} {k n : Nat} (h3 : shapeL a d s r = true) (h4 : inR h 0 200 = true) (hk : k < n) (hn : n ≤ 200) : lvlOk a d s r h k := by
  have := inR_iff.1 h4
  exact ⟨h3, inR_t (by omega), inR_t (by omega)⟩
set_option maxHeartbeats 4000000 in
theorem spec_ToneSamples_yes (key f a d s r h : Int) (m : Nat) (w : World) (hk : toneOk key f a d s r h m) :
    Calls Try.prog 44 #[.int .i64 key, .int .i64 f, .agg #[.int .i64 a, .int .i64 d, .int .i64 s, .int .i64 r], .int .i64 h, .int .i64 m] w (RetRow w 3 1 m (iv (toneTo key f a d s r h m))) := by
  obtain ⟨i0, hi, hz0, hz1, hz2⟩ := info_parts infoInt
  have HI := Lib.hid hi; have H0 := Lib.hid hz0; have H1 := Lib.hid hz1; have H2 := Lib.hid hz2; clear hi hz0 hz1 hz2
  obtain ⟨h1, h2, h3, h4, h5⟩ := hk
  have g1 := inR_iff.1 h1
  have g4 := inR_iff.1 h4
  have g5 := inR_iff.1 h5
  have hsp := speedL_bd h1
  go_enter Try.func44, Try.ntmps44
  go_wp2_with (first | (go_at_call 19; refine (spec_ShapeValid _ _ _ _ _).mono ?_; rintro e w' ⟨rfl, rfl⟩) | (go_at_call 48; refine (spec_l1In _ _ _ _).mono ?_; rintro e w' ⟨rfl, rfl⟩))
  have H3 := Lib.hid h3; have H4 := Lib.hid h4; clear h1 h2 h3 h4 h5
  go_loopw [11, 12] (fun v i wr => ∃ k : Nat, k ≤ m ∧ i = .int .i64 k ∧ ∃ A c, v = .slice A k c ∧ wr.ownsRow (w.heap.size + 1) 3 1 (.slice A k c) k (iv (toneTo key f a d s r h k)) ∧ Blk wr w.heap.size 28 #[.int .i64 a, .int .i64 d, .int .i64 s, .int .i64 r] ∧ Below w.heap.size w wr ∧ w.heap.size + 1 ≤ wr.heap.size) (fun _ i _ => m - (intOf i).toNat)
  case atStart => exact ⟨0, Nat.zero_le _, rfl, _, _, rfl, ((Blk.newAt (g := w.heap.size + 1) (by simp)).own (size := 1) (n := 0) (Nat.le_refl _) (Nat.zero_le _) (by simp)).alloc _, ((Blk.newAt rfl).alloc _).alloc _, by (repeat (first | exact Below.refl _ _ | refine Below.alloc ?_ (by simp; try omega) _ | refine below_drewN ?_ _ | refine Below.drew ?_)), by simp⟩
  case round =>
    obtain ⟨k, hk, rfl, A, c, rfl, ho, hb0, hbel, hsz⟩ := hrel
    by_cases hlt : k < m
    · have hi1 : (k : Int) < (m : Int) := by omega
      have HK := Lib.hid (lvlOk_mk H3.out H4.out hlt (by omega))
      have lb := levelL_bd HK.out
      have wb := waveL_bd f (((k : Int) * speedL key) % 1000000 / 1000)
      have pb := mul_le_cap (x := (k : Int)) (y := speedL key) (X := 200) (Y := 181139) (by omega) hsp
      have ab := mul_abs (X := 1000) (Y := 1000) wb lb (by omega)
      have HO := Lib.hid ho; have HX0 := Lib.hid hb0; have HL := Lib.hid hbel; clear ho hb0 hbel
      go_wp2_with fail
      refine (spec_KeySpeed _ _).mono ?_; rintro e w1 ⟨rfl, b1⟩
      have s1 := b1.size
      have HO1 := Lib.hid ((Row.mk_ HO.out).below b1 (Nat.le_refl _)); have HX1 := Lib.hid (HX0.out.below b1 (by omega)); have HL1 := Lib.hid (HL.out.trans (b1.mono (by omega)))
      clear HO HX0 HL b1
      have c0 : w1.cell? ⟨w.heap.size, 0, none⟩ = some (.int .i64 a) := HX1.out.cell 0
      have c1 : w1.cell? ⟨w.heap.size, 1, none⟩ = some (.int .i64 d) := HX1.out.cell 1
      have c2 : w1.cell? ⟨w.heap.size, 2, none⟩ = some (.int .i64 s) := HX1.out.cell 2
      have c3 : w1.cell? ⟨w.heap.size, 3, none⟩ = some (.int .i64 r) := HX1.out.cell 3
      go_wp2_with fail
      have e1 : IntKind.i64.wrap (waveL f (((k : Int) * speedL key) % 1000000 / 1000) * levelL a d s r h k) = waveL f (((k : Int) * speedL key) % 1000000 / 1000) * levelL a d s r h k := IntWalk.i64_in _ (by omega)
      have e2 : IntKind.i64.wrap (waveL f (((k : Int) * speedL key) % 1000000 / 1000) * levelL a d s r h k * 30) = waveL f (((k : Int) * speedL key) % 1000000 / 1000) * levelL a d s r h k * 30 := IntWalk.i64_in _ (by omega)
      have e3 : IntKind.i64.wrap ((waveL f (((k : Int) * speedL key) % 1000000 / 1000) * levelL a d s r h k * 30).tdiv 1000) = (waveL f (((k : Int) * speedL key) % 1000000 / 1000) * levelL a d s r h k * 30).tdiv 1000 := IntWalk.i64_quo' _ _ (by omega)
      go_region_held3 (fun w' => w'.cell? ⟨w.heap.size, 0, none⟩ = some (.int .i64 a) ∧ w'.cell? ⟨w.heap.size, 1, none⟩ = some (.int .i64 d) ∧ w'.cell? ⟨w.heap.size, 2, none⟩ = some (.int .i64 s) ∧ w'.cell? ⟨w.heap.size, 3, none⟩ = some (.int .i64 r))
        (first | exact ⟨c0, c1, c2, c3⟩ | exact ⟨X2.out.cell 0, X2.out.cell 1, X2.out.cell 2, X2.out.cell 3⟩ | exact ⟨X3.out.cell 0, X3.out.cell 1, X3.out.cell 2, X3.out.cell 3⟩ | exact ⟨(X3.out.alloc _).cell 0, (X3.out.alloc _).cell 1, (X3.out.alloc _).cell 2, (X3.out.alloc _).cell 3⟩ | exact ⟨X4.out.cell 0, X4.out.cell 1, X4.out.cell 2, X4.out.cell 3⟩)
        (first
          | (go_at_call 25; refine (spec_WaveAt _ _ _).mono ?_; rintro e w2 ⟨rfl, b2⟩; have s2 : w1.heap.size ≤ w2.heap.size := b2.size; have X2 := Lib.hid (HX1.out.drew.below b2 (show w.heap.size < w1.heap.size by omega)))
          | (go_at_call 31; refine (spec_LevelAt _ _ _ _ _ _ _).mono ?_; rintro e w3 ⟨rfl, b3⟩; have s3 : w2.heap.size ≤ w3.heap.size := b3.size; have X3 := Lib.hid (X2.out.below b3 (by omega)))
          | (refine step_append_el rfl _ _ 31 rfl (w.heap.size + 1) 3 i0 (.int .i64 0) 1 8 Try.underlying31 HI.out H0.out H1.out H2.out rfl (by decide) (by decide) _ k _ rfl (((HO1.out.drew.below b2 (show wr.heap.size ≤ w1.heap.size by omega)).below b3 (by omega)).1.alloc _) (by omega) w3.heap.size _ rfl (heap_alloc_new w3 _) rfl (by simp [Value.oneCell']) (by simp; omega) ?_; intro A4 c4 w4 o4 b4 s4; have X4 := Lib.hid ((X3.out.alloc _).below b4 (by omega))))
      all_goals
        have O4 := Lib.hid o4; have B4 := Lib.hid b4; have B3 := Lib.hid b3; have B2 := Lib.hid b2; clear o4 b4 b3 b2
        clear e1 e2 e3 c0 c1 c2 c3
        simp only [World.size_alloc] at s4
        go_wp2
        go_roundw
        case rel =>
          have sd : w1.drew.heap.size = w1.heap.size := rfl
          have e5 : iv (toneTo key f a d s r h (k + 1)) = iv (toneTo key f a d s r h k) ++ [.int .i64 ((waveL f (((k : Int) * speedL key) % 1000000 / 1000) * levelL a d s r h k * 30).tdiv 1000)] := by rw [toneTo_succ, iv_append]; rfl
          refine ⟨k + 1, by omega, by go_num, A4, c4, rfl, ?_, X4.out, ?_, by omega⟩
          · rw [e5]; exact O4.out
          · exact HL1.out.trans (((below_drew_left B2.out).mono (by omega)).trans ((B3.out.mono (by omega)).trans (((Below.refl _ _).alloc (by omega) _).trans (B4.out.mono (by omega)))))
        case measure => simp [intOf]; omega
    · obtain rfl : k = m := by omega
      have HO := Lib.hid ho; have HL := Lib.hid hbel; clear ho hb0 hbel
      go_wp2
      go_ret
      exact ⟨_, _, rfl, own_mono HO.out (by omega), HL.out⟩
set_option maxHeartbeats 4000000 in
theorem impl_ToneSamples_yes (key f a d s r h : Int) (m : Nat) (w : World) (hk : toneOk key f a d s r h m) :
    Calls Try.prog 43 #[.int .i64 key, .int .i64 f, .agg #[.int .i64 a, .int .i64 d, .int .i64 s, .int .i64 r], .int .i64 h, .int .i64 m] w (RetRow w 3 1 m (iv (toneTo key f a d s r h m))) := by
  obtain ⟨i0, hi, hz0, hz1, hz2⟩ := info_parts infoInt
  have HI := Lib.hid hi; have H0 := Lib.hid hz0; have H1 := Lib.hid hz1; have H2 := Lib.hid hz2; clear hi hz0 hz1 hz2
  obtain ⟨h1, h2, h3, h4, h5⟩ := hk
  have g1 := inR_iff.1 h1
  have g4 := inR_iff.1 h4
  have g5 := inR_iff.1 h5
  have hsp := speedL_bd h1
  go_enter Try.func43, Try.ntmps43
  go_wp2_with (first | (go_at_call 18; refine (impl_ShapeValid _ _ _ _ _).mono ?_; rintro e w' ⟨rfl, rfl⟩) | (go_at_call 47; refine (impl_within _ _ _ _).mono ?_; rintro e w' ⟨rfl, rfl⟩))
  have H3 := Lib.hid h3; have H4 := Lib.hid h4; clear h1 h2 h3 h4 h5
  go_loopw [11, 12, 39] (fun v ph i wr => ∃ k : Nat, k ≤ m ∧ i = .int .i64 k ∧ ph = .int .i64 (((k : Int) * speedL key) % 1000000) ∧ ∃ A c, v = .slice A k c ∧ wr.ownsRow (w.heap.size + 1) 3 1 (.slice A k c) k (iv (toneTo key f a d s r h k)) ∧ Blk wr w.heap.size 28 #[.int .i64 a, .int .i64 d, .int .i64 s, .int .i64 r] ∧ Below w.heap.size w wr ∧ w.heap.size + 1 ≤ wr.heap.size) (fun _ _ i _ => m - (intOf i).toNat)
  case atStart => exact ⟨0, Nat.zero_le _, rfl, by simp, _, _, rfl, (Blk.newAt (g := w.heap.size + 1 + 1) (cs := #[]) (by simp)).own (size := 1) (n := 0) (by omega) (Nat.zero_le _) (by simp), ((Blk.newAt rfl).alloc _).alloc _, by (repeat (first | exact Below.refl _ _ | refine Below.alloc ?_ (by simp; try omega) _ | refine below_drewN ?_ _ | refine Below.drew ?_)), by simp⟩
  case round =>
    obtain ⟨k, hk, rfl, rfl, A, c, rfl, ho, hb0, hbel, hsz⟩ := hrel
    by_cases hlt : k < m
    · have hi1 : (k : Int) < (m : Int) := by omega
      have HK := Lib.hid (lvlOk_mk H3.out H4.out hlt (by omega))
      have lb := levelL_bd HK.out
      have wb := waveL_bd f (((k : Int) * speedL key) % 1000000 / 1000)
      have pb := mul_le_cap (x := (k : Int)) (y := speedL key) (X := 200) (Y := 181139) (by omega) hsp
      have ab := mul_abs (X := 1000) (Y := 1000) wb lb (by omega)
      have HO := Lib.hid ho; have HX0 := Lib.hid hb0; have HL := Lib.hid hbel; clear ho hb0 hbel
      have HO1 := Lib.hid (Row.mk_ HO.out); have HX1 := Lib.hid HX0.out; have HL1 := Lib.hid HL.out; clear HO HX0 HL
      have c0 : wr.cell? ⟨w.heap.size, 0, none⟩ = some (.int .i64 a) := HX1.out.cell 0
      have c1 : wr.cell? ⟨w.heap.size, 1, none⟩ = some (.int .i64 d) := HX1.out.cell 1
      have c2 : wr.cell? ⟨w.heap.size, 2, none⟩ = some (.int .i64 s) := HX1.out.cell 2
      have c3 : wr.cell? ⟨w.heap.size, 3, none⟩ = some (.int .i64 r) := HX1.out.cell 3
      go_wp2_with fail
      have e0 : IntKind.i64.wrap ((((k : Int) * speedL key) % 1000000).tdiv 1000) = ((k : Int) * speedL key) % 1000000 / 1000 := IntWalk.i64_quo _ _ (by omega)
      have e1 : IntKind.i64.wrap (waveL f (((k : Int) * speedL key) % 1000000 / 1000) * levelL a d s r h k) = waveL f (((k : Int) * speedL key) % 1000000 / 1000) * levelL a d s r h k := IntWalk.i64_in _ (by omega)
      have e2 : IntKind.i64.wrap (waveL f (((k : Int) * speedL key) % 1000000 / 1000) * levelL a d s r h k * 30) = waveL f (((k : Int) * speedL key) % 1000000 / 1000) * levelL a d s r h k * 30 := IntWalk.i64_in _ (by omega)
      have e3 : IntKind.i64.wrap ((waveL f (((k : Int) * speedL key) % 1000000 / 1000) * levelL a d s r h k * 30).tdiv 1000) = (waveL f (((k : Int) * speedL key) % 1000000 / 1000) * levelL a d s r h k * 30).tdiv 1000 := IntWalk.i64_quo' _ _ (by omega)
      go_region_held3 (fun w' => w'.cell? ⟨w.heap.size, 0, none⟩ = some (.int .i64 a) ∧ w'.cell? ⟨w.heap.size, 1, none⟩ = some (.int .i64 d) ∧ w'.cell? ⟨w.heap.size, 2, none⟩ = some (.int .i64 s) ∧ w'.cell? ⟨w.heap.size, 3, none⟩ = some (.int .i64 r))
        (first | exact ⟨c0, c1, c2, c3⟩ | exact ⟨X2.out.cell 0, X2.out.cell 1, X2.out.cell 2, X2.out.cell 3⟩ | exact ⟨X3.out.cell 0, X3.out.cell 1, X3.out.cell 2, X3.out.cell 3⟩ | exact ⟨(X3.out.alloc _).cell 0, (X3.out.alloc _).cell 1, (X3.out.alloc _).cell 2, (X3.out.alloc _).cell 3⟩ | exact ⟨X4.out.cell 0, X4.out.cell 1, X4.out.cell 2, X4.out.cell 3⟩)
        (first
          | (go_at_call 24; refine (impl_WaveAt _ _ _).mono ?_; rintro e w2 ⟨rfl, b2⟩; have s2 : wr.heap.size ≤ w2.heap.size := b2.size; have X2 := Lib.hid (HX1.out.drew.below b2 (show w.heap.size < wr.heap.size by omega)))
          | (go_at_call 30; refine (impl_LevelAt _ _ _ _ _ _ _).mono ?_; rintro e w3 ⟨rfl, b3⟩; have s3 : w2.heap.size ≤ w3.heap.size := b3.size; have X3 := Lib.hid (X2.out.below b3 (by omega)))
          | (refine step_append_el rfl _ _ 31 rfl (w.heap.size + 1) 3 i0 (.int .i64 0) 1 8 Try.underlying31 HI.out H0.out H1.out H2.out rfl (by decide) (by decide) _ k _ rfl (((HO1.out.drew.below b2 (show wr.heap.size ≤ wr.heap.size by omega)).below b3 (by omega)).1.alloc _) (by omega) w3.heap.size _ rfl (heap_alloc_new w3 _) rfl (by simp [Value.oneCell']) (by simp; omega) ?_; intro A4 c4 w4 o4 b4 s4; have X4 := Lib.hid ((X3.out.alloc _).below b4 (by omega))))
      all_goals
        have O4 := Lib.hid o4; have B4 := Lib.hid b4; have B3 := Lib.hid b3; have B2 := Lib.hid b2; clear o4 b4 b3 b2
        clear e0 e1 e2 e3 c0 c1 c2 c3
        simp only [World.size_alloc] at s4
        go_wp2_with fail
        refine (impl_KeySpeed _ _).mono ?_; rintro e w5 ⟨rfl, b5⟩
        have s5 := b5.size
        have O5 := Lib.hid ((Row.mk_ O4.out).below b5 (Nat.le_refl _)); have X5 := Lib.hid (X4.out.below b5 (by omega)); have B5 := Lib.hid b5; clear b5 O4
        go_wp2
        go_roundw
        case rel =>
          have e6 : ((k + 1 : Nat) : Int) * speedL key = (k : Int) * speedL key + speedL key := by rw [Int.natCast_add, Int.add_mul]; simp
          have sd : wr.drew.heap.size = wr.heap.size := rfl
          have e5 : iv (toneTo key f a d s r h (k + 1)) = iv (toneTo key f a d s r h k) ++ [.int .i64 ((waveL f (((k : Int) * speedL key) % 1000000 / 1000) * levelL a d s r h k * 30).tdiv 1000)] := by rw [toneTo_succ, iv_append]; rfl
          refine ⟨k + 1, by omega, by go_num, congrArg _ (by rw [e6]; omega), A4, c4, rfl, ?_, X5.out, ?_, by omega⟩
          · rw [e5]; exact O5.out.1
          · exact HL1.out.trans (((below_drew_left B2.out).mono (by omega)).trans ((B3.out.mono (by omega)).trans (((Below.refl _ _).alloc (by omega) _).trans ((B4.out.mono (by omega)).trans (B5.out.mono (by omega))))))
        case measure => simp [intOf]; omega
    · obtain rfl : k = m := by omega
      have HO := Lib.hid ho; have HL := Lib.hid hbel; clear ho hb0 hbel
      go_wp2
      go_ret
      exact ⟨_, _, rfl, own_mono HO.out (by omega), HL.out⟩
set_option maxHeartbeats 1000000 in
theorem impl_ToneSamples (key f a d s r h m : Int) (w : World) :
    Calls Try.prog 43 #[.int .i64 key, .int .i64 f, .agg #[.int .i64 a, .int .i64 d, .int .i64 s, .int .i64 r], .int .i64 h, .int .i64 m] w (RetRow w 3 1 (toneL key f a d s r h m).length (iv (toneL key f a d s r h m))) := by
  by_cases hok : toneOk key f a d s r h m
  · have hm := inR_iff.1 hok.2.2.2.2
    obtain ⟨n, rfl⟩ := Int.eq_ofNat_of_zero_le hm.1
    have e : toneL key f a d s r h n = toneTo key f a d s r h n := by rw [toneL, if_pos hok, Int.toNat_natCast]
    rw [e, toneTo_len]
    exact impl_ToneSamples_yes key f a d s r h n w hok
  · have HF : Hid (toneL key f a d s r h m = []) := by unfold Hid; rw [toneL, if_neg hok]
    have HN := Lib.hid hok; clear hok
    have go : inR key 0 107 = false ∨ (inR key 0 107 = true ∧ (inR f 0 2 = false ∨ (inR f 0 2 = true ∧ (shapeL a d s r = false ∨ (shapeL a d s r = true ∧ (inR h 0 200 = false ∨ (inR h 0 200 = true ∧ inR m 0 200 = false))))))) := by
      have hn := HN.out
      unfold toneOk at hn
      cases e1 : inR key 0 107 <;> cases e2 : inR f 0 2 <;> cases e3 : shapeL a d s r <;> cases e4 : inR h 0 200 <;> cases e5 : inR m 0 200 <;> simp_all
    rcases go with h1 | ⟨h1, h2 | ⟨h2, h3 | ⟨h3, h4 | ⟨h4, h5⟩⟩⟩⟩
    all_goals
      go_enter Try.func43, Try.ntmps43
      go_wp2_with (first | (go_at_call 18; refine (impl_ShapeValid _ _ _ _ _).mono ?_; rintro e w' ⟨rfl, rfl⟩) | (go_at_call 47; refine (impl_within _ _ _ _).mono ?_; rintro e w' ⟨rfl, rfl⟩))
      go_ret
      rw [HF.out]
      first
        | exact ⟨_, _, rfl, World.ownsRow_nil _ _ _ _, by (repeat (first | exact Below.refl _ _ | refine Below.alloc ?_ (by simp; try omega) _ | refine below_drewN ?_ _ | refine Below.drew ?_))⟩
        | exact ⟨_, _, rfl, own_mono ((Blk.newAt (g := w.heap.size + 1) (by simp)).own (size := 1) (n := 0) (Nat.le_refl _) (Nat.zero_le _) (by simp)) (by omega), by (repeat (first | exact Below.refl _ _ | refine Below.alloc ?_ (by simp; try omega) _ | refine below_drewN ?_ _ | refine Below.drew ?_))⟩
        | exact ⟨_, _, rfl, own_mono (((Blk.newAt (g := w.heap.size + 1) (by simp)).own (size := 1) (n := 0) (Nat.le_refl _) (Nat.zero_le _) (by simp)).alloc _) (by omega), by (repeat (first | exact Below.refl _ _ | refine Below.alloc ?_ (by simp; try omega) _ | refine below_drewN ?_ _ | refine Below.drew ?_))⟩
set_option maxHeartbeats 1000000 in
theorem spec_ToneSamples (key f a d s r h m : Int) (w : World) :
    Calls Try.prog 44 #[.int .i64 key, .int .i64 f, .agg #[.int .i64 a, .int .i64 d, .int .i64 s, .int .i64 r], .int .i64 h, .int .i64 m] w (RetRow w 3 1 (toneL key f a d s r h m).length (iv (toneL key f a d s r h m))) := by
  by_cases hok : toneOk key f a d s r h m
  · have hm := inR_iff.1 hok.2.2.2.2
    obtain ⟨n, rfl⟩ := Int.eq_ofNat_of_zero_le hm.1
    have e : toneL key f a d s r h n = toneTo key f a d s r h n := by rw [toneL, if_pos hok, Int.toNat_natCast]
    rw [e, toneTo_len]
    exact spec_ToneSamples_yes key f a d s r h n w hok
  · have HF : Hid (toneL key f a d s r h m = []) := by unfold Hid; rw [toneL, if_neg hok]
    have HN := Lib.hid hok; clear hok
    have go : inR key 0 107 = false ∨ (inR key 0 107 = true ∧ (inR f 0 2 = false ∨ (inR f 0 2 = true ∧ (shapeL a d s r = false ∨ (shapeL a d s r = true ∧ (inR h 0 200 = false ∨ (inR h 0 200 = true ∧ inR m 0 200 = false))))))) := by
      have hn := HN.out
      unfold toneOk at hn
      cases e1 : inR key 0 107 <;> cases e2 : inR f 0 2 <;> cases e3 : shapeL a d s r <;> cases e4 : inR h 0 200 <;> cases e5 : inR m 0 200 <;> simp_all
    rcases go with h1 | ⟨h1, h2 | ⟨h2, h3 | ⟨h3, h4 | ⟨h4, h5⟩⟩⟩⟩
    all_goals
      go_enter Try.func44, Try.ntmps44
      go_wp2_with (first | (go_at_call 19; refine (spec_ShapeValid _ _ _ _ _).mono ?_; rintro e w' ⟨rfl, rfl⟩) | (go_at_call 48; refine (spec_l1In _ _ _ _).mono ?_; rintro e w' ⟨rfl, rfl⟩))
      go_ret
      rw [HF.out]
      first
        | exact ⟨_, _, rfl, World.ownsRow_nil _ _ _ _, by (repeat (first | exact Below.refl _ _ | refine Below.alloc ?_ (by simp; try omega) _ | refine below_drewN ?_ _ | refine Below.drew ?_))⟩
        | exact ⟨_, _, rfl, own_mono ((Blk.newAt (g := w.heap.size + 1) (by simp)).own (size := 1) (n := 0) (Nat.le_refl _) (Nat.zero_le _) (by simp)) (by omega), by (repeat (first | exact Below.refl _ _ | refine Below.alloc ?_ (by simp; try omega) _ | refine below_drewN ?_ _ | refine Below.drew ?_))⟩
        | exact ⟨_, _, rfl, own_mono (((Blk.newAt (g := w.heap.size + 1) (by simp)).own (size := 1) (n := 0) (Nat.le_refl _) (Nat.zero_le _) (by simp)).alloc _) (by omega), by (repeat (first | exact Below.refl _ _ | refine Below.alloc ?_ (by simp; try omega) _ | refine below_drewN ?_ _ | refine Below.drew ?_))⟩
end Go.Proofs.Ytijbciiocmdmmaa
