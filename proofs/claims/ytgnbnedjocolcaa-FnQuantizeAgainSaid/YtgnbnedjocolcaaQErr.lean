/- Contracts of QuantizeError, of the program and of the reference. Condition: lengths at most 2^20. -/
import Derived.Test.YtgnbnedjocolcaaEvt1
import Derived.Test.YtgnbnedjocolcaaTemp3
import Derived.Test.YtgnbnedjocolcaaGrid
namespace Go.Proofs.Ytgnbnedjocolcaa
open Go.RowKit
set_option linter.unusedSimpArgs false
set_option linter.unusedVariables false
set_option maxRecDepth 100000
def dE (ts : List (Int × Int)) (g x : Int) : Int := max (tickL ts x - rnd (tickL ts x) g) (rnd (tickL ts x) g - tickL ts x)
def qerrTo (ts : List (Int × Int)) (es : List (Int × Int × Int × Int)) (g : Int) : Nat → Int
  | 0 => 0
  | n + 1 => max (max (qerrTo ts es g n) (dE ts g (glEvent es n).1)) (dE ts g (glEvent es n).2.1)
def qerrL (es : List (Int × Int × Int × Int)) (ts : List (Int × Int)) (g : Int) : Int := if evB es = true ∧ tvB ts = true ∧ inR g 1 768 = true then qerrTo ts es g es.length else -1
theorem dE_bd {ts : List (Int × Int)} (hv : tvB ts = true) {g x : Int} (hg : 1 ≤ g ∧ g ≤ 768) (hx : 0 ≤ x) : 0 ≤ dE ts g x ∧ dE ts g x ≤ 50768 := by
  have h1 := tickL_in hv hx
  have h2 := rnd_bd h1 hg
  unfold dE; omega
theorem qerrTo_bd {ts : List (Int × Int)} {es : List (Int × Int × Int × Int)} (hv : tvB ts = true) {g : Int} (hg : 1 ≤ g ∧ g ≤ 768) (he : evB es = true) : ∀ n, n ≤ es.length → 0 ≤ qerrTo ts es g n ∧ qerrTo ts es g n ≤ 50768 := by
  intro n
  induction n with
  | zero => intro _; simp [qerrTo]
  | succ n ih =>
    intro h
    have := ih (by omega)
    obtain ⟨a, b, _⟩ := (evB_iff.1 he).2 n (by omega)
    have h1 := dE_bd hv hg a
    have h2 := dE_bd hv hg (show 0 ≤ (glEvent es n).2.1 by omega)
    simp only [qerrTo]; omega
theorem qerrL_no {es : List (Int × Int × Int × Int)} {ts : List (Int × Int)} {g : Int} (h : evB es = false ∨ tvB ts = false ∨ inR g 1 768 = false) : qerrL es ts g = -1 := by
  unfold qerrL
  rw [if_neg]
  rintro ⟨h1, h2, h3⟩
  rcases h with h | h | h
  · rw [h] at h1; cases h1
  · rw [h] at h2; cases h2
  · rw [h] at h3; cases h3
theorem impl_distanceD (a b : Int) (w : World) (ha : -4000000000 ≤ a ∧ a ≤ 4000000000) (hb : -4000000000 ≤ b ∧ b ≤ 4000000000) :
    Calls Try.prog 34 #[.int .i64 a, .int .i64 b] w fun e w' => e = .returned (.int .i64 (max (a - b) (b - a))) ∧ w = w' := by
  go_enter Try.func34, Try.ntmps34
  go_wp2
  all_goals
    go_ret
    exact ⟨ret_int (by omega), rfl⟩
set_option maxHeartbeats 4000000 in
theorem impl_QuantizeError (A C : Option Addr) (c d : Nat) (es : List (Int × Int × Int × Int)) (ts : List (Int × Int)) (g : Int) (w : World) (hx : RdEvent w w.heap.size A es) (hy : RdTempo w w.heap.size C ts) (hl : es.length ≤ 1048576) (hl2 : ts.length ≤ 1048576) :
    Calls Try.prog 13 #[.slice A es.length c, .slice C ts.length d, .int .i64 g] w (RetI w (qerrL es ts g)) := by
  have HX := Lib.hid hx; have HY := Lib.hid hy; clear hx hy
  cases he : evB es
  · have HF := Lib.hid (qerrL_no (ts := ts) (g := g) (.inl he)); have HE := Lib.hid he; clear he
    go_enter Try.func13, Try.ntmps13
    go_wp2_with fail
    refine (impl_EventsValid _ _ _ _ HX.out hl).mono ?_
    rw [HE.out]
    rintro e w1 ⟨rfl, b1⟩
    have HB := Lib.hid b1; clear b1
    go_wp2_with fail
    go_ret
    exact ⟨ret_int HF.out.symm, HB.out⟩
  cases ht : tvB ts
  · have HF := Lib.hid (qerrL_no (es := es) (g := g) (.inr (.inl ht))); have HE := Lib.hid he; have HT := Lib.hid ht; clear he ht
    go_enter Try.func13, Try.ntmps13
    go_wp2_with fail
    refine (impl_EventsValid _ _ _ _ HX.out hl).mono ?_
    rw [HE.out]
    rintro e w1 ⟨rfl, b1⟩
    have z1 := b1.size
    replace HY := Lib.hid ((HY.out.below b1 (by omega)).more z1)
    have HB := Lib.hid b1; clear b1
    go_wp2_with fail
    refine (impl_TemposValid _ _ _ _ HY.out hl2).mono ?_
    rw [HT.out]
    rintro e w2 ⟨rfl, b2⟩
    replace HB := Lib.hid (HB.out.trans (b2.mono (by omega))); clear b2
    go_wp2_with fail
    go_ret
    exact ⟨ret_int HF.out.symm, HB.out⟩
  cases hg : inR g 1 768
  · have HF := Lib.hid (qerrL_no (es := es) (ts := ts) (.inr (.inr hg))); have HE := Lib.hid he; have HT := Lib.hid ht; clear he ht
    go_enter Try.func13, Try.ntmps13
    go_wp2_with fail
    refine (impl_EventsValid _ _ _ _ HX.out hl).mono ?_
    rw [HE.out]
    rintro e w1 ⟨rfl, b1⟩
    have z1 := b1.size
    replace HY := Lib.hid ((HY.out.below b1 (by omega)).more z1)
    have HB := Lib.hid b1; clear b1
    go_wp2_with fail
    refine (impl_TemposValid _ _ _ _ HY.out hl2).mono ?_
    rw [HT.out]
    rintro e w2 ⟨rfl, b2⟩
    replace HB := Lib.hid (HB.out.trans (b2.mono (by omega))); clear b2
    go_wp2_with (go_at_call 28; refine (impl_within _ _ _ _).mono ?_; rintro e w' ⟨rfl, rfl⟩)
    go_ret
    exact ⟨ret_int HF.out.symm, HB.out⟩
  have hg1 := inR_iff.1 hg
  have HQ := Lib.hid (qerrTo_bd ht hg1 he)
  have HF : Hid (qerrL es ts g = qerrTo ts es g es.length) := by unfold Hid; unfold qerrL; rw [if_pos ⟨he, ht, hg⟩]
  have HE := Lib.hid he; have HT := Lib.hid ht; clear he ht
  go_enter Try.func13, Try.ntmps13
  go_wp2_with fail
  refine (impl_EventsValid _ _ _ _ HX.out hl).mono ?_
  rw [HE.out]
  rintro e w1 ⟨rfl, b1⟩
  have z1 := b1.size
  replace HX := Lib.hid ((HX.out.below b1 (by omega)).more z1)
  replace HY := Lib.hid ((HY.out.below b1 (by omega)).more z1)
  have HB := Lib.hid b1; clear b1
  go_wp2_with fail
  refine (impl_TemposValid _ _ _ _ HY.out hl2).mono ?_
  rw [HT.out]
  rintro e w2 ⟨rfl, b2⟩
  have z2 := b2.size
  replace HX := Lib.hid ((HX.out.below b2 (by omega)).more z2)
  replace HY := Lib.hid ((HY.out.below b2 (by omega)).more z2)
  replace HB := Lib.hid (HB.out.trans (b2.mono (by omega))); clear b2
  go_wp2_with (go_at_call 28; refine (impl_within _ _ _ _).mono ?_; rintro e w' ⟨rfl, rfl⟩)
  clear hg
  go_loopw [7, 28] (fun m i wr => ∃ k : Nat, k ≤ es.length ∧ i = .int .i64 k ∧ m = .int .i64 (qerrTo ts es g k) ∧ Below w2.heap.size w2 wr) (fun _ i _ => es.length - (intOf i).toNat)
  case atStart => exact ⟨0, Nat.zero_le _, rfl, rfl, Below.refl _ _⟩
  case round =>
    obtain ⟨k, hk, rfl, rfl, hbel⟩ := hrel
    have hsz := hbel.size
    by_cases hlt : k < es.length
    · obtain ⟨b, off, rfl, hbB, hc0, hc1, hc2, hc3⟩ := (HX.out.below hbel (Nat.le_refl _)).at_ hlt
      obtain ⟨a0, a1, _⟩ := (evB_iff.1 HE.out).2 k hlt
      have hq := HQ.out k hk
      have d0 := dE_bd HT.out hg1 a0
      have d1 := dE_bd HT.out hg1 (show 0 ≤ (glEvent es k).2.1 by omega)
      have t0 := tickL_in HT.out a0
      have t1 := tickL_in HT.out (show 0 ≤ (glEvent es k).2.1 by omega)
      have r0 := rnd_bd t0 hg1
      have r1 := rnd_bd t1 hg1
      have HS := Lib.hid (show qerrTo ts es g (k + 1) = max (max (qerrTo ts es g k) (dE ts g (glEvent es k).1)) (dE ts g (glEvent es k).2.1) from rfl)
      have HD0 := Lib.hid (show dE ts g (glEvent es k).1 = max (tickL ts (glEvent es k).1 - rnd (tickL ts (glEvent es k).1) g) (rnd (tickL ts (glEvent es k).1) g - tickL ts (glEvent es k).1) from rfl)
      have HD1 := Lib.hid (show dE ts g (glEvent es k).2.1 = max (tickL ts (glEvent es k).2.1 - rnd (tickL ts (glEvent es k).2.1) g) (rnd (tickL ts (glEvent es k).2.1) g - tickL ts (glEvent es k).2.1) from rfl)
      have HN0 : Hid (ngL (tickL ts (glEvent es k).1) g = rnd (tickL ts (glEvent es k).1) g) := by unfold Hid; unfold ngL; rw [if_pos ⟨inR_t t0, inR_t hg1⟩]
      have HN1 : Hid (ngL (tickL ts (glEvent es k).2.1) g = rnd (tickL ts (glEvent es k).2.1) g) := by unfold Hid; unfold ngL; rw [if_pos ⟨inR_t t1, inR_t hg1⟩]
      have hi1 : (k : Int) < (es.length : Int) := by omega
      generalize (glEvent es k).2.2.1 = ky at *
      generalize (glEvent es k).2.2.2 = ld at *
      generalize (glEvent es k).1 = on at *
      generalize (glEvent es k).2.1 = of at *
      generalize qerrTo ts es g k = q at *
      generalize hx0 : rnd (tickL ts on) g = x0 at *
      generalize hx1 : rnd (tickL ts of) g = x1 at *
      generalize hy0 : tickL ts on = y0 at *
      generalize hy1 : tickL ts of = y1 at *
      generalize hz0 : dE ts g on = z0 at *
      generalize hz1 : dE ts g of = z1' at *
      have HY0 := Lib.hid hy0; have HY1 := Lib.hid hy1
      have HB1 := Lib.hid (hbel.alloc hsz (.cells #[.int .i64 on, .int .i64 of, .int .i64 ky, .int .i64 ld] 46))
      have HYA := Lib.hid (HY.out.below HB1.out (Nat.le_refl _))
      have zA : w2.heap.size ≤ (wr.alloc (.cells #[.int .i64 on, .int .i64 of, .int .i64 ky, .int .i64 ld] 46)).heap.size := HB1.out.size
      clear hbel hx0 hx1 hy0 hy1 hz0 hz1
      have ix0 : ∀ W, (Instr.index 57 (.agg #[.int .i64 on, .int .i64 of]) (.int .i64 0)).run Try.prog W = .ok (.int .i64 on) W := fun _ => by kernel_rfl
      have ix1 : ∀ W, (Instr.index 57 (.agg #[.int .i64 on, .int .i64 of]) (.int .i64 1)).run Try.prog W = .ok (.int .i64 of) W := fun _ => by kernel_rfl
      go_wp2_with fail
      generalize (wr.alloc (.cells #[.int .i64 on, .int .i64 of, .int .i64 ky, .int .i64 ld] 46)) = wa at *
      obtain ⟨wo, rfl⟩ : ∃ wo : World, wo = wa := ⟨_, rfl⟩
      have HYO := HYA
      go_loopw [7, 37] (fun m j wq => ((m = .int .i64 q ∧ j = .int .i64 0) ∨ (m = .int .i64 (max q z0) ∧ j = .int .i64 1) ∨ (m = .int .i64 (max (max q z0) z1') ∧ j = .int .i64 2)) ∧ Below wo.heap.size wo wq) (fun _ j _ => 2 - (intOf j).toNat)
      case atStart => exact ⟨.inl ⟨rfl, rfl⟩, Below.refl _ _⟩
      case round =>
        obtain ⟨hcs, hbq⟩ := hrel
        have zq := hbq.size
        have HBQ := Lib.hid hbq
        rcases hcs with ⟨rfl, rfl⟩ | ⟨rfl, rfl⟩ | ⟨rfl, rfl⟩
        · go_wp2_with fail
          refine (impl_TickOf _ _ _ _ _ (RdTempo.more (RdTempo.below HYO.out hbq (by omega)) (by omega)) hl2).mono ?_
          rw [HY0.out]
          rintro e w4 ⟨rfl, b4⟩
          have HB4 := Lib.hid (hbq.trans (b4.mono zq)); clear b4 hbq
          go_wp2_with fail
          refine (impl_NearestGrid y0 g _).mono ?_
          rw [HN0.out]
          rintro e w' ⟨rfl, rfl⟩
          go_wp2_with fail
          refine (impl_distanceD y0 x0 _ (by omega) (by omega)).mono ?_
          rw [← HD0.out]
          rintro e w' ⟨rfl, rfl⟩
          go_wp2_with fail
          all_goals
            go_roundw
            case rel => exact ⟨.inr (.inl ⟨congrArg (Value.int IntKind.i64) (by first | omega | (split <;> omega)), rfl⟩), HB4.out⟩
            case measure => simp [intOf]
        · go_wp2_with fail
          refine (impl_TickOf _ _ _ _ _ (RdTempo.more (RdTempo.below HYO.out hbq (by omega)) (by omega)) hl2).mono ?_
          rw [HY1.out]
          rintro e w4 ⟨rfl, b4⟩
          have HB4 := Lib.hid (hbq.trans (b4.mono zq)); clear b4 hbq
          go_wp2_with fail
          refine (impl_NearestGrid y1 g _).mono ?_
          rw [HN1.out]
          rintro e w' ⟨rfl, rfl⟩
          go_wp2_with fail
          refine (impl_distanceD y1 x1 _ (by omega) (by omega)).mono ?_
          rw [← HD1.out]
          rintro e w' ⟨rfl, rfl⟩
          go_wp2_with fail
          all_goals
            go_roundw
            case rel => exact ⟨.inr (.inr ⟨congrArg (Value.int IntKind.i64) (by first | omega | (split <;> omega)), rfl⟩), HB4.out⟩
            case measure => simp [intOf]
        · clear hbq
          go_wp2_with fail
          go_roundw
          case rel => exact ⟨k + 1, by omega, by go_num, congrArg (Value.int IntKind.i64) HS.out.symm, HB1.out.trans (HBQ.out.mono zA)⟩
          case measure => simp [intOf]; omega
    · obtain rfl : k = es.length := by omega
      go_wp2_with fail
      go_ret
      exact ⟨ret_int HF.out.symm, HB.out.trans (hbel.mono (by omega))⟩
set_option maxHeartbeats 4000000 in
theorem spec_QuantizeError (A C : Option Addr) (c d : Nat) (es : List (Int × Int × Int × Int)) (ts : List (Int × Int)) (g : Int) (w : World) (hx : RdEvent w w.heap.size A es) (hy : RdTempo w w.heap.size C ts) (hl : es.length ≤ 1048576) (hl2 : ts.length ≤ 1048576) :
    Calls Try.prog 14 #[.slice A es.length c, .slice C ts.length d, .int .i64 g] w (RetI w (qerrL es ts g)) := by
  have HX := Lib.hid hx; have HY := Lib.hid hy; clear hx hy
  cases he : evB es
  · have HF := Lib.hid (qerrL_no (ts := ts) (g := g) (.inl he)); have HE := Lib.hid he; clear he
    go_enter Try.func14, Try.ntmps14
    go_wp2_with fail
    refine (spec_EventsValid _ _ _ _ HX.out hl).mono ?_
    rw [HE.out]
    rintro e w1 ⟨rfl, b1⟩
    have HB := Lib.hid b1; clear b1
    go_wp2_with fail
    go_ret
    exact ⟨ret_int HF.out.symm, HB.out⟩
  cases ht : tvB ts
  · have HF := Lib.hid (qerrL_no (es := es) (g := g) (.inr (.inl ht))); have HE := Lib.hid he; have HT := Lib.hid ht; clear he ht
    go_enter Try.func14, Try.ntmps14
    go_wp2_with fail
    refine (spec_EventsValid _ _ _ _ HX.out hl).mono ?_
    rw [HE.out]
    rintro e w1 ⟨rfl, b1⟩
    have z1 := b1.size
    replace HY := Lib.hid ((HY.out.below b1 (by omega)).more z1)
    have HB := Lib.hid b1; clear b1
    go_wp2_with fail
    refine (spec_TemposValid _ _ _ _ HY.out hl2).mono ?_
    rw [HT.out]
    rintro e w2 ⟨rfl, b2⟩
    replace HB := Lib.hid (HB.out.trans (b2.mono (by omega))); clear b2
    go_wp2_with fail
    go_ret
    exact ⟨ret_int HF.out.symm, HB.out⟩
  cases hg : inR g 1 768
  · have HF := Lib.hid (qerrL_no (es := es) (ts := ts) (.inr (.inr hg))); have HE := Lib.hid he; have HT := Lib.hid ht; clear he ht
    go_enter Try.func14, Try.ntmps14
    go_wp2_with fail
    refine (spec_EventsValid _ _ _ _ HX.out hl).mono ?_
    rw [HE.out]
    rintro e w1 ⟨rfl, b1⟩
    have z1 := b1.size
    replace HY := Lib.hid ((HY.out.below b1 (by omega)).more z1)
    have HB := Lib.hid b1; clear b1
    go_wp2_with fail
    refine (spec_TemposValid _ _ _ _ HY.out hl2).mono ?_
    rw [HT.out]
    rintro e w2 ⟨rfl, b2⟩
    replace HB := Lib.hid (HB.out.trans (b2.mono (by omega))); clear b2
    go_wp2_with (go_at_call 29; refine (spec_l1In _ _ _ _).mono ?_; rintro e w' ⟨rfl, rfl⟩)
    go_ret
    exact ⟨ret_int HF.out.symm, HB.out⟩
  have hg1 := inR_iff.1 hg
  have HQ := Lib.hid (qerrTo_bd ht hg1 he)
  have HF : Hid (qerrL es ts g = qerrTo ts es g es.length) := by unfold Hid; unfold qerrL; rw [if_pos ⟨he, ht, hg⟩]
  have HE := Lib.hid he; have HT := Lib.hid ht; clear he ht
  go_enter Try.func14, Try.ntmps14
  go_wp2_with fail
  refine (spec_EventsValid _ _ _ _ HX.out hl).mono ?_
  rw [HE.out]
  rintro e w1 ⟨rfl, b1⟩
  have z1 := b1.size
  replace HX := Lib.hid ((HX.out.below b1 (by omega)).more z1)
  replace HY := Lib.hid ((HY.out.below b1 (by omega)).more z1)
  have HB := Lib.hid b1; clear b1
  go_wp2_with fail
  refine (spec_TemposValid _ _ _ _ HY.out hl2).mono ?_
  rw [HT.out]
  rintro e w2 ⟨rfl, b2⟩
  have z2 := b2.size
  replace HX := Lib.hid ((HX.out.below b2 (by omega)).more z2)
  replace HY := Lib.hid ((HY.out.below b2 (by omega)).more z2)
  replace HB := Lib.hid (HB.out.trans (b2.mono (by omega))); clear b2
  go_wp2_with (go_at_call 29; refine (spec_l1In _ _ _ _).mono ?_; rintro e w' ⟨rfl, rfl⟩)
  clear hg
  go_loopw [7, 8] (fun m i wr => ∃ k : Nat, k ≤ es.length ∧ i = .int .i64 k ∧ m = .int .i64 (qerrTo ts es g k) ∧ Below w2.heap.size w2 wr) (fun _ i _ => es.length - (intOf i).toNat)
  case atStart => exact ⟨0, Nat.zero_le _, rfl, rfl, Below.refl _ _⟩
  case round =>
    obtain ⟨k, hk, rfl, rfl, hbel⟩ := hrel
    have hsz := hbel.size
    have HB1 := Lib.hid hbel
    by_cases hlt : k < es.length
    · obtain ⟨b, off, rfl, hbB, hc0, hc1, hc2, hc3⟩ := (HX.out.below hbel (Nat.le_refl _)).at_ hlt
      obtain ⟨a0, a1, _⟩ := (evB_iff.1 HE.out).2 k hlt
      have hq := HQ.out k hk
      have d0 := dE_bd HT.out hg1 a0
      have d1 := dE_bd HT.out hg1 (show 0 ≤ (glEvent es k).2.1 by omega)
      have t0 := tickL_in HT.out a0
      have t1 := tickL_in HT.out (show 0 ≤ (glEvent es k).2.1 by omega)
      have r0 := rnd_bd t0 hg1
      have r1 := rnd_bd t1 hg1
      have HS := Lib.hid (show qerrTo ts es g (k + 1) = max (max (qerrTo ts es g k) (dE ts g (glEvent es k).1)) (dE ts g (glEvent es k).2.1) from rfl)
      have HD0 := Lib.hid (show dE ts g (glEvent es k).1 = max (tickL ts (glEvent es k).1 - rnd (tickL ts (glEvent es k).1) g) (rnd (tickL ts (glEvent es k).1) g - tickL ts (glEvent es k).1) from rfl)
      have HD1 := Lib.hid (show dE ts g (glEvent es k).2.1 = max (tickL ts (glEvent es k).2.1 - rnd (tickL ts (glEvent es k).2.1) g) (rnd (tickL ts (glEvent es k).2.1) g - tickL ts (glEvent es k).2.1) from rfl)
      have hi1 : (k : Int) < (es.length : Int) := by omega
      generalize (glEvent es k).2.2.1 = ky at *
      generalize (glEvent es k).2.2.2 = ld at *
      generalize (glEvent es k).1 = on at *
      generalize (glEvent es k).2.1 = of at *
      generalize qerrTo ts es g k = q at *
      generalize hx0 : rnd (tickL ts on) g = x0 at *
      generalize hx1 : rnd (tickL ts of) g = x1 at *
      generalize hy0 : tickL ts on = y0 at *
      generalize hy1 : tickL ts of = y1 at *
      generalize hz0 : dE ts g on = z0 at *
      generalize hz1 : dE ts g of = z1' at *
      have HY0 := Lib.hid hy0; have HY1 := Lib.hid hy1
      have HX0 := Lib.hid hx0; have HX1 := Lib.hid hx1
      clear hbel hx0 hx1 hy0 hy1 hz0 hz1
      go_wp2_with fail
      refine (spec_TickOf _ _ _ _ _ (RdTempo.more (RdTempo.below HY.out HB1.out (by omega)) (by omega)) hl2).mono ?_
      rw [HY0.out]
      rintro e w4 ⟨rfl, b4⟩
      have z4 := b4.size
      have hc1' := (b4.cell (p := ⟨b, off + k * 4 + 1, none⟩) (by simp; omega)).trans hc1
      replace HB1 := Lib.hid (HB1.out.trans (b4.mono hsz)); clear b4
      go_wp2_with fail
      refine (spec_TickOf _ _ _ _ _ (RdTempo.more (RdTempo.below HY.out HB1.out (by omega)) (by omega)) hl2).mono ?_
      rw [HY1.out]
      rintro e w5 ⟨rfl, b5⟩
      have z5 := b5.size
      replace HB1 := Lib.hid (HB1.out.trans (b5.mono (by omega))); clear b5
      go_wp2_with fail
      refine (spec_l20Round y0 g _ t0 hg1).mono ?_
      rw [HX0.out]
      rintro e w' ⟨rfl, rfl⟩
      go_wp2_with fail
      refine (spec_l20Round y1 g _ t1 hg1).mono ?_
      rw [HX1.out]
      rintro e w' ⟨rfl, rfl⟩
      go_wp2_with fail
      all_goals
        go_roundw
        case rel => exact ⟨k + 1, by omega, by go_num, congrArg (Value.int IntKind.i64) (by rw [HS.out, HD0.out, HD1.out]; first | omega | ((repeat' split) <;> omega)), HB1.out⟩
        case measure => simp [intOf]; omega
    · obtain rfl : k = es.length := by omega
      go_wp2_with fail
      go_ret
      exact ⟨ret_int HF.out.symm, HB.out.trans (hbel.mono (by omega))⟩
end Go.Proofs.Ytgnbnedjocolcaa
