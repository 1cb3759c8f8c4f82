/- Contract of Quantize of the program. Condition: at most 2^20 events and tempos. -/
import Derived.Test.YtgnbnedjocolcaaPlw
import Derived.Test.YtgnbnedjocolcaaQErr
namespace Go.Proofs.Ytgnbnedjocolcaa
open Go.RowKit
set_option linter.unusedSimpArgs false
set_option linter.unusedVariables false
set_option maxRecDepth 100000
set_option maxHeartbeats 8000000 in
theorem impl_Quantize (A C : Option Addr) (c d : Nat) (es : List Ev) (ts : List (Int × Int)) (g : Int) (w : World) (hx : RdEvent w w.heap.size A es) (hy : RdTempo w w.heap.size C ts) (hl : es.length ≤ 1048576) (hl2 : ts.length ≤ 1048576) :
    Calls Try.prog 20 #[.slice A es.length c, .slice C ts.length d, .int .i64 g] w (RetNB w (quanL es ts g)) := by
  have HB := Lib.hid (Below.refl w.heap.size w)
  have HX := Lib.hid hx; have HY := Lib.hid hy
  clear hx hy
  cases he : evB es
  · have HF := Lib.hid (quan_no (ts := ts) (g := g) (.inl he)); have HE := Lib.hid he; clear he
    go_enter Try.func20, Try.ntmps20
    go_wp2_with fail
    refine (impl_EventsValid _ _ _ _ (RdEvent.more (RdEvent.below HX.out HB.out (Nat.le_refl _)) (by omega)) hl).mono ?_
    rw [HE.out]
    rintro e w1 ⟨rfl, b1⟩
    have z1 := b1.size
    replace HB := Lib.hid (HB.out.trans (b1.mono (by omega))); clear b1
    go_wp2_with fail
    go_ret2
    unfold RetNB; rw [HF.out]
    exact ⟨none, 0, rfl, World.ownsRow_nil _ _ _ _, HB.out⟩
  cases ht : tvB ts
  · have HF := Lib.hid (quan_no (es := es) (g := g) (.inr (.inl ht))); have HE := Lib.hid he; have HT := Lib.hid ht; clear he ht
    go_enter Try.func20, Try.ntmps20
    go_wp2_with fail
    refine (impl_EventsValid _ _ _ _ (RdEvent.more (RdEvent.below HX.out HB.out (Nat.le_refl _)) (by omega)) hl).mono ?_
    rw [HE.out]
    rintro e w1 ⟨rfl, b1⟩
    have z1 := b1.size
    replace HB := Lib.hid (HB.out.trans (b1.mono (by omega))); clear b1
    go_wp2_with fail
    refine (impl_TemposValid _ _ _ _ (RdTempo.more (RdTempo.below HY.out HB.out (Nat.le_refl _)) (by omega)) hl2).mono ?_
    rw [HT.out]
    rintro e w2 ⟨rfl, b2⟩
    have z2 := b2.size
    replace HB := Lib.hid (HB.out.trans (b2.mono (by omega))); clear b2
    go_wp2_with fail
    go_ret2
    unfold RetNB; rw [HF.out]
    exact ⟨none, 0, rfl, World.ownsRow_nil _ _ _ _, HB.out⟩
  cases hg : inR g 1 768
  · have HF := Lib.hid (quan_no (es := es) (ts := ts) (.inr (.inr hg))); have HE := Lib.hid he; have HT := Lib.hid ht; clear he ht
    go_enter Try.func20, Try.ntmps20
    go_wp2_with fail
    refine (impl_EventsValid _ _ _ _ (RdEvent.more (RdEvent.below HX.out HB.out (Nat.le_refl _)) (by omega)) hl).mono ?_
    rw [HE.out]
    rintro e w1 ⟨rfl, b1⟩
    have z1 := b1.size
    replace HB := Lib.hid (HB.out.trans (b1.mono (by omega))); clear b1
    go_wp2_with fail
    refine (impl_TemposValid _ _ _ _ (RdTempo.more (RdTempo.below HY.out HB.out (Nat.le_refl _)) (by omega)) hl2).mono ?_
    rw [HT.out]
    rintro e w2 ⟨rfl, b2⟩
    have z2 := b2.size
    replace HB := Lib.hid (HB.out.trans (b2.mono (by omega))); clear b2
    go_wp2_with (go_at_call 28; refine (impl_within _ _ _ _).mono ?_; rintro e w' ⟨rfl, rfl⟩)
    go_ret2
    unfold RetNB; rw [HF.out]
    exact ⟨none, 0, rfl, World.ownsRow_nil _ _ _ _, HB.out⟩
  have hg1 := inR_iff.1 hg
  have HQ := Lib.hid (vT_bd he ht hg1)
  have HF := Lib.hid (quan_yes he ht hg)
  have hel : es.length ≤ 60 := (evB_iff.1 he).1
  have HE := Lib.hid he; have HT := Lib.hid ht; clear he ht
  go_enter Try.func20, Try.ntmps20
  go_wp2_with fail
  refine (impl_EventsValid _ _ _ _ (RdEvent.more (RdEvent.below HX.out HB.out (Nat.le_refl _)) (by omega)) hl).mono ?_
  rw [HE.out]
  rintro e w1 ⟨rfl, b1⟩
  have z1 := b1.size
  replace HB := Lib.hid (HB.out.trans (b1.mono (by omega))); clear b1
  go_wp2_with fail
  refine (impl_TemposValid _ _ _ _ (RdTempo.more (RdTempo.below HY.out HB.out (Nat.le_refl _)) (by omega)) hl2).mono ?_
  rw [HT.out]
  rintro e w2 ⟨rfl, b2⟩
  have z2 := b2.size
  replace HB := Lib.hid (HB.out.trans (b2.mono (by omega))); clear b2
  go_wp2_with (go_at_call 28; refine (impl_within _ _ _ _).mono ?_; rintro e w' ⟨rfl, rfl⟩)
  clear hg
  go_loopw [28] (fun i wr => ∃ k : Nat, k ≤ es.length ∧ i = .int .i64 k ∧ Wtr wr w2.heap.size (vT es ts g k).1 (vT es ts g k).2 ∧ Below w.heap.size w wr) (fun i _ => es.length - (intOf i).toNat)
  case atStart => exact ⟨0, Nat.zero_le _, rfl, by rw [vT_zero]; exact ⟨none, 0, Blk.new _ _ _, World.ownsRow_nil _ _ _ _⟩, HB.out.alloc (by omega) _⟩
  case round =>
    obtain ⟨k, hk, rfl, hW, hbel⟩ := hrel
    have hsz := hbel.size
    have HW := Lib.hid hW; replace HB := Lib.hid hbel
    have hgl : w2.heap.size < wr.heap.size := by obtain ⟨_, _, h1, _⟩ := hW; exact h1.lt
    have HOBW : Hid (∀ A n c, wr.cell? ⟨w2.heap.size, 0, none⟩ = some (.slice A n c) → obA A ≠ some wr.heap.size) := Lib.hid (fun A n c hc => by
      obtain ⟨A', c', h1, h2⟩ := hW
      have h3 := h1.cell 0
      rw [hc] at h3
      have h4 : Value.slice A n c = Value.slice A' (vT es ts g k).1.length c' := by simpa using h3
      injection h4 with h5 h6 h7
      subst h5
      intro e9
      have := own_ob h2 _ e9
      omega)
    clear hW
    by_cases hlt : k < es.length
    · obtain ⟨b, off, rfl, hbB, hc0, hc1, hc2, hc3⟩ := (HX.out.below hbel (Nat.le_refl _)).at_ hlt
      obtain ⟨a0, a1, a2, a3, _⟩ := (evB_iff.1 HE.out).2 k hlt
      have hq := HQ.out k
      have t0 := tickL_in HT.out a0
      have t1 := tickL_in HT.out (show 0 ≤ (glEvent es k).2.1 by omega)
      have r0 := (rnd_bd t0 hg1).2.2
      have r1 := (rnd_bd t1 hg1).2.2
      have HS := Lib.hid (show vT es ts g (k + 1) = qStep ((vT es ts g k).1, (vT es ts g k).2) ((glEvent es k).2.2.1, rnd (tickL ts (glEvent es k).1) g, rnd (tickL ts (glEvent es k).2.1) g) from vT_succ hlt)
      have hi1 : (k : Int) < (es.length : Int) := by omega
      have hin : (k : Int).toNat = k := by omega
      have HN0 : Hid (ngL (tickL ts (glEvent es k).1) g = rnd (tickL ts (glEvent es k).1) g) := by unfold Hid; unfold ngL; rw [if_pos ⟨inR_t t0, inR_t hg1⟩]
      have HN1 : Hid (ngL (tickL ts (glEvent es k).2.1) g = rnd (tickL ts (glEvent es k).2.1) g) := by unfold Hid; unfold ngL; rw [if_pos ⟨inR_t t1, inR_t hg1⟩]
      have HBA := Lib.hid (HB.out.alloc hsz (.cells #[.int .i64 (glEvent es k).1, .int .i64 (glEvent es k).2.1, .int .i64 (glEvent es k).2.2.1, .int .i64 (glEvent es k).2.2.2] 46))
      have hblk := Blk.new wr 46 #[.int .i64 (glEvent es k).1, .int .i64 (glEvent es k).2.1, .int .i64 (glEvent es k).2.2.1, .int .i64 (glEvent es k).2.2.2]
      have HWA := Lib.hid (HW.out.al (.cells #[.int .i64 (glEvent es k).1, .int .i64 (glEvent es k).2.1, .int .i64 (glEvent es k).2.2.1, .int .i64 (glEvent es k).2.2.2] 46))
      have HBK := Lib.hid hblk
      have q0 := hblk.cell 0; have q1 := hblk.cell 1; have q2 := hblk.cell 2; have q3 := hblk.cell 3
      have za : wr.heap.size + 1 ≤ (wr.alloc (.cells #[.int .i64 (glEvent es k).1, .int .i64 (glEvent es k).2.1, .int .i64 (glEvent es k).2.2.1, .int .i64 (glEvent es k).2.2.2] 46)).heap.size := by simp
      have HAW : Hid (Away (wr.alloc (.cells #[.int .i64 (glEvent es k).1, .int .i64 (glEvent es k).2.1, .int .i64 (glEvent es k).2.2.1, .int .i64 (glEvent es k).2.2.2] 46)) w2.heap.size wr.heap.size) := Lib.hid ⟨by omega, fun A n c hc => HOBW.out A n c ((World.cell?_alloc_lt wr _ ⟨w2.heap.size, 0, none⟩ hgl).symm.trans hc)⟩
      clear hblk hbel
      generalize (glEvent es k).2.2.1 = ky at *
      generalize (glEvent es k).2.2.2 = ld at *
      generalize (glEvent es k).1 = on at *
      generalize (glEvent es k).2.1 = of at *
      generalize hx0 : rnd (tickL ts on) g = x0 at *
      generalize hx1 : rnd (tickL ts of) g = x1 at *
      generalize hy0 : tickL ts on = y0 at *
      generalize hy1 : tickL ts of = y1 at *
      generalize hve : (vT es ts g k).2 = ve at *
      generalize hvl : (vT es ts g k).1 = vl at *
      have HX0 := Lib.hid hx0; have HX1 := Lib.hid hx1; have HY0 := Lib.hid hy0; have HY1 := Lib.hid hy1
      clear hx0 hx1 hy0 hy1 hve hvl
      generalize hwa : (wr.alloc (.cells #[.int .i64 on, .int .i64 of, .int .i64 ky, .int .i64 ld] 46)) = wa at *
      have p0 : wa.cell? ⟨wr.heap.size, 0, none⟩ = some (.int .i64 on) := q0
      have p1 : wa.cell? ⟨wr.heap.size, 1, none⟩ = some (.int .i64 of) := q1
      have p2 : wa.cell? ⟨wr.heap.size, 2, none⟩ = some (.int .i64 ky) := q2
      clear q0 q1 q2 q3
      go_wp2_with fail
      go_region_held3 (fun w' => w'.cell? ⟨wr.heap.size, 0, none⟩ = some (.int .i64 on) ∧ w'.cell? ⟨wr.heap.size, 1, none⟩ = some (.int .i64 of) ∧ w'.cell? ⟨wr.heap.size, 2, none⟩ = some (.int .i64 ky))
        (first | exact ⟨p0, p1, p2⟩ | exact ⟨X4.out.cell 0, X4.out.cell 1, X4.out.cell 2⟩ | exact ⟨X5.out.cell 0, X5.out.cell 1, X5.out.cell 2⟩ | exact ⟨X6.out.cell 0, X6.out.cell 1, X6.out.cell 2⟩)
        (first
          | (go_at_call_of 25 (Value.int IntKind.i64 on); refine (impl_TickOf C d ts on _ (show RdTempo wa.drew wa.drew.heap.size C ts from RdTempo.more (RdTempo.below HY.out HBA.out.drew (Nat.le_refl _)) (show w.heap.size ≤ wa.heap.size by omega)) hl2).mono ?_; rw [HY0.out]; rintro e w4 ⟨rfl, b4⟩; have z4 : wa.heap.size ≤ w4.heap.size := b4.size; have X4 := Lib.hid (HBK.out.drew.below b4 (show wr.heap.size < wa.heap.size by omega)); have B4 := Lib.hid (HBA.out.drew.trans (b4.mono (show w.heap.size ≤ wa.heap.size by omega))); have W4 := Lib.hid (HWA.out.drew.below b4); have A4 := Lib.hid (((WtrK.refl wa.drew w2.heap.size).bel b4 (show w2.heap.size < wa.heap.size by omega)) _ _ _ HBK.out.drew HAW.out))
          | (go_at_call_of 25 (Value.int IntKind.i64 of); refine (impl_TickOf C d ts of _ (RdTempo.more (RdTempo.below HY.out B4.out (Nat.le_refl _)) (show w.heap.size ≤ w4.heap.size by omega)) hl2).mono ?_; rw [HY1.out]; rintro e w5 ⟨rfl, b5⟩; have z5 : w4.heap.size ≤ w5.heap.size := b5.size; have X5 := Lib.hid (X4.out.below b5 (by omega)); have B5 := Lib.hid (B4.out.trans (b5.mono (by omega))); have W5 := Lib.hid (W4.out.below b5); have A5 := Lib.hid (((WtrK.refl w4 w2.heap.size).bel b5 (by omega)) _ _ _ A4.out.1 A4.out.2))
          | (go_at_call_of 9 (Value.int IntKind.i64 y0); refine (impl_NearestGrid y0 g _).mono ?_; rw [HN0.out]; rintro e w' ⟨rfl, rfl⟩)
          | (go_at_call_of 9 (Value.int IntKind.i64 y1); refine (impl_NearestGrid y1 g _).mono ?_; rw [HN1.out]; rintro e w' ⟨rfl, rfl⟩)
          | (go_at_call 39; refine (impl_sound ky x0 x1 _ _ _ _ W5.out a3 (by omega) (by omega) (by omega) hq.2.2).mono ?_; rintro e w6 ⟨rfl, hw6, b6, k6⟩; have X6 := Lib.hid (k6 _ _ _ A5.out.1 A5.out.2).1))
      all_goals
        have HB6 := Lib.hid (B5.out.trans (b6.mono (by omega)))
        have HW6 := Lib.hid hw6
        clear hw6 b6 k6 p0 p1 p2
        go_wp2_with fail
        go_roundw
        case rel => exact ⟨k + 1, by omega, by go_num, by rw [HS.out]; exact HW6.out, HB6.out⟩
        case measure => simp [intOf]; omega
    · obtain rfl : k = es.length := by omega
      clear hbel
      go_wp2_with fail
      refine (impl_result _ _ _ _ HW.out).mono ?_
      rintro e w3 ⟨rfl, A9, c9, rfl, o9⟩
      have HO := Lib.hid o9; clear o9
      by_cases h60 : (vT es ts g es.length).1.length ≤ 60
      · have HF2 : Hid (quanL es ts g = ((vT es ts g es.length).1, true)) := Lib.hid (by rw [HF.out, if_pos h60])
        rw [if_pos h60] at HO
        rw [if_pos h60, decide_eq_true h60]
        go_wp2_with fail
        go_ret2
        unfold RetNB; rw [HF2.out]
        exact ⟨A9, c9, rfl, own_mono HO.out (by omega), HB.out⟩
      · have HF2 : Hid (quanL es ts g = ([], false)) := Lib.hid (by rw [HF.out, if_neg h60])
        rw [if_neg h60] at HO
        rw [if_neg h60, decide_eq_false h60]
        go_wp2_with fail
        go_ret2
        unfold RetNB; rw [HF2.out]
        exact ⟨A9, c9, rfl, own_mono HO.out (by omega), HB.out⟩
end Go.Proofs.Ytgnbnedjocolcaa
