/- The walk of FnQuantizeError: it returns true. Condition: at most 2^20 bytes. -/
import Derived.Test.YtgnbnedjocolcaaDrawR
import Derived.Test.YtgnbnedjocolcaaQErr
import Derived.Test.YtgnbnedjocolcaaAlive
namespace Go.Proofs.Ytgnbnedjocolcaa.fnQuantizeError
set_option linter.unusedVariables false
open Go.RowKit
set_option linter.unusedSimpArgs false
theorem rnd_near {t g : Int} (h1 : 0 ≤ t) (h2 : 1 ≤ g) : 2 * max (t - rnd t g) (rnd t g - t) ≤ g := by
  have hp : 0 < 2 * g := by omega
  have a1 : (2 * t + g) / (2 * g) * (2 * g) ≤ 2 * t + g := Int.ediv_mul_le _ (by omega)
  have a2 : 2 * t + g < ((2 * t + g) / (2 * g) + 1) * (2 * g) := Int.lt_ediv_add_one_mul_self _ hp
  have e1 : (2 * t + g) / (2 * g) * (2 * g) = 2 * rnd t g := by unfold rnd; rw [Int.mul_left_comm]
  rw [Int.add_mul, e1] at a2
  rw [e1] at a1
  omega
theorem qerr_near {ts : List (Int × Int)} {es : List (Int × Int × Int × Int)} (hv : tvB ts = true) {g : Int} (hg : 1 ≤ g ∧ g ≤ 768) (he : evB es = true) : ∀ n, n ≤ es.length → 2 * qerrTo ts es g n ≤ g := by
  intro n
  induction n with
  | zero => intro _; simp only [qerrTo]; omega
  | succ n ih =>
    intro h
    have i1 := ih (by omega)
    obtain ⟨a, b, _⟩ := (evB_iff.1 he).2 n (by omega)
    have h1 := rnd_near (tickL_in hv a).1 hg.1
    have h2 := rnd_near (tickL_in hv (show 0 ≤ (glEvent es n).2.1 by omega)).1 hg.1
    simp only [qerrTo, dE]; omega
theorem qerr_one {ts : List (Int × Int)} {es : List (Int × Int × Int × Int)} (hv : tvB ts = true) (he : evB es = true) : qerrL es ts 1 = 0 := by
  have h1 := qerr_near hv (g := 1) (by omega) he es.length (Nat.le_refl _)
  have h2 := qerrTo_bd hv (g := 1) (by omega) he es.length (Nat.le_refl _)
  unfold qerrL
  rw [if_pos ⟨he, hv, by decide⟩]
  omega
theorem qerr_cases (es : List (Int × Int × Int × Int)) (ts : List (Int × Int)) (g : Int) : qerrL es ts g = -1 ∨ (0 ≤ qerrL es ts g ∧ qerrL es ts g ≤ 50768 ∧ 2 * qerrL es ts g ≤ g ∧ qerrL es ts 1 = 0) := by
  by_cases h : evB es = true ∧ tvB ts = true ∧ inR g 1 768 = true
  · have hg := inR_iff.1 h.2.2
    have e : qerrL es ts g = qerrTo ts es g es.length := if_pos h
    have h2 := qerrTo_bd h.2.1 hg h.1 es.length (Nat.le_refl _)
    exact .inr ⟨by omega, by omega, by rw [e]; exact qerr_near h.2.1 hg h.1 _ (Nat.le_refl _), qerr_one h.2.1 h.1⟩
  · exact .inl (if_neg h)
set_option maxRecDepth 100000 in
set_option maxHeartbeats 4000000 in
theorem core (w : World) (A_z : Option Addr) (c_z : Nat) (z : List Int) (r_z : RdY w w.heap.size A_z z) (f_z : WfY z) (k_z : z.length ≤ c_z) (hbig : z.length ≤ 1048576) :
    Calls Try.prog 4 #[.slice A_z z.length c_z] w (RetB w true) := by
  have hi1 : (z.length : Int) ≤ 1048576 := by omega
  go_enter Try.func4, Try.ntmps4
  go_wp2_with fail
  refine (spec_DrawQuantizeError A_z c_z z w r_z f_z hbig k_z).mono ?_
  rintro e w1 ⟨A2, C2, c2, d2, es, ts, gr, rfl, he, ht, hgr, hE, hT, b1⟩
  have z1 := b1.size
  have HE := Lib.hid hE; have HT := Lib.hid hT; have HB := Lib.hid b1; clear b1 r_z f_z hE hT
  have hcs := qerr_cases es ts gr
  generalize hn : qerrL es ts gr = n at *
  have HN := Lib.hid hn
  generalize hn1 : qerrL es ts 1 = n1 at *
  have HN1 := Lib.hid hn1
  clear hn hn1
  go_wp2_with fail
  refine (impl_QuantizeError _ _ _ _ _ _ _ _ HE.out HT.out (by omega) (by omega)).mono ?_
  rw [HN.out]
  rintro e w2 ⟨rfl, b2⟩
  have z2 := b2.size
  replace HE := Lib.hid (RdEvent.more (RdEvent.below HE.out b2 (by omega)) z2); replace HT := Lib.hid (RdTempo.more (RdTempo.below HT.out b2 (by omega)) z2)
  replace HB := Lib.hid (HB.out.trans (b2.mono (by omega)))
  clear b2
  go_wp2_with fail
  refine (spec_QuantizeError _ _ _ _ _ _ _ _ HE.out HT.out (by omega) (by omega)).mono ?_
  rw [HN.out]
  rintro e w3 ⟨rfl, b3⟩
  have z3 := b3.size
  replace HE := Lib.hid (RdEvent.more (RdEvent.below HE.out b3 (by omega)) z3); replace HT := Lib.hid (RdTempo.more (RdTempo.below HT.out b3 (by omega)) z3)
  replace HB := Lib.hid (HB.out.trans (b3.mono (by omega)))
  clear b3
  rcases hcs with rfl | ⟨h0, h1, h2, rfl⟩
  · go_wp2_with fail
    refine (laws_alive _).mono ?_
    rintro e w4 ⟨rfl, b_⟩
    have z4 := b_.size; (try simp only [World.size_alloc, size_drew] at z4)
    have hq4 := below_cells b_
    (try (have zb4 : w1.heap.size < w4.heap.size := (by omega)))
    replace HB := Lib.hid (Below.trans (by first | with_reducible exact HB.out | with_reducible exact HB.out.alloc (by omega) _ | with_reducible exact (HB.out.alloc (by omega) _).alloc (by first | omega | (simp; done) | (simp; omega)) _ | with_reducible exact ((HB.out.alloc (by omega) _).alloc (by first | omega | (simp; done) | (simp; omega)) _).alloc (by first | omega | (simp; done) | (simp; omega)) _) (b_.mono (by first | omega | (simp; done) | (simp; omega))))
    skip
    clear b_
    go_wp2_with fail
    go_ret
    exact ⟨rfl, HB.out⟩
  have d0 : decide (n < 0) = false := decide_eq_false (by omega)
  have d1 : decide (2 * n ≤ gr) = true := decide_eq_true h2
  go_wp2_with fail
  refine (impl_QuantizeError _ _ _ _ _ _ _ _ HE.out HT.out (by omega) (by omega)).mono ?_
  rw [HN1.out]
  rintro e w4 ⟨rfl, b4⟩
  replace HB := Lib.hid (HB.out.trans (b4.mono (by omega)))
  clear b4
  go_wp2_with fail
  go_ret
  exact ⟨rfl, HB.out⟩
end Go.Proofs.Ytgnbnedjocolcaa.fnQuantizeError
