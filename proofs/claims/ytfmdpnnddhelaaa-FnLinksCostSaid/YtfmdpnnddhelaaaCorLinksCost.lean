/- The walk of FnLinksCost: it returns true. Condition: at most 2^20 bytes. -/
import Derived.Test.YtfmdpnnddhelaaaFolK
import Derived.Test.YtfmdpnnddhelaaaAlive
namespace Go.Proofs.Ytfmdpnnddhelaaa.fnLinksCost
set_option linter.unusedVariables false
open Go.RowKit
set_option linter.unusedSimpArgs false
theorem lnkL_cases (a b : List Int) (ls : List (Int × Int)) : lnkL a b ls = -1 ∨ (0 ≤ lnkL a b ls ∧ folL a b ≤ lnkL a b ls) := by
  unfold lnkL folL
  by_cases h : okK a = true ∧ okK b = true
  · rw [if_pos h, if_pos h]
    rcases runL_ge (a := a) (b := b) ls 0 0 0 (Nat.zero_le _) (Nat.zero_le _) (by rw [D_0]; simp) with h1 | h1
    · exact .inl h1
    · exact .inr ⟨Int.le_trans (D_bd a b (okK_len h.1) (okK_len h.2)).1 h1, h1⟩
  · rw [if_neg h]; exact .inl rfl
theorem lnkL_none (a b : List Int) (ls : List (Int × Int)) : lnkL a b (ls ++ [(-1, -1)]) = -1 := by
  unfold lnkL
  split
  · exact runL_none ls 0 0 0
  · rfl
set_option maxRecDepth 100000 in
set_option maxHeartbeats 4000000 in
theorem core (w : World) (A_z : Option Addr) (c_z : Nat) (z : List Int) (r_z : RdY w w.heap.size A_z z) (f_z : WfY z) (k_z : z.length ≤ c_z) (hbig : z.length ≤ 1048576) :
    Calls Try.prog 11 #[.slice A_z z.length c_z] w (RetB w true) := by
  have hi1 : (z.length : Int) ≤ 1048576 := by omega
  go_enter Try.func11, Try.ntmps11
  go_wp2_with fail
  obtain ⟨i0, hi, hz0, hz1, hz2⟩ := info_parts infoLink'
  have HI := Lib.hid hi; have H0 := Lib.hid hz0; have H1 := Lib.hid hz1; have H2 := Lib.hid hz2; clear hi hz0 hz1 hz2
  refine (spec_DrawLinksCost A_z c_z z w r_z f_z hbig k_z).mono ?_
  rintro e w1 ⟨g1, g2, c, d, m, ge, oe, xs, ys, ls, rfl, hlx, hly, hll, ra, rb, rl, b1⟩
  have z1 := b1.size
  have HX := Lib.hid ra; have HY := Lib.hid rb; have HL := Lib.hid rl
  have HB := Lib.hid b1; clear b1 r_z f_z ra rb rl
  have hcs := lnkL_cases xs ys ls
  generalize hn : lnkL xs ys ls = n at *
  generalize hfo : folL xs ys = fo at *
  have HN := Lib.hid hn; have HFO := Lib.hid hfo
  have HM := Lib.hid (lnkL_none xs ys ls)
  clear hn hfo
  go_wp2_with fail
  refine (impl_LinksCost _ _ _ _ _ _ _ _ _ _ HX.out HY.out HL.out (by omega) (by omega) (by omega)).mono ?_
  rw [HN.out]
  rintro e w2 ⟨rfl, b2⟩
  have z2 := b2.size
  replace HX := Lib.hid ((HX.out.below b2 (by omega)).more z2); replace HY := Lib.hid ((HY.out.below b2 (by omega)).more z2); replace HL := Lib.hid (RdR.more (RdR.below HL.out b2 (by omega)) z2)
  replace HB := Lib.hid (HB.out.trans (b2.mono (by omega)))
  clear b2
  go_wp2_with fail
  refine (spec_LinksCost _ _ _ _ _ _ _ _ _ _ HX.out HY.out HL.out (by omega) (by omega) (by omega)).mono ?_
  rw [HN.out]
  rintro e w3 ⟨rfl, b3⟩
  have z3 := b3.size
  replace HX := Lib.hid ((HX.out.below b3 (by omega)).more z3); replace HY := Lib.hid ((HY.out.below b3 (by omega)).more z3); replace HL := Lib.hid (RdR.more (RdR.below HL.out b3 (by omega)) z3)
  replace HB := Lib.hid (HB.out.trans (b3.mono (by omega)))
  clear b3
  rcases hcs with rfl | ⟨h0, h1⟩
  · go_wp2_with fail
    refine (laws_alive _).mono ?_
    rintro e w4 ⟨rfl, b_⟩
    have z4 := b_.size; (try simp only [World.size_alloc, size_drew] at z4)
    have hq4 := below_cells b_
    (try (have zb4 : w1.heap.size < w4.heap.size := (by omega)))
    replace HB := Lib.hid (Below.trans (by first | with_reducible exact HB.out | with_reducible exact HB.out.alloc (by omega) _ | with_reducible exact (HB.out.alloc (by omega) _).alloc (by first | omega | (simp; done) | (simp; omega)) _ | with_reducible exact ((HB.out.alloc (by omega) _).alloc (by first | omega | (simp; done) | (simp; omega)) _).alloc (by first | omega | (simp; done) | (simp; omega)) _) (b_.mono (by first | omega | (simp; done) | (simp; omega))))
    skip
    clear b_
    go_wp2_with fail
    go_ret
    exact ⟨rfl, HB.out⟩
  have d0 : decide (n < 0) = false := decide_eq_false (by omega)
  have d1 : decide (fo ≤ n) = true := decide_eq_true h1
  go_wp2_with fail
  refine (impl_FollowCost _ _ _ _ _ _ _ HX.out HY.out (by omega) (by omega)).mono ?_
  rw [HFO.out]
  rintro e w4 ⟨rfl, b4⟩
  have z4 := b4.size
  replace HX := Lib.hid ((HX.out.below b4 (by omega)).more z4); replace HY := Lib.hid ((HY.out.below b4 (by omega)).more z4); replace HL := Lib.hid (RdR.more (RdR.below HL.out b4 (by omega)) z4)
  replace HB := Lib.hid (HB.out.trans (b4.mono (by omega)))
  clear b4
  have HE := Lib.hid ((own_empty (e := 42) (size := 2) (Below.refl w4.heap.size w4) (Nat.le_refl _)).1)
  have HLA := Lib.hid (RdR.al HL.out (Nat.le_refl _) (.cells #[] 42))
  have tok1 : True := trivial
  go_wp2_with (first
    | (at_builtin; have _t := tok1; clear _t tok1; refine append_any (by simp [Region.wanted, yielded, go_sem]) _ _ 34 rfl 42 i0 (.agg #[Value.int .i64 0, Value.int .i64 0]) 2 16 Try.underlying34 HI.out H0.out H1.out H2.out rfl (by decide) (by decide) w4.heap.size _ _ 0 [] HE.out (by simp) (by omega) rfl ⟨ge, oe, none⟩ ls.length m (by omega) (fl encLink ls) rfl (by rw [fl_length encLink_len]) (RdR.all_ encLink_len HLA.out) fl_one_cell ?_; intro A5 c5 w5 o5 b5 _; rw [Nat.zero_add, List.nil_append] at o5; have z5 := b5.size; (try simp only [World.size_alloc] at z5); have O5 := Lib.hid o5; have B5 := Lib.hid (((Below.refl w4.heap.size w4).alloc (Nat.le_refl _) _).trans b5); clear o5 b5)
    | (at_builtin; refine append_one (by simp [Region.wanted, yielded, go_sem]) _ _ 34 rfl 42 i0 (.agg #[Value.int .i64 0, Value.int .i64 0]) 2 16 Try.underlying34 HI.out H0.out H1.out H2.out rfl (by decide) (by decide) w4.heap.size w5 _ ls.length _ O5.out (by omega) (by omega) rfl [.int .i64 (-1), .int .i64 (-1)] rfl (link_one_cell _ _) rfl ?_; intro A6 c6 w6 o6 b6 _; have z6 := b6.size; have O6 := Lib.hid o6; have B6 := Lib.hid (B5.out.trans b6); clear o6 b6))
  have hown' : w6.ownsRow w4.heap.size 42 2 (.slice A6 (ls ++ [(-1, -1)]).length c6) (ls ++ [(-1, -1)]).length (fl encLink (ls ++ [(-1, -1)])) := by rw [List.length_append, fl_append, fl_one]; exact O6.out
  have z46 : w4.heap.size ≤ w6.heap.size := B6.out.size
  replace HX := Lib.hid ((HX.out.below B6.out (by omega)).more z46); replace HY := Lib.hid ((HY.out.below B6.out (by omega)).more z46)
  replace HB := Lib.hid (HB.out.trans (B6.out.mono (by omega)))
  have hc := impl_LinksCost _ _ _ c d c6 _ _ (ls ++ [(-1, -1)]) w6 HX.out HY.out (RdR.of_own hown') (by omega) (by omega) (by simp; omega)
  rw [HM.out] at hc
  simp only [List.length_append, List.length_singleton] at hc
  refine hc.mono ?_
  rintro e w7 ⟨rfl, b7⟩
  replace HB := Lib.hid (HB.out.trans (b7.mono (by omega)))
  clear hc b7 hown'
  go_wp2_with fail
  go_ret
  exact ⟨rfl, HB.out⟩
end Go.Proofs.Ytfmdpnnddhelaaa.fnLinksCost
