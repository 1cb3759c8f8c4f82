/- The draw of FnFollowPlace; contracts at a beginning of a slice. No condition but bounds on the bytes. -/
import Derived.Test.YtfmdpnnddhelaaaFolD
import Derived.Test.YtfmdpnnddhelaaaFolT
namespace Go.Proofs.Ytfmdpnnddhelaaa
open Go.RowKit
set_option linter.unusedSimpArgs false
set_option linter.unusedVariables false
theorem RdI.only' {w w' : World} {B b off g : Nat} {xs : List Int} (h : RdI w B (some ⟨b, off, none⟩) xs) (hg : w.grownBy w' (some g)) (hB : B ≤ w.heap.size) (hne : b ≠ g) : RdI w' B (some ⟨b, off, none⟩) xs :=
  ⟨h.1, fun hn => by
    obtain ⟨b', off', e, hb, hc⟩ := h.2 hn
    injection e with e; injection e with e1 e2; subst e1; subst e2
    exact ⟨b, off, rfl, hb, fun j u hu => (World.cell?_of_block (hg.block b (by omega) (fun e => hne (by injection e)))).trans (hc j u hu)⟩⟩
def RetDF (w : World) (e : Ending) (w' : World) : Prop :=
  ∃ (g1 g2 c d : Nat) (xs ys : List Int), e = .returned (.tuple #[.slice (some ⟨g1, 0, none⟩) xs.length c, .slice (some ⟨g2, 0, none⟩) ys.length d]) ∧ xs.length ≤ 9 ∧ ys.length ≤ 41 ∧ RdI w' w'.heap.size (some ⟨g1, 0, none⟩) xs ∧ RdI w' w'.heap.size (some ⟨g2, 0, none⟩) ys ∧ Below w.heap.size w w' ∧ xs.length ≤ c ∧ ys.length ≤ d
theorem spec_DrawFollowPlace (A : Option Addr) (c : Nat) (zs : List Int) (w : World) (hr : RdY w w.heap.size A zs) (hw : WfY zs) (hl : zs.length ≤ 1048576) (hc : zs.length ≤ c) :
    Calls Try.prog 26 #[.slice A zs.length c] w (RetDF w) := by
  go_enter Try.func26, Try.ntmps26
  have HY := Lib.hid hr; clear hr
  go_wp2_with fail
  refine (spec_l20Open A c zs w HY.out hw hl hc).mono ?_
  rintro e w1 ⟨rfl, r_, b_, s_⟩
  have z1 := b_.size
  have hlt : w.heap.size < w1.heap.size := r_.lt
  have hne1 : ¬ w1.heap.size = w.heap.size := by omega
  have hnf1 : ¬ w1.heap.size + 1 = w.heap.size := by omega
  have hnh1 : ¬ w1.heap.size + 1 + 1 = w.heap.size := by omega
  have HR := Lib.hid r_
  have HB := Lib.hid b_
  have HG := Lib.hid (only_refl w1 (some w.heap.size))
  clear r_ b_ s_ HY
  go_wp2_with fail
  refine (spec_l20Follow w.heap.size 0 w1 HR.out (by omega)).mono ?_
  rintro e w2 ⟨A2, C2, c2, d2, xs, ys, rfl, hx, hy, ra, rb, ⟨g2, rfl⟩, hr2, hg2, ⟨g1, rfl⟩, hca, hcb, hga, hgb⟩
  have HX := Lib.hid ra; have HY := Lib.hid rb; have HR2 := Lib.hid hr2; clear ra rb hr2 HR
  have zs2 := hg2.size
  replace HB := Lib.hid (below_only HB.out hg2 (by omega) (Nat.le_refl _))
  clear hg2 HG
  go_wp2_with fail
  refine (l20_pk w.heap.size _ 2 w2 HR2.out (by omega) (by omega)).mono ?_
  rintro e w3 ⟨k3, rfl, hk3, r_, g_⟩
  have z3 := g_.size
  have HK := Lib.hid g_
  have hkx : RdI w3 w3.heap.size (some ⟨g1, 0, none⟩) xs ∧ RdI w3 w3.heap.size (some ⟨g2, 0, none⟩) ys := by
    have n1 := hga _ rfl
    have n2 := hgb _ rfl
    exact ⟨(HX.out.only' g_ (Nat.le_refl _) (by omega)).more z3, (HY.out.only' g_ (Nat.le_refl _) (by omega)).more z3⟩
  have HX3 := Lib.hid hkx.1; have HY3 := Lib.hid hkx.2
  have HB3 := Lib.hid (below_only HB.out g_ (by omega) (Nat.le_refl _))
  clear hkx r_ g_ HK HX HY HB hga hgb
  rcases (show k3 = 0 ∨ k3 = 1 by omega) with rfl | rfl
  · go_wp2_with fail
    go_ret2
    refine ⟨g1, g2, c2, d2, xs, ys.take (ys.length / 2), ?_, hx, by rw [List.length_take]; omega, HX3.out, HY3.out.first _, HB3.out, hca, by rw [List.length_take]; omega⟩
    rw [show (ys.take (ys.length / 2)).length = ys.length / 2 by rw [List.length_take]; omega]
    rfl
  · go_wp2_with fail
    go_ret2
    exact ⟨g1, g2, c2, d2, xs, ys, rfl, hx, hy, HX3.out, HY3.out, HB3.out, hca, hcb⟩
end Go.Proofs.Ytfmdpnnddhelaaa
