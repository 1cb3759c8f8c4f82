/- The draw of FnFollowLinks; words for its law. No condition but bounds on the bytes. -/
import Derived.Test.YtfmdpnnddhelaaaFolD
import Derived.Test.YtfmdpnnddhelaaaFol6
import Derived.Test.YtfmdpnnddhelaaaFol4
namespace Go.Proofs.Ytfmdpnnddhelaaa
open Go.RowKit
set_option linter.unusedSimpArgs false
set_option linter.unusedVariables false
theorem spec_DrawFollowLinks (A : Option Addr) (c : Nat) (zs : List Int) (w : World) (hr : RdY w w.heap.size A zs) (hw : WfY zs) (hl : zs.length ≤ 1048576) (hc : zs.length ≤ c) :
    Calls Try.prog 32 #[.slice A zs.length c] w fun e w' => ∃ (A C : Option Addr) (c d : Nat) (xs ys : List Int), e = .returned (.tuple #[.slice A xs.length c, .slice C ys.length d]) ∧ xs.length ≤ 9 ∧ ys.length ≤ 41 ∧ RdI w' w'.heap.size A xs ∧ RdI w' w'.heap.size C ys ∧ (∃ g2, C = some ⟨g2, 0, none⟩) ∧ Below w.heap.size w w' ∧ (∃ g1, A = some ⟨g1, 0, none⟩) ∧ xs.length ≤ c ∧ ys.length ≤ d := by
  go_enter Try.func32, Try.ntmps32
  have HY := Lib.hid hr; clear hr
  go_wp2_with fail
  refine (spec_l20Open A c zs w HY.out hw hl hc).mono ?_
  rintro e w1 ⟨rfl, r_, b_, s_⟩
  have z1 := b_.size
  have hlt : w.heap.size < w1.heap.size := r_.lt
  have hne1 : ¬ w1.heap.size = w.heap.size := by omega
  have hnf1 : ¬ w1.heap.size + 1 = w.heap.size := by omega
  have hnh1 : ¬ w1.heap.size + 1 + 1 = w.heap.size := by omega
  have HR := Lib.hid r_
  have HB := Lib.hid b_
  have HG := Lib.hid (only_refl w1 (some w.heap.size))
  clear r_ b_ s_ HY
  go_wp2_with fail
  refine (spec_l20Follow w.heap.size 0 w1 HR.out (by omega)).mono ?_
  rintro e w2 ⟨A2, C2, c2, d2, xs, ys, rfl, hx, hy, ra, rb, hC, hr2, hg2, hA, hca, hcb, -, -⟩
  have RA := Lib.hid ra; have RB := Lib.hid rb; clear ra rb hr2
  replace HB := Lib.hid (below_only HB.out hg2 (by omega) (Nat.le_refl _))
  clear hg2
  go_wp2_with fail
  go_ret2
  exact ⟨A2, C2, c2, d2, xs, ys, rfl, hx, hy, RA.out, RB.out, hC, HB.out, hA, hca, hcb⟩
end Go.Proofs.Ytfmdpnnddhelaaa
