/- The walk of FnShapeValid: it returns true. Condition: at most 2^20 bytes. -/
import Derived.Test.YtijbciiocmdmmaaSnd
import Derived.Test.YtijbciiocmdmmaaDrawN
import Derived.Test.YtijbciiocmdmmaaAlive
import Derived.Test.YtijbciiocmdmmaaSam2
namespace Go.Proofs.Ytijbciiocmdmmaa.fnShapeValid
set_option linter.unusedVariables false
open Go.RowKit
set_option linter.unusedSimpArgs false
set_option maxHeartbeats 2000000 in
theorem core (w : World) (A_z : Option Addr) (c_z : Nat) (z : List Int) (r_z : RdY w w.heap.size A_z z) (f_z : WfY z) (k_z : z.length ≤ c_z) (hbig : z.length ≤ 1048576) :
    Calls Try.prog 4 #[.slice A_z z.length c_z] w (RetB w true) := by
  have hi1 : (z.length : Int) ≤ 1048576 := by omega
  go_enter Try.func4, Try.ntmps4
  go_wp2_with fail
  refine (spec_DrawShapeValid A_z c_z z w r_z f_z hbig k_z).mono ?_
  rintro e w1 ⟨a, d, s, r, rfl, -, -, -, -, b1⟩
  have z1 := b1.size
  have HB := Lib.hid b1; clear b1 r_z f_z
  generalize hv : shapeL a d s r = v at *
  have HV := Lib.hid hv; clear hv
  have HN1 : Hid (shapeL (-1) 0 0 0 = false) := by unfold Hid; decide
  have HN2 : Hid (shapeL 0 0 1001 0 = false) := by unfold Hid; decide
  have HN3 : Hid (shapeL 0 0 0 0 = true) := by unfold Hid; decide
  go_wp2_with fail
  refine (impl_ShapeValid_b _ _ _ _ _).mono ?_
  rintro e w2 ⟨rfl, b_⟩
  have z2 := b_.size; (try simp only [World.size_alloc, size_drew] at z2)
  have hq2 := below_cells b_
  replace HB := Lib.hid (Below.trans (by first | with_reducible exact HB.out | with_reducible exact HB.out.alloc (by omega) _ | with_reducible exact (HB.out.alloc (by omega) _).alloc (by first | omega | (simp; done) | (simp; omega)) _ | with_reducible exact ((HB.out.alloc (by omega) _).alloc (by first | omega | (simp; done) | (simp; omega)) _).alloc (by first | omega | (simp; done) | (simp; omega)) _) (b_.mono (by first | omega | (simp; done) | (simp; omega))))
  rw [HV.out]
  clear b_
  go_wp2_with fail
  refine (spec_ShapeValid_b _ _ _ _ _).mono ?_
  rintro e w3 ⟨rfl, b_⟩
  have z3 := b_.size; (try simp only [World.size_alloc, size_drew] at z3)
  have hq3 := below_cells b_
  replace HB := Lib.hid (Below.trans (by first | with_reducible exact HB.out | with_reducible exact HB.out.alloc (by omega) _ | with_reducible exact (HB.out.alloc (by omega) _).alloc (by first | omega | (simp; done) | (simp; omega)) _ | with_reducible exact ((HB.out.alloc (by omega) _).alloc (by first | omega | (simp; done) | (simp; omega)) _).alloc (by first | omega | (simp; done) | (simp; omega)) _) (b_.mono (by first | omega | (simp; done) | (simp; omega))))
  rw [HV.out]
  clear b_
  go_wp2_with fail
  refine (impl_ShapeValid_b _ _ _ _ _).mono ?_
  rintro e w4 ⟨rfl, b_⟩
  have z4 := b_.size; (try simp only [World.size_alloc, size_drew] at z4)
  have hq4 := below_cells b_
  replace HB := Lib.hid (Below.trans (by first | with_reducible exact HB.out | with_reducible exact HB.out.alloc (by omega) _ | with_reducible exact (HB.out.alloc (by omega) _).alloc (by first | omega | (simp; done) | (simp; omega)) _ | with_reducible exact ((HB.out.alloc (by omega) _).alloc (by first | omega | (simp; done) | (simp; omega)) _).alloc (by first | omega | (simp; done) | (simp; omega)) _) (b_.mono (by first | omega | (simp; done) | (simp; omega))))
  rw [HN1.out]
  clear b_
  go_wp2_with fail
  refine (impl_ShapeValid_b _ _ _ _ _).mono ?_
  rintro e w5 ⟨rfl, b_⟩
  have z5 := b_.size; (try simp only [World.size_alloc, size_drew] at z5)
  have hq5 := below_cells b_
  replace HB := Lib.hid (Below.trans (by first | with_reducible exact HB.out | with_reducible exact HB.out.alloc (by omega) _ | with_reducible exact (HB.out.alloc (by omega) _).alloc (by first | omega | (simp; done) | (simp; omega)) _ | with_reducible exact ((HB.out.alloc (by omega) _).alloc (by first | omega | (simp; done) | (simp; omega)) _).alloc (by first | omega | (simp; done) | (simp; omega)) _) (b_.mono (by first | omega | (simp; done) | (simp; omega))))
  rw [HN2.out]
  clear b_
  go_wp2_with fail
  refine (impl_ShapeValid_b _ _ _ _ _).mono ?_
  rintro e w6 ⟨rfl, b_⟩
  have z6 := b_.size; (try simp only [World.size_alloc, size_drew] at z6)
  have hq6 := below_cells b_
  replace HB := Lib.hid (Below.trans (by first | with_reducible exact HB.out | with_reducible exact HB.out.alloc (by omega) _ | with_reducible exact (HB.out.alloc (by omega) _).alloc (by first | omega | (simp; done) | (simp; omega)) _ | with_reducible exact ((HB.out.alloc (by omega) _).alloc (by first | omega | (simp; done) | (simp; omega)) _).alloc (by first | omega | (simp; done) | (simp; omega)) _) (b_.mono (by first | omega | (simp; done) | (simp; omega))))
  rw [HN3.out]
  clear b_
  go_wp2_with fail
  refine (laws_alive _).mono ?_
  rintro e w7 ⟨rfl, b_⟩
  have z7 := b_.size; (try simp only [World.size_alloc, size_drew] at z7)
  have hq7 := below_cells b_
  replace HB := Lib.hid (Below.trans (by first | with_reducible exact HB.out | with_reducible exact HB.out.alloc (by omega) _ | with_reducible exact (HB.out.alloc (by omega) _).alloc (by first | omega | (simp; done) | (simp; omega)) _ | with_reducible exact ((HB.out.alloc (by omega) _).alloc (by first | omega | (simp; done) | (simp; omega)) _).alloc (by first | omega | (simp; done) | (simp; omega)) _) (b_.mono (by first | omega | (simp; done) | (simp; omega))))
  skip
  clear b_
  go_wp2_with fail
  go_ret
  exact ⟨rfl, HB.out⟩
end Go.Proofs.Ytijbciiocmdmmaa.fnShapeValid
