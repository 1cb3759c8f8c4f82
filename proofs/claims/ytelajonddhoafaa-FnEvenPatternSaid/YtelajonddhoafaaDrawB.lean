/- Contracts of the draws of patterns by themselves. No condition but bounds on the bytes. -/
import Derived.Test.YtelajonddhoafaaBeats
namespace Go.Proofs.Ytelajonddhoafaa
set_option linter.unusedVariables false
open Go.RowKit
set_option linter.unusedSimpArgs false
def RetDP (w : World) (e : Ending) (w' : World) : Prop :=
  ∃ (A : Option Addr) (c : Nat) (zs : List Bool), e = .returned (.agg #[.slice A zs.length c]) ∧ zs.length ≤ 33 ∧ zs.length ≤ c ∧ RdBo w' w'.heap.size A zs ∧ Below w.heap.size w w'
theorem spec_DrawPatternValid (A : Option Addr) (c : Nat) (zs : List Int) (w : World) (hr : RdY w w.heap.size A zs) (hw : WfY zs) (hl : zs.length ≤ 1048576) (hc : zs.length ≤ c) :
    Calls Try.prog 9 #[.slice A zs.length c] w (RetDP w) := by
  go_enter Try.func9, Try.ntmps9
  have HY := Lib.hid (fun o => RdY.alloc1 hr o); clear hr
  go_wp2_with fail
  refine (spec_l20Open A c zs _ (by exact HY.out _) hw hl hc).mono ?_
  rintro e w1 ⟨rfl, r_, b_, s_⟩
  have HK := Lib.hid ((Blk.new w _ _).below b_ (by simp))
  have HB := Lib.hid (((Below.refl w.heap.size w).alloc (Nat.le_refl _) _).trans (b_.mono (by simp)))
  simp only [World.size_alloc] at r_ b_ s_
  have z1 : w.heap.size + 2 ≤ w1.heap.size := (by omega)
  have hne1 : ¬ w1.heap.size = w.heap.size + 1 := by omega
  have hnf1 : ¬ w1.heap.size + 1 = w.heap.size + 1 := by omega
  have HR := Lib.hid r_
  have HG := Lib.hid (only_refl w1 (some (w.heap.size + 1)))
  clear r_ b_ s_ HY
  go_wp2_with fail
  refine (spec_l20Beats (w.heap.size + 1) 0 2 w1 HR.out (by omega) (by omega)).mono ?_
  rintro e w2 ⟨A2, c2, ys, rfl, hl2, hc2, rd2, lo2, hr2, g2⟩
  have z2 := g2.size
  replace HK := Lib.hid (HK.out.only g2 (by omega))
  replace HB := Lib.hid (below_only HB.out g2 (by omega) (by omega))
  have HD := Lib.hid rd2; have HL := Lib.hid lo2
  clear hr2 g2 rd2 lo2
  have c0 : w2.cell? ⟨w.heap.size, 0, none⟩ = some (.slice none 0 0) := HK.out.cell 0
  have f0 := HK.out.frozen 0
  go_wp2_with fail
  refine bodyPost_ret (v := .agg #[.slice A2 ys.length c2]) (by simp [results, Try.results9, go_sem, c0]) rfl ⟨A2, c2, ys, rfl, hl2, hc2, ?_, HB.out.setCell (Nat.le_refl _) _⟩
  exact RdBo.more (HD.out.setFar (fun b off e => by have := HL.out b off e; simp; omega) _) (by simp [World.setCell])
theorem spec_DrawPatternText (A : Option Addr) (c : Nat) (zs : List Int) (w : World) (hr : RdY w w.heap.size A zs) (hw : WfY zs) (hl : zs.length ≤ 1048576) (hc : zs.length ≤ c) :
    Calls Try.prog 13 #[.slice A zs.length c] w (RetDP w) := by
  go_enter Try.func13, Try.ntmps13
  have HY := Lib.hid (fun o => RdY.alloc1 hr o); clear hr
  go_wp2_with fail
  refine (spec_l20Open A c zs _ (by exact HY.out _) hw hl hc).mono ?_
  rintro e w1 ⟨rfl, r_, b_, s_⟩
  have HK := Lib.hid ((Blk.new w _ _).below b_ (by simp))
  have HB := Lib.hid (((Below.refl w.heap.size w).alloc (Nat.le_refl _) _).trans (b_.mono (by simp)))
  simp only [World.size_alloc] at r_ b_ s_
  have z1 : w.heap.size + 2 ≤ w1.heap.size := (by omega)
  have hne1 : ¬ w1.heap.size = w.heap.size + 1 := by omega
  have hnf1 : ¬ w1.heap.size + 1 = w.heap.size + 1 := by omega
  have HR := Lib.hid r_
  have HG := Lib.hid (only_refl w1 (some (w.heap.size + 1)))
  clear r_ b_ s_ HY
  go_wp2_with fail
  refine (spec_l20Beats (w.heap.size + 1) 0 9 w1 HR.out (by omega) (by omega)).mono ?_
  rintro e w2 ⟨A2, c2, ys, rfl, hl2, hc2, rd2, lo2, hr2, g2⟩
  have z2 := g2.size
  replace HK := Lib.hid (HK.out.only g2 (by omega))
  replace HB := Lib.hid (below_only HB.out g2 (by omega) (by omega))
  have HD := Lib.hid rd2; have HL := Lib.hid lo2
  clear hr2 g2 rd2 lo2
  have c0 : w2.cell? ⟨w.heap.size, 0, none⟩ = some (.slice none 0 0) := HK.out.cell 0
  have f0 := HK.out.frozen 0
  go_wp2_with fail
  refine bodyPost_ret (v := .agg #[.slice A2 ys.length c2]) (by simp [results, Try.results13, go_sem, c0]) rfl ⟨A2, c2, ys, rfl, hl2, hc2, ?_, HB.out.setCell (Nat.le_refl _) _⟩
  exact RdBo.more (HD.out.setFar (fun b off e => by have := HL.out b off e; simp; omega) _) (by simp [World.setCell])
theorem spec_DrawPatternGaps (A : Option Addr) (c : Nat) (zs : List Int) (w : World) (hr : RdY w w.heap.size A zs) (hw : WfY zs) (hl : zs.length ≤ 1048576) (hc : zs.length ≤ c) :
    Calls Try.prog 21 #[.slice A zs.length c] w (RetDP w) := by
  go_enter Try.func21, Try.ntmps21
  have HY := Lib.hid (fun o => RdY.alloc1 hr o); clear hr
  go_wp2_with fail
  refine (spec_l20Open A c zs _ (by exact HY.out _) hw hl hc).mono ?_
  rintro e w1 ⟨rfl, r_, b_, s_⟩
  have HK := Lib.hid ((Blk.new w _ _).below b_ (by simp))
  have HB := Lib.hid (((Below.refl w.heap.size w).alloc (Nat.le_refl _) _).trans (b_.mono (by simp)))
  simp only [World.size_alloc] at r_ b_ s_
  have z1 : w.heap.size + 2 ≤ w1.heap.size := (by omega)
  have hne1 : ¬ w1.heap.size = w.heap.size + 1 := by omega
  have hnf1 : ¬ w1.heap.size + 1 = w.heap.size + 1 := by omega
  have HR := Lib.hid r_
  have HG := Lib.hid (only_refl w1 (some (w.heap.size + 1)))
  clear r_ b_ s_ HY
  go_wp2_with fail
  refine (spec_l20Beats (w.heap.size + 1) 0 9 w1 HR.out (by omega) (by omega)).mono ?_
  rintro e w2 ⟨A2, c2, ys, rfl, hl2, hc2, rd2, lo2, hr2, g2⟩
  have z2 := g2.size
  replace HK := Lib.hid (HK.out.only g2 (by omega))
  replace HB := Lib.hid (below_only HB.out g2 (by omega) (by omega))
  have HD := Lib.hid rd2; have HL := Lib.hid lo2
  clear hr2 g2 rd2 lo2
  have c0 : w2.cell? ⟨w.heap.size, 0, none⟩ = some (.slice none 0 0) := HK.out.cell 0
  have f0 := HK.out.frozen 0
  go_wp2_with fail
  refine bodyPost_ret (v := .agg #[.slice A2 ys.length c2]) (by simp [results, Try.results21, go_sem, c0]) rfl ⟨A2, c2, ys, rfl, hl2, hc2, ?_, HB.out.setCell (Nat.le_refl _) _⟩
  exact RdBo.more (HD.out.setFar (fun b off e => by have := HL.out b off e; simp; omega) _) (by simp [World.setCell])
end Go.Proofs.Ytelajonddhoafaa
