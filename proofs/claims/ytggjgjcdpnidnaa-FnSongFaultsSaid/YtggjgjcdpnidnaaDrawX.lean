/- Contracts of the draws of the laws over songs. No condition but bounds on the bytes. -/
import Derived.Test.YtggjgjcdpnidnaaDrawU
namespace Go.Proofs.Ytggjgjcdpnidnaa
open Go.RowKit
set_option linter.unusedSimpArgs false
set_option linter.unusedVariables false
set_option maxRecDepth 100000
def RetDS (w : World) (e : Ending) (w' : World) : Prop :=
  ∃ (f : Int) (m : Bool) (b u : Int) (C : Option Addr) (d : Nat) (ts : List (Int × Int)) (A2 : Option Addr) (c2 : Nat) (vs : List (List Nt)), e = .returned (.agg #[.int .i64 f, .bool m, .int .i64 b, .int .i64 u, .slice C ts.length d, .slice A2 vs.length c2]) ∧ ts.length ≤ 4 ∧ vs.length ≤ 4 ∧ (∀ v ∈ vs, v.length ≤ 61) ∧ RdTempo w' w'.heap.size C ts ∧ RdVs w' w'.heap.size A2 vs ∧ Below w.heap.size w w'
set_option maxHeartbeats 2000000 in
theorem spec_DrawSongValid (A : Option Addr) (c : Nat) (zs : List Int) (w : World) (hr : RdY w w.heap.size A zs) (hw : WfY zs) (hl : zs.length ≤ 1048576) (hc : zs.length ≤ c) :
    Calls Try.prog 7 #[.slice A zs.length c] w (RetDS w) := by
  have HY := Lib.hid (fun o => (show RdY (w.alloc o) (w.alloc o).heap.size A zs from Rd.more (RdY.below hr ((Below.refl w.heap.size w).alloc (Nat.le_refl _) o) (Nat.le_refl _)) (by simp))); clear hr
  go_enter Try.func7, Try.ntmps7
  go_wp2_with fail
  refine (spec_l20Open A c zs _ (by exact HY.out _) hw hl hc).mono ?_
  rintro e w1 ⟨rfl, r_, b_, s_⟩
  have HK := Lib.hid ((Blk.new w 28 #[.int .i64 0, .bool false, .int .i64 0, .int .i64 0, .slice none 0 0, .slice none 0 0]).below b_ (by simp))
  have HB := Lib.hid (((Below.refl w.heap.size w).alloc (Nat.le_refl _) (.cells #[.int .i64 0, .bool false, .int .i64 0, .int .i64 0, .slice none 0 0, .slice none 0 0] 28)).trans (b_.mono (by simp)))
  simp only [World.size_alloc] at s_ r_
  have HR := Lib.hid r_
  have z1 : w.heap.size + 2 ≤ w1.heap.size := by omega
  clear r_ b_ s_ HY
  go_wp2_with fail
  refine (spec_l20Song _ 0 2 _ HR.out (by omega) (by omega)).mono ?_
  rintro e w2 ⟨f, m, b, u, C, d, ts, A2, c2, vs, hs, rfl, hts, hvs, h61, ht, hv, r_, g_⟩
  have z2 := g_.size
  replace HK := Lib.hid (HK.out.only g_ (by omega))
  replace HB := Lib.hid (below_only HB.out g_ (by omega) (by omega))
  have HTE := Lib.hid ht; have HV := Lib.hid hv; have H61 := Lib.hid h61
  clear ht hv r_ g_ h61 HR
  have d0 := HK.out.cell 0; have f0 := HK.out.frozen 0
  have d1 := HK.out.cell 1; have f1 := HK.out.frozen 1
  have d2 := HK.out.cell 2; have f2 := HK.out.frozen 2
  have d3 := HK.out.cell 3; have f3 := HK.out.frozen 3
  have d4 := HK.out.cell 4; have f4 := HK.out.frozen 4
  have d5 := HK.out.cell 5; have f5 := HK.out.frozen 5
  go_wp2_with fail
  have HK3 := Lib.hid ((((((HK.out.set_ 0 (.int .i64 f)).set_ 1 (.bool m)).set_ 2 (.int .i64 b)).set_ 3 (.int .i64 u)).set_ 4 (.slice C ts.length d)).set_ 5 (.slice A2 vs.length c2))
  have HT3 := Lib.hid (own_low (own_low (own_low (own_low (own_low (own_low HTE.out (p := ⟨w.heap.size, 0, none⟩) (by simp; omega) (.int .i64 f)) (p := ⟨w.heap.size, 1, none⟩) (by simp; omega) (.bool m)) (p := ⟨w.heap.size, 2, none⟩) (by simp; omega) (.int .i64 b)) (p := ⟨w.heap.size, 3, none⟩) (by simp; omega) (.int .i64 u)) (p := ⟨w.heap.size, 4, none⟩) (by simp; omega) (.slice C ts.length d)) (p := ⟨w.heap.size, 5, none⟩) (by simp; omega) (.slice A2 vs.length c2))
  have HV3 := Lib.hid ((((((HV.out.far (p := ⟨w.heap.size, 0, none⟩) (by simp; omega) (.int .i64 f)).far (p := ⟨w.heap.size, 1, none⟩) (by simp; omega) (.bool m)).far (p := ⟨w.heap.size, 2, none⟩) (by simp; omega) (.int .i64 b)).far (p := ⟨w.heap.size, 3, none⟩) (by simp; omega) (.int .i64 u)).far (p := ⟨w.heap.size, 4, none⟩) (by simp; omega) (.slice C ts.length d)).far (p := ⟨w.heap.size, 5, none⟩) (by simp; omega) (.slice A2 vs.length c2))
  have HB3 := Lib.hid (Below.setCell (Below.setCell (Below.setCell (Below.setCell (Below.setCell (Below.setCell HB.out (p := ⟨w.heap.size, 0, none⟩) (by simp) (.int .i64 f)) (p := ⟨w.heap.size, 1, none⟩) (by simp) (.bool m)) (p := ⟨w.heap.size, 2, none⟩) (by simp) (.int .i64 b)) (p := ⟨w.heap.size, 3, none⟩) (by simp) (.int .i64 u)) (p := ⟨w.heap.size, 4, none⟩) (by simp) (.slice C ts.length d)) (p := ⟨w.heap.size, 5, none⟩) (by simp) (.slice A2 vs.length c2))
  generalize ((((((w2.setCell ⟨w.heap.size, 0, none⟩ (.int .i64 f)).setCell ⟨w.heap.size, 1, none⟩ (.bool m)).setCell ⟨w.heap.size, 2, none⟩ (.int .i64 b)).setCell ⟨w.heap.size, 2 + 1, none⟩ (.int .i64 u)).setCell ⟨w.heap.size, 4, none⟩ (.slice C ts.length d)).setCell ⟨w.heap.size, 5, none⟩ (.slice A2 vs.length c2)) = W at *
  have r0 : W.cell? ⟨w.heap.size, 0, none⟩ = some (.int .i64 f) := HK3.out.cell 0
  have r1 : W.cell? ⟨w.heap.size, 1, none⟩ = some (.bool m) := HK3.out.cell 1
  have r2 : W.cell? ⟨w.heap.size, 2, none⟩ = some (.int .i64 b) := HK3.out.cell 2
  have r3 : W.cell? ⟨w.heap.size, 3, none⟩ = some (.int .i64 u) := HK3.out.cell 3
  have r4 : W.cell? ⟨w.heap.size, 4, none⟩ = some (.slice C ts.length d) := HK3.out.cell 4
  have r5 : W.cell? ⟨w.heap.size, 5, none⟩ = some (.slice A2 vs.length c2) := HK3.out.cell 5
  refine bodyPost_ret (v := .agg #[.int .i64 f, .bool m, .int .i64 b, .int .i64 u, .slice C ts.length d, .slice A2 vs.length c2]) (by simp [results, Try.results7, go_sem, r0, r1, r2, r3, r4, r5]) rfl ⟨f, m, b, u, C, d, ts, A2, c2, vs, rfl, hts, hvs, H61.out, RdR.of_own HT3.out, HV3.out.rd, HB3.out⟩
set_option maxHeartbeats 2000000 in
theorem spec_DrawSongBars (A : Option Addr) (c : Nat) (zs : List Int) (w : World) (hr : RdY w w.heap.size A zs) (hw : WfY zs) (hl : zs.length ≤ 1048576) (hc : zs.length ≤ c) :
    Calls Try.prog 11 #[.slice A zs.length c] w (RetDS w) := by
  have HY := Lib.hid (fun o => (show RdY (w.alloc o) (w.alloc o).heap.size A zs from Rd.more (RdY.below hr ((Below.refl w.heap.size w).alloc (Nat.le_refl _) o) (Nat.le_refl _)) (by simp))); clear hr
  go_enter Try.func11, Try.ntmps11
  go_wp2_with fail
  refine (spec_l20Open A c zs _ (by exact HY.out _) hw hl hc).mono ?_
  rintro e w1 ⟨rfl, r_, b_, s_⟩
  have HK := Lib.hid ((Blk.new w 28 #[.int .i64 0, .bool false, .int .i64 0, .int .i64 0, .slice none 0 0, .slice none 0 0]).below b_ (by simp))
  have HB := Lib.hid (((Below.refl w.heap.size w).alloc (Nat.le_refl _) (.cells #[.int .i64 0, .bool false, .int .i64 0, .int .i64 0, .slice none 0 0, .slice none 0 0] 28)).trans (b_.mono (by simp)))
  simp only [World.size_alloc] at s_ r_
  have HR := Lib.hid r_
  have z1 : w.heap.size + 2 ≤ w1.heap.size := by omega
  clear r_ b_ s_ HY
  go_wp2_with fail
  refine (spec_l20Song _ 0 9 _ HR.out (by omega) (by omega)).mono ?_
  rintro e w2 ⟨f, m, b, u, C, d, ts, A2, c2, vs, hs, rfl, hts, hvs, h61, ht, hv, r_, g_⟩
  have z2 := g_.size
  replace HK := Lib.hid (HK.out.only g_ (by omega))
  replace HB := Lib.hid (below_only HB.out g_ (by omega) (by omega))
  have HTE := Lib.hid ht; have HV := Lib.hid hv; have H61 := Lib.hid h61
  clear ht hv r_ g_ h61 HR
  have d0 := HK.out.cell 0; have f0 := HK.out.frozen 0
  have d1 := HK.out.cell 1; have f1 := HK.out.frozen 1
  have d2 := HK.out.cell 2; have f2 := HK.out.frozen 2
  have d3 := HK.out.cell 3; have f3 := HK.out.frozen 3
  have d4 := HK.out.cell 4; have f4 := HK.out.frozen 4
  have d5 := HK.out.cell 5; have f5 := HK.out.frozen 5
  go_wp2_with fail
  have HK3 := Lib.hid ((((((HK.out.set_ 0 (.int .i64 f)).set_ 1 (.bool m)).set_ 2 (.int .i64 b)).set_ 3 (.int .i64 u)).set_ 4 (.slice C ts.length d)).set_ 5 (.slice A2 vs.length c2))
  have HT3 := Lib.hid (own_low (own_low (own_low (own_low (own_low (own_low HTE.out (p := ⟨w.heap.size, 0, none⟩) (by simp; omega) (.int .i64 f)) (p := ⟨w.heap.size, 1, none⟩) (by simp; omega) (.bool m)) (p := ⟨w.heap.size, 2, none⟩) (by simp; omega) (.int .i64 b)) (p := ⟨w.heap.size, 3, none⟩) (by simp; omega) (.int .i64 u)) (p := ⟨w.heap.size, 4, none⟩) (by simp; omega) (.slice C ts.length d)) (p := ⟨w.heap.size, 5, none⟩) (by simp; omega) (.slice A2 vs.length c2))
  have HV3 := Lib.hid ((((((HV.out.far (p := ⟨w.heap.size, 0, none⟩) (by simp; omega) (.int .i64 f)).far (p := ⟨w.heap.size, 1, none⟩) (by simp; omega) (.bool m)).far (p := ⟨w.heap.size, 2, none⟩) (by simp; omega) (.int .i64 b)).far (p := ⟨w.heap.size, 3, none⟩) (by simp; omega) (.int .i64 u)).far (p := ⟨w.heap.size, 4, none⟩) (by simp; omega) (.slice C ts.length d)).far (p := ⟨w.heap.size, 5, none⟩) (by simp; omega) (.slice A2 vs.length c2))
  have HB3 := Lib.hid (Below.setCell (Below.setCell (Below.setCell (Below.setCell (Below.setCell (Below.setCell HB.out (p := ⟨w.heap.size, 0, none⟩) (by simp) (.int .i64 f)) (p := ⟨w.heap.size, 1, none⟩) (by simp) (.bool m)) (p := ⟨w.heap.size, 2, none⟩) (by simp) (.int .i64 b)) (p := ⟨w.heap.size, 3, none⟩) (by simp) (.int .i64 u)) (p := ⟨w.heap.size, 4, none⟩) (by simp) (.slice C ts.length d)) (p := ⟨w.heap.size, 5, none⟩) (by simp) (.slice A2 vs.length c2))
  generalize ((((((w2.setCell ⟨w.heap.size, 0, none⟩ (.int .i64 f)).setCell ⟨w.heap.size, 1, none⟩ (.bool m)).setCell ⟨w.heap.size, 2, none⟩ (.int .i64 b)).setCell ⟨w.heap.size, 2 + 1, none⟩ (.int .i64 u)).setCell ⟨w.heap.size, 4, none⟩ (.slice C ts.length d)).setCell ⟨w.heap.size, 5, none⟩ (.slice A2 vs.length c2)) = W at *
  have r0 : W.cell? ⟨w.heap.size, 0, none⟩ = some (.int .i64 f) := HK3.out.cell 0
  have r1 : W.cell? ⟨w.heap.size, 1, none⟩ = some (.bool m) := HK3.out.cell 1
  have r2 : W.cell? ⟨w.heap.size, 2, none⟩ = some (.int .i64 b) := HK3.out.cell 2
  have r3 : W.cell? ⟨w.heap.size, 3, none⟩ = some (.int .i64 u) := HK3.out.cell 3
  have r4 : W.cell? ⟨w.heap.size, 4, none⟩ = some (.slice C ts.length d) := HK3.out.cell 4
  have r5 : W.cell? ⟨w.heap.size, 5, none⟩ = some (.slice A2 vs.length c2) := HK3.out.cell 5
  refine bodyPost_ret (v := .agg #[.int .i64 f, .bool m, .int .i64 b, .int .i64 u, .slice C ts.length d, .slice A2 vs.length c2]) (by simp [results, Try.results11, go_sem, r0, r1, r2, r3, r4, r5]) rfl ⟨f, m, b, u, C, d, ts, A2, c2, vs, rfl, hts, hvs, H61.out, RdR.of_own HT3.out, HV3.out.rd, HB3.out⟩
set_option maxHeartbeats 2000000 in
theorem spec_DrawSongFaults (A : Option Addr) (c : Nat) (zs : List Int) (w : World) (hr : RdY w w.heap.size A zs) (hw : WfY zs) (hl : zs.length ≤ 1048576) (hc : zs.length ≤ c) :
    Calls Try.prog 19 #[.slice A zs.length c] w (RetDS w) := by
  have HY := Lib.hid (fun o => (show RdY (w.alloc o) (w.alloc o).heap.size A zs from Rd.more (RdY.below hr ((Below.refl w.heap.size w).alloc (Nat.le_refl _) o) (Nat.le_refl _)) (by simp))); clear hr
  go_enter Try.func19, Try.ntmps19
  go_wp2_with fail
  refine (spec_l20Open A c zs _ (by exact HY.out _) hw hl hc).mono ?_
  rintro e w1 ⟨rfl, r_, b_, s_⟩
  have HK := Lib.hid ((Blk.new w 28 #[.int .i64 0, .bool false, .int .i64 0, .int .i64 0, .slice none 0 0, .slice none 0 0]).below b_ (by simp))
  have HB := Lib.hid (((Below.refl w.heap.size w).alloc (Nat.le_refl _) (.cells #[.int .i64 0, .bool false, .int .i64 0, .int .i64 0, .slice none 0 0, .slice none 0 0] 28)).trans (b_.mono (by simp)))
  simp only [World.size_alloc] at s_ r_
  have HR := Lib.hid r_
  have z1 : w.heap.size + 2 ≤ w1.heap.size := by omega
  clear r_ b_ s_ HY
  go_wp2_with fail
  refine (spec_l20Song _ 0 9 _ HR.out (by omega) (by omega)).mono ?_
  rintro e w2 ⟨f, m, b, u, C, d, ts, A2, c2, vs, hs, rfl, hts, hvs, h61, ht, hv, r_, g_⟩
  have z2 := g_.size
  replace HK := Lib.hid (HK.out.only g_ (by omega))
  replace HB := Lib.hid (below_only HB.out g_ (by omega) (by omega))
  have HTE := Lib.hid ht; have HV := Lib.hid hv; have H61 := Lib.hid h61
  clear ht hv r_ g_ h61 HR
  have d0 := HK.out.cell 0; have f0 := HK.out.frozen 0
  have d1 := HK.out.cell 1; have f1 := HK.out.frozen 1
  have d2 := HK.out.cell 2; have f2 := HK.out.frozen 2
  have d3 := HK.out.cell 3; have f3 := HK.out.frozen 3
  have d4 := HK.out.cell 4; have f4 := HK.out.frozen 4
  have d5 := HK.out.cell 5; have f5 := HK.out.frozen 5
  go_wp2_with fail
  have HK3 := Lib.hid ((((((HK.out.set_ 0 (.int .i64 f)).set_ 1 (.bool m)).set_ 2 (.int .i64 b)).set_ 3 (.int .i64 u)).set_ 4 (.slice C ts.length d)).set_ 5 (.slice A2 vs.length c2))
  have HT3 := Lib.hid (own_low (own_low (own_low (own_low (own_low (own_low HTE.out (p := ⟨w.heap.size, 0, none⟩) (by simp; omega) (.int .i64 f)) (p := ⟨w.heap.size, 1, none⟩) (by simp; omega) (.bool m)) (p := ⟨w.heap.size, 2, none⟩) (by simp; omega) (.int .i64 b)) (p := ⟨w.heap.size, 3, none⟩) (by simp; omega) (.int .i64 u)) (p := ⟨w.heap.size, 4, none⟩) (by simp; omega) (.slice C ts.length d)) (p := ⟨w.heap.size, 5, none⟩) (by simp; omega) (.slice A2 vs.length c2))
  have HV3 := Lib.hid ((((((HV.out.far (p := ⟨w.heap.size, 0, none⟩) (by simp; omega) (.int .i64 f)).far (p := ⟨w.heap.size, 1, none⟩) (by simp; omega) (.bool m)).far (p := ⟨w.heap.size, 2, none⟩) (by simp; omega) (.int .i64 b)).far (p := ⟨w.heap.size, 3, none⟩) (by simp; omega) (.int .i64 u)).far (p := ⟨w.heap.size, 4, none⟩) (by simp; omega) (.slice C ts.length d)).far (p := ⟨w.heap.size, 5, none⟩) (by simp; omega) (.slice A2 vs.length c2))
  have HB3 := Lib.hid (Below.setCell (Below.setCell (Below.setCell (Below.setCell (Below.setCell (Below.setCell HB.out (p := ⟨w.heap.size, 0, none⟩) (by simp) (.int .i64 f)) (p := ⟨w.heap.size, 1, none⟩) (by simp) (.bool m)) (p := ⟨w.heap.size, 2, none⟩) (by simp) (.int .i64 b)) (p := ⟨w.heap.size, 3, none⟩) (by simp) (.int .i64 u)) (p := ⟨w.heap.size, 4, none⟩) (by simp) (.slice C ts.length d)) (p := ⟨w.heap.size, 5, none⟩) (by simp) (.slice A2 vs.length c2))
  generalize ((((((w2.setCell ⟨w.heap.size, 0, none⟩ (.int .i64 f)).setCell ⟨w.heap.size, 1, none⟩ (.bool m)).setCell ⟨w.heap.size, 2, none⟩ (.int .i64 b)).setCell ⟨w.heap.size, 2 + 1, none⟩ (.int .i64 u)).setCell ⟨w.heap.size, 4, none⟩ (.slice C ts.length d)).setCell ⟨w.heap.size, 5, none⟩ (.slice A2 vs.length c2)) = W at *
  have r0 : W.cell? ⟨w.heap.size, 0, none⟩ = some (.int .i64 f) := HK3.out.cell 0
  have r1 : W.cell? ⟨w.heap.size, 1, none⟩ = some (.bool m) := HK3.out.cell 1
  have r2 : W.cell? ⟨w.heap.size, 2, none⟩ = some (.int .i64 b) := HK3.out.cell 2
  have r3 : W.cell? ⟨w.heap.size, 3, none⟩ = some (.int .i64 u) := HK3.out.cell 3
  have r4 : W.cell? ⟨w.heap.size, 4, none⟩ = some (.slice C ts.length d) := HK3.out.cell 4
  have r5 : W.cell? ⟨w.heap.size, 5, none⟩ = some (.slice A2 vs.length c2) := HK3.out.cell 5
  refine bodyPost_ret (v := .agg #[.int .i64 f, .bool m, .int .i64 b, .int .i64 u, .slice C ts.length d, .slice A2 vs.length c2]) (by simp [results, Try.results19, go_sem, r0, r1, r2, r3, r4, r5]) rfl ⟨f, m, b, u, C, d, ts, A2, c2, vs, rfl, hts, hvs, H61.out, RdR.of_own HT3.out, HV3.out.rd, HB3.out⟩
set_option maxHeartbeats 2000000 in
theorem spec_DrawSongTime (A : Option Addr) (c : Nat) (zs : List Int) (w : World) (hr : RdY w w.heap.size A zs) (hw : WfY zs) (hl : zs.length ≤ 1048576) (hc : zs.length ≤ c) :
    Calls Try.prog 15 #[.slice A zs.length c] w (RetDS w) := by
  have HY := Lib.hid (fun o => (show RdY (w.alloc o) (w.alloc o).heap.size A zs from Rd.more (RdY.below hr ((Below.refl w.heap.size w).alloc (Nat.le_refl _) o) (Nat.le_refl _)) (by simp))); clear hr
  go_enter Try.func15, Try.ntmps15
  go_wp2_with fail
  refine (spec_l20Open A c zs _ (by exact HY.out _) hw hl hc).mono ?_
  rintro e w1 ⟨rfl, r_, b_, s_⟩
  have HK := Lib.hid ((Blk.new w 28 #[.int .i64 0, .bool false, .int .i64 0, .int .i64 0, .slice none 0 0, .slice none 0 0]).below b_ (by simp))
  have HB := Lib.hid (((Below.refl w.heap.size w).alloc (Nat.le_refl _) (.cells #[.int .i64 0, .bool false, .int .i64 0, .int .i64 0, .slice none 0 0, .slice none 0 0] 28)).trans (b_.mono (by simp)))
  simp only [World.size_alloc] at s_ r_
  have HR := Lib.hid r_
  have z1 : w.heap.size + 2 ≤ w1.heap.size := by omega
  clear r_ b_ s_ HY
  go_wp2_with fail
  refine (spec_l20Song _ 0 9 _ HR.out (by omega) (by omega)).mono ?_
  rintro e w2 ⟨f, m, b, u, C, d, ts, A2, c2, vs, hs, rfl, hts, hvs, h61, ht, hv, r_, g_⟩
  have z2 := g_.size
  replace HK := Lib.hid (HK.out.only g_ (by omega))
  replace HB := Lib.hid (below_only HB.out g_ (by omega) (by omega))
  have HTE := Lib.hid ht; have HV := Lib.hid hv; have H61 := Lib.hid h61
  clear ht hv r_ g_ h61 HR
  have d0 := HK.out.cell 0; have f0 := HK.out.frozen 0
  have d1 := HK.out.cell 1; have f1 := HK.out.frozen 1
  have d2 := HK.out.cell 2; have f2 := HK.out.frozen 2
  have d3 := HK.out.cell 3; have f3 := HK.out.frozen 3
  have d4 := HK.out.cell 4; have f4 := HK.out.frozen 4
  have d5 := HK.out.cell 5; have f5 := HK.out.frozen 5
  go_wp2_with fail
  have HK3 := Lib.hid ((((((HK.out.set_ 0 (.int .i64 f)).set_ 1 (.bool m)).set_ 2 (.int .i64 b)).set_ 3 (.int .i64 u)).set_ 4 (.slice C ts.length d)).set_ 5 (.slice A2 vs.length c2))
  have HT3 := Lib.hid (own_low (own_low (own_low (own_low (own_low (own_low HTE.out (p := ⟨w.heap.size, 0, none⟩) (by simp; omega) (.int .i64 f)) (p := ⟨w.heap.size, 1, none⟩) (by simp; omega) (.bool m)) (p := ⟨w.heap.size, 2, none⟩) (by simp; omega) (.int .i64 b)) (p := ⟨w.heap.size, 3, none⟩) (by simp; omega) (.int .i64 u)) (p := ⟨w.heap.size, 4, none⟩) (by simp; omega) (.slice C ts.length d)) (p := ⟨w.heap.size, 5, none⟩) (by simp; omega) (.slice A2 vs.length c2))
  have HV3 := Lib.hid ((((((HV.out.far (p := ⟨w.heap.size, 0, none⟩) (by simp; omega) (.int .i64 f)).far (p := ⟨w.heap.size, 1, none⟩) (by simp; omega) (.bool m)).far (p := ⟨w.heap.size, 2, none⟩) (by simp; omega) (.int .i64 b)).far (p := ⟨w.heap.size, 3, none⟩) (by simp; omega) (.int .i64 u)).far (p := ⟨w.heap.size, 4, none⟩) (by simp; omega) (.slice C ts.length d)).far (p := ⟨w.heap.size, 5, none⟩) (by simp; omega) (.slice A2 vs.length c2))
  have HB3 := Lib.hid (Below.setCell (Below.setCell (Below.setCell (Below.setCell (Below.setCell (Below.setCell HB.out (p := ⟨w.heap.size, 0, none⟩) (by simp) (.int .i64 f)) (p := ⟨w.heap.size, 1, none⟩) (by simp) (.bool m)) (p := ⟨w.heap.size, 2, none⟩) (by simp) (.int .i64 b)) (p := ⟨w.heap.size, 3, none⟩) (by simp) (.int .i64 u)) (p := ⟨w.heap.size, 4, none⟩) (by simp) (.slice C ts.length d)) (p := ⟨w.heap.size, 5, none⟩) (by simp) (.slice A2 vs.length c2))
  generalize ((((((w2.setCell ⟨w.heap.size, 0, none⟩ (.int .i64 f)).setCell ⟨w.heap.size, 1, none⟩ (.bool m)).setCell ⟨w.heap.size, 2, none⟩ (.int .i64 b)).setCell ⟨w.heap.size, 2 + 1, none⟩ (.int .i64 u)).setCell ⟨w.heap.size, 4, none⟩ (.slice C ts.length d)).setCell ⟨w.heap.size, 5, none⟩ (.slice A2 vs.length c2)) = W at *
  have r0 : W.cell? ⟨w.heap.size, 0, none⟩ = some (.int .i64 f) := HK3.out.cell 0
  have r1 : W.cell? ⟨w.heap.size, 1, none⟩ = some (.bool m) := HK3.out.cell 1
  have r2 : W.cell? ⟨w.heap.size, 2, none⟩ = some (.int .i64 b) := HK3.out.cell 2
  have r3 : W.cell? ⟨w.heap.size, 3, none⟩ = some (.int .i64 u) := HK3.out.cell 3
  have r4 : W.cell? ⟨w.heap.size, 4, none⟩ = some (.slice C ts.length d) := HK3.out.cell 4
  have r5 : W.cell? ⟨w.heap.size, 5, none⟩ = some (.slice A2 vs.length c2) := HK3.out.cell 5
  refine bodyPost_ret (v := .agg #[.int .i64 f, .bool m, .int .i64 b, .int .i64 u, .slice C ts.length d, .slice A2 vs.length c2]) (by simp [results, Try.results15, go_sem, r0, r1, r2, r3, r4, r5]) rfl ⟨f, m, b, u, C, d, ts, A2, c2, vs, rfl, hts, hvs, H61.out, RdR.of_own HT3.out, HV3.out.rd, HB3.out⟩
end Go.Proofs.Ytggjgjcdpnidnaa
