/- The walk of FnSongShift: it returns true. Condition: at most 2^20 bytes. -/
import Derived.Test.YtnkoijkelcjloaaDrawY
import Derived.Test.YtnkoijkelcjloaaIbk
import Derived.Test.YtnkoijkelcjloaaShfE
import Derived.Test.YtnkoijkelcjloaaShfL
import Derived.Test.YtnkoijkelcjloaaFlt
import Derived.Test.YtnkoijkelcjloaaSbt
import Derived.Test.YtnkoijkelcjloaaMrg1
import Derived.Test.YtnkoijkelcjloaaAlive
import Derived.Test.YtnkoijkelcjloaaInvP
namespace Go.Proofs.Ytnkoijkelcjloaa.fnSongShift
open Go.RowKit
set_option linter.unusedSimpArgs false
def FRi (xs : List Int) (v : Value) (w : World) : Prop := ∃ A c, v = .slice A xs.length c ∧ RdI w w.heap.size A xs
theorem stayL_ri {xs : List Int} : StayL (FRi xs) := fun _ _ _ ⟨A, c, h1, h3⟩ hb => ⟨A, c, h1, (h3.below hb (Nat.le_refl _)).more hb.size⟩
theorem retR_ri {P : Program} {f : FuncId} {args : Array Value} {w : World} {E : Nat} {xs : List Int} (h : Calls P f args w (RetRow w E 1 xs.length (iv xs))) : Calls P f args w fun e w' => ∃ v, e = .returned v ∧ FRi xs v w' ∧ Below w.heap.size w w' :=
  h.mono fun _ _ ⟨A, c, he, ho, hb⟩ => ⟨_, he, ⟨A, c, rfl, RdI.of_own ho⟩, hb⟩
set_option linter.unusedVariables false in
set_option maxRecDepth 100000 in
set_option maxHeartbeats 4000000 in
theorem core (w : World) (A_z : Option Addr) (c_z : Nat) (z : List Int) (r_z : RdY w w.heap.size A_z z) (f_z : WfY z) (k_z : z.length ≤ c_z) (hbig : z.length ≤ 1048576) :
    Calls Try.prog 3 #[.slice A_z z.length c_z] w (RetB w true) := by
  have hi1 : (z.length : Int) ≤ 1048576 := by omega
  go_enter Try.func3, Try.ntmps3
  go_wp2_with fail
  refine (spec_DrawSongShift A_z c_z z w r_z f_z hbig k_z).mono ?_
  rintro e wd ⟨f, m, b, u, C, d, ts, A, c, vs, s, h, rfl, hts, hvs, h61, hT, hV, hB⟩
  have hzd := hB.size
  have HKS := Lib.hid ((Blk.new wd 28 #[.int .i64 f, .bool m, .int .i64 b, .int .i64 u, .slice C ts.length d, .slice A vs.length c]).alloc (.cells #[.int .i64 s, .int .i64 h] 30))
  have HKI : Hid (Blk ((wd.alloc (.cells #[.int .i64 f, .bool m, .int .i64 b, .int .i64 u, .slice C ts.length d, .slice A vs.length c] 28)).alloc (.cells #[.int .i64 s, .int .i64 h] 30)) (wd.heap.size + 1) 30 #[.int .i64 s, .int .i64 h]) := by
    have h9 := Blk.new (wd.alloc (.cells #[.int .i64 f, .bool m, .int .i64 b, .int .i64 u, .slice C ts.length d, .slice A vs.length c] 28)) 30 #[.int .i64 s, .int .i64 h]
    rw [World.size_alloc] at h9
    exact Lib.hid h9
  have HBB := ((Below.refl wd.heap.size wd).alloc (Nat.le_refl _) (.cells #[.int .i64 f, .bool m, .int .i64 b, .int .i64 u, .slice C ts.length d, .slice A vs.length c] 28)).alloc (by simp) (.cells #[.int .i64 s, .int .i64 h] 30)
  have HT := Lib.hid (RdTempo.below hT HBB (Nat.le_refl _)); have HV := Lib.hid (RdVs.below hV HBB (Nat.le_refl _))
  have HB := Lib.hid (hB.trans (HBB.mono hzd))
  have z0 : wd.heap.size + 2 ≤ ((wd.alloc (.cells #[.int .i64 f, .bool m, .int .i64 b, .int .i64 u, .slice C ts.length d, .slice A vs.length c] 28)).alloc (.cells #[.int .i64 s, .int .i64 h] 30)).heap.size := by simp
  have hlt : ts.length ≤ 1048576 := by omega
  have hlv : LenV vs := ⟨by omega, fun v hv => Nat.le_trans (h61 v hv) (by decide)⟩
  have H61 := Lib.hid h61
  clear hT hV hB HBB r_z f_z h61
  go_upto_region 4 with fail
  generalize ((wd.alloc (.cells #[.int .i64 f, .bool m, .int .i64 b, .int .i64 u, .slice C ts.length d, .slice A vs.length c] 28)).alloc (.cells #[.int .i64 s, .int .i64 h] 30)) = w0 at *
  generalize wd.heap.size = sb at *
  have H9 := Lib.hid (fun (C A : Option Addr) (d c : Nat) (W : World) (h1 : RdTempo W W.heap.size C ts) (h2 : RdVs W W.heap.size A vs) => And.intro (impl_SongShift f m b u C A d c ts vs s h W h1 h2 hlt hlv) (spec_SongShift f m b u C A d c ts vs s h W h1 h2 hlt hlv))
  cases hok : ssB f m b u ts vs s h
  case false =>
    have HQ : Hid (ssL f m b u ts vs s h = (0, false, 0, 0, [], [])) := Lib.hid (ssL_no hok)
    have HOK := Lib.hid hok; clear hok
    have p0 : w0.cell? ⟨sb, 0, none⟩ = some (.int .i64 f) := HKS.out.cell 0; have p1 : w0.cell? ⟨sb, 1, none⟩ = some (.bool m) := HKS.out.cell 1; have p2 : w0.cell? ⟨sb, 2, none⟩ = some (.int .i64 b) := HKS.out.cell 2; have p3 : w0.cell? ⟨sb, 3, none⟩ = some (.int .i64 u) := HKS.out.cell 3; have p4 : w0.cell? ⟨sb, 4, none⟩ = some (.slice C ts.length d) := HKS.out.cell 4; have p5 : w0.cell? ⟨sb, 5, none⟩ = some (.slice A vs.length c) := HKS.out.cell 5
    have i0 : w0.cell? ⟨sb + 1, 0, none⟩ = some (.int .i64 s) := HKI.out.cell 0; have i1 : w0.cell? ⟨sb + 1, 1, none⟩ = some (.int .i64 h) := HKI.out.cell 1
    go_upto_region 5 with (go_at_call 5; refine ((H9.out C A d c w0 (RdTempo.more HT.out (by omega)) (RdVs.more HV.out (by omega))).1).mono ?_; rw [HQ.out, HOK.out]; rintro e w3 ⟨Cq3, Aq3, dq3, cq3, mid3, hs3, rfl, o_, b_⟩; have z3 := b_.size; replace HKS := Lib.hid (HKS.out.below b_ (by omega)); replace HKI := Lib.hid (HKI.out.below b_ (by omega)); replace HT := Lib.hid (RdTempo.below HT.out b_ (by omega)); replace HV := Lib.hid (RdVs.below HV.out b_ (by omega)); have HO_ := Lib.hid o_; replace HB := Lib.hid (HB.out.trans (b_.mono (by omega))); clear b_ o_; clear p0 p1 p2 p3 p4 p5 i0 i1)
    have HTX := Lib.hid (HO_.out.rdT (Nat.le_refl _)); have HVX := Lib.hid (HO_.out.rdV (Nat.le_refl _))
    clear HO_
    have HKX := Lib.hid (Blk.new w3 28 #[.int .i64 0, .bool false, .int .i64 0, .int .i64 0, .slice Cq3 0 dq3, .slice Aq3 0 cq3])
    replace HKS := Lib.hid (HKS.out.alloc (.cells #[.int .i64 0, .bool false, .int .i64 0, .int .i64 0, .slice Cq3 0 dq3, .slice Aq3 0 cq3] 28)); replace HKI := Lib.hid (HKI.out.alloc (.cells #[.int .i64 0, .bool false, .int .i64 0, .int .i64 0, .slice Cq3 0 dq3, .slice Aq3 0 cq3] 28))
    have ba_ : Below w3.heap.size w3 (w3.alloc (.cells #[.int .i64 0, .bool false, .int .i64 0, .int .i64 0, .slice Cq3 0 dq3, .slice Aq3 0 cq3] 28)) := (Below.refl _ _).alloc (Nat.le_refl _) _
    replace HT := Lib.hid (RdTempo.below HT.out ba_ (by omega)); replace HV := Lib.hid (RdVs.below HV.out ba_ (by omega)); replace HTX := Lib.hid (RdTempo.below HTX.out ba_ (by omega)); replace HVX := Lib.hid (RdVs.below HVX.out ba_ (by omega)); replace HB := Lib.hid (HB.out.trans (ba_.mono (by omega)))
    
    have y3 : w3.heap.size + 1 ≤ (w3.alloc (.cells #[.int .i64 0, .bool false, .int .i64 0, .int .i64 0, .slice Cq3 0 dq3, .slice Aq3 0 cq3] 28)).heap.size := by simp
    clear ba_
    generalize w3.alloc (.cells #[.int .i64 0, .bool false, .int .i64 0, .int .i64 0, .slice Cq3 0 dq3, .slice Aq3 0 cq3] 28) = w4 at *
    generalize w3.heap.size = xb at *
    have p0 : w4.cell? ⟨sb, 0, none⟩ = some (.int .i64 f) := HKS.out.cell 0; have p1 : w4.cell? ⟨sb, 1, none⟩ = some (.bool m) := HKS.out.cell 1; have p2 : w4.cell? ⟨sb, 2, none⟩ = some (.int .i64 b) := HKS.out.cell 2; have p3 : w4.cell? ⟨sb, 3, none⟩ = some (.int .i64 u) := HKS.out.cell 3; have p4 : w4.cell? ⟨sb, 4, none⟩ = some (.slice C ts.length d) := HKS.out.cell 4; have p5 : w4.cell? ⟨sb, 5, none⟩ = some (.slice A vs.length c) := HKS.out.cell 5
    have i0 : w4.cell? ⟨sb + 1, 0, none⟩ = some (.int .i64 s) := HKI.out.cell 0; have i1 : w4.cell? ⟨sb + 1, 1, none⟩ = some (.int .i64 h) := HKI.out.cell 1
    go_upto_region 6 with (go_at_call 6; refine ((H9.out C A d c w4 (RdTempo.more HT.out (by omega)) (RdVs.more HV.out (by omega))).2).mono ?_; rw [HQ.out, HOK.out]; rintro e w5 ⟨Cq4, Aq4, dq4, cq4, mid4, hs4, rfl, o_, b_⟩; have z4 := b_.size; replace HKS := Lib.hid (HKS.out.below b_ (by omega)); replace HKI := Lib.hid (HKI.out.below b_ (by omega)); replace HKX := Lib.hid (HKX.out.below b_ (by omega)); replace HT := Lib.hid (RdTempo.below HT.out b_ (by omega)); replace HV := Lib.hid (RdVs.below HV.out b_ (by omega)); replace HTX := Lib.hid (RdTempo.below HTX.out b_ (by omega)); replace HVX := Lib.hid (RdVs.below HVX.out b_ (by omega)); have HO_ := Lib.hid o_; replace HB := Lib.hid (HB.out.trans (b_.mono (by omega))); clear b_ o_; clear p0 p1 p2 p3 p4 p5 i0 i1)
    have HTY := Lib.hid (HO_.out.rdT (Nat.le_refl _)); have HVY := Lib.hid (HO_.out.rdV (Nat.le_refl _))
    clear HO_
    have HKY := Lib.hid (Blk.new w5 28 #[.int .i64 0, .bool false, .int .i64 0, .int .i64 0, .slice Cq4 0 dq4, .slice Aq4 0 cq4])
    replace HKS := Lib.hid (HKS.out.alloc (.cells #[.int .i64 0, .bool false, .int .i64 0, .int .i64 0, .slice Cq4 0 dq4, .slice Aq4 0 cq4] 28)); replace HKI := Lib.hid (HKI.out.alloc (.cells #[.int .i64 0, .bool false, .int .i64 0, .int .i64 0, .slice Cq4 0 dq4, .slice Aq4 0 cq4] 28)); replace HKX := Lib.hid (HKX.out.alloc (.cells #[.int .i64 0, .bool false, .int .i64 0, .int .i64 0, .slice Cq4 0 dq4, .slice Aq4 0 cq4] 28))
    have ba_ : Below w5.heap.size w5 (w5.alloc (.cells #[.int .i64 0, .bool false, .int .i64 0, .int .i64 0, .slice Cq4 0 dq4, .slice Aq4 0 cq4] 28)) := (Below.refl _ _).alloc (Nat.le_refl _) _
    replace HT := Lib.hid (RdTempo.below HT.out ba_ (by omega)); replace HV := Lib.hid (RdVs.below HV.out ba_ (by omega)); replace HTX := Lib.hid (RdTempo.below HTX.out ba_ (by omega)); replace HVX := Lib.hid (RdVs.below HVX.out ba_ (by omega)); replace HB := Lib.hid (HB.out.trans (ba_.mono (by omega)))
    replace HTY := Lib.hid (RdTempo.below HTY.out ba_ (by omega)); replace HVY := Lib.hid (RdVs.below HVY.out ba_ (by omega))
    have y4 : w5.heap.size + 1 ≤ (w5.alloc (.cells #[.int .i64 0, .bool false, .int .i64 0, .int .i64 0, .slice Cq4 0 dq4, .slice Aq4 0 cq4] 28)).heap.size := by simp
    clear ba_
    generalize w5.alloc (.cells #[.int .i64 0, .bool false, .int .i64 0, .int .i64 0, .slice Cq4 0 dq4, .slice Aq4 0 cq4] 28) = w6 at *
    generalize w5.heap.size = yb at *
    have p0 : w6.cell? ⟨xb, 0, none⟩ = some (.int .i64 0) := HKX.out.cell 0; have p1 : w6.cell? ⟨xb, 1, none⟩ = some (.bool false) := HKX.out.cell 1; have p2 : w6.cell? ⟨xb, 2, none⟩ = some (.int .i64 0) := HKX.out.cell 2; have p3 : w6.cell? ⟨xb, 3, none⟩ = some (.int .i64 0) := HKX.out.cell 3; have p4 : w6.cell? ⟨xb, 4, none⟩ = some (.slice Cq3 0 dq3) := HKX.out.cell 4; have p5 : w6.cell? ⟨xb, 5, none⟩ = some (.slice Aq3 0 cq3) := HKX.out.cell 5
    have v0 : w6.cell? ⟨yb, 0, none⟩ = some (.int .i64 0) := HKY.out.cell 0; have v1 : w6.cell? ⟨yb, 1, none⟩ = some (.bool false) := HKY.out.cell 1; have v2 : w6.cell? ⟨yb, 2, none⟩ = some (.int .i64 0) := HKY.out.cell 2; have v3 : w6.cell? ⟨yb, 3, none⟩ = some (.int .i64 0) := HKY.out.cell 3; have v4 : w6.cell? ⟨yb, 4, none⟩ = some (.slice Cq4 0 dq4) := HKY.out.cell 4; have v5 : w6.cell? ⟨yb, 5, none⟩ = some (.slice Aq4 0 cq4) := HKY.out.cell 5
    go_wp2_with fail
    refine (laws_sameSong 0 false 0 0 Cq3 Aq3 Cq4 Aq4 dq3 cq3 dq4 cq4 [] [] _ (RdTempo.more HTX.out (by omega)) (RdVs.more HVX.out (by omega)) (RdTempo.more HTY.out (by omega)) (RdVs.more HVY.out (by omega)) (by simp) ⟨by simp, fun v hv => by simp at hv⟩).mono ?_
    rintro e w8 ⟨rfl, b_⟩
    have z8 := b_.size
    replace HKS := Lib.hid (HKS.out.below b_ (by omega)); replace HKI := Lib.hid (HKI.out.below b_ (by omega)); replace HKX := Lib.hid (HKX.out.below b_ (by omega)); replace HT := Lib.hid (RdTempo.below HT.out b_ (by omega)); replace HV := Lib.hid (RdVs.below HV.out b_ (by omega)); replace HTX := Lib.hid (RdTempo.below HTX.out b_ (by omega)); replace HVX := Lib.hid (RdVs.below HVX.out b_ (by omega)); replace HB := Lib.hid (HB.out.trans (b_.mono (by omega)))
    clear b_ p0 p1 p2 p3 p4 p5 v0 v1 v2 v3 v4 v5 HKY HTY HVY
    have p4 : w8.cell? ⟨xb, 4, none⟩ = some (.slice Cq3 0 dq3) := HKX.out.cell 4
    go_wp2_with fail
    refine (laws_alive _).mono ?_
    rintro e w9 ⟨rfl, b_⟩
    replace HB := Lib.hid (HB.out.trans (b_.mono (by omega))); clear b_
    go_wp2_with fail
    go_ret
    exact ⟨rfl, HB.out⟩
  case true =>
    have HQ0 := ssL_yes hok
    have HBK0 := ss_back hok; have HSV0 := ss_valid hok; have HF0 := ss_faults hok; have HB0 := ss_bars hok; have HM0 := ss_time hok
    have HIV := Lib.hid (ssB_iff.1 hok).2.1
    have hlv90 : LenV (vs.map (shL s h)) := ⟨by rw [List.length_map]; omega, fun v hv => by
      obtain ⟨v0, h0, rfl⟩ := List.mem_map.1 hv
      exact Nat.le_trans shL_len (Nat.le_trans (H61.out v0 h0) (by decide))⟩
    have hl90 : (ftL f b u ts vs).length ≤ 1048576 := Nat.le_trans (ftL_len f b u ts vs) (by decide)
    have HOK := Lib.hid hok; clear hok
    generalize (nkL f m s h).1 = f9 at *
    generalize vs.map (shL s h) = vs9 at *
    generalize hGL : ftL f b u ts vs = L9 at *
    generalize hGB : sbL f b u ts vs = n9 at *
    generalize hGM : smL f b u ts vs = t9 at *
    have HQ := Lib.hid HQ0; have HBK := Lib.hid HBK0; have HSV := Lib.hid HSV0; have HF9 := Lib.hid HF0; have HB9 := Lib.hid HB0; have HM9 := Lib.hid HM0; have HFS := Lib.hid hGL; have HBS := Lib.hid hGB; have HMS := Lib.hid hGM
    have hlv9 := hlv90; have hl9 := hl90
    clear HQ0 HBK0 HSV0 HF0 HB0 HM0 hGL hGB hGM hlv90 hl90
    have p0 : w0.cell? ⟨sb, 0, none⟩ = some (.int .i64 f) := HKS.out.cell 0; have p1 : w0.cell? ⟨sb, 1, none⟩ = some (.bool m) := HKS.out.cell 1; have p2 : w0.cell? ⟨sb, 2, none⟩ = some (.int .i64 b) := HKS.out.cell 2; have p3 : w0.cell? ⟨sb, 3, none⟩ = some (.int .i64 u) := HKS.out.cell 3; have p4 : w0.cell? ⟨sb, 4, none⟩ = some (.slice C ts.length d) := HKS.out.cell 4; have p5 : w0.cell? ⟨sb, 5, none⟩ = some (.slice A vs.length c) := HKS.out.cell 5
    have i0 : w0.cell? ⟨sb + 1, 0, none⟩ = some (.int .i64 s) := HKI.out.cell 0; have i1 : w0.cell? ⟨sb + 1, 1, none⟩ = some (.int .i64 h) := HKI.out.cell 1
    go_upto_region 5 with (go_at_call 5; refine ((H9.out C A d c w0 (RdTempo.more HT.out (by omega)) (RdVs.more HV.out (by omega))).1).mono ?_; rw [HQ.out, HOK.out]; rintro e w3 ⟨Cq3, Aq3, dq3, cq3, mid3, hs3, rfl, o_, b_⟩; have z3 := b_.size; replace HKS := Lib.hid (HKS.out.below b_ (by omega)); replace HKI := Lib.hid (HKI.out.below b_ (by omega)); replace HT := Lib.hid (RdTempo.below HT.out b_ (by omega)); replace HV := Lib.hid (RdVs.below HV.out b_ (by omega)); have HO_ := Lib.hid o_; replace HB := Lib.hid (HB.out.trans (b_.mono (by omega))); clear b_ o_; clear p0 p1 p2 p3 p4 p5 i0 i1)
    have HTX := Lib.hid (HO_.out.rdT (Nat.le_refl _)); have HVX := Lib.hid (HO_.out.rdV (Nat.le_refl _))
    clear HO_
    have HKX := Lib.hid (Blk.new w3 28 #[.int .i64 f9, .bool m, .int .i64 b, .int .i64 u, .slice Cq3 ts.length dq3, .slice Aq3 vs9.length cq3])
    replace HKS := Lib.hid (HKS.out.alloc (.cells #[.int .i64 f9, .bool m, .int .i64 b, .int .i64 u, .slice Cq3 ts.length dq3, .slice Aq3 vs9.length cq3] 28)); replace HKI := Lib.hid (HKI.out.alloc (.cells #[.int .i64 f9, .bool m, .int .i64 b, .int .i64 u, .slice Cq3 ts.length dq3, .slice Aq3 vs9.length cq3] 28))
    have ba_ : Below w3.heap.size w3 (w3.alloc (.cells #[.int .i64 f9, .bool m, .int .i64 b, .int .i64 u, .slice Cq3 ts.length dq3, .slice Aq3 vs9.length cq3] 28)) := (Below.refl _ _).alloc (Nat.le_refl _) _
    replace HT := Lib.hid (RdTempo.below HT.out ba_ (by omega)); replace HV := Lib.hid (RdVs.below HV.out ba_ (by omega)); replace HTX := Lib.hid (RdTempo.below HTX.out ba_ (by omega)); replace HVX := Lib.hid (RdVs.below HVX.out ba_ (by omega)); replace HB := Lib.hid (HB.out.trans (ba_.mono (by omega)))
    
    have y3 : w3.heap.size + 1 ≤ (w3.alloc (.cells #[.int .i64 f9, .bool m, .int .i64 b, .int .i64 u, .slice Cq3 ts.length dq3, .slice Aq3 vs9.length cq3] 28)).heap.size := by simp
    clear ba_
    generalize w3.alloc (.cells #[.int .i64 f9, .bool m, .int .i64 b, .int .i64 u, .slice Cq3 ts.length dq3, .slice Aq3 vs9.length cq3] 28) = w4 at *
    generalize w3.heap.size = xb at *
    have p0 : w4.cell? ⟨sb, 0, none⟩ = some (.int .i64 f) := HKS.out.cell 0; have p1 : w4.cell? ⟨sb, 1, none⟩ = some (.bool m) := HKS.out.cell 1; have p2 : w4.cell? ⟨sb, 2, none⟩ = some (.int .i64 b) := HKS.out.cell 2; have p3 : w4.cell? ⟨sb, 3, none⟩ = some (.int .i64 u) := HKS.out.cell 3; have p4 : w4.cell? ⟨sb, 4, none⟩ = some (.slice C ts.length d) := HKS.out.cell 4; have p5 : w4.cell? ⟨sb, 5, none⟩ = some (.slice A vs.length c) := HKS.out.cell 5
    have i0 : w4.cell? ⟨sb + 1, 0, none⟩ = some (.int .i64 s) := HKI.out.cell 0; have i1 : w4.cell? ⟨sb + 1, 1, none⟩ = some (.int .i64 h) := HKI.out.cell 1
    go_upto_region 6 with (go_at_call 6; refine ((H9.out C A d c w4 (RdTempo.more HT.out (by omega)) (RdVs.more HV.out (by omega))).2).mono ?_; rw [HQ.out, HOK.out]; rintro e w5 ⟨Cq4, Aq4, dq4, cq4, mid4, hs4, rfl, o_, b_⟩; have z4 := b_.size; replace HKS := Lib.hid (HKS.out.below b_ (by omega)); replace HKI := Lib.hid (HKI.out.below b_ (by omega)); replace HKX := Lib.hid (HKX.out.below b_ (by omega)); replace HT := Lib.hid (RdTempo.below HT.out b_ (by omega)); replace HV := Lib.hid (RdVs.below HV.out b_ (by omega)); replace HTX := Lib.hid (RdTempo.below HTX.out b_ (by omega)); replace HVX := Lib.hid (RdVs.below HVX.out b_ (by omega)); have HO_ := Lib.hid o_; replace HB := Lib.hid (HB.out.trans (b_.mono (by omega))); clear b_ o_; clear p0 p1 p2 p3 p4 p5 i0 i1)
    have HTY := Lib.hid (HO_.out.rdT (Nat.le_refl _)); have HVY := Lib.hid (HO_.out.rdV (Nat.le_refl _))
    clear HO_
    have HKY := Lib.hid (Blk.new w5 28 #[.int .i64 f9, .bool m, .int .i64 b, .int .i64 u, .slice Cq4 ts.length dq4, .slice Aq4 vs9.length cq4])
    replace HKS := Lib.hid (HKS.out.alloc (.cells #[.int .i64 f9, .bool m, .int .i64 b, .int .i64 u, .slice Cq4 ts.length dq4, .slice Aq4 vs9.length cq4] 28)); replace HKI := Lib.hid (HKI.out.alloc (.cells #[.int .i64 f9, .bool m, .int .i64 b, .int .i64 u, .slice Cq4 ts.length dq4, .slice Aq4 vs9.length cq4] 28)); replace HKX := Lib.hid (HKX.out.alloc (.cells #[.int .i64 f9, .bool m, .int .i64 b, .int .i64 u, .slice Cq4 ts.length dq4, .slice Aq4 vs9.length cq4] 28))
    have ba_ : Below w5.heap.size w5 (w5.alloc (.cells #[.int .i64 f9, .bool m, .int .i64 b, .int .i64 u, .slice Cq4 ts.length dq4, .slice Aq4 vs9.length cq4] 28)) := (Below.refl _ _).alloc (Nat.le_refl _) _
    replace HT := Lib.hid (RdTempo.below HT.out ba_ (by omega)); replace HV := Lib.hid (RdVs.below HV.out ba_ (by omega)); replace HTX := Lib.hid (RdTempo.below HTX.out ba_ (by omega)); replace HVX := Lib.hid (RdVs.below HVX.out ba_ (by omega)); replace HB := Lib.hid (HB.out.trans (ba_.mono (by omega)))
    replace HTY := Lib.hid (RdTempo.below HTY.out ba_ (by omega)); replace HVY := Lib.hid (RdVs.below HVY.out ba_ (by omega))
    have y4 : w5.heap.size + 1 ≤ (w5.alloc (.cells #[.int .i64 f9, .bool m, .int .i64 b, .int .i64 u, .slice Cq4 ts.length dq4, .slice Aq4 vs9.length cq4] 28)).heap.size := by simp
    clear ba_
    generalize w5.alloc (.cells #[.int .i64 f9, .bool m, .int .i64 b, .int .i64 u, .slice Cq4 ts.length dq4, .slice Aq4 vs9.length cq4] 28) = w6 at *
    generalize w5.heap.size = yb at *
    have p0 : w6.cell? ⟨xb, 0, none⟩ = some (.int .i64 f9) := HKX.out.cell 0; have p1 : w6.cell? ⟨xb, 1, none⟩ = some (.bool m) := HKX.out.cell 1; have p2 : w6.cell? ⟨xb, 2, none⟩ = some (.int .i64 b) := HKX.out.cell 2; have p3 : w6.cell? ⟨xb, 3, none⟩ = some (.int .i64 u) := HKX.out.cell 3; have p4 : w6.cell? ⟨xb, 4, none⟩ = some (.slice Cq3 ts.length dq3) := HKX.out.cell 4; have p5 : w6.cell? ⟨xb, 5, none⟩ = some (.slice Aq3 vs9.length cq3) := HKX.out.cell 5
    have v0 : w6.cell? ⟨yb, 0, none⟩ = some (.int .i64 f9) := HKY.out.cell 0; have v1 : w6.cell? ⟨yb, 1, none⟩ = some (.bool m) := HKY.out.cell 1; have v2 : w6.cell? ⟨yb, 2, none⟩ = some (.int .i64 b) := HKY.out.cell 2; have v3 : w6.cell? ⟨yb, 3, none⟩ = some (.int .i64 u) := HKY.out.cell 3; have v4 : w6.cell? ⟨yb, 4, none⟩ = some (.slice Cq4 ts.length dq4) := HKY.out.cell 4; have v5 : w6.cell? ⟨yb, 5, none⟩ = some (.slice Aq4 vs9.length cq4) := HKY.out.cell 5
    go_wp2_with fail
    refine (laws_sameSong f9 m b u Cq3 Aq3 Cq4 Aq4 dq3 cq3 dq4 cq4 ts vs9 _ (RdTempo.more HTX.out (by omega)) (RdVs.more HVX.out (by omega)) (RdTempo.more HTY.out (by omega)) (RdVs.more HVY.out (by omega)) hlt hlv9).mono ?_
    rintro e w8 ⟨rfl, b_⟩
    have z8 := b_.size
    replace HKS := Lib.hid (HKS.out.below b_ (by omega)); replace HKI := Lib.hid (HKI.out.below b_ (by omega)); replace HKX := Lib.hid (HKX.out.below b_ (by omega)); replace HT := Lib.hid (RdTempo.below HT.out b_ (by omega)); replace HV := Lib.hid (RdVs.below HV.out b_ (by omega)); replace HTX := Lib.hid (RdTempo.below HTX.out b_ (by omega)); replace HVX := Lib.hid (RdVs.below HVX.out b_ (by omega)); replace HB := Lib.hid (HB.out.trans (b_.mono (by omega)))
    clear b_ p0 p1 p2 p3 p4 p5 v0 v1 v2 v3 v4 v5 HKY HTY HVY
    have x0 : w8.cell? ⟨xb, 0, none⟩ = some (.int .i64 f9) := HKX.out.cell 0; have x1 : w8.cell? ⟨xb, 1, none⟩ = some (.bool m) := HKX.out.cell 1; have x2 : w8.cell? ⟨xb, 2, none⟩ = some (.int .i64 b) := HKX.out.cell 2; have x3 : w8.cell? ⟨xb, 3, none⟩ = some (.int .i64 u) := HKX.out.cell 3; have x4 : w8.cell? ⟨xb, 4, none⟩ = some (.slice Cq3 ts.length dq3) := HKX.out.cell 4; have x5 : w8.cell? ⟨xb, 5, none⟩ = some (.slice Aq3 vs9.length cq3) := HKX.out.cell 5
    have i0 : w8.cell? ⟨sb + 1, 0, none⟩ = some (.int .i64 s) := HKI.out.cell 0; have i1 : w8.cell? ⟨sb + 1, 1, none⟩ = some (.int .i64 h) := HKI.out.cell 1
    go_upto_region 10 with fail
    refine regionC_draws rfl 28 6 9 54 8 87 [some 50, some 51, some 52, some 53, some 49, some 54, some 55, some 9, none, some 10]
      [FEq (.agg #[.int .i64 f9, .bool m, .int .i64 b, .int .i64 u, .slice Cq3 ts.length dq3, .slice Aq3 vs9.length cq3]), FEq (.agg #[.int .i64 s, .int .i64 h]), FEq (.agg #[.int .i64 (-s), .int .i64 (-h)]), FTp w8.heap.size (f, m, b, u, ts, vs) true, FTp w8.heap.size (f, m, b, u, ts, vs) true, FSg w8.heap.size (f, m, b, u, ts, vs), FEq (.bool true), FBox w8.heap.size 28 6, FAny, FEq (.bool true)] (by kernel_rfl) (by kernel_rfl) (by decide) ?_ ?_ ?_
    · exact stayCs_cons stayC_eq (stayCs_cons stayC_eq (stayCs_cons stayC_eq (stayCs_cons (stayTp _ _ _ _) (stayCs_cons (stayTp _ _ _ _) (stayCs_cons (staySg _ _ _) (stayCs_cons stayC_eq (stayCs_cons stayC_box (stayCs_cons stayC_any (stayCs_cons stayC_eq stayCs_nil)))))))))
    · refine AllI.cons ?_ (AllI.cons ?_ (AllI.cons ?_ (AllI.cons ?_ (AllI.cons ?_ (AllI.cons ?_ (AllI.cons ?_ (AllI.cons ?_ (AllI.cons ?_ (AllI.cons ?_ trivial)))))))))
      · intro kk bb ff ww hkk hf hd hp hq hJ0
        refine .inl ⟨wanted_none rfl, ?_⟩
        have hJ := hJ0.1
        have hb9 : bb = false := hp [] (by kernel_rfl)
        have q5 : FEq (.pointer (some ⟨xb, 0, none⟩)) (ff 5) ww := (hf 5 (by decide)).trans rfl
        unfold FEq at q5
        have c0 : ww.cell? ⟨xb, 0, none⟩ = some (.int .i64 f9) := (hJ.cell (p := ⟨xb, 0, none⟩) (show xb < _ by omega)).trans x0
        have c1 : ww.cell? ⟨xb, 1, none⟩ = some (.bool m) := (hJ.cell (p := ⟨xb, 1, none⟩) (show xb < _ by omega)).trans x1
        have c2 : ww.cell? ⟨xb, 2, none⟩ = some (.int .i64 b) := (hJ.cell (p := ⟨xb, 2, none⟩) (show xb < _ by omega)).trans x2
        have c3 : ww.cell? ⟨xb, 3, none⟩ = some (.int .i64 u) := (hJ.cell (p := ⟨xb, 3, none⟩) (show xb < _ by omega)).trans x3
        have c4 : ww.cell? ⟨xb, 4, none⟩ = some (.slice Cq3 ts.length dq3) := (hJ.cell (p := ⟨xb, 4, none⟩) (show xb < _ by omega)).trans x4
        have c5 : ww.cell? ⟨xb, 5, none⟩ = some (.slice Aq3 vs9.length cq3) := (hJ.cell (p := ⟨xb, 5, none⟩) (show xb < _ by omega)).trans x5
        refine sc_val (.agg #[.int .i64 f9, .bool m, .int .i64 b, .int .i64 u, .slice Cq3 ts.length dq3, .slice Aq3 vs9.length cq3]) hJ ?_ rfl
        simp only [execOp, ev_tmp _ _ (show 5 < 87 by decide), ev_const, q5]
        simp [go_sem, c0, c1, c2, c3, c4, c5]
      · intro kk bb ff ww hkk hf hd hp hq hJ0
        refine .inl ⟨wanted_none rfl, ?_⟩
        have hJ := hJ0.1
        have hb9 : bb = false := hp [] (by kernel_rfl)
        have q4 : FEq (.pointer (some ⟨sb + 1, 0, none⟩)) (ff 4) ww := (hf 4 (by decide)).trans rfl
        unfold FEq at q4
        have c0 : ww.cell? ⟨sb + 1, 0, none⟩ = some (.int .i64 s) := (hJ.cell (p := ⟨sb + 1, 0, none⟩) (show sb + 1 < _ by omega)).trans i0
        have c1 : ww.cell? ⟨sb + 1, 1, none⟩ = some (.int .i64 h) := (hJ.cell (p := ⟨sb + 1, 1, none⟩) (show sb + 1 < _ by omega)).trans i1
        refine sc_val (.agg #[.int .i64 s, .int .i64 h]) hJ ?_ rfl
        simp only [execOp, ev_tmp _ _ (show 4 < 87 by decide), ev_const, q4]
        simp [go_sem, c0, c1]
      · intro kk bb ff ww hkk hf hd hp hq hJ0
        refine .inl ⟨wanted_none rfl, ?_⟩
        obtain ⟨p0, -⟩ := hd
        have hJ := hJ0.1
        have hb9 : bb = false := hp [] (by kernel_rfl)
        have q51 : FEq (.agg #[.int .i64 s, .int .i64 h]) (ff 51) ww := p0 rfl
        unfold FEq at q51
        refine sc_enter 9 #[.agg #[.int .i64 s, .int .i64 h]] hJ ?_ ?_
        · simp only [execOp, ev_tmp _ _ (show 51 < 87 by decide), ev_const, q51, ev_func, resolve, List.map_toArray, List.map_cons, List.map_nil]
          simp [go_sem]
        · skip
          exact (impl_IntervalBack s h ww HIV.out).mono fun _ _ ⟨he, hb⟩ => ⟨_, he, rfl, hb⟩
      · intro kk bb ff ww hkk hf hd hp hq hJ0
        refine .inl ⟨wanted_none rfl, ?_⟩
        obtain ⟨p0, p1, p2, -⟩ := hd
        have hJ := hJ0.1
        have hb9 : bb = false := hp [] (by kernel_rfl)
        have q50 : FEq (.agg #[.int .i64 f9, .bool m, .int .i64 b, .int .i64 u, .slice Cq3 ts.length dq3, .slice Aq3 vs9.length cq3]) (ff 50) ww := p0 rfl
        unfold FEq at q50
        have q52 : FEq (.agg #[.int .i64 (-s), .int .i64 (-h)]) (ff 52) ww := p1 rfl
        unfold FEq at q52
        refine sc_enter 5 #[.agg #[.int .i64 f9, .bool m, .int .i64 b, .int .i64 u, .slice Cq3 ts.length dq3, .slice Aq3 vs9.length cq3], .agg #[.int .i64 (-s), .int .i64 (-h)]] hJ ?_ ?_
        · simp only [execOp, ev_tmp _ _ (show 50 < 87 by decide), ev_tmp _ _ (show 52 < 87 by decide), ev_const, q50, q52, ev_func, resolve, List.map_toArray, List.map_cons, List.map_nil]
          simp [go_sem]
        · skip
          have h1 := impl_SongShift f9 m b u Cq3 Aq3 dq3 cq3 ts vs9 (-s) (-h) ww (RdTempo.more (RdTempo.below HTX.out hJ (by omega)) (Nat.le_trans (show xb ≤ w8.heap.size by omega) hJ.size)) (RdVs.more (RdVs.below HVX.out hJ (by omega)) (Nat.le_trans (show xb ≤ w8.heap.size by omega) hJ.size)) hlt hlv9
          rw [HBK.out.1, HBK.out.2] at h1
          exact retSS_tp h1 hJ.size
      · intro kk bb ff ww hkk hf hd hp hq hJ0
        refine .inl ⟨wanted_none rfl, ?_⟩
        obtain ⟨p0, -⟩ := hd
        have hJ := hJ0.1
        have hb9 : bb = false := hp [] (by kernel_rfl)
        have q : FTp w8.heap.size (f, m, b, u, ts, vs) true (ff 53) ww := p0 rfl
        exact sc_val (ff 53) hJ (by simp only [execOp, ev_tmp _ _ (show 53 < 87 by decide)]; rfl) q
      · intro kk bb ff ww hkk hf hd hp hq hJ0
        refine .inl ⟨wanted_none rfl, ?_⟩
        obtain ⟨p0, -⟩ := hd
        have hJ := hJ0.1
        have hb9 : bb = false := hp [] (by kernel_rfl)
        have q49 : FTp w8.heap.size (f, m, b, u, ts, vs) true (ff 49) ww := p0 rfl
        obtain ⟨C49, A49, d49, c49, mid49, hi49, hs49, q49, o49⟩ := q49
        dsimp only [sgV] at q49
        refine sc_val (.agg #[.int .i64 f, .bool m, .int .i64 b, .int .i64 u, .slice C49 ts.length d49, .slice A49 vs.length c49]) hJ ?_ ⟨C49, A49, d49, c49, mid49, hi49, hs49, rfl, o49⟩
        simp only [execOp, ev_tmp _ _ (show 49 < 87 by decide), ev_const, q49]
        simp [go_sem]
      · intro kk bb ff ww hkk hf hd hp hq hJ0
        refine .inl ⟨wanted_none rfl, ?_⟩
        obtain ⟨p0, -, -⟩ := hd
        have hJ := hJ0
        have q49 : FTp w8.heap.size (f, m, b, u, ts, vs) true (ff 49) ww := p0 rfl
        obtain ⟨C49, A49, d49, c49, mid49, hi49, hs49, q49, o49⟩ := q49
        dsimp only [sgV] at q49
        refine sc_val2 (.bool true) hJ ?_ rfl
        simp only [execOp, ev_tmp _ _ (show 49 < 87 by decide), ev_const, q49]
        simp [go_sem]
      · intro kk bb ff ww hkk hf hd hp hq hJ0
        refine .inl ⟨wanted_none rfl, ?_⟩
        have hJ := hJ0.1
        have hb9 : bb = false := hp [] (by kernel_rfl)
        refine sc_alloc (.pointer (some ⟨ww.heap.size, 0, none⟩)) (.cells #[.int .i64 0, .bool false, .int .i64 0, .int .i64 0, .slice none 0 0, .slice none 0 0] 28) hJ ?_ ⟨_, _, rfl, hJ.size, Blk.new _ _ _, rfl⟩
        simp only [execOp]
        simp [go_sem]
      · intro kk bb ff ww hkk hf hd hp hq hJ0
        refine .inl ⟨wanted_none rfl, ?_⟩
        obtain ⟨p0, p1, p2, p3, p4, p5, p6, p7, p8, -, p10, -⟩ := hd
        have hJ := hJ0.1
        have q54 : FSg w8.heap.size (f, m, b, u, ts, vs) (ff 54) ww := p1 rfl
        obtain ⟨C54, A54, d54, c54, mid54, hi54, hs54, q54, o54⟩ := q54
        dsimp only [sgV] at q54
        have q9 : FBox w8.heap.size 28 6 (ff 9) ww := p0 rfl
        obtain ⟨g, cs, q9, hlo, hb, hsz⟩ := q9
        obtain ⟨d0, d1, d2, d3, d4, d5, rfl⟩ := arr6 hsz
        have c0 : ww.cell? ⟨g, 0, none⟩ = some d0 := hb.cell 0
        have f0 := hb.frozen 0
        have c1 : ww.cell? ⟨g, 1, none⟩ = some d1 := hb.cell 1
        have f1 := hb.frozen 1
        have c2 : ww.cell? ⟨g, 2, none⟩ = some d2 := hb.cell 2
        have f2 := hb.frozen 2
        have c3 : ww.cell? ⟨g, 3, none⟩ = some d3 := hb.cell 3
        have f3 := hb.frozen 3
        have c4 : ww.cell? ⟨g, 4, none⟩ = some d4 := hb.cell 4
        have f4 := hb.frozen 4
        have c5 : ww.cell? ⟨g, 5, none⟩ = some d5 := hb.cell 5
        have f5 := hb.frozen 5
        refine sc_store g ((((((ww.setCell ⟨g, 0, none⟩ (.int .i64 f)).setCell ⟨g, 1, none⟩ (.bool m)).setCell ⟨g, 2, none⟩ (.int .i64 b)).setCell ⟨g, 3, none⟩ (.int .i64 u)).setCell ⟨g, 4, none⟩ (.slice C54 ts.length d54)).setCell ⟨g, 5, none⟩ (.slice A54 vs.length c54)) #[.int .i64 f, .bool m, .int .i64 b, .int .i64 u, .slice C54 ts.length d54, .slice A54 vs.length c54] rfl rfl q9 q54 hlo rfl hJ ?_ ((((((hb.set_ 0 (.int .i64 f)).set_ 1 (.bool m)).set_ 2 (.int .i64 b)).set_ 3 (.int .i64 u)).set_ 4 (.slice C54 ts.length d54)).set_ 5 (.slice A54 vs.length c54)) ⟨_, hb⟩ (fun j hj => by simp [Below.heap_setCell, hj, Ne.symm hj]) (by simp only [set_os]) (by simp only [set_tape]) (by simp only [set_output]) (by simp only [set_hsz]) trivial
        simp only [execOp, ev_tmp _ _ (show 54 < 87 by decide), ev_tmp _ _ (show 9 < 87 by decide), ev_const, q54, q9]
        simp [go_sem, c0, f0, c1, f1, c2, f2, c3, f3, c4, f4, c5, f5]
      · intro kk bb ff ww hkk hf hd hp hq hJ0
        refine .inl ⟨wanted_none rfl, ?_⟩
        obtain ⟨p0, p1, p2, p3, p4, p5, p6, p7, p8, p9, p10, -⟩ := hd
        have hJ := hJ0
        have q : FEq (.bool true) (ff 55) ww := p0 rfl
        exact sc_val2 (ff 55) hJ (by simp only [execOp, ev_tmp _ _ (show 55 < 87 by decide)]; rfl) q
    intro ff w9 hf hd hX hJ
    obtain ⟨gK, cs_, qx_, qv_, lK, kK⟩ := hX
    have hfr : fr 87 ff = #[ff 0, ff 1, ff 2, ff 3, ff 4, ff 5, ff 6, ff 7, ff 8, ff 9, ff 10, ff 11, ff 12, ff 13, ff 14, ff 15, ff 16, ff 17, ff 18, ff 19, ff 20, ff 21, ff 22, ff 23, ff 24, ff 25, ff 26, ff 27, ff 28, ff 29, ff 30, ff 31, ff 32, ff 33, ff 34, ff 35, ff 36, ff 37, ff 38, ff 39, ff 40, ff 41, ff 42, ff 43, ff 44, ff 45, ff 46, ff 47, ff 48, ff 49, ff 50, ff 51, ff 52, ff 53, ff 54, ff 55, ff 56, ff 57, ff 58, ff 59, ff 60, ff 61, ff 62, ff 63, ff 64, ff 65, ff 66, ff 67, ff 68, ff 69, ff 70, ff 71, ff 72, ff 73, ff 74, ff 75, ff 76, ff 77, ff 78, ff 79, ff 80, ff 81, ff 82, ff 83, ff 84, ff 85, ff 86] := rfl
    rw [hfr]; clear hfr
    dsimp only
    have q0_ := hf 0 (by decide)
    have q1_ := hf 1 (by decide)
    have q2_ := hf 2 (by decide)
    have q3_ := hf 3 (by decide)
    have q4_ := hf 4 (by decide)
    have q5_ := hf 5 (by decide)
    have q6_ := hf 6 (by decide)
    have q7_ := hf 7 (by decide)
    have q8_ := hf 8 (by decide)
    have q10_ : FEq (.bool true) (ff 10) w9 := hd 9 (by decide)
    unfold FEq at q10_
    have q11_ := hf 11 (by decide)
    have q12_ := hf 12 (by decide)
    have q13_ := hf 13 (by decide)
    have q14_ := hf 14 (by decide)
    have q15_ := hf 15 (by decide)
    have q16_ := hf 16 (by decide)
    have q17_ := hf 17 (by decide)
    have q18_ := hf 18 (by decide)
    have q19_ := hf 19 (by decide)
    have q20_ := hf 20 (by decide)
    have q21_ := hf 21 (by decide)
    have q22_ := hf 22 (by decide)
    have q23_ := hf 23 (by decide)
    have q24_ := hf 24 (by decide)
    have q25_ := hf 25 (by decide)
    have q26_ := hf 26 (by decide)
    have q27_ := hf 27 (by decide)
    have q28_ := hf 28 (by decide)
    have q29_ := hf 29 (by decide)
    have q30_ := hf 30 (by decide)
    have q31_ := hf 31 (by decide)
    have q32_ := hf 32 (by decide)
    have q33_ := hf 33 (by decide)
    have q34_ := hf 34 (by decide)
    have q35_ := hf 35 (by decide)
    have q36_ := hf 36 (by decide)
    have q37_ := hf 37 (by decide)
    have q38_ := hf 38 (by decide)
    have q39_ := hf 39 (by decide)
    have q40_ := hf 40 (by decide)
    have q41_ := hf 41 (by decide)
    have q42_ := hf 42 (by decide)
    have q43_ := hf 43 (by decide)
    have q44_ := hf 44 (by decide)
    have q45_ := hf 45 (by decide)
    have q46_ := hf 46 (by decide)
    have q47_ := hf 47 (by decide)
    have q48_ := hf 48 (by decide)
    have q50_ : FEq (.agg #[.int .i64 f9, .bool m, .int .i64 b, .int .i64 u, .slice Cq3 ts.length dq3, .slice Aq3 vs9.length cq3]) (ff 50) w9 := hd 0 (by decide)
    unfold FEq at q50_
    have q51_ : FEq (.agg #[.int .i64 s, .int .i64 h]) (ff 51) w9 := hd 1 (by decide)
    unfold FEq at q51_
    have q52_ : FEq (.agg #[.int .i64 (-s), .int .i64 (-h)]) (ff 52) w9 := hd 2 (by decide)
    unfold FEq at q52_
    have q54_ : FSg w8.heap.size (f, m, b, u, ts, vs) (ff 54) w9 := hd 5 (by decide)
    obtain ⟨CK, AK, dK, cK, midK, hiK, hsK, q54_, oK⟩ := q54_
    rw [q54_] at qv_; injection qv_ with qv_; subst qv_
    have q55_ : FEq (.bool true) (ff 55) w9 := hd 6 (by decide)
    unfold FEq at q55_
    have q56_ := hf 56 (by decide)
    have q57_ := hf 57 (by decide)
    have q58_ := hf 58 (by decide)
    have q59_ := hf 59 (by decide)
    have q60_ := hf 60 (by decide)
    have q61_ := hf 61 (by decide)
    have q62_ := hf 62 (by decide)
    have q63_ := hf 63 (by decide)
    have q64_ := hf 64 (by decide)
    have q65_ := hf 65 (by decide)
    have q66_ := hf 66 (by decide)
    have q67_ := hf 67 (by decide)
    have q68_ := hf 68 (by decide)
    have q69_ := hf 69 (by decide)
    have q70_ := hf 70 (by decide)
    have q71_ := hf 71 (by decide)
    have q72_ := hf 72 (by decide)
    have q73_ := hf 73 (by decide)
    have q74_ := hf 74 (by decide)
    have q75_ := hf 75 (by decide)
    have q76_ := hf 76 (by decide)
    have q77_ := hf 77 (by decide)
    have q78_ := hf 78 (by decide)
    have q79_ := hf 79 (by decide)
    have q80_ := hf 80 (by decide)
    have q81_ := hf 81 (by decide)
    have q82_ := hf 82 (by decide)
    have q83_ := hf 83 (by decide)
    have q84_ := hf 84 (by decide)
    have q85_ := hf 85 (by decide)
    have q86_ := hf 86 (by decide)
    simp only [Array.getD_eq_getD_getElem?, List.getElem?_toArray, List.getElem?_cons_zero, List.getElem?_cons_succ, Option.getD_some] at q0_ q1_ q2_ q3_ q4_ q5_ q6_ q7_ q8_ q11_ q12_ q13_ q14_ q15_ q16_ q17_ q18_ q19_ q20_ q21_ q22_ q23_ q24_ q25_ q26_ q27_ q28_ q29_ q30_ q31_ q32_ q33_ q34_ q35_ q36_ q37_ q38_ q39_ q40_ q41_ q42_ q43_ q44_ q45_ q46_ q47_ q48_ q56_ q57_ q58_ q59_ q60_ q61_ q62_ q63_ q64_ q65_ q66_ q67_ q68_ q69_ q70_ q71_ q72_ q73_ q74_ q75_ q76_ q77_ q78_ q79_ q80_ q81_ q82_ q83_ q84_ q85_ q86_
    rw [q0_, q1_, q2_, q3_, q4_, q5_, q6_, q7_, q8_, qx_, q10_, q11_, q12_, q13_, q14_, q15_, q16_, q17_, q18_, q19_, q20_, q21_, q22_, q23_, q24_, q25_, q26_, q27_, q28_, q29_, q30_, q31_, q32_, q33_, q34_, q35_, q36_, q37_, q38_, q39_, q40_, q41_, q42_, q43_, q44_, q45_, q46_, q47_, q48_, q50_, q51_, q52_, q54_, q55_, q56_, q57_, q58_, q59_, q60_, q61_, q62_, q63_, q64_, q65_, q66_, q67_, q68_, q69_, q70_, q71_, q72_, q73_, q74_, q75_, q76_, q77_, q78_, q79_, q80_, q81_, q82_, q83_, q84_, q85_, q86_]
    clear q0_ q1_ q2_ q3_ q4_ q5_ q6_ q7_ q8_ qx_ q10_ q11_ q12_ q13_ q14_ q15_ q16_ q17_ q18_ q19_ q20_ q21_ q22_ q23_ q24_ q25_ q26_ q27_ q28_ q29_ q30_ q31_ q32_ q33_ q34_ q35_ q36_ q37_ q38_ q39_ q40_ q41_ q42_ q43_ q44_ q45_ q46_ q47_ q48_ q50_ q51_ q52_ q54_ q55_ q56_ q57_ q58_ q59_ q60_ q61_ q62_ q63_ q64_ q65_ q66_ q67_ q68_ q69_ q70_ q71_ q72_ q73_ q74_ q75_ q76_ q77_ q78_ q79_ q80_ q81_ q82_ q83_ q84_ q85_ q86_ hf hd
    generalize ff 49 = v49_
    generalize ff 53 = v53_
    clear ff
    have b_ : Below _ _ w9 := hJ
    clear hJ
    have z9 := b_.size
    clear x0 x1 x2 x3 x4 x5 i0 i1
    have lgK := kK.lt
    obtain ⟨oS9, hhK⟩ := oK
    dsimp only at oS9 hhK
    have HTK := Lib.hid (RdTempo.more (oS9.rdT (Nat.le_refl _)) hhK); have HVK := Lib.hid (RdVs.more (oS9.rdV (Nat.le_refl _)) hhK)
    have HKK := Lib.hid kK
    clear oS9 kK
    replace HKS := Lib.hid (HKS.out.below b_ (by omega)); replace HKX := Lib.hid (HKX.out.below b_ (by omega)); replace HT := Lib.hid (RdTempo.below HT.out b_ (by omega)); replace HV := Lib.hid (RdVs.below HV.out b_ (by omega)); replace HTX := Lib.hid (RdTempo.below HTX.out b_ (by omega)); replace HVX := Lib.hid (RdVs.below HVX.out b_ (by omega)); replace HB := Lib.hid (HB.out.trans (b_.mono (by omega)))
    clear b_
    have x0 : w9.cell? ⟨xb, 0, none⟩ = some (.int .i64 f9) := HKX.out.cell 0; have x1 : w9.cell? ⟨xb, 1, none⟩ = some (.bool m) := HKX.out.cell 1; have x2 : w9.cell? ⟨xb, 2, none⟩ = some (.int .i64 b) := HKX.out.cell 2; have x3 : w9.cell? ⟨xb, 3, none⟩ = some (.int .i64 u) := HKX.out.cell 3; have x4 : w9.cell? ⟨xb, 4, none⟩ = some (.slice Cq3 ts.length dq3) := HKX.out.cell 4; have x5 : w9.cell? ⟨xb, 5, none⟩ = some (.slice Aq3 vs9.length cq3) := HKX.out.cell 5
    have sp0 : w9.cell? ⟨sb, 0, none⟩ = some (.int .i64 f) := HKS.out.cell 0; have sp1 : w9.cell? ⟨sb, 1, none⟩ = some (.bool m) := HKS.out.cell 1; have sp2 : w9.cell? ⟨sb, 2, none⟩ = some (.int .i64 b) := HKS.out.cell 2; have sp3 : w9.cell? ⟨sb, 3, none⟩ = some (.int .i64 u) := HKS.out.cell 3; have sp4 : w9.cell? ⟨sb, 4, none⟩ = some (.slice C ts.length d) := HKS.out.cell 4; have sp5 : w9.cell? ⟨sb, 5, none⟩ = some (.slice A vs.length c) := HKS.out.cell 5
    have y0 : w9.cell? ⟨gK, 0, none⟩ = some (.int .i64 f) := HKK.out.cell 0; have y1 : w9.cell? ⟨gK, 1, none⟩ = some (.bool m) := HKK.out.cell 1; have y2 : w9.cell? ⟨gK, 2, none⟩ = some (.int .i64 b) := HKK.out.cell 2; have y3 : w9.cell? ⟨gK, 3, none⟩ = some (.int .i64 u) := HKK.out.cell 3; have y4 : w9.cell? ⟨gK, 4, none⟩ = some (.slice CK ts.length dK) := HKK.out.cell 4; have y5 : w9.cell? ⟨gK, 5, none⟩ = some (.slice AK vs.length cK) := HKK.out.cell 5
    go_upto_region 11 with fail
    refine regionL_draws rfl 87 [some 56, some 57, some 58, some 59, some 60, some 61, some 62, some 63, some 64, some 65, some 66, some 67, some 68, some 69, some 70, some 71, some 72, some 73, some 74, some 75, some 76, some 77, some 78, some 79, some 80, some 81, some 82, some 83, some 84, some 85, some 86, some 2]
      [FEq (.agg #[.int .i64 f9, .bool m, .int .i64 b, .int .i64 u, .slice Cq3 ts.length dq3, .slice Aq3 vs9.length cq3]), FEq (.bool true), FEq (.bool true), FEq (.bool true), FEq (.bool true), FEq (.bool true), FEq (.agg #[.int .i64 f, .bool m, .int .i64 b, .int .i64 u, .slice CK ts.length dK, .slice AK vs.length cK]), FEq (.agg #[.int .i64 f, .bool m, .int .i64 b, .int .i64 u, .slice C ts.length d, .slice A vs.length c]), FEq (.bool true), FEq (.bool true), FEq (.bool true), FEq (.agg #[.int .i64 f9, .bool m, .int .i64 b, .int .i64 u, .slice Cq3 ts.length dq3, .slice Aq3 vs9.length cq3]), FRi L9, FEq (.agg #[.int .i64 f, .bool m, .int .i64 b, .int .i64 u, .slice C ts.length d, .slice A vs.length c]), FRi L9, FEq (.bool true), FEq (.bool true), FEq (.bool true), FEq (.agg #[.int .i64 f9, .bool m, .int .i64 b, .int .i64 u, .slice Cq3 ts.length dq3, .slice Aq3 vs9.length cq3]), FEq (.int .i64 (n9)), FEq (.agg #[.int .i64 f, .bool m, .int .i64 b, .int .i64 u, .slice C ts.length d, .slice A vs.length c]), FEq (.int .i64 (n9)), FEq (.bool true), FEq (.bool true), FEq (.bool true), FEq (.agg #[.int .i64 f9, .bool m, .int .i64 b, .int .i64 u, .slice Cq3 ts.length dq3, .slice Aq3 vs9.length cq3]), FEq (.int .i64 (t9)), FEq (.agg #[.int .i64 f, .bool m, .int .i64 b, .int .i64 u, .slice C ts.length d, .slice A vs.length c]), FEq (.int .i64 (t9)), FEq (.bool true), FEq (.bool true), FEq (.bool true)] (by kernel_rfl) (by kernel_rfl) ?_ ?_ ?_
    · exact stayLs_cons stayL_eq (stayLs_cons stayL_eq (stayLs_cons stayL_eq (stayLs_cons stayL_eq (stayLs_cons stayL_eq (stayLs_cons stayL_eq (stayLs_cons stayL_eq (stayLs_cons stayL_eq (stayLs_cons stayL_eq (stayLs_cons stayL_eq (stayLs_cons stayL_eq (stayLs_cons stayL_eq (stayLs_cons stayL_ri (stayLs_cons stayL_eq (stayLs_cons stayL_ri (stayLs_cons stayL_eq (stayLs_cons stayL_eq (stayLs_cons stayL_eq (stayLs_cons stayL_eq (stayLs_cons stayL_eq (stayLs_cons stayL_eq (stayLs_cons stayL_eq (stayLs_cons stayL_eq (stayLs_cons stayL_eq (stayLs_cons stayL_eq (stayLs_cons stayL_eq (stayLs_cons stayL_eq (stayLs_cons stayL_eq (stayLs_cons stayL_eq (stayLs_cons stayL_eq (stayLs_cons stayL_eq (stayLs_cons stayL_eq stayLs_nil)))))))))))))))))))))))))))))))
    · refine AllI.cons ?_ (AllI.cons ?_ (AllI.cons ?_ (AllI.cons ?_ (AllI.cons ?_ (AllI.cons ?_ (AllI.cons ?_ (AllI.cons ?_ (AllI.cons ?_ (AllI.cons ?_ (AllI.cons ?_ (AllI.cons ?_ (AllI.cons ?_ (AllI.cons ?_ (AllI.cons ?_ (AllI.cons ?_ (AllI.cons ?_ (AllI.cons ?_ (AllI.cons ?_ (AllI.cons ?_ (AllI.cons ?_ (AllI.cons ?_ (AllI.cons ?_ (AllI.cons ?_ (AllI.cons ?_ (AllI.cons ?_ (AllI.cons ?_ (AllI.cons ?_ (AllI.cons ?_ (AllI.cons ?_ (AllI.cons ?_ (AllI.cons ?_ trivial)))))))))))))))))))))))))))))))
      · intro kk bb ff ww hkk hf hd hp hq hJ
        refine .inl ⟨wanted_none rfl, ?_⟩
        have q5 : FEq (.pointer (some ⟨xb, 0, none⟩)) (ff 5) ww := (hf 5 (by decide)).trans rfl
        unfold FEq at q5
        have c0 : ww.cell? ⟨xb, 0, none⟩ = some (.int .i64 f9) := (hJ.cell (p := ⟨xb, 0, none⟩) (show xb < _ by omega)).trans x0
        have c1 : ww.cell? ⟨xb, 1, none⟩ = some (.bool m) := (hJ.cell (p := ⟨xb, 1, none⟩) (show xb < _ by omega)).trans x1
        have c2 : ww.cell? ⟨xb, 2, none⟩ = some (.int .i64 b) := (hJ.cell (p := ⟨xb, 2, none⟩) (show xb < _ by omega)).trans x2
        have c3 : ww.cell? ⟨xb, 3, none⟩ = some (.int .i64 u) := (hJ.cell (p := ⟨xb, 3, none⟩) (show xb < _ by omega)).trans x3
        have c4 : ww.cell? ⟨xb, 4, none⟩ = some (.slice Cq3 ts.length dq3) := (hJ.cell (p := ⟨xb, 4, none⟩) (show xb < _ by omega)).trans x4
        have c5 : ww.cell? ⟨xb, 5, none⟩ = some (.slice Aq3 vs9.length cq3) := (hJ.cell (p := ⟨xb, 5, none⟩) (show xb < _ by omega)).trans x5
        refine sl_val (.agg #[.int .i64 f9, .bool m, .int .i64 b, .int .i64 u, .slice Cq3 ts.length dq3, .slice Aq3 vs9.length cq3]) hJ ?_ rfl
        simp only [execOp, ev_tmp _ _ (show 5 < 87 by decide), ev_const, q5]
        simp [go_sem, c0, c1, c2, c3, c4, c5]
      · intro kk bb ff ww hkk hf hd hp hq hJ
        refine .inl ⟨wanted_none rfl, ?_⟩
        obtain ⟨p0, -⟩ := hd
        have q56 : FEq (.agg #[.int .i64 f9, .bool m, .int .i64 b, .int .i64 u, .slice Cq3 ts.length dq3, .slice Aq3 vs9.length cq3]) (ff 56) ww := p0 rfl
        unfold FEq at q56
        refine sl_enter 10 #[.agg #[.int .i64 f9, .bool m, .int .i64 b, .int .i64 u, .slice Cq3 ts.length dq3, .slice Aq3 vs9.length cq3]] hJ ?_ ?_
        · simp only [execOp, ev_tmp _ _ (show 56 < 87 by decide), ev_const, q56, ev_func, resolve, List.map_toArray, List.map_cons, List.map_nil]
          simp [go_sem]
        · skip
          have h1 := retB_post (impl_SongValid f9 m b u Cq3 Aq3 dq3 cq3 ts vs9 ww (RdTempo.more (RdTempo.below HTX.out hJ (by omega)) (Nat.le_trans (show xb ≤ w9.heap.size by omega) hJ.size)) (RdVs.more (RdVs.below HVX.out hJ (by omega)) (Nat.le_trans (show xb ≤ w9.heap.size by omega) hJ.size)) hlt hlv9)
          rw [HSV.out] at h1
          exact h1
      · intro kk bb ff ww hkk hf hd hp hq hJ
        refine .inl ⟨wanted_none rfl, ?_⟩
        obtain ⟨p0, p1, -⟩ := hd
        have q : FEq (.bool true) (ff 57) ww := p0 rfl
        exact sl_val (ff 57) hJ (by simp only [execOp, ev_tmp _ _ (show 57 < 87 by decide)]; rfl) q
      · intro kk bb ff ww hkk hf hd hp hq hJ
        obtain ⟨p0, -⟩ := hd
        have qg : FEq (.bool true) (ff 58) ww := p0 rfl
        refine .inl ⟨(wanted_on (b := true) (want := true) (j := 2) (d := 58) qg (by decide) rfl rfl rfl), ?_⟩
        have q : FEq (.bool true) (ff 10) ww := (hf 10 (by decide)).trans rfl
        exact sl_val (ff 10) hJ (by simp only [execOp, ev_tmp _ _ (show 10 < 87 by decide)]; rfl) q
      · intro kk bb ff ww hkk hf hd hp hq hJ
        refine .inl ⟨wanted_none rfl, ?_⟩
        obtain ⟨p0, p1, -⟩ := hd
        have q58 : FEq (.bool true) (ff 58) ww := p0 rfl
        unfold FEq at q58
        have q59 : FEq (.bool true) (ff 59) ww := p1 rfl
        unfold FEq at q59
        refine sl_val (.bool true) hJ ?_ rfl
        simp only [execOp, ev_tmp _ _ (show 58 < 87 by decide), ev_tmp _ _ (show 59 < 87 by decide), ev_const, q58, q59]
        simp [go_sem]
      · intro kk bb ff ww hkk hf hd hp hq hJ
        refine .inl ⟨wanted_none rfl, ?_⟩
        obtain ⟨p0, p1, -⟩ := hd
        have q : FEq (.bool true) (ff 60) ww := p0 rfl
        exact sl_val (ff 60) hJ (by simp only [execOp, ev_tmp _ _ (show 60 < 87 by decide)]; rfl) q
      · intro kk bb ff ww hkk hf hd hp hq hJ
        obtain ⟨p0, -⟩ := hd
        have qg : FEq (.bool true) (ff 61) ww := p0 rfl
        refine .inl ⟨(wanted_on (b := true) (want := true) (j := 5) (d := 61) qg (by decide) rfl rfl rfl), ?_⟩
        have q9 : FEq (.pointer (some ⟨gK, 0, none⟩)) (ff 9) ww := (hf 9 (by decide)).trans rfl
        unfold FEq at q9
        have c0 : ww.cell? ⟨gK, 0, none⟩ = some (.int .i64 f) := (hJ.cell (p := ⟨gK, 0, none⟩) (show gK < _ by omega)).trans y0
        have c1 : ww.cell? ⟨gK, 1, none⟩ = some (.bool m) := (hJ.cell (p := ⟨gK, 1, none⟩) (show gK < _ by omega)).trans y1
        have c2 : ww.cell? ⟨gK, 2, none⟩ = some (.int .i64 b) := (hJ.cell (p := ⟨gK, 2, none⟩) (show gK < _ by omega)).trans y2
        have c3 : ww.cell? ⟨gK, 3, none⟩ = some (.int .i64 u) := (hJ.cell (p := ⟨gK, 3, none⟩) (show gK < _ by omega)).trans y3
        have c4 : ww.cell? ⟨gK, 4, none⟩ = some (.slice CK ts.length dK) := (hJ.cell (p := ⟨gK, 4, none⟩) (show gK < _ by omega)).trans y4
        have c5 : ww.cell? ⟨gK, 5, none⟩ = some (.slice AK vs.length cK) := (hJ.cell (p := ⟨gK, 5, none⟩) (show gK < _ by omega)).trans y5
        refine sl_val (.agg #[.int .i64 f, .bool m, .int .i64 b, .int .i64 u, .slice CK ts.length dK, .slice AK vs.length cK]) hJ ?_ rfl
        simp only [execOp, ev_tmp _ _ (show 9 < 87 by decide), ev_const, q9]
        simp [go_sem, c0, c1, c2, c3, c4, c5]
      · intro kk bb ff ww hkk hf hd hp hq hJ
        obtain ⟨p0, -⟩ := hd
        have qg : FEq (.bool true) (ff 61) ww := p0 rfl
        refine .inl ⟨(wanted_on (b := true) (want := true) (j := 5) (d := 61) qg (by decide) rfl rfl rfl), ?_⟩
        have q3 : FEq (.pointer (some ⟨sb, 0, none⟩)) (ff 3) ww := (hf 3 (by decide)).trans rfl
        unfold FEq at q3
        have c0 : ww.cell? ⟨sb, 0, none⟩ = some (.int .i64 f) := (hJ.cell (p := ⟨sb, 0, none⟩) (show sb < _ by omega)).trans sp0
        have c1 : ww.cell? ⟨sb, 1, none⟩ = some (.bool m) := (hJ.cell (p := ⟨sb, 1, none⟩) (show sb < _ by omega)).trans sp1
        have c2 : ww.cell? ⟨sb, 2, none⟩ = some (.int .i64 b) := (hJ.cell (p := ⟨sb, 2, none⟩) (show sb < _ by omega)).trans sp2
        have c3 : ww.cell? ⟨sb, 3, none⟩ = some (.int .i64 u) := (hJ.cell (p := ⟨sb, 3, none⟩) (show sb < _ by omega)).trans sp3
        have c4 : ww.cell? ⟨sb, 4, none⟩ = some (.slice C ts.length d) := (hJ.cell (p := ⟨sb, 4, none⟩) (show sb < _ by omega)).trans sp4
        have c5 : ww.cell? ⟨sb, 5, none⟩ = some (.slice A vs.length c) := (hJ.cell (p := ⟨sb, 5, none⟩) (show sb < _ by omega)).trans sp5
        refine sl_val (.agg #[.int .i64 f, .bool m, .int .i64 b, .int .i64 u, .slice C ts.length d, .slice A vs.length c]) hJ ?_ rfl
        simp only [execOp, ev_tmp _ _ (show 3 < 87 by decide), ev_const, q3]
        simp [go_sem, c0, c1, c2, c3, c4, c5]
      · intro kk bb ff ww hkk hf hd hp hq hJ
        obtain ⟨p0, p1, p2, p3, -⟩ := hd
        have qg : FEq (.bool true) (ff 61) ww := p2 rfl
        refine .inl ⟨(wanted_on (b := true) (want := true) (j := 5) (d := 61) qg (by decide) rfl rfl rfl), ?_⟩
        have q62 : FEq (.agg #[.int .i64 f, .bool m, .int .i64 b, .int .i64 u, .slice CK ts.length dK, .slice AK vs.length cK]) (ff 62) ww := p0 rfl
        unfold FEq at q62
        have q63 : FEq (.agg #[.int .i64 f, .bool m, .int .i64 b, .int .i64 u, .slice C ts.length d, .slice A vs.length c]) (ff 63) ww := p1 rfl
        unfold FEq at q63
        refine sl_enter 7 #[.agg #[.int .i64 f, .bool m, .int .i64 b, .int .i64 u, .slice CK ts.length dK, .slice AK vs.length cK], .agg #[.int .i64 f, .bool m, .int .i64 b, .int .i64 u, .slice C ts.length d, .slice A vs.length c]] hJ ?_ ?_
        · simp only [execOp, ev_tmp _ _ (show 62 < 87 by decide), ev_tmp _ _ (show 63 < 87 by decide), ev_const, q62, q63, ev_func, resolve, List.map_toArray, List.map_cons, List.map_nil]
          simp [go_sem]
        · skip
          exact retB_post (laws_sameSong f m b u CK AK C A dK cK d c ts vs ww (RdTempo.more (RdTempo.below HTK.out hJ (Nat.le_refl _)) hJ.size) (RdVs.more (RdVs.below HVK.out hJ (Nat.le_refl _)) hJ.size) (RdTempo.more (RdTempo.below HT.out hJ (by omega)) (Nat.le_trans (show sb ≤ w9.heap.size by omega) hJ.size)) (RdVs.more (RdVs.below HV.out hJ (by omega)) (Nat.le_trans (show sb ≤ w9.heap.size by omega) hJ.size)) hlt hlv)
      · intro kk bb ff ww hkk hf hd hp hq hJ
        refine .inl ⟨wanted_none rfl, ?_⟩
        obtain ⟨p0, p1, -⟩ := hd
        have q61 : FEq (.bool true) (ff 61) ww := p0 rfl
        unfold FEq at q61
        have q64 : FEq (.bool true) (ff 64) ww := p1 rfl
        unfold FEq at q64
        refine sl_val (.bool true) hJ ?_ rfl
        simp only [execOp, ev_tmp _ _ (show 61 < 87 by decide), ev_tmp _ _ (show 64 < 87 by decide), ev_const, q61, q64]
        simp [go_sem]
      · intro kk bb ff ww hkk hf hd hp hq hJ
        refine .inl ⟨wanted_none rfl, ?_⟩
        obtain ⟨p0, p1, -⟩ := hd
        have q : FEq (.bool true) (ff 65) ww := p0 rfl
        exact sl_val (ff 65) hJ (by simp only [execOp, ev_tmp _ _ (show 65 < 87 by decide)]; rfl) q
      · intro kk bb ff ww hkk hf hd hp hq hJ
        obtain ⟨p0, -⟩ := hd
        have qg : FEq (.bool true) (ff 66) ww := p0 rfl
        refine .inl ⟨(wanted_on (b := true) (want := true) (j := 10) (d := 66) qg (by decide) rfl rfl rfl), ?_⟩
        have q5 : FEq (.pointer (some ⟨xb, 0, none⟩)) (ff 5) ww := (hf 5 (by decide)).trans rfl
        unfold FEq at q5
        have c0 : ww.cell? ⟨xb, 0, none⟩ = some (.int .i64 f9) := (hJ.cell (p := ⟨xb, 0, none⟩) (show xb < _ by omega)).trans x0
        have c1 : ww.cell? ⟨xb, 1, none⟩ = some (.bool m) := (hJ.cell (p := ⟨xb, 1, none⟩) (show xb < _ by omega)).trans x1
        have c2 : ww.cell? ⟨xb, 2, none⟩ = some (.int .i64 b) := (hJ.cell (p := ⟨xb, 2, none⟩) (show xb < _ by omega)).trans x2
        have c3 : ww.cell? ⟨xb, 3, none⟩ = some (.int .i64 u) := (hJ.cell (p := ⟨xb, 3, none⟩) (show xb < _ by omega)).trans x3
        have c4 : ww.cell? ⟨xb, 4, none⟩ = some (.slice Cq3 ts.length dq3) := (hJ.cell (p := ⟨xb, 4, none⟩) (show xb < _ by omega)).trans x4
        have c5 : ww.cell? ⟨xb, 5, none⟩ = some (.slice Aq3 vs9.length cq3) := (hJ.cell (p := ⟨xb, 5, none⟩) (show xb < _ by omega)).trans x5
        refine sl_val (.agg #[.int .i64 f9, .bool m, .int .i64 b, .int .i64 u, .slice Cq3 ts.length dq3, .slice Aq3 vs9.length cq3]) hJ ?_ rfl
        simp only [execOp, ev_tmp _ _ (show 5 < 87 by decide), ev_const, q5]
        simp [go_sem, c0, c1, c2, c3, c4, c5]
      · intro kk bb ff ww hkk hf hd hp hq hJ
        obtain ⟨p0, p1, p2, -⟩ := hd
        have qg : FEq (.bool true) (ff 66) ww := p1 rfl
        refine .inl ⟨(wanted_on (b := true) (want := true) (j := 10) (d := 66) qg (by decide) rfl rfl rfl), ?_⟩
        have q67 : FEq (.agg #[.int .i64 f9, .bool m, .int .i64 b, .int .i64 u, .slice Cq3 ts.length dq3, .slice Aq3 vs9.length cq3]) (ff 67) ww := p0 rfl
        unfold FEq at q67
        refine sl_enter 12 #[.agg #[.int .i64 f9, .bool m, .int .i64 b, .int .i64 u, .slice Cq3 ts.length dq3, .slice Aq3 vs9.length cq3]] hJ ?_ ?_
        · simp only [execOp, ev_tmp _ _ (show 67 < 87 by decide), ev_const, q67, ev_func, resolve, List.map_toArray, List.map_cons, List.map_nil]
          simp [go_sem]
        · skip
          have h1 := impl_SongFaults f9 m b u Cq3 Aq3 dq3 cq3 ts vs9 ww (RdTempo.more (RdTempo.below HTX.out hJ (by omega)) (Nat.le_trans (show xb ≤ w9.heap.size by omega) hJ.size)) (RdVs.more (RdVs.below HVX.out hJ (by omega)) (Nat.le_trans (show xb ≤ w9.heap.size by omega) hJ.size)) hlt hlv9
          rw [HF9.out] at h1
          exact retR_ri h1
      · intro kk bb ff ww hkk hf hd hp hq hJ
        obtain ⟨p0, -⟩ := hd
        have qg : FEq (.bool true) (ff 66) ww := p0 rfl
        refine .inl ⟨(wanted_on (b := true) (want := true) (j := 10) (d := 66) qg (by decide) rfl rfl rfl), ?_⟩
        have q3 : FEq (.pointer (some ⟨sb, 0, none⟩)) (ff 3) ww := (hf 3 (by decide)).trans rfl
        unfold FEq at q3
        have c0 : ww.cell? ⟨sb, 0, none⟩ = some (.int .i64 f) := (hJ.cell (p := ⟨sb, 0, none⟩) (show sb < _ by omega)).trans sp0
        have c1 : ww.cell? ⟨sb, 1, none⟩ = some (.bool m) := (hJ.cell (p := ⟨sb, 1, none⟩) (show sb < _ by omega)).trans sp1
        have c2 : ww.cell? ⟨sb, 2, none⟩ = some (.int .i64 b) := (hJ.cell (p := ⟨sb, 2, none⟩) (show sb < _ by omega)).trans sp2
        have c3 : ww.cell? ⟨sb, 3, none⟩ = some (.int .i64 u) := (hJ.cell (p := ⟨sb, 3, none⟩) (show sb < _ by omega)).trans sp3
        have c4 : ww.cell? ⟨sb, 4, none⟩ = some (.slice C ts.length d) := (hJ.cell (p := ⟨sb, 4, none⟩) (show sb < _ by omega)).trans sp4
        have c5 : ww.cell? ⟨sb, 5, none⟩ = some (.slice A vs.length c) := (hJ.cell (p := ⟨sb, 5, none⟩) (show sb < _ by omega)).trans sp5
        refine sl_val (.agg #[.int .i64 f, .bool m, .int .i64 b, .int .i64 u, .slice C ts.length d, .slice A vs.length c]) hJ ?_ rfl
        simp only [execOp, ev_tmp _ _ (show 3 < 87 by decide), ev_const, q3]
        simp [go_sem, c0, c1, c2, c3, c4, c5]
      · intro kk bb ff ww hkk hf hd hp hq hJ
        obtain ⟨p0, p1, p2, -⟩ := hd
        have qg : FEq (.bool true) (ff 66) ww := p2 rfl
        refine .inl ⟨(wanted_on (b := true) (want := true) (j := 10) (d := 66) qg (by decide) rfl rfl rfl), ?_⟩
        have q69 : FEq (.agg #[.int .i64 f, .bool m, .int .i64 b, .int .i64 u, .slice C ts.length d, .slice A vs.length c]) (ff 69) ww := p0 rfl
        unfold FEq at q69
        refine sl_enter 12 #[.agg #[.int .i64 f, .bool m, .int .i64 b, .int .i64 u, .slice C ts.length d, .slice A vs.length c]] hJ ?_ ?_
        · simp only [execOp, ev_tmp _ _ (show 69 < 87 by decide), ev_const, q69, ev_func, resolve, List.map_toArray, List.map_cons, List.map_nil]
          simp [go_sem]
        · skip
          have h1 := impl_SongFaults f m b u C A d c ts vs ww (RdTempo.more (RdTempo.below HT.out hJ (by omega)) (Nat.le_trans (show sb ≤ w9.heap.size by omega) hJ.size)) (RdVs.more (RdVs.below HV.out hJ (by omega)) (Nat.le_trans (show sb ≤ w9.heap.size by omega) hJ.size)) hlt hlv
          rw [HFS.out] at h1
          exact retR_ri h1
      · intro kk bb ff ww hkk hf hd hp hq hJ
        obtain ⟨p0, p1, p2, p3, -⟩ := hd
        have qg : FEq (.bool true) (ff 66) ww := p3 rfl
        refine .inl ⟨(wanted_on (b := true) (want := true) (j := 10) (d := 66) qg (by decide) rfl rfl rfl), ?_⟩
        have q68 : FRi L9 (ff 68) ww := p0 rfl
        obtain ⟨A68, c68, q68, r68⟩ := q68
        have q70 : FRi L9 (ff 70) ww := p1 rfl
        obtain ⟨A70, c70, q70, r70⟩ := q70
        refine sl_enter 11 #[.slice A68 L9.length c68, .slice A70 L9.length c70] hJ ?_ ?_
        · simp only [execOp, ev_tmp _ _ (show 68 < 87 by decide), ev_tmp _ _ (show 70 < 87 by decide), ev_const, q68, q70, ev_func, resolve, List.map_toArray, List.map_cons, List.map_nil]
          simp [go_sem]
        · skip
          have h1 := retB_post (laws_sameInts A68 A70 c68 c70 L9 L9 ww r68 r70 hl9 hl9)
          rw [sameI_refl] at h1
          exact h1
      · intro kk bb ff ww hkk hf hd hp hq hJ
        refine .inl ⟨wanted_none rfl, ?_⟩
        obtain ⟨p0, p1, -⟩ := hd
        have q66 : FEq (.bool true) (ff 66) ww := p0 rfl
        unfold FEq at q66
        have q71 : FEq (.bool true) (ff 71) ww := p1 rfl
        unfold FEq at q71
        refine sl_val (.bool true) hJ ?_ rfl
        simp only [execOp, ev_tmp _ _ (show 66 < 87 by decide), ev_tmp _ _ (show 71 < 87 by decide), ev_const, q66, q71]
        simp [go_sem]
      · intro kk bb ff ww hkk hf hd hp hq hJ
        refine .inl ⟨wanted_none rfl, ?_⟩
        obtain ⟨p0, p1, -⟩ := hd
        have q : FEq (.bool true) (ff 72) ww := p0 rfl
        exact sl_val (ff 72) hJ (by simp only [execOp, ev_tmp _ _ (show 72 < 87 by decide)]; rfl) q
      · intro kk bb ff ww hkk hf hd hp hq hJ
        obtain ⟨p0, -⟩ := hd
        have qg : FEq (.bool true) (ff 73) ww := p0 rfl
        refine .inl ⟨(wanted_on (b := true) (want := true) (j := 17) (d := 73) qg (by decide) rfl rfl rfl), ?_⟩
        have q5 : FEq (.pointer (some ⟨xb, 0, none⟩)) (ff 5) ww := (hf 5 (by decide)).trans rfl
        unfold FEq at q5
        have c0 : ww.cell? ⟨xb, 0, none⟩ = some (.int .i64 f9) := (hJ.cell (p := ⟨xb, 0, none⟩) (show xb < _ by omega)).trans x0
        have c1 : ww.cell? ⟨xb, 1, none⟩ = some (.bool m) := (hJ.cell (p := ⟨xb, 1, none⟩) (show xb < _ by omega)).trans x1
        have c2 : ww.cell? ⟨xb, 2, none⟩ = some (.int .i64 b) := (hJ.cell (p := ⟨xb, 2, none⟩) (show xb < _ by omega)).trans x2
        have c3 : ww.cell? ⟨xb, 3, none⟩ = some (.int .i64 u) := (hJ.cell (p := ⟨xb, 3, none⟩) (show xb < _ by omega)).trans x3
        have c4 : ww.cell? ⟨xb, 4, none⟩ = some (.slice Cq3 ts.length dq3) := (hJ.cell (p := ⟨xb, 4, none⟩) (show xb < _ by omega)).trans x4
        have c5 : ww.cell? ⟨xb, 5, none⟩ = some (.slice Aq3 vs9.length cq3) := (hJ.cell (p := ⟨xb, 5, none⟩) (show xb < _ by omega)).trans x5
        refine sl_val (.agg #[.int .i64 f9, .bool m, .int .i64 b, .int .i64 u, .slice Cq3 ts.length dq3, .slice Aq3 vs9.length cq3]) hJ ?_ rfl
        simp only [execOp, ev_tmp _ _ (show 5 < 87 by decide), ev_const, q5]
        simp [go_sem, c0, c1, c2, c3, c4, c5]
      · intro kk bb ff ww hkk hf hd hp hq hJ
        obtain ⟨p0, p1, p2, -⟩ := hd
        have qg : FEq (.bool true) (ff 73) ww := p1 rfl
        refine .inl ⟨(wanted_on (b := true) (want := true) (j := 17) (d := 73) qg (by decide) rfl rfl rfl), ?_⟩
        have q74 : FEq (.agg #[.int .i64 f9, .bool m, .int .i64 b, .int .i64 u, .slice Cq3 ts.length dq3, .slice Aq3 vs9.length cq3]) (ff 74) ww := p0 rfl
        unfold FEq at q74
        refine sl_enter 13 #[.agg #[.int .i64 f9, .bool m, .int .i64 b, .int .i64 u, .slice Cq3 ts.length dq3, .slice Aq3 vs9.length cq3]] hJ ?_ ?_
        · simp only [execOp, ev_tmp _ _ (show 74 < 87 by decide), ev_const, q74, ev_func, resolve, List.map_toArray, List.map_cons, List.map_nil]
          simp [go_sem]
        · skip
          have h1 := impl_SongBars f9 m b u Cq3 Aq3 dq3 cq3 ts vs9 ww (RdTempo.more (RdTempo.below HTX.out hJ (by omega)) (Nat.le_trans (show xb ≤ w9.heap.size by omega) hJ.size)) (RdVs.more (RdVs.below HVX.out hJ (by omega)) (Nat.le_trans (show xb ≤ w9.heap.size by omega) hJ.size)) hlt hlv9
          rw [HB9.out] at h1
          exact retI_post h1
      · intro kk bb ff ww hkk hf hd hp hq hJ
        obtain ⟨p0, -⟩ := hd
        have qg : FEq (.bool true) (ff 73) ww := p0 rfl
        refine .inl ⟨(wanted_on (b := true) (want := true) (j := 17) (d := 73) qg (by decide) rfl rfl rfl), ?_⟩
        have q3 : FEq (.pointer (some ⟨sb, 0, none⟩)) (ff 3) ww := (hf 3 (by decide)).trans rfl
        unfold FEq at q3
        have c0 : ww.cell? ⟨sb, 0, none⟩ = some (.int .i64 f) := (hJ.cell (p := ⟨sb, 0, none⟩) (show sb < _ by omega)).trans sp0
        have c1 : ww.cell? ⟨sb, 1, none⟩ = some (.bool m) := (hJ.cell (p := ⟨sb, 1, none⟩) (show sb < _ by omega)).trans sp1
        have c2 : ww.cell? ⟨sb, 2, none⟩ = some (.int .i64 b) := (hJ.cell (p := ⟨sb, 2, none⟩) (show sb < _ by omega)).trans sp2
        have c3 : ww.cell? ⟨sb, 3, none⟩ = some (.int .i64 u) := (hJ.cell (p := ⟨sb, 3, none⟩) (show sb < _ by omega)).trans sp3
        have c4 : ww.cell? ⟨sb, 4, none⟩ = some (.slice C ts.length d) := (hJ.cell (p := ⟨sb, 4, none⟩) (show sb < _ by omega)).trans sp4
        have c5 : ww.cell? ⟨sb, 5, none⟩ = some (.slice A vs.length c) := (hJ.cell (p := ⟨sb, 5, none⟩) (show sb < _ by omega)).trans sp5
        refine sl_val (.agg #[.int .i64 f, .bool m, .int .i64 b, .int .i64 u, .slice C ts.length d, .slice A vs.length c]) hJ ?_ rfl
        simp only [execOp, ev_tmp _ _ (show 3 < 87 by decide), ev_const, q3]
        simp [go_sem, c0, c1, c2, c3, c4, c5]
      · intro kk bb ff ww hkk hf hd hp hq hJ
        obtain ⟨p0, p1, p2, -⟩ := hd
        have qg : FEq (.bool true) (ff 73) ww := p2 rfl
        refine .inl ⟨(wanted_on (b := true) (want := true) (j := 17) (d := 73) qg (by decide) rfl rfl rfl), ?_⟩
        have q76 : FEq (.agg #[.int .i64 f, .bool m, .int .i64 b, .int .i64 u, .slice C ts.length d, .slice A vs.length c]) (ff 76) ww := p0 rfl
        unfold FEq at q76
        refine sl_enter 13 #[.agg #[.int .i64 f, .bool m, .int .i64 b, .int .i64 u, .slice C ts.length d, .slice A vs.length c]] hJ ?_ ?_
        · simp only [execOp, ev_tmp _ _ (show 76 < 87 by decide), ev_const, q76, ev_func, resolve, List.map_toArray, List.map_cons, List.map_nil]
          simp [go_sem]
        · skip
          have h1 := impl_SongBars f m b u C A d c ts vs ww (RdTempo.more (RdTempo.below HT.out hJ (by omega)) (Nat.le_trans (show sb ≤ w9.heap.size by omega) hJ.size)) (RdVs.more (RdVs.below HV.out hJ (by omega)) (Nat.le_trans (show sb ≤ w9.heap.size by omega) hJ.size)) hlt hlv
          rw [HBS.out] at h1
          exact retI_post h1
      · intro kk bb ff ww hkk hf hd hp hq hJ
        obtain ⟨p0, p1, p2, -⟩ := hd
        have qg : FEq (.bool true) (ff 73) ww := p2 rfl
        refine .inl ⟨(wanted_on (b := true) (want := true) (j := 17) (d := 73) qg (by decide) rfl rfl rfl), ?_⟩
        have q75 : FEq (.int .i64 (n9)) (ff 75) ww := p0 rfl
        unfold FEq at q75
        have q77 : FEq (.int .i64 (n9)) (ff 77) ww := p1 rfl
        unfold FEq at q77
        refine sl_val (.bool true) hJ ?_ rfl
        simp only [execOp, ev_tmp _ _ (show 75 < 87 by decide), ev_tmp _ _ (show 77 < 87 by decide), ev_const, q75, q77]
        simp [go_sem]
      · intro kk bb ff ww hkk hf hd hp hq hJ
        refine .inl ⟨wanted_none rfl, ?_⟩
        obtain ⟨p0, p1, -⟩ := hd
        have q73 : FEq (.bool true) (ff 73) ww := p0 rfl
        unfold FEq at q73
        have q78 : FEq (.bool true) (ff 78) ww := p1 rfl
        unfold FEq at q78
        refine sl_val (.bool true) hJ ?_ rfl
        simp only [execOp, ev_tmp _ _ (show 73 < 87 by decide), ev_tmp _ _ (show 78 < 87 by decide), ev_const, q73, q78]
        simp [go_sem]
      · intro kk bb ff ww hkk hf hd hp hq hJ
        refine .inl ⟨wanted_none rfl, ?_⟩
        obtain ⟨p0, p1, -⟩ := hd
        have q : FEq (.bool true) (ff 79) ww := p0 rfl
        exact sl_val (ff 79) hJ (by simp only [execOp, ev_tmp _ _ (show 79 < 87 by decide)]; rfl) q
      · intro kk bb ff ww hkk hf hd hp hq hJ
        obtain ⟨p0, -⟩ := hd
        have qg : FEq (.bool true) (ff 80) ww := p0 rfl
        refine .inl ⟨(wanted_on (b := true) (want := true) (j := 24) (d := 80) qg (by decide) rfl rfl rfl), ?_⟩
        have q5 : FEq (.pointer (some ⟨xb, 0, none⟩)) (ff 5) ww := (hf 5 (by decide)).trans rfl
        unfold FEq at q5
        have c0 : ww.cell? ⟨xb, 0, none⟩ = some (.int .i64 f9) := (hJ.cell (p := ⟨xb, 0, none⟩) (show xb < _ by omega)).trans x0
        have c1 : ww.cell? ⟨xb, 1, none⟩ = some (.bool m) := (hJ.cell (p := ⟨xb, 1, none⟩) (show xb < _ by omega)).trans x1
        have c2 : ww.cell? ⟨xb, 2, none⟩ = some (.int .i64 b) := (hJ.cell (p := ⟨xb, 2, none⟩) (show xb < _ by omega)).trans x2
        have c3 : ww.cell? ⟨xb, 3, none⟩ = some (.int .i64 u) := (hJ.cell (p := ⟨xb, 3, none⟩) (show xb < _ by omega)).trans x3
        have c4 : ww.cell? ⟨xb, 4, none⟩ = some (.slice Cq3 ts.length dq3) := (hJ.cell (p := ⟨xb, 4, none⟩) (show xb < _ by omega)).trans x4
        have c5 : ww.cell? ⟨xb, 5, none⟩ = some (.slice Aq3 vs9.length cq3) := (hJ.cell (p := ⟨xb, 5, none⟩) (show xb < _ by omega)).trans x5
        refine sl_val (.agg #[.int .i64 f9, .bool m, .int .i64 b, .int .i64 u, .slice Cq3 ts.length dq3, .slice Aq3 vs9.length cq3]) hJ ?_ rfl
        simp only [execOp, ev_tmp _ _ (show 5 < 87 by decide), ev_const, q5]
        simp [go_sem, c0, c1, c2, c3, c4, c5]
      · intro kk bb ff ww hkk hf hd hp hq hJ
        obtain ⟨p0, p1, p2, -⟩ := hd
        have qg : FEq (.bool true) (ff 80) ww := p1 rfl
        refine .inl ⟨(wanted_on (b := true) (want := true) (j := 24) (d := 80) qg (by decide) rfl rfl rfl), ?_⟩
        have q81 : FEq (.agg #[.int .i64 f9, .bool m, .int .i64 b, .int .i64 u, .slice Cq3 ts.length dq3, .slice Aq3 vs9.length cq3]) (ff 81) ww := p0 rfl
        unfold FEq at q81
        refine sl_enter 14 #[.agg #[.int .i64 f9, .bool m, .int .i64 b, .int .i64 u, .slice Cq3 ts.length dq3, .slice Aq3 vs9.length cq3]] hJ ?_ ?_
        · simp only [execOp, ev_tmp _ _ (show 81 < 87 by decide), ev_const, q81, ev_func, resolve, List.map_toArray, List.map_cons, List.map_nil]
          simp [go_sem]
        · skip
          have h1 := impl_SongTime f9 m b u Cq3 Aq3 dq3 cq3 ts vs9 ww (RdTempo.more (RdTempo.below HTX.out hJ (by omega)) (Nat.le_trans (show xb ≤ w9.heap.size by omega) hJ.size)) (RdVs.more (RdVs.below HVX.out hJ (by omega)) (Nat.le_trans (show xb ≤ w9.heap.size by omega) hJ.size)) hlt hlv9
          rw [HM9.out] at h1
          exact retI_post h1
      · intro kk bb ff ww hkk hf hd hp hq hJ
        obtain ⟨p0, -⟩ := hd
        have qg : FEq (.bool true) (ff 80) ww := p0 rfl
        refine .inl ⟨(wanted_on (b := true) (want := true) (j := 24) (d := 80) qg (by decide) rfl rfl rfl), ?_⟩
        have q3 : FEq (.pointer (some ⟨sb, 0, none⟩)) (ff 3) ww := (hf 3 (by decide)).trans rfl
        unfold FEq at q3
        have c0 : ww.cell? ⟨sb, 0, none⟩ = some (.int .i64 f) := (hJ.cell (p := ⟨sb, 0, none⟩) (show sb < _ by omega)).trans sp0
        have c1 : ww.cell? ⟨sb, 1, none⟩ = some (.bool m) := (hJ.cell (p := ⟨sb, 1, none⟩) (show sb < _ by omega)).trans sp1
        have c2 : ww.cell? ⟨sb, 2, none⟩ = some (.int .i64 b) := (hJ.cell (p := ⟨sb, 2, none⟩) (show sb < _ by omega)).trans sp2
        have c3 : ww.cell? ⟨sb, 3, none⟩ = some (.int .i64 u) := (hJ.cell (p := ⟨sb, 3, none⟩) (show sb < _ by omega)).trans sp3
        have c4 : ww.cell? ⟨sb, 4, none⟩ = some (.slice C ts.length d) := (hJ.cell (p := ⟨sb, 4, none⟩) (show sb < _ by omega)).trans sp4
        have c5 : ww.cell? ⟨sb, 5, none⟩ = some (.slice A vs.length c) := (hJ.cell (p := ⟨sb, 5, none⟩) (show sb < _ by omega)).trans sp5
        refine sl_val (.agg #[.int .i64 f, .bool m, .int .i64 b, .int .i64 u, .slice C ts.length d, .slice A vs.length c]) hJ ?_ rfl
        simp only [execOp, ev_tmp _ _ (show 3 < 87 by decide), ev_const, q3]
        simp [go_sem, c0, c1, c2, c3, c4, c5]
      · intro kk bb ff ww hkk hf hd hp hq hJ
        obtain ⟨p0, p1, p2, -⟩ := hd
        have qg : FEq (.bool true) (ff 80) ww := p2 rfl
        refine .inl ⟨(wanted_on (b := true) (want := true) (j := 24) (d := 80) qg (by decide) rfl rfl rfl), ?_⟩
        have q83 : FEq (.agg #[.int .i64 f, .bool m, .int .i64 b, .int .i64 u, .slice C ts.length d, .slice A vs.length c]) (ff 83) ww := p0 rfl
        unfold FEq at q83
        refine sl_enter 14 #[.agg #[.int .i64 f, .bool m, .int .i64 b, .int .i64 u, .slice C ts.length d, .slice A vs.length c]] hJ ?_ ?_
        · simp only [execOp, ev_tmp _ _ (show 83 < 87 by decide), ev_const, q83, ev_func, resolve, List.map_toArray, List.map_cons, List.map_nil]
          simp [go_sem]
        · skip
          have h1 := impl_SongTime f m b u C A d c ts vs ww (RdTempo.more (RdTempo.below HT.out hJ (by omega)) (Nat.le_trans (show sb ≤ w9.heap.size by omega) hJ.size)) (RdVs.more (RdVs.below HV.out hJ (by omega)) (Nat.le_trans (show sb ≤ w9.heap.size by omega) hJ.size)) hlt hlv
          rw [HMS.out] at h1
          exact retI_post h1
      · intro kk bb ff ww hkk hf hd hp hq hJ
        obtain ⟨p0, p1, p2, -⟩ := hd
        have qg : FEq (.bool true) (ff 80) ww := p2 rfl
        refine .inl ⟨(wanted_on (b := true) (want := true) (j := 24) (d := 80) qg (by decide) rfl rfl rfl), ?_⟩
        have q82 : FEq (.int .i64 (t9)) (ff 82) ww := p0 rfl
        unfold FEq at q82
        have q84 : FEq (.int .i64 (t9)) (ff 84) ww := p1 rfl
        unfold FEq at q84
        refine sl_val (.bool true) hJ ?_ rfl
        simp only [execOp, ev_tmp _ _ (show 82 < 87 by decide), ev_tmp _ _ (show 84 < 87 by decide), ev_const, q82, q84]
        simp [go_sem]
      · intro kk bb ff ww hkk hf hd hp hq hJ
        refine .inl ⟨wanted_none rfl, ?_⟩
        obtain ⟨p0, p1, -⟩ := hd
        have q80 : FEq (.bool true) (ff 80) ww := p0 rfl
        unfold FEq at q80
        have q85 : FEq (.bool true) (ff 85) ww := p1 rfl
        unfold FEq at q85
        refine sl_val (.bool true) hJ ?_ rfl
        simp only [execOp, ev_tmp _ _ (show 80 < 87 by decide), ev_tmp _ _ (show 85 < 87 by decide), ev_const, q80, q85]
        simp [go_sem]
      · intro kk bb ff ww hkk hf hd hp hq hJ
        refine .inl ⟨wanted_none rfl, ?_⟩
        obtain ⟨p0, p1, p2, p3, p4, p5, p6, p7, p8, p9, p10, p11, p12, p13, p14, p15, p16, p17, p18, p19, p20, p21, p22, p23, p24, p25, p26, p27, p28, p29, p30, p31, p32, -⟩ := hd
        have q : FEq (.bool true) (ff 86) ww := p0 rfl
        exact sl_val (ff 86) hJ (by simp only [execOp, ev_tmp _ _ (show 86 < 87 by decide)]; rfl) q
    intro ff wE hf hd hJ
    have hfr : fr 87 ff = #[ff 0, ff 1, ff 2, ff 3, ff 4, ff 5, ff 6, ff 7, ff 8, ff 9, ff 10, ff 11, ff 12, ff 13, ff 14, ff 15, ff 16, ff 17, ff 18, ff 19, ff 20, ff 21, ff 22, ff 23, ff 24, ff 25, ff 26, ff 27, ff 28, ff 29, ff 30, ff 31, ff 32, ff 33, ff 34, ff 35, ff 36, ff 37, ff 38, ff 39, ff 40, ff 41, ff 42, ff 43, ff 44, ff 45, ff 46, ff 47, ff 48, ff 49, ff 50, ff 51, ff 52, ff 53, ff 54, ff 55, ff 56, ff 57, ff 58, ff 59, ff 60, ff 61, ff 62, ff 63, ff 64, ff 65, ff 66, ff 67, ff 68, ff 69, ff 70, ff 71, ff 72, ff 73, ff 74, ff 75, ff 76, ff 77, ff 78, ff 79, ff 80, ff 81, ff 82, ff 83, ff 84, ff 85, ff 86] := rfl
    rw [hfr]; clear hfr
    dsimp only
    have q0_ := hf 0 (by decide)
    have q1_ := hf 1 (by decide)
    have q2_ : FEq (.bool true) (ff 2) wE := hd 31 (by decide)
    unfold FEq at q2_
    have q3_ := hf 3 (by decide)
    have q4_ := hf 4 (by decide)
    have q5_ := hf 5 (by decide)
    have q6_ := hf 6 (by decide)
    have q7_ := hf 7 (by decide)
    have q8_ := hf 8 (by decide)
    have q9_ := hf 9 (by decide)
    have q10_ := hf 10 (by decide)
    have q11_ := hf 11 (by decide)
    have q12_ := hf 12 (by decide)
    have q13_ := hf 13 (by decide)
    have q14_ := hf 14 (by decide)
    have q15_ := hf 15 (by decide)
    have q16_ := hf 16 (by decide)
    have q17_ := hf 17 (by decide)
    have q18_ := hf 18 (by decide)
    have q19_ := hf 19 (by decide)
    have q20_ := hf 20 (by decide)
    have q21_ := hf 21 (by decide)
    have q22_ := hf 22 (by decide)
    have q23_ := hf 23 (by decide)
    have q24_ := hf 24 (by decide)
    have q25_ := hf 25 (by decide)
    have q26_ := hf 26 (by decide)
    have q27_ := hf 27 (by decide)
    have q28_ := hf 28 (by decide)
    have q29_ := hf 29 (by decide)
    have q30_ := hf 30 (by decide)
    have q31_ := hf 31 (by decide)
    have q32_ := hf 32 (by decide)
    have q33_ := hf 33 (by decide)
    have q34_ := hf 34 (by decide)
    have q35_ := hf 35 (by decide)
    have q36_ := hf 36 (by decide)
    have q37_ := hf 37 (by decide)
    have q38_ := hf 38 (by decide)
    have q39_ := hf 39 (by decide)
    have q40_ := hf 40 (by decide)
    have q41_ := hf 41 (by decide)
    have q42_ := hf 42 (by decide)
    have q43_ := hf 43 (by decide)
    have q44_ := hf 44 (by decide)
    have q45_ := hf 45 (by decide)
    have q46_ := hf 46 (by decide)
    have q47_ := hf 47 (by decide)
    have q48_ := hf 48 (by decide)
    have q49_ := hf 49 (by decide)
    have q50_ := hf 50 (by decide)
    have q51_ := hf 51 (by decide)
    have q52_ := hf 52 (by decide)
    have q53_ := hf 53 (by decide)
    have q54_ := hf 54 (by decide)
    have q55_ := hf 55 (by decide)
    have q56_ : FEq (.agg #[.int .i64 f9, .bool m, .int .i64 b, .int .i64 u, .slice Cq3 ts.length dq3, .slice Aq3 vs9.length cq3]) (ff 56) wE := hd 0 (by decide)
    unfold FEq at q56_
    have q57_ : FEq (.bool true) (ff 57) wE := hd 1 (by decide)
    unfold FEq at q57_
    have q58_ : FEq (.bool true) (ff 58) wE := hd 2 (by decide)
    unfold FEq at q58_
    have q59_ : FEq (.bool true) (ff 59) wE := hd 3 (by decide)
    unfold FEq at q59_
    have q60_ : FEq (.bool true) (ff 60) wE := hd 4 (by decide)
    unfold FEq at q60_
    have q61_ : FEq (.bool true) (ff 61) wE := hd 5 (by decide)
    unfold FEq at q61_
    have q62_ : FEq (.agg #[.int .i64 f, .bool m, .int .i64 b, .int .i64 u, .slice CK ts.length dK, .slice AK vs.length cK]) (ff 62) wE := hd 6 (by decide)
    unfold FEq at q62_
    have q63_ : FEq (.agg #[.int .i64 f, .bool m, .int .i64 b, .int .i64 u, .slice C ts.length d, .slice A vs.length c]) (ff 63) wE := hd 7 (by decide)
    unfold FEq at q63_
    have q64_ : FEq (.bool true) (ff 64) wE := hd 8 (by decide)
    unfold FEq at q64_
    have q65_ : FEq (.bool true) (ff 65) wE := hd 9 (by decide)
    unfold FEq at q65_
    have q66_ : FEq (.bool true) (ff 66) wE := hd 10 (by decide)
    unfold FEq at q66_
    have q67_ : FEq (.agg #[.int .i64 f9, .bool m, .int .i64 b, .int .i64 u, .slice Cq3 ts.length dq3, .slice Aq3 vs9.length cq3]) (ff 67) wE := hd 11 (by decide)
    unfold FEq at q67_
    have q69_ : FEq (.agg #[.int .i64 f, .bool m, .int .i64 b, .int .i64 u, .slice C ts.length d, .slice A vs.length c]) (ff 69) wE := hd 13 (by decide)
    unfold FEq at q69_
    have q71_ : FEq (.bool true) (ff 71) wE := hd 15 (by decide)
    unfold FEq at q71_
    have q72_ : FEq (.bool true) (ff 72) wE := hd 16 (by decide)
    unfold FEq at q72_
    have q73_ : FEq (.bool true) (ff 73) wE := hd 17 (by decide)
    unfold FEq at q73_
    have q74_ : FEq (.agg #[.int .i64 f9, .bool m, .int .i64 b, .int .i64 u, .slice Cq3 ts.length dq3, .slice Aq3 vs9.length cq3]) (ff 74) wE := hd 18 (by decide)
    unfold FEq at q74_
    have q75_ : FEq (.int .i64 (n9)) (ff 75) wE := hd 19 (by decide)
    unfold FEq at q75_
    have q76_ : FEq (.agg #[.int .i64 f, .bool m, .int .i64 b, .int .i64 u, .slice C ts.length d, .slice A vs.length c]) (ff 76) wE := hd 20 (by decide)
    unfold FEq at q76_
    have q77_ : FEq (.int .i64 (n9)) (ff 77) wE := hd 21 (by decide)
    unfold FEq at q77_
    have q78_ : FEq (.bool true) (ff 78) wE := hd 22 (by decide)
    unfold FEq at q78_
    have q79_ : FEq (.bool true) (ff 79) wE := hd 23 (by decide)
    unfold FEq at q79_
    have q80_ : FEq (.bool true) (ff 80) wE := hd 24 (by decide)
    unfold FEq at q80_
    have q81_ : FEq (.agg #[.int .i64 f9, .bool m, .int .i64 b, .int .i64 u, .slice Cq3 ts.length dq3, .slice Aq3 vs9.length cq3]) (ff 81) wE := hd 25 (by decide)
    unfold FEq at q81_
    have q82_ : FEq (.int .i64 (t9)) (ff 82) wE := hd 26 (by decide)
    unfold FEq at q82_
    have q83_ : FEq (.agg #[.int .i64 f, .bool m, .int .i64 b, .int .i64 u, .slice C ts.length d, .slice A vs.length c]) (ff 83) wE := hd 27 (by decide)
    unfold FEq at q83_
    have q84_ : FEq (.int .i64 (t9)) (ff 84) wE := hd 28 (by decide)
    unfold FEq at q84_
    have q85_ : FEq (.bool true) (ff 85) wE := hd 29 (by decide)
    unfold FEq at q85_
    have q86_ : FEq (.bool true) (ff 86) wE := hd 30 (by decide)
    unfold FEq at q86_
    simp only [Array.getD_eq_getD_getElem?, List.getElem?_toArray, List.getElem?_cons_zero, List.getElem?_cons_succ, Option.getD_some] at q0_ q1_ q3_ q4_ q5_ q6_ q7_ q8_ q9_ q10_ q11_ q12_ q13_ q14_ q15_ q16_ q17_ q18_ q19_ q20_ q21_ q22_ q23_ q24_ q25_ q26_ q27_ q28_ q29_ q30_ q31_ q32_ q33_ q34_ q35_ q36_ q37_ q38_ q39_ q40_ q41_ q42_ q43_ q44_ q45_ q46_ q47_ q48_ q49_ q50_ q51_ q52_ q53_ q54_ q55_
    rw [q0_, q1_, q2_, q3_, q4_, q5_, q6_, q7_, q8_, q9_, q10_, q11_, q12_, q13_, q14_, q15_, q16_, q17_, q18_, q19_, q20_, q21_, q22_, q23_, q24_, q25_, q26_, q27_, q28_, q29_, q30_, q31_, q32_, q33_, q34_, q35_, q36_, q37_, q38_, q39_, q40_, q41_, q42_, q43_, q44_, q45_, q46_, q47_, q48_, q49_, q50_, q51_, q52_, q53_, q54_, q55_, q56_, q57_, q58_, q59_, q60_, q61_, q62_, q63_, q64_, q65_, q66_, q67_, q69_, q71_, q72_, q73_, q74_, q75_, q76_, q77_, q78_, q79_, q80_, q81_, q82_, q83_, q84_, q85_, q86_]
    clear q0_ q1_ q2_ q3_ q4_ q5_ q6_ q7_ q8_ q9_ q10_ q11_ q12_ q13_ q14_ q15_ q16_ q17_ q18_ q19_ q20_ q21_ q22_ q23_ q24_ q25_ q26_ q27_ q28_ q29_ q30_ q31_ q32_ q33_ q34_ q35_ q36_ q37_ q38_ q39_ q40_ q41_ q42_ q43_ q44_ q45_ q46_ q47_ q48_ q49_ q50_ q51_ q52_ q53_ q54_ q55_ q56_ q57_ q58_ q59_ q60_ q61_ q62_ q63_ q64_ q65_ q66_ q67_ q69_ q71_ q72_ q73_ q74_ q75_ q76_ q77_ q78_ q79_ q80_ q81_ q82_ q83_ q84_ q85_ q86_ hf hd
    generalize ff 68 = v68_
    generalize ff 70 = v70_
    clear ff
    have b_ : Below _ _ wE := hJ
    clear hJ
    replace HB := Lib.hid (HB.out.trans (b_.mono (by omega)))
    go_wp2_with fail
    go_ret
    exact ⟨rfl, HB.out⟩
end Go.Proofs.Ytnkoijkelcjloaa.fnSongShift
