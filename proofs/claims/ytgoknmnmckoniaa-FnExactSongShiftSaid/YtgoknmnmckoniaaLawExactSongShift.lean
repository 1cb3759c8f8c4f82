/-
  FnExactSongShift returns true for every input and leaves its arguments as they were. No condition.
-/
import Derived.Test.YtgoknmnmckoniaaShfE
import Derived.Test.YtgoknmnmckoniaaMarkT
import Derived.Test.YtgoknmnmckoniaaOpenSong
import Derived.Test.YtgoknmnmckoniaaFrame
namespace Go.Proofs.Ytgoknmnmckoniaa.fnExactSongShift
open Go.ChangeShapes Go.WideShapes Go.ChangeAt Go.RowKit
open Go.ChangeMaps (open_string shut_string)
set_option linter.unusedVariables false

set_option maxRecDepth 100000
set_option maxHeartbeats 4000000 in
theorem core (f : Int) (m : Bool) (b u : Int) (C A : Option Addr) (d c : Nat) (ts : List (Int × Int)) (vs : List (List Nt)) (s h : Int) (w : World) (hT : RdTempo w w.heap.size C ts) (hV : RdVs w w.heap.size A vs) (h_2 : ts.length + vs.length + totV vs ≤ 1048576) :
    Calls Try.prog 3 #[.agg #[.int .i64 f, .bool m, .int .i64 b, .int .i64 u, .slice C ts.length d, .slice A vs.length c], .agg #[.int .i64 s, .int .i64 h]] w (RetB w true) := by
  have hlt : ts.length ≤ 1048576 := by omega
  have hlv : LenV vs := len_of_tot (n := 1048576) (by omega)
  have hd9 : decide ((1048576 : Int) - (ts.length : Int) - (vs.length : Int) - (totV vs : Int) < 0) = false := decide_eq_false (by omega)
  have hbd := ss_len f m b u ts vs s h
  have HX1 := fun (C A : Option Addr) (d c : Nat) (W : World) (h1 : RdTempo W W.heap.size C ts) (h2 : RdVs W W.heap.size A vs) => spec_SongShift f m b u C A d c ts vs s h W h1 h2 hlt hlv
  have HX2 := fun (C A : Option Addr) (d c : Nat) (W : World) (h1 : RdTempo W W.heap.size C ts) (h2 : RdVs W W.heap.size A vs) => impl_SongShift f m b u C A d c ts vs s h W h1 h2 hlt hlv
  generalize ssB f m b u ts vs s h = ok9 at *
  generalize ssL f m b u ts vs s h = q9 at *
  obtain ⟨f9, m9, b9, u9, ts9, vs9⟩ := q9
  dsimp only at hbd
  have HC1 := Lib.hid HX1; have HC2 := Lib.hid HX2; clear HX1 HX2
  have hlt9 : ts9.length ≤ 1048576 := by omega
  have hlv9 : LenV vs9 := len_of_tot (n := 1048576) (by omega)
  have hn9 : decide ((1 : Int) + 2 * (ts.length : Int) + 6 * (totV vs : Int) < 0) = false := decide_eq_false (by omega)
  have hm9 : decide ((1 : Int) + 2 * (ts9.length : Int) + 6 * (totV vs9 : Int) < 0) = false := decide_eq_false (by omega)
  have he9 : ((1 : Int) + 2 * (ts9.length : Int) + 6 * (totV vs9 : Int) != 1 + 2 * (ts9.length : Int) + 6 * (totV vs9 : Int)) = false := by simp
  have ho9 : (ok9 != ok9) = false := by simp
  have HK := Lib.hid ((Blk.new w 27 #[.int .i64 f, .bool m, .int .i64 b, .int .i64 u, .slice C ts.length d, .slice A vs.length c]).alloc (.cells #[.int .i64 s, .int .i64 h] 29))
  have HI : Hid (Blk ((w.alloc (.cells #[.int .i64 f, .bool m, .int .i64 b, .int .i64 u, .slice C ts.length d, .slice A vs.length c] 27)).alloc (.cells #[.int .i64 s, .int .i64 h] 29)) (w.heap.size + 1) 29 #[.int .i64 s, .int .i64 h]) := by
    have h9 := Blk.new (w.alloc (.cells #[.int .i64 f, .bool m, .int .i64 b, .int .i64 u, .slice C ts.length d, .slice A vs.length c] 27)) 29 #[.int .i64 s, .int .i64 h]
    rw [World.size_alloc] at h9
    exact Lib.hid h9
  have HB := Lib.hid (((Below.refl w.heap.size w).alloc (Nat.le_refl _) (.cells #[.int .i64 f, .bool m, .int .i64 b, .int .i64 u, .slice C ts.length d, .slice A vs.length c] 27)).alloc (by simp) (.cells #[.int .i64 s, .int .i64 h] 29))
  have HT0 := Lib.hid (RdTempo.below hT HB.out (Nat.le_refl _)); have HV0 := Lib.hid (RdVs.below hV HB.out (Nat.le_refl _))
  have z0 : w.heap.size + 2 ≤ ((w.alloc (.cells #[.int .i64 f, .bool m, .int .i64 b, .int .i64 u, .slice C ts.length d, .slice A vs.length c] 27)).alloc (.cells #[.int .i64 s, .int .i64 h] 29)).heap.size := by simp
  clear hT hV
  go_enter Try.func3, Try.ntmps3
  go_upto_region 1 with fail
  generalize ((w.alloc (.cells #[.int .i64 f, .bool m, .int .i64 b, .int .i64 u, .slice C ts.length d, .slice A vs.length c] 27)).alloc (.cells #[.int .i64 s, .int .i64 h] 29)) = w0 at *
  have c0 := HK.out.cell 0; have c1 := HK.out.cell 1; have c2 := HK.out.cell 2; have c3 := HK.out.cell 3; have c4 := HK.out.cell 4; have c5 := HK.out.cell 5
  go_wp2_with fail
  refine (laws_szSong f m b u C A d c ts vs _ (RdTempo.more HT0.out (by omega)) (RdVs.more HV0.out (by omega)) hlt hlv 1048576 (by omega) (by omega)).mono ?_
  rintro e w1 ⟨rfl, b1⟩
  have z1 := b1.size
  clear c0 c1 c2 c3 c4 c5
  replace HK := Lib.hid (HK.out.below b1 (by omega))
  replace HI := Lib.hid (HI.out.below b1 (by omega))
  replace HT0 := Lib.hid (RdTempo.below HT0.out b1 (by omega)); replace HV0 := Lib.hid (RdVs.below HV0.out b1 (by omega)); replace HB := Lib.hid (HB.out.trans (b1.mono (by omega)))
  clear b1
  go_upto_region 5 with fail
  have c0 := HK.out.cell 0; have c1 := HK.out.cell 1; have c2 := HK.out.cell 2; have c3 := HK.out.cell 3; have c4 := HK.out.cell 4; have c5 := HK.out.cell 5; have i0 := HI.out.cell 0; have i1 := HI.out.cell 1
  refine regionC_draws rfl 35 6 6 27 9 104 [some 22, some 23, some 24, some 25, some 26, some 21, some 27, some 28, some 6, none, some 7]
    [FEq (.agg #[.int .i64 f, .bool m, .int .i64 b, .int .i64 u, .slice C ts.length d, .slice A vs.length c]), FSg w1.heap.size (f, m, b, u, ts, vs), FEq (.agg #[.int .i64 s, .int .i64 h]), FEq (.agg #[.int .i64 s, .int .i64 h]), FTp w1.heap.size (f9, m9, b9, u9, ts9, vs9) ok9, FTp w1.heap.size (f9, m9, b9, u9, ts9, vs9) ok9, FSg w1.heap.size (f9, m9, b9, u9, ts9, vs9), FEq (.bool ok9), FBox w1.heap.size 35 6, FAny, FEq (.bool ok9)] (by kernel_rfl) (by kernel_rfl) (by decide) ?_ ?_ ?_
  · exact stayCs_cons stayC_eq (stayCs_cons (staySg _ _ _) (stayCs_cons stayC_eq (stayCs_cons stayC_eq (stayCs_cons (stayTp _ _ _ _) (stayCs_cons (stayTp _ _ _ _) (stayCs_cons (staySg _ _ _) (stayCs_cons stayC_eq (stayCs_cons stayC_box (stayCs_cons stayC_any (stayCs_cons stayC_eq stayCs_nil))))))))))
  · refine AllI.cons ?_ (AllI.cons ?_ (AllI.cons ?_ (AllI.cons ?_ (AllI.cons ?_ (AllI.cons ?_ (AllI.cons ?_ (AllI.cons ?_ (AllI.cons ?_ (AllI.cons ?_ (AllI.cons ?_ trivial))))))))))
    · intro kk bb ff ww hkk hf hd hp hq hJ0
      refine .inl ⟨wanted_none rfl, ?_⟩
      have hJ := hJ0.1
      have hb9 : bb = false := hp [] (by kernel_rfl)
      have q2 : FEq (.pointer (some ⟨w.heap.size, 0, none⟩)) (ff 2) ww := (hf 2 (by decide)).trans rfl
      unfold FEq at q2
      have c0 : ww.cell? ⟨w.heap.size, 0, none⟩ = some (.int .i64 f) := (hJ.cell (p := ⟨w.heap.size, 0, none⟩) (show w.heap.size < _ by omega)).trans c0
      have c1 : ww.cell? ⟨w.heap.size, 1, none⟩ = some (.bool m) := (hJ.cell (p := ⟨w.heap.size, 1, none⟩) (show w.heap.size < _ by omega)).trans c1
      have c2 : ww.cell? ⟨w.heap.size, 2, none⟩ = some (.int .i64 b) := (hJ.cell (p := ⟨w.heap.size, 2, none⟩) (show w.heap.size < _ by omega)).trans c2
      have c3 : ww.cell? ⟨w.heap.size, 3, none⟩ = some (.int .i64 u) := (hJ.cell (p := ⟨w.heap.size, 3, none⟩) (show w.heap.size < _ by omega)).trans c3
      have c4 : ww.cell? ⟨w.heap.size, 4, none⟩ = some (.slice C ts.length d) := (hJ.cell (p := ⟨w.heap.size, 4, none⟩) (show w.heap.size < _ by omega)).trans c4
      have c5 : ww.cell? ⟨w.heap.size, 5, none⟩ = some (.slice A vs.length c) := (hJ.cell (p := ⟨w.heap.size, 5, none⟩) (show w.heap.size < _ by omega)).trans c5
      refine sc_val (.agg #[.int .i64 f, .bool m, .int .i64 b, .int .i64 u, .slice C ts.length d, .slice A vs.length c]) hJ ?_ rfl
      simp only [execOp, ev_tmp _ _ (show 2 < 104 by decide), ev_const, q2]
      simp [go_sem, c0, c1, c2, c3, c4, c5]
    · intro kk bb ff ww hkk hf hd hp hq hJ0
      refine .inl ⟨wanted_none rfl, ?_⟩
      obtain ⟨p0, -⟩ := hd
      have hJ := hJ0.1
      have hb9 : bb = false := hp [] (by kernel_rfl)
      have q22 : FEq (.agg #[.int .i64 f, .bool m, .int .i64 b, .int .i64 u, .slice C ts.length d, .slice A vs.length c]) (ff 22) ww := p0 rfl
      unfold FEq at q22
      refine sc_enter 6 #[.agg #[.int .i64 f, .bool m, .int .i64 b, .int .i64 u, .slice C ts.length d, .slice A vs.length c]] hJ ?_ ?_
      · simp only [execOp, ev_tmp _ _ (show 22 < 104 by decide), ev_const, q22, ev_func, resolve, List.map_toArray, List.map_cons, List.map_nil]
        simp [go_sem]
      · skip
        exact retSg_fs (laws_toSong f m b u C A d c ts vs ww (RdTempo.more (RdTempo.below HT0.out hJ (by omega)) (Nat.le_trans (show w.heap.size ≤ w1.heap.size by omega) hJ.size)) (RdVs.more (RdVs.below HV0.out hJ (by omega)) (Nat.le_trans (show w.heap.size ≤ w1.heap.size by omega) hJ.size)) hlt hlv) hJ.size
    · intro kk bb ff ww hkk hf hd hp hq hJ0
      refine .inl ⟨wanted_none rfl, ?_⟩
      have hJ := hJ0.1
      have hb9 : bb = false := hp [] (by kernel_rfl)
      have q3 : FEq (.pointer (some ⟨w.heap.size + 1, 0, none⟩)) (ff 3) ww := (hf 3 (by decide)).trans rfl
      unfold FEq at q3
      have c0 : ww.cell? ⟨w.heap.size + 1, 0, none⟩ = some (.int .i64 s) := (hJ.cell (p := ⟨w.heap.size + 1, 0, none⟩) (show w.heap.size + 1 < _ by omega)).trans i0
      have c1 : ww.cell? ⟨w.heap.size + 1, 1, none⟩ = some (.int .i64 h) := (hJ.cell (p := ⟨w.heap.size + 1, 1, none⟩) (show w.heap.size + 1 < _ by omega)).trans i1
      refine sc_val (.agg #[.int .i64 s, .int .i64 h]) hJ ?_ rfl
      simp only [execOp, ev_tmp _ _ (show 3 < 104 by decide), ev_const, q3]
      simp [go_sem, c0, c1]
    · intro kk bb ff ww hkk hf hd hp hq hJ0
      refine .inl ⟨wanted_none rfl, ?_⟩
      obtain ⟨p0, p1, -⟩ := hd
      have hJ := hJ0.1
      have hb9 : bb = false := hp [] (by kernel_rfl)
      have q24 : FEq (.agg #[.int .i64 s, .int .i64 h]) (ff 24) ww := p0 rfl
      unfold FEq at q24
      refine sc_enter 7 #[.agg #[.int .i64 s, .int .i64 h]] hJ ?_ ?_
      · simp only [execOp, ev_tmp _ _ (show 24 < 104 by decide), ev_const, q24, ev_func, resolve, List.map_toArray, List.map_cons, List.map_nil]
        simp [go_sem]
      · skip
        exact (laws_toInterval s h ww).mono fun _ _ ⟨he, hb⟩ => ⟨_, he, rfl, hb⟩
    · intro kk bb ff ww hkk hf hd hp hq hJ0
      refine .inl ⟨wanted_none rfl, ?_⟩
      obtain ⟨p0, p1, p2, -⟩ := hd
      have hJ := hJ0.1
      have hb9 : bb = false := hp [] (by kernel_rfl)
      have q23 : FSg w1.heap.size (f, m, b, u, ts, vs) (ff 23) ww := p0 rfl
      obtain ⟨C23, A23, d23, c23, mid23, hi23, hs23, q23, o23⟩ := q23
      dsimp only [sgV] at q23
      have q25 : FEq (.agg #[.int .i64 s, .int .i64 h]) (ff 25) ww := p1 rfl
      unfold FEq at q25
      refine sc_enter 5 #[.agg #[.int .i64 f, .bool m, .int .i64 b, .int .i64 u, .slice C23 ts.length d23, .slice A23 vs.length c23], .agg #[.int .i64 s, .int .i64 h]] hJ ?_ ?_
      · simp only [execOp, ev_tmp _ _ (show 23 < 104 by decide), ev_tmp _ _ (show 25 < 104 by decide), ev_const, q23, q25, ev_func, resolve, List.map_toArray, List.map_cons, List.map_nil]
        simp [go_sem]
      · skip
        exact retSS_tp (HC1.out C23 A23 d23 c23 ww (o23.1.rdT o23.2) (o23.1.rdV o23.2)) hJ.size
    · intro kk bb ff ww hkk hf hd hp hq hJ0
      refine .inl ⟨wanted_none rfl, ?_⟩
      obtain ⟨p0, -⟩ := hd
      have hJ := hJ0.1
      have hb9 : bb = false := hp [] (by kernel_rfl)
      have q : FTp w1.heap.size (f9, m9, b9, u9, ts9, vs9) ok9 (ff 26) ww := p0 rfl
      exact sc_val (ff 26) hJ (by simp only [execOp, ev_tmp _ _ (show 26 < 104 by decide)]; rfl) q
    · intro kk bb ff ww hkk hf hd hp hq hJ0
      refine .inl ⟨wanted_none rfl, ?_⟩
      obtain ⟨p0, -⟩ := hd
      have hJ := hJ0.1
      have hb9 : bb = false := hp [] (by kernel_rfl)
      have q21 : FTp w1.heap.size (f9, m9, b9, u9, ts9, vs9) ok9 (ff 21) ww := p0 rfl
      obtain ⟨C21, A21, d21, c21, mid21, hi21, hs21, q21, o21⟩ := q21
      dsimp only [sgV] at q21
      refine sc_val (.agg #[.int .i64 f9, .bool m9, .int .i64 b9, .int .i64 u9, .slice C21 ts9.length d21, .slice A21 vs9.length c21]) hJ ?_ ⟨C21, A21, d21, c21, mid21, hi21, hs21, rfl, o21⟩
      simp only [execOp, ev_tmp _ _ (show 21 < 104 by decide), ev_const, q21]
      simp [go_sem]
    · intro kk bb ff ww hkk hf hd hp hq hJ0
      refine .inl ⟨wanted_none rfl, ?_⟩
      obtain ⟨p0, -, -⟩ := hd
      have hJ := hJ0
      have q21 : FTp w1.heap.size (f9, m9, b9, u9, ts9, vs9) ok9 (ff 21) ww := p0 rfl
      obtain ⟨C21, A21, d21, c21, mid21, hi21, hs21, q21, o21⟩ := q21
      dsimp only [sgV] at q21
      refine sc_val2 (.bool ok9) hJ ?_ rfl
      simp only [execOp, ev_tmp _ _ (show 21 < 104 by decide), ev_const, q21]
      simp [go_sem]
    · intro kk bb ff ww hkk hf hd hp hq hJ0
      refine .inl ⟨wanted_none rfl, ?_⟩
      have hJ := hJ0.1
      have hb9 : bb = false := hp [] (by kernel_rfl)
      refine sc_alloc (.pointer (some ⟨ww.heap.size, 0, none⟩)) (.cells #[.int .i64 0, .bool false, .int .i64 0, .int .i64 0, .slice none 0 0, .slice none 0 0] 35) hJ ?_ ⟨_, _, rfl, hJ.size, Blk.new _ _ _, rfl⟩
      simp only [execOp]
      simp [go_sem]
    · intro kk bb ff ww hkk hf hd hp hq hJ0
      refine .inl ⟨wanted_none rfl, ?_⟩
      obtain ⟨p0, p1, p2, p3, p4, p5, p6, p7, p8, p9, -, p11, -⟩ := hd
      have hJ := hJ0.1
      have q27 : FSg w1.heap.size (f9, m9, b9, u9, ts9, vs9) (ff 27) ww := p1 rfl
      obtain ⟨C27, A27, d27, c27, mid27, hi27, hs27, q27, o27⟩ := q27
      dsimp only [sgV] at q27
      have q6 : FBox w1.heap.size 35 6 (ff 6) ww := p0 rfl
      obtain ⟨g, cs, q6, hlo, hb, hsz⟩ := q6
      obtain ⟨d0, d1, d2, d3, d4, d5, rfl⟩ := arr6 hsz
      have c0 : ww.cell? ⟨g, 0, none⟩ = some d0 := hb.cell 0
      have f0 := hb.frozen 0
      have c1 : ww.cell? ⟨g, 1, none⟩ = some d1 := hb.cell 1
      have f1 := hb.frozen 1
      have c2 : ww.cell? ⟨g, 2, none⟩ = some d2 := hb.cell 2
      have f2 := hb.frozen 2
      have c3 : ww.cell? ⟨g, 3, none⟩ = some d3 := hb.cell 3
      have f3 := hb.frozen 3
      have c4 : ww.cell? ⟨g, 4, none⟩ = some d4 := hb.cell 4
      have f4 := hb.frozen 4
      have c5 : ww.cell? ⟨g, 5, none⟩ = some d5 := hb.cell 5
      have f5 := hb.frozen 5
      refine sc_store g ((((((ww.setCell ⟨g, 0, none⟩ (.int .i64 f9)).setCell ⟨g, 1, none⟩ (.bool m9)).setCell ⟨g, 2, none⟩ (.int .i64 b9)).setCell ⟨g, 3, none⟩ (.int .i64 u9)).setCell ⟨g, 4, none⟩ (.slice C27 ts9.length d27)).setCell ⟨g, 5, none⟩ (.slice A27 vs9.length c27)) #[.int .i64 f9, .bool m9, .int .i64 b9, .int .i64 u9, .slice C27 ts9.length d27, .slice A27 vs9.length c27] rfl rfl q6 q27 hlo rfl hJ ?_ ((((((hb.set_ 0 (.int .i64 f9)).set_ 1 (.bool m9)).set_ 2 (.int .i64 b9)).set_ 3 (.int .i64 u9)).set_ 4 (.slice C27 ts9.length d27)).set_ 5 (.slice A27 vs9.length c27)) ⟨_, hb⟩ (fun j hj => by simp [Below.heap_setCell, hj, Ne.symm hj]) (by simp only [set_os]) (by simp only [set_tape]) (by simp only [set_output]) (by simp only [set_hsz]) trivial
      simp only [execOp, ev_tmp _ _ (show 27 < 104 by decide), ev_tmp _ _ (show 6 < 104 by decide), ev_const, q27, q6]
      simp [go_sem, c0, f0, c1, f1, c2, f2, c3, f3, c4, f4, c5, f5]
    · intro kk bb ff ww hkk hf hd hp hq hJ0
      refine .inl ⟨wanted_none rfl, ?_⟩
      obtain ⟨p0, p1, p2, p3, p4, p5, p6, p7, p8, p9, p10, p11, -⟩ := hd
      have hJ := hJ0
      have q : FEq (.bool ok9) (ff 28) ww := p0 rfl
      exact sc_val2 (ff 28) hJ (by simp only [execOp, ev_tmp _ _ (show 28 < 104 by decide)]; rfl) q
  intro ff w2 hf hd hX hJ
  obtain ⟨gW, cs_, qx_, qv_, lW, kW⟩ := hX
  have hfr : fr 104 ff = #[ff 0, ff 1, ff 2, ff 3, ff 4, ff 5, ff 6, ff 7, ff 8, ff 9, ff 10, ff 11, ff 12, ff 13, ff 14, ff 15, ff 16, ff 17, ff 18, ff 19, ff 20, ff 21, ff 22, ff 23, ff 24, ff 25, ff 26, ff 27, ff 28, ff 29, ff 30, ff 31, ff 32, ff 33, ff 34, ff 35, ff 36, ff 37, ff 38, ff 39, ff 40, ff 41, ff 42, ff 43, ff 44, ff 45, ff 46, ff 47, ff 48, ff 49, ff 50, ff 51, ff 52, ff 53, ff 54, ff 55, ff 56, ff 57, ff 58, ff 59, ff 60, ff 61, ff 62, ff 63, ff 64, ff 65, ff 66, ff 67, ff 68, ff 69, ff 70, ff 71, ff 72, ff 73, ff 74, ff 75, ff 76, ff 77, ff 78, ff 79, ff 80, ff 81, ff 82, ff 83, ff 84, ff 85, ff 86, ff 87, ff 88, ff 89, ff 90, ff 91, ff 92, ff 93, ff 94, ff 95, ff 96, ff 97, ff 98, ff 99, ff 100, ff 101, ff 102, ff 103] := rfl
  rw [hfr]; clear hfr
  dsimp only
  have q0_ := hf 0 (by decide)
  have q1_ := hf 1 (by decide)
  have q2_ := hf 2 (by decide)
  have q3_ := hf 3 (by decide)
  have q4_ := hf 4 (by decide)
  have q5_ := hf 5 (by decide)
  have q7_ : FEq (.bool ok9) (ff 7) w2 := hd 10 (by decide)
  unfold FEq at q7_
  have q8_ := hf 8 (by decide)
  have q9_ := hf 9 (by decide)
  have q10_ := hf 10 (by decide)
  have q11_ := hf 11 (by decide)
  have q12_ := hf 12 (by decide)
  have q13_ := hf 13 (by decide)
  have q14_ := hf 14 (by decide)
  have q15_ := hf 15 (by decide)
  have q16_ := hf 16 (by decide)
  have q17_ := hf 17 (by decide)
  have q18_ := hf 18 (by decide)
  have q19_ := hf 19 (by decide)
  have q20_ := hf 20 (by decide)
  have q22_ : FEq (.agg #[.int .i64 f, .bool m, .int .i64 b, .int .i64 u, .slice C ts.length d, .slice A vs.length c]) (ff 22) w2 := hd 0 (by decide)
  unfold FEq at q22_
  have q24_ : FEq (.agg #[.int .i64 s, .int .i64 h]) (ff 24) w2 := hd 2 (by decide)
  unfold FEq at q24_
  have q25_ : FEq (.agg #[.int .i64 s, .int .i64 h]) (ff 25) w2 := hd 3 (by decide)
  unfold FEq at q25_
  have q27_ : FSg w1.heap.size (f9, m9, b9, u9, ts9, vs9) (ff 27) w2 := hd 6 (by decide)
  obtain ⟨CW, AW, dW, cW, midW, hiW, hsW, q27_, oW⟩ := q27_
  rw [q27_] at qv_; injection qv_ with qv_; subst qv_
  have q28_ : FEq (.bool ok9) (ff 28) w2 := hd 7 (by decide)
  unfold FEq at q28_
  have q29_ := hf 29 (by decide)
  have q30_ := hf 30 (by decide)
  have q31_ := hf 31 (by decide)
  have q32_ := hf 32 (by decide)
  have q33_ := hf 33 (by decide)
  have q34_ := hf 34 (by decide)
  have q35_ := hf 35 (by decide)
  have q36_ := hf 36 (by decide)
  have q37_ := hf 37 (by decide)
  have q38_ := hf 38 (by decide)
  have q39_ := hf 39 (by decide)
  have q40_ := hf 40 (by decide)
  have q41_ := hf 41 (by decide)
  have q42_ := hf 42 (by decide)
  have q43_ := hf 43 (by decide)
  have q44_ := hf 44 (by decide)
  have q45_ := hf 45 (by decide)
  have q46_ := hf 46 (by decide)
  have q47_ := hf 47 (by decide)
  have q48_ := hf 48 (by decide)
  have q49_ := hf 49 (by decide)
  have q50_ := hf 50 (by decide)
  have q51_ := hf 51 (by decide)
  have q52_ := hf 52 (by decide)
  have q53_ := hf 53 (by decide)
  have q54_ := hf 54 (by decide)
  have q55_ := hf 55 (by decide)
  have q56_ := hf 56 (by decide)
  have q57_ := hf 57 (by decide)
  have q58_ := hf 58 (by decide)
  have q59_ := hf 59 (by decide)
  have q60_ := hf 60 (by decide)
  have q61_ := hf 61 (by decide)
  have q62_ := hf 62 (by decide)
  have q63_ := hf 63 (by decide)
  have q64_ := hf 64 (by decide)
  have q65_ := hf 65 (by decide)
  have q66_ := hf 66 (by decide)
  have q67_ := hf 67 (by decide)
  have q68_ := hf 68 (by decide)
  have q69_ := hf 69 (by decide)
  have q70_ := hf 70 (by decide)
  have q71_ := hf 71 (by decide)
  have q72_ := hf 72 (by decide)
  have q73_ := hf 73 (by decide)
  have q74_ := hf 74 (by decide)
  have q75_ := hf 75 (by decide)
  have q76_ := hf 76 (by decide)
  have q77_ := hf 77 (by decide)
  have q78_ := hf 78 (by decide)
  have q79_ := hf 79 (by decide)
  have q80_ := hf 80 (by decide)
  have q81_ := hf 81 (by decide)
  have q82_ := hf 82 (by decide)
  have q83_ := hf 83 (by decide)
  have q84_ := hf 84 (by decide)
  have q85_ := hf 85 (by decide)
  have q86_ := hf 86 (by decide)
  have q87_ := hf 87 (by decide)
  have q88_ := hf 88 (by decide)
  have q89_ := hf 89 (by decide)
  have q90_ := hf 90 (by decide)
  have q91_ := hf 91 (by decide)
  have q92_ := hf 92 (by decide)
  have q93_ := hf 93 (by decide)
  have q94_ := hf 94 (by decide)
  have q95_ := hf 95 (by decide)
  have q96_ := hf 96 (by decide)
  have q97_ := hf 97 (by decide)
  have q98_ := hf 98 (by decide)
  have q99_ := hf 99 (by decide)
  have q100_ := hf 100 (by decide)
  have q101_ := hf 101 (by decide)
  have q102_ := hf 102 (by decide)
  have q103_ := hf 103 (by decide)
  simp only [Array.getD_eq_getD_getElem?, List.getElem?_toArray, List.getElem?_cons_zero, List.getElem?_cons_succ, Option.getD_some] at q0_ q1_ q2_ q3_ q4_ q5_ q8_ q9_ q10_ q11_ q12_ q13_ q14_ q15_ q16_ q17_ q18_ q19_ q20_ q29_ q30_ q31_ q32_ q33_ q34_ q35_ q36_ q37_ q38_ q39_ q40_ q41_ q42_ q43_ q44_ q45_ q46_ q47_ q48_ q49_ q50_ q51_ q52_ q53_ q54_ q55_ q56_ q57_ q58_ q59_ q60_ q61_ q62_ q63_ q64_ q65_ q66_ q67_ q68_ q69_ q70_ q71_ q72_ q73_ q74_ q75_ q76_ q77_ q78_ q79_ q80_ q81_ q82_ q83_ q84_ q85_ q86_ q87_ q88_ q89_ q90_ q91_ q92_ q93_ q94_ q95_ q96_ q97_ q98_ q99_ q100_ q101_ q102_ q103_
  rw [q0_, q1_, q2_, q3_, q4_, q5_, qx_, q7_, q8_, q9_, q10_, q11_, q12_, q13_, q14_, q15_, q16_, q17_, q18_, q19_, q20_, q22_, q24_, q25_, q27_, q28_, q29_, q30_, q31_, q32_, q33_, q34_, q35_, q36_, q37_, q38_, q39_, q40_, q41_, q42_, q43_, q44_, q45_, q46_, q47_, q48_, q49_, q50_, q51_, q52_, q53_, q54_, q55_, q56_, q57_, q58_, q59_, q60_, q61_, q62_, q63_, q64_, q65_, q66_, q67_, q68_, q69_, q70_, q71_, q72_, q73_, q74_, q75_, q76_, q77_, q78_, q79_, q80_, q81_, q82_, q83_, q84_, q85_, q86_, q87_, q88_, q89_, q90_, q91_, q92_, q93_, q94_, q95_, q96_, q97_, q98_, q99_, q100_, q101_, q102_, q103_]
  clear q0_ q1_ q2_ q3_ q4_ q5_ qx_ q7_ q8_ q9_ q10_ q11_ q12_ q13_ q14_ q15_ q16_ q17_ q18_ q19_ q20_ q22_ q24_ q25_ q27_ q28_ q29_ q30_ q31_ q32_ q33_ q34_ q35_ q36_ q37_ q38_ q39_ q40_ q41_ q42_ q43_ q44_ q45_ q46_ q47_ q48_ q49_ q50_ q51_ q52_ q53_ q54_ q55_ q56_ q57_ q58_ q59_ q60_ q61_ q62_ q63_ q64_ q65_ q66_ q67_ q68_ q69_ q70_ q71_ q72_ q73_ q74_ q75_ q76_ q77_ q78_ q79_ q80_ q81_ q82_ q83_ q84_ q85_ q86_ q87_ q88_ q89_ q90_ q91_ q92_ q93_ q94_ q95_ q96_ q97_ q98_ q99_ q100_ q101_ q102_ q103_ hf hd
  generalize ff 21 = v21_
  generalize ff 23 = v23_
  generalize ff 26 = v26_
  clear ff
  have b_ : Below _ _ w2 := hJ
  clear hJ
  have z2 := b_.size
  clear c0 c1 c2 c3 c4 c5 i0 i1
  have lgW := kW.lt
  obtain ⟨oS9, hhW⟩ := oW
  dsimp only at oS9 hhW
  have le1W := oS9.le1; have le2W := oS9.le2
  have HW := Lib.hid oS9; clear oS9
  have HBW := Lib.hid kW; clear kW
  replace HK := Lib.hid (HK.out.below b_ (by omega))
  replace HI := Lib.hid (HI.out.below b_ (by omega))
  replace HT0 := Lib.hid (RdTempo.below HT0.out b_ (by omega)); replace HV0 := Lib.hid (RdVs.below HV0.out b_ (by omega)); replace HB := Lib.hid (HB.out.trans (b_.mono (by omega)))
  clear b_
  have c0 := HK.out.cell 0; have c1 := HK.out.cell 1; have c2 := HK.out.cell 2; have c3 := HK.out.cell 3; have c4 := HK.out.cell 4; have c5 := HK.out.cell 5
  go_wp2_with fail
  refine (laws_toSong f m b u C A d c ts vs _ (RdTempo.more HT0.out (by omega)) (RdVs.more HV0.out (by omega)) hlt hlv).mono ?_
  rintro e w3 ⟨CX, AX, dX, cX, midX, hsX, rfl, oX, b3⟩
  have z3 := b3.size
  clear c0 c1 c2 c3 c4 c5
  have HX := Lib.hid oX; clear oX
  have hx1 := HX.out.le1; have hx2 := HX.out.le2
  replace HK := Lib.hid (HK.out.below b3 (by omega))
  replace HI := Lib.hid (HI.out.below b3 (by omega))
  replace HBW := Lib.hid (HBW.out.below b3 (by omega))
  replace HW := Lib.hid (HW.out.below b3 (by omega))
  replace HT0 := Lib.hid (RdTempo.below HT0.out b3 (by omega)); replace HV0 := Lib.hid (RdVs.below HV0.out b3 (by omega)); replace HB := Lib.hid (HB.out.trans (b3.mono (by omega)))
  clear b3
  have b4 : Below w3.heap.size w3 (w3.alloc (.cells #[.int .i64 f, .bool m, .int .i64 b, .int .i64 u, .slice CX ts.length dX, .slice AX vs.length cX] 35)) := (Below.refl _ _).alloc (Nat.le_refl _) _
  have z4 : w3.heap.size + 1 ≤ (w3.alloc (.cells #[.int .i64 f, .bool m, .int .i64 b, .int .i64 u, .slice CX ts.length dX, .slice AX vs.length cX] 35)).heap.size := by simp
  have HBX := Lib.hid (Blk.new w3 35 #[.int .i64 f, .bool m, .int .i64 b, .int .i64 u, .slice CX ts.length dX, .slice AX vs.length cX])
  replace HK := Lib.hid (HK.out.below b4 (by omega))
  replace HI := Lib.hid (HI.out.below b4 (by omega))
  replace HBW := Lib.hid (HBW.out.below b4 (by omega))
  replace HW := Lib.hid (HW.out.below b4 (by omega))
  replace HX := Lib.hid (HX.out.below b4 (by omega))
  replace HT0 := Lib.hid (RdTempo.below HT0.out b4 (by omega)); replace HV0 := Lib.hid (RdVs.below HV0.out b4 (by omega)); replace HB := Lib.hid (HB.out.trans (b4.mono (by omega)))
  clear b4
  go_upto_region 7 with fail
  generalize w3.alloc (.cells #[.int .i64 f, .bool m, .int .i64 b, .int .i64 u, .slice CX ts.length dX, .slice AX vs.length cX] 35) = w4 at *
  generalize w3.heap.size = bX at *
  have c0 := HK.out.cell 0; have c1 := HK.out.cell 1; have c2 := HK.out.cell 2; have c3 := HK.out.cell 3; have c4 := HK.out.cell 4; have c5 := HK.out.cell 5; have i0 := HI.out.cell 0; have i1 := HI.out.cell 1; have x0 := HBX.out.cell 0; have x1 := HBX.out.cell 1; have x2 := HBX.out.cell 2; have x3 := HBX.out.cell 3; have x4 := HBX.out.cell 4; have x5 := HBX.out.cell 5
  refine regionC_draws rfl 35 6 9 36 8 104 [some 32, some 33, some 34, some 35, some 31, some 36, some 37, some 9, none, some 10]
    [FEq (.agg #[.int .i64 f, .bool m, .int .i64 b, .int .i64 u, .slice CX ts.length dX, .slice AX vs.length cX]), FEq (.agg #[.int .i64 s, .int .i64 h]), FEq (.agg #[.int .i64 s, .int .i64 h]), FTp w4.heap.size (f9, m9, b9, u9, ts9, vs9) ok9, FTp w4.heap.size (f9, m9, b9, u9, ts9, vs9) ok9, FSg w4.heap.size (f9, m9, b9, u9, ts9, vs9), FEq (.bool ok9), FBox w4.heap.size 35 6, FAny, FEq (.bool ok9)] (by kernel_rfl) (by kernel_rfl) (by decide) ?_ ?_ ?_
  · exact stayCs_cons stayC_eq (stayCs_cons stayC_eq (stayCs_cons stayC_eq (stayCs_cons (stayTp _ _ _ _) (stayCs_cons (stayTp _ _ _ _) (stayCs_cons (staySg _ _ _) (stayCs_cons stayC_eq (stayCs_cons stayC_box (stayCs_cons stayC_any (stayCs_cons stayC_eq stayCs_nil)))))))))
  · refine AllI.cons ?_ (AllI.cons ?_ (AllI.cons ?_ (AllI.cons ?_ (AllI.cons ?_ (AllI.cons ?_ (AllI.cons ?_ (AllI.cons ?_ (AllI.cons ?_ (AllI.cons ?_ trivial)))))))))
    · intro kk bb ff ww hkk hf hd hp hq hJ0
      refine .inl ⟨wanted_none rfl, ?_⟩
      have hJ := hJ0.1
      have hb9 : bb = false := hp [] (by kernel_rfl)
      have q8 : FEq (.pointer (some ⟨bX, 0, none⟩)) (ff 8) ww := (hf 8 (by decide)).trans rfl
      unfold FEq at q8
      have c0 : ww.cell? ⟨bX, 0, none⟩ = some (.int .i64 f) := (hJ.cell (p := ⟨bX, 0, none⟩) (show bX < _ by omega)).trans x0
      have c1 : ww.cell? ⟨bX, 1, none⟩ = some (.bool m) := (hJ.cell (p := ⟨bX, 1, none⟩) (show bX < _ by omega)).trans x1
      have c2 : ww.cell? ⟨bX, 2, none⟩ = some (.int .i64 b) := (hJ.cell (p := ⟨bX, 2, none⟩) (show bX < _ by omega)).trans x2
      have c3 : ww.cell? ⟨bX, 3, none⟩ = some (.int .i64 u) := (hJ.cell (p := ⟨bX, 3, none⟩) (show bX < _ by omega)).trans x3
      have c4 : ww.cell? ⟨bX, 4, none⟩ = some (.slice CX ts.length dX) := (hJ.cell (p := ⟨bX, 4, none⟩) (show bX < _ by omega)).trans x4
      have c5 : ww.cell? ⟨bX, 5, none⟩ = some (.slice AX vs.length cX) := (hJ.cell (p := ⟨bX, 5, none⟩) (show bX < _ by omega)).trans x5
      refine sc_val (.agg #[.int .i64 f, .bool m, .int .i64 b, .int .i64 u, .slice CX ts.length dX, .slice AX vs.length cX]) hJ ?_ rfl
      simp only [execOp, ev_tmp _ _ (show 8 < 104 by decide), ev_const, q8]
      simp [go_sem, c0, c1, c2, c3, c4, c5]
    · intro kk bb ff ww hkk hf hd hp hq hJ0
      refine .inl ⟨wanted_none rfl, ?_⟩
      have hJ := hJ0.1
      have hb9 : bb = false := hp [] (by kernel_rfl)
      have q3 : FEq (.pointer (some ⟨w.heap.size + 1, 0, none⟩)) (ff 3) ww := (hf 3 (by decide)).trans rfl
      unfold FEq at q3
      have c0 : ww.cell? ⟨w.heap.size + 1, 0, none⟩ = some (.int .i64 s) := (hJ.cell (p := ⟨w.heap.size + 1, 0, none⟩) (show w.heap.size + 1 < _ by omega)).trans i0
      have c1 : ww.cell? ⟨w.heap.size + 1, 1, none⟩ = some (.int .i64 h) := (hJ.cell (p := ⟨w.heap.size + 1, 1, none⟩) (show w.heap.size + 1 < _ by omega)).trans i1
      refine sc_val (.agg #[.int .i64 s, .int .i64 h]) hJ ?_ rfl
      simp only [execOp, ev_tmp _ _ (show 3 < 104 by decide), ev_const, q3]
      simp [go_sem, c0, c1]
    · intro kk bb ff ww hkk hf hd hp hq hJ0
      refine .inl ⟨wanted_none rfl, ?_⟩
      obtain ⟨p0, -⟩ := hd
      have hJ := hJ0.1
      have hb9 : bb = false := hp [] (by kernel_rfl)
      have q33 : FEq (.agg #[.int .i64 s, .int .i64 h]) (ff 33) ww := p0 rfl
      unfold FEq at q33
      refine sc_enter 7 #[.agg #[.int .i64 s, .int .i64 h]] hJ ?_ ?_
      · simp only [execOp, ev_tmp _ _ (show 33 < 104 by decide), ev_const, q33, ev_func, resolve, List.map_toArray, List.map_cons, List.map_nil]
        simp [go_sem]
      · skip
        exact (laws_toInterval s h ww).mono fun _ _ ⟨he, hb⟩ => ⟨_, he, rfl, hb⟩
    · intro kk bb ff ww hkk hf hd hp hq hJ0
      refine .inl ⟨wanted_none rfl, ?_⟩
      obtain ⟨p0, p1, p2, -⟩ := hd
      have hJ := hJ0.1
      have hb9 : bb = false := hp [] (by kernel_rfl)
      have q32 : FEq (.agg #[.int .i64 f, .bool m, .int .i64 b, .int .i64 u, .slice CX ts.length dX, .slice AX vs.length cX]) (ff 32) ww := p0 rfl
      unfold FEq at q32
      have q34 : FEq (.agg #[.int .i64 s, .int .i64 h]) (ff 34) ww := p1 rfl
      unfold FEq at q34
      refine sc_enter 8 #[.agg #[.int .i64 f, .bool m, .int .i64 b, .int .i64 u, .slice CX ts.length dX, .slice AX vs.length cX], .agg #[.int .i64 s, .int .i64 h]] hJ ?_ ?_
      · simp only [execOp, ev_tmp _ _ (show 32 < 104 by decide), ev_tmp _ _ (show 34 < 104 by decide), ev_const, q32, q34, ev_func, resolve, List.map_toArray, List.map_cons, List.map_nil]
        simp [go_sem]
      · skip
        have h1 := HX.out.below hJ (show bX ≤ w4.heap.size by omega)
        exact retSS_tp (HC2.out CX AX dX cX ww (h1.rdT (Nat.le_trans (show bX ≤ w4.heap.size by omega) hJ.size)) (h1.rdV (Nat.le_trans (show bX ≤ w4.heap.size by omega) hJ.size))) hJ.size
    · intro kk bb ff ww hkk hf hd hp hq hJ0
      refine .inl ⟨wanted_none rfl, ?_⟩
      obtain ⟨p0, -⟩ := hd
      have hJ := hJ0.1
      have hb9 : bb = false := hp [] (by kernel_rfl)
      have q : FTp w4.heap.size (f9, m9, b9, u9, ts9, vs9) ok9 (ff 35) ww := p0 rfl
      exact sc_val (ff 35) hJ (by simp only [execOp, ev_tmp _ _ (show 35 < 104 by decide)]; rfl) q
    · intro kk bb ff ww hkk hf hd hp hq hJ0
      refine .inl ⟨wanted_none rfl, ?_⟩
      obtain ⟨p0, -⟩ := hd
      have hJ := hJ0.1
      have hb9 : bb = false := hp [] (by kernel_rfl)
      have q31 : FTp w4.heap.size (f9, m9, b9, u9, ts9, vs9) ok9 (ff 31) ww := p0 rfl
      obtain ⟨C31, A31, d31, c31, mid31, hi31, hs31, q31, o31⟩ := q31
      dsimp only [sgV] at q31
      refine sc_val (.agg #[.int .i64 f9, .bool m9, .int .i64 b9, .int .i64 u9, .slice C31 ts9.length d31, .slice A31 vs9.length c31]) hJ ?_ ⟨C31, A31, d31, c31, mid31, hi31, hs31, rfl, o31⟩
      simp only [execOp, ev_tmp _ _ (show 31 < 104 by decide), ev_const, q31]
      simp [go_sem]
    · intro kk bb ff ww hkk hf hd hp hq hJ0
      refine .inl ⟨wanted_none rfl, ?_⟩
      obtain ⟨p0, -, -⟩ := hd
      have hJ := hJ0
      have q31 : FTp w4.heap.size (f9, m9, b9, u9, ts9, vs9) ok9 (ff 31) ww := p0 rfl
      obtain ⟨C31, A31, d31, c31, mid31, hi31, hs31, q31, o31⟩ := q31
      dsimp only [sgV] at q31
      refine sc_val2 (.bool ok9) hJ ?_ rfl
      simp only [execOp, ev_tmp _ _ (show 31 < 104 by decide), ev_const, q31]
      simp [go_sem]
    · intro kk bb ff ww hkk hf hd hp hq hJ0
      refine .inl ⟨wanted_none rfl, ?_⟩
      have hJ := hJ0.1
      have hb9 : bb = false := hp [] (by kernel_rfl)
      refine sc_alloc (.pointer (some ⟨ww.heap.size, 0, none⟩)) (.cells #[.int .i64 0, .bool false, .int .i64 0, .int .i64 0, .slice none 0 0, .slice none 0 0] 35) hJ ?_ ⟨_, _, rfl, hJ.size, Blk.new _ _ _, rfl⟩
      simp only [execOp]
      simp [go_sem]
    · intro kk bb ff ww hkk hf hd hp hq hJ0
      refine .inl ⟨wanted_none rfl, ?_⟩
      obtain ⟨p0, p1, p2, p3, p4, p5, p6, p7, p8, -, p10, -⟩ := hd
      have hJ := hJ0.1
      have q36 : FSg w4.heap.size (f9, m9, b9, u9, ts9, vs9) (ff 36) ww := p1 rfl
      obtain ⟨C36, A36, d36, c36, mid36, hi36, hs36, q36, o36⟩ := q36
      dsimp only [sgV] at q36
      have q9 : FBox w4.heap.size 35 6 (ff 9) ww := p0 rfl
      obtain ⟨g, cs, q9, hlo, hb, hsz⟩ := q9
      obtain ⟨d0, d1, d2, d3, d4, d5, rfl⟩ := arr6 hsz
      have c0 : ww.cell? ⟨g, 0, none⟩ = some d0 := hb.cell 0
      have f0 := hb.frozen 0
      have c1 : ww.cell? ⟨g, 1, none⟩ = some d1 := hb.cell 1
      have f1 := hb.frozen 1
      have c2 : ww.cell? ⟨g, 2, none⟩ = some d2 := hb.cell 2
      have f2 := hb.frozen 2
      have c3 : ww.cell? ⟨g, 3, none⟩ = some d3 := hb.cell 3
      have f3 := hb.frozen 3
      have c4 : ww.cell? ⟨g, 4, none⟩ = some d4 := hb.cell 4
      have f4 := hb.frozen 4
      have c5 : ww.cell? ⟨g, 5, none⟩ = some d5 := hb.cell 5
      have f5 := hb.frozen 5
      refine sc_store g ((((((ww.setCell ⟨g, 0, none⟩ (.int .i64 f9)).setCell ⟨g, 1, none⟩ (.bool m9)).setCell ⟨g, 2, none⟩ (.int .i64 b9)).setCell ⟨g, 3, none⟩ (.int .i64 u9)).setCell ⟨g, 4, none⟩ (.slice C36 ts9.length d36)).setCell ⟨g, 5, none⟩ (.slice A36 vs9.length c36)) #[.int .i64 f9, .bool m9, .int .i64 b9, .int .i64 u9, .slice C36 ts9.length d36, .slice A36 vs9.length c36] rfl rfl q9 q36 hlo rfl hJ ?_ ((((((hb.set_ 0 (.int .i64 f9)).set_ 1 (.bool m9)).set_ 2 (.int .i64 b9)).set_ 3 (.int .i64 u9)).set_ 4 (.slice C36 ts9.length d36)).set_ 5 (.slice A36 vs9.length c36)) ⟨_, hb⟩ (fun j hj => by simp [Below.heap_setCell, hj, Ne.symm hj]) (by simp only [set_os]) (by simp only [set_tape]) (by simp only [set_output]) (by simp only [set_hsz]) trivial
      simp only [execOp, ev_tmp _ _ (show 36 < 104 by decide), ev_tmp _ _ (show 9 < 104 by decide), ev_const, q36, q9]
      simp [go_sem, c0, f0, c1, f1, c2, f2, c3, f3, c4, f4, c5, f5]
    · intro kk bb ff ww hkk hf hd hp hq hJ0
      refine .inl ⟨wanted_none rfl, ?_⟩
      obtain ⟨p0, p1, p2, p3, p4, p5, p6, p7, p8, p9, p10, -⟩ := hd
      have hJ := hJ0
      have q : FEq (.bool ok9) (ff 37) ww := p0 rfl
      exact sc_val2 (ff 37) hJ (by simp only [execOp, ev_tmp _ _ (show 37 < 104 by decide)]; rfl) q
  intro ff w5 hf hd hX hJ
  obtain ⟨gG, cs_, qx_, qv_, lG, kG⟩ := hX
  have hfr : fr 104 ff = #[ff 0, ff 1, ff 2, ff 3, ff 4, ff 5, ff 6, ff 7, ff 8, ff 9, ff 10, ff 11, ff 12, ff 13, ff 14, ff 15, ff 16, ff 17, ff 18, ff 19, ff 20, ff 21, ff 22, ff 23, ff 24, ff 25, ff 26, ff 27, ff 28, ff 29, ff 30, ff 31, ff 32, ff 33, ff 34, ff 35, ff 36, ff 37, ff 38, ff 39, ff 40, ff 41, ff 42, ff 43, ff 44, ff 45, ff 46, ff 47, ff 48, ff 49, ff 50, ff 51, ff 52, ff 53, ff 54, ff 55, ff 56, ff 57, ff 58, ff 59, ff 60, ff 61, ff 62, ff 63, ff 64, ff 65, ff 66, ff 67, ff 68, ff 69, ff 70, ff 71, ff 72, ff 73, ff 74, ff 75, ff 76, ff 77, ff 78, ff 79, ff 80, ff 81, ff 82, ff 83, ff 84, ff 85, ff 86, ff 87, ff 88, ff 89, ff 90, ff 91, ff 92, ff 93, ff 94, ff 95, ff 96, ff 97, ff 98, ff 99, ff 100, ff 101, ff 102, ff 103] := rfl
  rw [hfr]; clear hfr
  dsimp only
  have q0_ := hf 0 (by decide)
  have q1_ := hf 1 (by decide)
  have q2_ := hf 2 (by decide)
  have q3_ := hf 3 (by decide)
  have q4_ := hf 4 (by decide)
  have q5_ := hf 5 (by decide)
  have q6_ := hf 6 (by decide)
  have q7_ := hf 7 (by decide)
  have q8_ := hf 8 (by decide)
  have q10_ : FEq (.bool ok9) (ff 10) w5 := hd 9 (by decide)
  unfold FEq at q10_
  have q11_ := hf 11 (by decide)
  have q12_ := hf 12 (by decide)
  have q13_ := hf 13 (by decide)
  have q14_ := hf 14 (by decide)
  have q15_ := hf 15 (by decide)
  have q16_ := hf 16 (by decide)
  have q17_ := hf 17 (by decide)
  have q18_ := hf 18 (by decide)
  have q19_ := hf 19 (by decide)
  have q20_ := hf 20 (by decide)
  have q21_ := hf 21 (by decide)
  have q22_ := hf 22 (by decide)
  have q23_ := hf 23 (by decide)
  have q24_ := hf 24 (by decide)
  have q25_ := hf 25 (by decide)
  have q26_ := hf 26 (by decide)
  have q27_ := hf 27 (by decide)
  have q28_ := hf 28 (by decide)
  have q29_ := hf 29 (by decide)
  have q30_ := hf 30 (by decide)
  have q32_ : FEq (.agg #[.int .i64 f, .bool m, .int .i64 b, .int .i64 u, .slice CX ts.length dX, .slice AX vs.length cX]) (ff 32) w5 := hd 0 (by decide)
  unfold FEq at q32_
  have q33_ : FEq (.agg #[.int .i64 s, .int .i64 h]) (ff 33) w5 := hd 1 (by decide)
  unfold FEq at q33_
  have q34_ : FEq (.agg #[.int .i64 s, .int .i64 h]) (ff 34) w5 := hd 2 (by decide)
  unfold FEq at q34_
  have q36_ : FSg w4.heap.size (f9, m9, b9, u9, ts9, vs9) (ff 36) w5 := hd 5 (by decide)
  obtain ⟨CG, AG, dG, cG, midG, hiG, hsG, q36_, oG⟩ := q36_
  rw [q36_] at qv_; injection qv_ with qv_; subst qv_
  have q37_ : FEq (.bool ok9) (ff 37) w5 := hd 6 (by decide)
  unfold FEq at q37_
  have q38_ := hf 38 (by decide)
  have q39_ := hf 39 (by decide)
  have q40_ := hf 40 (by decide)
  have q41_ := hf 41 (by decide)
  have q42_ := hf 42 (by decide)
  have q43_ := hf 43 (by decide)
  have q44_ := hf 44 (by decide)
  have q45_ := hf 45 (by decide)
  have q46_ := hf 46 (by decide)
  have q47_ := hf 47 (by decide)
  have q48_ := hf 48 (by decide)
  have q49_ := hf 49 (by decide)
  have q50_ := hf 50 (by decide)
  have q51_ := hf 51 (by decide)
  have q52_ := hf 52 (by decide)
  have q53_ := hf 53 (by decide)
  have q54_ := hf 54 (by decide)
  have q55_ := hf 55 (by decide)
  have q56_ := hf 56 (by decide)
  have q57_ := hf 57 (by decide)
  have q58_ := hf 58 (by decide)
  have q59_ := hf 59 (by decide)
  have q60_ := hf 60 (by decide)
  have q61_ := hf 61 (by decide)
  have q62_ := hf 62 (by decide)
  have q63_ := hf 63 (by decide)
  have q64_ := hf 64 (by decide)
  have q65_ := hf 65 (by decide)
  have q66_ := hf 66 (by decide)
  have q67_ := hf 67 (by decide)
  have q68_ := hf 68 (by decide)
  have q69_ := hf 69 (by decide)
  have q70_ := hf 70 (by decide)
  have q71_ := hf 71 (by decide)
  have q72_ := hf 72 (by decide)
  have q73_ := hf 73 (by decide)
  have q74_ := hf 74 (by decide)
  have q75_ := hf 75 (by decide)
  have q76_ := hf 76 (by decide)
  have q77_ := hf 77 (by decide)
  have q78_ := hf 78 (by decide)
  have q79_ := hf 79 (by decide)
  have q80_ := hf 80 (by decide)
  have q81_ := hf 81 (by decide)
  have q82_ := hf 82 (by decide)
  have q83_ := hf 83 (by decide)
  have q84_ := hf 84 (by decide)
  have q85_ := hf 85 (by decide)
  have q86_ := hf 86 (by decide)
  have q87_ := hf 87 (by decide)
  have q88_ := hf 88 (by decide)
  have q89_ := hf 89 (by decide)
  have q90_ := hf 90 (by decide)
  have q91_ := hf 91 (by decide)
  have q92_ := hf 92 (by decide)
  have q93_ := hf 93 (by decide)
  have q94_ := hf 94 (by decide)
  have q95_ := hf 95 (by decide)
  have q96_ := hf 96 (by decide)
  have q97_ := hf 97 (by decide)
  have q98_ := hf 98 (by decide)
  have q99_ := hf 99 (by decide)
  have q100_ := hf 100 (by decide)
  have q101_ := hf 101 (by decide)
  have q102_ := hf 102 (by decide)
  have q103_ := hf 103 (by decide)
  simp only [Array.getD_eq_getD_getElem?, List.getElem?_toArray, List.getElem?_cons_zero, List.getElem?_cons_succ, Option.getD_some] at q0_ q1_ q2_ q3_ q4_ q5_ q6_ q7_ q8_ q11_ q12_ q13_ q14_ q15_ q16_ q17_ q18_ q19_ q20_ q21_ q22_ q23_ q24_ q25_ q26_ q27_ q28_ q29_ q30_ q38_ q39_ q40_ q41_ q42_ q43_ q44_ q45_ q46_ q47_ q48_ q49_ q50_ q51_ q52_ q53_ q54_ q55_ q56_ q57_ q58_ q59_ q60_ q61_ q62_ q63_ q64_ q65_ q66_ q67_ q68_ q69_ q70_ q71_ q72_ q73_ q74_ q75_ q76_ q77_ q78_ q79_ q80_ q81_ q82_ q83_ q84_ q85_ q86_ q87_ q88_ q89_ q90_ q91_ q92_ q93_ q94_ q95_ q96_ q97_ q98_ q99_ q100_ q101_ q102_ q103_
  rw [q0_, q1_, q2_, q3_, q4_, q5_, q6_, q7_, q8_, qx_, q10_, q11_, q12_, q13_, q14_, q15_, q16_, q17_, q18_, q19_, q20_, q21_, q22_, q23_, q24_, q25_, q26_, q27_, q28_, q29_, q30_, q32_, q33_, q34_, q36_, q37_, q38_, q39_, q40_, q41_, q42_, q43_, q44_, q45_, q46_, q47_, q48_, q49_, q50_, q51_, q52_, q53_, q54_, q55_, q56_, q57_, q58_, q59_, q60_, q61_, q62_, q63_, q64_, q65_, q66_, q67_, q68_, q69_, q70_, q71_, q72_, q73_, q74_, q75_, q76_, q77_, q78_, q79_, q80_, q81_, q82_, q83_, q84_, q85_, q86_, q87_, q88_, q89_, q90_, q91_, q92_, q93_, q94_, q95_, q96_, q97_, q98_, q99_, q100_, q101_, q102_, q103_]
  clear q0_ q1_ q2_ q3_ q4_ q5_ q6_ q7_ q8_ qx_ q10_ q11_ q12_ q13_ q14_ q15_ q16_ q17_ q18_ q19_ q20_ q21_ q22_ q23_ q24_ q25_ q26_ q27_ q28_ q29_ q30_ q32_ q33_ q34_ q36_ q37_ q38_ q39_ q40_ q41_ q42_ q43_ q44_ q45_ q46_ q47_ q48_ q49_ q50_ q51_ q52_ q53_ q54_ q55_ q56_ q57_ q58_ q59_ q60_ q61_ q62_ q63_ q64_ q65_ q66_ q67_ q68_ q69_ q70_ q71_ q72_ q73_ q74_ q75_ q76_ q77_ q78_ q79_ q80_ q81_ q82_ q83_ q84_ q85_ q86_ q87_ q88_ q89_ q90_ q91_ q92_ q93_ q94_ q95_ q96_ q97_ q98_ q99_ q100_ q101_ q102_ q103_ hf hd
  generalize ff 31 = v31_
  generalize ff 35 = v35_
  clear ff
  have b_ : Below _ _ w5 := hJ
  clear hJ
  have z5 := b_.size
  clear c0 c1 c2 c3 c4 c5 i0 i1 x0 x1 x2 x3 x4 x5
  have lgG := kG.lt
  obtain ⟨oS9, hhG⟩ := oG
  dsimp only at oS9 hhG
  have le1G := oS9.le1; have le2G := oS9.le2
  have HG := Lib.hid oS9; clear oS9
  have HBG := Lib.hid kG; clear kG
  replace HK := Lib.hid (HK.out.below b_ (by omega))
  replace HI := Lib.hid (HI.out.below b_ (by omega))
  replace HBW := Lib.hid (HBW.out.below b_ (by omega))
  replace HBX := Lib.hid (HBX.out.below b_ (by omega))
  replace HW := Lib.hid (HW.out.below b_ (by omega))
  replace HX := Lib.hid (HX.out.below b_ (by omega))
  replace HT0 := Lib.hid (RdTempo.below HT0.out b_ (by omega)); replace HV0 := Lib.hid (RdVs.below HV0.out b_ (by omega)); replace HB := Lib.hid (HB.out.trans (b_.mono (by omega)))
  clear b_
  have y0 : w5.cell? ⟨gG, 0, none⟩ = some (.int .i64 f9) := HBG.out.cell 0
  have y1 : w5.cell? ⟨gG, 1, none⟩ = some (.bool m9) := HBG.out.cell 1
  have y2 : w5.cell? ⟨gG, 2, none⟩ = some (.int .i64 b9) := HBG.out.cell 2
  have y3 : w5.cell? ⟨gG, 3, none⟩ = some (.int .i64 u9) := HBG.out.cell 3
  have y4 : w5.cell? ⟨gG, 4, none⟩ = some (.slice CG ts9.length dG) := HBG.out.cell 4
  have y5 : w5.cell? ⟨gG, 5, none⟩ = some (.slice AG vs9.length cG) := HBG.out.cell 5
  have v0 : w5.cell? ⟨gW, 0, none⟩ = some (.int .i64 f9) := HBW.out.cell 0
  have v1 : w5.cell? ⟨gW, 1, none⟩ = some (.bool m9) := HBW.out.cell 1
  have v2 : w5.cell? ⟨gW, 2, none⟩ = some (.int .i64 b9) := HBW.out.cell 2
  have v3 : w5.cell? ⟨gW, 3, none⟩ = some (.int .i64 u9) := HBW.out.cell 3
  have v4 : w5.cell? ⟨gW, 4, none⟩ = some (.slice CW ts9.length dW) := HBW.out.cell 4
  have v5 : w5.cell? ⟨gW, 5, none⟩ = some (.slice AW vs9.length cW) := HBW.out.cell 5
  go_wp2_with fail
  refine (laws_eqSong f9 m9 b9 u9 _ _ _ _ _ _ _ _ ts9 vs9 _ (HG.out.rdT (by omega)) (HG.out.rdV (by omega)) (HW.out.rdT (by omega)) (HW.out.rdV (by omega)) hlt9 hlv9).mono ?_
  rintro e w6 ⟨rfl, b6⟩
  have z6 := b6.size
  clear y0 y1 y2 y3 y4 y5 v0 v1 v2 v3 v4 v5
  replace HK := Lib.hid (HK.out.below b6 (by omega))
  replace HI := Lib.hid (HI.out.below b6 (by omega))
  replace HBW := Lib.hid (HBW.out.below b6 (by omega))
  replace HBX := Lib.hid (HBX.out.below b6 (by omega))
  replace HBG := Lib.hid (HBG.out.below b6 (by omega))
  replace HW := Lib.hid (HW.out.below b6 (by omega))
  replace HX := Lib.hid (HX.out.below b6 (by omega))
  replace HG := Lib.hid (HG.out.below b6 (by omega))
  replace HT0 := Lib.hid (RdTempo.below HT0.out b6 (by omega)); replace HV0 := Lib.hid (RdVs.below HV0.out b6 (by omega)); replace HB := Lib.hid (HB.out.trans (b6.mono (by omega)))
  clear b6
  have x0 := HBX.out.cell 0; have x1 := HBX.out.cell 1; have x2 := HBX.out.cell 2; have x3 := HBX.out.cell 3; have x4 := HBX.out.cell 4; have x5 := HBX.out.cell 5; have c0 := HK.out.cell 0; have c1 := HK.out.cell 1; have c2 := HK.out.cell 2; have c3 := HK.out.cell 3; have c4 := HK.out.cell 4; have c5 := HK.out.cell 5
  go_upto_region 10 with fail
  go_region_held3 (fun w' => w'.cell? ⟨bX, 0, none⟩ = some (.int .i64 f) ∧ w'.cell? ⟨bX, 1, none⟩ = some (.bool m) ∧ w'.cell? ⟨bX, 2, none⟩ = some (.int .i64 b) ∧ w'.cell? ⟨bX, 3, none⟩ = some (.int .i64 u) ∧ w'.cell? ⟨bX, 4, none⟩ = some (.slice CX ts.length dX) ∧ w'.cell? ⟨bX, 5, none⟩ = some (.slice AX vs.length cX) ∧ w'.cell? ⟨w.heap.size, 0, none⟩ = some (.int .i64 f) ∧ w'.cell? ⟨w.heap.size, 1, none⟩ = some (.bool m) ∧ w'.cell? ⟨w.heap.size, 2, none⟩ = some (.int .i64 b) ∧ w'.cell? ⟨w.heap.size, 3, none⟩ = some (.int .i64 u) ∧ w'.cell? ⟨w.heap.size, 4, none⟩ = some (.slice C ts.length d) ∧ w'.cell? ⟨w.heap.size, 5, none⟩ = some (.slice A vs.length c)) (first | exact ⟨x0, x1, x2, x3, x4, x5, c0, c1, c2, c3, c4, c5⟩ | exact ⟨KX7.out.cell 0, KX7.out.cell 1, KX7.out.cell 2, KX7.out.cell 3, KX7.out.cell 4, KX7.out.cell 5, K7.out.cell 0, K7.out.cell 1, K7.out.cell 2, K7.out.cell 3, K7.out.cell 4, K7.out.cell 5⟩ | exact ⟨KX8.out.cell 0, KX8.out.cell 1, KX8.out.cell 2, KX8.out.cell 3, KX8.out.cell 4, KX8.out.cell 5, K8.out.cell 0, K8.out.cell 1, K8.out.cell 2, K8.out.cell 3, K8.out.cell 4, K8.out.cell 5⟩) (first | (go_at_call 6; refine (laws_toSong f m b u C A d c ts vs _ (show RdTempo w6.drew w6.drew.heap.size C ts from (RdTempo.more HT0.out (show w.heap.size ≤ w6.heap.size by omega))) (show RdVs w6.drew w6.drew.heap.size A vs from (RdVs.more HV0.out (show w.heap.size ≤ w6.heap.size by omega))) hlt hlv).mono ?_; rintro e w7 ⟨CC7, AA7, dd7, cc7, mid7, hs7, rfl, o7, b7⟩; have z7 : w6.heap.size ≤ w7.heap.size := b7.size; have sd : w6.drew.heap.size = w6.heap.size := rfl; have KX7 := Lib.hid (HBX.out.drew.below b7 (by omega)); have K7 := Lib.hid (HK.out.drew.below b7 (by omega)); have SX7 := Lib.hid (HX.out.below (below_drew_left b7) (by omega)); have SO7 := Lib.hid o7) | (go_at_call 9; refine (laws_eqSong f m b u _ _ _ _ _ _ _ _ ts vs _ (SX7.out.rdT (by omega)) (SX7.out.rdV (by omega)) (SO7.out.rdT (Nat.le_refl _)) (SO7.out.rdV (Nat.le_refl _)) hlt hlv).mono ?_; rintro e w8 ⟨rfl, b8⟩; have z8 : w7.heap.size ≤ w8.heap.size := b8.size; have KX8 := Lib.hid (KX7.out.below b8 (by omega)); have K8 := Lib.hid (K7.out.below b8 (by omega))))
  have bb : Below w6.heap.size w6 w8 := (below_drew_left b7).trans (b8.mono (by omega))
  have zz8 := bb.size
  clear b7 b8 o7 SX7 SO7 KX7 K7 KX8 K8 x0 c0 x1 c1 x2 c2 x3 c3 x4 c4 x5 c5
  replace HK := Lib.hid (HK.out.below bb (by omega))
  replace HI := Lib.hid (HI.out.below bb (by omega))
  replace HBW := Lib.hid (HBW.out.below bb (by omega))
  replace HBX := Lib.hid (HBX.out.below bb (by omega))
  replace HBG := Lib.hid (HBG.out.below bb (by omega))
  replace HW := Lib.hid (HW.out.below bb (by omega))
  replace HX := Lib.hid (HX.out.below bb (by omega))
  replace HG := Lib.hid (HG.out.below bb (by omega))
  replace HT0 := Lib.hid (RdTempo.below HT0.out bb (by omega)); replace HV0 := Lib.hid (RdVs.below HV0.out bb (by omega)); replace HB := Lib.hid (HB.out.trans (bb.mono (by omega)))
  clear bb
  have y0 : w8.cell? ⟨bX, 0, none⟩ = some (.int .i64 f) := HBX.out.cell 0
  have y1 : w8.cell? ⟨bX, 1, none⟩ = some (.bool m) := HBX.out.cell 1
  have y2 : w8.cell? ⟨bX, 2, none⟩ = some (.int .i64 b) := HBX.out.cell 2
  have y3 : w8.cell? ⟨bX, 3, none⟩ = some (.int .i64 u) := HBX.out.cell 3
  have y4 : w8.cell? ⟨bX, 4, none⟩ = some (.slice CX ts.length dX) := HBX.out.cell 4
  have y5 : w8.cell? ⟨bX, 5, none⟩ = some (.slice AX vs.length cX) := HBX.out.cell 5
  go_wp2_with fail
  refine (laws_markSong2 f m b u _ _ _ _ _ _ vs _ 1 _ _ _ _ HX.out (by omega) hlt hlv (by omega) (by omega)).mono ?_
  rintro e w9 ⟨rfl, o9, i9, k9⟩
  have z9 := i9.size
  clear y0 y1 y2 y3 y4 y5
  replace HX := Lib.hid o9; clear o9
  replace HK := Lib.hid (i9.blk HK.out (.inl (by omega)))
  replace HI := Lib.hid (i9.blk HI.out (.inl (by omega)))
  replace HBW := Lib.hid (k9 _ _ HBW.out)
  replace HBX := Lib.hid (k9 _ _ HBX.out)
  replace HBG := Lib.hid (k9 _ _ HBG.out)
  replace HW := Lib.hid (SgO.inB HW.out i9 (by first | exact .inl (by omega) | exact .inr (by omega)))
  replace HG := Lib.hid (SgO.inB HG.out i9 (by first | exact .inl (by omega) | exact .inr (by omega)))
  have j9 : Below w.heap.size w8 w9 := i9.below (by omega) (by omega)
  replace HT0 := Lib.hid (RdTempo.below HT0.out j9 (Nat.le_refl _)); replace HV0 := Lib.hid (RdVs.below HV0.out j9 (Nat.le_refl _)); replace HB := Lib.hid (HB.out.trans j9)
  clear i9 k9 j9
  clear HX HBX
  have y0 : w9.cell? ⟨gG, 0, none⟩ = some (.int .i64 f9) := HBG.out.cell 0
  have y1 : w9.cell? ⟨gG, 1, none⟩ = some (.bool m9) := HBG.out.cell 1
  have y2 : w9.cell? ⟨gG, 2, none⟩ = some (.int .i64 b9) := HBG.out.cell 2
  have y3 : w9.cell? ⟨gG, 3, none⟩ = some (.int .i64 u9) := HBG.out.cell 3
  have y4 : w9.cell? ⟨gG, 4, none⟩ = some (.slice CG ts9.length dG) := HBG.out.cell 4
  have y5 : w9.cell? ⟨gG, 5, none⟩ = some (.slice AG vs9.length cG) := HBG.out.cell 5
  have v0 : w9.cell? ⟨gW, 0, none⟩ = some (.int .i64 f9) := HBW.out.cell 0
  have v1 : w9.cell? ⟨gW, 1, none⟩ = some (.bool m9) := HBW.out.cell 1
  have v2 : w9.cell? ⟨gW, 2, none⟩ = some (.int .i64 b9) := HBW.out.cell 2
  have v3 : w9.cell? ⟨gW, 3, none⟩ = some (.int .i64 u9) := HBW.out.cell 3
  have v4 : w9.cell? ⟨gW, 4, none⟩ = some (.slice CW ts9.length dW) := HBW.out.cell 4
  have v5 : w9.cell? ⟨gW, 5, none⟩ = some (.slice AW vs9.length cW) := HBW.out.cell 5
  go_wp2_with fail
  refine (laws_eqSong f9 m9 b9 u9 _ _ _ _ _ _ _ _ ts9 vs9 _ (HG.out.rdT (by omega)) (HG.out.rdV (by omega)) (HW.out.rdT (by omega)) (HW.out.rdV (by omega)) hlt9 hlv9).mono ?_
  rintro e w10 ⟨rfl, b10⟩
  have z10 := b10.size
  clear y0 y1 y2 y3 y4 y5 v0 v1 v2 v3 v4 v5
  replace HK := Lib.hid (HK.out.below b10 (by omega))
  replace HI := Lib.hid (HI.out.below b10 (by omega))
  replace HBW := Lib.hid (HBW.out.below b10 (by omega))
  replace HBG := Lib.hid (HBG.out.below b10 (by omega))
  replace HW := Lib.hid (HW.out.below b10 (by omega))
  replace HG := Lib.hid (HG.out.below b10 (by omega))
  replace HT0 := Lib.hid (RdTempo.below HT0.out b10 (by omega)); replace HV0 := Lib.hid (RdVs.below HV0.out b10 (by omega)); replace HB := Lib.hid (HB.out.trans (b10.mono (by omega)))
  clear b10
  have y0 : w10.cell? ⟨gG, 0, none⟩ = some (.int .i64 f9) := HBG.out.cell 0
  have y1 : w10.cell? ⟨gG, 1, none⟩ = some (.bool m9) := HBG.out.cell 1
  have y2 : w10.cell? ⟨gG, 2, none⟩ = some (.int .i64 b9) := HBG.out.cell 2
  have y3 : w10.cell? ⟨gG, 3, none⟩ = some (.int .i64 u9) := HBG.out.cell 3
  have y4 : w10.cell? ⟨gG, 4, none⟩ = some (.slice CG ts9.length dG) := HBG.out.cell 4
  have y5 : w10.cell? ⟨gG, 5, none⟩ = some (.slice AG vs9.length cG) := HBG.out.cell 5
  go_wp2_with fail
  refine (laws_markSong2 f9 m9 b9 u9 _ _ _ _ _ _ vs9 _ 1 _ _ _ _ HG.out (by omega) hlt9 hlv9 (by omega) (by omega)).mono ?_
  rintro e w11 ⟨rfl, o11, i11, k11⟩
  have z11 := i11.size
  clear y0 y1 y2 y3 y4 y5
  replace HG := Lib.hid o11; clear o11
  replace HK := Lib.hid (i11.blk HK.out (.inl (by omega)))
  replace HI := Lib.hid (i11.blk HI.out (.inl (by omega)))
  replace HBW := Lib.hid (k11 _ _ HBW.out)
  replace HBG := Lib.hid (k11 _ _ HBG.out)
  replace HW := Lib.hid (SgO.inB HW.out i11 (by first | exact .inl (by omega) | exact .inr (by omega)))
  have j9 : Below w.heap.size w10 w11 := i11.below (by omega) (by omega)
  replace HT0 := Lib.hid (RdTempo.below HT0.out j9 (Nat.le_refl _)); replace HV0 := Lib.hid (RdVs.below HV0.out j9 (Nat.le_refl _)); replace HB := Lib.hid (HB.out.trans j9)
  clear i11 k11 j9
  have y0 : w11.cell? ⟨gG, 0, none⟩ = some (.int .i64 f9) := HBG.out.cell 0
  have y1 : w11.cell? ⟨gG, 1, none⟩ = some (.bool m9) := HBG.out.cell 1
  have y2 : w11.cell? ⟨gG, 2, none⟩ = some (.int .i64 b9) := HBG.out.cell 2
  have y3 : w11.cell? ⟨gG, 3, none⟩ = some (.int .i64 u9) := HBG.out.cell 3
  have y4 : w11.cell? ⟨gG, 4, none⟩ = some (.slice CG ts9.length dG) := HBG.out.cell 4
  have y5 : w11.cell? ⟨gG, 5, none⟩ = some (.slice AG vs9.length cG) := HBG.out.cell 5
  go_wp2_with fail
  refine (laws_heldSong f9 m9 b9 u9 _ _ _ _ _ vs9 _ 1 _ _ _ _ HG.out (by omega) hlt9 hlv9 (by omega) (by omega)).mono ?_
  rintro e w12 ⟨rfl, b12⟩
  have z12 := b12.size
  clear y0 y1 y2 y3 y4 y5
  replace HK := Lib.hid (HK.out.below b12 (by omega))
  replace HI := Lib.hid (HI.out.below b12 (by omega))
  replace HBW := Lib.hid (HBW.out.below b12 (by omega))
  replace HBG := Lib.hid (HBG.out.below b12 (by omega))
  replace HW := Lib.hid (HW.out.below b12 (by omega))
  replace HG := Lib.hid (HG.out.below b12 (by omega))
  replace HT0 := Lib.hid (RdTempo.below HT0.out b12 (by omega)); replace HV0 := Lib.hid (RdVs.below HV0.out b12 (by omega)); replace HB := Lib.hid (HB.out.trans (b12.mono (by omega)))
  clear b12
  go_upto_region 24 with fail
  have c0 := HK.out.cell 0; have c1 := HK.out.cell 1; have c2 := HK.out.cell 2; have c3 := HK.out.cell 3; have c4 := HK.out.cell 4; have c5 := HK.out.cell 5; have i0 := HI.out.cell 0; have i1 := HI.out.cell 1
  refine regionC_draws rfl 35 6 14 85 9 104 [some 80, some 81, some 82, some 83, some 84, some 79, some 85, some 86, some 14, none, some 15]
    [FEq (.agg #[.int .i64 f, .bool m, .int .i64 b, .int .i64 u, .slice C ts.length d, .slice A vs.length c]), FSg w12.heap.size (f, m, b, u, ts, vs), FEq (.agg #[.int .i64 s, .int .i64 h]), FEq (.agg #[.int .i64 s, .int .i64 h]), FTp w12.heap.size (f9, m9, b9, u9, ts9, vs9) ok9, FTp w12.heap.size (f9, m9, b9, u9, ts9, vs9) ok9, FSg w12.heap.size (f9, m9, b9, u9, ts9, vs9), FEq (.bool ok9), FBox w12.heap.size 35 6, FAny, FEq (.bool ok9)] (by kernel_rfl) (by kernel_rfl) (by decide) ?_ ?_ ?_
  · exact stayCs_cons stayC_eq (stayCs_cons (staySg _ _ _) (stayCs_cons stayC_eq (stayCs_cons stayC_eq (stayCs_cons (stayTp _ _ _ _) (stayCs_cons (stayTp _ _ _ _) (stayCs_cons (staySg _ _ _) (stayCs_cons stayC_eq (stayCs_cons stayC_box (stayCs_cons stayC_any (stayCs_cons stayC_eq stayCs_nil))))))))))
  · refine AllI.cons ?_ (AllI.cons ?_ (AllI.cons ?_ (AllI.cons ?_ (AllI.cons ?_ (AllI.cons ?_ (AllI.cons ?_ (AllI.cons ?_ (AllI.cons ?_ (AllI.cons ?_ (AllI.cons ?_ trivial))))))))))
    · intro kk bb ff ww hkk hf hd hp hq hJ0
      refine .inl ⟨wanted_none rfl, ?_⟩
      have hJ := hJ0.1
      have hb9 : bb = false := hp [] (by kernel_rfl)
      have q2 : FEq (.pointer (some ⟨w.heap.size, 0, none⟩)) (ff 2) ww := (hf 2 (by decide)).trans rfl
      unfold FEq at q2
      have c0 : ww.cell? ⟨w.heap.size, 0, none⟩ = some (.int .i64 f) := (hJ.cell (p := ⟨w.heap.size, 0, none⟩) (show w.heap.size < _ by omega)).trans c0
      have c1 : ww.cell? ⟨w.heap.size, 1, none⟩ = some (.bool m) := (hJ.cell (p := ⟨w.heap.size, 1, none⟩) (show w.heap.size < _ by omega)).trans c1
      have c2 : ww.cell? ⟨w.heap.size, 2, none⟩ = some (.int .i64 b) := (hJ.cell (p := ⟨w.heap.size, 2, none⟩) (show w.heap.size < _ by omega)).trans c2
      have c3 : ww.cell? ⟨w.heap.size, 3, none⟩ = some (.int .i64 u) := (hJ.cell (p := ⟨w.heap.size, 3, none⟩) (show w.heap.size < _ by omega)).trans c3
      have c4 : ww.cell? ⟨w.heap.size, 4, none⟩ = some (.slice C ts.length d) := (hJ.cell (p := ⟨w.heap.size, 4, none⟩) (show w.heap.size < _ by omega)).trans c4
      have c5 : ww.cell? ⟨w.heap.size, 5, none⟩ = some (.slice A vs.length c) := (hJ.cell (p := ⟨w.heap.size, 5, none⟩) (show w.heap.size < _ by omega)).trans c5
      refine sc_val (.agg #[.int .i64 f, .bool m, .int .i64 b, .int .i64 u, .slice C ts.length d, .slice A vs.length c]) hJ ?_ rfl
      simp only [execOp, ev_tmp _ _ (show 2 < 104 by decide), ev_const, q2]
      simp [go_sem, c0, c1, c2, c3, c4, c5]
    · intro kk bb ff ww hkk hf hd hp hq hJ0
      refine .inl ⟨wanted_none rfl, ?_⟩
      obtain ⟨p0, -⟩ := hd
      have hJ := hJ0.1
      have hb9 : bb = false := hp [] (by kernel_rfl)
      have q80 : FEq (.agg #[.int .i64 f, .bool m, .int .i64 b, .int .i64 u, .slice C ts.length d, .slice A vs.length c]) (ff 80) ww := p0 rfl
      unfold FEq at q80
      refine sc_enter 6 #[.agg #[.int .i64 f, .bool m, .int .i64 b, .int .i64 u, .slice C ts.length d, .slice A vs.length c]] hJ ?_ ?_
      · simp only [execOp, ev_tmp _ _ (show 80 < 104 by decide), ev_const, q80, ev_func, resolve, List.map_toArray, List.map_cons, List.map_nil]
        simp [go_sem]
      · skip
        exact retSg_fs (laws_toSong f m b u C A d c ts vs ww (RdTempo.more (RdTempo.below HT0.out hJ (by omega)) (Nat.le_trans (show w.heap.size ≤ w12.heap.size by omega) hJ.size)) (RdVs.more (RdVs.below HV0.out hJ (by omega)) (Nat.le_trans (show w.heap.size ≤ w12.heap.size by omega) hJ.size)) hlt hlv) hJ.size
    · intro kk bb ff ww hkk hf hd hp hq hJ0
      refine .inl ⟨wanted_none rfl, ?_⟩
      have hJ := hJ0.1
      have hb9 : bb = false := hp [] (by kernel_rfl)
      have q3 : FEq (.pointer (some ⟨w.heap.size + 1, 0, none⟩)) (ff 3) ww := (hf 3 (by decide)).trans rfl
      unfold FEq at q3
      have c0 : ww.cell? ⟨w.heap.size + 1, 0, none⟩ = some (.int .i64 s) := (hJ.cell (p := ⟨w.heap.size + 1, 0, none⟩) (show w.heap.size + 1 < _ by omega)).trans i0
      have c1 : ww.cell? ⟨w.heap.size + 1, 1, none⟩ = some (.int .i64 h) := (hJ.cell (p := ⟨w.heap.size + 1, 1, none⟩) (show w.heap.size + 1 < _ by omega)).trans i1
      refine sc_val (.agg #[.int .i64 s, .int .i64 h]) hJ ?_ rfl
      simp only [execOp, ev_tmp _ _ (show 3 < 104 by decide), ev_const, q3]
      simp [go_sem, c0, c1]
    · intro kk bb ff ww hkk hf hd hp hq hJ0
      refine .inl ⟨wanted_none rfl, ?_⟩
      obtain ⟨p0, p1, -⟩ := hd
      have hJ := hJ0.1
      have hb9 : bb = false := hp [] (by kernel_rfl)
      have q82 : FEq (.agg #[.int .i64 s, .int .i64 h]) (ff 82) ww := p0 rfl
      unfold FEq at q82
      refine sc_enter 7 #[.agg #[.int .i64 s, .int .i64 h]] hJ ?_ ?_
      · simp only [execOp, ev_tmp _ _ (show 82 < 104 by decide), ev_const, q82, ev_func, resolve, List.map_toArray, List.map_cons, List.map_nil]
        simp [go_sem]
      · skip
        exact (laws_toInterval s h ww).mono fun _ _ ⟨he, hb⟩ => ⟨_, he, rfl, hb⟩
    · intro kk bb ff ww hkk hf hd hp hq hJ0
      refine .inl ⟨wanted_none rfl, ?_⟩
      obtain ⟨p0, p1, p2, -⟩ := hd
      have hJ := hJ0.1
      have hb9 : bb = false := hp [] (by kernel_rfl)
      have q81 : FSg w12.heap.size (f, m, b, u, ts, vs) (ff 81) ww := p0 rfl
      obtain ⟨C81, A81, d81, c81, mid81, hi81, hs81, q81, o81⟩ := q81
      dsimp only [sgV] at q81
      have q83 : FEq (.agg #[.int .i64 s, .int .i64 h]) (ff 83) ww := p1 rfl
      unfold FEq at q83
      refine sc_enter 8 #[.agg #[.int .i64 f, .bool m, .int .i64 b, .int .i64 u, .slice C81 ts.length d81, .slice A81 vs.length c81], .agg #[.int .i64 s, .int .i64 h]] hJ ?_ ?_
      · simp only [execOp, ev_tmp _ _ (show 81 < 104 by decide), ev_tmp _ _ (show 83 < 104 by decide), ev_const, q81, q83, ev_func, resolve, List.map_toArray, List.map_cons, List.map_nil]
        simp [go_sem]
      · skip
        exact retSS_tp (HC2.out C81 A81 d81 c81 ww (o81.1.rdT o81.2) (o81.1.rdV o81.2)) hJ.size
    · intro kk bb ff ww hkk hf hd hp hq hJ0
      refine .inl ⟨wanted_none rfl, ?_⟩
      obtain ⟨p0, -⟩ := hd
      have hJ := hJ0.1
      have hb9 : bb = false := hp [] (by kernel_rfl)
      have q : FTp w12.heap.size (f9, m9, b9, u9, ts9, vs9) ok9 (ff 84) ww := p0 rfl
      exact sc_val (ff 84) hJ (by simp only [execOp, ev_tmp _ _ (show 84 < 104 by decide)]; rfl) q
    · intro kk bb ff ww hkk hf hd hp hq hJ0
      refine .inl ⟨wanted_none rfl, ?_⟩
      obtain ⟨p0, -⟩ := hd
      have hJ := hJ0.1
      have hb9 : bb = false := hp [] (by kernel_rfl)
      have q79 : FTp w12.heap.size (f9, m9, b9, u9, ts9, vs9) ok9 (ff 79) ww := p0 rfl
      obtain ⟨C79, A79, d79, c79, mid79, hi79, hs79, q79, o79⟩ := q79
      dsimp only [sgV] at q79
      refine sc_val (.agg #[.int .i64 f9, .bool m9, .int .i64 b9, .int .i64 u9, .slice C79 ts9.length d79, .slice A79 vs9.length c79]) hJ ?_ ⟨C79, A79, d79, c79, mid79, hi79, hs79, rfl, o79⟩
      simp only [execOp, ev_tmp _ _ (show 79 < 104 by decide), ev_const, q79]
      simp [go_sem]
    · intro kk bb ff ww hkk hf hd hp hq hJ0
      refine .inl ⟨wanted_none rfl, ?_⟩
      obtain ⟨p0, -, -⟩ := hd
      have hJ := hJ0
      have q79 : FTp w12.heap.size (f9, m9, b9, u9, ts9, vs9) ok9 (ff 79) ww := p0 rfl
      obtain ⟨C79, A79, d79, c79, mid79, hi79, hs79, q79, o79⟩ := q79
      dsimp only [sgV] at q79
      refine sc_val2 (.bool ok9) hJ ?_ rfl
      simp only [execOp, ev_tmp _ _ (show 79 < 104 by decide), ev_const, q79]
      simp [go_sem]
    · intro kk bb ff ww hkk hf hd hp hq hJ0
      refine .inl ⟨wanted_none rfl, ?_⟩
      have hJ := hJ0.1
      have hb9 : bb = false := hp [] (by kernel_rfl)
      refine sc_alloc (.pointer (some ⟨ww.heap.size, 0, none⟩)) (.cells #[.int .i64 0, .bool false, .int .i64 0, .int .i64 0, .slice none 0 0, .slice none 0 0] 35) hJ ?_ ⟨_, _, rfl, hJ.size, Blk.new _ _ _, rfl⟩
      simp only [execOp]
      simp [go_sem]
    · intro kk bb ff ww hkk hf hd hp hq hJ0
      refine .inl ⟨wanted_none rfl, ?_⟩
      obtain ⟨p0, p1, p2, p3, p4, p5, p6, p7, p8, p9, -, p11, -⟩ := hd
      have hJ := hJ0.1
      have q85 : FSg w12.heap.size (f9, m9, b9, u9, ts9, vs9) (ff 85) ww := p1 rfl
      obtain ⟨C85, A85, d85, c85, mid85, hi85, hs85, q85, o85⟩ := q85
      dsimp only [sgV] at q85
      have q14 : FBox w12.heap.size 35 6 (ff 14) ww := p0 rfl
      obtain ⟨g, cs, q14, hlo, hb, hsz⟩ := q14
      obtain ⟨d0, d1, d2, d3, d4, d5, rfl⟩ := arr6 hsz
      have c0 : ww.cell? ⟨g, 0, none⟩ = some d0 := hb.cell 0
      have f0 := hb.frozen 0
      have c1 : ww.cell? ⟨g, 1, none⟩ = some d1 := hb.cell 1
      have f1 := hb.frozen 1
      have c2 : ww.cell? ⟨g, 2, none⟩ = some d2 := hb.cell 2
      have f2 := hb.frozen 2
      have c3 : ww.cell? ⟨g, 3, none⟩ = some d3 := hb.cell 3
      have f3 := hb.frozen 3
      have c4 : ww.cell? ⟨g, 4, none⟩ = some d4 := hb.cell 4
      have f4 := hb.frozen 4
      have c5 : ww.cell? ⟨g, 5, none⟩ = some d5 := hb.cell 5
      have f5 := hb.frozen 5
      refine sc_store g ((((((ww.setCell ⟨g, 0, none⟩ (.int .i64 f9)).setCell ⟨g, 1, none⟩ (.bool m9)).setCell ⟨g, 2, none⟩ (.int .i64 b9)).setCell ⟨g, 3, none⟩ (.int .i64 u9)).setCell ⟨g, 4, none⟩ (.slice C85 ts9.length d85)).setCell ⟨g, 5, none⟩ (.slice A85 vs9.length c85)) #[.int .i64 f9, .bool m9, .int .i64 b9, .int .i64 u9, .slice C85 ts9.length d85, .slice A85 vs9.length c85] rfl rfl q14 q85 hlo rfl hJ ?_ ((((((hb.set_ 0 (.int .i64 f9)).set_ 1 (.bool m9)).set_ 2 (.int .i64 b9)).set_ 3 (.int .i64 u9)).set_ 4 (.slice C85 ts9.length d85)).set_ 5 (.slice A85 vs9.length c85)) ⟨_, hb⟩ (fun j hj => by simp [Below.heap_setCell, hj, Ne.symm hj]) (by simp only [set_os]) (by simp only [set_tape]) (by simp only [set_output]) (by simp only [set_hsz]) trivial
      simp only [execOp, ev_tmp _ _ (show 85 < 104 by decide), ev_tmp _ _ (show 14 < 104 by decide), ev_const, q85, q14]
      simp [go_sem, c0, f0, c1, f1, c2, f2, c3, f3, c4, f4, c5, f5]
    · intro kk bb ff ww hkk hf hd hp hq hJ0
      refine .inl ⟨wanted_none rfl, ?_⟩
      obtain ⟨p0, p1, p2, p3, p4, p5, p6, p7, p8, p9, p10, p11, -⟩ := hd
      have hJ := hJ0
      have q : FEq (.bool ok9) (ff 86) ww := p0 rfl
      exact sc_val2 (ff 86) hJ (by simp only [execOp, ev_tmp _ _ (show 86 < 104 by decide)]; rfl) q
  intro ff w13 hf hd hX hJ
  obtain ⟨gH, cs_, qx_, qv_, lH, kH⟩ := hX
  have hfr : fr 104 ff = #[ff 0, ff 1, ff 2, ff 3, ff 4, ff 5, ff 6, ff 7, ff 8, ff 9, ff 10, ff 11, ff 12, ff 13, ff 14, ff 15, ff 16, ff 17, ff 18, ff 19, ff 20, ff 21, ff 22, ff 23, ff 24, ff 25, ff 26, ff 27, ff 28, ff 29, ff 30, ff 31, ff 32, ff 33, ff 34, ff 35, ff 36, ff 37, ff 38, ff 39, ff 40, ff 41, ff 42, ff 43, ff 44, ff 45, ff 46, ff 47, ff 48, ff 49, ff 50, ff 51, ff 52, ff 53, ff 54, ff 55, ff 56, ff 57, ff 58, ff 59, ff 60, ff 61, ff 62, ff 63, ff 64, ff 65, ff 66, ff 67, ff 68, ff 69, ff 70, ff 71, ff 72, ff 73, ff 74, ff 75, ff 76, ff 77, ff 78, ff 79, ff 80, ff 81, ff 82, ff 83, ff 84, ff 85, ff 86, ff 87, ff 88, ff 89, ff 90, ff 91, ff 92, ff 93, ff 94, ff 95, ff 96, ff 97, ff 98, ff 99, ff 100, ff 101, ff 102, ff 103] := rfl
  rw [hfr]; clear hfr
  dsimp only
  have q0_ := hf 0 (by decide)
  have q1_ := hf 1 (by decide)
  have q2_ := hf 2 (by decide)
  have q3_ := hf 3 (by decide)
  have q4_ := hf 4 (by decide)
  have q5_ := hf 5 (by decide)
  have q6_ := hf 6 (by decide)
  have q7_ := hf 7 (by decide)
  have q8_ := hf 8 (by decide)
  have q9_ := hf 9 (by decide)
  have q10_ := hf 10 (by decide)
  have q11_ := hf 11 (by decide)
  have q12_ := hf 12 (by decide)
  have q13_ := hf 13 (by decide)
  have q15_ : FEq (.bool ok9) (ff 15) w13 := hd 10 (by decide)
  unfold FEq at q15_
  have q16_ := hf 16 (by decide)
  have q17_ := hf 17 (by decide)
  have q18_ := hf 18 (by decide)
  have q19_ := hf 19 (by decide)
  have q20_ := hf 20 (by decide)
  have q21_ := hf 21 (by decide)
  have q22_ := hf 22 (by decide)
  have q23_ := hf 23 (by decide)
  have q24_ := hf 24 (by decide)
  have q25_ := hf 25 (by decide)
  have q26_ := hf 26 (by decide)
  have q27_ := hf 27 (by decide)
  have q28_ := hf 28 (by decide)
  have q29_ := hf 29 (by decide)
  have q30_ := hf 30 (by decide)
  have q31_ := hf 31 (by decide)
  have q32_ := hf 32 (by decide)
  have q33_ := hf 33 (by decide)
  have q34_ := hf 34 (by decide)
  have q35_ := hf 35 (by decide)
  have q36_ := hf 36 (by decide)
  have q37_ := hf 37 (by decide)
  have q38_ := hf 38 (by decide)
  have q39_ := hf 39 (by decide)
  have q40_ := hf 40 (by decide)
  have q41_ := hf 41 (by decide)
  have q42_ := hf 42 (by decide)
  have q43_ := hf 43 (by decide)
  have q44_ := hf 44 (by decide)
  have q45_ := hf 45 (by decide)
  have q46_ := hf 46 (by decide)
  have q47_ := hf 47 (by decide)
  have q48_ := hf 48 (by decide)
  have q49_ := hf 49 (by decide)
  have q50_ := hf 50 (by decide)
  have q51_ := hf 51 (by decide)
  have q52_ := hf 52 (by decide)
  have q53_ := hf 53 (by decide)
  have q54_ := hf 54 (by decide)
  have q55_ := hf 55 (by decide)
  have q56_ := hf 56 (by decide)
  have q57_ := hf 57 (by decide)
  have q58_ := hf 58 (by decide)
  have q59_ := hf 59 (by decide)
  have q60_ := hf 60 (by decide)
  have q61_ := hf 61 (by decide)
  have q62_ := hf 62 (by decide)
  have q63_ := hf 63 (by decide)
  have q64_ := hf 64 (by decide)
  have q65_ := hf 65 (by decide)
  have q66_ := hf 66 (by decide)
  have q67_ := hf 67 (by decide)
  have q68_ := hf 68 (by decide)
  have q69_ := hf 69 (by decide)
  have q70_ := hf 70 (by decide)
  have q71_ := hf 71 (by decide)
  have q72_ := hf 72 (by decide)
  have q73_ := hf 73 (by decide)
  have q74_ := hf 74 (by decide)
  have q75_ := hf 75 (by decide)
  have q76_ := hf 76 (by decide)
  have q77_ := hf 77 (by decide)
  have q78_ := hf 78 (by decide)
  have q80_ : FEq (.agg #[.int .i64 f, .bool m, .int .i64 b, .int .i64 u, .slice C ts.length d, .slice A vs.length c]) (ff 80) w13 := hd 0 (by decide)
  unfold FEq at q80_
  have q82_ : FEq (.agg #[.int .i64 s, .int .i64 h]) (ff 82) w13 := hd 2 (by decide)
  unfold FEq at q82_
  have q83_ : FEq (.agg #[.int .i64 s, .int .i64 h]) (ff 83) w13 := hd 3 (by decide)
  unfold FEq at q83_
  have q85_ : FSg w12.heap.size (f9, m9, b9, u9, ts9, vs9) (ff 85) w13 := hd 6 (by decide)
  obtain ⟨CH, AH, dH, cH, midH, hiH, hsH, q85_, oH⟩ := q85_
  rw [q85_] at qv_; injection qv_ with qv_; subst qv_
  have q86_ : FEq (.bool ok9) (ff 86) w13 := hd 7 (by decide)
  unfold FEq at q86_
  have q87_ := hf 87 (by decide)
  have q88_ := hf 88 (by decide)
  have q89_ := hf 89 (by decide)
  have q90_ := hf 90 (by decide)
  have q91_ := hf 91 (by decide)
  have q92_ := hf 92 (by decide)
  have q93_ := hf 93 (by decide)
  have q94_ := hf 94 (by decide)
  have q95_ := hf 95 (by decide)
  have q96_ := hf 96 (by decide)
  have q97_ := hf 97 (by decide)
  have q98_ := hf 98 (by decide)
  have q99_ := hf 99 (by decide)
  have q100_ := hf 100 (by decide)
  have q101_ := hf 101 (by decide)
  have q102_ := hf 102 (by decide)
  have q103_ := hf 103 (by decide)
  simp only [Array.getD_eq_getD_getElem?, List.getElem?_toArray, List.getElem?_cons_zero, List.getElem?_cons_succ, Option.getD_some] at q0_ q1_ q2_ q3_ q4_ q5_ q6_ q7_ q8_ q9_ q10_ q11_ q12_ q13_ q16_ q17_ q18_ q19_ q20_ q21_ q22_ q23_ q24_ q25_ q26_ q27_ q28_ q29_ q30_ q31_ q32_ q33_ q34_ q35_ q36_ q37_ q38_ q39_ q40_ q41_ q42_ q43_ q44_ q45_ q46_ q47_ q48_ q49_ q50_ q51_ q52_ q53_ q54_ q55_ q56_ q57_ q58_ q59_ q60_ q61_ q62_ q63_ q64_ q65_ q66_ q67_ q68_ q69_ q70_ q71_ q72_ q73_ q74_ q75_ q76_ q77_ q78_ q87_ q88_ q89_ q90_ q91_ q92_ q93_ q94_ q95_ q96_ q97_ q98_ q99_ q100_ q101_ q102_ q103_
  rw [q0_, q1_, q2_, q3_, q4_, q5_, q6_, q7_, q8_, q9_, q10_, q11_, q12_, q13_, qx_, q15_, q16_, q17_, q18_, q19_, q20_, q21_, q22_, q23_, q24_, q25_, q26_, q27_, q28_, q29_, q30_, q31_, q32_, q33_, q34_, q35_, q36_, q37_, q38_, q39_, q40_, q41_, q42_, q43_, q44_, q45_, q46_, q47_, q48_, q49_, q50_, q51_, q52_, q53_, q54_, q55_, q56_, q57_, q58_, q59_, q60_, q61_, q62_, q63_, q64_, q65_, q66_, q67_, q68_, q69_, q70_, q71_, q72_, q73_, q74_, q75_, q76_, q77_, q78_, q80_, q82_, q83_, q85_, q86_, q87_, q88_, q89_, q90_, q91_, q92_, q93_, q94_, q95_, q96_, q97_, q98_, q99_, q100_, q101_, q102_, q103_]
  clear q0_ q1_ q2_ q3_ q4_ q5_ q6_ q7_ q8_ q9_ q10_ q11_ q12_ q13_ qx_ q15_ q16_ q17_ q18_ q19_ q20_ q21_ q22_ q23_ q24_ q25_ q26_ q27_ q28_ q29_ q30_ q31_ q32_ q33_ q34_ q35_ q36_ q37_ q38_ q39_ q40_ q41_ q42_ q43_ q44_ q45_ q46_ q47_ q48_ q49_ q50_ q51_ q52_ q53_ q54_ q55_ q56_ q57_ q58_ q59_ q60_ q61_ q62_ q63_ q64_ q65_ q66_ q67_ q68_ q69_ q70_ q71_ q72_ q73_ q74_ q75_ q76_ q77_ q78_ q80_ q82_ q83_ q85_ q86_ q87_ q88_ q89_ q90_ q91_ q92_ q93_ q94_ q95_ q96_ q97_ q98_ q99_ q100_ q101_ q102_ q103_ hf hd
  generalize ff 79 = v79_
  generalize ff 81 = v81_
  generalize ff 84 = v84_
  clear ff
  have b_ : Below _ _ w13 := hJ
  clear hJ
  have z13 := b_.size
  clear c0 c1 c2 c3 c4 c5 i0 i1
  have lgH := kH.lt
  obtain ⟨oS9, hhH⟩ := oH
  dsimp only at oS9 hhH
  have le1H := oS9.le1; have le2H := oS9.le2
  have HH := Lib.hid oS9; clear oS9
  have HBH := Lib.hid kH; clear kH
  replace HK := Lib.hid (HK.out.below b_ (by omega))
  replace HI := Lib.hid (HI.out.below b_ (by omega))
  replace HBW := Lib.hid (HBW.out.below b_ (by omega))
  replace HBG := Lib.hid (HBG.out.below b_ (by omega))
  replace HW := Lib.hid (HW.out.below b_ (by omega))
  replace HG := Lib.hid (HG.out.below b_ (by omega))
  replace HT0 := Lib.hid (RdTempo.below HT0.out b_ (by omega)); replace HV0 := Lib.hid (RdVs.below HV0.out b_ (by omega)); replace HB := Lib.hid (HB.out.trans (b_.mono (by omega)))
  clear b_
  have y0 : w13.cell? ⟨gH, 0, none⟩ = some (.int .i64 f9) := HBH.out.cell 0
  have y1 : w13.cell? ⟨gH, 1, none⟩ = some (.bool m9) := HBH.out.cell 1
  have y2 : w13.cell? ⟨gH, 2, none⟩ = some (.int .i64 b9) := HBH.out.cell 2
  have y3 : w13.cell? ⟨gH, 3, none⟩ = some (.int .i64 u9) := HBH.out.cell 3
  have y4 : w13.cell? ⟨gH, 4, none⟩ = some (.slice CH ts9.length dH) := HBH.out.cell 4
  have y5 : w13.cell? ⟨gH, 5, none⟩ = some (.slice AH vs9.length cH) := HBH.out.cell 5
  have v0 : w13.cell? ⟨gW, 0, none⟩ = some (.int .i64 f9) := HBW.out.cell 0
  have v1 : w13.cell? ⟨gW, 1, none⟩ = some (.bool m9) := HBW.out.cell 1
  have v2 : w13.cell? ⟨gW, 2, none⟩ = some (.int .i64 b9) := HBW.out.cell 2
  have v3 : w13.cell? ⟨gW, 3, none⟩ = some (.int .i64 u9) := HBW.out.cell 3
  have v4 : w13.cell? ⟨gW, 4, none⟩ = some (.slice CW ts9.length dW) := HBW.out.cell 4
  have v5 : w13.cell? ⟨gW, 5, none⟩ = some (.slice AW vs9.length cW) := HBW.out.cell 5
  go_wp2_with fail
  refine (laws_eqSong f9 m9 b9 u9 _ _ _ _ _ _ _ _ ts9 vs9 _ (HH.out.rdT (by omega)) (HH.out.rdV (by omega)) (HW.out.rdT (by omega)) (HW.out.rdV (by omega)) hlt9 hlv9).mono ?_
  rintro e w14 ⟨rfl, b14⟩
  have z14 := b14.size
  clear y0 y1 y2 y3 y4 y5 v0 v1 v2 v3 v4 v5
  replace HK := Lib.hid (HK.out.below b14 (by omega))
  replace HI := Lib.hid (HI.out.below b14 (by omega))
  replace HBW := Lib.hid (HBW.out.below b14 (by omega))
  replace HBG := Lib.hid (HBG.out.below b14 (by omega))
  replace HBH := Lib.hid (HBH.out.below b14 (by omega))
  replace HW := Lib.hid (HW.out.below b14 (by omega))
  replace HG := Lib.hid (HG.out.below b14 (by omega))
  replace HH := Lib.hid (HH.out.below b14 (by omega))
  replace HT0 := Lib.hid (RdTempo.below HT0.out b14 (by omega)); replace HV0 := Lib.hid (RdVs.below HV0.out b14 (by omega)); replace HB := Lib.hid (HB.out.trans (b14.mono (by omega)))
  clear b14
  have y0 : w14.cell? ⟨gG, 0, none⟩ = some (.int .i64 f9) := HBG.out.cell 0
  have y1 : w14.cell? ⟨gG, 1, none⟩ = some (.bool m9) := HBG.out.cell 1
  have y2 : w14.cell? ⟨gG, 2, none⟩ = some (.int .i64 b9) := HBG.out.cell 2
  have y3 : w14.cell? ⟨gG, 3, none⟩ = some (.int .i64 u9) := HBG.out.cell 3
  have y4 : w14.cell? ⟨gG, 4, none⟩ = some (.slice CG ts9.length dG) := HBG.out.cell 4
  have y5 : w14.cell? ⟨gG, 5, none⟩ = some (.slice AG vs9.length cG) := HBG.out.cell 5
  go_wp2_with fail
  refine (laws_heldSong f9 m9 b9 u9 _ _ _ _ _ vs9 _ 1 _ _ _ _ HG.out (by omega) hlt9 hlv9 (by omega) (by omega)).mono ?_
  rintro e w15 ⟨rfl, b15⟩
  have z15 := b15.size
  clear y0 y1 y2 y3 y4 y5
  replace HK := Lib.hid (HK.out.below b15 (by omega))
  replace HI := Lib.hid (HI.out.below b15 (by omega))
  replace HBW := Lib.hid (HBW.out.below b15 (by omega))
  replace HBG := Lib.hid (HBG.out.below b15 (by omega))
  replace HBH := Lib.hid (HBH.out.below b15 (by omega))
  replace HW := Lib.hid (HW.out.below b15 (by omega))
  replace HG := Lib.hid (HG.out.below b15 (by omega))
  replace HH := Lib.hid (HH.out.below b15 (by omega))
  replace HT0 := Lib.hid (RdTempo.below HT0.out b15 (by omega)); replace HV0 := Lib.hid (RdVs.below HV0.out b15 (by omega)); replace HB := Lib.hid (HB.out.trans (b15.mono (by omega)))
  clear b15
  go_wp2_with fail
  go_ret
  exact ⟨rfl, HB.out⟩
theorem walk (w : World) (f : Int) (m : Bool) (b u : Int) (C A : Option Addr) (d c : Nat) (ts : List (Int × Int)) (vs : List (List Nt)) (hT : RdTempo w w.heap.size C ts) (hV : RdVs w w.heap.size A vs) (m_t : ts.length ≤ maxLen) (m_v : vs.length ≤ maxLen) (m_w : ∀ x ∈ vs, x.length ≤ maxLen) (way0 : Int) (w_way0 : Fits way0) (way1 : Int) (w_way1 : Fits way1) :
    Calls Try.prog 3 #[.agg #[.int .i64 f, .bool m, .int .i64 b, .int .i64 u, .slice C ts.length d, .slice A vs.length c], .agg #[.int .i64 way0, .int .i64 way1]] w (RetB w true) := by
  by_cases l_t : ts.length ≤ 1048576
  case neg =>
    unfold maxLen at m_t
    clear hT hV
    have HB := Lib.hid (((Below.refl w.heap.size w).alloc (Nat.le_refl _) (.cells #[.int .i64 f, .bool m, .int .i64 b, .int .i64 u, .slice C ts.length d, .slice A vs.length c] 27)).alloc (by simp) (.cells #[.int .i64 way0, .int .i64 way1] 29))
    go_enter Try.func3, Try.ntmps3
    go_wp2_with fail
    refine (laws_szSong_no1 _ _ _ _ _ _ _ _ _ _ _ _ (by omega) (by omega) (by omega)).mono ?_; rintro e w1 ⟨rfl, b1⟩
    replace HB := Lib.hid (HB.out.trans (b1.mono HB.out.size)); clear b1
    go_wp2_with fail
    go_ret
    exact ⟨rfl, HB.out⟩
  by_cases h_2 : ts.length + vs.length + totV vs ≤ 1048576
  case neg =>
    have HB := Lib.hid (((Below.refl w.heap.size w).alloc (Nat.le_refl _) (.cells #[.int .i64 f, .bool m, .int .i64 b, .int .i64 u, .slice C ts.length d, .slice A vs.length c] 27)).alloc (by simp) (.cells #[.int .i64 way0, .int .i64 way1] 29))
    have HV := Lib.hid (RdVs.more (RdVs.below hV HB.out (Nat.le_refl _)) HB.out.size)
    have HM := Lib.hid m_v; have HW := Lib.hid m_w
    clear hT hV m_v m_w
    go_enter Try.func3, Try.ntmps3
    go_wp2_with fail
    refine (laws_szSong_no2 _ _ _ _ _ _ _ _ _ vs _ HV.out _ (by omega) (by omega) (by omega) (by omega) HM.out HW.out).mono ?_; rintro e w1 ⟨rfl, b1⟩
    replace HB := Lib.hid (HB.out.trans (b1.mono HB.out.size)); clear b1
    go_wp2_with fail
    go_ret
    exact ⟨rfl, HB.out⟩
  exact core f m b u C A d c ts vs way0 way1 w hT hV h_2

set_option maxRecDepth 100000 in
theorem lifted (os : Os) (started : os.Started) (H : Type) (enc : TypeId × Value → H) :
    ReturnsInHanded {} Try.checked os 3 .any (Rows.fnExactSongShiftSpec.pre6 enc Try.prog Try.f3 Rows.fnExactSongShiftRow.domain false) (Rows.fnExactSongShiftSpec.post enc Try.prog Try.f3 false true false false) := by
  refine returnsInHanded_of_change (C := Try.checked) own started (by kernel_rfl) Try.func3
    (ChangeSpec.witness6 (enc := enc) (C := Try.checked) false ⟨#[], #[.agg #[.int .i64 0, .bool false, .int .i64 0, .int .i64 0, .slice none 0 0, .slice none 0 0], .agg #[.int .i64 0, .int .i64 0]], []⟩ 8 (by kernel_rfl) (by kernel_rfl) (by kernel_rfl) (by kernel_rfl)) ?_
  intro W base args ds gs before hval0 hW hcnd _
  have hval : ∀ (j : Nat) t v, Try.f3.params[j]? = some t → args[j]? = some v → Value.okWide Try.prog W .any base t v := hval0
  have hW' := hW
  obtain ⟨p, q, hA0, hV, rfl, hfz, hnd⟩ := hW
  have hA : DataW.TrodAll enc Try.prog W 0 (fun _ => true) true Try.f3.params.toList args.toList ds p := hA0
  rw [Try.params3] at hA hval
  obtain ⟨v0, vs0, d0, ds0, p0, q0, hargs, rfl, rfl, h0, r0⟩ := trodAll_cons hA
  obtain ⟨v1, vs1, d1, ds1, p1, q1, rfl, rfl, rfl, h1, r1⟩ := trodAll_cons r0
  obtain ⟨rfl, rfl, rfl⟩ := trodAll_nil r1
  obtain rfl : args = #[v0, v1] := by cases args; simp_all
  obtain ⟨rfl, rfl⟩ := trodVars_none hV
  have k0 := h0
  have lt0 : ∀ x ∈ p0, x.block < W.heap.size := by obtain ⟨m, hm⟩ := k0; exact DataW.trod_lt m _ _ _ hm
  obtain ⟨f, m, b, u, C, A, d, c, ts, vs, rfl, hT, hV, m_t, m_v, m_w⟩ := open_song (hval 0 27 v0 rfl rfl) h0
  have k1 := h1
  have lt1 : ∀ x ∈ p1, x.block < W.heap.size := by obtain ⟨m, hm⟩ := k1; exact DataW.trod_lt m _ _ _ hm
  obtain ⟨u1_0, u1_1, y1_0, y1_1, g1, rfl, _, _, hy1_0, hy1_1⟩ := Go.Joins.open_agg2 Try.underlying29 (by kernel_rfl) (by kernel_rfl) (hval 1 29 v1 rfl rfl) h1
  obtain ⟨way0, e1_0, _, wf_way0⟩ := DataW.trod_int Try.underlying3 hy1_0
  simp only [List.cons.injEq, and_true] at e1_0; subst e1_0
  have w_way0 : Fits way0 := bounds_i64 wf_way0
  obtain ⟨way1, e1_1, _, wf_way1⟩ := DataW.trod_int Try.underlying3 hy1_1
  simp only [List.cons.injEq, and_true] at e1_1; subst e1_1
  have w_way1 : Fits way1 := bounds_i64 wf_way1
  clear hA0 hval0
  refine (walk W f m b u C A d c ts vs hT hV m_t m_v m_w way0 w_way0 way1 w_way1).mono fun e W' hwk => ?_
  obtain ⟨he, bel⟩ := hwk
  subst he
  exact ⟨_, rfl, _, _, _, [], _, [], hW', trodAll_mk1 (shut_bool Try.underlying4 _), (trodAll_cons_mk (Below.trod laidOut (by kernel_rfl) (of_decide_eq_true (by kernel_rfl)) k0 bel lt0) (trodAll_cons_mk (Below.trod laidOut (by kernel_rfl) (of_decide_eq_true (by kernel_rfl)) k1 bel lt1) trodAll_mk0)), rfl, bel.frame _, fun h => by cases h⟩

theorem over : Rows.fnExactSongShiftRow.holds Try.pinned (OpenSpec.ofChange Rows.fnExactSongShiftSpec) :=
  OpenClaim.holds_of_wide 3 Try.f3 rfl rfl rfl rfl rfl rfl rfl ⟨rfl, rfl, rfl, rfl, rfl⟩ rfl rfl rfl rfl rfl (by kernel_rfl) Try.func3 (by kernel_rfl)
    (of_decide_eq_true (by kernel_rfl)) (by unfold Func.isWrapper; first | (rw [if_pos (by decide +kernel)]; kernel_rfl) | (rw [if_neg (by decide +kernel)]; exact ⟨rfl, rfl⟩))
    (fun os started H enc _ => lifted os started H enc)

/-- The statement. -/
theorem proved : Rows.FnExactSongShiftSaid := over
#print axioms proved
end Go.Proofs.Ytgoknmnmckoniaa.fnExactSongShift
