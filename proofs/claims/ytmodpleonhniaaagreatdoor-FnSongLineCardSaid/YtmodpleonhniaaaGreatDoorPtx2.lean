/- The contract of the program's PitchText. No condition. -/
import Derived.Test.YtmodpleonhniaaaGreatDoorPtx
import Derived.Test.YtmodpleonhniaaaGreatDoorInv
import Derived.Test.YtmodpleonhniaaaGreatDoorShelf
namespace Go.Proofs.YtmodpleonhniaaaGreatDoor
open Go.RowKit
set_option linter.unusedSimpArgs false
set_option linter.unusedVariables false
set_option maxRecDepth 100000
theorem rep_list (x : UInt8) : ∀ n, Lib.repeatL [x] n = List.replicate n x
  | 0 => rfl
  | n + 1 => by rw [Lib.repeatL, rep_list x n]; rfl
theorem rep_post (x : UInt8) (n : Nat) (w : World) (hn : n ≤ 1000) : Calls Tryz.prog 101 #[.string (stV [x]), .int .i64 n] w fun e w' => ∃ v, e = .returned v ∧ FEq (.string (stV (List.replicate n x))) v w' ∧ Below w.heap.size w w' := by
  refine (Tryz.strings_Repeat (stV [x]) n w (by omega) (by rw [stV_size]; simp; omega)).mono ?_
  rintro e w' ⟨rfl, hb⟩
  refine ⟨_, rfl, ?_, hb⟩
  show (Value.string _) = _
  rw [show (stV [x]).data.toList = [x] from rfl, rep_list]; rfl
set_option maxHeartbeats 2000000 in
theorem impl_PitchText (s a o : Int) (w : World) : Calls Tryz.prog 80 #[.agg #[.int .i64 s, .int .i64 a, .int .i64 o]] w (RetS w (ptL s a o)) := by
  have HK := Lib.hid (Blk.new w 57 #[.int .i64 s, .int .i64 a, .int .i64 o])
  have HB := Lib.hid ((Below.refl w.heap.size w).alloc (Nat.le_refl _) (.cells #[.int .i64 s, .int .i64 a, .int .i64 o] 57))
  have z0 : w.heap.size + 1 ≤ (w.alloc (.cells #[.int .i64 s, .int .i64 a, .int .i64 o] 57)).heap.size := by simp
  cases hv : pvB s a o
  · have HF : Hid (ptL s a o = []) := Lib.hid (if_neg (by rw [hv]; simp))
    have HV := Lib.hid hv; clear hv
    go_enter Tryz.func80, Tryz.ntmps80
    go_upto_region 1 with fail
    generalize w.alloc (.cells #[.int .i64 s, .int .i64 a, .int .i64 o] 57) = w0 at *
    have p0 := HK.out.cell 0; have p1 := HK.out.cell 1; have p2 := HK.out.cell 2
    go_wp2_with fail
    refine (impl_PitchValid s a o _).mono ?_
    rw [HV.out]
    rintro e w1 ⟨rfl, b1⟩
    have HB2 := Lib.hid (HB.out.trans (b1.mono (by omega))); clear b1
    go_wp2_with fail
    go_ret
    exact ⟨ret_st (by rw [HF.out]; rfl), HB2.out⟩
  · have hp := pvB_iff.1 hv
    have HF : Hid (ptL s a o = [letL s] ++ List.replicate a.toNat 35 ++ List.replicate (-a).toNat 98 ++ [dgt o.toNat]) := Lib.hid (if_pos hv)
    have HV := Lib.hid hv; clear hv
    go_enter Tryz.func80, Tryz.ntmps80
    go_upto_region 1 with fail
    generalize w.alloc (.cells #[.int .i64 s, .int .i64 a, .int .i64 o] 57) = w0 at *
    have p0 := HK.out.cell 0; have p1 := HK.out.cell 1; have p2 := HK.out.cell 2
    go_wp2_with fail
    refine (impl_PitchValid s a o _).mono ?_
    rw [HV.out]
    rintro e w1 ⟨rfl, b1⟩
    have z1 := b1.size
    clear p0 p1 p2
    replace HK := Lib.hid (HK.out.below b1 (by omega)); replace HB := Lib.hid (HB.out.trans (b1.mono (by omega))); clear b1
    have e0 := HK.out.cell 0; have e1 := HK.out.cell 1; have e2 := HK.out.cell 2
    have hx := let_ex hp.1
    have hpa := hp.2.1; have hpo := hp.2.2; have hps := hp.1.1; have hps2 := hp.1.2
    have hws : IntKind.i64.wrap (s + 1) = s + 1 := IntWalk.i64_in _ (by omega)
    have hwo : IntKind.i64.wrap (48 + o) = 48 + o := IntWalk.i64_in _ (by omega)
    have hs1 : s ≤ s + 1 := by omega
    have hs3 : 0 ≤ s + 1 := by omega
    have hs2 : s + 1 ≤ 7 := by omega
    have hmx1 : (if (0 : Int) < a then a else 0) = ((a.toNat : Nat) : Int) := by split <;> omega
    have hmx2 : (if (0 : Int) < -a then -a else 0) = (((-a).toNat : Nat) : Int) := by split <;> omega
    have hz1 : a.toNat ≤ 4 := by omega
    have hz2 : (-a).toNat ≤ 4 := by omega
    have hw32 : IntKind.i32.wrap (48 + o) = 48 + o := by
      rcases (show o = 0 ∨ o = 1 ∨ o = 2 ∨ o = 3 ∨ o = 4 ∨ o = 5 ∨ o = 6 ∨ o = 7 ∨ o = 8 by omega) with rfl | rfl | rfl | rfl | rfl | rfl | rfl | rfl | rfl <;> rfl
    have hrune : Utf8.encode (48 + o) = stV [dgt o.toNat] := by
      rcases (show o = 0 ∨ o = 1 ∨ o = 2 ∨ o = 3 ∨ o = 4 ∨ o = 5 ∨ o = 6 ∨ o = 7 ∨ o = 8 by omega) with rfl | rfl | rfl | rfl | rfl | rfl | rfl | rfl | rfl <;> rfl
    clear hp
    go_upto_region 3 with fail
    refine regionL_draws rfl 29 [some 6, some 7, some 8, some 9, some 10, some 11, some 12, some 13, some 14, some 15, some 16, some 17, some 18, some 19, some 20, some 21, some 22, some 23, some 24, some 25, some 26, some 27, some 28, some 2]
      [FEq (.pointer (some ⟨w.heap.size, 0, none⟩)), FEq (.int .i64 (s)), FEq (.pointer (some ⟨w.heap.size, 0, none⟩)), FEq (.int .i64 (s)), FEq (.int .i64 (s + 1)), FEq (.string (stV ([letL s]))), FEq (.pointer (some ⟨w.heap.size, 1, none⟩)), FEq (.int .i64 (a)), FEq (.int .i64 (((a.toNat : Nat) : Int))), FEq (.string (stV (List.replicate a.toNat 35))), FEq (.string (stV ([letL s] ++ List.replicate a.toNat 35))), FEq (.pointer (some ⟨w.heap.size, 1, none⟩)), FEq (.int .i64 (a)), FEq (.int .i64 (-(a))), FEq (.int .i64 ((((-a).toNat : Nat) : Int))), FEq (.string (stV (List.replicate (-a).toNat 98))), FEq (.string (stV ([letL s] ++ List.replicate a.toNat 35 ++ List.replicate (-a).toNat 98))), FEq (.pointer (some ⟨w.heap.size, 2, none⟩)), FEq (.int .i64 (o)), FEq (.int .i64 (48 + o)), FEq (.int .i32 (48 + o)), FEq (.string (stV ([dgt o.toNat]))), FEq (.string (stV ([letL s] ++ List.replicate a.toNat 35 ++ List.replicate (-a).toNat 98 ++ [dgt o.toNat]))), FEq (.string (stV ([letL s] ++ List.replicate a.toNat 35 ++ List.replicate (-a).toNat 98 ++ [dgt o.toNat])))] (by kernel_rfl) (by kernel_rfl) ?_ ?_ ?_
    · exact stayLs_cons stayL_eq (stayLs_cons stayL_eq (stayLs_cons stayL_eq (stayLs_cons stayL_eq (stayLs_cons stayL_eq (stayLs_cons stayL_eq (stayLs_cons stayL_eq (stayLs_cons stayL_eq (stayLs_cons stayL_eq (stayLs_cons stayL_eq (stayLs_cons stayL_eq (stayLs_cons stayL_eq (stayLs_cons stayL_eq (stayLs_cons stayL_eq (stayLs_cons stayL_eq (stayLs_cons stayL_eq (stayLs_cons stayL_eq (stayLs_cons stayL_eq (stayLs_cons stayL_eq (stayLs_cons stayL_eq (stayLs_cons stayL_eq (stayLs_cons stayL_eq (stayLs_cons stayL_eq (stayLs_cons stayL_eq stayLs_nil)))))))))))))))))))))))
    · refine AllI.cons ?_ (AllI.cons ?_ (AllI.cons ?_ (AllI.cons ?_ (AllI.cons ?_ (AllI.cons ?_ (AllI.cons ?_ (AllI.cons ?_ (AllI.cons ?_ (AllI.cons ?_ (AllI.cons ?_ (AllI.cons ?_ (AllI.cons ?_ (AllI.cons ?_ (AllI.cons ?_ (AllI.cons ?_ (AllI.cons ?_ (AllI.cons ?_ (AllI.cons ?_ (AllI.cons ?_ (AllI.cons ?_ (AllI.cons ?_ (AllI.cons ?_ (AllI.cons ?_ trivial)))))))))))))))))))))))
      · intro kk bb ff ww hkk hf hd hp hq hJ
        refine .inl ⟨wanted_none rfl, ?_⟩
        have q1 : FEq (.pointer (some ⟨w.heap.size, 0, none⟩)) (ff 1) ww := (hf 1 (by decide)).trans rfl
        unfold FEq at q1
        refine sl_val (.pointer (some ⟨w.heap.size, 0, none⟩)) hJ ?_ rfl
        simp only [execOp, ev_tmp _ _ (show 1 < 29 by decide), ev_const, q1]
        simp [go_sem]
      · intro kk bb ff ww hkk hf hd hp hq hJ
        refine .inl ⟨wanted_none rfl, ?_⟩
        obtain ⟨p0, -⟩ := hd
        have q6 : FEq (.pointer (some ⟨w.heap.size, 0, none⟩)) (ff 6) ww := p0 rfl
        unfold FEq at q6
        have c0 : ww.cell? ⟨w.heap.size, 0, none⟩ = some (.int .i64 s) := (hJ.cell (p := ⟨w.heap.size, 0, none⟩) (show w.heap.size < _ by omega)).trans e0
        refine sl_val (.int .i64 s) hJ ?_ rfl
        simp only [execOp, ev_tmp _ _ (show 6 < 29 by decide), ev_const, q6]
        simp [go_sem, c0]
      · intro kk bb ff ww hkk hf hd hp hq hJ
        refine .inl ⟨wanted_none rfl, ?_⟩
        have q1 : FEq (.pointer (some ⟨w.heap.size, 0, none⟩)) (ff 1) ww := (hf 1 (by decide)).trans rfl
        unfold FEq at q1
        refine sl_val (.pointer (some ⟨w.heap.size, 0, none⟩)) hJ ?_ rfl
        simp only [execOp, ev_tmp _ _ (show 1 < 29 by decide), ev_const, q1]
        simp [go_sem]
      · intro kk bb ff ww hkk hf hd hp hq hJ
        refine .inl ⟨wanted_none rfl, ?_⟩
        obtain ⟨p0, -⟩ := hd
        have q8 : FEq (.pointer (some ⟨w.heap.size, 0, none⟩)) (ff 8) ww := p0 rfl
        unfold FEq at q8
        have c0 : ww.cell? ⟨w.heap.size, 0, none⟩ = some (.int .i64 s) := (hJ.cell (p := ⟨w.heap.size, 0, none⟩) (show w.heap.size < _ by omega)).trans e0
        refine sl_val (.int .i64 s) hJ ?_ rfl
        simp only [execOp, ev_tmp _ _ (show 8 < 29 by decide), ev_const, q8]
        simp [go_sem, c0]
      · intro kk bb ff ww hkk hf hd hp hq hJ
        refine .inl ⟨wanted_none rfl, ?_⟩
        obtain ⟨p0, -⟩ := hd
        have q9 : FEq (.int .i64 (s)) (ff 9) ww := p0 rfl
        unfold FEq at q9
        refine sl_val (.int .i64 (s + 1)) hJ ?_ rfl
        simp only [execOp, ev_tmp _ _ (show 9 < 29 by decide), ev_const, q9]
        simp [go_sem, hws]
      · intro kk bb ff ww hkk hf hd hp hq hJ
        refine .inl ⟨wanted_none rfl, ?_⟩
        obtain ⟨p0, p1, -⟩ := hd
        have q7 : FEq (.int .i64 (s)) (ff 7) ww := p0 rfl
        unfold FEq at q7
        have q10 : FEq (.int .i64 (s + 1)) (ff 10) ww := p1 rfl
        unfold FEq at q10
        refine sl_val (.string (stV ([letL s]))) hJ ?_ rfl
        simp only [execOp, ev_tmp _ _ (show 7 < 29 by decide), ev_tmp _ _ (show 10 < 29 by decide), ev_const, q7, q10, Option.map_some, Option.map_none]
        simp [go_sem, hx, hs1, hs2, hs3, hps]
      · intro kk bb ff ww hkk hf hd hp hq hJ
        refine .inl ⟨wanted_none rfl, ?_⟩
        have q1 : FEq (.pointer (some ⟨w.heap.size, 0, none⟩)) (ff 1) ww := (hf 1 (by decide)).trans rfl
        unfold FEq at q1
        refine sl_val (.pointer (some ⟨w.heap.size, 1, none⟩)) hJ ?_ rfl
        simp only [execOp, ev_tmp _ _ (show 1 < 29 by decide), ev_const, q1]
        simp [go_sem]
      · intro kk bb ff ww hkk hf hd hp hq hJ
        refine .inl ⟨wanted_none rfl, ?_⟩
        obtain ⟨p0, -⟩ := hd
        have q12 : FEq (.pointer (some ⟨w.heap.size, 1, none⟩)) (ff 12) ww := p0 rfl
        unfold FEq at q12
        have c1 : ww.cell? ⟨w.heap.size, 1, none⟩ = some (.int .i64 a) := (hJ.cell (p := ⟨w.heap.size, 1, none⟩) (show w.heap.size < _ by omega)).trans e1
        refine sl_val (.int .i64 a) hJ ?_ rfl
        simp only [execOp, ev_tmp _ _ (show 12 < 29 by decide), ev_const, q12]
        simp [go_sem, c1]
      · intro kk bb ff ww hkk hf hd hp hq hJ
        refine .inl ⟨wanted_none rfl, ?_⟩
        obtain ⟨p0, -⟩ := hd
        have q13 : FEq (.int .i64 (a)) (ff 13) ww := p0 rfl
        unfold FEq at q13
        refine sl_val (.int .i64 (((a.toNat : Nat) : Int))) hJ ?_ rfl
        simp only [execOp, ev_tmp _ _ (show 13 < 29 by decide), ev_const, q13, List.map_toArray, List.map_cons, List.map_nil, resolve]
        simp [go_sem, hmx1]
        exact Int.max_comm _ _
      · intro kk bb ff ww hkk hf hd hp hq hJ
        refine .inl ⟨wanted_none rfl, ?_⟩
        obtain ⟨p0, -⟩ := hd
        have q14 : FEq (.int .i64 (((a.toNat : Nat) : Int))) (ff 14) ww := p0 rfl
        unfold FEq at q14
        refine sl_enter 101 #[.string (stV [35]), .int .i64 (((a.toNat : Nat) : Int))] hJ ?_ ?_
        · simp only [execOp, ev_tmp _ _ (show 14 < 29 by decide), ev_const, q14, ev_func, resolve, List.map_toArray, List.map_cons, List.map_nil]
          simp [go_sem, stV]
        · exact rep_post 35 a.toNat ww (by omega)
      · intro kk bb ff ww hkk hf hd hp hq hJ
        refine .inl ⟨wanted_none rfl, ?_⟩
        obtain ⟨p0, p1, -⟩ := hd
        have q11 : FEq (.string (stV ([letL s]))) (ff 11) ww := p0 rfl
        unfold FEq at q11
        have q15 : FEq (.string (stV (List.replicate a.toNat 35))) (ff 15) ww := p1 rfl
        unfold FEq at q15
        refine sl_val (.string (stV ([letL s] ++ List.replicate a.toNat 35))) hJ ?_ rfl
        simp only [execOp, ev_tmp _ _ (show 11 < 29 by decide), ev_tmp _ _ (show 15 < 29 by decide), ev_const, q11, q15]
        simp [go_sem, stV_app, stV_size]
        omega
      · intro kk bb ff ww hkk hf hd hp hq hJ
        refine .inl ⟨wanted_none rfl, ?_⟩
        have q1 : FEq (.pointer (some ⟨w.heap.size, 0, none⟩)) (ff 1) ww := (hf 1 (by decide)).trans rfl
        unfold FEq at q1
        refine sl_val (.pointer (some ⟨w.heap.size, 1, none⟩)) hJ ?_ rfl
        simp only [execOp, ev_tmp _ _ (show 1 < 29 by decide), ev_const, q1]
        simp [go_sem]
      · intro kk bb ff ww hkk hf hd hp hq hJ
        refine .inl ⟨wanted_none rfl, ?_⟩
        obtain ⟨p0, -⟩ := hd
        have q17 : FEq (.pointer (some ⟨w.heap.size, 1, none⟩)) (ff 17) ww := p0 rfl
        unfold FEq at q17
        have c1 : ww.cell? ⟨w.heap.size, 1, none⟩ = some (.int .i64 a) := (hJ.cell (p := ⟨w.heap.size, 1, none⟩) (show w.heap.size < _ by omega)).trans e1
        refine sl_val (.int .i64 a) hJ ?_ rfl
        simp only [execOp, ev_tmp _ _ (show 17 < 29 by decide), ev_const, q17]
        simp [go_sem, c1]
      · intro kk bb ff ww hkk hf hd hp hq hJ
        refine .inl ⟨wanted_none rfl, ?_⟩
        obtain ⟨p0, -⟩ := hd
        have q18 : FEq (.int .i64 (a)) (ff 18) ww := p0 rfl
        unfold FEq at q18
        have hwr : IntKind.i64.wrap (-(a)) = -(a) := IntWalk.i64_in _ (by omega)
        refine sl_val (.int .i64 (-(a))) hJ ?_ rfl
        simp only [execOp, ev_tmp _ _ (show 18 < 29 by decide), ev_const, q18]
        simp [go_sem, hwr]
      · intro kk bb ff ww hkk hf hd hp hq hJ
        refine .inl ⟨wanted_none rfl, ?_⟩
        obtain ⟨p0, -⟩ := hd
        have q19 : FEq (.int .i64 (-(a))) (ff 19) ww := p0 rfl
        unfold FEq at q19
        refine sl_val (.int .i64 ((((-a).toNat : Nat) : Int))) hJ ?_ rfl
        simp only [execOp, ev_tmp _ _ (show 19 < 29 by decide), ev_const, q19, List.map_toArray, List.map_cons, List.map_nil, resolve]
        simp [go_sem, hmx2]
        exact Int.max_comm _ _
      · intro kk bb ff ww hkk hf hd hp hq hJ
        refine .inl ⟨wanted_none rfl, ?_⟩
        obtain ⟨p0, p1, -⟩ := hd
        have q20 : FEq (.int .i64 ((((-a).toNat : Nat) : Int))) (ff 20) ww := p0 rfl
        unfold FEq at q20
        refine sl_enter 101 #[.string (stV [98]), .int .i64 ((((-a).toNat : Nat) : Int))] hJ ?_ ?_
        · simp only [execOp, ev_tmp _ _ (show 20 < 29 by decide), ev_const, q20, ev_func, resolve, List.map_toArray, List.map_cons, List.map_nil]
          simp [go_sem, stV]
        · exact rep_post 98 (-a).toNat ww (by omega)
      · intro kk bb ff ww hkk hf hd hp hq hJ
        refine .inl ⟨wanted_none rfl, ?_⟩
        obtain ⟨p0, p1, -⟩ := hd
        have q16 : FEq (.string (stV ([letL s] ++ List.replicate a.toNat 35))) (ff 16) ww := p0 rfl
        unfold FEq at q16
        have q21 : FEq (.string (stV (List.replicate (-a).toNat 98))) (ff 21) ww := p1 rfl
        unfold FEq at q21
        refine sl_val (.string (stV ([letL s] ++ List.replicate a.toNat 35 ++ List.replicate (-a).toNat 98))) hJ ?_ rfl
        simp only [execOp, ev_tmp _ _ (show 16 < 29 by decide), ev_tmp _ _ (show 21 < 29 by decide), ev_const, q16, q21]
        simp [go_sem, stV_app, stV_size]
        omega
      · intro kk bb ff ww hkk hf hd hp hq hJ
        refine .inl ⟨wanted_none rfl, ?_⟩
        have q1 : FEq (.pointer (some ⟨w.heap.size, 0, none⟩)) (ff 1) ww := (hf 1 (by decide)).trans rfl
        unfold FEq at q1
        refine sl_val (.pointer (some ⟨w.heap.size, 2, none⟩)) hJ ?_ rfl
        simp only [execOp, ev_tmp _ _ (show 1 < 29 by decide), ev_const, q1]
        simp [go_sem]
      · intro kk bb ff ww hkk hf hd hp hq hJ
        refine .inl ⟨wanted_none rfl, ?_⟩
        obtain ⟨p0, -⟩ := hd
        have q23 : FEq (.pointer (some ⟨w.heap.size, 2, none⟩)) (ff 23) ww := p0 rfl
        unfold FEq at q23
        have c2 : ww.cell? ⟨w.heap.size, 2, none⟩ = some (.int .i64 o) := (hJ.cell (p := ⟨w.heap.size, 2, none⟩) (show w.heap.size < _ by omega)).trans e2
        refine sl_val (.int .i64 o) hJ ?_ rfl
        simp only [execOp, ev_tmp _ _ (show 23 < 29 by decide), ev_const, q23]
        simp [go_sem, c2]
      · intro kk bb ff ww hkk hf hd hp hq hJ
        refine .inl ⟨wanted_none rfl, ?_⟩
        obtain ⟨p0, -⟩ := hd
        have q24 : FEq (.int .i64 (o)) (ff 24) ww := p0 rfl
        unfold FEq at q24
        refine sl_val (.int .i64 (48 + o)) hJ ?_ rfl
        simp only [execOp, ev_tmp _ _ (show 24 < 29 by decide), ev_const, q24]
        simp [go_sem, hwo]
      · intro kk bb ff ww hkk hf hd hp hq hJ
        refine .inl ⟨wanted_none rfl, ?_⟩
        obtain ⟨p0, -⟩ := hd
        have q25 : FEq (.int .i64 (48 + o)) (ff 25) ww := p0 rfl
        unfold FEq at q25
        refine sl_val (.int .i32 (48 + o)) hJ ?_ rfl
        simp only [execOp, ev_tmp _ _ (show 25 < 29 by decide), ev_const, q25]
        simp [go_sem, hw32]
      · intro kk bb ff ww hkk hf hd hp hq hJ
        refine .inl ⟨wanted_none rfl, ?_⟩
        obtain ⟨p0, -⟩ := hd
        have q26 : FEq (.int .i32 (48 + o)) (ff 26) ww := p0 rfl
        unfold FEq at q26
        refine sl_val (.string (stV ([dgt o.toNat]))) hJ ?_ rfl
        simp only [execOp, ev_tmp _ _ (show 26 < 29 by decide), ev_const, q26]
        simp [go_sem, hrune]
      · intro kk bb ff ww hkk hf hd hp hq hJ
        refine .inl ⟨wanted_none rfl, ?_⟩
        obtain ⟨p0, p1, -⟩ := hd
        have q22 : FEq (.string (stV ([letL s] ++ List.replicate a.toNat 35 ++ List.replicate (-a).toNat 98))) (ff 22) ww := p0 rfl
        unfold FEq at q22
        have q27 : FEq (.string (stV ([dgt o.toNat]))) (ff 27) ww := p1 rfl
        unfold FEq at q27
        refine sl_val (.string (stV ([letL s] ++ List.replicate a.toNat 35 ++ List.replicate (-a).toNat 98 ++ [dgt o.toNat]))) hJ ?_ rfl
        simp only [execOp, ev_tmp _ _ (show 22 < 29 by decide), ev_tmp _ _ (show 27 < 29 by decide), ev_const, q22, q27]
        simp [go_sem, stV_app, stV_size]
        omega
      · intro kk bb ff ww hkk hf hd hp hq hJ
        refine .inl ⟨wanted_none rfl, ?_⟩
        obtain ⟨p0, p1, p2, p3, p4, p5, p6, p7, p8, p9, p10, p11, p12, p13, p14, p15, p16, p17, p18, p19, p20, p21, p22, p23, p24, -⟩ := hd
        have q : FEq (.string (stV ([letL s] ++ List.replicate a.toNat 35 ++ List.replicate (-a).toNat 98 ++ [dgt o.toNat]))) (ff 28) ww := p0 rfl
        exact sl_val (ff 28) hJ (by simp only [execOp, ev_tmp _ _ (show 28 < 29 by decide)]; rfl) q
    intro ff w2 hf hd hJ
    have hfr : fr 29 ff = #[ff 0, ff 1, ff 2, ff 3, ff 4, ff 5, ff 6, ff 7, ff 8, ff 9, ff 10, ff 11, ff 12, ff 13, ff 14, ff 15, ff 16, ff 17, ff 18, ff 19, ff 20, ff 21, ff 22, ff 23, ff 24, ff 25, ff 26, ff 27, ff 28] := rfl
    rw [hfr]; clear hfr
    dsimp only
    have q0_ := hf 0 (by decide)
    have q1_ := hf 1 (by decide)
    have q2_ : FEq (.string (stV ([letL s] ++ List.replicate a.toNat 35 ++ List.replicate (-a).toNat 98 ++ [dgt o.toNat]))) (ff 2) w2 := hd 23 (by decide)
    unfold FEq at q2_
    have q3_ := hf 3 (by decide)
    have q4_ := hf 4 (by decide)
    have q5_ := hf 5 (by decide)
    have q6_ : FEq (.pointer (some ⟨w.heap.size, 0, none⟩)) (ff 6) w2 := hd 0 (by decide)
    unfold FEq at q6_
    have q7_ : FEq (.int .i64 (s)) (ff 7) w2 := hd 1 (by decide)
    unfold FEq at q7_
    have q8_ : FEq (.pointer (some ⟨w.heap.size, 0, none⟩)) (ff 8) w2 := hd 2 (by decide)
    unfold FEq at q8_
    have q9_ : FEq (.int .i64 (s)) (ff 9) w2 := hd 3 (by decide)
    unfold FEq at q9_
    have q10_ : FEq (.int .i64 (s + 1)) (ff 10) w2 := hd 4 (by decide)
    unfold FEq at q10_
    have q11_ : FEq (.string (stV ([letL s]))) (ff 11) w2 := hd 5 (by decide)
    unfold FEq at q11_
    have q12_ : FEq (.pointer (some ⟨w.heap.size, 1, none⟩)) (ff 12) w2 := hd 6 (by decide)
    unfold FEq at q12_
    have q13_ : FEq (.int .i64 (a)) (ff 13) w2 := hd 7 (by decide)
    unfold FEq at q13_
    have q14_ : FEq (.int .i64 (((a.toNat : Nat) : Int))) (ff 14) w2 := hd 8 (by decide)
    unfold FEq at q14_
    have q15_ : FEq (.string (stV (List.replicate a.toNat 35))) (ff 15) w2 := hd 9 (by decide)
    unfold FEq at q15_
    have q16_ : FEq (.string (stV ([letL s] ++ List.replicate a.toNat 35))) (ff 16) w2 := hd 10 (by decide)
    unfold FEq at q16_
    have q17_ : FEq (.pointer (some ⟨w.heap.size, 1, none⟩)) (ff 17) w2 := hd 11 (by decide)
    unfold FEq at q17_
    have q18_ : FEq (.int .i64 (a)) (ff 18) w2 := hd 12 (by decide)
    unfold FEq at q18_
    have q19_ : FEq (.int .i64 (-(a))) (ff 19) w2 := hd 13 (by decide)
    unfold FEq at q19_
    have q20_ : FEq (.int .i64 ((((-a).toNat : Nat) : Int))) (ff 20) w2 := hd 14 (by decide)
    unfold FEq at q20_
    have q21_ : FEq (.string (stV (List.replicate (-a).toNat 98))) (ff 21) w2 := hd 15 (by decide)
    unfold FEq at q21_
    have q22_ : FEq (.string (stV ([letL s] ++ List.replicate a.toNat 35 ++ List.replicate (-a).toNat 98))) (ff 22) w2 := hd 16 (by decide)
    unfold FEq at q22_
    have q23_ : FEq (.pointer (some ⟨w.heap.size, 2, none⟩)) (ff 23) w2 := hd 17 (by decide)
    unfold FEq at q23_
    have q24_ : FEq (.int .i64 (o)) (ff 24) w2 := hd 18 (by decide)
    unfold FEq at q24_
    have q25_ : FEq (.int .i64 (48 + o)) (ff 25) w2 := hd 19 (by decide)
    unfold FEq at q25_
    have q26_ : FEq (.int .i32 (48 + o)) (ff 26) w2 := hd 20 (by decide)
    unfold FEq at q26_
    have q27_ : FEq (.string (stV ([dgt o.toNat]))) (ff 27) w2 := hd 21 (by decide)
    unfold FEq at q27_
    have q28_ : FEq (.string (stV ([letL s] ++ List.replicate a.toNat 35 ++ List.replicate (-a).toNat 98 ++ [dgt o.toNat]))) (ff 28) w2 := hd 22 (by decide)
    unfold FEq at q28_
    simp only [Array.getD_eq_getD_getElem?, List.getElem?_toArray, List.getElem?_cons_zero, List.getElem?_cons_succ, Option.getD_some] at q0_ q1_ q3_ q4_ q5_
    rw [q0_, q1_, q2_, q3_, q4_, q5_, q6_, q7_, q8_, q9_, q10_, q11_, q12_, q13_, q14_, q15_, q16_, q17_, q18_, q19_, q20_, q21_, q22_, q23_, q24_, q25_, q26_, q27_, q28_]
    clear q0_ q1_ q2_ q3_ q4_ q5_ q6_ q7_ q8_ q9_ q10_ q11_ q12_ q13_ q14_ q15_ q16_ q17_ q18_ q19_ q20_ q21_ q22_ q23_ q24_ q25_ q26_ q27_ q28_ hf hd
    clear ff
    have b_ : Below _ _ w2 := hJ
    clear hJ
    have HB3 := Lib.hid (HB.out.trans (b_.mono (by omega)))
    clear b_ e0 e1 e2
    go_wp2_with fail
    go_ret
    exact ⟨ret_st (by rw [HF.out]), HB3.out⟩
end Go.Proofs.YtmodpleonhniaaaGreatDoor
