/- The contract of the program's ReadPitch, at the text of a valid pitch, and at a text of less than two bytes. -/
import Derived.Test.YtmodpleonhniaaaGreatDoorRdp
import Derived.Test.YtmodpleonhniaaaGreatDoorPtx2
import Derived.Test.YtmodpleonhniaaaGreatDoorInvC
namespace Go.Proofs.YtmodpleonhniaaaGreatDoor
open Go.RowKit
set_option linter.unusedSimpArgs false
set_option linter.unusedVariables false
set_option maxRecDepth 100000
theorem ib_post {s : Int} (h : 0 ≤ s ∧ s ≤ 6) (w : World) : Calls Tryz.prog 79 #[.string ⟨#[67, 68, 69, 70, 71, 65, 66]⟩, .int .u8 ((letL s).toNat : Int)] w fun e w' => ∃ v, e = .returned v ∧ FEq (.int .i64 s) v w' ∧ Below w.heap.size w w' := by
  refine (Tryz.strings_IndexByte _ _ w).mono ?_
  rintro e w' ⟨rfl, rfl⟩
  refine ⟨_, rfl, ?_, Below.refl _ _⟩
  show (Value.int .i64 _) = Value.int .i64 s
  congr 1
  rcases (show s = 0 ∨ s = 1 ∨ s = 2 ∨ s = 3 ∨ s = 4 ∨ s = 5 ∨ s = 6 by omega) with rfl | rfl | rfl | rfl | rfl | rfl | rfl <;> rfl
theorem cn_post (l : List UInt8) (c : UInt8) (n : Nat) (h : l.count c = n) (w : World) : Calls Tryz.prog 73 #[.string (stV l), .string ⟨#[c]⟩] w fun e w' => ∃ v, e = .returned v ∧ FEq (.int .i64 (n : Int)) v w' ∧ Below w.heap.size w w' := by
  refine (Tryz.strings_Count_one _ c w).mono ?_
  rintro e w' ⟨rfl, rfl⟩
  refine ⟨_, rfl, ?_, Below.refl _ _⟩
  show (Value.int .i64 ((Lib.countByte (stV l).data.toList c : Nat) : Int)) = Value.int .i64 (n : Int)
  rw [show (stV l).data.toList = l by simp [stV], ← h]; rfl
theorem sg_35 (a : Int) : (sgL a).count 35 = a.toNat := by
  unfold sgL
  rw [List.count_append, List.count_replicate_self, List.count_replicate, if_neg (by decide), Nat.add_zero]
theorem sg_98 (a : Int) : (sgL a).count 98 = (-a).toNat := by
  unfold sgL
  rw [List.count_append, List.count_replicate_self, List.count_replicate, if_neg (by decide), Nat.zero_add]
theorem sg_len {a : Int} (h : -2 ≤ a ∧ a ≤ 2) : (sgL a).length ≤ 2 := by
  unfold sgL
  simp only [List.length_append, List.length_replicate]; omega
def RetP2 (w : World) (s a o : Int) (ok : Bool) (e : Ending) (w' : World) : Prop := e = .returned (.tuple #[.agg #[.int .i64 s, .int .i64 a, .int .i64 o], .bool ok]) ∧ Below w.heap.size w w'
set_option maxHeartbeats 4000000 in
theorem impl_ReadPitch_short (l : List UInt8) (w : World) (hl : l.length ≤ 1) : Calls Tryz.prog 56 #[.string (stV l)] w (RetP2 w 0 0 0 false) := by
  have hz := stV_size l
  have h2 : ((l.length : Int) < 2) = True := eq_true (by omega)
  have HK := Lib.hid (Blk.new w 57 #[.int .i64 0, .int .i64 0, .int .i64 0])
  have HB := Lib.hid ((Below.refl w.heap.size w).alloc (Nat.le_refl _) (.cells #[.int .i64 0, .int .i64 0, .int .i64 0] 57))
  go_enter Tryz.func56, Tryz.ntmps56
  go_upto_region 1 with fail
  generalize w.alloc (.cells #[.int .i64 0, .int .i64 0, .int .i64 0] 57) = w0 at *
  have d0 := HK.out.cell 0; have d1 := HK.out.cell 1; have d2 := HK.out.cell 2; have f0 := HK.out.frozen 0; have f1 := HK.out.frozen 1; have f2 := HK.out.frozen 2
  go_wp2_with fail
  have HK3 := Lib.hid (((HK.out.set_ 0 (.int .i64 0)).set_ 1 (.int .i64 0)).set_ 2 (.int .i64 0))
  have HB3 := Lib.hid (Below.setCell (Below.setCell (Below.setCell HB.out (p := ⟨w.heap.size, 0, none⟩) (Nat.le_refl _) (.int .i64 0)) (p := ⟨w.heap.size, 1, none⟩) (Nat.le_refl _) (.int .i64 0)) (p := ⟨w.heap.size, 2, none⟩) (Nat.le_refl _) (.int .i64 0))
  generalize (((w0.setCell ⟨w.heap.size, 0, none⟩ (.int .i64 0)).setCell ⟨w.heap.size, 1, none⟩ (.int .i64 0)).setCell ⟨w.heap.size, 2, none⟩ (.int .i64 0)) = W at *
  have r0 : W.cell? ⟨w.heap.size, 0, none⟩ = some (.int .i64 0) := HK3.out.cell 0
  have r1 : W.cell? ⟨w.heap.size, 1, none⟩ = some (.int .i64 0) := HK3.out.cell 1
  have r2 : W.cell? ⟨w.heap.size, 2, none⟩ = some (.int .i64 0) := HK3.out.cell 2
  refine bodyPost_ret (v := .tuple #[.agg #[.int .i64 0, .int .i64 0, .int .i64 0], .bool false]) (by simp [results, Tryz.results56, go_sem, r0, r1, r2]) rfl ⟨rfl, HB3.out⟩
set_option maxHeartbeats 4000000 in
theorem impl_ReadPitch (s a o : Int) (w : World) (hv : pvB s a o = true) : Calls Tryz.prog 56 #[.string (stV (ptL s a o))] w (RetP2 w s a o true) := by
  have hp := pvB_iff.1 hv
  have HX := Lib.hid (pt_form hv)
  have hsg := sg_len hp.2.1
  have hlen : (ptL s a o).length = (sgL a).length + 2 := by rw [HX.out]; simp
  have hz := stV_size (ptL s a o)
  have HC1 := Lib.hid (sg_35 a); have HC2 := Lib.hid (sg_98 a)
  generalize htt : ptL s a o = t at *
  have HTT := Lib.hid htt; clear htt
  have hg0 : ∀ h : 0 < (stV t).size, (stV t)[0]'h = letL s := by rw [HX.out]; intro h; rfl
  have hgz0 : (stV t).data.toList[(sgL a).length + 1]? = some (dgt o.toNat) := by
    rw [HX.out]
    show (letL s :: (sgL a ++ [dgt o.toNat])).toArray.toList[(sgL a).length + 1]? = _
    simp
  have hex : (stV t).extract 1 ((sgL a).length + 1) = stV (sgL a) := by
    rw [HX.out, Go.Lib.extract_eq]
    simp [stV]
  generalize hsl : sgL a = sg at *
  obtain ⟨m, hm⟩ : ∃ m, m = sg.length := ⟨_, rfl⟩
  rw [← hm] at hlen hsg hgz0 hex
  have hgz : ∀ h : m + 1 < (stV t).size, (stV t)[m + 1]'h = dgt o.toNat := fun h => by
    have h9 : (stV t).data.toList[m + 1]? = some ((stV t)[m + 1]'h) := List.getElem?_eq_getElem (by show m + 1 < (stV t).data.toList.length; rw [Array.length_toList]; exact h)
    rw [hgz0] at h9
    exact (Option.some.inj h9).symm
  have hps := hp.1; have hpa := hp.2.1; have hpo := hp.2.2
  clear hp hsl hgz0 hm
  have HV := Lib.hid hv; clear hv
  have h2 : decide ((m : Int) + 2 < 2) = false := decide_eq_false (by omega)
  have h4 : decide ((4 : Int) < (m : Int) + 2) = false := decide_eq_false (by omega)
  have hdo : ((dgt o.toNat).toNat : Int) = 48 + o := by rw [dig_nat]; omega
  have hw27 : IntKind.i64.wrap (max a 0 - max (-a) 0) = a := (IntWalk.i64_in _ (by omega)).trans (by omega)
  have hl0 : ¬ ((m : Int) + 2 ≤ 0) := by omega
  have hw31 : IntKind.i64.wrap ((m : Int) + 2 - 1) = (m : Int) + 1 := (IntWalk.i64_in _ (by omega)).trans (by omega)
  have hw33 : IntKind.i64.wrap ((dgt o.toNat).toNat : Int) = ((dgt o.toNat).toNat : Int) := IntWalk.i64_in _ (by omega)
  have hw34 : IntKind.i64.wrap (((dgt o.toNat).toNat : Int) - 48) = o := (IntWalk.i64_in _ (by omega)).trans (by omega)
  have htn : ((m : Int) + 1).toNat = m + 1 := by omega
  have hl1 : (0 : Int) ≤ (m : Int) + 1 := by omega
  have hl2 : (m : Int) + 1 < (m : Int) + 2 := by omega
  have HHZ : Hid ((stV t).size = t.length) := Lib.hid hz
  have HK := Lib.hid (Blk.new w 57 #[.int .i64 0, .int .i64 0, .int .i64 0])
  have HB := Lib.hid ((Below.refl w.heap.size w).alloc (Nat.le_refl _) (.cells #[.int .i64 0, .int .i64 0, .int .i64 0] 57))
  have z0 : w.heap.size + 1 ≤ (w.alloc (.cells #[.int .i64 0, .int .i64 0, .int .i64 0] 57)).heap.size := by simp
  go_enter Tryz.func56, Tryz.ntmps56
  go_upto_region 1 with fail
  generalize w.alloc (.cells #[.int .i64 0, .int .i64 0, .int .i64 0] 57) = w0 at *
  go_upto_region 4 with fail
  refine regionB_draws rfl 57 3 5 17 #[.int .i64 s, .int .i64 a, .int .i64 o] 42 [some 20, some 21, some 22, some 23, some 24, some 25, some 26, some 27, some 28, some 29, some 30, some 31, some 32, some 33, some 34, some 35, some 5, none]
    [FEq (.string (stV t)), FEq (.int .u8 ((letL s).toNat : Int)), FEq (.int .i64 (s)), FEq (.string (stV sg)), FEq (.int .i64 (((a.toNat : Nat) : Int))), FEq (.string (stV sg)), FEq (.int .i64 ((((-a).toNat : Nat) : Int))), FEq (.int .i64 (a)), FEq (.string (stV t)), FEq (.string (stV t)), FEq (.int .i64 ((m : Int) + 2)), FEq (.int .i64 ((m : Int) + 1)), FEq (.int .u8 ((dgt o.toNat).toNat : Int)), FEq (.int .i64 (((dgt o.toNat).toNat : Int))), FEq (.int .i64 (o)), FEq (.agg #[.int .i64 (s), .int .i64 (a), .int .i64 (o)]), FBox w0.heap.size 57 3, FAny] (by kernel_rfl) (by kernel_rfl) (by decide) ?_ ?_ ?_
  · exact stayBs_cons stayB_eq (stayBs_cons stayB_eq (stayBs_cons stayB_eq (stayBs_cons stayB_eq (stayBs_cons stayB_eq (stayBs_cons stayB_eq (stayBs_cons stayB_eq (stayBs_cons stayB_eq (stayBs_cons stayB_eq (stayBs_cons stayB_eq (stayBs_cons stayB_eq (stayBs_cons stayB_eq (stayBs_cons stayB_eq (stayBs_cons stayB_eq (stayBs_cons stayB_eq (stayBs_cons stayB_eq (stayBs_cons stayB_box (stayBs_cons stayB_any stayBs_nil)))))))))))))))))
  · refine AllI.cons ?_ (AllI.cons ?_ (AllI.cons ?_ (AllI.cons ?_ (AllI.cons ?_ (AllI.cons ?_ (AllI.cons ?_ (AllI.cons ?_ (AllI.cons ?_ (AllI.cons ?_ (AllI.cons ?_ (AllI.cons ?_ (AllI.cons ?_ (AllI.cons ?_ (AllI.cons ?_ (AllI.cons ?_ (AllI.cons ?_ (AllI.cons ?_ trivial)))))))))))))))))
    · intro kk bb ff ww hkk hf hd hp hq hJ0
      refine .inl ⟨wanted_none rfl, ?_⟩
      have hJ := hJ0.1
      have hb9 : bb = false := hp [] (by kernel_rfl)
      have q : FEq (.string (stV t)) (ff 0) ww := (hf 0 (by decide)).trans rfl
      exact sb_val (ff 0) hJ (by simp only [execOp, ev_tmp _ _ (show 0 < 42 by decide)]; rfl) q
    · intro kk bb ff ww hkk hf hd hp hq hJ0
      refine .inl ⟨wanted_none rfl, ?_⟩
      obtain ⟨p0, -⟩ := hd
      have hJ := hJ0.1
      have hb9 : bb = false := hp [] (by kernel_rfl)
      have q20 : FEq (.string (stV t)) (ff 20) ww := p0 rfl
      unfold FEq at q20
      refine sb_val (.int .u8 ((letL s).toNat : Int)) hJ ?_ rfl
      simp only [execOp, ev_tmp _ _ (show 20 < 42 by decide), ev_const, q20]
      simp [go_sem, hz, hlen, hg0, hl0]
    · intro kk bb ff ww hkk hf hd hp hq hJ0
      refine .inl ⟨wanted_none rfl, ?_⟩
      obtain ⟨p0, -⟩ := hd
      have hJ := hJ0.1
      have hb9 : bb = false := hp [] (by kernel_rfl)
      have q21 : FEq (.int .u8 ((letL s).toNat : Int)) (ff 21) ww := p0 rfl
      unfold FEq at q21
      refine sb_enter 79 #[.string ⟨#[67, 68, 69, 70, 71, 65, 66]⟩, .int .u8 ((letL s).toNat : Int)] hJ ?_ ?_
      · simp only [execOp, ev_tmp _ _ (show 21 < 42 by decide), ev_const, q21, ev_func, resolve, List.map_toArray, List.map_cons, List.map_nil]
        simp [go_sem]
      · exact ib_post hps ww
    · intro kk bb ff ww hkk hf hd hp hq hJ0
      refine .inl ⟨wanted_none rfl, ?_⟩
      have hJ := hJ0.1
      have hb9 : bb = false := hp [] (by kernel_rfl)
      have q : FEq (.string (stV sg)) (ff 4) ww := (hf 4 (by decide)).trans rfl
      exact sb_val (ff 4) hJ (by simp only [execOp, ev_tmp _ _ (show 4 < 42 by decide)]; rfl) q
    · intro kk bb ff ww hkk hf hd hp hq hJ0
      refine .inl ⟨wanted_none rfl, ?_⟩
      obtain ⟨p0, p1, -⟩ := hd
      have hJ := hJ0.1
      have hb9 : bb = false := hp [] (by kernel_rfl)
      have q23 : FEq (.string (stV sg)) (ff 23) ww := p0 rfl
      unfold FEq at q23
      refine sb_enter 73 #[.string (stV sg), .string ⟨#[35]⟩] hJ ?_ ?_
      · simp only [execOp, ev_tmp _ _ (show 23 < 42 by decide), ev_const, q23, ev_func, resolve, List.map_toArray, List.map_cons, List.map_nil]
        simp [go_sem]
      · exact cn_post sg 35 a.toNat HC1.out ww
    · intro kk bb ff ww hkk hf hd hp hq hJ0
      refine .inl ⟨wanted_none rfl, ?_⟩
      have hJ := hJ0.1
      have hb9 : bb = false := hp [] (by kernel_rfl)
      have q : FEq (.string (stV sg)) (ff 4) ww := (hf 4 (by decide)).trans rfl
      exact sb_val (ff 4) hJ (by simp only [execOp, ev_tmp _ _ (show 4 < 42 by decide)]; rfl) q
    · intro kk bb ff ww hkk hf hd hp hq hJ0
      refine .inl ⟨wanted_none rfl, ?_⟩
      obtain ⟨p0, p1, -⟩ := hd
      have hJ := hJ0.1
      have hb9 : bb = false := hp [] (by kernel_rfl)
      have q25 : FEq (.string (stV sg)) (ff 25) ww := p0 rfl
      unfold FEq at q25
      refine sb_enter 73 #[.string (stV sg), .string ⟨#[98]⟩] hJ ?_ ?_
      · simp only [execOp, ev_tmp _ _ (show 25 < 42 by decide), ev_const, q25, ev_func, resolve, List.map_toArray, List.map_cons, List.map_nil]
        simp [go_sem]
      · exact cn_post sg 98 (-a).toNat HC2.out ww
    · intro kk bb ff ww hkk hf hd hp hq hJ0
      refine .inl ⟨wanted_none rfl, ?_⟩
      obtain ⟨p0, p1, -⟩ := hd
      have hJ := hJ0.1
      have hb9 : bb = false := hp [] (by kernel_rfl)
      have q24 : FEq (.int .i64 (((a.toNat : Nat) : Int))) (ff 24) ww := p0 rfl
      unfold FEq at q24
      have q26 : FEq (.int .i64 ((((-a).toNat : Nat) : Int))) (ff 26) ww := p1 rfl
      unfold FEq at q26
      refine sb_val (.int .i64 (a)) hJ ?_ rfl
      simp only [execOp, ev_tmp _ _ (show 24 < 42 by decide), ev_tmp _ _ (show 26 < 42 by decide), ev_const, q24, q26]
      simp [go_sem, hw27]
    · intro kk bb ff ww hkk hf hd hp hq hJ0
      refine .inl ⟨wanted_none rfl, ?_⟩
      have hJ := hJ0.1
      have hb9 : bb = false := hp [] (by kernel_rfl)
      have q : FEq (.string (stV t)) (ff 0) ww := (hf 0 (by decide)).trans rfl
      exact sb_val (ff 0) hJ (by simp only [execOp, ev_tmp _ _ (show 0 < 42 by decide)]; rfl) q
    · intro kk bb ff ww hkk hf hd hp hq hJ0
      refine .inl ⟨wanted_none rfl, ?_⟩
      have hJ := hJ0.1
      have hb9 : bb = false := hp [] (by kernel_rfl)
      have q : FEq (.string (stV t)) (ff 0) ww := (hf 0 (by decide)).trans rfl
      exact sb_val (ff 0) hJ (by simp only [execOp, ev_tmp _ _ (show 0 < 42 by decide)]; rfl) q
    · intro kk bb ff ww hkk hf hd hp hq hJ0
      refine .inl ⟨wanted_none rfl, ?_⟩
      obtain ⟨p0, -⟩ := hd
      have hJ := hJ0.1
      have hb9 : bb = false := hp [] (by kernel_rfl)
      have q29 : FEq (.string (stV t)) (ff 29) ww := p0 rfl
      unfold FEq at q29
      refine sb_val (.int .i64 ((m : Int) + 2)) hJ ?_ rfl
      simp only [execOp, ev_tmp _ _ (show 29 < 42 by decide), ev_const, q29, List.map_toArray, List.map_cons, List.map_nil, resolve]
      simp [go_sem, hz, hlen]
    · intro kk bb ff ww hkk hf hd hp hq hJ0
      refine .inl ⟨wanted_none rfl, ?_⟩
      obtain ⟨p0, -⟩ := hd
      have hJ := hJ0.1
      have hb9 : bb = false := hp [] (by kernel_rfl)
      have q30 : FEq (.int .i64 ((m : Int) + 2)) (ff 30) ww := p0 rfl
      unfold FEq at q30
      refine sb_val (.int .i64 ((m : Int) + 1)) hJ ?_ rfl
      simp only [execOp, ev_tmp _ _ (show 30 < 42 by decide), ev_const, q30]
      simp [go_sem, hw31]
    · intro kk bb ff ww hkk hf hd hp hq hJ0
      refine .inl ⟨wanted_none rfl, ?_⟩
      obtain ⟨p0, p1, -⟩ := hd
      have hJ := hJ0.1
      have hb9 : bb = false := hp [] (by kernel_rfl)
      have q28 : FEq (.string (stV t)) (ff 28) ww := p0 rfl
      unfold FEq at q28
      have q31 : FEq (.int .i64 ((m : Int) + 1)) (ff 31) ww := p1 rfl
      unfold FEq at q31
      refine sb_val (.int .u8 ((dgt o.toNat).toNat : Int)) hJ ?_ rfl
      simp only [execOp, ev_tmp _ _ (show 28 < 42 by decide), ev_tmp _ _ (show 31 < 42 by decide), ev_const, q28, q31]
      simp [go_sem, hz, hlen, hgz, htn, hl1, hl2]
    · intro kk bb ff ww hkk hf hd hp hq hJ0
      refine .inl ⟨wanted_none rfl, ?_⟩
      obtain ⟨p0, -⟩ := hd
      have hJ := hJ0.1
      have hb9 : bb = false := hp [] (by kernel_rfl)
      have q32 : FEq (.int .u8 ((dgt o.toNat).toNat : Int)) (ff 32) ww := p0 rfl
      unfold FEq at q32
      refine sb_val (.int .i64 (((dgt o.toNat).toNat : Int))) hJ ?_ rfl
      simp only [execOp, ev_tmp _ _ (show 32 < 42 by decide), ev_const, q32]
      simp [go_sem, hw33]
    · intro kk bb ff ww hkk hf hd hp hq hJ0
      refine .inl ⟨wanted_none rfl, ?_⟩
      obtain ⟨p0, -⟩ := hd
      have hJ := hJ0.1
      have hb9 : bb = false := hp [] (by kernel_rfl)
      have q33 : FEq (.int .i64 (((dgt o.toNat).toNat : Int))) (ff 33) ww := p0 rfl
      unfold FEq at q33
      refine sb_val (.int .i64 (o)) hJ ?_ rfl
      simp only [execOp, ev_tmp _ _ (show 33 < 42 by decide), ev_const, q33]
      simp [go_sem, hw34]
    · intro kk bb ff ww hkk hf hd hp hq hJ0
      refine .inl ⟨wanted_none rfl, ?_⟩
      obtain ⟨p0, p1, p2, -⟩ := hd
      have hJ := hJ0.1
      have hb9 : bb = false := hp [] (by kernel_rfl)
      have q22 : FEq (.int .i64 (s)) (ff 22) ww := p0 rfl
      unfold FEq at q22
      have q27 : FEq (.int .i64 (a)) (ff 27) ww := p1 rfl
      unfold FEq at q27
      have q34 : FEq (.int .i64 (o)) (ff 34) ww := p2 rfl
      unfold FEq at q34
      refine sb_val (.agg #[.int .i64 (s), .int .i64 (a), .int .i64 (o)]) hJ ?_ rfl
      simp only [execOp, ev_tmp _ _ (show 22 < 42 by decide), ev_tmp _ _ (show 27 < 42 by decide), ev_tmp _ _ (show 34 < 42 by decide), ev_const, q22, q27, q34, List.map_toArray, List.map_cons, List.map_nil]
      simp [go_sem]
    · intro kk bb ff ww hkk hf hd hp hq hJ0
      refine .inl ⟨wanted_none rfl, ?_⟩
      have hJ := hJ0.1
      have hb9 : bb = false := hp [] (by kernel_rfl)
      refine sb_alloc (.pointer (some ⟨ww.heap.size, 0, none⟩)) (.cells #[.int .i64 0, .int .i64 0, .int .i64 0] 57) hJ ?_ ⟨_, _, rfl, hJ.size, Blk.new _ _ _, rfl⟩
      simp only [execOp]
      simp [go_sem]
    · intro kk bb ff ww hkk hf hd hp hq hJ0
      refine .inl ⟨wanted_none rfl, ?_⟩
      obtain ⟨p0, p1, p2, p3, p4, p5, p6, p7, p8, p9, p10, p11, p12, p13, p14, p15, p16, p17, p18, p19, -⟩ := hd
      have hJ := hJ0.1
      have q35 : FEq (.agg #[.int .i64 (s), .int .i64 (a), .int .i64 (o)]) (ff 35) ww := p1 rfl
      unfold FEq at q35
      have q5 : FBox w0.heap.size 57 3 (ff 5) ww := p0 rfl
      obtain ⟨g, cs, q5, hlo, hb, hsz⟩ := q5
      obtain ⟨d0, d1, d2, rfl⟩ := arr3 hsz
      have c0 : ww.cell? ⟨g, 0, none⟩ = some d0 := hb.cell 0
      have f0 := hb.frozen 0
      have c1 : ww.cell? ⟨g, 1, none⟩ = some d1 := hb.cell 1
      have f1 := hb.frozen 1
      have c2 : ww.cell? ⟨g, 2, none⟩ = some d2 := hb.cell 2
      have f2 := hb.frozen 2
      refine sb_store g (((ww.setCell ⟨g, 0, none⟩ (.int .i64 s)).setCell ⟨g, 1, none⟩ (.int .i64 a)).setCell ⟨g, 2, none⟩ (.int .i64 o)) rfl rfl q5 hlo rfl hJ ?_ (((hb.set_ 0 (.int .i64 s)).set_ 1 (.int .i64 a)).set_ 2 (.int .i64 o)) (fun j hj => by simp [Below.heap_setCell, hj, Ne.symm hj]) rfl rfl rfl (by simp [World.setCell]) trivial
      simp only [execOp, ev_tmp _ _ (show 35 < 42 by decide), ev_tmp _ _ (show 5 < 42 by decide), ev_const, q35, q5]
      simp [go_sem, c0, f0, c1, f1, c2, f2]
  intro ff w5 hf hd hX hJ
  obtain ⟨gb_, qx_, lb_, kb_⟩ := hX
  have hfr : fr 42 ff = #[ff 0, ff 1, ff 2, ff 3, ff 4, ff 5, ff 6, ff 7, ff 8, ff 9, ff 10, ff 11, ff 12, ff 13, ff 14, ff 15, ff 16, ff 17, ff 18, ff 19, ff 20, ff 21, ff 22, ff 23, ff 24, ff 25, ff 26, ff 27, ff 28, ff 29, ff 30, ff 31, ff 32, ff 33, ff 34, ff 35, ff 36, ff 37, ff 38, ff 39, ff 40, ff 41] := rfl
  rw [hfr]; clear hfr
  dsimp only
  have q0_ := hf 0 (by decide)
  have q1_ := hf 1 (by decide)
  have q2_ := hf 2 (by decide)
  have q3_ := hf 3 (by decide)
  have q4_ := hf 4 (by decide)
  have q6_ := hf 6 (by decide)
  have q7_ := hf 7 (by decide)
  have q8_ := hf 8 (by decide)
  have q9_ := hf 9 (by decide)
  have q10_ := hf 10 (by decide)
  have q11_ := hf 11 (by decide)
  have q12_ := hf 12 (by decide)
  have q13_ := hf 13 (by decide)
  have q14_ := hf 14 (by decide)
  have q15_ := hf 15 (by decide)
  have q16_ := hf 16 (by decide)
  have q17_ := hf 17 (by decide)
  have q18_ := hf 18 (by decide)
  have q19_ := hf 19 (by decide)
  have q20_ : FEq (.string (stV t)) (ff 20) w5 := hd 0 (by decide)
  unfold FEq at q20_
  have q21_ : FEq (.int .u8 ((letL s).toNat : Int)) (ff 21) w5 := hd 1 (by decide)
  unfold FEq at q21_
  have q22_ : FEq (.int .i64 (s)) (ff 22) w5 := hd 2 (by decide)
  unfold FEq at q22_
  have q23_ : FEq (.string (stV sg)) (ff 23) w5 := hd 3 (by decide)
  unfold FEq at q23_
  have q24_ : FEq (.int .i64 (((a.toNat : Nat) : Int))) (ff 24) w5 := hd 4 (by decide)
  unfold FEq at q24_
  have q25_ : FEq (.string (stV sg)) (ff 25) w5 := hd 5 (by decide)
  unfold FEq at q25_
  have q26_ : FEq (.int .i64 ((((-a).toNat : Nat) : Int))) (ff 26) w5 := hd 6 (by decide)
  unfold FEq at q26_
  have q27_ : FEq (.int .i64 (a)) (ff 27) w5 := hd 7 (by decide)
  unfold FEq at q27_
  have q28_ : FEq (.string (stV t)) (ff 28) w5 := hd 8 (by decide)
  unfold FEq at q28_
  have q29_ : FEq (.string (stV t)) (ff 29) w5 := hd 9 (by decide)
  unfold FEq at q29_
  have q30_ : FEq (.int .i64 ((m : Int) + 2)) (ff 30) w5 := hd 10 (by decide)
  unfold FEq at q30_
  have q31_ : FEq (.int .i64 ((m : Int) + 1)) (ff 31) w5 := hd 11 (by decide)
  unfold FEq at q31_
  have q32_ : FEq (.int .u8 ((dgt o.toNat).toNat : Int)) (ff 32) w5 := hd 12 (by decide)
  unfold FEq at q32_
  have q33_ : FEq (.int .i64 (((dgt o.toNat).toNat : Int))) (ff 33) w5 := hd 13 (by decide)
  unfold FEq at q33_
  have q34_ : FEq (.int .i64 (o)) (ff 34) w5 := hd 14 (by decide)
  unfold FEq at q34_
  have q35_ : FEq (.agg #[.int .i64 (s), .int .i64 (a), .int .i64 (o)]) (ff 35) w5 := hd 15 (by decide)
  unfold FEq at q35_
  have q36_ := hf 36 (by decide)
  have q37_ := hf 37 (by decide)
  have q38_ := hf 38 (by decide)
  have q39_ := hf 39 (by decide)
  have q40_ := hf 40 (by decide)
  have q41_ := hf 41 (by decide)
  simp only [Array.getD_eq_getD_getElem?, List.getElem?_toArray, List.getElem?_cons_zero, List.getElem?_cons_succ, Option.getD_some] at q0_ q1_ q2_ q3_ q4_ q6_ q7_ q8_ q9_ q10_ q11_ q12_ q13_ q14_ q15_ q16_ q17_ q18_ q19_ q36_ q37_ q38_ q39_ q40_ q41_
  rw [q0_, q1_, q2_, q3_, q4_, qx_, q6_, q7_, q8_, q9_, q10_, q11_, q12_, q13_, q14_, q15_, q16_, q17_, q18_, q19_, q20_, q21_, q22_, q23_, q24_, q25_, q26_, q27_, q28_, q29_, q30_, q31_, q32_, q33_, q34_, q35_, q36_, q37_, q38_, q39_, q40_, q41_]
  clear q0_ q1_ q2_ q3_ q4_ qx_ q6_ q7_ q8_ q9_ q10_ q11_ q12_ q13_ q14_ q15_ q16_ q17_ q18_ q19_ q20_ q21_ q22_ q23_ q24_ q25_ q26_ q27_ q28_ q29_ q30_ q31_ q32_ q33_ q34_ q35_ q36_ q37_ q38_ q39_ q40_ q41_ hf hd
  clear ff
  have b_ : Below _ _ w5 := hJ
  clear hJ
  have z5 := b_.size
  replace HK := Lib.hid (HK.out.below b_ (by omega)); replace HB := Lib.hid (HB.out.trans (b_.mono (by omega)))
  have HQ := Lib.hid kb_
  have hgb := HQ.out.lt
  clear b_ kb_ hw27 hw31 hw33 hw34 hex hg0 hgz HC1 HC2
  have q0 := HQ.out.cell 0; have q1 := HQ.out.cell 1; have q2 := HQ.out.cell 2
  have e9 : ((stV t).toList != (stV t).toList) = false := by simp
  go_wp2_with fail
  refine (impl_PitchText s a o _).mono ?_
  rw [HTT.out]
  rintro e w6 ⟨rfl, b6⟩
  have zz := b6.size
  clear q0 q1 q2
  replace HK := Lib.hid (HK.out.below b6 (by omega)); replace HQ := Lib.hid (HQ.out.below b6 hgb); replace HB := Lib.hid (HB.out.trans (b6.mono (by omega))); clear b6
  have q0 := HQ.out.cell 0; have q1 := HQ.out.cell 1; have q2 := HQ.out.cell 2
  have d0 := HK.out.cell 0; have d1 := HK.out.cell 1; have d2 := HK.out.cell 2; have f0 := HK.out.frozen 0; have f1 := HK.out.frozen 1; have f2 := HK.out.frozen 2
  go_wp2_with fail
  have HK3 := Lib.hid (((HK.out.set_ 0 (.int .i64 s)).set_ 1 (.int .i64 a)).set_ 2 (.int .i64 o))
  have HB3 := Lib.hid (Below.setCell (Below.setCell (Below.setCell HB.out (p := ⟨w.heap.size, 0, none⟩) (Nat.le_refl _) (.int .i64 s)) (p := ⟨w.heap.size, 1, none⟩) (Nat.le_refl _) (.int .i64 a)) (p := ⟨w.heap.size, 2, none⟩) (Nat.le_refl _) (.int .i64 o))
  generalize (((w6.setCell ⟨w.heap.size, 0, none⟩ (.int .i64 s)).setCell ⟨w.heap.size, 1, none⟩ (.int .i64 a)).setCell ⟨w.heap.size, 2, none⟩ (.int .i64 o)) = W at *
  have r0 : W.cell? ⟨w.heap.size, 0, none⟩ = some (.int .i64 s) := HK3.out.cell 0
  have r1 : W.cell? ⟨w.heap.size, 1, none⟩ = some (.int .i64 a) := HK3.out.cell 1
  have r2 : W.cell? ⟨w.heap.size, 2, none⟩ = some (.int .i64 o) := HK3.out.cell 2
  refine bodyPost_ret (v := .tuple #[.agg #[.int .i64 s, .int .i64 a, .int .i64 o], .bool true]) (by simp [results, Tryz.results56, go_sem, r0, r1, r2]) rfl ⟨rfl, HB3.out⟩
end Go.Proofs.YtmodpleonhniaaaGreatDoor
