/- The contract of the program's ReadNote, at the text of a valid note, and at the text '?'. Condition: Go's tables and errors as the initialisers lay them (Tb, Mx, Es). -/
import Derived.Test.YtmodpleonhniaaaGreatDoorRpx
import Derived.Test.YtmodpleonhniaaaGreatDoorNtx2
import Derived.Lib.AtoiErrMem
import Derived.Test.YtmodpleonhniaaaGreatDoorLnD
namespace Go.Proofs.YtmodpleonhniaaaGreatDoor
open Go.RowKit
set_option linter.unusedSimpArgs false
set_option linter.unusedVariables false
set_option maxRecDepth 100000
/-- internal/bytealg.MaxLen holds an int -/
def Mx (w : World) : Prop := ∃ m : Int, w.cell? ⟨0, 0, none⟩ = some (.int .i64 m)
theorem Mx.next {w w1 : World} (h : Mx w) (hb : Below w.heap.size w w1) : Mx w1 := by
  obtain ⟨m, hm⟩ := h
  exact ⟨m, (hb.cell (p := ⟨0, 0, none⟩) (World.block_lt_of_cell? w _ hm)).trans hm⟩
/-- strconv.ErrSyntax holds an error that is not nil -/
def Es (w : World) : Prop := ∃ (tp : TypeId) (p : Value), w.var? Tryz.prog "strconv.ErrSyntax" = some #[.iface tp p]
theorem var_below {n : String} {g : Nat} {v : Array Value} {w w' : World} (hg : Tryz.prog.globalNamed n = some g) (h : w.var? Tryz.prog n = some v) (hb : Below w.heap.size w w') : w'.var? Tryz.prog n = some v := by
  unfold World.var? at h ⊢
  rw [hg] at h ⊢
  simp only [Option.bind_some] at h ⊢
  have hlt : g < w.heap.size := by
    rcases Nat.lt_or_ge g w.heap.size with h' | h'
    · exact h'
    · rw [Array.getElem?_eq_none h'] at h; cases h
  rw [hb.block g hlt]
  exact h
theorem gEs : Tryz.prog.globalNamed "strconv.ErrSyntax" = some 1 := by kernel_rfl
theorem Es.next {w w1 : World} (h : Es w) (hb : Below w.heap.size w w1) : Es w1 := by
  obtain ⟨tp, p, hv⟩ := h
  exact ⟨tp, p, var_below gEs hv hb⟩
theorem stV_l (l : List UInt8) : (stV l).data.toList = l := by simp [stV]
def RetT3 (w : World) (a b : List UInt8) (ok : Bool) (e : Ending) (w' : World) : Prop := e = .returned (.tuple #[.string (stV a), .string (stV b), .bool ok]) ∧ Below w.heap.size w w'
theorem cut_ret {l a b : List UInt8} {ok : Bool} (h : Lib.cut l [47] = (a, b, ok)) (hl : l.length ≤ 1000) (w : World) (hm : Mx w) : Calls Tryz.prog 53 #[.string (stV l), .string ⟨#[47]⟩] w (RetT3 w a b ok) := by
  obtain ⟨m, hm⟩ := hm
  refine (Tryz.strings_Cut _ _ m w (by rw [stV_size]; omega) hm).mono ?_
  rintro e w' ⟨rfl, n, rfl⟩
  refine ⟨?_, below_drewN (Below.refl _ _) n⟩
  rw [stV_l]
  show Ending.returned (.tuple #[.string ⟨(Lib.cut l [47]).1.toArray⟩, .string ⟨(Lib.cut l [47]).2.1.toArray⟩, .bool (Lib.cut l [47]).2.2]) = _
  rw [h]; rfl
def RetT2 (w : World) (a : List UInt8) (ok : Bool) (e : Ending) (w' : World) : Prop := e = .returned (.tuple #[.string (stV a), .bool ok]) ∧ Below w.heap.size w w'
theorem suf_ret {l a : List UInt8} {ok : Bool} (h : Lib.hasSuffix l [126] = ok ∧ Lib.trimSuffix l [126] = a) (hl : l.length ≤ 1000) (w : World) : Calls Tryz.prog 54 #[.string (stV l), .string ⟨#[126]⟩] w (RetT2 w a ok) := by
  refine (Tryz.strings_CutSuffix _ _ w (by rw [stV_size]; omega)).mono ?_
  rintro e w' ⟨rfl, rfl⟩
  refine ⟨?_, Below.refl _ _⟩
  rw [stV_l]
  show Ending.returned (.tuple #[.string ⟨(Lib.trimSuffix l [126]).toArray⟩, .bool (Lib.hasSuffix l [126])]) = _
  rw [h.1, h.2]; rfl
theorem atoi_ret (T : Nat) (hT : T ≤ 768) (w : World) : Calls Tryz.prog 55 #[.string (stV (Lib.decDigits T))] w fun e w' => e = .returned (.tuple #[.int .i64 T, .nilIface]) ∧ Below w.heap.size w w' := by
  have hln : (Lib.decDigits T).length ≤ 3 := by rw [Lib.decDigits_length]; exact nd_le 2 T (by omega)
  refine (Tryz.strconv_Atoi _ (T : Int) (by rw [stV_size]; omega) (by rw [stV_l]; exact atoi_digits T) w).mono ?_
  rintro e w' ⟨rfl, t, rfl⟩
  exact ⟨rfl, Lib.bytesWorld_below _ _ _⟩
theorem atoi_bad (w : World) (h : Es w) : Calls Tryz.prog 55 #[.string (stV [])] w fun e w' => ∃ (tp : TypeId) (p : Value), e = .returned (.tuple #[.int .i64 0, .iface tp p]) ∧ Below w.heap.size w w' := by
  obtain ⟨tp, p, hv⟩ := h
  refine (Tryz.strconv_Atoi_err_var (stV []) (by rw [stV_size]; decide) (by rw [stV_l]; rfl) tp p w hv).mono ?_
  rintro e w' ⟨N, rfl, _, _, hb⟩
  exact ⟨_, _, rfl, hb⟩
def RetN2 (w : World) (n : Nt) (ok : Bool) (e : Ending) (w' : World) : Prop := e = .returned (.tuple #[.agg #[.bool n.1, .int .i64 n.2.1, .int .i64 n.2.2.1, .int .i64 n.2.2.2.1, .int .i64 n.2.2.2.2.1, .bool n.2.2.2.2.2], .bool ok]) ∧ Below w.heap.size w w'

set_option maxHeartbeats 4000000 in
theorem impl_ReadNote_t (T : Nat) (d : Bool) (w : World) (hv : nvB (true, 0, 0, 0, (T : Int), d) = true) (htb : Tb w) (hmx : Mx w) : Calls Tryz.prog 27 #[.string (stV (ntL (true, 0, 0, 0, (T : Int), d)))] w (RetN2 w (true, 0, 0, 0, (T : Int), d) true) := by
  have hT := nv_facts hv
  dsimp only at hT
  have HTB := Lib.hid htb; have HM := Lib.hid hmx; clear htb hmx
  have HFM : Hid (ntL (true, 0, 0, 0, (T : Int), d) = [114] ++ 47 :: (Lib.decDigits T ++ if d = true then [126] else [])) := Lib.hid (by rw [nt_form hv]; simp [toneL, tailL])
  have hlen : (ntL (true, 0, 0, 0, (T : Int), d)).length ≤ 1000 := Nat.le_trans nt_len (by decide)
  have HCUT : Hid (Lib.cut (ntL (true, 0, 0, 0, (T : Int), d)) [47] = ([114], Lib.decDigits T ++ (if d = true then [126] else []), true)) := Lib.hid (by rw [HFM.out]; exact cut_hit (by decide))
  have HSUF := Lib.hid (tail_cut T d)
  have htl : (Lib.decDigits T ++ (if d = true then [126] else [])).length ≤ 1000 := by
    have h1 := nt_len (n := (true, 0, 0, 0, (T : Int), d))
    rw [HFM.out] at h1; simp only [List.length_append, List.length_cons] at h1 ⊢; omega
  have ht1 : ((stV ([114])).toList == [114]) = true := stV_yes rfl
  generalize hxx : ntL (true, 0, 0, 0, (T : Int), d) = x at *
  have HX := Lib.hid hxx; clear hxx hv HFM
  generalize (Lib.decDigits T ++ if d = true then [126] else []) = y at *
  have e9 : ((stV x).toList != (stV x).toList) = false := by simp
  have HK := Lib.hid (Blk.new w 60 #[.bool false, .int .i64 0, .int .i64 0, .int .i64 0, .int .i64 0, .bool false])
  have HB := Lib.hid ((Below.refl w.heap.size w).alloc (Nat.le_refl _) (.cells #[.bool false, .int .i64 0, .int .i64 0, .int .i64 0, .int .i64 0, .bool false] 60))
  have z0 : w.heap.size + 1 ≤ (w.alloc (.cells #[.bool false, .int .i64 0, .int .i64 0, .int .i64 0, .int .i64 0, .bool false] 60)).heap.size := by simp
  go_enter Tryz.func27, Tryz.ntmps27
  go_upto_region 1 with fail
  generalize w.alloc (.cells #[.bool false, .int .i64 0, .int .i64 0, .int .i64 0, .int .i64 0, .bool false] 60) = w0 at *
  go_wp2_with fail
  refine (cut_ret HCUT.out hlen w0 (HM.out.next HB.out)).mono ?_
  rintro e w1 ⟨rfl, b1⟩
  have z1 := b1.size
  replace HK := Lib.hid (HK.out.below b1 (by omega)); replace HB := Lib.hid (HB.out.trans (b1.mono (by omega))); clear b1
  go_wp2_with fail
  refine (suf_ret HSUF.out htl w1).mono ?_
  rintro e w2 ⟨rfl, b2⟩
  have z2 := b2.size
  replace HK := Lib.hid (HK.out.below b2 (by omega)); replace HB := Lib.hid (HB.out.trans (b2.mono (by omega))); clear b2
  go_wp2_with fail
  refine (atoi_ret T (by omega) w2).mono ?_
  rintro e w3 ⟨rfl, b3⟩
  have z3 := b3.size
  replace HK := Lib.hid (HK.out.below b3 (by omega)); replace HB := Lib.hid (HB.out.trans (b3.mono (by omega))); clear b3
  have HN := Lib.hid (Blk.new w3 60 #[.bool true, .int .i64 0, .int .i64 0, .int .i64 0, .int .i64 T, .bool d])
  have z4 : w3.heap.size + 1 ≤ (w3.alloc (.cells #[.bool true, .int .i64 0, .int .i64 0, .int .i64 0, .int .i64 T, .bool d] 60)).heap.size := by simp
  replace HK := Lib.hid (HK.out.alloc (.cells #[.bool true, .int .i64 0, .int .i64 0, .int .i64 0, .int .i64 T, .bool d] 60)); replace HB := Lib.hid (HB.out.alloc (by omega) (.cells #[.bool true, .int .i64 0, .int .i64 0, .int .i64 0, .int .i64 T, .bool d] 60))
  go_upto_region 5 with fail
  generalize w3.alloc (.cells #[.bool true, .int .i64 0, .int .i64 0, .int .i64 0, .int .i64 T, .bool d] 60) = w4 at *
  have hb10 : w.heap.size < w3.heap.size := by omega
  have n0 := HN.out.cell 0
  go_upto_region 7 with fail
  clear n0
  have n0 := HN.out.cell 0; have n1 := HN.out.cell 1; have n2 := HN.out.cell 2; have n3 := HN.out.cell 3; have n4 := HN.out.cell 4; have n5 := HN.out.cell 5
  go_wp2_with fail
  refine (impl_NoteText true 0 0 0 T d _ (HTB.out.next HB.out)).mono ?_
  rw [HX.out]
  rintro e w9 ⟨rfl, b9⟩
  have z9 := b9.size
  clear n0 n1 n2 n3 n4 n5
  replace HN := Lib.hid (HN.out.below b9 (by omega)); replace HK := Lib.hid (HK.out.below b9 (by omega)); replace HB := Lib.hid (HB.out.trans (b9.mono (by omega))); clear b9
  have n0 := HN.out.cell 0; have n1 := HN.out.cell 1; have n2 := HN.out.cell 2; have n3 := HN.out.cell 3; have n4 := HN.out.cell 4; have n5 := HN.out.cell 5
  have d0 := HK.out.cell 0; have d1 := HK.out.cell 1; have d2 := HK.out.cell 2; have d3 := HK.out.cell 3; have d4 := HK.out.cell 4; have d5 := HK.out.cell 5
  have f0 := HK.out.frozen 0; have f1 := HK.out.frozen 1; have f2 := HK.out.frozen 2; have f3 := HK.out.frozen 3; have f4 := HK.out.frozen 4; have f5 := HK.out.frozen 5
  go_wp2_with fail
  have HK3 := Lib.hid ((((((HK.out.set_ 0 (.bool true)).set_ 1 (.int .i64 0)).set_ 2 (.int .i64 0)).set_ 3 (.int .i64 0)).set_ 4 (.int .i64 T)).set_ 5 (.bool d))
  have HB3 := Lib.hid (Below.setCell (Below.setCell (Below.setCell (Below.setCell (Below.setCell (Below.setCell HB.out (p := ⟨w.heap.size, 0, none⟩) (by first | exact Nat.le_refl _ | (simp; omega)) (.bool true)) (p := ⟨w.heap.size, 1, none⟩) (by first | exact Nat.le_refl _ | (simp; omega)) (.int .i64 0)) (p := ⟨w.heap.size, 2, none⟩) (by first | exact Nat.le_refl _ | (simp; omega)) (.int .i64 0)) (p := ⟨w.heap.size, 3, none⟩) (by first | exact Nat.le_refl _ | (simp; omega)) (.int .i64 0)) (p := ⟨w.heap.size, 4, none⟩) (by first | exact Nat.le_refl _ | (simp; omega)) (.int .i64 T)) (p := ⟨w.heap.size, 5, none⟩) (by first | exact Nat.le_refl _ | (simp; omega)) (.bool d))
  generalize ((((((w9.setCell ⟨w.heap.size, 0, none⟩ (.bool true)).setCell ⟨w.heap.size, 1, none⟩ (.int .i64 0)).setCell ⟨w.heap.size, 2, none⟩ (.int .i64 0)).setCell ⟨w.heap.size, 3, none⟩ (.int .i64 0)).setCell ⟨w.heap.size, 4, none⟩ (.int .i64 T)).setCell ⟨w.heap.size, 5, none⟩ (.bool d)) = WW at *
  have r0 : WW.cell? ⟨w.heap.size, 0, none⟩ = some (.bool true) := HK3.out.cell 0
  have r1 : WW.cell? ⟨w.heap.size, 1, none⟩ = some (.int .i64 0) := HK3.out.cell 1
  have r2 : WW.cell? ⟨w.heap.size, 2, none⟩ = some (.int .i64 0) := HK3.out.cell 2
  have r3 : WW.cell? ⟨w.heap.size, 3, none⟩ = some (.int .i64 0) := HK3.out.cell 3
  have r4 : WW.cell? ⟨w.heap.size, 4, none⟩ = some (.int .i64 T) := HK3.out.cell 4
  have r5 : WW.cell? ⟨w.heap.size, 5, none⟩ = some (.bool d) := HK3.out.cell 5
  refine bodyPost_ret (v := .tuple #[.agg #[.bool true, .int .i64 0, .int .i64 0, .int .i64 0, .int .i64 T, .bool d], .bool true]) (by simp [results, Tryz.results27, go_sem, r0, r1, r2, r3, r4, r5]) rfl ⟨rfl, HB3.out⟩
set_option maxHeartbeats 4000000 in
theorem impl_ReadNote_f (a b c : Int) (T : Nat) (d : Bool) (w : World) (hv : nvB (false, a, b, c, (T : Int), d) = true) (htb : Tb w) (hmx : Mx w) : Calls Tryz.prog 27 #[.string (stV (ntL (false, a, b, c, (T : Int), d)))] w (RetN2 w (false, a, b, c, (T : Int), d) true) := by
  have hT := nv_facts hv
  dsimp only at hT
  have HTB := Lib.hid htb; have HM := Lib.hid hmx; clear htb hmx
  have HFM : Hid (ntL (false, a, b, c, (T : Int), d) = ptL a b c ++ 47 :: (Lib.decDigits T ++ if d = true then [126] else [])) := Lib.hid (by rw [nt_form hv]; simp [toneL, tailL])
  have HPV : Hid (pvB a b c = true) := Lib.hid (by unfold nvB at hv; simp only [Bool.and_eq_true, Bool.false_eq_true, if_false] at hv; exact hv.2)
  have hlen : (ntL (false, a, b, c, (T : Int), d)).length ≤ 1000 := Nat.le_trans nt_len (by decide)
  have HCUT : Hid (Lib.cut (ntL (false, a, b, c, (T : Int), d)) [47] = (ptL a b c, Lib.decDigits T ++ (if d = true then [126] else []), true)) := Lib.hid (by rw [HFM.out]; exact cut_hit (fun h => (pt_mem _ h).2.1 rfl))
  have HSUF := Lib.hid (tail_cut T d)
  have htl : (Lib.decDigits T ++ (if d = true then [126] else [])).length ≤ 1000 := by
    have h1 := nt_len (n := (false, a, b, c, (T : Int), d))
    rw [HFM.out] at h1; simp only [List.length_append, List.length_cons] at h1 ⊢; omega
  have ht1 : ((stV (ptL a b c)).toList == [114]) = false := stV_no (fun h => by have h1 := congrArg List.head? h; rw [pt_form HPV.out] at h1; have h2 := Option.some.inj h1; have h3 := let_mem (pvB_iff.1 HPV.out).1; rw [h2] at h3; revert h3; decide)
  generalize hxx : ntL (false, a, b, c, (T : Int), d) = x at *
  have HX := Lib.hid hxx; clear hxx hv HFM
  generalize (Lib.decDigits T ++ if d = true then [126] else []) = y at *
  have e9 : ((stV x).toList != (stV x).toList) = false := by simp
  generalize hpt : ptL a b c = tn at *
  have HPT := Lib.hid hpt; clear hpt
  have HK := Lib.hid (Blk.new w 60 #[.bool false, .int .i64 0, .int .i64 0, .int .i64 0, .int .i64 0, .bool false])
  have HB := Lib.hid ((Below.refl w.heap.size w).alloc (Nat.le_refl _) (.cells #[.bool false, .int .i64 0, .int .i64 0, .int .i64 0, .int .i64 0, .bool false] 60))
  have z0 : w.heap.size + 1 ≤ (w.alloc (.cells #[.bool false, .int .i64 0, .int .i64 0, .int .i64 0, .int .i64 0, .bool false] 60)).heap.size := by simp
  go_enter Tryz.func27, Tryz.ntmps27
  go_upto_region 1 with fail
  generalize w.alloc (.cells #[.bool false, .int .i64 0, .int .i64 0, .int .i64 0, .int .i64 0, .bool false] 60) = w0 at *
  go_wp2_with fail
  refine (cut_ret HCUT.out hlen w0 (HM.out.next HB.out)).mono ?_
  rintro e w1 ⟨rfl, b1⟩
  have z1 := b1.size
  replace HK := Lib.hid (HK.out.below b1 (by omega)); replace HB := Lib.hid (HB.out.trans (b1.mono (by omega))); clear b1
  go_wp2_with fail
  refine (suf_ret HSUF.out htl w1).mono ?_
  rintro e w2 ⟨rfl, b2⟩
  have z2 := b2.size
  replace HK := Lib.hid (HK.out.below b2 (by omega)); replace HB := Lib.hid (HB.out.trans (b2.mono (by omega))); clear b2
  go_wp2_with fail
  refine (atoi_ret T (by omega) w2).mono ?_
  rintro e w3 ⟨rfl, b3⟩
  have z3 := b3.size
  replace HK := Lib.hid (HK.out.below b3 (by omega)); replace HB := Lib.hid (HB.out.trans (b3.mono (by omega))); clear b3
  have HN := Lib.hid (Blk.new w3 60 #[.bool false, .int .i64 0, .int .i64 0, .int .i64 0, .int .i64 T, .bool d])
  have z4 : w3.heap.size + 1 ≤ (w3.alloc (.cells #[.bool false, .int .i64 0, .int .i64 0, .int .i64 0, .int .i64 T, .bool d] 60)).heap.size := by simp
  replace HK := Lib.hid (HK.out.alloc (.cells #[.bool false, .int .i64 0, .int .i64 0, .int .i64 0, .int .i64 T, .bool d] 60)); replace HB := Lib.hid (HB.out.alloc (by omega) (.cells #[.bool false, .int .i64 0, .int .i64 0, .int .i64 0, .int .i64 T, .bool d] 60))
  go_upto_region 5 with fail
  generalize w3.alloc (.cells #[.bool false, .int .i64 0, .int .i64 0, .int .i64 0, .int .i64 T, .bool d] 60) = w4 at *
  have hb10 : w.heap.size < w3.heap.size := by omega
  have n0 := HN.out.cell 0
  go_wp2_with fail
  rw [← HPT.out]
  refine (impl_ReadPitch a b c w4 HPV.out).mono ?_
  rintro e w5 ⟨rfl, b5⟩
  have z5 := b5.size
  clear n0
  replace HN := Lib.hid (HN.out.below b5 (by omega)); replace HK := Lib.hid (HK.out.below b5 (by omega)); replace HB := Lib.hid (HB.out.trans (b5.mono (by omega))); clear b5
  have n1 := HN.out.cell 1; have n2 := HN.out.cell 2; have n3 := HN.out.cell 3; have m1 := HN.out.frozen 1; have m2 := HN.out.frozen 2; have m3 := HN.out.frozen 3
  go_upto_region 7 with fail
  clear n1 n2 n3 m1 m2 m3
  replace HN := Lib.hid (((HN.out.set_ 1 (.int .i64 a)).set_ 2 (.int .i64 b)).set_ 3 (.int .i64 c)); replace HK := Lib.hid (((HK.out.far (p := ⟨w3.heap.size, 1, none⟩) (by first | (simp; done) | (simp; omega)) (.int .i64 a)).far (p := ⟨w3.heap.size, 2, none⟩) (by first | (simp; done) | (simp; omega)) (.int .i64 b)).far (p := ⟨w3.heap.size, 3, none⟩) (by first | (simp; done) | (simp; omega)) (.int .i64 c)); replace HB := Lib.hid (Below.setCell (Below.setCell (Below.setCell HB.out (p := ⟨w3.heap.size, 1, none⟩) (by first | exact Nat.le_refl _ | (simp; omega)) (.int .i64 a)) (p := ⟨w3.heap.size, 2, none⟩) (by first | exact Nat.le_refl _ | (simp; omega)) (.int .i64 b)) (p := ⟨w3.heap.size, 3, none⟩) (by first | exact Nat.le_refl _ | (simp; omega)) (.int .i64 c))
  have z6 : w5.heap.size ≤ (((w5.setCell ⟨w3.heap.size, 1, none⟩ (.int .i64 a)).setCell ⟨w3.heap.size, 2, none⟩ (.int .i64 b)).setCell ⟨w3.heap.size, 3, none⟩ (.int .i64 c)).heap.size := by simp
  generalize (((w5.setCell ⟨w3.heap.size, 1, none⟩ (.int .i64 a)).setCell ⟨w3.heap.size, 2, none⟩ (.int .i64 b)).setCell ⟨w3.heap.size, 3, none⟩ (.int .i64 c)) = w6 at *
  have n0 := HN.out.cell 0; have n1 := HN.out.cell 1; have n2 := HN.out.cell 2; have n3 := HN.out.cell 3; have n4 := HN.out.cell 4; have n5 := HN.out.cell 5
  go_wp2_with fail
  refine (impl_NoteText false a b c T d _ (HTB.out.next HB.out)).mono ?_
  rw [HX.out]
  rintro e w9 ⟨rfl, b9⟩
  have z9 := b9.size
  clear n0 n1 n2 n3 n4 n5
  replace HN := Lib.hid (HN.out.below b9 (by omega)); replace HK := Lib.hid (HK.out.below b9 (by omega)); replace HB := Lib.hid (HB.out.trans (b9.mono (by omega))); clear b9
  have n0 := HN.out.cell 0; have n1 := HN.out.cell 1; have n2 := HN.out.cell 2; have n3 := HN.out.cell 3; have n4 := HN.out.cell 4; have n5 := HN.out.cell 5
  have d0 := HK.out.cell 0; have d1 := HK.out.cell 1; have d2 := HK.out.cell 2; have d3 := HK.out.cell 3; have d4 := HK.out.cell 4; have d5 := HK.out.cell 5
  have f0 := HK.out.frozen 0; have f1 := HK.out.frozen 1; have f2 := HK.out.frozen 2; have f3 := HK.out.frozen 3; have f4 := HK.out.frozen 4; have f5 := HK.out.frozen 5
  go_wp2_with fail
  have HK3 := Lib.hid ((((((HK.out.set_ 0 (.bool false)).set_ 1 (.int .i64 a)).set_ 2 (.int .i64 b)).set_ 3 (.int .i64 c)).set_ 4 (.int .i64 T)).set_ 5 (.bool d))
  have HB3 := Lib.hid (Below.setCell (Below.setCell (Below.setCell (Below.setCell (Below.setCell (Below.setCell HB.out (p := ⟨w.heap.size, 0, none⟩) (by first | exact Nat.le_refl _ | (simp; omega)) (.bool false)) (p := ⟨w.heap.size, 1, none⟩) (by first | exact Nat.le_refl _ | (simp; omega)) (.int .i64 a)) (p := ⟨w.heap.size, 2, none⟩) (by first | exact Nat.le_refl _ | (simp; omega)) (.int .i64 b)) (p := ⟨w.heap.size, 3, none⟩) (by first | exact Nat.le_refl _ | (simp; omega)) (.int .i64 c)) (p := ⟨w.heap.size, 4, none⟩) (by first | exact Nat.le_refl _ | (simp; omega)) (.int .i64 T)) (p := ⟨w.heap.size, 5, none⟩) (by first | exact Nat.le_refl _ | (simp; omega)) (.bool d))
  generalize ((((((w9.setCell ⟨w.heap.size, 0, none⟩ (.bool false)).setCell ⟨w.heap.size, 1, none⟩ (.int .i64 a)).setCell ⟨w.heap.size, 2, none⟩ (.int .i64 b)).setCell ⟨w.heap.size, 3, none⟩ (.int .i64 c)).setCell ⟨w.heap.size, 4, none⟩ (.int .i64 T)).setCell ⟨w.heap.size, 5, none⟩ (.bool d)) = WW at *
  have r0 : WW.cell? ⟨w.heap.size, 0, none⟩ = some (.bool false) := HK3.out.cell 0
  have r1 : WW.cell? ⟨w.heap.size, 1, none⟩ = some (.int .i64 a) := HK3.out.cell 1
  have r2 : WW.cell? ⟨w.heap.size, 2, none⟩ = some (.int .i64 b) := HK3.out.cell 2
  have r3 : WW.cell? ⟨w.heap.size, 3, none⟩ = some (.int .i64 c) := HK3.out.cell 3
  have r4 : WW.cell? ⟨w.heap.size, 4, none⟩ = some (.int .i64 T) := HK3.out.cell 4
  have r5 : WW.cell? ⟨w.heap.size, 5, none⟩ = some (.bool d) := HK3.out.cell 5
  refine bodyPost_ret (v := .tuple #[.agg #[.bool false, .int .i64 a, .int .i64 b, .int .i64 c, .int .i64 T, .bool d], .bool true]) (by simp [results, Tryz.results27, go_sem, r0, r1, r2, r3, r4, r5]) rfl ⟨rfl, HB3.out⟩
set_option maxHeartbeats 4000000 in
theorem impl_ReadNote_q (w : World) (hmx : Mx w) (hes : Es w) : Calls Tryz.prog 27 #[.string (stV [63])] w (RetN2 w (false, 0, 0, 0, 0, false) false) := by
  have HM := Lib.hid hmx; have HE := Lib.hid hes; clear hmx hes
  have HCUT : Hid (Lib.cut [63] [47] = ([63], [], false)) := Lib.hid (cut_none (by decide))
  have HSUF : Hid (Lib.hasSuffix [] [126] = false ∧ Lib.trimSuffix [] [126] = []) := Lib.hid (suf_none (by simp))
  have ht1 : ((stV [63]).toList == [114]) = false := stV_no (by decide)
  have HK := Lib.hid (Blk.new w 60 #[.bool false, .int .i64 0, .int .i64 0, .int .i64 0, .int .i64 0, .bool false])
  have HB := Lib.hid ((Below.refl w.heap.size w).alloc (Nat.le_refl _) (.cells #[.bool false, .int .i64 0, .int .i64 0, .int .i64 0, .int .i64 0, .bool false] 60))
  have z0 : w.heap.size + 1 ≤ (w.alloc (.cells #[.bool false, .int .i64 0, .int .i64 0, .int .i64 0, .int .i64 0, .bool false] 60)).heap.size := by simp
  go_enter Tryz.func27, Tryz.ntmps27
  go_upto_region 1 with fail
  generalize w.alloc (.cells #[.bool false, .int .i64 0, .int .i64 0, .int .i64 0, .int .i64 0, .bool false] 60) = w0 at *
  go_wp2_with fail
  refine (cut_ret HCUT.out (by decide) w0 (HM.out.next HB.out)).mono ?_
  rintro e w1 ⟨rfl, b1⟩
  have z1 := b1.size
  replace HK := Lib.hid (HK.out.below b1 (by omega)); replace HB := Lib.hid (HB.out.trans (b1.mono (by omega))); clear b1
  go_wp2_with fail
  refine (suf_ret HSUF.out (by decide) w1).mono ?_
  rintro e w2 ⟨rfl, b2⟩
  have z2 := b2.size
  replace HK := Lib.hid (HK.out.below b2 (by omega)); replace HB := Lib.hid (HB.out.trans (b2.mono (by omega))); clear b2
  go_wp2_with fail
  refine (atoi_bad w2 (HE.out.next HB.out)).mono ?_
  rintro e w3 ⟨tp, pv, rfl, b3⟩
  have z3 := b3.size
  replace HK := Lib.hid (HK.out.below b3 (by omega)); replace HB := Lib.hid (HB.out.trans (b3.mono (by omega))); clear b3
  have HN := Lib.hid (Blk.new w3 60 #[.bool false, .int .i64 0, .int .i64 0, .int .i64 0, .int .i64 0, .bool false])
  have z4 : w3.heap.size + 1 ≤ (w3.alloc (.cells #[.bool false, .int .i64 0, .int .i64 0, .int .i64 0, .int .i64 0, .bool false] 60)).heap.size := by simp
  replace HK := Lib.hid (HK.out.alloc (.cells #[.bool false, .int .i64 0, .int .i64 0, .int .i64 0, .int .i64 0, .bool false] 60)); replace HB := Lib.hid (HB.out.alloc (by omega) (.cells #[.bool false, .int .i64 0, .int .i64 0, .int .i64 0, .int .i64 0, .bool false] 60))
  go_upto_region 5 with fail
  generalize w3.alloc (.cells #[.bool false, .int .i64 0, .int .i64 0, .int .i64 0, .int .i64 0, .bool false] 60) = w4 at *
  have hb10 : w.heap.size < w3.heap.size := by omega
  have n0 := HN.out.cell 0
  go_wp2_with fail
  refine (impl_ReadPitch_short [63] w4 (by decide)).mono ?_
  rintro e w5 ⟨rfl, b5⟩
  have z5 := b5.size
  clear n0
  replace HN := Lib.hid (HN.out.below b5 (by omega)); replace HK := Lib.hid (HK.out.below b5 (by omega)); replace HB := Lib.hid (HB.out.trans (b5.mono (by omega))); clear b5
  have n1 := HN.out.cell 1; have n2 := HN.out.cell 2; have n3 := HN.out.cell 3; have m1 := HN.out.frozen 1; have m2 := HN.out.frozen 2; have m3 := HN.out.frozen 3
  go_upto_region 7 with fail
  clear n1 n2 n3 m1 m2 m3
  replace HN := Lib.hid (((HN.out.set_ 1 (.int .i64 0)).set_ 2 (.int .i64 0)).set_ 3 (.int .i64 0)); replace HK := Lib.hid (((HK.out.far (p := ⟨w3.heap.size, 1, none⟩) (by first | (simp; done) | (simp; omega)) (.int .i64 0)).far (p := ⟨w3.heap.size, 2, none⟩) (by first | (simp; done) | (simp; omega)) (.int .i64 0)).far (p := ⟨w3.heap.size, 3, none⟩) (by first | (simp; done) | (simp; omega)) (.int .i64 0)); replace HB := Lib.hid (Below.setCell (Below.setCell (Below.setCell HB.out (p := ⟨w3.heap.size, 1, none⟩) (by first | exact Nat.le_refl _ | (simp; omega)) (.int .i64 0)) (p := ⟨w3.heap.size, 2, none⟩) (by first | exact Nat.le_refl _ | (simp; omega)) (.int .i64 0)) (p := ⟨w3.heap.size, 3, none⟩) (by first | exact Nat.le_refl _ | (simp; omega)) (.int .i64 0))
  generalize (((w5.setCell ⟨w3.heap.size, 1, none⟩ (.int .i64 0)).setCell ⟨w3.heap.size, 2, none⟩ (.int .i64 0)).setCell ⟨w3.heap.size, 3, none⟩ (.int .i64 0)) = w6 at *
  have d0 := HK.out.cell 0; have d1 := HK.out.cell 1; have d2 := HK.out.cell 2; have d3 := HK.out.cell 3; have d4 := HK.out.cell 4; have d5 := HK.out.cell 5
  have f0 := HK.out.frozen 0; have f1 := HK.out.frozen 1; have f2 := HK.out.frozen 2; have f3 := HK.out.frozen 3; have f4 := HK.out.frozen 4; have f5 := HK.out.frozen 5
  go_wp2_with fail
  have HK3 := Lib.hid ((((((HK.out.set_ 0 (.bool false)).set_ 1 (.int .i64 0)).set_ 2 (.int .i64 0)).set_ 3 (.int .i64 0)).set_ 4 (.int .i64 0)).set_ 5 (.bool false))
  have HB3 := Lib.hid (Below.setCell (Below.setCell (Below.setCell (Below.setCell (Below.setCell (Below.setCell HB.out (p := ⟨w.heap.size, 0, none⟩) (by first | exact Nat.le_refl _ | (simp; omega)) (.bool false)) (p := ⟨w.heap.size, 1, none⟩) (by first | exact Nat.le_refl _ | (simp; omega)) (.int .i64 0)) (p := ⟨w.heap.size, 2, none⟩) (by first | exact Nat.le_refl _ | (simp; omega)) (.int .i64 0)) (p := ⟨w.heap.size, 3, none⟩) (by first | exact Nat.le_refl _ | (simp; omega)) (.int .i64 0)) (p := ⟨w.heap.size, 4, none⟩) (by first | exact Nat.le_refl _ | (simp; omega)) (.int .i64 0)) (p := ⟨w.heap.size, 5, none⟩) (by first | exact Nat.le_refl _ | (simp; omega)) (.bool false))
  generalize ((((((w6.setCell ⟨w.heap.size, 0, none⟩ (.bool false)).setCell ⟨w.heap.size, 1, none⟩ (.int .i64 0)).setCell ⟨w.heap.size, 2, none⟩ (.int .i64 0)).setCell ⟨w.heap.size, 3, none⟩ (.int .i64 0)).setCell ⟨w.heap.size, 4, none⟩ (.int .i64 0)).setCell ⟨w.heap.size, 5, none⟩ (.bool false)) = WW at *
  have r0 : WW.cell? ⟨w.heap.size, 0, none⟩ = some (.bool false) := HK3.out.cell 0
  have r1 : WW.cell? ⟨w.heap.size, 1, none⟩ = some (.int .i64 0) := HK3.out.cell 1
  have r2 : WW.cell? ⟨w.heap.size, 2, none⟩ = some (.int .i64 0) := HK3.out.cell 2
  have r3 : WW.cell? ⟨w.heap.size, 3, none⟩ = some (.int .i64 0) := HK3.out.cell 3
  have r4 : WW.cell? ⟨w.heap.size, 4, none⟩ = some (.int .i64 0) := HK3.out.cell 4
  have r5 : WW.cell? ⟨w.heap.size, 5, none⟩ = some (.bool false) := HK3.out.cell 5
  refine bodyPost_ret (v := .tuple #[.agg #[.bool false, .int .i64 0, .int .i64 0, .int .i64 0, .int .i64 0, .bool false], .bool false]) (by simp [results, Tryz.results27, go_sem, r0, r1, r2, r3, r4, r5]) rfl ⟨rfl, HB3.out⟩
end Go.Proofs.YtmodpleonhniaaaGreatDoor
