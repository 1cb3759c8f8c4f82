/- The contract of the program's NoteText. Condition: the table of powers of ten is laid (Tb). -/
import Derived.Test.YtmodpleonhniaaaGreatDoorPtx2
import Derived.Test.YtmodpleonhniaaaGreatDoorNtx
namespace Go.Proofs.YtmodpleonhniaaaGreatDoor
open Go.RowKit
set_option linter.unusedSimpArgs false
set_option linter.unusedVariables false
set_option maxRecDepth 100000
/-- the table of powers of ten is laid, at w and wherever nothing old has turned -/
def Tb (w : World) : Prop := ∀ w', Below w.heap.size w w' → Lib.TabIs Tryz.prog w' "internal/strconv.uint64pow10" .u64 Lib.pow10Tab
theorem tab_below {n : String} {g : Nat} {k : IntKind} {zs : List Int} {w w' : World} (hg : Tryz.prog.globalNamed n = some g) (h : Lib.TabIs Tryz.prog w n k zs) (hb : Below w.heap.size w w') : Lib.TabIs Tryz.prog w' n k zs := by
  unfold Lib.TabIs World.var? at h ⊢
  rw [hg] at h ⊢
  simp only [Option.bind_some] at h ⊢
  have hlt : g < w.heap.size := by
    rcases Nat.lt_or_ge g w.heap.size with h' | h'
    · exact h'
    · rw [Array.getElem?_eq_none h'] at h; cases h
  rw [hb.block g hlt]
  exact h
theorem Tb.next {w w1 : World} (h : Tb w) (hb : Below w.heap.size w w1) : Tb w1 := fun w' k => h w' (hb.trans (k.mono hb.size))
theorem itoa_ret (T : Nat) (hT : T ≤ 9223372036854775807) (w : World) (h : Lib.TabIs Tryz.prog w "internal/strconv.uint64pow10" .u64 Lib.pow10Tab) : Calls Tryz.prog 37 #[.int .i64 T] w (RetS w (Lib.decDigits T)) := by
  refine (Tryz.strconv_Itoa T (by omega) (by omega) w h).mono ?_
  rintro e w' ⟨rfl, k, os, rfl⟩
  refine ⟨ret_st ?_, ⟨rfl, rfl, rfl, ?_, ?_⟩⟩
  · unfold Lib.itoa; rw [if_neg (by omega), Int.toNat_natCast]; rfl
  · simp [Go.Sort.grow]
  · intro j hj; simp [Go.Sort.grow, Array.getElem?_append, hj]
set_option maxHeartbeats 2000000 in
theorem impl_NoteText (r : Bool) (a b c t : Int) (d : Bool) (w : World) (ht : Tb w) : Calls Tryz.prog 57 #[.agg #[.bool r, .int .i64 a, .int .i64 b, .int .i64 c, .int .i64 t, .bool d]] w (RetS w (ntL (r, a, b, c, t, d))) := by
  have HT := Lib.hid ht; clear ht
  have HK := Lib.hid (Blk.new w 60 #[.bool r, .int .i64 a, .int .i64 b, .int .i64 c, .int .i64 t, .bool d])
  have HB := Lib.hid ((Below.refl w.heap.size w).alloc (Nat.le_refl _) (.cells #[.bool r, .int .i64 a, .int .i64 b, .int .i64 c, .int .i64 t, .bool d] 60))
  have z0 : w.heap.size + 1 ≤ (w.alloc (.cells #[.bool r, .int .i64 a, .int .i64 b, .int .i64 c, .int .i64 t, .bool d] 60)).heap.size := by simp
  cases hv : nvB (r, a, b, c, t, d)
  · have HF : Hid (ntL (r, a, b, c, t, d) = []) := Lib.hid (if_neg (by rw [hv]; simp))
    have HV := Lib.hid hv; clear hv
    go_enter Tryz.func57, Tryz.ntmps57
    go_upto_region 1 with fail
    generalize w.alloc (.cells #[.bool r, .int .i64 a, .int .i64 b, .int .i64 c, .int .i64 t, .bool d] 60) = w0 at *
    have p0 := HK.out.cell 0; have p1 := HK.out.cell 1; have p2 := HK.out.cell 2; have p3 := HK.out.cell 3; have p4 := HK.out.cell 4; have p5 := HK.out.cell 5
    go_wp2_with fail
    refine (impl_NoteValid r a b c t d _).mono ?_
    rw [HV.out]
    rintro e w1 ⟨rfl, b1⟩
    have HB2 := Lib.hid (HB.out.trans (b1.mono (by omega))); clear b1
    go_wp2_with fail
    go_ret
    exact ⟨ret_st (by rw [HF.out]; rfl), HB2.out⟩
  have hn := nv_facts hv
  dsimp only at hn
  have HF : Hid (ntL (r, a, b, c, t, d) = ntB (r, a, b, c, t, d)) := Lib.hid (if_pos hv)
  have HN : Hid (ntB (r, a, b, c, t, d) = (if r = true then [114] else ptL a b c) ++ [47] ++ Lib.decDigits t.toNat ++ (if d = true then [126] else [])) := Lib.hid rfl
  have HV := Lib.hid hv; clear hv
  obtain ⟨T, rfl⟩ : ∃ T : Nat, t = (T : Int) := ⟨t.toNat, by omega⟩
  have hdl := dec_len (N := T) (by omega)
  have hpl := pt_len a b c
  go_enter Tryz.func57, Tryz.ntmps57
  go_upto_region 1 with fail
  generalize w.alloc (.cells #[.bool r, .int .i64 a, .int .i64 b, .int .i64 c, .int .i64 T, .bool d] 60) = w0 at *
  have p0 := HK.out.cell 0; have p1 := HK.out.cell 1; have p2 := HK.out.cell 2; have p3 := HK.out.cell 3; have p4 := HK.out.cell 4; have p5 := HK.out.cell 5
  go_wp2_with fail
  refine (impl_NoteValid r a b c T d _).mono ?_
  rw [HV.out]
  rintro e w1 ⟨rfl, b1⟩
  have z1 := b1.size
  clear p0 p1 p2 p3 p4 p5
  replace HK := Lib.hid (HK.out.below b1 (by omega)); replace HB := Lib.hid (HB.out.trans (b1.mono (by omega))); clear b1
  have p0 := HK.out.cell 0; have p1 := HK.out.cell 1; have p2 := HK.out.cell 2; have p3 := HK.out.cell 3; have p4 := HK.out.cell 4; have p5 := HK.out.cell 5
  have hdd : (stV (Lib.decDigits T)).size = (Lib.decDigits T).length := stV_size _
  generalize hx : Lib.decDigits T = x at *
  have HX : Hid (Lib.decDigits ((T : Int).toNat) = x) := Lib.hid (by rw [Int.toNat_natCast]; exact hx)
  have HX2 := Lib.hid hx; clear hx
  have hzo : (ByteArray.mk #[126]).size = 1 := rfl
  have hzs : (ByteArray.mk #[47]).size = 1 := rfl
  have hs1 : ByteArray.mk #[47] ++ stV x = stV (47 :: x) := stV_app [47] x
  have hs2 : (stV (47 :: x)).size = x.length + 1 := stV_size _
  have hq0 : ¬ (9223372036854775807 : Int) < 1 + (x.length : Int) := by omega
  cases r
  case true =>
    have hs3 : (ByteArray.mk #[114]).size = 1 := rfl
    have hs4 : ByteArray.mk #[114] ++ stV (47 :: x) = stV (114 :: 47 :: x) := stV_app [114] (47 :: x)
    have hs5 : (stV (114 :: 47 :: x)).size = x.length + 1 + 1 := stV_size _
    have hs6 : stV (114 :: 47 :: x) ++ ByteArray.mk #[126] = stV ([114, 47] ++ x ++ [126]) := stV_app _ [126]
    have hq1 : ¬ (9223372036854775807 : Int) < 1 + ((x.length : Int) + 1) := by omega
    have hq2 : ¬ (9223372036854775807 : Int) < (x.length : Int) + 1 + 1 + 1 := by omega
    cases d
    all_goals
      go_wp2_with (go_at_call 37; refine (itoa_ret T (by omega) _ (HT.out _ HB.out)).mono ?_; rw [HX2.out]; rintro e w3 ⟨rfl, b3⟩; replace HK := Lib.hid (HK.out.below b3 (by omega)); replace HB := Lib.hid (HB.out.trans (b3.mono (by omega))); clear b3 p0 p1 p2 p3 p4 p5; have p5 := HK.out.cell 5)
      go_ret
      exact ⟨ret_st (by rw [HF.out, HN.out, HX.out]; simp), HB.out⟩
  case false =>
    have hzp := stV_size (ptL a b c)
    generalize hy : ptL a b c = y at *
    have HY := Lib.hid hy; clear hy
    have hs4 : stV y ++ stV (47 :: x) = stV (y ++ 47 :: x) := stV_app _ _
    have hs5 : (stV (y ++ 47 :: x)).size = y.length + (x.length + 1) := (stV_size _).trans (by simp)
    have hs6 : stV (y ++ 47 :: x) ++ ByteArray.mk #[126] = stV (y ++ 47 :: x ++ [126]) := stV_app _ [126]
    have hq1 : ¬ (9223372036854775807 : Int) < (y.length : Int) + ((x.length : Int) + 1) := by omega
    have hq2 : ¬ (9223372036854775807 : Int) < (y.length : Int) + ((x.length : Int) + 1) + 1 := by omega
    cases d
    all_goals
      go_wp2_with (first
        | (go_at_call 80; refine (impl_PitchText a b c _).mono ?_; rw [HY.out]; rintro e w2 ⟨rfl, b2⟩; replace HK := Lib.hid (HK.out.below b2 (by omega)); have z2 := b2.size; replace HB := Lib.hid (HB.out.trans (b2.mono (by omega))); clear b2 p0 p1 p2 p3 p4 p5; have p4 := HK.out.cell 4; have p5 := HK.out.cell 5)
        | (go_at_call 37; refine (itoa_ret T (by omega) _ (HT.out _ HB.out)).mono ?_; rw [HX2.out]; rintro e w3 ⟨rfl, b3⟩; replace HK := Lib.hid (HK.out.below b3 (by omega)); replace HB := Lib.hid (HB.out.trans (b3.mono (by omega))); clear b3 p4 p5; have p5 := HK.out.cell 5))
      go_ret
      exact ⟨ret_st (by rw [HF.out, HN.out, HX.out]; simp), HB.out⟩
end Go.Proofs.YtmodpleonhniaaaGreatDoor
