/- Contracts of the exact laws' helpers on whole songs: copy, compare, write, count. Conditions: lengths at most 2^20. -/
import Derived.Test.YtopdgkhmeglflaaDoorRecSong
namespace Go.Proofs.YtopdgkhmeglflaaDoor
open Go.RowKit
set_option linter.unusedSimpArgs false
set_option linter.unusedVariables false
set_option maxRecDepth 100000
/-- a song of the call's own: tempos within lo .. mid, voices within mid .. hi -/
structure SgO (w : World) (lo mid hi : Nat) (C : Option Addr) (d : Nat) (nt : Nat) (tc : List Value) (A : Option Addr) (c n : Nat) (X : Nat → List Nt) (hs : List Hd) : Prop where
  row : Row w lo mid 72 2 C d nt tc
  own : OwX w mid hi A c n X hs
  le1 : lo ≤ mid
  le2 : mid ≤ hi
theorem SgO.below {w w' : World} {lo mid hi B d nt c n : Nat} {C A : Option Addr} {tc : List Value} {X : Nat → List Nt} {hs : List Hd} (h : SgO w lo mid hi C d nt tc A c n X hs) (hb : Below B w w') (hB : hi ≤ B) : SgO w' lo mid hi C d nt tc A c n X hs :=
  ⟨h.row.below hb (Nat.le_trans h.le2 hB), h.own.below hb hB, h.le1, h.le2⟩
theorem SgO.inB {w w' : World} {lo mid hi lo' hi' d nt c n : Nat} {C A : Option Addr} {tc : List Value} {X : Nat → List Nt} {hs : List Hd} (h : SgO w lo mid hi C d nt tc A c n X hs) (hb : InB lo' hi' w w') (hd : hi ≤ lo' ∨ hi' ≤ lo) : SgO w' lo mid hi C d nt tc A c n X hs :=
  ⟨hb.row h.row (by have := h.le2; have := h.le1; omega), h.own.inB hb (by have := h.le2; have := h.le1; omega), h.le1, h.le2⟩
theorem SgO.rdT {w : World} {lo mid hi d c n : Nat} {C A : Option Addr} {ts : List (Int × Int)} {X : Nat → List Nt} {hs : List Hd} (h : SgO w lo mid hi C d ts.length (fl encTempo ts) A c n X hs) {B : Nat} (hB : hi ≤ B) : RdTempo w B C ts := RdTempo.more h.row.rdTempo (Nat.le_trans h.le2 hB)
theorem SgO.rdV {w : World} {lo mid hi d nt c : Nat} {C A : Option Addr} {tc : List Value} {vs : List (List Nt)} {hs : List Hd} (h : SgO w lo mid hi C d nt tc A c vs.length (glV vs) hs) {B : Nat} (hB : hi ≤ B) : RdVs w B A vs := RdVs.more h.own.rd hB
def RetSg (f : Int) (m : Bool) (b u : Int) (ts : List (Int × Int)) (vs : List (List Nt)) (w : World) (e : Ending) (w' : World) : Prop :=
  ∃ C A d c mid hs, e = .returned (.agg #[.int .i64 f, .bool m, .int .i64 b, .int .i64 u, .slice C ts.length d, .slice A vs.length c]) ∧ SgO w' w.heap.size mid w'.heap.size C d ts.length (fl encTempo ts) A c vs.length (glV vs) hs ∧ Below w.heap.size w w'
set_option maxHeartbeats 4000000 in
theorem laws_toSong (f : Int) (m : Bool) (b u : Int) (C A : Option Addr) (d c : Nat) (ts : List (Int × Int)) (vs : List (List Nt)) (w : World) (hT : RdTempo w w.heap.size C ts) (hV : RdVs w w.heap.size A vs) (hlt : ts.length ≤ 1048576) (hlv : LenV vs) :
    Calls Tryd.prog 6 #[.agg #[.int .i64 f, .bool m, .int .i64 b, .int .i64 u, .slice C ts.length d, .slice A vs.length c]] w (RetSg f m b u ts vs w) := by
  have HT := Lib.hid hT; have HV := Lib.hid hV; clear hT hV
  go_enter Tryd.func6, Tryd.ntmps6
  go_wp2_with fail
  refine (laws_toMeter b u _).mono ?_
  rintro e w1 ⟨rfl, b1⟩
  have z1 := b1.size
  simp only [World.size_alloc, size_set'] at z1
  have k0 : Blk w1 w.heap.size 27 #[.int .i64 f, .bool m, .int .i64 b, .int .i64 u, .slice C ts.length d, .slice A vs.length c] := by
    refine Blk.below ?_ b1 (by simp; omega)
    repeat (first | exact Blk.new _ _ _ | refine Blk.far ?_ (by simp) _ | refine Blk.alloc ?_ _)
  have k1 : Blk w1 (w.heap.size + 1) 34 #[.int .i64 0, .bool false, .int .i64 0, .int .i64 0, .slice none 0 0, .slice none 0 0] := by
    refine Blk.below ?_ b1 (by simp)
    repeat (first | exact Blk.newAt (by simp) | refine Blk.far ?_ (by simp) _ | refine Blk.alloc ?_ _)
  have k2 : Blk w1 (w.heap.size + 1 + 1) 34 #[.int .i64 f, .bool m, .int .i64 0, .int .i64 0, .slice none 0 0, .slice none 0 0] := by
    refine Blk.below ?_ b1 (by simp)
    exact Blk.newAt (by simp)
  have hb1 : Below w.heap.size w w1 := by
    refine Below.trans ?_ (b1.mono (by simp; omega))
    (repeat (first | exact Below.refl _ _ | refine Below.setCell ?_ (by simp; try omega) _ | refine Below.alloc ?_ (by simp; try omega) _))
  have HB := Lib.hid hb1; clear b1 hb1
  have HK0 := Lib.hid k0; have HK1 := Lib.hid k1; have HK2 := Lib.hid k2
  have c4 := k0.cell 4
  have f2 := k2.frozen 2; have f3 := k2.frozen 3; have e2 := k2.cell 2; have e3 := k2.cell 3
  clear k0 k1 k2
  go_upto_region 5 with fail
  replace HB := Lib.hid ((HB.out.setCell (p := ⟨w.heap.size + 1 + 1, 2, none⟩) (by simp; omega) (.int .i64 b)).setCell (p := ⟨w.heap.size + 1 + 1, 3, none⟩) (by simp; omega) (.int .i64 u))
  replace HK0 := Lib.hid ((HK0.out.far (p := ⟨w.heap.size + 1 + 1, 2, none⟩) (by first | (simp; done) | (simp; omega)) (.int .i64 b)).far (p := ⟨w.heap.size + 1 + 1, 3, none⟩) (by first | (simp; done) | (simp; omega)) (.int .i64 u))
  replace HK1 := Lib.hid ((HK1.out.far (p := ⟨w.heap.size + 1 + 1, 2, none⟩) (by first | (simp; done) | (simp; omega)) (.int .i64 b)).far (p := ⟨w.heap.size + 1 + 1, 3, none⟩) (by first | (simp; done) | (simp; omega)) (.int .i64 u))
  replace HK2 := Lib.hid (show Blk _ _ _ #[.int .i64 f, .bool m, .int .i64 b, .int .i64 u, .slice none 0 0, .slice none 0 0] from (HK2.out.set_ 2 (.int .i64 b)).set_ 3 (.int .i64 u))
  have zz : w1.heap.size ≤ ((w1.setCell ⟨w.heap.size + 1 + 1, 2, none⟩ (.int .i64 b)).setCell ⟨w.heap.size + 1 + 1, 3, none⟩ (.int .i64 u)).heap.size := by simp
  clear c4 f2 f3 e2 e3
  generalize (w1.setCell ⟨w.heap.size + 1 + 1, 2, none⟩ (.int .i64 b)).setCell ⟨w.heap.size + 1 + 1, 3, none⟩ (.int .i64 u) = wa at *
  have c4 := HK0.out.cell 4
  go_wp2_with fail
  refine (laws_toTempoS _ _ _ _ (RdTempo.more (RdTempo.below HT.out HB.out (Nat.le_refl _)) (by omega)) hlt).mono ?_
  rintro e w2 ⟨C2, d2, rfl, o2, b2⟩
  have z2 := b2.size
  replace HB := Lib.hid (HB.out.trans (b2.mono (by omega))); replace HK0 := Lib.hid (HK0.out.below b2 (by omega)); replace HK1 := Lib.hid (HK1.out.below b2 (by omega)); replace HK2 := Lib.hid (HK2.out.below b2 (by omega))
  have HRT := Lib.hid (Row.mk_ o2)
  clear c4 b2 o2
  have f4 := HK2.out.frozen 4; have e4 := HK2.out.cell 4
  go_upto_region 6 with fail
  replace HB := Lib.hid (HB.out.setCell (p := ⟨w.heap.size + 1 + 1, 4, none⟩) (by simp; omega) (.slice C2 ts.length d2))
  replace HK0 := Lib.hid (HK0.out.far (p := ⟨w.heap.size + 1 + 1, 4, none⟩) (by first | (simp; done) | (simp; omega)) (.slice C2 ts.length d2))
  replace HK1 := Lib.hid (HK1.out.far (p := ⟨w.heap.size + 1 + 1, 4, none⟩) (by first | (simp; done) | (simp; omega)) (.slice C2 ts.length d2))
  replace HK2 := Lib.hid (show Blk _ _ _ #[.int .i64 f, .bool m, .int .i64 b, .int .i64 u, .slice C2 ts.length d2, .slice none 0 0] from HK2.out.set_ 4 (.slice C2 ts.length d2))
  replace HRT := Lib.hid (HRT.out.setOff (p := ⟨w.heap.size + 1 + 1, 4, none⟩) (.inl (by simp; omega)) (.slice C2 ts.length d2))
  have zz2 : w2.heap.size = (w2.setCell ⟨w.heap.size + 1 + 1, 4, none⟩ (.slice C2 ts.length d2)).heap.size := by simp
  clear f4 e4
  have HZ2 := Lib.hid zz2; clear zz2
  generalize w2.setCell ⟨w.heap.size + 1 + 1, 4, none⟩ (.slice C2 ts.length d2) = wb at *
  have hzb : w2.heap.size ≤ wb.heap.size := by have := HZ2.out; omega
  rw [HZ2.out] at HRT
  have c5 := HK0.out.cell 5
  go_wp2_with fail
  refine (laws_toNoteSS _ _ _ _ (RdVs.more (RdVs.below HV.out HB.out (Nat.le_refl _)) (by omega)) hlv).mono ?_
  rintro e w3 ⟨A3, c3, hs, rfl, o3, b3⟩
  have z3 := b3.size
  replace HB := Lib.hid (HB.out.trans (b3.mono (by omega))); replace HK1 := Lib.hid (HK1.out.below b3 (by omega)); replace HK2 := Lib.hid (HK2.out.below b3 (by omega)); replace HRT := Lib.hid (HRT.out.below b3 (Nat.le_refl _))
  have HOX := Lib.hid o3
  clear c5 b3 o3 HK0
  have f5 := HK2.out.frozen 5; have e5 := HK2.out.cell 5
  go_upto_region 7 with fail
  replace HB := Lib.hid (HB.out.setCell (p := ⟨w.heap.size + 1 + 1, 5, none⟩) (by simp; omega) (.slice A3 vs.length c3))
  replace HK1 := Lib.hid (HK1.out.far (p := ⟨w.heap.size + 1 + 1, 5, none⟩) (by first | (simp; done) | (simp; omega)) (.slice A3 vs.length c3))
  replace HK2 := Lib.hid (show Blk _ _ _ #[.int .i64 f, .bool m, .int .i64 b, .int .i64 u, .slice C2 ts.length d2, .slice A3 vs.length c3] from HK2.out.set_ 5 (.slice A3 vs.length c3))
  replace HRT := Lib.hid (HRT.out.setOff (p := ⟨w.heap.size + 1 + 1, 5, none⟩) (.inl (by simp; omega)) (.slice A3 vs.length c3))
  replace HOX := Lib.hid (HOX.out.setOff (p := ⟨w.heap.size + 1 + 1, 5, none⟩) (by simp; omega) (.slice A3 vs.length c3))
  have zz3 : w3.heap.size = (w3.setCell ⟨w.heap.size + 1 + 1, 5, none⟩ (.slice A3 vs.length c3)).heap.size := by simp
  have HZ3 := Lib.hid zz3; clear zz3 f5 e5
  generalize w3.setCell ⟨w.heap.size + 1 + 1, 5, none⟩ (.slice A3 vs.length c3) = wc at *
  have hzc : w3.heap.size ≤ wc.heap.size := by have := HZ3.out; omega
  rw [HZ3.out] at HOX
  have g0 := HK2.out.cell 0; have h0 := HK1.out.cell 0; have f0 := HK1.out.frozen 0
  have g1 := HK2.out.cell 1; have h1 := HK1.out.cell 1; have f1 := HK1.out.frozen 1
  have g2 := HK2.out.cell 2; have h2 := HK1.out.cell 2; have f2 := HK1.out.frozen 2
  have g3 := HK2.out.cell 3; have h3 := HK1.out.cell 3; have f3 := HK1.out.frozen 3
  have g4 := HK2.out.cell 4; have h4 := HK1.out.cell 4; have f4 := HK1.out.frozen 4
  have g5 := HK2.out.cell 5; have h5 := HK1.out.cell 5; have f5 := HK1.out.frozen 5
  go_wp2_with fail
  have HB3 := Lib.hid ((((((HB.out.setCell (p := ⟨w.heap.size + 1, 0, none⟩) (by simp) (.int .i64 f)).setCell (p := ⟨w.heap.size + 1, 1, none⟩) (by simp) (.bool m)).setCell (p := ⟨w.heap.size + 1, 2, none⟩) (by simp) (.int .i64 b)).setCell (p := ⟨w.heap.size + 1, 3, none⟩) (by simp) (.int .i64 u)).setCell (p := ⟨w.heap.size + 1, 4, none⟩) (by simp) (.slice C2 ts.length d2)).setCell (p := ⟨w.heap.size + 1, 5, none⟩) (by simp) (.slice A3 vs.length c3))
  have HK3 := Lib.hid ((((((HK1.out.set_ 0 (.int .i64 f)).set_ 1 (.bool m)).set_ 2 (.int .i64 b)).set_ 3 (.int .i64 u)).set_ 4 (.slice C2 ts.length d2)).set_ 5 (.slice A3 vs.length c3))
  have HR3 := Lib.hid ((((((HRT.out.setOff (p := ⟨w.heap.size + 1, 0, none⟩) (.inl (by simp; omega)) (.int .i64 f)).setOff (p := ⟨w.heap.size + 1, 1, none⟩) (.inl (by simp; omega)) (.bool m)).setOff (p := ⟨w.heap.size + 1, 2, none⟩) (.inl (by simp; omega)) (.int .i64 b)).setOff (p := ⟨w.heap.size + 1, 3, none⟩) (.inl (by simp; omega)) (.int .i64 u)).setOff (p := ⟨w.heap.size + 1, 4, none⟩) (.inl (by simp; omega)) (.slice C2 ts.length d2)).setOff (p := ⟨w.heap.size + 1, 5, none⟩) (.inl (by simp; omega)) (.slice A3 vs.length c3))
  have HO3 := Lib.hid ((((((HOX.out.setOff (p := ⟨w.heap.size + 1, 0, none⟩) (by simp; omega) (.int .i64 f)).setOff (p := ⟨w.heap.size + 1, 1, none⟩) (by simp; omega) (.bool m)).setOff (p := ⟨w.heap.size + 1, 2, none⟩) (by simp; omega) (.int .i64 b)).setOff (p := ⟨w.heap.size + 1, 3, none⟩) (by simp; omega) (.int .i64 u)).setOff (p := ⟨w.heap.size + 1, 4, none⟩) (by simp; omega) (.slice C2 ts.length d2)).setOff (p := ⟨w.heap.size + 1, 5, none⟩) (by simp; omega) (.slice A3 vs.length c3))
  have zz4 : wc.heap.size = ((((((wc.setCell ⟨w.heap.size + 1, 0, none⟩ (.int .i64 f)).setCell ⟨w.heap.size + 1, 1, none⟩ (.bool m)).setCell ⟨w.heap.size + 1, 2, none⟩ (.int .i64 b)).setCell ⟨w.heap.size + 1, 3, none⟩ (.int .i64 u)).setCell ⟨w.heap.size + 1, 4, none⟩ (.slice C2 ts.length d2)).setCell ⟨w.heap.size + 1, 5, none⟩ (.slice A3 vs.length c3)).heap.size := by simp
  have HZ4 := Lib.hid zz4
  clear g0 h0 f0 g1 h1 f1 g2 h2 f2 g3 h3 f3 g4 h4 f4 g5 h5 f5 zz4
  generalize ((((((wc.setCell ⟨w.heap.size + 1, 0, none⟩ (.int .i64 f)).setCell ⟨w.heap.size + 1, 1, none⟩ (.bool m)).setCell ⟨w.heap.size + 1, 2, none⟩ (.int .i64 b)).setCell ⟨w.heap.size + 1, 3, none⟩ (.int .i64 u)).setCell ⟨w.heap.size + 1, 4, none⟩ (.slice C2 ts.length d2)).setCell ⟨w.heap.size + 1, 5, none⟩ (.slice A3 vs.length c3)) = W at *
  have r0_ : W.cell? ⟨w.heap.size + 1, 0, none⟩ = some (.int .i64 f) := HK3.out.cell 0
  have r1_ : W.cell? ⟨w.heap.size + 1, 1, none⟩ = some (.bool m) := HK3.out.cell 1
  have r2_ : W.cell? ⟨w.heap.size + 1, 2, none⟩ = some (.int .i64 b) := HK3.out.cell 2
  have r3_ : W.cell? ⟨w.heap.size + 1, 3, none⟩ = some (.int .i64 u) := HK3.out.cell 3
  have r4_ : W.cell? ⟨w.heap.size + 1, 4, none⟩ = some (.slice C2 ts.length d2) := HK3.out.cell 4
  have r5_ : W.cell? ⟨w.heap.size + 1, 5, none⟩ = some (.slice A3 vs.length c3) := HK3.out.cell 5
  rw [HZ4.out] at HO3
  refine bodyPost_ret (v := .agg #[.int .i64 f, .bool m, .int .i64 b, .int .i64 u, .slice C2 ts.length d2, .slice A3 vs.length c3]) (by simp [results, Tryd.results6, go_sem, r0_, r1_, r2_, r3_, r4_, r5_]) rfl ⟨C2, A3, d2, c3, wb.heap.size, hs, rfl, ⟨HR3.out.widen (by omega) (Nat.le_refl _), HO3.out, by omega, by have := HZ4.out; omega⟩, HB3.out⟩
theorem laws_szSong (f : Int) (m : Bool) (b u : Int) (C A : Option Addr) (d c : Nat) (ts : List (Int × Int)) (vs : List (List Nt)) (w : World) (hT : RdTempo w w.heap.size C ts) (hV : RdVs w w.heap.size A vs) (hlt : ts.length ≤ 1048576) (hlv : LenV vs) (l : Int) (h1 : (ts.length : Int) + vs.length + totV vs ≤ l) (h2 : l ≤ 1048576) :
    Calls Tryd.prog 4 #[.agg #[.int .i64 f, .bool m, .int .i64 b, .int .i64 u, .slice C ts.length d, .slice A vs.length c], .int .i64 l] w fun e w' => e = .returned (.int .i64 (l - ts.length - vs.length - totV vs)) ∧ Below w.heap.size w w' := by
  have hd1 : decide (l - (ts.length : Int) < 0) = false := decide_eq_false (by omega)
  have hd2 : decide (l - (ts.length : Int) - (vs.length : Int) - (totV vs : Int) < 0) = false := decide_eq_false (by omega)
  have HK := Lib.hid (Blk.new w 27 #[.int .i64 f, .bool m, .int .i64 b, .int .i64 u, .slice C ts.length d, .slice A vs.length c])
  have HT := Lib.hid (RdTempo.more (RdTempo.al hT (Nat.le_refl _) (.cells #[.int .i64 f, .bool m, .int .i64 b, .int .i64 u, .slice C ts.length d, .slice A vs.length c] 27)) (show w.heap.size ≤ (w.alloc (.cells #[.int .i64 f, .bool m, .int .i64 b, .int .i64 u, .slice C ts.length d, .slice A vs.length c] 27)).heap.size by simp))
  have HV := Lib.hid (RdVs.more (RdVs.al hV (Nat.le_refl _) (.cells #[.int .i64 f, .bool m, .int .i64 b, .int .i64 u, .slice C ts.length d, .slice A vs.length c] 27)) (show w.heap.size ≤ (w.alloc (.cells #[.int .i64 f, .bool m, .int .i64 b, .int .i64 u, .slice C ts.length d, .slice A vs.length c] 27)).heap.size by simp))
  have HB := Lib.hid ((Below.refl w.heap.size w).alloc (Nat.le_refl _) (.cells #[.int .i64 f, .bool m, .int .i64 b, .int .i64 u, .slice C ts.length d, .slice A vs.length c] 27))
  have z0 : w.heap.size + 1 ≤ (w.alloc (.cells #[.int .i64 f, .bool m, .int .i64 b, .int .i64 u, .slice C ts.length d, .slice A vs.length c] 27)).heap.size := by simp
  clear hT hV
  go_enter Tryd.func4, Tryd.ntmps4
  go_upto_region 1 with fail
  generalize w.alloc (.cells #[.int .i64 f, .bool m, .int .i64 b, .int .i64 u, .slice C ts.length d, .slice A vs.length c] 27) = w0 at *
  have c0 := HK.out.cell 0; have c1 := HK.out.cell 1; have c2 := HK.out.cell 2; have c3 := HK.out.cell 3; have c4 := HK.out.cell 4; have c5 := HK.out.cell 5
  go_wp2_with fail
  refine (laws_szTempoS _ _ _ _ _ (by omega) (by omega)).mono ?_
  rintro e w1 ⟨rfl, b1⟩
  have z1 := b1.size
  clear c0 c1 c2 c3 c4 c5
  replace HK := Lib.hid (HK.out.below b1 (by omega)); replace HT := Lib.hid (RdTempo.more (RdTempo.below HT.out b1 (by omega)) z1); replace HV := Lib.hid (RdVs.more (RdVs.below HV.out b1 (by omega)) z1); replace HB := Lib.hid (HB.out.trans (b1.mono (by omega)))
  clear b1
  have c0 := HK.out.cell 0; have c1 := HK.out.cell 1; have c2 := HK.out.cell 2; have c3 := HK.out.cell 3; have c4 := HK.out.cell 4; have c5 := HK.out.cell 5
  go_wp2_with fail
  refine (laws_szNoteSS _ _ _ _ _ HV.out (by omega) (by omega)).mono ?_
  rintro e w2 ⟨rfl, b2⟩
  have z2 := b2.size
  clear c0 c1 c2 c3 c4 c5
  replace HK := Lib.hid (HK.out.below b2 (by omega)); replace HT := Lib.hid (RdTempo.more (RdTempo.below HT.out b2 (by omega)) z2); replace HV := Lib.hid (RdVs.more (RdVs.below HV.out b2 (by omega)) z2); replace HB := Lib.hid (HB.out.trans (b2.mono (by omega)))
  clear b2
  have c0 := HK.out.cell 0; have c1 := HK.out.cell 1; have c2 := HK.out.cell 2; have c3 := HK.out.cell 3; have c4 := HK.out.cell 4; have c5 := HK.out.cell 5
  go_wp2_with fail
  go_ret
  exact ⟨rfl, HB.out⟩
theorem laws_szSong_no1 (f : Int) (m : Bool) (b u : Int) (C A : Option Addr) (nt d nv c : Nat) (w : World) (l : Int) (h1 : l < (nt : Int)) (h0 : 0 ≤ l) (h2 : nt ≤ 9223372036854775807) :
    Calls Tryd.prog 4 #[.agg #[.int .i64 f, .bool m, .int .i64 b, .int .i64 u, .slice C nt d, .slice A nv c], .int .i64 l] w fun e w' => e = .returned (.int .i64 (-1)) ∧ Below w.heap.size w w' := by
  have HB := Lib.hid ((Below.refl w.heap.size w).alloc (Nat.le_refl _) (.cells #[.int .i64 f, .bool m, .int .i64 b, .int .i64 u, .slice C nt d, .slice A nv c] 27))
  go_enter Tryd.func4, Tryd.ntmps4
  go_wp2_with fail
  refine (laws_szTempoS_no _ _ _ _ _ h1 h0 h2).mono ?_
  rintro e w1 ⟨rfl, b1⟩
  replace HB := Lib.hid (HB.out.trans (b1.mono (by simp))); clear b1
  go_wp2_with fail
  go_ret
  exact ⟨rfl, HB.out⟩
theorem laws_szSong_no2 (f : Int) (m : Bool) (b u : Int) (C A : Option Addr) (nt d c : Nat) (vs : List (List Nt)) (w : World) (hV : RdVs w w.heap.size A vs) (l : Int) (h1 : (nt : Int) ≤ l) (h1' : l < (nt : Int) + vs.length + totV vs) (h0 : 0 ≤ l) (h2 : l ≤ 1048576) (hm : vs.length ≤ maxLen) (hn : ∀ v ∈ vs, v.length ≤ maxLen) :
    Calls Tryd.prog 4 #[.agg #[.int .i64 f, .bool m, .int .i64 b, .int .i64 u, .slice C nt d, .slice A vs.length c], .int .i64 l] w fun e w' => e = .returned (.int .i64 (-1)) ∧ Below w.heap.size w w' := by
  have hd1 : decide (l - (nt : Int) < 0) = false := decide_eq_false (by omega)
  have HB := Lib.hid ((Below.refl w.heap.size w).alloc (Nat.le_refl _) (.cells #[.int .i64 f, .bool m, .int .i64 b, .int .i64 u, .slice C nt d, .slice A vs.length c] 27))
  have HK := Lib.hid (Blk.new w 27 #[.int .i64 f, .bool m, .int .i64 b, .int .i64 u, .slice C nt d, .slice A vs.length c])
  have HV := Lib.hid hV; have HM := Lib.hid hm; have HN := Lib.hid hn; clear hV hm hn
  have hz : (w.alloc (.cells #[.int .i64 f, .bool m, .int .i64 b, .int .i64 u, .slice C nt d, .slice A vs.length c] 27)).heap.size = w.heap.size + 1 := by simp
  have HZ := Lib.hid hz; clear hz
  go_enter Tryd.func4, Tryd.ntmps4
  go_wp2_with fail
  refine (laws_szTempoS _ _ _ _ _ (by omega) (by omega)).mono ?_
  rintro e w1 ⟨rfl, b1⟩
  have z1 := b1.size
  have hz := HZ.out
  replace HB := Lib.hid (HB.out.trans (b1.mono (by omega))); replace HK := Lib.hid (HK.out.below b1 (by omega)); clear b1
  have c5 := HK.out.cell 5
  clear hz
  go_wp2_with fail
  refine (laws_szNoteSS_no _ _ _ _ _ (RdVs.more (RdVs.below HV.out HB.out (Nat.le_refl _)) HB.out.size) (by omega) (by omega) (by omega) HM.out HN.out).mono ?_
  rintro e w2 ⟨rfl, b2⟩
  replace HB := Lib.hid (HB.out.trans (b2.mono HB.out.size)); clear b2
  go_wp2_with fail
  go_ret
  exact ⟨rfl, HB.out⟩
set_option maxHeartbeats 2000000 in
theorem laws_eqSong (f : Int) (m : Bool) (b u : Int) (C A C2 A2 : Option Addr) (d c d2 c2 : Nat) (ts : List (Int × Int)) (vs : List (List Nt)) (w : World) (hT : RdTempo w w.heap.size C ts) (hV : RdVs w w.heap.size A vs) (hT2 : RdTempo w w.heap.size C2 ts) (hV2 : RdVs w w.heap.size A2 vs) (hlt : ts.length ≤ 1048576) (hlv : LenV vs) :
    Calls Tryd.prog 8 #[.agg #[.int .i64 f, .bool m, .int .i64 b, .int .i64 u, .slice C ts.length d, .slice A vs.length c], .agg #[.int .i64 f, .bool m, .int .i64 b, .int .i64 u, .slice C2 ts.length d2, .slice A2 vs.length c2]] w (RetB w true) := by
  have hs := sameTempo_refl ts
  have HS := Lib.hid hs; clear hs
  have HB := Lib.hid (((Below.refl w.heap.size w).alloc (Nat.le_refl _) (.cells #[.int .i64 f, .bool m, .int .i64 b, .int .i64 u, .slice C ts.length d, .slice A vs.length c] 34)).alloc (by simp) (.cells #[.int .i64 f, .bool m, .int .i64 b, .int .i64 u, .slice C2 ts.length d2, .slice A2 vs.length c2] 34))
  have HK := Lib.hid ((Blk.new w 34 #[.int .i64 f, .bool m, .int .i64 b, .int .i64 u, .slice C ts.length d, .slice A vs.length c]).alloc (.cells #[.int .i64 f, .bool m, .int .i64 b, .int .i64 u, .slice C2 ts.length d2, .slice A2 vs.length c2] 34))
  have HL := Lib.hid (show Blk ((w.alloc (.cells #[.int .i64 f, .bool m, .int .i64 b, .int .i64 u, .slice C ts.length d, .slice A vs.length c] 34)).alloc (.cells #[.int .i64 f, .bool m, .int .i64 b, .int .i64 u, .slice C2 ts.length d2, .slice A2 vs.length c2] 34)) (w.heap.size + 1) 34 #[.int .i64 f, .bool m, .int .i64 b, .int .i64 u, .slice C2 ts.length d2, .slice A2 vs.length c2] from Blk.newAt (by simp))
  have hz : ((w.alloc (.cells #[.int .i64 f, .bool m, .int .i64 b, .int .i64 u, .slice C ts.length d, .slice A vs.length c] 34)).alloc (.cells #[.int .i64 f, .bool m, .int .i64 b, .int .i64 u, .slice C2 ts.length d2, .slice A2 vs.length c2] 34)).heap.size = w.heap.size + 2 := by simp
  have HZ := Lib.hid hz; clear hz
  have HT := Lib.hid hT; have HV := Lib.hid hV; have HT2 := Lib.hid hT2; have HV2 := Lib.hid hV2; clear hT hV hT2 hV2
  have e1 : (f != f) = false := by simp
  have e2 : (m != m) = false := by simp
  go_enter Tryd.func8, Tryd.ntmps8
  go_wp2_with fail
  refine (laws_eqMeter b u _).mono ?_
  rintro e w1 ⟨rfl, b1⟩
  have z1 := b1.size
  have hz := HZ.out
  replace HB := Lib.hid (HB.out.trans (b1.mono (by omega))); replace HK := Lib.hid (HK.out.below b1 (by omega)); replace HL := Lib.hid (HL.out.below b1 (by omega)); clear b1
  have hz1 : w.heap.size + 2 ≤ w1.heap.size := by omega
  clear hz HZ z1
  have c4 := HK.out.cell 4; have g4 := HL.out.cell 4
  go_wp2_with fail
  refine (laws_eqTempoS _ _ _ _ _ _ _ (RdTempo.more (RdTempo.below HT.out HB.out (Nat.le_refl _)) (by omega)) (RdTempo.more (RdTempo.below HT2.out HB.out (Nat.le_refl _)) (by omega)) hlt hlt).mono ?_
  rw [HS.out]
  rintro e w2 ⟨rfl, b2⟩
  have z2 := b2.size
  replace HB := Lib.hid (HB.out.trans (b2.mono (by omega))); replace HK := Lib.hid (HK.out.below b2 (by omega)); replace HL := Lib.hid (HL.out.below b2 (by omega)); clear b2 c4 g4
  have c5 := HK.out.cell 5; have g5 := HL.out.cell 5
  go_wp2_with fail
  refine (laws_eqNoteSS _ _ _ _ _ _ _ rfl (RdVs.more (RdVs.below HV.out HB.out (Nat.le_refl _)) (by omega)) (RdVs.more (RdVs.below HV2.out HB.out (Nat.le_refl _)) (by omega)) hlv).mono ?_
  rintro e w3 ⟨rfl, b3⟩
  replace HB := Lib.hid (HB.out.trans (b3.mono (by omega))); clear b3
  go_wp2_with fail
  go_ret
  exact ⟨rfl, HB.out⟩
end Go.Proofs.YtopdgkhmeglflaaDoor
