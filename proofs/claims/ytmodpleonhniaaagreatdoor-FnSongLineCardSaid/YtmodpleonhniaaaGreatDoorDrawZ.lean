/- Contract of the draw of a song and a line. No condition but bounds on the bytes. -/
import Derived.Test.YtmodpleonhniaaaGreatDoorDrawX
import Derived.Test.YtmodpleonhniaaaGreatDoorInvC
import Derived.Test.YtmodpleonhniaaaGreatDoorStrB
namespace Go.Proofs.YtmodpleonhniaaaGreatDoor
open Go.RowKit
set_option linter.unusedSimpArgs false
set_option linter.unusedVariables false
set_option maxRecDepth 100000
/-- strings of at most seven bytes -/
def StrIn (cs : Array Value) : Prop := ∀ (j : Nat), j < cs.size → ∃ l : List UInt8, cs[j]? = some (.string (stV l)) ∧ l.length ≤ 7
def FSl (B T : Nat) (v : Value) (w : World) : Prop := ∃ b cs, v = .slice (some ⟨b, 0, none⟩) 9 9 ∧ Blk w b T cs ∧ cs.size = 9 ∧ StrIn cs ∧ B ≤ b
def FSa (B T : Nat) (v : Value) (w : World) : Prop := ∃ b k cs, v = .pointer (some ⟨b, k, none⟩) ∧ Blk w b T cs ∧ k < cs.size ∧ StrIn cs ∧ B ≤ b
def FS7 (v : Value) (_ : World) : Prop := ∃ l : List UInt8, v = .string (stV l) ∧ l.length ≤ 7
theorem stay_sl {x : Cx} {T j : Nat} : Stay x j (FSl x.w0.heap.size T) := fun _ _ _ _ _ ⟨b, cs, h1, h2, h3, h4, h5⟩ hR => ⟨b, cs, h1, hR.blk h2 h5, h3, h4, h5⟩
theorem stay_sa {x : Cx} {T j : Nat} : Stay x j (FSa x.w0.heap.size T) := fun _ _ _ _ _ ⟨b, k, cs, h1, h2, h3, h4, h5⟩ hR => ⟨b, k, cs, h1, hR.blk h2 h5, h3, h4, h5⟩
theorem stay_s7 {x : Cx} {j : Nat} : Stay x j FS7 := fun _ _ _ _ _ h _ => h
theorem lines_ok : StrIn #[.string ⟨#[98, 97, 114, 115]⟩, .string ⟨#[102, 97, 117, 108, 116, 115]⟩, .string ⟨#[116, 105, 109, 101]⟩, .string ⟨#[118, 111, 105, 99, 101, 32, 48]⟩, .string ⟨#[118, 111, 105, 99, 101, 32, 49]⟩, .string ⟨#[118, 111, 105, 99, 101, 32, 57]⟩, .string ⟨#[118, 111, 105, 99, 101]⟩, .string ⟨#[120]⟩, .string ⟨#[]⟩] := by
  intro j hj
  have h9 : j < 9 := hj
  rcases (show j = 0 ∨ j = 1 ∨ j = 2 ∨ j = 3 ∨ j = 4 ∨ j = 5 ∨ j = 6 ∨ j = 7 ∨ j = 8 by omega) with rfl | rfl | rfl | rfl | rfl | rfl | rfl | rfl | rfl
  · exact ⟨[98, 97, 114, 115], rfl, by decide⟩
  · exact ⟨[102, 97, 117, 108, 116, 115], rfl, by decide⟩
  · exact ⟨[116, 105, 109, 101], rfl, by decide⟩
  · exact ⟨[118, 111, 105, 99, 101, 32, 48], rfl, by decide⟩
  · exact ⟨[118, 111, 105, 99, 101, 32, 49], rfl, by decide⟩
  · exact ⟨[118, 111, 105, 99, 101, 32, 57], rfl, by decide⟩
  · exact ⟨[118, 111, 105, 99, 101], rfl, by decide⟩
  · exact ⟨[120], rfl, by decide⟩
  · exact ⟨[], rfl, by decide⟩
section
variable {w w' : World}
theorem own_same {base E s n : Nat} {v : Value} {xs : List Value} (h : w.ownsRow base E s v n xs) (hs : ∀ i, base ≤ i → i < w.heap.size → w'.heap[i]? = w.heap[i]?) : w'.ownsRow base E s v n xs := by
  obtain ⟨h0, h1⟩ := h
  refine ⟨h0, ?_⟩
  rcases h1 with h1 | ⟨g, cap, cur, e1, e2, e3, e4⟩
  · exact .inl h1
  · have hg : g < w.heap.size := by
      rcases Nat.lt_or_ge g w.heap.size with h | h
      · exact h
      · rw [Array.getElem?_eq_none h] at e3; cases e3
    exact .inr ⟨g, cap, cur, e1, e2, (hs g e2 hg).trans e3, e4⟩
theorem VG.same {lo c : Nat} {A : Option Addr} {vs : List (List Nt)} {hs : List Hd} (h : VG w lo A c vs hs) (hS : ∀ i, lo ≤ i → i < w.heap.size → w'.heap[i]? = w.heap[i]?) : VG w' lo A c vs hs :=
  ⟨h.len, own_same h.out hS, fun k hk => ⟨(h.inn k hk).1, own_same (h.inn k hk).2 hS⟩, h.da⟩
end
def RetDL (w : World) (e : Ending) (w' : World) : Prop :=
  ∃ (f : Int) (m : Bool) (b u : Int) (C : Option Addr) (d : Nat) (ts : List (Int × Int)) (A2 : Option Addr) (c2 : Nat) (vs : List (List Nt)) (l : List UInt8), e = .returned (.tuple #[.agg #[.int .i64 f, .bool m, .int .i64 b, .int .i64 u, .slice C ts.length d, .slice A2 vs.length c2], .string (stV l)]) ∧ l.length ≤ 7 ∧ ts.length ≤ 4 ∧ vs.length ≤ 4 ∧ (∀ v ∈ vs, v.length ≤ 61) ∧ RdTempo w' w'.heap.size C ts ∧ RdVs w' w'.heap.size A2 vs ∧ Below w.heap.size w w'
set_option maxHeartbeats 4000000 in
theorem spec_DrawSongLine (A : Option Addr) (c : Nat) (zs : List Int) (w : World) (hr : RdY w w.heap.size A zs) (hw : WfY zs) (hl : zs.length ≤ 1048576) (hc : zs.length ≤ c) :
    Calls Tryz.prog 4 #[.slice A zs.length c] w (RetDL w) := by
  have HY := Lib.hid (fun o => (show RdY (w.alloc o) (w.alloc o).heap.size A zs from Rd.more (RdY.below hr ((Below.refl w.heap.size w).alloc (Nat.le_refl _) o) (Nat.le_refl _)) (by simp))); clear hr
  go_enter Tryz.func4, Tryz.ntmps4
  go_wp2_with fail
  refine (spec_l20Open A c zs _ (by exact HY.out _) hw hl hc).mono ?_
  rintro e w1 ⟨rfl, r_, b_, s_⟩
  have HK := Lib.hid ((Blk.new w 28 #[.int .i64 0, .bool false, .int .i64 0, .int .i64 0, .slice none 0 0, .slice none 0 0]).below b_ (by simp))
  have HB := Lib.hid (((Below.refl w.heap.size w).alloc (Nat.le_refl _) (.cells #[.int .i64 0, .bool false, .int .i64 0, .int .i64 0, .slice none 0 0, .slice none 0 0] 28)).trans (b_.mono (by simp)))
  simp only [World.size_alloc] at s_ r_ ⊢
  have HR := Lib.hid r_
  have z1 : w.heap.size + 2 ≤ w1.heap.size := by omega
  clear r_ b_ s_ HY
  go_wp2_with fail
  refine (spec_l20Song (w.heap.size + 1) 0 9 _ HR.out (by omega) (by omega)).mono ?_
  rintro e w2 ⟨f, m, b, u, C, d, ts, A2, cq, vs, hs, rfl, hts, hvs, h61, ht, hv, r_, g_⟩
  have z2 := g_.size
  replace HK := Lib.hid (HK.out.only g_ (by omega))
  replace HB := Lib.hid (below_only HB.out g_ (by omega) (by omega))
  replace HR := Lib.hid r_
  have HTE := Lib.hid ht; have HV := Lib.hid hv; have H61 := Lib.hid h61
  clear ht hv r_ g_ h61
  replace HK := Lib.hid (HK.out.alloc (.cells #[.int .i64 f, .bool m, .int .i64 b, .int .i64 u, .slice C ts.length d, .slice A2 vs.length cq] 28)); replace HB := Lib.hid (HB.out.alloc (by omega) (.cells #[.int .i64 f, .bool m, .int .i64 b, .int .i64 u, .slice C ts.length d, .slice A2 vs.length cq] 28)); replace HR := Lib.hid ((HR.out.more (show 0 + 710 ≤ 710 + 1 * 0 by omega)).alloc1 (.cells #[.int .i64 f, .bool m, .int .i64 b, .int .i64 u, .slice C ts.length d, .slice A2 vs.length cq] 28)); replace HTE := Lib.hid (HTE.out.alloc (.cells #[.int .i64 f, .bool m, .int .i64 b, .int .i64 u, .slice C ts.length d, .slice A2 vs.length cq] 28)); replace HV := Lib.hid (HV.out.alloc (.cells #[.int .i64 f, .bool m, .int .i64 b, .int .i64 u, .slice C ts.length d, .slice A2 vs.length cq] 28))
  have HS := Lib.hid (Blk.new w2 28 #[.int .i64 f, .bool m, .int .i64 b, .int .i64 u, .slice C ts.length d, .slice A2 vs.length cq])
  go_upto_region 3 with (fail)
  have z3 : w2.heap.size + 1 ≤ (w2.alloc (.cells #[.int .i64 f, .bool m, .int .i64 b, .int .i64 u, .slice C ts.length d, .slice A2 vs.length cq] 28)).heap.size := by simp
  generalize w2.alloc (.cells #[.int .i64 f, .bool m, .int .i64 b, .int .i64 u, .slice C ts.length d, .slice A2 vs.length cq] 28) = w3 at *
  have hokX : Cx.ok ⟨(w.heap.size + 1), 710, 1, w3, w, [(w2.heap.size, 28, #[.int .i64 f, .bool m, .int .i64 b, .int .i64 u, .slice C ts.length d, .slice A2 vs.length cq])], [⟨6, w.heap.size, 28, 6⟩]⟩ := by
    refine ⟨by dsimp only; omega, ?_, ?_, ?_⟩ <;> simp <;> (try omega)
  refine region_draws rfl ⟨(w.heap.size + 1), 710, 1, w3, w, [(w2.heap.size, 28, #[.int .i64 f, .bool m, .int .i64 b, .int .i64 u, .slice C ts.length d, .slice A2 vs.length cq])], [⟨6, w.heap.size, 28, 6⟩]⟩ 6 16 [some 10, some 11, some 12, some 13, some 14, some 15, none, some 3]
    [FEq (.agg #[.int .i64 f, .bool m, .int .i64 b, .int .i64 u, .slice C ts.length d, .slice A2 vs.length cq]), FSl w3.heap.size 9, FEq (.pointer (some ⟨w.heap.size + 1, 0, none⟩)), FInt (0) (8), FSa w3.heap.size 9, FS7, FBlk (w.heap.size) 28 (fun cs _ => cs = #[.int .i64 f, .bool m, .int .i64 b, .int .i64 u, .slice C ts.length d, .slice A2 vs.length cq]), FS7] (by kernel_rfl) (by kernel_rfl) ?_ ?_ ?_ ?_
  · exact ⟨stay_eq, stay_sl, stay_eq, stay_int, stay_sa, stay_s7, (stay_blk_eq ⟨6, w.heap.size, 28, 6⟩ (by simp) rfl), stay_s7, trivial⟩
  · exact ⟨fun _ => HR.out, only_of_below HB.out _, Nat.le_refl _, by simp; exact HS.out, by simp; exact ⟨_, HK.out, rfl⟩, fun _ _ _ _ => rfl⟩
  · refine AllI.cons ?_ (AllI.cons ?_ (AllI.cons ?_ (AllI.cons ?_ (AllI.cons ?_ (AllI.cons ?_ (AllI.cons ?_ (AllI.cons ?_ trivial)))))))
    · intro kk bb ff ww hkk hf hd hp hq hJ
      refine .inl ⟨wanted_none rfl, ?_⟩
      have q5 : FEq (.pointer (some ⟨w2.heap.size, 0, none⟩)) (ff 5) ww := (hf 5 (by decide)).trans rfl
      unfold FEq at q5
      have hb : Blk ww w2.heap.size 28 #[.int .i64 f, .bool m, .int .i64 b, .int .i64 u, .slice C ts.length d, .slice A2 vs.length cq] := hJ.2.2.2.1 (w2.heap.size, 28, #[.int .i64 f, .bool m, .int .i64 b, .int .i64 u, .slice C ts.length d, .slice A2 vs.length cq]) (by simp)
      have c0 : ww.cell? ⟨w2.heap.size, 0, none⟩ = some (.int .i64 f) := hb.cell 0
      have c1 : ww.cell? ⟨w2.heap.size, 1, none⟩ = some (.bool m) := hb.cell 1
      have c2 : ww.cell? ⟨w2.heap.size, 2, none⟩ = some (.int .i64 b) := hb.cell 2
      have c3 : ww.cell? ⟨w2.heap.size, 3, none⟩ = some (.int .i64 u) := hb.cell 3
      have c4 : ww.cell? ⟨w2.heap.size, 4, none⟩ = some (.slice C ts.length d) := hb.cell 4
      have c5 : ww.cell? ⟨w2.heap.size, 5, none⟩ = some (.slice A2 vs.length cq) := hb.cell 5
      refine si_val (.agg #[.int .i64 f, .bool m, .int .i64 b, .int .i64 u, .slice C ts.length d, .slice A2 vs.length cq]) hJ ?_ rfl
      simp only [execOp, ev_tmp _ _ (show 5 < 16 by decide), ev_const, q5]
      simp [go_sem, c0, c1, c2, c3, c4, c5]
    · intro kk bb ff ww hkk hf hd hp hq hJ
      refine .inl ⟨wanted_none rfl, ?_⟩
      obtain ⟨-, -⟩ := hd
      refine si_alloc (.slice (some ⟨ww.heap.size, 0, none⟩) 9 9) (.cells #[.string ⟨#[98, 97, 114, 115]⟩, .string ⟨#[102, 97, 117, 108, 116, 115]⟩, .string ⟨#[116, 105, 109, 101]⟩, .string ⟨#[118, 111, 105, 99, 101, 32, 48]⟩, .string ⟨#[118, 111, 105, 99, 101, 32, 49]⟩, .string ⟨#[118, 111, 105, 99, 101, 32, 57]⟩, .string ⟨#[118, 111, 105, 99, 101]⟩, .string ⟨#[120]⟩, .string ⟨#[]⟩] 9) hokX hJ ?_ ⟨_, _, rfl, Blk.new _ _ _, rfl, lines_ok, hJ.2.2.1⟩
      simp only [execOp, ev_const, List.map_toArray, List.map_cons, List.map_nil]
      simp [go_sem]
    · intro kk bb ff ww hkk hf hd hp hq hJ
      refine .inl ⟨wanted_none rfl, ?_⟩
      have q : FEq (.pointer (some ⟨w.heap.size + 1, 0, none⟩)) (ff 4) ww := (hf 4 (by decide)).trans rfl
      exact si_val (ff 4) hJ (by simp only [execOp, ev_tmp _ _ (show 4 < 16 by decide)]; rfl) q
    · intro kk bb ff ww hkk hf hd hp hq hJ
      refine .inl ⟨wanted_none rfl, ?_⟩
      obtain ⟨p0, -⟩ := hd
      have q12 : FEq (.pointer (some ⟨w.heap.size + 1, 0, none⟩)) (ff 12) ww := p0 rfl
      unfold FEq at q12
      have hkk2 : kk < 8 := hkk
      refine si_enter 13 #[.pointer (some ⟨w.heap.size + 1, 0, none⟩), .int .i64 (9)] hokX hJ (.inl (hp [] (by kernel_rfl))) ?_ ?_
      · simp only [execOp, ev_tmp _ _ (show 12 < 16 by decide), ev_const, q12, ev_func, resolve, List.map_toArray, List.map_cons, List.map_nil]
        simp [go_sem]
      · intro hrd
        dsimp only at hrd
        exact pk_post (l20_pk (w.heap.size + 1) (710 + 1 * kk) 9 ww hrd (by omega) (by omega)) (by dsimp only; omega) (by omega)
    · intro kk bb ff ww hkk hf hd hp hq hJ
      refine .inl ⟨wanted_none rfl, ?_⟩
      obtain ⟨p0, p1, -, -⟩ := hd
      have q11 : FSl w3.heap.size 9 (ff 11) ww := p0 rfl
      obtain ⟨b11, c11, q11, u11, n11, l11, v11⟩ := q11
      have q13 : FInt (0) (8) (ff 13) ww := p1 rfl
      obtain ⟨z13, q13, zl13, zh13⟩ := q13
      obtain ⟨j13, rfl⟩ : ∃ j : Nat, z13 = (j : Int) := ⟨z13.toNat, by omega⟩
      refine si_val (.pointer (some ⟨b11, j13, none⟩)) hJ ?_ ⟨b11, j13, c11, rfl, u11, by omega, l11, v11⟩
      simp only [execOp, ev_tmp _ _ (show 11 < 16 by decide), ev_tmp _ _ (show 13 < 16 by decide), ev_const, q11, q13]
      have hlt : (j13 : Int) < 9 := by omega
      simp [go_sem, hlt]
    · intro kk bb ff ww hkk hf hd hp hq hJ
      refine .inl ⟨wanted_none rfl, ?_⟩
      obtain ⟨p0, -, -⟩ := hd
      have q14 : FSa w3.heap.size 9 (ff 14) ww := p0 rfl
      obtain ⟨b14, j14, c14, q14, u14, n14, l14, v14⟩ := q14
      obtain ⟨y, hy, yl⟩ := l14 j14 n14
      have hc := (u14.cell j14).trans hy
      refine si_val (.string (stV y)) hJ ?_ ⟨y, rfl, yl⟩
      simp only [execOp, ev_tmp _ _ (show 14 < 16 by decide), ev_const, q14]
      simp [go_sem, hc]
    · intro kk bb ff ww hkk hf hd hp hq hJ
      refine .inl ⟨wanted_none rfl, ?_⟩
      obtain ⟨p0, p1, p2, -, -, -, -, -, -⟩ := hd
      have q2 : FEq (.pointer (some ⟨w.heap.size, 0, none⟩)) (ff 2) ww := (hf 2 (by decide)).trans rfl
      unfold FEq at q2
      have q10 : FEq (.agg #[.int .i64 f, .bool m, .int .i64 b, .int .i64 u, .slice C ts.length d, .slice A2 vs.length cq]) (ff 10) ww := p0 rfl
      unfold FEq at q10
      obtain ⟨cs, hb, hsz⟩ := hJ.2.2.2.2.1 ⟨6, w.heap.size, 28, 6⟩ (by simp)
      dsimp only at hb hsz
      obtain ⟨d0, d1, d2, d3, d4, d5, rfl⟩ := arr6 hsz
      have c0 : ww.cell? ⟨w.heap.size, 0, none⟩ = some d0 := hb.cell 0
      have f0 := hb.frozen 0
      have c1 : ww.cell? ⟨w.heap.size, 1, none⟩ = some d1 := hb.cell 1
      have f1 := hb.frozen 1
      have c2 : ww.cell? ⟨w.heap.size, 2, none⟩ = some d2 := hb.cell 2
      have f2 := hb.frozen 2
      have c3 : ww.cell? ⟨w.heap.size, 3, none⟩ = some d3 := hb.cell 3
      have f3 := hb.frozen 3
      have c4 : ww.cell? ⟨w.heap.size, 4, none⟩ = some d4 := hb.cell 4
      have f4 := hb.frozen 4
      have c5 : ww.cell? ⟨w.heap.size, 5, none⟩ = some d5 := hb.cell 5
      have f5 := hb.frozen 5
      refine si_store ⟨6, w.heap.size, 28, 6⟩ (by simp) rfl #[.int .i64 f, .bool m, .int .i64 b, .int .i64 u, .slice C ts.length d, .slice A2 vs.length cq] ((((((ww.setCell ⟨w.heap.size, 0, none⟩ (.int .i64 f)).setCell ⟨w.heap.size, 1, none⟩ (.bool m)).setCell ⟨w.heap.size, 2, none⟩ (.int .i64 b)).setCell ⟨w.heap.size, 3, none⟩ (.int .i64 u)).setCell ⟨w.heap.size, 4, none⟩ (.slice C ts.length d)).setCell ⟨w.heap.size, 5, none⟩ (.slice A2 vs.length cq)) hokX hJ ?_ (fun j hj => by simp [Below.heap_setCell, hj, Ne.symm hj]) (by simp only [set_hsz]) ((((((hb.set_ 0 _).set_ 1 _).set_ 2 _).set_ 3 _).set_ 4 _).set_ 5 _) rfl ⟨by simp only [set_os], by simp only [set_tape], by simp only [set_output]⟩ ⟨_, ((((((hb.set_ 0 _).set_ 1 _).set_ 2 _).set_ 3 _).set_ 4 _).set_ 5 _), rfl⟩ (by simp)
      simp only [execOp, ev_tmp _ _ (show 2 < 16 by decide), ev_tmp _ _ (show 10 < 16 by decide), ev_const, q2, q10]
      simp [go_sem, c0, f0, c1, f1, c2, f2, c3, f3, c4, f4, c5, f5]
    · intro kk bb ff ww hkk hf hd hp hq hJ
      refine .inl ⟨wanted_none rfl, ?_⟩
      obtain ⟨p0, p1, p2, p3, p4, p5, p6, p7, p8, -⟩ := hd
      have q : FS7 (ff 15) ww := p0 rfl
      exact si_val (ff 15) hJ (by simp only [execOp, ev_tmp _ _ (show 15 < 16 by decide)]; rfl) q
  intro ff w4 hf hd hJ
  have hfr : fr 16 ff = #[ff 0, ff 1, ff 2, ff 3, ff 4, ff 5, ff 6, ff 7, ff 8, ff 9, ff 10, ff 11, ff 12, ff 13, ff 14, ff 15] := rfl
  rw [hfr]; clear hfr
  dsimp only
  have q0_ := hf 0 (by decide)
  have q1_ := hf 1 (by decide)
  have q2_ := hf 2 (by decide)
  have q3_ : FS7 (ff 3) w4 := hd 7 (by decide)
  obtain ⟨l3, q3_, n3⟩ := q3_
  have q4_ := hf 4 (by decide)
  have q5_ := hf 5 (by decide)
  have q6_ := hf 6 (by decide)
  have q7_ := hf 7 (by decide)
  have q8_ := hf 8 (by decide)
  have q9_ := hf 9 (by decide)
  have q10_ : FEq (.agg #[.int .i64 f, .bool m, .int .i64 b, .int .i64 u, .slice C ts.length d, .slice A2 vs.length cq]) (ff 10) w4 := hd 0 (by decide)
  unfold FEq at q10_
  have q12_ : FEq (.pointer (some ⟨w.heap.size + 1, 0, none⟩)) (ff 12) w4 := hd 2 (by decide)
  unfold FEq at q12_
  simp only [Array.getD_eq_getD_getElem?, List.getElem?_toArray, List.getElem?_cons_zero, List.getElem?_cons_succ, Option.getD_some] at q0_ q1_ q2_ q4_ q5_ q6_ q7_ q8_ q9_
  have qb0_ : ∃ v, FBlk (w.heap.size) 28 (fun cs _ => cs = #[.int .i64 f, .bool m, .int .i64 b, .int .i64 u, .slice C ts.length d, .slice A2 vs.length cq]) v w4 := hd 6 (by decide)
  obtain ⟨_, _, qb0_, rfl⟩ := qb0_
  have qb0_ : Blk w4 w.heap.size 28 #[.int .i64 f, .bool m, .int .i64 b, .int .i64 u, .slice C ts.length d, .slice A2 vs.length cq] := qb0_
  rw [q0_, q1_, q2_, q3_, q4_, q5_, q6_, q7_, q8_, q9_, q10_, q12_]
  clear q0_ q1_ q2_ q3_ q4_ q5_ q6_ q7_ q8_ q9_ q10_ q12_ hf hd
  generalize ff 11 = v11_
  generalize ff 13 = v13_
  generalize ff 14 = v14_
  generalize ff 15 = v15_
  clear ff
  have g_ := hJ.2.1
  have z_ := hJ.2.2.1
  have b0_ : Blk w4 w2.heap.size 28 #[.int .i64 f, .bool m, .int .i64 b, .int .i64 u, .slice C ts.length d, .slice A2 vs.length cq] := hJ.2.2.2.1 (w2.heap.size, 28, #[.int .i64 f, .bool m, .int .i64 b, .int .i64 u, .slice C ts.length d, .slice A2 vs.length cq]) (by simp)
  have k_ := hJ.2.2.2.2.2
  clear hJ hokX
  dsimp only at g_ z_ k_
  replace HB := Lib.hid (below_of_only g_ (by omega)); clear g_ b0_
  have r0 := qb0_.cell 0; have r1 := qb0_.cell 1; have r2 := qb0_.cell 2; have r3 := qb0_.cell 3; have r4 := qb0_.cell 4; have r5 := qb0_.cell 5
  clear qb0_
  have hsm : ∀ i, w1.heap.size ≤ i → i < w3.heap.size → w4.heap[i]? = w3.heap[i]? := fun i h1 h2 => k_ i h2 (by omega) (by simp; omega)
  replace HTE := Lib.hid (own_same HTE.out hsm); replace HV := Lib.hid (VG.same HV.out hsm)
  clear k_ hsm
  go_wp2_with fail
  refine bodyPost_ret (v := .tuple #[.agg #[.int .i64 f, .bool m, .int .i64 b, .int .i64 u, .slice C ts.length d, .slice A2 vs.length cq], .string (stV l3)]) (by simp [results, Tryz.results4, go_sem, r0, r1, r2, r3, r4, r5]) rfl ⟨f, m, b, u, C, d, ts, A2, cq, vs, l3, rfl, n3, hts, hvs, H61.out, RdR.of_own HTE.out, HV.out.rd, HB.out⟩
end Go.Proofs.YtmodpleonhniaaaGreatDoor
