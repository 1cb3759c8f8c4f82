/- Contracts of the draws of Quantize, QuantizeError and PlainVoice. No condition but bounds on the bytes. -/
import Derived.Test.YtgnbnedjocolcaaDrawQ
namespace Go.Proofs.Ytgnbnedjocolcaa
open Go.RowKit
set_option linter.unusedSimpArgs false
set_option linter.unusedVariables false
def RetDQ (w : World) (e : Ending) (w' : World) : Prop :=
  ∃ (A C : Option Addr) (c d : Nat) (es : List Ev) (ts : List (Int × Int)) (gr : Int), e = .returned (.tuple #[.slice A es.length c, .slice C ts.length d, .int .i64 gr]) ∧ es.length ≤ 62 ∧ ts.length ≤ 4 ∧ (0 ≤ gr ∧ gr ≤ 48) ∧ RdEvent w' w'.heap.size A es ∧ RdTempo w' w'.heap.size C ts ∧ Below w.heap.size w w'
theorem lit_keepd {w w' : World} {g : Nat} {t : TypeId} {cs : Array Value} (hg : ((w.alloc (.cells cs t)).drew).grownBy w' (some g)) (hlt : g < w.heap.size) : Blk w' w.heap.size t cs :=
  (show Blk (w.alloc (.cells cs t)).drew w.heap.size t cs from Blk.new w t cs).only hg (by omega)
set_option maxRecDepth 100000 in
set_option maxHeartbeats 4000000 in
theorem spec_DrawQuantize (A : Option Addr) (c : Nat) (zs : List Int) (w : World) (hr : RdY w w.heap.size A zs) (hw : WfY zs) (hl : zs.length ≤ 1048576) (hc : zs.length ≤ c) :
    Calls Try.prog 23 #[.slice A zs.length c] w (RetDQ w) := by
  go_enter Try.func23, Try.ntmps23
  have HY := Lib.hid hr; clear hr
  go_wp2_with fail
  refine (spec_l20Open A c zs w HY.out hw hl hc).mono ?_
  rintro e w1 ⟨rfl, r_, b_, s_⟩
  have z1 := b_.size
  have hlt : w.heap.size < w1.heap.size := r_.lt
  have hne1 : ¬ w1.heap.size = w.heap.size := by omega
  have hnf1 : ¬ w1.heap.size + 1 = w.heap.size := by omega
  have hnh1 : ¬ w1.heap.size + 1 + 1 = w.heap.size := by omega
  have HR := Lib.hid r_
  have HB := Lib.hid b_
  have HG := Lib.hid (only_refl w1 (some w.heap.size))
  clear r_ b_ s_ HY
  go_wp2_with fail
  refine (spec_l20Events w.heap.size 0 12 w1 HR.out (by omega) (by omega)).mono ?_
  rintro e w2 ⟨A2, C2, c2, d2, es, ts, rfl, he, ht, oE, oT, r_, g_⟩
  have z2 := g_.size
  have HB2 := Lib.hid (below_only HB.out g_ (by omega) (Nat.le_refl _))
  have HE := Lib.hid oE; have HT := Lib.hid oT
  clear HR HG
  have HR := Lib.hid r_
  have HG := Lib.hid (only_refl w2 (some w.heap.size))
  clear r_ g_ oE oT
  go_upto_region 3 with fail
  go_region_with (first
    | (go_at_call_of 27 (Value.int IntKind.i64 6); refine (l20_pk w.heap.size _ 6 _ (by first | with_reducible exact HR.out | with_reducible exact (HR.out).drew | with_reducible exact (HR.out).alloc1 _ | with_reducible exact ((HR.out).drew).alloc1 _ | with_reducible exact ((HR.out).alloc1 _).drew | with_reducible exact ((HR.out).alloc1 _).alloc1 _ | with_reducible exact (((HR.out).drew).alloc1 _).alloc1 _ | with_reducible exact (((HR.out).alloc1 _).alloc1 _).drew | with_reducible exact (((HR.out).alloc1 _).alloc1 _).alloc1 _ | with_reducible exact ((((HR.out).drew).alloc1 _).alloc1 _).alloc1 _ | with_reducible exact ((((HR.out).alloc1 _).alloc1 _).alloc1 _).drew) (by omega) (by omega)).mono ?_; rintro e w4 ⟨k4, rfl, hk4, r_, g_⟩; have z4 := g_.size; (try simp only [World.size_alloc, size_drew] at z4); have hne4 : ¬ w4.heap.size = w.heap.size := (by omega); have hnf4 : ¬ w4.heap.size + 1 = w.heap.size := (by omega); have hnh4 : ¬ w4.heap.size + 1 + 1 = w.heap.size := (by omega); have hq4 := only_cells g_; replace HG := Lib.hid (only_trans (by first | with_reducible exact HG.out | with_reducible exact only_drew (HG.out) | with_reducible exact only_alloc (HG.out) _ | with_reducible exact only_alloc (only_drew (HG.out)) _ | with_reducible exact only_drew (only_alloc (HG.out) _) | with_reducible exact only_alloc (only_alloc (HG.out) _) _ | with_reducible exact only_alloc (only_alloc (only_drew (HG.out)) _) _ | with_reducible exact only_drew (only_alloc (only_alloc (HG.out) _) _) | with_reducible exact only_alloc (only_alloc (only_alloc (HG.out) _) _) _ | with_reducible exact only_alloc (only_alloc (only_alloc (only_drew (HG.out)) _) _) _ | with_reducible exact only_drew (only_alloc (only_alloc (only_alloc (HG.out) _) _) _)) g_); replace HR := Lib.hid r_; clear hq4; have HL4 := Lib.hid (lit_keepd g_ (by omega)); obtain ⟨x4, hx4, xl4, xh4⟩ := lit_at (lo := 0) (hi := 48) HL4.out (fun k hk => by simp at hk; rcases k with _ | _ | _ | _ | _ | _ | _ | _ | k <;> first | exact ⟨_, rfl, by omega, by omega⟩ | exact ⟨_, rfl, by rw [IntWalk.i64_in _ (by omega)]; omega, by rw [IntWalk.i64_in _ (by omega)]; omega⟩ | omega) (k := k4) (by simp; omega); clear r_ g_)
    | (go_at_call_of 27 (Value.int IntKind.i64 6); refine (l20_pk w.heap.size _ 6 _ (by first | with_reducible exact HR.out | with_reducible exact (HR.out).drew | with_reducible exact (HR.out).alloc1 _ | with_reducible exact ((HR.out).drew).alloc1 _ | with_reducible exact ((HR.out).alloc1 _).drew | with_reducible exact ((HR.out).alloc1 _).alloc1 _ | with_reducible exact (((HR.out).drew).alloc1 _).alloc1 _ | with_reducible exact (((HR.out).alloc1 _).alloc1 _).drew | with_reducible exact (((HR.out).alloc1 _).alloc1 _).alloc1 _ | with_reducible exact ((((HR.out).drew).alloc1 _).alloc1 _).alloc1 _ | with_reducible exact ((((HR.out).alloc1 _).alloc1 _).alloc1 _).drew) (by omega) (by omega)).mono ?_; rintro e w4 ⟨k4, rfl, hk4, r_, g_⟩; have z4 := g_.size; (try simp only [World.size_alloc, size_drew] at z4); have hne4 : ¬ w4.heap.size = w.heap.size := (by omega); have hnf4 : ¬ w4.heap.size + 1 = w.heap.size := (by omega); have hnh4 : ¬ w4.heap.size + 1 + 1 = w.heap.size := (by omega); have hq4 := only_cells g_; replace HG := Lib.hid (only_trans (by first | with_reducible exact HG.out | with_reducible exact only_drew (HG.out) | with_reducible exact only_alloc (HG.out) _ | with_reducible exact only_alloc (only_drew (HG.out)) _ | with_reducible exact only_drew (only_alloc (HG.out) _) | with_reducible exact only_alloc (only_alloc (HG.out) _) _ | with_reducible exact only_alloc (only_alloc (only_drew (HG.out)) _) _ | with_reducible exact only_drew (only_alloc (only_alloc (HG.out) _) _) | with_reducible exact only_alloc (only_alloc (only_alloc (HG.out) _) _) _ | with_reducible exact only_alloc (only_alloc (only_alloc (only_drew (HG.out)) _) _) _ | with_reducible exact only_drew (only_alloc (only_alloc (only_alloc (HG.out) _) _) _)) g_); replace HR := Lib.hid r_; clear hq4; obtain ⟨x4, hxx4, xlx4, xhx4⟩ := (show LitIn (0) (48) (#[Value.int IntKind.i64 (1), Value.int IntKind.i64 (1), Value.int IntKind.i64 (12), Value.int IntKind.i64 (6), Value.int IntKind.i64 (48), Value.int IntKind.i64 (0)]) from (fun k hk => by simp at hk; rcases k with _ | _ | _ | _ | _ | _ | _ | _ | k <;> first | exact ⟨_, rfl, by omega, by omega⟩ | exact ⟨_, rfl, by rw [IntWalk.i64_in _ (by omega)]; omega, by rw [IntWalk.i64_in _ (by omega)]; omega⟩ | omega)) k4 (by simp; omega); have xl4 := xlx4; have xh4 := xhx4; clear r_ g_))
  all_goals
    have HBZ := Lib.hid (below_only HB2.out HG.out (by omega) (Nat.le_refl _))
    have HEZ := Lib.hid (own_only2 HE.out HG.out (by omega)); have HTZ := Lib.hid (own_only2 HT.out HG.out (by omega))
    go_wp2_with fail
    go_ret3
  all_goals
    first
    | exact ⟨A2, C2, c2, d2, es, ts, x4, rfl, he, ht, ⟨xl4, xh4⟩, RdR.of_own HEZ.out, RdR.of_own HTZ.out, HBZ.out⟩
    | exact ⟨A2, C2, c2, d2, es, ts, x4, rfl, he, ht, ⟨xl4, xh4⟩, RdR.of_own (HEZ.out.alloc _), RdR.of_own (HTZ.out.alloc _), HBZ.out.alloc (by omega) _⟩
theorem spec_DrawQuantizeError (A : Option Addr) (c : Nat) (zs : List Int) (w : World) (hr : RdY w w.heap.size A zs) (hw : WfY zs) (hl : zs.length ≤ 1048576) (hc : zs.length ≤ c) :
    Calls Try.prog 12 #[.slice A zs.length c] w (RetDQ w) := by
  have HY := Lib.hid hr; clear hr
  go_enter Try.func12, Try.ntmps12
  go_wp2_with fail
  refine (spec_DrawQuantize A c zs w HY.out hw hl hc).mono ?_
  rintro e w2 ⟨A2, C2, c2, d2, es, ts, gr, rfl, he, ht, hgr, hE, hT, b2⟩
  have HE := Lib.hid hE; have HT := Lib.hid hT; have HB := Lib.hid b2; clear hE hT b2
  go_wp2_with fail
  go_ret3
  exact ⟨A2, C2, c2, d2, es, ts, gr, rfl, he, ht, hgr, HE.out, HT.out, HB.out⟩
theorem spec_DrawPlainVoice (A : Option Addr) (c : Nat) (zs : List Int) (w : World) (hr : RdY w w.heap.size A zs) (hw : WfY zs) (hl : zs.length ≤ 1048576) (hc : zs.length ≤ c) :
    Calls Try.prog 15 #[.slice A zs.length c] w fun e w' => ∃ (A : Option Addr) (c : Nat) (v : List Nt), e = .returned (.slice A v.length c) ∧ v.length ≤ 61 ∧ RdNote w' w'.heap.size A v ∧ Below w.heap.size w w' := by
  go_enter Try.func15, Try.ntmps15
  have HY := Lib.hid hr; clear hr
  go_wp2_with fail
  refine (spec_l20Open A c zs w HY.out hw hl hc).mono ?_
  rintro e w1 ⟨rfl, r_, b_, s_⟩
  have z1 := b_.size
  have hlt : w.heap.size < w1.heap.size := r_.lt
  have hne1 : ¬ w1.heap.size = w.heap.size := by omega
  have hnf1 : ¬ w1.heap.size + 1 = w.heap.size := by omega
  have hnh1 : ¬ w1.heap.size + 1 + 1 = w.heap.size := by omega
  have HR := Lib.hid r_
  have HB := Lib.hid b_
  have HG := Lib.hid (only_refl w1 (some w.heap.size))
  clear r_ b_ s_ HY
  go_wp2_with fail
  refine (spec_l20Voice w.heap.size 0 9 w1 HR.out (by omega) (by omega)).mono ?_
  rintro e w2 ⟨A2, c2, v, rfl, hv, oV, r_, g_⟩
  have HV := Lib.hid oV
  replace HB := Lib.hid (below_only HB.out g_ (by omega) (Nat.le_refl _))
  clear oV r_ g_
  go_wp2_with fail
  go_ret
  exact ⟨A2, c2, v, rfl, hv, RdR.of_own HV.out, HB.out⟩
end Go.Proofs.Ytgnbnedjocolcaa
