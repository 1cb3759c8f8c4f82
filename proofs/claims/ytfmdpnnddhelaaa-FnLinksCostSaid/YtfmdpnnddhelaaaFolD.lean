/- The draws of following: two growing rows at once. No condition but bounds on the bytes. -/
import Derived.Test.YtfmdpnnddhelaaaDrawS
import Derived.Test.YtfmdpnnddhelaaaSam2
import Derived.Maps.AppendAt
namespace Go.Proofs.Ytfmdpnnddhelaaa
open Go.RowKit
set_option linter.unusedSimpArgs false
set_option linter.unusedVariables false
/-- two rows of ints of the call's own, in two blocks -/
def Two (w : World) (lo g1 g2 c d : Nat) (xs ys : List Int) : Prop :=
  w.ownsRow lo 3 1 (.slice (some ⟨g1, 0, none⟩) xs.length c) xs.length (iv xs) ∧ w.ownsRow lo 3 1 (.slice (some ⟨g2, 0, none⟩) ys.length d) ys.length (iv ys) ∧ g1 ≠ g2
section
variable {w w' : World} {lo g1 g2 c d g : Nat} {xs ys : List Int}
theorem Two.swap (h : Two w lo g1 g2 c d xs ys) : Two w lo g2 g1 d c ys xs := ⟨h.2.1, h.1, fun e => h.2.2 e.symm⟩
theorem Two.only (h : Two w lo g1 g2 c d xs ys) (hg : w.grownBy w' (some g)) (hd : g < lo) : Two w' lo g1 g2 c d xs ys := ⟨own_only h.1 hg hd, own_only h.2.1 hg hd, h.2.2⟩
theorem Two.al (h : Two w lo g1 g2 c d xs ys) (o : Obj) : Two (w.alloc o) lo g1 g2 c d xs ys := ⟨h.1.alloc o, h.2.1.alloc o, h.2.2⟩
theorem Two.start {W : World} (hlo : lo ≤ W.heap.size) : Two ((W.alloc (.cells #[] 3)).alloc (.cells #[] 3)) lo W.heap.size (W.heap.size + 1) 0 0 [] [] :=
  ⟨(own_empty (e := 3) (size := 1) (Below.refl lo W) hlo).1.alloc _, by
    have h := (own_empty (e := 3) (size := 1) (Below.refl lo (W.alloc (.cells #[] 3))) (by simp; omega)).1
    simpa [iv] using h, by omega⟩
theorem Two.a (h : Two w lo g1 g2 c d xs ys) : RdI w w.heap.size (some ⟨g1, 0, none⟩) xs := RdI.of_own h.1
theorem Two.b (h : Two w lo g1 g2 c d xs ys) : RdI w w.heap.size (some ⟨g2, 0, none⟩) ys := RdI.of_own h.2.1
theorem Two.capa (h : Two w lo g1 g2 c d xs ys) : xs.length ≤ c := own_cap h.1
theorem Two.capb (h : Two w lo g1 g2 c d xs ys) : ys.length ≤ d := own_cap h.2.1
theorem append_two {P : Program} {ops : Array Oper} {rest : List Oper} {o : Oper} {a : Act} {Q : Exit → Act → World → Prop} (hgd : o.guard = none) (s x : Operand) (t : TypeId)
    (ho : o.op = .call { callee := .builtin .append, args := #[s, x], argTypes := #[t, t] })
    (i : TypeInfo) (z : Value) (ht : P.underlying t = some (.slice 3)) (hi : P.info? 3 = some i) (hz : i.zero = some z)
    (hsize : i.size = 1) (hby : i.bytes = 8) (hzs : z.cells.size = 1)
    (W : World) (h : Two W lo g1 g2 c d xs ys) (hlo : lo ≤ W.heap.size) (hn : xs.length ≤ 4194304) (zs : List Int) (hz1 : 0 < zs.length) (hz2 : zs.length ≤ 64)
    (hs : a.eval s = .slice (some ⟨g1, 0, none⟩) xs.length c) (hx : a.eval x = .slice (some ⟨W.heap.size, 0, none⟩) zs.length zs.length)
    (hK : ∀ g' c' w', Two w' lo g' g2 c' d (xs ++ zs) ys → Below lo W w' → W.heap.size ≤ w'.heap.size →
      wpList P ops Q rest (a.put o.dst (.slice (some ⟨g', 0, none⟩) (xs ++ zs).length c')) w') : wpList P ops Q (o :: rest) a (W.alloc (.cells (iv zs).toArray 3)) := by
  have l1 := (h.1.lt g1 rfl)
  have l2 := (h.2.1.lt g2 rfl)
  refine wpList_append_own_at _ hgd s x t ho lo 3 i z 1 8 ht hi hz hsize hby hzs (by decide) _ xs.length (iv xs) hs (h.1.alloc _) ⟨W.heap.size, 0, none⟩ zs.length zs.length (iv zs) hx (by simp [iv]) ?_ ?_ (by unfold maxLen; omega) (by omega) (by simp; omega) ?_
  · intro j u hu
    rw [Go.WideShapes.add_plain, Nat.zero_add]
    exact ((Blk.new W 3 (iv zs).toArray).cell j).trans (by simpa using hu)
  · intro u hu
    obtain ⟨v, _, rfl⟩ := List.mem_map.1 hu
    simp [Value.oneCell']
  · intro v' w' hown hg _ hat
    obtain ⟨g', cap, hv, hb, hlt⟩ := hown.form (by omega)
    subst hv
    have hne : g' ≠ g2 := by
      simp [Value.ownBlock] at hat
      rcases hat with rfl | rfl
      · exact h.2.2
      · omega
    have hgb : Below lo (W.alloc (.cells (iv zs).toArray 3)) w' := (Below.refl _ _).grown hg (by simp; omega) (fun k hk => by simp [Value.ownBlock] at hk; omega)
    have h2 : w'.ownsRow lo 3 1 (.slice (some ⟨g2, 0, none⟩) ys.length d) ys.length (iv ys) := (h.2.1.alloc _).kept hg (.inr (by simp [Value.ownBlock]; exact fun e => h.2.2 e.symm))
    have hk := hK g' cap w' ⟨by rw [iv_append, List.length_append]; exact hown, h2, hne⟩ (((Below.refl _ _).alloc hlo _).trans hgb) (by have := hg.size; simp at this; omega)
    rw [List.length_append] at hk
    exact hk
end
def RetFol (w : World) (g q : Nat) (e : Ending) (w' : World) : Prop :=
  ∃ (A C : Option Addr) (c d : Nat) (xs ys : List Int), e = .returned (.tuple #[.slice A xs.length c, .slice C ys.length d]) ∧ xs.length ≤ 9 ∧ ys.length ≤ 41 ∧ RdI w' w'.heap.size A xs ∧ RdI w' w'.heap.size C ys ∧ (∃ g2, C = some ⟨g2, 0, none⟩) ∧ Rdr w' g q ∧ w.grownBy w' (some g) ∧ (∃ g1, A = some ⟨g1, 0, none⟩) ∧ xs.length ≤ c ∧ ys.length ≤ d ∧ (∀ b, A = some ⟨b, 0, none⟩ → g < b) ∧ (∀ b, C = some ⟨b, 0, none⟩ → g < b)
set_option maxRecDepth 100000 in
set_option maxHeartbeats 4000000 in
theorem spec_l20Follow (g q : Nat) (w : World) (hr : Rdr w g q) (hq : q ≤ 900000) :
    Calls Try.prog 38 #[.pointer (some ⟨g, 0, none⟩)] w (RetFol w g (q + 40)) := by
  obtain ⟨i0, hi, hz0, hz1, hz2⟩ := info_parts infoInt
  have HI := Lib.hid hi; have H0 := Lib.hid hz0; have H1 := Lib.hid hz1; have H2 := Lib.hid hz2; clear hi hz0 hz1 hz2
  have hmk := fun W => run_make_rowN (P := Try.prog) 22 3 i0 (.int .i64 0) Try.underlying22 HI.out H0.out .i64 .i64 41 41 (Nat.le_refl _) (by rw [H2.out]; omega) (by omega) W
  rw [H1.out, madeI] at hmk
  have HMK := Lib.hid hmk; clear hmk
  have hlt := hr.lt
  have HR := Lib.hid hr
  have HG := Lib.hid (only_refl w (some g))
  have HT := Lib.hid (Two.start (lo := w.heap.size) (W := w) (Nat.le_refl _))
  clear hr
  go_enter Try.func38, Try.ntmps38
  go_wp2_with (go_at_call_of 45 (Value.int IntKind.i64 9); refine (l20_pk g _ 9 _ (by first | with_reducible exact HR.out | with_reducible exact (HR.out).drew | with_reducible exact (HR.out).alloc1 _ | with_reducible exact ((HR.out).drew).alloc1 _ | with_reducible exact ((HR.out).alloc1 _).drew | with_reducible exact ((HR.out).alloc1 _).alloc1 _ | with_reducible exact (((HR.out).drew).alloc1 _).alloc1 _ | with_reducible exact (((HR.out).alloc1 _).alloc1 _).drew | with_reducible exact (((HR.out).alloc1 _).alloc1 _).alloc1 _ | with_reducible exact ((((HR.out).drew).alloc1 _).alloc1 _).alloc1 _ | with_reducible exact ((((HR.out).alloc1 _).alloc1 _).alloc1 _).drew) (by omega) (by omega)).mono ?_; rintro e w2 ⟨k2, rfl, hk2, r_, g_⟩; have z2 := g_.size; (try simp only [World.size_alloc, size_drew] at z2); have hne2 : ¬ w2.heap.size = g := (by omega); have hnf2 : ¬ w2.heap.size + 1 = g := (by omega); have hnh2 : ¬ w2.heap.size + 1 + 1 = g := (by omega); have hq2 := only_cells g_; replace HG := Lib.hid (only_trans (by first | with_reducible exact HG.out | with_reducible exact only_drew (HG.out) | with_reducible exact only_alloc (HG.out) _ | with_reducible exact only_alloc (only_drew (HG.out)) _ | with_reducible exact only_drew (only_alloc (HG.out) _) | with_reducible exact only_alloc (only_alloc (HG.out) _) _ | with_reducible exact only_alloc (only_alloc (only_drew (HG.out)) _) _ | with_reducible exact only_drew (only_alloc (only_alloc (HG.out) _) _) | with_reducible exact only_alloc (only_alloc (only_alloc (HG.out) _) _) _ | with_reducible exact only_alloc (only_alloc (only_alloc (only_drew (HG.out)) _) _) _ | with_reducible exact only_drew (only_alloc (only_alloc (only_alloc (HG.out) _) _) _)) g_); replace HR := Lib.hid r_; replace HT := Lib.hid (HT.out.only g_ (by omega)); clear r_ g_)
  clear hq2
  go_loopw [4, 5, 6] (fun va vb vi wr => ∃ (j : Nat) (xs ys : List Int) (g1 g2 c d : Nat), j ≤ 8 ∧ xs.length + j ≤ 8 ∧ ys.length + 2 * j ≤ 16 ∧ vi = .int .i64 j ∧ va = .slice (some ⟨g1, 0, none⟩) xs.length c ∧ vb = .slice (some ⟨g2, 0, none⟩) ys.length d ∧ Two wr w.heap.size g1 g2 c d xs ys ∧ Rdr wr g (q + 1 + 3 * (8 - j)) ∧ w.grownBy wr (some g)) (fun _ _ i _ => (intOf i).toNat)
  case atStart => exact ⟨k2, [], [], _, _, _, _, by omega, by simp; omega, by simp; omega, rfl, rfl, rfl, HT.out, HR.out.more (by omega), HG.out⟩
  case round =>
    clear HT HR HG
    obtain ⟨j, xs, ys, g1, g2, c, d, hj, hlx, hly, rfl, rfl, rfl, hT, hrd, hgr⟩ := hrel
    have HR := Lib.hid hrd; have HG := Lib.hid hgr; have HT := Lib.hid hT
    have zr := hgr.size
    clear hrd hgr hT
    by_cases h0 : 0 < j
    · obtain ⟨j, rfl⟩ : ∃ i, j = i + 1 := ⟨j - 1, by omega⟩
      go_wp2_with (first
        | (go_at_call_of 45 (Value.int IntKind.i64 8); refine (l20_pk g _ 8 _ (by first | with_reducible exact HR.out | with_reducible exact (HR.out).drew | with_reducible exact (HR.out).alloc1 _ | with_reducible exact ((HR.out).drew).alloc1 _ | with_reducible exact ((HR.out).alloc1 _).drew | with_reducible exact ((HR.out).alloc1 _).alloc1 _ | with_reducible exact (((HR.out).drew).alloc1 _).alloc1 _ | with_reducible exact (((HR.out).alloc1 _).alloc1 _).drew | with_reducible exact (((HR.out).alloc1 _).alloc1 _).alloc1 _ | with_reducible exact ((((HR.out).drew).alloc1 _).alloc1 _).alloc1 _ | with_reducible exact ((((HR.out).alloc1 _).alloc1 _).alloc1 _).drew) (by omega) (by omega)).mono ?_; rintro e w3 ⟨k3, rfl, hk3, r_, g_⟩; have z3 := g_.size; (try simp only [World.size_alloc, size_drew] at z3); have hne3 : ¬ w3.heap.size = g := (by omega); have hnf3 : ¬ w3.heap.size + 1 = g := (by omega); have hnh3 : ¬ w3.heap.size + 1 + 1 = g := (by omega); have hq3 := only_cells g_; replace HG := Lib.hid (only_trans (by first | with_reducible exact HG.out | with_reducible exact only_drew (HG.out) | with_reducible exact only_alloc (HG.out) _ | with_reducible exact only_alloc (only_drew (HG.out)) _ | with_reducible exact only_drew (only_alloc (HG.out) _) | with_reducible exact only_alloc (only_alloc (HG.out) _) _ | with_reducible exact only_alloc (only_alloc (only_drew (HG.out)) _) _ | with_reducible exact only_drew (only_alloc (only_alloc (HG.out) _) _) | with_reducible exact only_alloc (only_alloc (only_alloc (HG.out) _) _) _ | with_reducible exact only_alloc (only_alloc (only_alloc (only_drew (HG.out)) _) _) _ | with_reducible exact only_drew (only_alloc (only_alloc (only_alloc (HG.out) _) _) _)) g_); replace HR := Lib.hid r_; replace HT := Lib.hid (HT.out.only g_ (by omega)); clear r_ g_)
        | (at_builtin; refine append_two rfl _ _ 22 rfl i0 (.int .i64 0) Try.underlying22 HI.out H0.out H1.out H2.out rfl w3 HT.out (by omega) (by omega) [_] (by simp) (by simp) rfl rfl ?_; intro ga ca wa hT_ hB_ hs_; replace HT := Lib.hid hT_; replace HR := Lib.hid (HR.out.below hB_ hlt); replace HG := Lib.hid (only_below HG.out hB_); have zwa := hs_; clear hT_ hB_ hs_))
      (go_at_call_of 45 (Value.int IntKind.i64 6); refine (l20_pk g _ 6 _ (by first | with_reducible exact HR.out | with_reducible exact (HR.out).drew | with_reducible exact (HR.out).alloc1 _ | with_reducible exact ((HR.out).drew).alloc1 _ | with_reducible exact ((HR.out).alloc1 _).drew | with_reducible exact ((HR.out).alloc1 _).alloc1 _ | with_reducible exact (((HR.out).drew).alloc1 _).alloc1 _ | with_reducible exact (((HR.out).alloc1 _).alloc1 _).drew | with_reducible exact (((HR.out).alloc1 _).alloc1 _).alloc1 _ | with_reducible exact ((((HR.out).drew).alloc1 _).alloc1 _).alloc1 _ | with_reducible exact ((((HR.out).alloc1 _).alloc1 _).alloc1 _).drew) (by omega) (by omega)).mono ?_; rintro e w4 ⟨k4, rfl, hk4, r_, g_⟩; have z4 := g_.size; (try simp only [World.size_alloc, size_drew] at z4); have hne4 : ¬ w4.heap.size = g := (by omega); have hnf4 : ¬ w4.heap.size + 1 = g := (by omega); have hnh4 : ¬ w4.heap.size + 1 + 1 = g := (by omega); have hq4 := only_cells g_; replace HG := Lib.hid (only_trans (by first | with_reducible exact HG.out | with_reducible exact only_drew (HG.out) | with_reducible exact only_alloc (HG.out) _ | with_reducible exact only_alloc (only_drew (HG.out)) _ | with_reducible exact only_drew (only_alloc (HG.out) _) | with_reducible exact only_alloc (only_alloc (HG.out) _) _ | with_reducible exact only_alloc (only_alloc (only_drew (HG.out)) _) _ | with_reducible exact only_drew (only_alloc (only_alloc (HG.out) _) _) | with_reducible exact only_alloc (only_alloc (only_alloc (HG.out) _) _) _ | with_reducible exact only_alloc (only_alloc (only_alloc (only_drew (HG.out)) _) _) _ | with_reducible exact only_drew (only_alloc (only_alloc (only_alloc (HG.out) _) _) _)) g_); replace HR := Lib.hid r_; replace HT := Lib.hid (HT.out.only g_ (by omega)); clear r_ g_)
      rcases (show k4 = 0 ∨ k4 = 1 ∨ k4 = 2 ∨ (k4 ≠ 0 ∧ k4 ≠ 1 ∧ k4 ≠ 2) by omega) with rfl | rfl | rfl | ⟨n0, n1, n2⟩
      · go_wp2_with (first
          | (go_at_call_of 45 (Value.int IntKind.i64 3); refine (l20_pk g _ 3 _ (by first | with_reducible exact HR.out | with_reducible exact (HR.out).drew | with_reducible exact (HR.out).alloc1 _ | with_reducible exact ((HR.out).drew).alloc1 _ | with_reducible exact ((HR.out).alloc1 _).drew | with_reducible exact ((HR.out).alloc1 _).alloc1 _ | with_reducible exact (((HR.out).drew).alloc1 _).alloc1 _ | with_reducible exact (((HR.out).alloc1 _).alloc1 _).drew | with_reducible exact (((HR.out).alloc1 _).alloc1 _).alloc1 _ | with_reducible exact ((((HR.out).drew).alloc1 _).alloc1 _).alloc1 _ | with_reducible exact ((((HR.out).alloc1 _).alloc1 _).alloc1 _).drew) (by omega) (by omega)).mono ?_; rintro e w5 ⟨k5, rfl, hk5, r_, g_⟩; have z5 := g_.size; (try simp only [World.size_alloc, size_drew] at z5); have hne5 : ¬ w5.heap.size = g := (by omega); have hnf5 : ¬ w5.heap.size + 1 = g := (by omega); have hnh5 : ¬ w5.heap.size + 1 + 1 = g := (by omega); have hq5 := only_cells g_; replace HG := Lib.hid (only_trans (by first | with_reducible exact HG.out | with_reducible exact only_drew (HG.out) | with_reducible exact only_alloc (HG.out) _ | with_reducible exact only_alloc (only_drew (HG.out)) _ | with_reducible exact only_drew (only_alloc (HG.out) _) | with_reducible exact only_alloc (only_alloc (HG.out) _) _ | with_reducible exact only_alloc (only_alloc (only_drew (HG.out)) _) _ | with_reducible exact only_drew (only_alloc (only_alloc (HG.out) _) _) | with_reducible exact only_alloc (only_alloc (only_alloc (HG.out) _) _) _ | with_reducible exact only_alloc (only_alloc (only_alloc (only_drew (HG.out)) _) _) _ | with_reducible exact only_drew (only_alloc (only_alloc (only_alloc (HG.out) _) _) _)) g_); replace HR := Lib.hid r_; replace HT := Lib.hid (HT.out.only g_ (by omega)); clear r_ g_)
          | (at_builtin; refine append_two rfl _ _ 22 rfl i0 (.int .i64 0) Try.underlying22 HI.out H0.out H1.out H2.out rfl w5 HT.out.swap (by omega) (by omega) [_] (by simp) (by simp) rfl rfl ?_; intro gb cb wb hT_ hB_ hs_; replace HT := Lib.hid hT_.swap; replace HR := Lib.hid (HR.out.below hB_ hlt); replace HG := Lib.hid (only_below HG.out hB_); have zwb := hs_; clear hT_ hB_ hs_))
        go_roundw
        case rel => exact ⟨j, _, _, _, _, _, _, by omega, by simp; omega, by simp; omega, by go_num, by simp, by simp, HT.out, HR.out.more (by omega), HG.out⟩
        case measure => simp [intOf]
      · go_wp2_with (first
          | (go_at_call_of 45 (Value.int IntKind.i64 8); refine (l20_pk g _ 8 _ (by first | with_reducible exact HR.out | with_reducible exact (HR.out).drew | with_reducible exact (HR.out).alloc1 _ | with_reducible exact ((HR.out).drew).alloc1 _ | with_reducible exact ((HR.out).alloc1 _).drew | with_reducible exact ((HR.out).alloc1 _).alloc1 _ | with_reducible exact (((HR.out).drew).alloc1 _).alloc1 _ | with_reducible exact (((HR.out).alloc1 _).alloc1 _).drew | with_reducible exact (((HR.out).alloc1 _).alloc1 _).alloc1 _ | with_reducible exact ((((HR.out).drew).alloc1 _).alloc1 _).alloc1 _ | with_reducible exact ((((HR.out).alloc1 _).alloc1 _).alloc1 _).drew) (by omega) (by omega)).mono ?_; rintro e w5 ⟨k5, rfl, hk5, r_, g_⟩; have z5 := g_.size; (try simp only [World.size_alloc, size_drew] at z5); have hne5 : ¬ w5.heap.size = g := (by omega); have hnf5 : ¬ w5.heap.size + 1 = g := (by omega); have hnh5 : ¬ w5.heap.size + 1 + 1 = g := (by omega); have hq5 := only_cells g_; replace HG := Lib.hid (only_trans (by first | with_reducible exact HG.out | with_reducible exact only_drew (HG.out) | with_reducible exact only_alloc (HG.out) _ | with_reducible exact only_alloc (only_drew (HG.out)) _ | with_reducible exact only_drew (only_alloc (HG.out) _) | with_reducible exact only_alloc (only_alloc (HG.out) _) _ | with_reducible exact only_alloc (only_alloc (only_drew (HG.out)) _) _ | with_reducible exact only_drew (only_alloc (only_alloc (HG.out) _) _) | with_reducible exact only_alloc (only_alloc (only_alloc (HG.out) _) _) _ | with_reducible exact only_alloc (only_alloc (only_alloc (only_drew (HG.out)) _) _) _ | with_reducible exact only_drew (only_alloc (only_alloc (only_alloc (HG.out) _) _) _)) g_); replace HR := Lib.hid r_; replace HT := Lib.hid (HT.out.only g_ (by omega)); clear r_ g_)
          | (at_builtin; refine append_two rfl _ _ 22 rfl i0 (.int .i64 0) Try.underlying22 HI.out H0.out H1.out H2.out rfl w5 HT.out.swap (by omega) (by omega) [_, _] (by simp) (by simp) rfl rfl ?_; intro gb cb wb hT_ hB_ hs_; replace HT := Lib.hid hT_.swap; replace HR := Lib.hid (HR.out.below hB_ hlt); replace HG := Lib.hid (only_below HG.out hB_); have zwb := hs_; clear hT_ hB_ hs_))
        go_roundw
        case rel => exact ⟨j, _, _, _, _, _, _, by omega, by simp; omega, by simp; omega, by go_num, by simp, by simp, HT.out, HR.out.more (by omega), HG.out⟩
        case measure => simp [intOf]
      · go_wp2_with fail
        go_roundw
        case rel => exact ⟨j, _, _, _, _, _, _, by omega, by simp; omega, by omega, by go_num, by simp, by simp, HT.out, HR.out.more (by omega), HG.out⟩
        case measure => simp [intOf]
      · have c0 : ((k4 : Int) == 0) = false := by simp; omega
        have c1 : ((k4 : Int) == 1) = false := by simp; omega
        have c2 : ((k4 : Int) == 2) = false := by simp; omega
        go_wp2_with (at_builtin; refine append_two rfl _ _ 22 rfl i0 (.int .i64 0) Try.underlying22 HI.out H0.out H1.out H2.out rfl w4 HT.out.swap (by omega) (by omega) [_] (by simp) (by simp) rfl rfl ?_; intro gb cb wb hT_ hB_ hs_; replace HT := Lib.hid hT_.swap; replace HR := Lib.hid (HR.out.below hB_ hlt); replace HG := Lib.hid (only_below HG.out hB_); have zwb := hs_; clear hT_ hB_ hs_)
        go_roundw
        case rel => exact ⟨j, _, _, _, _, _, _, by omega, by simp; omega, by simp; omega, by go_num, by simp, by simp, HT.out, HR.out.more (by omega), HG.out⟩
        case measure => simp [intOf]
    · obtain rfl : j = 0 := by omega
      go_wp2_with fail
      refine (l20_odd g _ 14 _ (by first | with_reducible exact HR.out | with_reducible exact (HR.out).drew | with_reducible exact (HR.out).alloc1 _ | with_reducible exact ((HR.out).drew).alloc1 _ | with_reducible exact ((HR.out).alloc1 _).drew | with_reducible exact ((HR.out).alloc1 _).alloc1 _ | with_reducible exact (((HR.out).drew).alloc1 _).alloc1 _ | with_reducible exact (((HR.out).alloc1 _).alloc1 _).drew | with_reducible exact (((HR.out).alloc1 _).alloc1 _).alloc1 _ | with_reducible exact ((((HR.out).drew).alloc1 _).alloc1 _).alloc1 _ | with_reducible exact ((((HR.out).alloc1 _).alloc1 _).alloc1 _).drew) (by omega) (by omega)).mono ?_
      rintro e w6 ⟨v6, rfl, r_, g_⟩
      have z6 := g_.size; (try simp only [World.size_alloc, size_drew] at z6)
      have hne6 : ¬ w6.heap.size = g := (by omega)
      have hnf6 : ¬ w6.heap.size + 1 = g := (by omega)
      have hnh6 : ¬ w6.heap.size + 1 + 1 = g := (by omega)
      have hq6 := only_cells g_
      replace HG := Lib.hid (only_trans (by first | with_reducible exact HG.out | with_reducible exact only_drew (HG.out) | with_reducible exact only_alloc (HG.out) _ | with_reducible exact only_alloc (only_drew (HG.out)) _ | with_reducible exact only_drew (only_alloc (HG.out) _) | with_reducible exact only_alloc (only_alloc (HG.out) _) _ | with_reducible exact only_alloc (only_alloc (only_drew (HG.out)) _) _ | with_reducible exact only_drew (only_alloc (only_alloc (HG.out) _) _) | with_reducible exact only_alloc (only_alloc (only_alloc (HG.out) _) _) _ | with_reducible exact only_alloc (only_alloc (only_alloc (only_drew (HG.out)) _) _) _ | with_reducible exact only_drew (only_alloc (only_alloc (only_alloc (HG.out) _) _) _)) g_)
      replace HR := Lib.hid r_
      replace HT := Lib.hid (HT.out.only g_ (by omega))
      clear r_ g_
      cases v6
      · go_wp2_with fail
        refine (l20_odd g _ 24 _ (by first | with_reducible exact HR.out | with_reducible exact (HR.out).drew | with_reducible exact (HR.out).alloc1 _ | with_reducible exact ((HR.out).drew).alloc1 _ | with_reducible exact ((HR.out).alloc1 _).drew | with_reducible exact ((HR.out).alloc1 _).alloc1 _ | with_reducible exact (((HR.out).drew).alloc1 _).alloc1 _ | with_reducible exact (((HR.out).alloc1 _).alloc1 _).drew | with_reducible exact (((HR.out).alloc1 _).alloc1 _).alloc1 _ | with_reducible exact ((((HR.out).drew).alloc1 _).alloc1 _).alloc1 _ | with_reducible exact ((((HR.out).alloc1 _).alloc1 _).alloc1 _).drew) (by omega) (by omega)).mono ?_
        rintro e w9 ⟨v9, rfl, r_, g_⟩
        have z9 := g_.size; (try simp only [World.size_alloc, size_drew] at z9)
        have hne9 : ¬ w9.heap.size = g := (by omega)
        have hnf9 : ¬ w9.heap.size + 1 = g := (by omega)
        have hnh9 : ¬ w9.heap.size + 1 + 1 = g := (by omega)
        have hq9 := only_cells g_
        replace HG := Lib.hid (only_trans (by first | with_reducible exact HG.out | with_reducible exact only_drew (HG.out) | with_reducible exact only_alloc (HG.out) _ | with_reducible exact only_alloc (only_drew (HG.out)) _ | with_reducible exact only_drew (only_alloc (HG.out) _) | with_reducible exact only_alloc (only_alloc (HG.out) _) _ | with_reducible exact only_alloc (only_alloc (only_drew (HG.out)) _) _ | with_reducible exact only_drew (only_alloc (only_alloc (HG.out) _) _) | with_reducible exact only_alloc (only_alloc (only_alloc (HG.out) _) _) _ | with_reducible exact only_alloc (only_alloc (only_alloc (only_drew (HG.out)) _) _) _ | with_reducible exact only_drew (only_alloc (only_alloc (only_alloc (HG.out) _) _) _)) g_)
        replace HR := Lib.hid r_
        replace HT := Lib.hid (HT.out.only g_ (by omega))
        clear r_ g_
        cases v9
        · go_wp2_with fail
          go_ret2
          exact ⟨_, _, c, d, _, _, by first | rfl | (rw [List.length_append]; rfl), by omega, by omega, HT.out.a, HT.out.b, ⟨_, rfl⟩, HR.out.more (by omega), HG.out, ⟨_, rfl⟩, HT.out.capa, HT.out.capb, (fun b e => by injection e with e; injection e with e; have := (HT.out.1.lt _ rfl).1; dsimp only at this; omega), (fun b e => by injection e with e; injection e with e; have := (HT.out.2.1.lt _ rfl).1; dsimp only at this; omega)⟩
        · have hmk : ∀ W : World, (Instr.makeSlice 22 (.int .i64 41) (.int .i64 41)).run Try.prog W = .ok (.slice (some ⟨W.heap.size, 0, none⟩) 41 41) (W.alloc (.cells (iv (List.replicate 41 0)).toArray 3)) := HMK.out
          go_wp2_with fail
          go_ret2
          exact ⟨_, some ⟨w9.heap.size, 0, none⟩, c, 41, _, List.replicate 41 0, by first | (rw [List.length_replicate]; rfl) | (rw [List.length_replicate, List.length_append]; rfl), by omega, by rw [List.length_replicate]; omega, (HT.out.al _).a, RdI.of_own (base := w9.heap.size) (c := 41) (by rw [List.length_replicate]; exact (Blk.new w9 3 (iv (List.replicate 41 0)).toArray).own (size := 1) (n := 41) (Nat.le_refl _) (by unfold maxLen; omega) (by rw [List.size_toArray, iv_length, List.length_replicate])), ⟨_, rfl⟩, (HR.out.alloc1 _).more (by omega), only_alloc HG.out _, ⟨_, rfl⟩, HT.out.capa, by rw [List.length_replicate]; exact Nat.le_refl _, (fun b e => by injection e with e; injection e with e; have := (HT.out.1.lt _ rfl).1; dsimp only at this; omega), (fun b e => by injection e with e; injection e with e; omega)⟩
      · go_wp2_with (first
          | (go_at_call_of 45 (Value.int IntKind.i64 2); refine (l20_pk g _ 2 _ (by first | with_reducible exact HR.out | with_reducible exact (HR.out).drew | with_reducible exact (HR.out).alloc1 _ | with_reducible exact ((HR.out).drew).alloc1 _ | with_reducible exact ((HR.out).alloc1 _).drew | with_reducible exact ((HR.out).alloc1 _).alloc1 _ | with_reducible exact (((HR.out).drew).alloc1 _).alloc1 _ | with_reducible exact (((HR.out).alloc1 _).alloc1 _).drew | with_reducible exact (((HR.out).alloc1 _).alloc1 _).alloc1 _ | with_reducible exact ((((HR.out).drew).alloc1 _).alloc1 _).alloc1 _ | with_reducible exact ((((HR.out).alloc1 _).alloc1 _).alloc1 _).drew) (by omega) (by omega)).mono ?_; rintro e w7 ⟨k7, rfl, hk7, r_, g_⟩; have z7 := g_.size; (try simp only [World.size_alloc, size_drew] at z7); have hne7 : ¬ w7.heap.size = g := (by omega); have hnf7 : ¬ w7.heap.size + 1 = g := (by omega); have hnh7 : ¬ w7.heap.size + 1 + 1 = g := (by omega); have hq7 := only_cells g_; replace HG := Lib.hid (only_trans (by first | with_reducible exact HG.out | with_reducible exact only_drew (HG.out) | with_reducible exact only_alloc (HG.out) _ | with_reducible exact only_alloc (only_drew (HG.out)) _ | with_reducible exact only_drew (only_alloc (HG.out) _) | with_reducible exact only_alloc (only_alloc (HG.out) _) _ | with_reducible exact only_alloc (only_alloc (only_drew (HG.out)) _) _ | with_reducible exact only_drew (only_alloc (only_alloc (HG.out) _) _) | with_reducible exact only_alloc (only_alloc (only_alloc (HG.out) _) _) _ | with_reducible exact only_alloc (only_alloc (only_alloc (only_drew (HG.out)) _) _) _ | with_reducible exact only_drew (only_alloc (only_alloc (only_alloc (HG.out) _) _) _)) g_); replace HR := Lib.hid r_; replace HT := Lib.hid ((HT.out.al _).only g_ (by omega)); obtain ⟨x, hxx, xlx, xhx⟩ := (show LitIn (-1) (108) (#[Value.int IntKind.i64 (-1), Value.int IntKind.i64 (108)]) from (fun k hk => by simp at hk; rcases k with _ | _ | _ | _ | _ | _ | _ | _ | k <;> first | exact ⟨_, rfl, by omega, by omega⟩ | exact ⟨_, rfl, by rw [IntWalk.i64_in _ (by omega)]; omega, by rw [IntWalk.i64_in _ (by omega)]; omega⟩ | omega)) k7 (by simp; omega); clear r_ g_)
          | (at_builtin; refine append_two rfl _ _ 22 rfl i0 (.int .i64 0) Try.underlying22 HI.out H0.out H1.out H2.out rfl w7 HT.out (by omega) (by omega) [_] (by simp) (by simp) rfl rfl ?_; intro ga ca wa hT_ hB_ hs_; replace HT := Lib.hid hT_; replace HR := Lib.hid (HR.out.below hB_ hlt); replace HG := Lib.hid (only_below HG.out hB_); have zwa := hs_; clear hT_ hB_ hs_))
        go_wp2_with fail
        refine (l20_odd g _ 24 _ (by first | with_reducible exact HR.out | with_reducible exact (HR.out).drew | with_reducible exact (HR.out).alloc1 _ | with_reducible exact ((HR.out).drew).alloc1 _ | with_reducible exact ((HR.out).alloc1 _).drew | with_reducible exact ((HR.out).alloc1 _).alloc1 _ | with_reducible exact (((HR.out).drew).alloc1 _).alloc1 _ | with_reducible exact (((HR.out).alloc1 _).alloc1 _).drew | with_reducible exact (((HR.out).alloc1 _).alloc1 _).alloc1 _ | with_reducible exact ((((HR.out).drew).alloc1 _).alloc1 _).alloc1 _ | with_reducible exact ((((HR.out).alloc1 _).alloc1 _).alloc1 _).drew) (by omega) (by omega)).mono ?_
        rintro e w9 ⟨v9, rfl, r_, g_⟩
        have z9 := g_.size; (try simp only [World.size_alloc, size_drew] at z9)
        have hne9 : ¬ w9.heap.size = g := (by omega)
        have hnf9 : ¬ w9.heap.size + 1 = g := (by omega)
        have hnh9 : ¬ w9.heap.size + 1 + 1 = g := (by omega)
        have hq9 := only_cells g_
        replace HG := Lib.hid (only_trans (by first | with_reducible exact HG.out | with_reducible exact only_drew (HG.out) | with_reducible exact only_alloc (HG.out) _ | with_reducible exact only_alloc (only_drew (HG.out)) _ | with_reducible exact only_drew (only_alloc (HG.out) _) | with_reducible exact only_alloc (only_alloc (HG.out) _) _ | with_reducible exact only_alloc (only_alloc (only_drew (HG.out)) _) _ | with_reducible exact only_drew (only_alloc (only_alloc (HG.out) _) _) | with_reducible exact only_alloc (only_alloc (only_alloc (HG.out) _) _) _ | with_reducible exact only_alloc (only_alloc (only_alloc (only_drew (HG.out)) _) _) _ | with_reducible exact only_drew (only_alloc (only_alloc (only_alloc (HG.out) _) _) _)) g_)
        replace HR := Lib.hid r_
        replace HT := Lib.hid (HT.out.only g_ (by omega))
        clear r_ g_
        cases v9
        · go_wp2_with fail
          go_ret2
          exact ⟨_, _, ca, d, _, _, by first | rfl | (rw [List.length_append]; rfl), by simp; omega, by omega, HT.out.a, HT.out.b, ⟨_, rfl⟩, HR.out.more (by omega), HG.out, ⟨_, rfl⟩, HT.out.capa, HT.out.capb, (fun b e => by injection e with e; injection e with e; have := (HT.out.1.lt _ rfl).1; dsimp only at this; omega), (fun b e => by injection e with e; injection e with e; have := (HT.out.2.1.lt _ rfl).1; dsimp only at this; omega)⟩
        · have hmk : ∀ W : World, (Instr.makeSlice 22 (.int .i64 41) (.int .i64 41)).run Try.prog W = .ok (.slice (some ⟨W.heap.size, 0, none⟩) 41 41) (W.alloc (.cells (iv (List.replicate 41 0)).toArray 3)) := HMK.out
          go_wp2_with fail
          go_ret2
          exact ⟨_, some ⟨w9.heap.size, 0, none⟩, ca, 41, _, List.replicate 41 0, by first | (rw [List.length_replicate]; rfl) | (rw [List.length_replicate, List.length_append]; rfl), by simp; omega, by rw [List.length_replicate]; omega, (HT.out.al _).a, RdI.of_own (base := w9.heap.size) (c := 41) (by rw [List.length_replicate]; exact (Blk.new w9 3 (iv (List.replicate 41 0)).toArray).own (size := 1) (n := 41) (Nat.le_refl _) (by unfold maxLen; omega) (by rw [List.size_toArray, iv_length, List.length_replicate])), ⟨_, rfl⟩, (HR.out.alloc1 _).more (by omega), only_alloc HG.out _, ⟨_, rfl⟩, HT.out.capa, by rw [List.length_replicate]; exact Nat.le_refl _, (fun b e => by injection e with e; injection e with e; have := (HT.out.1.lt _ rfl).1; dsimp only at this; omega), (fun b e => by injection e with e; injection e with e; omega)⟩
theorem spec_DrawFollowCost (A : Option Addr) (c : Nat) (zs : List Int) (w : World) (hr : RdY w w.heap.size A zs) (hw : WfY zs) (hl : zs.length ≤ 1048576) (hc : zs.length ≤ c) :
    Calls Try.prog 18 #[.slice A zs.length c] w fun e w' => ∃ (A C : Option Addr) (c d : Nat) (xs ys : List Int), e = .returned (.tuple #[.slice A xs.length c, .slice C ys.length d]) ∧ xs.length ≤ 9 ∧ ys.length ≤ 41 ∧ RdI w' w'.heap.size A xs ∧ RdI w' w'.heap.size C ys ∧ (∃ g2, C = some ⟨g2, 0, none⟩) ∧ Below w.heap.size w w' ∧ (∃ g1, A = some ⟨g1, 0, none⟩) ∧ xs.length ≤ c ∧ ys.length ≤ d := by
  go_enter Try.func18, Try.ntmps18
  have HY := Lib.hid hr; clear hr
  go_wp2_with fail
  refine (spec_l20Open A c zs w HY.out hw hl hc).mono ?_
  rintro e w1 ⟨rfl, r_, b_, s_⟩
  have z1 := b_.size
  have hlt : w.heap.size < w1.heap.size := r_.lt
  have hne1 : ¬ w1.heap.size = w.heap.size := by omega
  have hnf1 : ¬ w1.heap.size + 1 = w.heap.size := by omega
  have hnh1 : ¬ w1.heap.size + 1 + 1 = w.heap.size := by omega
  have HR := Lib.hid r_
  have HB := Lib.hid b_
  have HG := Lib.hid (only_refl w1 (some w.heap.size))
  clear r_ b_ s_ HY
  go_wp2_with fail
  refine (spec_l20Follow w.heap.size 0 w1 HR.out (by omega)).mono ?_
  rintro e w2 ⟨A2, C2, c2, d2, xs, ys, rfl, hx, hy, ra, rb, hC, hr2, hg2, hA, hca, hcb, -, -⟩
  have RA := Lib.hid ra; have RB := Lib.hid rb; clear ra rb hr2
  replace HB := Lib.hid (below_only HB.out hg2 (by omega) (Nat.le_refl _))
  clear hg2
  go_wp2_with fail
  go_ret2
  exact ⟨A2, C2, c2, d2, xs, ys, rfl, hx, hy, RA.out, RB.out, hC, HB.out, hA, hca, hcb⟩
end Go.Proofs.Ytfmdpnnddhelaaa
