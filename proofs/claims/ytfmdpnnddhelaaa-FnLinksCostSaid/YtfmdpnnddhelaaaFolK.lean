/- The draw of FnLinksCost. No condition but bounds on the bytes. -/
import Derived.Test.YtfmdpnnddhelaaaFolL
import Derived.Test.YtfmdpnnddhelaaaFolPl
namespace Go.Proofs.Ytfmdpnnddhelaaa
open Go.RowKit
set_option linter.unusedSimpArgs false
set_option linter.unusedVariables false
theorem own_capF {w : World} {base e size n c : Nat} {A : Option Addr} {xs : List Value} (h : w.ownsRow base e size (.slice A n c) n xs) : n ≤ c := by
  rcases h.2 with ⟨hv, rfl⟩ | ⟨g, cap, cur, hv, hb, hg, hnc, _⟩
  · exact Nat.zero_le _
  · injection hv with _ _ e; omega
theorem RdR.drop1 {α : Type} {enc : α → List Value} {s : Nat} (he : ∀ a, (enc a).length = s) {w : World} {B b : Nat} {zs : List α} (h : RdR enc s w B (some ⟨b, 0, none⟩) zs) : RdR enc s w B (some ⟨b, s, none⟩) (zs.drop 1) := by
  refine ⟨fl_length he _, fun hn => ?_⟩
  have hz : 1 < zs.length := by simp at hn; omega
  obtain ⟨b', o', e, hb, hc⟩ := h.2 (by omega)
  injection e with e; injection e with e1 e2; subst e1; subst e2
  refine ⟨b, s, rfl, hb, fun j u hu => ?_⟩
  have e3 : fl enc zs = enc zs[0] ++ fl enc (zs.drop 1) := by
    conv => lhs; rw [show zs = [zs[0]] ++ zs.drop 1 by rw [List.singleton_append, ← List.drop_eq_getElem_cons (by omega)]; rfl]
    rw [fl_append, fl_one]
  have := hc (s + j) u (by rw [e3, List.getElem?_append_right (by rw [he]; omega), he, Nat.add_sub_cancel_left]; exact hu)
  rwa [Nat.zero_add] at this
theorem set_same {α : Type} {l : List α} {i : Nat} {v : α} (h : l[i]? = some v) : l.set i v = l := by
  refine List.ext_getElem? fun j => ?_
  rw [List.getElem?_set]
  split
  · rename_i e; subst e; split
    · exact h.symm
    · rename_i hlt; rw [List.getElem?_eq_none (by omega)] at h; cases h
  · rfl
theorem fl_set_fst {L : List (Int × Int)} {k : Nat} (hk : k < L.length) {v : Int} : (fl encLink L).set (k * 2) (.int .i64 v) = fl encLink (L.set k (v, (glLink L k).2)) := by
  rw [← fl_set2 encLink_len (xs := L) hk (z := (v, (glLink L k).2)) rfl]
  refine (set_same ?_).symm
  have a1 := fl_at (enc := encLink) encLink_len (j := 1) hk (by omega)
  rw [glLink_get hk] at a1
  rw [List.getElem?_set, if_neg (by omega), a1]; rfl
theorem RdR.all_ {α : Type} {enc : α → List Value} {s : Nat} (he : ∀ a, (enc a).length = s) {w : World} {B : Nat} {ad : Addr} {zs : List α} (h : RdR enc s w B (some ad) zs) : ∀ j u, (fl enc zs)[j]? = some u → w.cell? (ad.add j) = some u := by
  intro j u hu
  have hj : j < zs.length * s := by
    rcases Nat.lt_or_ge j (zs.length * s) with h1 | h1
    · exact h1
    · rw [List.getElem?_eq_none (by rw [fl_length he]; exact h1)] at hu; cases hu
  obtain ⟨b, off, e, hb, hc⟩ := h.2 (by rcases Nat.eq_zero_or_pos zs.length with h0 | h0; (rw [h0, Nat.zero_mul] at hj; omega); exact h0)
  injection e with e; subst e
  rw [Go.WideShapes.add_plain]; exact hc j u hu
def RetDLC (w : World) (e : Ending) (w' : World) : Prop :=
  ∃ (g1 g2 c d m ge oe : Nat) (xs ys : List Int) (ls : List (Int × Int)), e = .returned (.tuple #[.slice (some ⟨g1, 0, none⟩) xs.length c, .slice (some ⟨g2, 0, none⟩) ys.length d, .slice (some ⟨ge, oe, none⟩) ls.length m]) ∧ xs.length ≤ 9 ∧ ys.length ≤ 41 ∧ ls.length ≤ 200 ∧ RdI w' w'.heap.size (some ⟨g1, 0, none⟩) xs ∧ RdI w' w'.heap.size (some ⟨g2, 0, none⟩) ys ∧ RdLink w' w'.heap.size (some ⟨ge, oe, none⟩) ls ∧ Below w.heap.size w w'
set_option maxRecDepth 100000 in
set_option maxHeartbeats 8000000 in
theorem spec_DrawLinksCost (A : Option Addr) (c : Nat) (zs : List Int) (w : World) (hr : RdY w w.heap.size A zs) (hw : WfY zs) (hl : zs.length ≤ 1048576) (hc : zs.length ≤ c) :
    Calls Try.prog 33 #[.slice A zs.length c] w (RetDLC w) := by
  obtain ⟨i0, hi, hz0, hz1, hz2⟩ := info_parts infoLink'
  have HI := Lib.hid hi; have H0 := Lib.hid hz0; have H1 := Lib.hid hz1; have H2 := Lib.hid hz2; clear hi hz0 hz1 hz2
  go_enter Try.func33, Try.ntmps33
  have HY := Lib.hid hr; clear hr
  go_wp2_with fail
  refine (spec_l20Open A c zs w HY.out hw hl hc).mono ?_
  rintro e w1 ⟨rfl, r_, b_, s_⟩
  have z1 := b_.size
  have hlt : w.heap.size < w1.heap.size := r_.lt
  have hne1 : ¬ w1.heap.size = w.heap.size := by omega
  have hnf1 : ¬ w1.heap.size + 1 = w.heap.size := by omega
  have hnh1 : ¬ w1.heap.size + 1 + 1 = w.heap.size := by omega
  have HR := Lib.hid r_
  have HB := Lib.hid b_
  have HG := Lib.hid (only_refl w1 (some w.heap.size))
  clear r_ b_ s_ HY
  go_wp2_with fail
  refine (spec_l20Follow w.heap.size 0 w1 HR.out (by omega)).mono ?_
  rintro e w2 ⟨A2, C2, c2, d2, xs, ys, rfl, hx, hy, ra, rb, ⟨g2, rfl⟩, hr2, hg2, ⟨g1, rfl⟩, hca, hcb, hga, hgb⟩
  have HX2 := Lib.hid ra; have HY2 := Lib.hid rb; have HR2 := Lib.hid hr2
  have zs2 := hg2.size
  have HB2 := Lib.hid (below_only HB.out hg2 (by omega) (Nat.le_refl _))
  have n1 := hga _ rfl
  have n2 := hgb _ rfl
  clear ra rb hr2 hg2 HG HB HR hga hgb
  have HLL := Lib.hid (linksV_len xs ys)
  go_wp2_with fail
  refine (spec_FollowLinksG _ _ _ _ _ _ w2 HX2.out HY2.out (by omega) (by omega)).mono ?_
  rintro e w3 ⟨gl, cl, rfl, o3, b3⟩
  have z3 := b3.size
  have HO3 := Lib.hid o3
  have HX3 := Lib.hid (HX2.out.below b3 (Nat.le_refl _)); have HY3 := Lib.hid (HY2.out.below b3 (Nat.le_refl _))
  have HR3 := Lib.hid (HR2.out.below b3 (by omega))
  have HB3 := Lib.hid (HB2.out.trans (b3.mono (by omega)))
  clear o3 b3
  generalize linksV xs ys = L at *
  have hLn := HLL.out.2
  go_wp2_with fail
  refine (l20_pk w.heap.size _ 3 w3 HR3.out (by omega) (by omega)).mono ?_
  rintro e w4 ⟨k4, rfl, hk4, r_, g_⟩
  have HX4 := Lib.hid (HX3.out.only' g_ (by omega) (by omega)); have HY4 := Lib.hid (HY3.out.only' g_ (by omega) (by omega))
  have HB4 := Lib.hid (below_only HB3.out g_ (by omega) (Nat.le_refl _))
  have z4 := g_.size
  have HR4 := Lib.hid r_
  have HO4 := Lib.hid (own_only HO3.out g_ (by omega))
  clear r_ g_
  by_cases h0 : k4 = 0
  case neg =>
    have e0 : ((k4 : Int) == 0) = false := by simp; omega
    clear h0
    by_cases hL0 : L.length = 0
    · have hn0 : ¬ 0 < (L.length : Int) := by omega
      have d0 : decide (0 < L.length) = false := decide_eq_false (by omega)
      have d1 : decide (0 < (L.length : Int)) = false := decide_eq_false hn0
      have HL0 := Lib.hid hL0
      clear hL0 hn0
      go_wp2_with fail
      go_ret3
      exact ⟨g1, g2, c2, d2, _, _, _, xs, ys, L, rfl, hx, hy, (by first | omega | (simp; omega)), HX4.out.more (by omega), HY4.out.more (by omega), RdR.of_own HO4.out, HB4.out⟩
    have d0 : decide (0 < L.length) = true := decide_eq_true (by omega)
    have d1 : decide (0 < (L.length : Int)) = true := decide_eq_true (by omega)
    have hlp : 1 ≤ L.length := by omega
    clear hL0
    go_wp2_with fail
    refine (l20_odd w.heap.size _ 4 w4 HR4.out (by omega) (by omega)).mono ?_
    rintro e w20 ⟨v20, rfl, r_, g_⟩
    have HX20 := Lib.hid (HX4.out.only' g_ (by omega) (by omega)); have HY20 := Lib.hid (HY4.out.only' g_ (by omega) (by omega))
    have HB20 := Lib.hid (below_only HB4.out g_ (by omega) (Nat.le_refl _))
    have z20 := g_.size
    have HR20 := Lib.hid r_
    have HO20 := Lib.hid (own_only HO4.out g_ (by omega))
    clear r_ g_
    cases v20
    · go_wp2_with fail
      go_ret3
      exact ⟨g1, g2, c2, d2, _, _, _, xs, ys, L, rfl, hx, hy, (by first | omega | (simp; omega)), HX20.out.more (by omega), HY20.out.more (by omega), RdR.of_own HO20.out, HB20.out⟩
    go_wp2_with fail
    refine (l20_pk w.heap.size _ 3 w20 HR20.out (by omega) (by omega)).mono ?_
    rintro e w21 ⟨k21, rfl, hk21, r_, g_⟩
    have HX21 := Lib.hid (HX20.out.only' g_ (by omega) (by omega)); have HY21 := Lib.hid (HY20.out.only' g_ (by omega) (by omega))
    have HB21 := Lib.hid (below_only HB20.out g_ (by omega) (Nat.le_refl _))
    have z21 := g_.size
    have HR21 := Lib.hid r_
    have HO21 := Lib.hid (own_only HO20.out g_ (by omega))
    clear r_ g_
    rcases (show k21 = 0 ∨ k21 = 1 ∨ (k21 ≠ 0 ∧ k21 ≠ 1) by omega) with rfl | rfl | ⟨n0, n1⟩
    · have hc1 : L.length ≤ cl := own_capF HO21.out
      have e1 : L.length - 1 = (L.drop 1).length := by simp
      have HE1 := Lib.hid e1
      clear e1
      by_cases hcl : cl = 1
      · have HD := Lib.hid (show L.drop 1 = [] from List.drop_eq_nil_of_le (by omega))
        have hlen : (L.length : Int) ≤ 1 := by omega
        obtain rfl : 1 = cl := hcl.symm
        clear hc1
        go_wp2_with fail
        go_ret3
        exact ⟨g1, g2, c2, d2, _, _, _, xs, ys, L.drop 1, (by rw [← HE1.out]; first | rfl | simp), hx, hy, (by first | omega | (simp; omega)), HX21.out.more (by omega), HY21.out.more (by omega), RdR.none0 HD.out, HB21.out⟩
      · have hcl1 : ¬ 1 = cl := fun h => hcl h.symm
        have hc2 : (1 : Int) ≤ (cl : Int) := by omega
        have hl2 : (1 : Int) ≤ (L.length : Int) := by omega
        go_wp2_with fail
        go_ret3
        exact ⟨g1, g2, c2, d2, _, _, _, xs, ys, L.drop 1, (by rw [← HE1.out]; first | rfl | simp), hx, hy, (by first | omega | (simp; omega)), HX21.out.more (by omega), HY21.out.more (by omega), RdR.drop1 encLink_len (RdR.of_own HO21.out), HB21.out⟩
    · go_wp2_with (at_builtin; refine append_el rfl _ _ 34 rfl 42 i0 (.agg #[Value.int .i64 0, Value.int .i64 0]) 2 16 Try.underlying34 HI.out H0.out H1.out H2.out rfl (by decide) (by decide) w2.heap.size w21 w21 _ L.length _ HO21.out (Below.refl _ _) (by omega) (by omega) rfl [.int .i64 (-1), .int .i64 (-1)] rfl (link_one_cell _ _) rfl ?_; intro A22 c22 w22 hown22 hbel22 hbase22 hg22)
      have hown' : w22.ownsRow w2.heap.size 42 2 (.slice A22 (L ++ [(-1, -1)]).length c22) (L ++ [(-1, -1)]).length (fl encLink (L ++ [(-1, -1)])) := by rw [List.length_append, fl_append, fl_one]; exact hown22
      obtain ⟨gq, rfl⟩ := own_someF hown' (by simp)
      have HO22 := Lib.hid hown'
      have z22 := hbel22.size
      have HX22 := Lib.hid (HX21.out.below hbel22 (by omega)); have HY22 := Lib.hid (HY21.out.below hbel22 (by omega))
      have HB22 := Lib.hid (HB21.out.trans (hbel22.mono (by omega)))
      clear hown' hown22 hbel22 hg22
      go_wp2_with fail
      go_ret3
      exact ⟨g1, g2, c2, d2, _, _, _, xs, ys, L ++ [(-1, -1)], (by rw [List.length_append]; rfl), hx, hy, by rw [List.length_append, List.length_singleton]; omega, HX22.out.more (by omega), HY22.out.more (by omega), RdR.of_own HO22.out, HB22.out⟩
    · have e0 : ((k21 : Int) == 0) = false := by simp; omega
      have e1 : ((k21 : Int) == 1) = false := by simp; omega
      go_wp2_with fail
      refine (l20_pk w.heap.size _ (L.length : Int) w21 HR21.out (by omega) (by omega)).mono ?_
      rintro e w22 ⟨k22, rfl, hk22, r_, g_⟩
      have HX22 := Lib.hid (HX21.out.only' g_ (by omega) (by omega)); have HY22 := Lib.hid (HY21.out.only' g_ (by omega) (by omega))
      have HB22 := Lib.hid (below_only HB21.out g_ (by omega) (Nat.le_refl _))
      have z22 := g_.size
      have HR22 := Lib.hid r_
      have HO22 := Lib.hid (own_only HO21.out g_ (by omega))
      clear r_ g_
      go_wp2_with fail
      refine (l20_pk w.heap.size _ 9 w22 HR22.out (by omega) (by omega)).mono ?_
      rintro e w23 ⟨k23, rfl, hk23, r_, g_⟩
      have HX23 := Lib.hid (HX22.out.only' g_ (by omega) (by omega)); have HY23 := Lib.hid (HY22.out.only' g_ (by omega) (by omega))
      have HB23 := Lib.hid (below_only HB22.out g_ (by omega) (Nat.le_refl _))
      have z23 := g_.size
      have HR23 := Lib.hid r_
      have HO23 := Lib.hid (own_only HO22.out g_ (by omega))
      clear r_ g_
      have hk : k22 < L.length := by omega
      have hkI : (k22 : Int) < (L.length : Int) := by omega
      obtain ⟨cc0, cc1⟩ := Link_cells HO23.out hk
      have fz := own_frozen HO23.out (k22 * 2)
      have hgl := (HO23.out.lt gl rfl).1
      have h4 := own_set HO23.out (k22 * 2) (.int .i64 (k23 : Int))
      rw [fl_set_fst hk] at h4
      have H4 := Lib.hid h4
      have HB24 := Lib.hid (HB23.out.setCell (p := ⟨gl, k22 * 2, none⟩) (by simp; omega) (.int .i64 (k23 : Int)))
      have hb24 : Below w2.heap.size w23 (w23.setCell ⟨gl, k22 * 2, none⟩ (.int .i64 (k23 : Int))) := (Below.refl _ _).setCell (by simp; omega) _
      have HX24 := Lib.hid (HX23.out.below hb24 (by omega)); have HY24 := Lib.hid (HY23.out.below hb24 (by omega))
      have z24 := hb24.size
      clear h4 hb24
      go_wp2_with fail
      go_ret3
      exact ⟨g1, g2, c2, d2, _, _, _, xs, ys, L.set k22 ((k23 : Int), (glLink L k22).2), (by rw [List.length_set]; rfl), hx, hy, by rw [List.length_set]; omega, HX24.out.more (by omega), HY24.out.more (by omega), (by have := RdR.of_own (zs := L.set k22 ((k23 : Int), (glLink L k22).2)) (s := 2) (c := cl) (by rw [List.length_set]; exact H4.out); exact this), HB24.out⟩
  subst h0
  clear HO4 HO3 HLL hLn
  have HE := Lib.hid (own_empty (e := 42) (size := 2) (Below.refl w4.heap.size w4) (Nat.le_refl _))
  go_wp2_with fail
  go_loopw [8, 9] (fun v vi wr => ∃ (k co go : Nat) (out : List (Int × Int)), k ≤ xs.length ∧ out.length = k ∧ vi = .int .i64 k ∧ v = .slice (some ⟨go, 0, none⟩) out.length co ∧ wr.ownsRow w4.heap.size 42 2 (.slice (some ⟨go, 0, none⟩) out.length co) out.length (fl encLink out) ∧ Below w4.heap.size w4 wr) (fun _ vi _ => xs.length - (intOf vi).toNat)
  case atStart => exact ⟨0, _, _, [], Nat.zero_le _, rfl, rfl, rfl, HE.out.1, HE.out.2.1⟩
  case round =>
    obtain ⟨k, co, go, out, hk, hol, rfl, rfl, hown, hbel⟩ := hrel
    have HO := Lib.hid hown
    have HQ := Lib.hid hbel
    have hsz := hbel.size
    have HOL := Lib.hid hol
    have hol2 : out.length ≤ 9 := by omega
    clear hown hbel HE hol
    by_cases hlt : k < xs.length
    · have hi1 : (k : Int) < (xs.length : Int) := by omega
      go_wp2_with (at_builtin; refine append_el rfl _ _ 34 rfl 42 i0 (.agg #[Value.int .i64 0, Value.int .i64 0]) 2 16 Try.underlying34 HI.out H0.out H1.out H2.out rfl (by decide) (by decide) w4.heap.size w4 wr _ out.length _ HO.out HQ.out (by omega) (by omega) rfl [.int .i64 (k : Int), .int .i64 (-1)] rfl (link_one_cell _ _) rfl ?_; intro A22 c22 w22 hown22 hbel22 hbase22 hg22)
      have hown' : w22.ownsRow w4.heap.size 42 2 (.slice A22 (out ++ [((k : Int), (-1 : Int))]).length c22) (out ++ [((k : Int), (-1 : Int))]).length (fl encLink (out ++ [((k : Int), (-1 : Int))])) := by rw [List.length_append, fl_append, fl_one]; exact hown22
      obtain ⟨gq, rfl⟩ := own_someF hown' (by simp)
      have HO' := Lib.hid hown'; have HB' := Lib.hid hbel22
      clear hown' hown22 hbel22 hg22
      go_wp2_with fail
      go_roundw
      case rel => exact ⟨k + 1, c22, gq, out ++ [((k : Int), (-1 : Int))], by omega, by rw [List.length_append, HOL.out]; rfl, by go_num, by rw [List.length_append]; rfl, HO'.out, HB'.out⟩
      case measure => simp [intOf]; omega
    · obtain rfl : k = xs.length := by omega
      go_wp2_with fail
      go_loopw [8, 10] (fun v vi wq => ∃ (k co go : Nat) (out : List (Int × Int)), k ≤ ys.length ∧ out.length = xs.length + k ∧ vi = .int .i64 k ∧ v = .slice (some ⟨go, 0, none⟩) out.length co ∧ wq.ownsRow w4.heap.size 42 2 (.slice (some ⟨go, 0, none⟩) out.length co) out.length (fl encLink out) ∧ Below w4.heap.size w4 wq) (fun _ vi _ => ys.length - (intOf vi).toNat)
      case atStart => exact ⟨0, _, _, out, Nat.zero_le _, HOL.out, rfl, rfl, HO.out, HQ.out⟩
      case round =>
        clear HO HQ HOL
        obtain ⟨k, cl, gl, L, hk, hol, rfl, rfl, hown, hbel⟩ := hrel
        have HO := Lib.hid hown
        have HQ := Lib.hid hbel
        have hsz2 := hbel.size
        have HOL := Lib.hid hol
        have hLn : L.length ≤ 80 := by omega
        clear hown hbel hol
        by_cases hlt2 : k < ys.length
        · have hi1 : (k : Int) < (ys.length : Int) := by omega
          go_wp2_with (at_builtin; refine append_el rfl _ _ 34 rfl 42 i0 (.agg #[Value.int .i64 0, Value.int .i64 0]) 2 16 Try.underlying34 HI.out H0.out H1.out H2.out rfl (by decide) (by decide) w4.heap.size w4 wr _ L.length _ HO.out HQ.out (by omega) (by omega) rfl [.int .i64 (-1), .int .i64 (k : Int)] rfl (link_one_cell _ _) rfl ?_; intro A22 c22 w22 hown22 hbel22 hbase22 hg22)
          have hown' : w22.ownsRow w4.heap.size 42 2 (.slice A22 (L ++ [((-1 : Int), (k : Int))]).length c22) (L ++ [((-1 : Int), (k : Int))]).length (fl encLink (L ++ [((-1 : Int), (k : Int))])) := by rw [List.length_append, fl_append, fl_one]; exact hown22
          obtain ⟨gq, rfl⟩ := own_someF hown' (by simp)
          have HO' := Lib.hid hown'; have HB' := Lib.hid hbel22
          clear hown' hown22 hbel22 hg22
          go_wp2_with fail
          go_roundw
          case rel => exact ⟨k + 1, c22, gq, L ++ [((-1 : Int), (k : Int))], by omega, by rw [List.length_append, HOL.out]; rfl, by go_num, by rw [List.length_append]; rfl, HO'.out, HB'.out⟩
          case measure => simp [intOf]; omega
        · obtain rfl : k = ys.length := by omega
          have HX5 := Lib.hid (HX4.out.below HQ.out (by omega)); have HY5 := Lib.hid (HY4.out.below HQ.out (by omega))
          have HR5 := Lib.hid (HR4.out.below HQ.out (by omega))
          have HB5 := Lib.hid (HB4.out.trans (HQ.out.mono (by omega)))
          have HO5 := HO
          obtain ⟨w5, rfl⟩ : ∃ w5 : World, w5 = wr := ⟨_, rfl⟩
          clear HO HQ HOL HX4 HY4 HR4 HB4
          by_cases hL0 : L.length = 0
          · have hn0 : ¬ 0 < (L.length : Int) := by omega
            have d0 : decide (0 < L.length) = false := decide_eq_false (by omega)
            have d1 : decide (0 < (L.length : Int)) = false := decide_eq_false hn0
            have HL0 := Lib.hid hL0
            clear hL0 hn0
            go_wp2_with fail
            go_ret3
            exact ⟨g1, g2, c2, d2, _, _, _, xs, ys, L, rfl, hx, hy, (by first | omega | (simp; omega)), HX5.out.more (by omega), HY5.out.more (by omega), RdR.of_own HO5.out, HB5.out⟩
          have d0 : decide (0 < L.length) = true := decide_eq_true (by omega)
          have d1 : decide (0 < (L.length : Int)) = true := decide_eq_true (by omega)
          have hlp : 1 ≤ L.length := by omega
          clear hL0
          go_wp2_with fail
          refine (l20_odd w.heap.size _ 4 w5 HR5.out (by omega) (by omega)).mono ?_
          rintro e w20 ⟨v20, rfl, r_, g_⟩
          have HX20 := Lib.hid (HX5.out.only' g_ (by omega) (by omega)); have HY20 := Lib.hid (HY5.out.only' g_ (by omega) (by omega))
          have HB20 := Lib.hid (below_only HB5.out g_ (by omega) (Nat.le_refl _))
          have z20 := g_.size
          have HR20 := Lib.hid r_
          have HO20 := Lib.hid (own_only HO5.out g_ (by omega))
          clear r_ g_
          cases v20
          · go_wp2_with fail
            go_ret3
            exact ⟨g1, g2, c2, d2, _, _, _, xs, ys, L, rfl, hx, hy, (by first | omega | (simp; omega)), HX20.out.more (by omega), HY20.out.more (by omega), RdR.of_own HO20.out, HB20.out⟩
          go_wp2_with fail
          refine (l20_pk w.heap.size _ 3 w20 HR20.out (by omega) (by omega)).mono ?_
          rintro e w21 ⟨k21, rfl, hk21, r_, g_⟩
          have HX21 := Lib.hid (HX20.out.only' g_ (by omega) (by omega)); have HY21 := Lib.hid (HY20.out.only' g_ (by omega) (by omega))
          have HB21 := Lib.hid (below_only HB20.out g_ (by omega) (Nat.le_refl _))
          have z21 := g_.size
          have HR21 := Lib.hid r_
          have HO21 := Lib.hid (own_only HO20.out g_ (by omega))
          clear r_ g_
          rcases (show k21 = 0 ∨ k21 = 1 ∨ (k21 ≠ 0 ∧ k21 ≠ 1) by omega) with rfl | rfl | ⟨n0, n1⟩
          · have hc1 : L.length ≤ cl := own_capF HO21.out
            have e1 : L.length - 1 = (L.drop 1).length := by simp
            have HE1 := Lib.hid e1
            clear e1
            by_cases hcl : cl = 1
            · have HD := Lib.hid (show L.drop 1 = [] from List.drop_eq_nil_of_le (by omega))
              have hlen : (L.length : Int) ≤ 1 := by omega
              obtain rfl : 1 = cl := hcl.symm
              clear hc1
              go_wp2_with fail
              go_ret3
              exact ⟨g1, g2, c2, d2, _, _, _, xs, ys, L.drop 1, (by rw [← HE1.out]; first | rfl | simp), hx, hy, (by first | omega | (simp; omega)), HX21.out.more (by omega), HY21.out.more (by omega), RdR.none0 HD.out, HB21.out⟩
            · have hcl1 : ¬ 1 = cl := fun h => hcl h.symm
              have hc2 : (1 : Int) ≤ (cl : Int) := by omega
              have hl2 : (1 : Int) ≤ (L.length : Int) := by omega
              go_wp2_with fail
              go_ret3
              exact ⟨g1, g2, c2, d2, _, _, _, xs, ys, L.drop 1, (by rw [← HE1.out]; first | rfl | simp), hx, hy, (by first | omega | (simp; omega)), HX21.out.more (by omega), HY21.out.more (by omega), RdR.drop1 encLink_len (RdR.of_own HO21.out), HB21.out⟩
          · go_wp2_with (at_builtin; refine append_el rfl _ _ 34 rfl 42 i0 (.agg #[Value.int .i64 0, Value.int .i64 0]) 2 16 Try.underlying34 HI.out H0.out H1.out H2.out rfl (by decide) (by decide) w4.heap.size w21 w21 _ L.length _ HO21.out (Below.refl _ _) (by omega) (by omega) rfl [.int .i64 (-1), .int .i64 (-1)] rfl (link_one_cell _ _) rfl ?_; intro A22 c22 w22 hown22 hbel22 hbase22 hg22)
            have hown' : w22.ownsRow w4.heap.size 42 2 (.slice A22 (L ++ [(-1, -1)]).length c22) (L ++ [(-1, -1)]).length (fl encLink (L ++ [(-1, -1)])) := by rw [List.length_append, fl_append, fl_one]; exact hown22
            obtain ⟨gq, rfl⟩ := own_someF hown' (by simp)
            have HO22 := Lib.hid hown'
            have z22 := hbel22.size
            have HX22 := Lib.hid (HX21.out.below hbel22 (by omega)); have HY22 := Lib.hid (HY21.out.below hbel22 (by omega))
            have HB22 := Lib.hid (HB21.out.trans (hbel22.mono (by omega)))
            clear hown' hown22 hbel22 hg22
            go_wp2_with fail
            go_ret3
            exact ⟨g1, g2, c2, d2, _, _, _, xs, ys, L ++ [(-1, -1)], (by rw [List.length_append]; rfl), hx, hy, by rw [List.length_append, List.length_singleton]; omega, HX22.out.more (by omega), HY22.out.more (by omega), RdR.of_own HO22.out, HB22.out⟩
          · have e0 : ((k21 : Int) == 0) = false := by simp; omega
            have e1 : ((k21 : Int) == 1) = false := by simp; omega
            go_wp2_with fail
            refine (l20_pk w.heap.size _ (L.length : Int) w21 HR21.out (by omega) (by omega)).mono ?_
            rintro e w22 ⟨k22, rfl, hk22, r_, g_⟩
            have HX22 := Lib.hid (HX21.out.only' g_ (by omega) (by omega)); have HY22 := Lib.hid (HY21.out.only' g_ (by omega) (by omega))
            have HB22 := Lib.hid (below_only HB21.out g_ (by omega) (Nat.le_refl _))
            have z22 := g_.size
            have HR22 := Lib.hid r_
            have HO22 := Lib.hid (own_only HO21.out g_ (by omega))
            clear r_ g_
            go_wp2_with fail
            refine (l20_pk w.heap.size _ 9 w22 HR22.out (by omega) (by omega)).mono ?_
            rintro e w23 ⟨k23, rfl, hk23, r_, g_⟩
            have HX23 := Lib.hid (HX22.out.only' g_ (by omega) (by omega)); have HY23 := Lib.hid (HY22.out.only' g_ (by omega) (by omega))
            have HB23 := Lib.hid (below_only HB22.out g_ (by omega) (Nat.le_refl _))
            have z23 := g_.size
            have HR23 := Lib.hid r_
            have HO23 := Lib.hid (own_only HO22.out g_ (by omega))
            clear r_ g_
            have hk : k22 < L.length := by omega
            have hkI : (k22 : Int) < (L.length : Int) := by omega
            obtain ⟨cc0, cc1⟩ := Link_cells HO23.out hk
            have fz := own_frozen HO23.out (k22 * 2)
            have hgl := (HO23.out.lt gl rfl).1
            have h4 := own_set HO23.out (k22 * 2) (.int .i64 (k23 : Int))
            rw [fl_set_fst hk] at h4
            have H4 := Lib.hid h4
            have HB24 := Lib.hid (HB23.out.setCell (p := ⟨gl, k22 * 2, none⟩) (by simp; omega) (.int .i64 (k23 : Int)))
            have hb24 : Below w4.heap.size w23 (w23.setCell ⟨gl, k22 * 2, none⟩ (.int .i64 (k23 : Int))) := (Below.refl _ _).setCell (by simp; omega) _
            have HX24 := Lib.hid (HX23.out.below hb24 (by omega)); have HY24 := Lib.hid (HY23.out.below hb24 (by omega))
            have z24 := hb24.size
            clear h4 hb24
            go_wp2_with fail
            go_ret3
            exact ⟨g1, g2, c2, d2, _, _, _, xs, ys, L.set k22 ((k23 : Int), (glLink L k22).2), (by rw [List.length_set]; rfl), hx, hy, by rw [List.length_set]; omega, HX24.out.more (by omega), HY24.out.more (by omega), (by have := RdR.of_own (zs := L.set k22 ((k23 : Int), (glLink L k22).2)) (s := 2) (c := cl) (by rw [List.length_set]; exact H4.out); exact this), HB24.out⟩
end Go.Proofs.Ytfmdpnnddhelaaa
