/- Plain laws of moved songs: moving back leads back; the notes in the key stay in it; the ticks stay. No program. -/
import Derived.Test.YtnkoijkelcjloaaShfD
import Derived.Test.YtnkoijkelcjloaaFlt
import Derived.Test.YtnkoijkelcjloaaSbt
namespace Go.Proofs.Ytnkoijkelcjloaa
open Go.RowKit
set_option linter.unusedSimpArgs false
set_option linter.unusedVariables false
/-- the place on the line of fifths -/
def lofL (a b : Int) : Int := 7 * halfL a - 12 * a + 7 * b
theorem iv_back {s h : Int} (e : ivB s h = true) : ivB (-s) (-h) = true := by
  obtain ⟨h1, h2, h3⟩ := ivB_iff.1 e
  refine ivB_iff.2 ⟨by omega, by omega, ?_⟩
  have : upL (-s) (-h) = upL s h := by
    unfold upL
    by_cases c1 : s < 0
    · rw [if_neg (by omega), if_pos (.inl c1)]
    · by_cases c2 : s = 0
      · subst c2
        by_cases c3 : h < 0
        · rw [if_neg (by omega), if_pos (.inr ⟨rfl, c3⟩)]
        · by_cases c4 : h = 0
          · subst c4; rfl
          · rw [if_pos (by omega), if_neg (by omega)]; simp
      · rw [if_pos (by omega), if_neg (by omega)]; simp
  unfold quL at h3 ⊢
  rw [this]; exact h3
theorem ai_some {a b c s h x1 x2 x3 : Int} (e : aiL a b c s h = ((x1, x2, x3), true)) :
    pvB a b c = true ∧ ivB s h = true ∧ pvB x1 x2 x3 = true ∧ 7 * x3 + x1 = 7 * c + a + s ∧ 12 * x3 + halfL x1 + x2 = 12 * c + halfL a + b + h := by
  unfold aiL at e
  split at e
  · rename_i h1
    unfold pwL at e
    split at e
    · rename_i h2
      simp only [Prod.mk.injEq, and_true] at e
      obtain ⟨e1, e2, e3⟩ := e
      rw [e1, e2, e3] at h2
      refine ⟨h1.1, h1.2, h2.2, by omega, ?_⟩
      unfold natL at e2
      rw [e1, e3] at e2
      unfold pkL at e2
      dsimp only at e2
      omega
    · simp at e
  · simp at e
theorem ai_intro {a b c s h x1 x2 x3 : Int} (h1 : pvB a b c = true) (h2 : ivB s h = true) (h3 : pvB x1 x2 x3 = true) (h4 : 7 * x3 + x1 = 7 * c + a + s) (h5 : 12 * x3 + halfL x1 + x2 = 12 * c + halfL a + b + h) : aiL a b c s h = ((x1, x2, x3), true) := by
  have hp := pvB_iff.1 h3
  unfold aiL
  rw [if_pos ⟨h1, h2⟩]
  have e1 : (7 * c + a + s) % 7 = x1 := by omega
  have e3 : (7 * c + a + s) / 7 = x3 := by omega
  have e2 : pkL (a, b, c) + h - natL (7 * c + a + s) = x2 := by
    unfold natL pkL
    dsimp only
    rw [e1, e3]; omega
  unfold pwL
  rw [e1, e2, e3, if_pos ⟨by omega, h3⟩]
theorem ai_back {a b c s h x1 x2 x3 : Int} (e : aiL a b c s h = ((x1, x2, x3), true)) : aiL x1 x2 x3 (-s) (-h) = ((a, b, c), true) := by
  obtain ⟨h1, h2, h3, h4, h5⟩ := ai_some e
  exact ai_intro h3 (iv_back h2) h1 (by omega) (by omega)
theorem ai_lof {a b c s h x1 x2 x3 : Int} (e : aiL a b c s h = ((x1, x2, x3), true)) : lofL x1 x2 = lofL a b + (7 * h - 12 * s) := by
  obtain ⟨h1, h2, h3, h4, h5⟩ := ai_some e
  unfold lofL; omega
theorem f15 {f : Int} (h : -7 ≤ f ∧ f ≤ 7) : f = -7 ∨ f = -6 ∨ f = -5 ∨ f = -4 ∨ f = -3 ∨ f = -2 ∨ f = -1 ∨ f = 0 ∨ f = 1 ∨ f = 2 ∨ f = 3 ∨ f = 4 ∨ f = 5 ∨ f = 6 ∨ f = 7 := by omega
theorem ton_lof {f : Int} (m : Bool) (h : -7 ≤ f ∧ f ≤ 7) : lofL (tonS f m) (altL f (tonS f m)) = f + (if m = true then 3 else 0) := by
  cases m <;> rcases f15 h with rfl | rfl | rfl | rfl | rfl | rfl | rfl | rfl | rfl | rfl | rfl | rfl | rfl | rfl | rfl <;> decide
theorem ky_lof {s a f : Int} {m : Bool} (h : -7 ≤ f ∧ f ≤ 7) (e : kyB s a m f = true) : lofL s a = f + (if m = true then 3 else 0) := by
  obtain ⟨h1, h2⟩ := kyB_iff.1 e
  rw [← ton_lof m h, h2, h1]
theorem ord_lof {s : Int} (h : 0 ≤ s ∧ s ≤ 6) : ordL s = 7 * halfL s - 12 * s + 1 := by
  rcases s7 h with rfl | rfl | rfl | rfl | rfl | rfl | rfl <;> decide
theorem ik_lof {f s b : Int} (hf : -7 ≤ f ∧ f ≤ 7) (hs : 0 ≤ s ∧ s ≤ 6) (hb : -2 ≤ b ∧ b ≤ 2) : b = altL f s ↔ f - 1 ≤ lofL s b ∧ lofL s b ≤ f + 5 := by
  have h1 := ord_lof hs
  have h2 := ord_bd hs
  unfold lofL altL
  rw [h1] at h2 ⊢
  generalize 7 * halfL s - 12 * s = q at *
  split
  · constructor
    · intro e; omega
    · intro e; omega
  · split
    · constructor
      · intro e; omega
      · intro e; omega
    · constructor
      · intro e; omega
      · intro e; omega
theorem ko_of {s a o f : Int} {m : Bool} (hp : pvB s a o = true) (hf : -7 ≤ f ∧ f ≤ 7) (e : kyB s a m f = true) : koL s a o m = (f, true) := by
  have hk : ((f + 7).toNat : Int) - 7 = f := by omega
  have h := ko_hit (m := m) (k := (f + 7).toNat) hp (by omega) (by rw [hk]; exact e) (fun j hj => by
    cases e2 : kyB s a m ((j : Int) - 7)
    · rfl
    · have h1 := ky_lof hf e
      have h2 := ky_lof (by omega) e2
      omega)
  rw [h, hk]
/-- what a moved tonic says -/
theorem nk_of {f : Int} {m : Bool} {s h : Int} (hf : -7 ≤ f ∧ f ≤ 7) (h1 : (mtL f m s h).2 = true) (h2 : (nkL f m s h).2 = true) :
    (-7 ≤ (nkL f m s h).1 ∧ (nkL f m s h).1 ≤ 7) ∧ (nkL f m s h).1 = f + (7 * h - 12 * s) ∧ (mtL (nkL f m s h).1 m (-s) (-h)).2 = true ∧ nkL (nkL f m s h).1 m (-s) (-h) = (f, true) := by
  rcases e : mtL f m s h with ⟨⟨x1, x2, x3⟩, ok⟩
  rw [e] at h1
  dsimp only at h1
  subst h1
  rcases e2 : nkL f m s h with ⟨f2, ok⟩
  rw [e2] at h2
  dsimp only at h2 ⊢
  subst h2
  have e3 := e2
  unfold nkL at e3
  rw [e] at e3
  dsimp only at e3
  obtain ⟨k1, k2, k3⟩ := ko_some e3
  have e4 := e
  unfold mtL at e4
  have l1 := ai_lof e4
  have l2 := ky_lof k2 k3
  have l3 := ton_lof m hf
  obtain ⟨a1, a2, a3, a4, a5⟩ := ai_some e4
  obtain ⟨y1, y2⟩ := kyB_iff.1 k3
  have b1 := pvB_iff.1 a1
  have b2 := (ivB_iff.1 a2).1
  have b3 := pvB_iff.1 a3
  have hb : mtL f2 m (-s) (-h) = ((tonS f m, altL f (tonS f m), 8 - x3), true) := by
    unfold mtL
    rw [y2, y1]
    exact ai_intro (pvB_iff.2 ⟨b3.1, b3.2.1, by omega⟩) (iv_back a2) (pvB_iff.2 ⟨b1.1, b1.2.1, by omega⟩) (by omega) (by omega)
  refine ⟨k2, by omega, by rw [hb], ?_⟩
  unfold nkL
  rw [hb]
  dsimp only
  exact ko_of (pvB_iff.2 ⟨b1.1, b1.2.1, by omega⟩) hf (kyB_iff.2 ⟨rfl, rfl⟩)
/-! A note moved. -/
theorem soB_iff {s h : Int} {n : Nt} : soB s h n = true ↔ n.1 = true ∨ (aiL n.2.1 n.2.2.1 n.2.2.2.1 s h).2 = true := by unfold soB; rw [Bool.or_eq_true]
theorem so_ai {s h : Int} {n : Nt} (hn : n.1 = false) (e : soB s h n = true) : ∃ x1 x2 x3, aiL n.2.1 n.2.2.1 n.2.2.2.1 s h = ((x1, x2, x3), true) ∧ shN s h n = (false, x1, x2, x3, n.2.2.2.2.1, n.2.2.2.2.2) := by
  rcases e1 : aiL n.2.1 n.2.2.1 n.2.2.2.1 s h with ⟨⟨x1, x2, x3⟩, ok⟩
  rcases soB_iff.1 e with e2 | e2
  · rw [hn] at e2; cases e2
  · rw [e1] at e2
    dsimp only at e2
    subst e2
    refine ⟨x1, x2, x3, rfl, ?_⟩
    unfold shN
    rw [if_neg (by rw [hn]; simp), e1, hn]
theorem shN_rest {s h : Int} {n : Nt} (hn : n.1 = true) : shN s h n = n := if_pos hn
theorem shN_1 (s h : Int) (n : Nt) : (shN s h n).1 = n.1 := by unfold shN; split <;> rfl
theorem shN_t (s h : Int) (n : Nt) : (shN s h n).2.2.2.2.1 = n.2.2.2.2.1 := by unfold shN; split <;> rfl
theorem shN_d (s h : Int) (n : Nt) : (shN s h n).2.2.2.2.2 = n.2.2.2.2.2 := by unfold shN; split <;> rfl
theorem shN_back {s h : Int} {n : Nt} (e : soB s h n = true) : soB (-s) (-h) (shN s h n) = true ∧ shN (-s) (-h) (shN s h n) = n := by
  cases hn : n.1
  · obtain ⟨x1, x2, x3, e1, e2⟩ := so_ai hn e
    have e3 := ai_back e1
    rw [e2]
    constructor
    · unfold soB; dsimp only; rw [e3]; rfl
    · unfold shN
      rw [if_neg (by simp)]
      dsimp only
      rw [e3]
      obtain ⟨r, a, b, c, t, d⟩ := n
      dsimp only at hn ⊢
      rw [hn]
  · rw [shN_rest hn]
    refine ⟨soB_iff.2 (.inl hn), shN_rest hn⟩
theorem shN_valid {s h : Int} {n : Nt} (e : soB s h n = true) (hv : nvB n = true) : nvB (shN s h n) = true := by
  cases hn : n.1
  · obtain ⟨x1, x2, x3, e1, e2⟩ := so_ai hn e
    have e3 := (ai_some e1).2.2.1
    rw [e2]
    unfold nvB at hv ⊢
    rw [hn] at hv
    simp only [Bool.and_eq_true] at hv ⊢
    exact ⟨hv.1, e3⟩
  · rw [shN_rest hn]; exact hv
theorem fault_sh {f f2 : Int} {s h : Int} {n : Nt} (hf : -7 ≤ f ∧ f ≤ 7) (hf2 : -7 ≤ f2 ∧ f2 ≤ 7) (hd : f2 = f + (7 * h - 12 * s)) (e : soB s h n = true) : faultB f2 (shN s h n) = faultB f n := by
  cases hn : n.1
  · obtain ⟨x1, x2, x3, e1, e2⟩ := so_ai hn e
    obtain ⟨p1, p2, p3, -, -⟩ := ai_some e1
    have hl := ai_lof e1
    have q1 := pvB_iff.1 p1
    have q3 := pvB_iff.1 p3
    rw [e2]
    unfold faultB ikB
    dsimp only
    rw [hn, p1, p3, inR_iff.2 hf, inR_iff.2 hf2]
    have k1 := ik_lof hf q1.1 q1.2.1
    have k2 := ik_lof hf2 q3.1 q3.2.1
    have : (x2 == altL f2 x1) = (n.2.2.1 == altL f n.2.1) := by
      rw [Bool.eq_iff_iff, beq_iff_eq, beq_iff_eq, k1, k2]
      constructor <;> intro hh <;> omega
    rw [this]
  · rw [shN_rest hn]
    unfold faultB
    rw [hn]
    rfl
/-! A voice moved. -/
theorem map_at (s h : Int) {v : List Nt} {k : Nat} (hk : k < v.length) : glNote (v.map (shN s h)) k = shN s h (glNote v k) := by
  rw [← glNote_get (by simpa using hk), List.getElem_map, glNote_get hk]
theorem sh_valid {s h : Int} {v : List Nt} (e : shB s h v = true) : vvB (v.map (shN s h)) = true := by
  obtain ⟨h1, h2, h3⟩ := shB_iff.1 e
  obtain ⟨g1, g2⟩ := vvB_iff.1 h1
  refine vvB_iff.2 ⟨by simpa using g1, fun k hk => ?_⟩
  rw [List.length_map] at hk
  rw [map_at s h hk]
  obtain ⟨a1, a2⟩ := g2 k hk
  refine ⟨shN_valid (h3 k hk) a1, fun ht => ?_⟩
  rw [shN_d] at ht
  obtain ⟨b1, b2, b3, b4, b5⟩ := a2 ht
  rw [List.length_map]
  refine ⟨b1, ?_⟩
  rw [map_at s h b1]
  have hr : (glNote v k).1 = false := by
    cases hr : (glNote v k).1
    · rfl
    · unfold nvB at a1
      rw [hr, ht] at a1
      simp at a1
  obtain ⟨x1, x2, x3, e1, e2⟩ := so_ai hr (h3 k hk)
  obtain ⟨y1, y2, y3, e3, e4⟩ := so_ai b2 (h3 (k + 1) b1)
  rw [b3, b4, b5, e1] at e3
  simp only [Prod.mk.injEq, and_true] at e3
  obtain ⟨rfl, rfl, rfl⟩ := e3
  rw [e2, e4]
  exact ⟨rfl, rfl, rfl, rfl⟩
theorem sh_back {s h : Int} {v : List Nt} (e : shB s h v = true) : shB (-s) (-h) (v.map (shN s h)) = true ∧ (v.map (shN s h)).map (shN (-s) (-h)) = v := by
  obtain ⟨h1, h2, h3⟩ := shB_iff.1 e
  have hb : ∀ n ∈ v, soB s h n = true := fun n hn => by
    obtain ⟨k, hk, rfl⟩ := List.getElem_of_mem hn
    rw [glNote_get hk]; exact h3 k hk
  constructor
  · refine shB_iff.2 ⟨sh_valid e, iv_back h2, fun k hk => ?_⟩
    rw [List.length_map] at hk
    rw [map_at s h hk]
    exact (shN_back (h3 k hk)).1
  · rw [List.map_map]
    conv => rhs; rw [← List.map_id v]
    exact List.map_congr_left fun n hn => (shN_back (hb n hn)).2
theorem ftN_sh {f f2 : Int} {s h : Int} {v : List Nt} {k : Nat} (hf : -7 ≤ f ∧ f ≤ 7) (hf2 : -7 ≤ f2 ∧ f2 ≤ 7) (hd : f2 = f + (7 * h - 12 * s)) (e : ∀ j, j < v.length → soB s h (glNote v j) = true) :
    ∀ j, j ≤ v.length → ftN f2 k (v.map (shN s h)) j = ftN f k v j := by
  intro j
  induction j with
  | zero => intro _; rfl
  | succ j ih =>
    intro hj
    simp only [ftN]
    rw [ih (by omega), map_at s h (by omega), fault_sh hf hf2 hd (e j (by omega))]
/-! A song moved. -/
theorem glV_map {s h : Int} {vs : List (List Nt)} {k : Nat} (hk : k < vs.length) : glV (vs.map (shL s h)) k = shL s h (glV vs k) := by
  rw [← glV_get (by simpa using hk), List.getElem_map, glV_get hk]
theorem ftTo_sh {f f2 : Int} {s h : Int} {vs : List (List Nt)} (hf : -7 ≤ f ∧ f ≤ 7) (hf2 : -7 ≤ f2 ∧ f2 ≤ 7) (hd : f2 = f + (7 * h - 12 * s)) (e : ∀ k, k < vs.length → shB s h (glV vs k) = true) :
    ∀ k, k ≤ vs.length → ftTo f2 (vs.map (shL s h)) k = ftTo f vs k := by
  intro k
  induction k with
  | zero => intro _; rfl
  | succ k ih =>
    intro hk
    simp only [ftTo]
    rw [ih (by omega), glV_map (by omega), shL_yes (e k (by omega)), List.length_map, ftN_sh hf hf2 hd (shB_iff.1 (e k (by omega))).2.2 _ (Nat.le_refl _)]
theorem ticks_sh (s h : Int) (v : List Nt) : ticksL (v.map (shN s h)) = ticksL v := by
  have key : ∀ k, k ≤ v.length → (sT (v.map (shN s h)) k).2.2.1 = (sT v k).2.2.1 := by
    intro k
    induction k with
    | zero => intro _; rw [sT_zero, sT_zero]
    | succ k ih =>
      intro hk
      rw [sT_tick (show k < (v.map (shN s h)).length by rw [List.length_map]; omega), sT_tick (show k < v.length by omega), ih (by omega), map_at s h (by omega), shN_t]
  have h1 := key v.length (Nat.le_refl _)
  have h2 := sT_all (v.map (shN s h))
  rw [List.length_map] at h2
  rw [h2, sT_all] at h1
  exact h1
theorem lgTo_sh {s h : Int} {vs : List (List Nt)} (e : ∀ k, k < vs.length → shB s h (glV vs k) = true) : ∀ k, k ≤ vs.length → lgTo (vs.map (shL s h)) k = lgTo vs k := by
  intro k
  induction k with
  | zero => intro _; rfl
  | succ k ih =>
    intro hk
    simp only [lgTo]
    rw [ih (by omega), glV_map (by omega), shL_yes (e k (by omega)), ticks_sh]
section
variable {f : Int} {m : Bool} {b u : Int} {ts : List (Int × Int)} {vs : List (List Nt)} {s h : Int}
theorem ss_valid (e : ssB f m b u ts vs s h = true) : svB (nkL f m s h).1 b u ts (vs.map (shL s h)) = true := by
  obtain ⟨h1, h2, h3, h4, h5⟩ := ssB_iff.1 e
  obtain ⟨g1, g2, g3, g4, g5⟩ := svB_iff.1 h1
  have hn := nk_of (inR_iff.1 g1) h3 h4
  refine svB_iff.2 ⟨inR_iff.2 hn.1, g2, g3, by simpa using g4, fun k hk => ?_⟩
  rw [List.length_map] at hk
  rw [glV_map hk, shL_yes (h5 k hk)]
  exact sh_valid (h5 k hk)
theorem ss_back (e : ssB f m b u ts vs s h = true) : ssB (nkL f m s h).1 m b u ts (vs.map (shL s h)) (-s) (-h) = true ∧ ssL (nkL f m s h).1 m b u ts (vs.map (shL s h)) (-s) (-h) = (f, m, b, u, ts, vs) := by
  have hv := ss_valid e
  obtain ⟨h1, h2, h3, h4, h5⟩ := ssB_iff.1 e
  obtain ⟨g1, g2, g3, g4, g5⟩ := svB_iff.1 h1
  obtain ⟨n1, n2, n3, n4⟩ := nk_of (inR_iff.1 g1) h3 h4
  have hb : ssB (nkL f m s h).1 m b u ts (vs.map (shL s h)) (-s) (-h) = true := by
    refine ssB_iff.2 ⟨hv, iv_back h2, n3, by rw [n4], fun k hk => ?_⟩
    rw [List.length_map] at hk
    rw [glV_map hk, shL_yes (h5 k hk)]
    exact (sh_back (h5 k hk)).1
  refine ⟨hb, ?_⟩
  unfold ssL
  rw [if_pos hb, n4]
  have : (vs.map (shL s h)).map (shL (-s) (-h)) = vs := by
    rw [List.map_map]
    conv => rhs; rw [← List.map_id vs]
    refine List.map_congr_left fun v hv => ?_
    obtain ⟨k, hk, rfl⟩ := List.getElem_of_mem hv
    rw [glV_get hk]
    obtain ⟨k1, k2⟩ := sh_back (h5 k hk)
    show shL (-s) (-h) (shL s h (glV vs k)) = glV vs k
    rw [shL_yes (h5 k hk), shL_yes k1, k2]
  rw [this]
theorem ss_faults (e : ssB f m b u ts vs s h = true) : ftL (nkL f m s h).1 b u ts (vs.map (shL s h)) = ftL f b u ts vs := by
  have hv := ss_valid e
  obtain ⟨h1, h2, h3, h4, h5⟩ := ssB_iff.1 e
  obtain ⟨g1, g2, g3, g4, g5⟩ := svB_iff.1 h1
  obtain ⟨n1, n2, n3, n4⟩ := nk_of (inR_iff.1 g1) h3 h4
  unfold ftL
  rw [if_pos hv, if_pos h1, List.length_map, ftTo_sh (inR_iff.1 g1) n1 n2 h5 _ (Nat.le_refl _)]
theorem ss_lg (e : ssB f m b u ts vs s h = true) : lgL (vs.map (shL s h)) = lgL vs := by
  unfold lgL
  rw [List.length_map, lgTo_sh (ssB_iff.1 e).2.2.2.2 _ (Nat.le_refl _)]
theorem ss_bars (e : ssB f m b u ts vs s h = true) : sbL (nkL f m s h).1 b u ts (vs.map (shL s h)) = sbL f b u ts vs := by
  unfold sbL; rw [if_pos (ss_valid e), if_pos (ssB_iff.1 e).1, ss_lg e]
theorem ss_time (e : ssB f m b u ts vs s h = true) : smL (nkL f m s h).1 b u ts (vs.map (shL s h)) = smL f b u ts vs := by
  unfold smL; rw [if_pos (ss_valid e), if_pos (ssB_iff.1 e).1, ss_lg e]
end
end Go.Proofs.Ytnkoijkelcjloaa
