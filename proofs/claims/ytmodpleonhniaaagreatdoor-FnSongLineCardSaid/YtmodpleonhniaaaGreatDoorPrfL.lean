/- Plain laws of prefixes of voices and of groups: what a loop has come to; no program. -/
import Derived.Test.YtmodpleonhniaaaGreatDoorGrpL
namespace Go.Proofs.YtmodpleonhniaaaGreatDoor
open Go.RowKit
set_option linter.unusedSimpArgs false
set_option linter.unusedVariables false
theorem gl_mem {G : List Nt} {k : Nat} (h : k < G.length) : glNote G k ∈ G := by rw [← glNote_get h]; exact List.getElem_mem h
def sT (v : List Nt) (k : Nat) : List Sd × Int × Int × Bool := sndL (v.take k)
theorem sT_zero (v : List Nt) : sT v 0 = ([], 0, 0, false) := by simp [sT, sndL]
theorem sT_succ {v : List Nt} {k : Nat} (h : k < v.length) : sT v (k + 1) = sStep (sT v k) (glNote v k) := by
  unfold sT sndL; rw [take_succ_Note h, List.foldl_append]; rfl
theorem sT_all (v : List Nt) : sT v v.length = sndL v := by unfold sT; rw [List.take_length]
theorem sT_tied {v : List Nt} {k : Nat} (h : k < v.length) : (sT v (k + 1)).2.2.2 = (glNote v k).2.2.2.2.2 := by rw [sT_succ h]; rfl
theorem sT_tick {v : List Nt} {k : Nat} (h : k < v.length) : (sT v (k + 1)).2.2.1 = (sT v k).2.2.1 + (glNote v k).2.2.2.2.1 := by rw [sT_succ h]; rfl
theorem vv_tick {v : List Nt} (h : vvB v = true) {k : Nat} (hk : k < v.length) : 1 ≤ (glNote v k).2.2.2.2.1 ∧ (glNote v k).2.2.2.2.1 ≤ 768 := nv_tick ((vvB_iff.1 h).2 k hk).1
theorem vv_len {v : List Nt} (h : vvB v = true) : v.length ≤ 60 := (vvB_iff.1 h).1
theorem vv_nv {v : List Nt} (h : vvB v = true) {k : Nat} (hk : k < v.length) : nvB (glNote v k) = true := ((vvB_iff.1 h).2 k hk).1
theorem nv_pv {n : Nt} (h : nvB n = true) (hr : n.1 = false) : pvB n.2.1 n.2.2.1 n.2.2.2.1 = true := by
  unfold nvB at h
  rw [hr] at h
  simp at h
  exact h.2
theorem sT_bd {v : List Nt} (h : vvB v = true) : ∀ k, k ≤ v.length → 0 ≤ (sT v k).2.2.1 ∧ (sT v k).2.2.1 ≤ 768 * k := by
  intro k
  induction k with
  | zero => intro _; rw [sT_zero]; simp
  | succ k ih =>
    intro hk
    obtain ⟨h1, h2⟩ := ih (by omega)
    obtain ⟨h3, h4⟩ := vv_tick h (k := k) (by omega)
    rw [sT_tick (by omega)]
    push_cast
    omega
theorem sT_mono {v : List Nt} (h : vvB v = true) {k : Nat} (hk : k ≤ v.length) : (sT v k).2.2.1 ≤ ticksL v := by
  have : ∀ d, k + d ≤ v.length → (sT v k).2.2.1 ≤ (sT v (k + d)).2.2.1 := by
    intro d
    induction d with
    | zero => intro _; exact Int.le_refl _
    | succ d ih =>
      intro hd
      have h1 := ih (by omega)
      have h2 := (vv_tick h (k := k + d) (by omega)).1
      rw [show k + (d + 1) = k + d + 1 by omega, sT_tick (by omega)]
      omega
  have h2 := this (v.length - k) (by omega)
  rw [show k + (v.length - k) = v.length by omega, sT_all] at h2
  exact h2
theorem tk_bd {v : List Nt} (h : vvB v = true) : 0 ≤ ticksL v ∧ ticksL v ≤ 46080 := by
  have h1 := sT_bd h v.length (Nat.le_refl _)
  rw [sT_all] at h1
  have h2 := vv_len h
  unfold ticksL; omega
/-- a sound of a prefix begins and ends in it -/
theorem sT_from {v : List Nt} (h : vvB v = true) : ∀ k, k ≤ v.length → 0 ≤ (sT v k).2.1 ∧ (sT v k).2.1 ≤ (sT v k).2.2.1 ∧ ∀ x ∈ (sT v k).1, 0 ≤ x.2.1 ∧ x.2.2 ≤ (sT v k).2.2.1 := by
  intro k
  induction k with
  | zero => intro _; rw [sT_zero]; simp
  | succ k ih =>
    intro hk
    obtain ⟨h1, h2, h3⟩ := ih (by omega)
    obtain ⟨h4, h5⟩ := sT_bd h k (by omega)
    obtain ⟨h6, h7⟩ := vv_tick h (k := k) (by omega)
    rw [sT_succ (by omega)]
    unfold sStep
    dsimp only
    have hf : 0 ≤ (if (sT v k).2.2.2 = true then (sT v k).2.1 else (sT v k).2.2.1) ∧ (if (sT v k).2.2.2 = true then (sT v k).2.1 else (sT v k).2.2.1) ≤ (sT v k).2.2.1 := by split <;> omega
    refine ⟨hf.1, by omega, ?_⟩
    intro x hx
    have hold : ∀ x ∈ (sT v k).1, 0 ≤ x.2.1 ∧ x.2.2 ≤ (sT v k).2.2.1 + (glNote v k).2.2.2.2.1 := fun x hx => ⟨(h3 x hx).1, by have := (h3 x hx).2; omega⟩
    split at hx
    · exact hold x hx
    · rcases List.mem_append.1 hx with hx | hx
      · exact hold x hx
      · rw [List.mem_singleton.1 hx]
        exact ⟨hf.1, Int.le_refl _⟩
theorem qL_bd : ∀ (S : List P3) (T : Int), (∀ x ∈ S, x.2.2 ≤ T) → 0 ≤ T → 0 ≤ (qL S).2 ∧ (qL S).2 ≤ T ∧ ((qL S).1.length : Int) ≤ (qL S).2 := by
  intro S T h hT
  have : ∀ (S : List P3) (q : List Nt × Int), (∀ x ∈ S, x.2.2 ≤ T) → 0 ≤ q.2 ∧ q.2 ≤ T ∧ (q.1.length : Int) ≤ q.2 → 0 ≤ (S.foldl qStep q).2 ∧ (S.foldl qStep q).2 ≤ T ∧ ((S.foldl qStep q).1.length : Int) ≤ (S.foldl qStep q).2 := by
    intro S
    induction S with
    | nil => intro q _ hq; exact hq
    | cons x S ih =>
      intro q hS hq
      rw [List.foldl_cons]
      refine ih _ (fun y hy => hS y (List.mem_cons_of_mem _ hy)) ?_
      have hx := hS x List.mem_cons_self
      unfold qStep
      split
      · exact hq
      · rename_i hn
        have hn1 : q.2 ≤ x.2.1 := by omega
        have hn2 : x.2.1 < x.2.2 := by omega
        dsimp only
        refine ⟨by omega, hx, ?_⟩
        have l1 := pcs_len (true, 0, 0, 0) (x.2.1 - q.2) (by omega)
        have l2 := pcs_len (false, spL x.1) (x.2.2 - x.2.1) (by omega)
        rw [List.length_append, List.length_append]
        push_cast
        omega
  exact this S ([], 0) h ⟨Int.le_refl _, hT, by simp⟩
def kT (v : List Nt) (k : Nat) : List Nt × Int := qL ((sT v k).1.map kSd)
theorem kT_bd {v : List Nt} (h : vvB v = true) {k : Nat} (hk : k ≤ v.length) : 0 ≤ (kT v k).2 ∧ (kT v k).2 ≤ (sT v k).2.2.1 ∧ ((kT v k).1.length : Int) ≤ (kT v k).2 := by
  refine qL_bd _ _ ?_ (sT_bd h k hk).1
  intro x hx
  obtain ⟨y, hy, rfl⟩ := List.mem_map.1 hx
  exact ((sT_from h k hk).2.2 y hy).2
theorem kT_zero (v : List Nt) : kT v 0 = ([], 0) := by unfold kT; rw [sT_zero]; rfl
/-- where a note's sound begins -/
def fT (v : List Nt) (k : Nat) : Int := if (sT v k).2.2.2 = true then (sT v k).2.1 else (sT v k).2.2.1
theorem sT_fr {v : List Nt} {k : Nat} (h : k < v.length) : (sT v (k + 1)).2.1 = fT v k := by rw [sT_succ h]; rfl
theorem kT_skip {v : List Nt} {k : Nat} (h : k < v.length) (hs : (glNote v k).1 = true ∨ (glNote v k).2.2.2.2.2 = true) : kT v (k + 1) = kT v k := by
  unfold kT; rw [sT_succ h]; unfold sStep; dsimp only
  rcases hs with e | e <;> simp [e]
theorem kT_sound {v : List Nt} {k : Nat} (h : k < v.length) (hr : (glNote v k).1 = false) (hd : (glNote v k).2.2.2.2.2 = false) :
    kT v (k + 1) = qStep (kT v k) (pkL ((glNote v k).2.1, (glNote v k).2.2.1, (glNote v k).2.2.2.1), fT v k, (sT v k).2.2.1 + (glNote v k).2.2.2.2.1) := by
  unfold kT; rw [sT_succ h]; unfold sStep; dsimp only
  rw [hr, hd]
  simp only [Bool.or_false, Bool.false_eq_true, if_false, List.map_append, List.map_cons, List.map_nil]
  rw [qL_snoc]
  rfl
theorem kT_all (v : List Nt) : kT v v.length = qL (keysL v) := by unfold kT keysL; rw [sT_all]
/-- the keys of a voice: the notes before a note -/
def ksT (v : List Nt) (k : Nat) : Prop := ∀ j, j < k → (glNote v j).1 = true ∨ inR (pkL ((glNote v j).2.1, (glNote v j).2.2.1, (glNote v j).2.2.2.1)) 0 107 = true
theorem ks_all {v : List Nt} (h : ksT v v.length) : keysB v = true := by
  unfold keysB
  rw [List.all_eq_true]
  intro n hn
  obtain ⟨j, hj, rfl⟩ := List.getElem_of_mem hn
  rw [glNote_get hj]
  rcases h j hj with e | e <;> simp [e]
theorem ks_no {v : List Nt} {k : Nat} (hk : k < v.length) (hr : (glNote v k).1 = false) (h : inR (pkL ((glNote v k).2.1, (glNote v k).2.2.1, (glNote v k).2.2.2.1)) 0 107 = false) : keysB v = false := by
  unfold keysB
  rw [List.all_eq_false]
  exact ⟨v[k], List.getElem_mem hk, by rw [glNote_get hk]; simp [hr, h]⟩
theorem plain_yes {v : List Nt} (h1 : vvB v = true) (h2 : keysB v = true) : plainL v = ((qL (keysL v)).1, true) := if_pos ⟨h1, h2⟩
theorem plain_no {v : List Nt} (h : vvB v = false ∨ keysB v = false) : plainL v = ([], false) := if_neg (by rintro ⟨h1, h2⟩; rcases h with h | h <;> simp_all)
theorem plain_le {v : List Nt} (h1 : vvB v = true) : (qL (keysL v)).1.length ≤ 60 := Nat.le_trans (plain_len (vv_okV h1)) (vv_len h1)
theorem plainL_len (v : List Nt) : (plainL v).1.length ≤ 60 := by
  unfold plainL
  split
  · rename_i h; exact plain_le h.1
  · simp
theorem quanL_len (es : List Ev) (ts : List (Int × Int)) (g : Int) : (quanL es ts g).1.length ≤ 60 := by
  unfold quanL
  split
  · rename_i h; exact h.2
  · simp
theorem perfL_len (v : List Nt) (ts : List (Int × Int)) (l : Int) : (perfL v ts l).length ≤ 60 := by
  unfold perfL
  split
  · rename_i h
    rw [List.length_map]
    exact Nat.le_trans (snd_main (vv_okV h.1)).2.2 (vv_len h.1)
  · simp
/-- groups -/
def gT (v : List Nt) (k : Nat) : List Nt × Bool := (v.take k).foldl gStep ([], false)
theorem gT_zero (v : List Nt) : gT v 0 = ([], false) := by simp [gT]
theorem gT_succ {v : List Nt} {k : Nat} (h : k < v.length) : gT v (k + 1) = gStep (gT v k) (glNote v k) := by unfold gT; rw [take_succ_Note h, List.foldl_append]; rfl
theorem gT_all (v : List Nt) : (gT v v.length).1 = grpL v := by unfold gT grpL; rw [List.take_length]
theorem gT_tied {v : List Nt} {k : Nat} (h : k < v.length) : (gT v (k + 1)).2 = (glNote v k).2.2.2.2.2 := by rw [gT_succ h]; rfl
theorem gT_len (v : List Nt) : ∀ k, k ≤ v.length → (gT v k).1.length ≤ k ∧ (0 < k → 0 < (gT v k).1.length) := by
  intro k
  induction k with
  | zero => intro _; rw [gT_zero]; simp
  | succ k ih =>
    intro hk
    obtain ⟨h1, h2⟩ := ih (by omega)
    rw [gT_succ (by omega)]
    unfold gStep
    dsimp only
    split
    · rename_i hd
      have h0 : 0 < k := by
        rcases Nat.eq_zero_or_pos k with h | h
        · subst h; rw [gT_zero] at hd; cases hd
        · exact h
      unfold addG; rw [List.length_set]
      exact ⟨by omega, fun _ => h2 h0⟩
    · rw [List.length_append]; simp; omega
theorem gT_mem {v : List Nt} {R : Nt → Prop} (hR : ∀ n : Nt, ∀ t, R n → R (n.1, n.2.1, n.2.2.1, n.2.2.2.1, t, n.2.2.2.2.2)) : ∀ k, k ≤ v.length → (∀ j, j < k → R (glNote v j)) → ∀ x ∈ (gT v k).1, R x := by
  intro k
  induction k with
  | zero => intro _ _ x hx; rw [gT_zero] at hx; cases hx
  | succ k ih =>
    intro hk hn x hx
    have ih2 := ih (by omega) (fun j hj => hn j (by omega))
    rw [gT_succ (by omega)] at hx
    unfold gStep at hx
    dsimp only at hx
    split at hx
    · unfold addG at hx
      rcases List.mem_or_eq_of_mem_set hx with h | h
      · exact ih2 x h
      · rcases Nat.eq_zero_or_pos (gT v k).1.length with h0 | h0
        · have : (gT v k).1 = [] := List.length_eq_zero_iff.1 h0
          rw [this] at hx; simp at hx
        · rw [h]
          refine hR _ _ (ih2 _ ?_)
          rw [← glNote_get (by omega)]
          exact List.getElem_mem _
    · rcases List.mem_append.1 hx with h | h
      · exact ih2 x h
      · rw [List.mem_singleton.1 h]; exact hn k (by omega)
theorem gT_tk {v : List Nt} (h : vvB v = true) : ∀ k, k ≤ v.length → ∀ x ∈ (gT v k).1, 0 ≤ x.2.2.2.2.1 ∧ x.2.2.2.2.1 ≤ 768 * k := by
  intro k
  induction k with
  | zero => intro _ x hx; rw [gT_zero] at hx; cases hx
  | succ k ih =>
    intro hk x hx
    have ih2 := ih (by omega)
    obtain ⟨t1, t2⟩ := vv_tick h (k := k) (by omega)
    rw [gT_succ (by omega)] at hx
    unfold gStep at hx
    dsimp only at hx
    push_cast
    split at hx
    · unfold addG at hx
      rcases List.mem_or_eq_of_mem_set hx with h | h
      · have := ih2 x h; omega
      · rcases Nat.eq_zero_or_pos (gT v k).1.length with h0 | h0
        · have : (gT v k).1 = [] := List.length_eq_zero_iff.1 h0
          rw [this] at hx; simp at hx
        · have := ih2 _ (gl_mem (G := (gT v k).1) (k := (gT v k).1.length - 1) (by omega))
          rw [h]; dsimp only; omega
    · rcases List.mem_append.1 hx with h | h
      · have := ih2 x h; omega
      · rw [List.mem_singleton.1 h]; omega
theorem grp_pv {v : List Nt} (h : vvB v = true) : ∀ x ∈ grpL v, x.1 = false → pvB x.2.1 x.2.2.1 x.2.2.2.1 = true := by
  rw [← gT_all]
  exact gT_mem (R := fun x => x.1 = false → pvB x.2.1 x.2.2.1 x.2.2.2.1 = true) (fun n t hn => hn) _ (Nat.le_refl _) (fun j hj => nv_pv (vv_nv h hj))
theorem grp_len {v : List Nt} (h : vvB v = true) : (grpL v).length ≤ 60 := by
  have := (gT_len v v.length (Nat.le_refl _)).1
  rw [gT_all] at this
  have := vv_len h
  omega
/-- prefixes of groups -/
def eT (G : List Nt) (k : Nat) : List Sd × Int := eL (G.take k)
def wT (G : List Nt) (k : Nat) : List Nt × Int := wL (G.take k)
theorem eT_zero (G : List Nt) : eT G 0 = ([], 0) := by simp [eT, eL]
theorem wT_zero (G : List Nt) : wT G 0 = ([], 0) := by simp [wT, wL]
theorem eT_succ {G : List Nt} {k : Nat} (h : k < G.length) : eT G (k + 1) = eStep (eT G k) (glNote G k) := by unfold eT eL; rw [take_succ_Note h, List.foldl_append]; rfl
theorem wT_succ {G : List Nt} {k : Nat} (h : k < G.length) : wT G (k + 1) = wStep (wT G k) (glNote G k) := by unfold wT wL; rw [take_succ_Note h, List.foldl_append]; rfl
theorem eT_all (G : List Nt) : eT G G.length = eL G := by unfold eT; rw [List.take_length]
theorem wT_all (G : List Nt) : wT G G.length = wL G := by unfold wT; rw [List.take_length]
theorem eT_tick {G : List Nt} {k : Nat} (h : k < G.length) : (eT G (k + 1)).2 = (eT G k).2 + (glNote G k).2.2.2.2.1 := by rw [eT_succ h]; rfl
theorem eT_mono {G : List Nt} (hp : ∀ x ∈ G, 0 < x.2.2.2.2.1) {k : Nat} (hk : k ≤ G.length) : 0 ≤ (eT G k).2 ∧ (eT G k).2 ≤ (eL G).2 := by
  constructor
  · clear hk
    induction k with
    | zero => rw [eT_zero]; exact Int.le_refl _
    | succ k ih =>
      by_cases h : k < G.length
      · rw [eT_tick h]; have := hp _ (gl_mem h); omega
      · have : eT G (k + 1) = eT G k := by unfold eT; rw [List.take_of_length_le (by omega), List.take_of_length_le (by omega)]
        rw [this]; exact ih
  · have : ∀ d, k + d ≤ G.length → (eT G k).2 ≤ (eT G (k + d)).2 := by
      intro d
      induction d with
      | zero => intro _; exact Int.le_refl _
      | succ d ih =>
        intro hd
        have h1 := ih (by omega)
        have h2 := hp _ (gl_mem (G := G) (k := k + d) (by omega))
        rw [show k + (d + 1) = k + d + 1 by omega, eT_tick (by omega)]
        omega
    have h2 := this (G.length - k) (by omega)
    rw [show k + (G.length - k) = G.length by omega, eT_all] at h2
    exact h2
theorem wT_bd {G : List Nt} (hp : ∀ x ∈ G, 0 < x.2.2.2.2.1) : ∀ k, k ≤ G.length → 0 ≤ (wT G k).2 ∧ ((wT G k).1.length : Int) + (wT G k).2 ≤ (eT G k).2 := by
  intro k
  induction k with
  | zero => intro _; rw [wT_zero, eT_zero]; simp
  | succ k ih =>
    intro hk
    obtain ⟨h1, h2⟩ := ih (by omega)
    have h3 := hp _ (gl_mem (G := G) (k := k) (by omega))
    rw [wT_succ (by omega), eT_tick (by omega)]
    unfold wStep
    split
    · dsimp only; omega
    · dsimp only
      have l1 := pcs_len (true, 0, 0, 0) (wT G k).2 h1
      have l2 := pcs_len (false, spL (pkL ((glNote G k).2.1, (glNote G k).2.2.1, (glNote G k).2.2.2.1))) (glNote G k).2.2.2.2.1 (by omega)
      have l3 : ((wT G k).2 + 767) / 768 ≤ (wT G k).2 := by omega
      have l4 : ((glNote G k).2.2.2.2.1 + 767) / 768 ≤ (glNote G k).2.2.2.2.1 := by omega
      refine ⟨Int.le_refl _, ?_⟩
      rw [List.length_append, List.length_append]
      push_cast
      omega
/-- the facts of groups that the walks need -/
theorem grp_facts {v : List Nt} (h : vvB v = true) : (∀ x ∈ grpL v, 0 < x.2.2.2.2.1) ∧ (eL (grpL v)).2 = ticksL v ∧ (eL (grpL v)).1 = (sndL v).1 ∧ (keysV (grpL v) ↔ keysV v) ∧ (wL (grpL v)).1 = (qL (keysL v)).1 := by
  obtain ⟨h1, h2, h3⟩ := grp_main (vv_okV h)
  exact ⟨h2, by rw [h1]; rfl, by rw [h1], h3, w_main (vv_okV h)⟩
theorem ksG_all {v : List Nt} (h : vvB v = true) (hk : ksT (grpL v) (grpL v).length) : keysB v = true := keysB_iff.2 ((grp_facts h).2.2.2.1.1 (keysB_iff.1 (ks_all hk)))
theorem ksG_no {v : List Nt} (h : vvB v = true) {k : Nat} (hk : k < (grpL v).length) (hr : (glNote (grpL v) k).1 = false) (hi : inR (pkL ((glNote (grpL v) k).2.1, (glNote (grpL v) k).2.2.1, (glNote (grpL v) k).2.2.2.1)) 0 107 = false) : keysB v = false := by
  cases hb : keysB v
  · rfl
  · have h1 := keysB_iff.2 ((grp_facts h).2.2.2.1.2 (keysB_iff.1 hb))
    rw [ks_no hk hr hi] at h1; cases h1
/-- what is played of the notes before a note -/
def pT (v : List Nt) (ts : List (Int × Int)) (l : Int) (k : Nat) : List Ev := (sT v k).1.map (evOf ts l)
theorem pT_zero (v : List Nt) (ts : List (Int × Int)) (l : Int) : pT v ts l 0 = [] := by unfold pT; rw [sT_zero]; rfl
theorem pT_skip {v : List Nt} {ts : List (Int × Int)} {l : Int} {k : Nat} (h : k < v.length) (hs : (glNote v k).1 = true ∨ (glNote v k).2.2.2.2.2 = true) : pT v ts l (k + 1) = pT v ts l k := by
  unfold pT; rw [sT_succ h]; unfold sStep; dsimp only
  rcases hs with e | e <;> simp [e]
theorem pT_sound {v : List Nt} {ts : List (Int × Int)} {l : Int} {k : Nat} (h : k < v.length) (hr : (glNote v k).1 = false) (hd : (glNote v k).2.2.2.2.2 = false) :
    pT v ts l (k + 1) = pT v ts l k ++ [(timeL ts (fT v k), timeL ts ((sT v k).2.2.1 + (glNote v k).2.2.2.2.1), pkL ((glNote v k).2.1, (glNote v k).2.2.1, (glNote v k).2.2.2.1), l)] := by
  unfold pT; rw [sT_succ h]; unfold sStep; dsimp only
  rw [hr, hd]
  simp only [Bool.or_false, Bool.false_eq_true, if_false, List.map_append, List.map_cons, List.map_nil]
  rfl
theorem sT_len {v : List Nt} : ∀ k, k ≤ v.length → (sT v k).1.length ≤ k := by
  intro k
  induction k with
  | zero => intro _; rw [sT_zero]; simp
  | succ k ih =>
    intro hk
    have := ih (by omega)
    rw [sT_succ (by omega)]
    unfold sStep; dsimp only
    split
    · omega
    · rw [List.length_append]; simp; omega
theorem pT_len {v : List Nt} {ts : List (Int × Int)} {l : Int} {k : Nat} (h : k ≤ v.length) : (pT v ts l k).length ≤ k := by unfold pT; rw [List.length_map]; exact sT_len k h
theorem perf_yes {v : List Nt} {ts : List (Int × Int)} {l : Int} (h1 : vvB v = true) (h2 : tvB ts = true) (h3 : inR l 1 127 = true) (h4 : keysB v = true) : perfL v ts l = pT v ts l v.length := by
  unfold perfL pT; rw [sT_all]
  exact if_pos ⟨h1, h2, h3, by have := tk_bd h1; omega, h4⟩
theorem perf_no {v : List Nt} {ts : List (Int × Int)} {l : Int} (h : vvB v = false ∨ tvB ts = false ∨ inR l 1 127 = false ∨ keysB v = false) : perfL v ts l = [] :=
  if_neg (by rintro ⟨h1, h2, h3, h4, h5⟩; rcases h with h | h | h | h <;> simp_all)
/-- what is played of the groups before a group -/
def uT (G : List Nt) (ts : List (Int × Int)) (l : Int) (k : Nat) : List Ev := (eT G k).1.map (evOf ts l)
theorem uT_zero (G : List Nt) (ts : List (Int × Int)) (l : Int) : uT G ts l 0 = [] := by unfold uT; rw [eT_zero]; rfl
theorem uT_skip {G : List Nt} {ts : List (Int × Int)} {l : Int} {k : Nat} (h : k < G.length) (hs : (glNote G k).1 = true) : uT G ts l (k + 1) = uT G ts l k := by
  unfold uT; rw [eT_succ h]; unfold eStep; simp [hs]
theorem uT_sound {G : List Nt} {ts : List (Int × Int)} {l : Int} {k : Nat} (h : k < G.length) (hr : (glNote G k).1 = false) :
    uT G ts l (k + 1) = uT G ts l k ++ [(timeL ts (eT G k).2, timeL ts ((eT G k).2 + (glNote G k).2.2.2.2.1), pkL ((glNote G k).2.1, (glNote G k).2.2.1, (glNote G k).2.2.2.1), l)] := by
  unfold uT; rw [eT_succ h]; unfold eStep
  rw [hr]
  simp only [Bool.false_eq_true, if_false, List.map_append, List.map_cons, List.map_nil]
  rfl
theorem uT_len {G : List Nt} {ts : List (Int × Int)} {l : Int} : ∀ k, k ≤ G.length → (uT G ts l k).length ≤ k := by
  intro k
  induction k with
  | zero => intro _; rw [uT_zero]; simp
  | succ k ih =>
    intro hk
    have := ih (by omega)
    cases hr : (glNote G k).1
    · rw [uT_sound (by omega) hr, List.length_append]; simp; omega
    · rw [uT_skip (by omega) hr]; omega
theorem perf_grp {v : List Nt} {ts : List (Int × Int)} {l : Int} (h1 : vvB v = true) (h2 : tvB ts = true) (h3 : inR l 1 127 = true) (h4 : keysB v = true) : perfL v ts l = uT (grpL v) ts l (grpL v).length := by
  rw [perf_yes h1 h2 h3 h4]
  unfold uT pT
  rw [eT_all, (grp_facts h1).2.2.1, sT_all]
/-- what is written for the events before an event -/
def vT (es : List Ev) (ts : List (Int × Int)) (g : Int) (k : Nat) : List Nt × Int := qL ((es.take k).map (qev ts g))
theorem vT_zero (es : List Ev) (ts : List (Int × Int)) (g : Int) : vT es ts g 0 = ([], 0) := by simp [vT, qL]
theorem vT_succ {es : List Ev} {ts : List (Int × Int)} {g : Int} {k : Nat} (h : k < es.length) : vT es ts g (k + 1) = qStep (vT es ts g k) ((glEvent es k).2.2.1, rnd (tickL ts (glEvent es k).1) g, rnd (tickL ts (glEvent es k).2.1) g) := by
  unfold vT
  rw [take_succ_Event h, List.map_append, List.map_cons, List.map_nil, qL_snoc]
  rfl
theorem vT_all (es : List Ev) (ts : List (Int × Int)) (g : Int) : vT es ts g es.length = qL (es.map (qev ts g)) := by unfold vT; rw [List.take_length]
theorem vT_bd {es : List Ev} {ts : List (Int × Int)} {g : Int} (he : evB es = true) (ht : tvB ts = true) (hg : 1 ≤ g ∧ g ≤ 768) (k : Nat) : 0 ≤ (vT es ts g k).2 ∧ (vT es ts g k).2 ≤ 50768 ∧ ((vT es ts g k).1.length : Int) ≤ (vT es ts g k).2 := by
  refine qL_bd _ _ ?_ (by omega)
  intro x hx
  obtain ⟨e, he2, rfl⟩ := List.mem_map.1 hx
  have hm := List.mem_of_mem_take he2
  obtain ⟨j, hj, e3⟩ := List.getElem_of_mem hm
  have h1 := (evB_iff.1 he).2 j hj
  have h2 : glEvent es j = e := by rw [← glEvent_get hj]; exact e3
  rw [h2] at h1
  have h3 := tickL_in ht (x := e.2.1) (by omega)
  exact (rnd_bd h3 hg).2.2.2
theorem quan_yes {es : List Ev} {ts : List (Int × Int)} {g : Int} (he : evB es = true) (ht : tvB ts = true) (hg : inR g 1 768 = true) : quanL es ts g = if (vT es ts g es.length).1.length ≤ 60 then ((vT es ts g es.length).1, true) else ([], false) := by
  unfold quanL
  rw [vT_all]
  by_cases h : (qL (es.map (qev ts g))).1.length ≤ 60
  · rw [if_pos ⟨⟨he, ht, hg⟩, h⟩, if_pos h]
  · rw [if_neg (fun h2 => h h2.2), if_neg h]
theorem quan_no {es : List Ev} {ts : List (Int × Int)} {g : Int} (h : evB es = false ∨ tvB ts = false ∨ inR g 1 768 = false) : quanL es ts g = ([], false) :=
  if_neg (by rintro ⟨⟨h1, h2, h3⟩, -⟩; rcases h with h | h | h <;> simp_all)
end Go.Proofs.YtmodpleonhniaaaGreatDoor
