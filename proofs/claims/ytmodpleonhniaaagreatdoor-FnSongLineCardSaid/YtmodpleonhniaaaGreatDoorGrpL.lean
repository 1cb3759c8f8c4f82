/- Plain laws: tied notes as groups, what is played, what is written again; no program. -/
import Derived.Test.YtmodpleonhniaaaGreatDoorQuaL
import Derived.Test.YtmodpleonhniaaaGreatDoorTemp
import Derived.Test.YtmodpleonhniaaaGreatDoorEvt
import Derived.Test.YtmodpleonhniaaaGreatDoorGrid
namespace Go.Proofs.YtmodpleonhniaaaGreatDoor
open Go.RowKit
set_option linter.unusedSimpArgs false
set_option linter.unusedVariables false
def addG (G : List Nt) (t : Int) : List Nt := G.set (G.length - 1) ((glNote G (G.length - 1)).1, (glNote G (G.length - 1)).2.1, (glNote G (G.length - 1)).2.2.1, (glNote G (G.length - 1)).2.2.2.1, (glNote G (G.length - 1)).2.2.2.2.1 + t, (glNote G (G.length - 1)).2.2.2.2.2)
theorem addG_snoc (G : List Nt) (g : Nt) (t : Int) : addG (G ++ [g]) t = G ++ [(g.1, g.2.1, g.2.2.1, g.2.2.2.1, g.2.2.2.2.1 + t, g.2.2.2.2.2)] := by
  unfold addG
  have e : (G ++ [g]).length - 1 = G.length := by simp
  rw [e]
  have e2 : glNote (G ++ [g]) G.length = g := by simp [glNote]
  rw [e2]
  simp
def gStep (q : List Nt × Bool) (n : Nt) : List Nt × Bool := (if q.2 then addG q.1 n.2.2.2.2.1 else q.1 ++ [n], n.2.2.2.2.2)
/-- all tied notes as one -/
def grpL (v : List Nt) : List Nt := (v.foldl gStep ([], false)).1
def eStep (q : List Sd × Int) (g : Nt) : List Sd × Int := (if g.1 then q.1 else q.1 ++ [((g.2.1, g.2.2.1, g.2.2.2.1), q.2, q.2 + g.2.2.2.2.1)], q.2 + g.2.2.2.2.1)
def eL (G : List Nt) : List Sd × Int := G.foldl eStep ([], 0)
theorem eL_snoc (G : List Nt) (g : Nt) : eL (G ++ [g]) = eStep (eL G) g := by unfold eL; rw [List.foldl_append]; rfl
def gInv (v : List Nt) (q : List Sd × Int × Int × Bool) (g : List Nt × Bool) : Prop :=
  g.2 = q.2.2.2 ∧ (∀ x ∈ g.1, 0 < x.2.2.2.2.1) ∧
  if q.2.2.2 = true then ∃ G0 x m v', g.1 = G0 ++ [x] ∧ v = m :: v' ∧ m.1 = false ∧ x.1 = false ∧ m.2.1 = x.2.1 ∧ m.2.2.1 = x.2.2.1 ∧ m.2.2.2.1 = x.2.2.2.1 ∧ eL G0 = (q.1, q.2.1) ∧ x.2.2.2.2.1 = q.2.2.1 - q.2.1
  else eL g.1 = (q.1, q.2.2.1)
theorem keysV_append {a b : List Nt} : keysV (a ++ b) ↔ keysV a ∧ keysV b := by
  unfold keysV
  constructor
  · intro h; exact ⟨fun n hn => h n (List.mem_append_left _ hn), fun n hn => h n (List.mem_append_right _ hn)⟩
  · rintro ⟨h1, h2⟩ n hn
    rcases List.mem_append.1 hn with h | h
    · exact h1 n h
    · exact h2 n h
theorem keysV_one {n : Nt} : keysV [n] ↔ (n.1 = false → keyIn (pkL (n.2.1, n.2.2.1, n.2.2.2.1))) := by simp [keysV]
theorem keysV_cons {n : Nt} {v : List Nt} : keysV (n :: v) ↔ (n.1 = false → keyIn (pkL (n.2.1, n.2.2.1, n.2.2.2.1))) ∧ keysV v := by simp [keysV]
theorem nv_rt {r d : Bool} {s a o t : Int} (h : nvB (r, s, a, o, t, d) = true) (hr : r = true) : d = false := by
  subst hr
  unfold nvB at h
  cases d
  · rfl
  · simp at h
theorem g_run : ∀ (v : List Nt) (q : List Sd × Int × Int × Bool) (g : List Nt × Bool), okV v → gInv v q g →
    gInv [] (v.foldl sStep q) (v.foldl gStep g) ∧ (keysV (v.foldl gStep g).1 ↔ keysV g.1 ∧ keysV v) := by
  intro v
  induction v with
  | nil => intro q g _ h; exact ⟨h, by simp [keysV]⟩
  | cons n v ih =>
    intro q g hv h
    obtain ⟨h1, h2, h3⟩ := hv
    obtain ⟨t1, t2⟩ := nv_tick h1
    rw [List.foldl_cons, List.foldl_cons]
    obtain ⟨S, f, t, d⟩ := q
    obtain ⟨G, d0⟩ := g
    obtain ⟨i1, i2, i3⟩ := h
    dsimp only at i1 i2 i3
    subst i1
    cases d0
    · simp only [Bool.false_eq_true, if_false] at i3
      have key : gInv v (sStep (S, f, t, false) n) (gStep (G, false) n) := by
        obtain ⟨r, s, a, o, ti, d'⟩ := n
        have hrd := nv_rt h1
        refine ⟨rfl, ?_, ?_⟩
        · intro x hx
          simp only [gStep, Bool.false_eq_true, if_false] at hx
          rcases List.mem_append.1 hx with hx | hx
          · exact i2 x hx
          · rw [List.mem_singleton.1 hx]; dsimp only at t1 ⊢; omega
        · cases d'
          · simp only [sStep, gStep, Bool.false_eq_true, if_false, eL_snoc, i3, eStep, Bool.or_false]
          · have hr : r = false := by cases r; rfl; exact absurd (hrd rfl) (by simp)
            subst hr
            obtain ⟨m, v', e1, e2, e3, e4, e5⟩ := h2 rfl
            simp only [sStep, gStep, Bool.false_eq_true, if_false, if_true, Bool.or_true]
            exact ⟨G, _, m, v', rfl, e1, e2, rfl, e3, e4, e5, i3, by dsimp only; omega⟩
      obtain ⟨k1, k2⟩ := ih _ _ h3 key
      refine ⟨k1, k2.trans ?_⟩
      simp only [gStep, Bool.false_eq_true, if_false]
      rw [keysV_append, keysV_one, keysV_cons, and_assoc]
    · simp only [if_true] at i3
      obtain ⟨G0, x, m, v', e1, e2, e3, e4, e5, e6, e7, e8, e9⟩ := i3
      injection e2 with e2 e2'
      subst e2
      subst e1
      obtain ⟨r, s, a, o, ti, d'⟩ := n
      obtain ⟨r', s', a', o', ti', dd⟩ := x
      dsimp only at e3 e4 e5 e6 e7 e9
      subst e3; subst e4; subst e5; subst e6; subst e7
      have e10 := i2 _ (List.mem_append_right _ (List.mem_singleton.2 rfl))
      dsimp only at e10 t1
      have key : gInv v (sStep (S, f, t, true) (false, s, a, o, ti, d')) (gStep (G0 ++ [(false, s, a, o, ti', dd)], true) (false, s, a, o, ti, d')) := by
        refine ⟨rfl, ?_, ?_⟩
        · intro y hy
          simp only [gStep, if_true, addG_snoc] at hy
          rcases List.mem_append.1 hy with hy | hy
          · exact i2 y (List.mem_append_left _ hy)
          · rw [List.mem_singleton.1 hy]; dsimp only; omega
        · cases d'
          · simp only [sStep, gStep, Bool.false_eq_true, if_false, if_true, addG_snoc, eL_snoc, e8, eStep, Bool.or_false]
            simp only [Prod.mk.injEq, List.append_cancel_left_eq, List.cons.injEq, and_true, true_and]
            omega
          · obtain ⟨m, v', e1, e2, e3, e4, e5⟩ := h2 rfl
            simp only [sStep, gStep, Bool.false_eq_true, if_false, if_true, Bool.or_true, addG_snoc]
            exact ⟨G0, _, m, v', rfl, e1, e2, rfl, e3, e4, e5, e8, by dsimp only; omega⟩
      obtain ⟨k1, k2⟩ := ih _ _ h3 key
      refine ⟨k1, k2.trans ?_⟩
      simp only [gStep, if_true, addG_snoc]
      rw [keysV_append, keysV_one, keysV_append, keysV_one, keysV_cons]
      constructor
      · rintro ⟨⟨p1, p2⟩, p3⟩; exact ⟨⟨p1, p2⟩, p2, p3⟩
      · rintro ⟨⟨p1, p2⟩, p3, p4⟩; exact ⟨⟨p1, p2⟩, p4⟩
theorem okV_last : ∀ {v : List Nt} {q : List Sd × Int × Int × Bool}, okV v → q.2.2.2 = false ∨ v ≠ [] → (v.foldl sStep q).2.2.2 = false := by
  intro v
  induction v with
  | nil => intro q _ h; rcases h with h | h; exact h; exact absurd rfl h
  | cons n v ih =>
    intro q hv h
    obtain ⟨h1, h2, h3⟩ := hv
    rw [List.foldl_cons]
    refine ih h3 ?_
    cases hd : n.2.2.2.2.2
    · left; exact hd
    · right
      obtain ⟨m, v', e, _⟩ := h2 hd
      rw [e]; simp
theorem grp_main {v : List Nt} (h : okV v) : eL (grpL v) = ((sndL v).1, (sndL v).2.2.1) ∧ (∀ x ∈ grpL v, 0 < x.2.2.2.2.1) ∧ (keysV (grpL v) ↔ keysV v) := by
  obtain ⟨⟨k0, k1, k2⟩, k3⟩ := g_run v ([], 0, 0, false) ([], false) h ⟨rfl, fun x hx => absurd hx (by simp), rfl⟩
  have hl := okV_last (q := ([], 0, 0, false)) h (.inl rfl)
  rw [hl] at k2
  exact ⟨k2, k1, k3.trans (by simp [keysV])⟩
/-- what is written for groups -/
def wStep (q : List Nt × Int) (g : Nt) : List Nt × Int :=
  if g.1 then (q.1, q.2 + g.2.2.2.2.1) else (q.1 ++ pcs (true, 0, 0, 0) q.2 ++ pcs (false, spL (pkL (g.2.1, g.2.2.1, g.2.2.2.1))) g.2.2.2.2.1, 0)
def wL (G : List Nt) : List Nt × Int := G.foldl wStep ([], 0)
theorem w_run : ∀ (G : List Nt) (q : List Sd × Int), (∀ x ∈ G, 0 < x.2.2.2.2.1) → (qL (q.1.map kSd)).2 ≤ q.2 →
    G.foldl wStep ((qL (q.1.map kSd)).1, q.2 - (qL (q.1.map kSd)).2) = ((qL ((G.foldl eStep q).1.map kSd)).1, (G.foldl eStep q).2 - (qL ((G.foldl eStep q).1.map kSd)).2) ∧ (qL ((G.foldl eStep q).1.map kSd)).2 ≤ (G.foldl eStep q).2 := by
  intro G
  induction G with
  | nil => intro q _ h; exact ⟨rfl, h⟩
  | cons g G ih =>
    intro q hG h
    have hg := hG g (List.mem_cons_self ..)
    rw [List.foldl_cons, List.foldl_cons]
    obtain ⟨S, at'⟩ := q
    dsimp only at h ⊢
    cases hr : g.1
    · have e : eStep (S, at') g = (S ++ [((g.2.1, g.2.2.1, g.2.2.2.1), at', at' + g.2.2.2.2.1)], at' + g.2.2.2.2.1) := by simp [eStep, hr]
      have hx : ¬ ((kSd ((g.2.1, g.2.2.1, g.2.2.2.1), at', at' + g.2.2.2.2.1)).2.1 < (qL (S.map kSd)).2 ∨ (kSd ((g.2.1, g.2.2.1, g.2.2.2.1), at', at' + g.2.2.2.2.1)).2.2 ≤ (kSd ((g.2.1, g.2.2.1, g.2.2.2.1), at', at' + g.2.2.2.2.1)).2.1) := by
        show ¬ (at' < _ ∨ at' + g.2.2.2.2.1 ≤ at'); omega
      have hq : qL ((S ++ [((g.2.1, g.2.2.1, g.2.2.2.1), at', at' + g.2.2.2.2.1)]).map kSd) = ((qL (S.map kSd)).1 ++ pcs (true, 0, 0, 0) (at' - (qL (S.map kSd)).2) ++ pcs (false, spL (pkL (g.2.1, g.2.2.1, g.2.2.2.1))) g.2.2.2.2.1, at' + g.2.2.2.2.1) := by
        rw [List.map_append, List.map_cons, List.map_nil, qL_snoc, qStep, if_neg hx]
        simp only [kSd]
        rw [show at' + g.2.2.2.2.1 - at' = g.2.2.2.2.1 by omega]
      have hw : wStep ((qL (S.map kSd)).1, at' - (qL (S.map kSd)).2) g = ((qL ((S ++ [((g.2.1, g.2.2.1, g.2.2.2.1), at', at' + g.2.2.2.2.1)]).map kSd)).1, at' + g.2.2.2.2.1 - (qL ((S ++ [((g.2.1, g.2.2.1, g.2.2.2.1), at', at' + g.2.2.2.2.1)]).map kSd)).2) := by
        rw [hq]
        simp [wStep, hr]
      rw [e, hw]
      exact ih (S ++ [((g.2.1, g.2.2.1, g.2.2.2.1), at', at' + g.2.2.2.2.1)], at' + g.2.2.2.2.1) (fun x hx => hG x (List.mem_cons_of_mem _ hx)) (by dsimp only; rw [hq]; exact Int.le_refl _)
    · have e : eStep (S, at') g = (S, at' + g.2.2.2.2.1) := by simp [eStep, hr]
      have hw : wStep ((qL (S.map kSd)).1, at' - (qL (S.map kSd)).2) g = ((qL (S.map kSd)).1, at' + g.2.2.2.2.1 - (qL (S.map kSd)).2) := by
        simp only [wStep, hr, if_true, Prod.mk.injEq, true_and]; omega
      rw [e, hw]
      exact ih (S, at' + g.2.2.2.2.1) (fun x hx => hG x (List.mem_cons_of_mem _ hx)) (by dsimp only; omega)
theorem w_main {v : List Nt} (h : okV v) : (wL (grpL v)).1 = (qL (keysL v)).1 := by
  obtain ⟨e1, e2, -⟩ := grp_main h
  have := w_run (grpL v) ([], 0) e2 (Int.le_refl _)
  have hh := this.1
  have e3 : (grpL v).foldl eStep ([], 0) = ((sndL v).1, (sndL v).2.2.1) := e1
  rw [e3] at hh
  have e4 : (wL (grpL v)) = _ := hh
  rw [e4]; rfl
/-- the sounds of a voice are in order -/
def oInv (q : List Sd × Int × Int × Bool) : Prop :=
  0 ≤ q.2.1 ∧ (q.2.2.2 = true → q.2.1 ≤ q.2.2.1) ∧ 0 ≤ q.2.2.1 ∧ (∀ x ∈ q.1, 0 ≤ x.2.1 ∧ x.2.1 < x.2.2 ∧ x.2.2 ≤ (if q.2.2.2 = true then q.2.1 else q.2.2.1)) ∧ q.1.Pairwise (fun x y => x.2.2 ≤ y.2.1)
theorem o_run : ∀ (v : List Nt) (q : List Sd × Int × Int × Bool), okV v → oInv q → oInv (v.foldl sStep q) ∧ (v.foldl sStep q).1.length ≤ q.1.length + v.length := by
  intro v
  induction v with
  | nil => intro q _ h; exact ⟨h, by simp⟩
  | cons n v ih =>
    intro q hv h
    obtain ⟨h1, h2, h3⟩ := hv
    obtain ⟨t1, t2⟩ := nv_tick h1
    rw [List.foldl_cons]
    have key : oInv (sStep q n) ∧ (sStep q n).1.length ≤ q.1.length + 1 := by
      obtain ⟨S, f, t, d⟩ := q
      obtain ⟨r, s, a, o, ti, d'⟩ := n
      obtain ⟨i1, i2, i3, i4, i5⟩ := h
      have hrd := nv_rt h1
      dsimp only at i1 i2 i3 i4 i5 t1
      have hf : 0 ≤ (if d = true then f else t) ∧ (if d = true then f else t) ≤ t := by cases d <;> simp at i2 ⊢ <;> omega
      generalize hfe : (if d = true then f else t) = ff at *
      by_cases hs : (r || d') = true
      · have e : sStep (S, f, t, d) (r, s, a, o, ti, d') = (S, ff, t + ti, d') := by simp only [sStep, hs, if_true, hfe]
        rw [e]
        refine ⟨⟨hf.1, fun _ => by dsimp only; omega, by dsimp only; omega, fun x hx => ?_, i5⟩, by simp⟩
        obtain ⟨j1, j2, j3⟩ := i4 x hx
        refine ⟨j1, j2, ?_⟩
        dsimp only
        split <;> omega
      · have hr : r = false ∧ d' = false := by revert hs; cases r <;> cases d' <;> simp
        obtain ⟨rfl, rfl⟩ := hr
        have e : sStep (S, f, t, d) (false, s, a, o, ti, false) = (S ++ [((s, a, o), ff, t + ti)], ff, t + ti, false) := by simp only [sStep, Bool.or_self, Bool.false_eq_true, if_false, hfe]
        rw [e]
        refine ⟨⟨hf.1, (fun h => by cases h), by dsimp only; omega, fun x hx => ?_, ?_⟩, by simp⟩
        · dsimp only at hx ⊢
          rw [if_neg (by simp)]
          rcases List.mem_append.1 hx with hx | hx
          · obtain ⟨j1, j2, j3⟩ := i4 x hx; omega
          · rw [List.mem_singleton.1 hx]; dsimp only; omega
        · dsimp only
          refine List.pairwise_append.2 ⟨i5, List.pairwise_singleton _ _, fun x hx y hy => ?_⟩
          rw [List.mem_singleton.1 hy]
          exact (i4 x hx).2.2
    obtain ⟨k1, k2⟩ := ih _ h3 key.1
    exact ⟨k1, by simp only [List.length_cons]; omega⟩
def ticksL (v : List Nt) : Int := (sndL v).2.2.1
theorem snd_main {v : List Nt} (h : okV v) : (∀ x ∈ (sndL v).1, 0 ≤ x.2.1 ∧ x.2.1 < x.2.2 ∧ x.2.2 ≤ ticksL v) ∧ (sndL v).1.Pairwise (fun x y => x.2.2 ≤ y.2.1) ∧ (sndL v).1.length ≤ v.length := by
  obtain ⟨⟨i1, i2, i3, i4, i5⟩, i6⟩ := o_run v ([], 0, 0, false) h ⟨Int.le_refl _, (fun h => by cases h), Int.le_refl _, fun x hx => absurd hx (by simp), List.Pairwise.nil⟩
  have hl := okV_last (q := ([], 0, 0, false)) h (.inl rfl)
  rw [hl] at i4
  exact ⟨fun x hx => by simpa [ticksL, sndL] using i4 x hx, i5, by simpa [sndL] using i6⟩
abbrev Ev := Int × Int × Int × Int
def evOf (ts : List (Int × Int)) (l : Int) (x : Sd) : Ev := (timeL ts x.2.1, timeL ts x.2.2, pkL x.1, l)
def keysB (v : List Nt) : Bool := v.all fun n => n.1 || inR (pkL (n.2.1, n.2.2.1, n.2.2.2.1)) 0 107
theorem keysB_iff {v : List Nt} : keysB v = true ↔ keysV v := by
  unfold keysB keysV keyIn
  rw [List.all_eq_true]
  constructor
  · intro h n hn hr
    have := h n hn
    rw [hr, Bool.false_or] at this
    exact inR_iff.1 this
  · intro h n hn
    cases hr : n.1
    · rw [Bool.false_or]; exact inR_iff.2 (h n hn hr)
    · rfl
/-- the keys of all sounds can be played -/
theorem keys_run : ∀ (v : List Nt) (q : List Sd × Int × Int × Bool), keysV v → (∀ x ∈ q.1, keyIn (pkL x.1)) → ∀ x ∈ (v.foldl sStep q).1, keyIn (pkL x.1) := by
  intro v
  induction v with
  | nil => intro q _ h; exact h
  | cons n v ih =>
    intro q hv h
    obtain ⟨h1, h2⟩ := keysV_cons.1 hv
    rw [List.foldl_cons]
    refine ih _ h2 ?_
    intro x hx
    unfold sStep at hx
    dsimp only at hx
    split at hx
    · exact h x hx
    · rename_i hc
      rcases List.mem_append.1 hx with hx | hx
      · exact h x hx
      · rw [List.mem_singleton.1 hx]
        refine h1 ?_
        revert hc; cases n.1 <;> simp
theorem keys_main {v : List Nt} (h : keysV v) : ∀ x ∈ (sndL v).1, keyIn (pkL x.1) := keys_run v _ h (fun x hx => absurd hx (by simp))
/-- what is played of a voice -/
def perfL (v : List Nt) (ts : List (Int × Int)) (l : Int) : List Ev :=
  if vvB v = true ∧ tvB ts = true ∧ inR l 1 127 = true ∧ ticksL v ≤ 50000 ∧ keysB v = true then (sndL v).1.map (evOf ts l) else []
def qev (ts : List (Int × Int)) (g : Int) (e : Ev) : P3 := (e.2.2.1, rnd (tickL ts e.1) g, rnd (tickL ts e.2.1) g)
/-- the voice that is written for events -/
def quanL (es : List Ev) (ts : List (Int × Int)) (g : Int) : List Nt × Bool :=
  if (evB es = true ∧ tvB ts = true ∧ inR g 1 768 = true) ∧ (qL (es.map (qev ts g))).1.length ≤ 60 then ((qL (es.map (qev ts g))).1, true) else ([], false)
/-- a voice as it would be written -/
def plainL (v : List Nt) : List Nt × Bool := if vvB v = true ∧ keysB v = true then ((qL (keysL v)).1, true) else ([], false)
theorem perf_ev {v : List Nt} {ts : List (Int × Int)} {l : Int} (hv : vvB v = true) (ht : tvB ts = true) (hl : inR l 1 127 = true) (hn : ticksL v ≤ 50000) (hk : keysB v = true) : evB ((sndL v).1.map (evOf ts l)) = true := by
  obtain ⟨h1, h2, h3⟩ := snd_main (vv_okV hv)
  have h4 := keys_main (keysB_iff.1 hk)
  have h60 := (vvB_iff.1 hv).1
  refine evB_iff.2 ⟨by simp; omega, fun k hk => ?_⟩
  rw [List.length_map] at hk
  have e : glEvent ((sndL v).1.map (evOf ts l)) k = evOf ts l ((sndL v).1[k]) := by simp [glEvent, hk]
  have hm : (sndL v).1[k] ∈ (sndL v).1 := List.getElem_mem hk
  obtain ⟨a1, a2, a3⟩ := h1 _ hm
  have a4 := h4 _ hm
  rw [e]
  refine ⟨(timeL_bd ht a1).1, timeL_lt ht a1 a2, ?_, a4, inR_iff.1 hl, fun hk0 => ?_⟩
  · have b1 := (timeL_bd ht (show 0 ≤ (sndL v).1[k].2.2 by omega)).2
    show timeL ts (sndL v).1[k].2.2 ≤ 5000000000
    omega
  · have e' : glEvent ((sndL v).1.map (evOf ts l)) (k - 1) = evOf ts l ((sndL v).1[k - 1]) := by simp [glEvent, show k - 1 < (sndL v).1.length by omega]
    rw [e']
    exact timeL_mono ht (List.pairwise_iff_getElem.1 h2 (k - 1) k (by omega) hk (by omega))
theorem rnd_one (n : Int) (h : 0 ≤ n) : rnd n 1 = n := by unfold rnd; omega
theorem perf_q {v : List Nt} {ts : List (Int × Int)} {l : Int} (hv : vvB v = true) (ht : tvB ts = true) (hn : ticksL v ≤ 50000) : ((sndL v).1.map (evOf ts l)).map (qev ts 1) = keysL v := by
  obtain ⟨h1, h2, h3⟩ := snd_main (vv_okV hv)
  unfold keysL
  rw [List.map_map]
  refine List.map_congr_left fun x hx => ?_
  obtain ⟨a1, a2, a3⟩ := h1 x hx
  have e1 : tickL ts (timeL ts x.2.1) = x.2.1 := by
    have := tick_time ht (t := x.2.1.toNat) (by omega)
    rwa [show ((x.2.1.toNat : Nat) : Int) = x.2.1 by omega] at this
  have e2 : tickL ts (timeL ts x.2.2) = x.2.2 := by
    have := tick_time ht (t := x.2.2.toNat) (by omega)
    rwa [show ((x.2.2.toNat : Nat) : Int) = x.2.2 by omega] at this
  simp only [Function.comp, qev, evOf, kSd, e1, e2]
  rw [rnd_one _ a1, rnd_one _ (by omega)]
/-- what is played of a voice is written as the plain voice -/
theorem quan_perf {v : List Nt} {ts : List (Int × Int)} {l : Int} (hv : vvB v = true) (ht : tvB ts = true) (hl : inR l 1 127 = true) (hn : ticksL v ≤ 50000) (hk : keysB v = true) : quanL (perfL v ts l) ts 1 = plainL v := by
  unfold perfL plainL
  rw [if_pos ⟨hv, ht, hl, hn, hk⟩, if_pos ⟨hv, hk⟩]
  unfold quanL
  rw [perf_q hv ht hn, if_pos ⟨⟨perf_ev hv ht hl hn hk, ht, by decide⟩, Nat.le_trans (plain_len (vv_okV hv)) (vvB_iff.1 hv).1⟩]
theorem ev_keys {es : List Ev} (he : evB es = true) (ts : List (Int × Int)) (g : Int) : ∀ x ∈ es.map (qev ts g), keyIn x.1 := by
  intro x hx
  obtain ⟨e, h1, rfl⟩ := List.mem_map.1 hx
  obtain ⟨k, hk, h2⟩ := List.mem_iff_getElem.1 h1
  have := ((evB_iff.1 he).2 k hk).2.2.2.1
  rw [show glEvent es k = e by simp [glEvent, hk, h2]] at this
  exact this
/-- what is written for keys is right, and is its own plain voice -/
theorem q_right {S : List P3} (hk : ∀ x ∈ S, keyIn x.1) (hl : (qL S).1.length ≤ 60) : vvB (qL S).1 = true ∧ keysB (qL S).1 = true ∧ plainL (qL S).1 = ((qL S).1, true) ∧ (keysL (qL S).1).Sublist S := by
  obtain ⟨K, h1, a1, a2, a3, a4, a5⟩ := q_main hk
  obtain ⟨K', b1, b2, b3, b4⟩ := q_again hk
  have hv := okV_vv a1 hl
  have hb := keysB_iff.2 a3
  refine ⟨hv, hb, ?_, by rw [b2]; exact b1⟩
  unfold plainL
  rw [if_pos ⟨hv, hb⟩, b2, b3]
theorem keysL_in {v : List Nt} (h : keysV v) : ∀ x ∈ keysL v, keyIn x.1 := by
  intro x hx
  obtain ⟨y, h1, rfl⟩ := List.mem_map.1 hx
  exact keys_main h y h1
/-- a plain voice is right, and is its own plain voice -/
theorem plain_right {v : List Nt} (hv : vvB v = true) (hk : keysB v = true) : plainL v = ((qL (keysL v)).1, true) ∧ vvB (qL (keysL v)).1 = true ∧ keysB (qL (keysL v)).1 = true ∧ plainL (qL (keysL v)).1 = ((qL (keysL v)).1, true) := by
  have h1 : plainL v = ((qL (keysL v)).1, true) := if_pos ⟨hv, hk⟩
  obtain ⟨a, b, c, -⟩ := q_right (keysL_in (keysB_iff.1 hk)) (Nat.le_trans (plain_len (vv_okV hv)) (vvB_iff.1 hv).1)
  exact ⟨h1, a, b, c⟩
theorem rnd_mul (n g : Int) : rnd n g % g = 0 := by unfold rnd; exact Int.mul_emod_left _ _
/-- what is played of a written voice begins and ends at multiples -/
theorem quan_played {es : List Ev} {ts : List (Int × Int)} {g l : Int} (he : evB es = true) (ht : tvB ts = true) (hl : (qL (es.map (qev ts g))).1.length ≤ 60) :
    (perfL (qL (es.map (qev ts g))).1 ts l).length ≤ es.length ∧ ∀ e ∈ perfL (qL (es.map (qev ts g))).1 ts l, tickL ts e.1 % g = 0 ∧ tickL ts e.2.1 % g = 0 := by
  obtain ⟨a, b, c, d⟩ := q_right (ev_keys he ts g) hl
  generalize (qL (es.map (qev ts g))).1 = v at *
  unfold perfL
  split
  · rename_i hc
    obtain ⟨h1, h2, h3⟩ := snd_main (vv_okV a)
    refine ⟨?_, fun e hx => ?_⟩
    · have := d.length_le
      simp only [keysL, List.length_map] at this ⊢
      omega
    · obtain ⟨x, hx', rfl⟩ := List.mem_map.1 hx
      obtain ⟨a1, a2, a3⟩ := h1 x hx'
      have hn := hc.2.2.2.1
      have e1 : tickL ts (timeL ts x.2.1) = x.2.1 := by
        have := tick_time ht (t := x.2.1.toNat) (by omega)
        rwa [show ((x.2.1.toNat : Nat) : Int) = x.2.1 by omega] at this
      have e2 : tickL ts (timeL ts x.2.2) = x.2.2 := by
        have := tick_time ht (t := x.2.2.toNat) (by omega)
        rwa [show ((x.2.2.toNat : Nat) : Int) = x.2.2 by omega] at this
      have hm : kSd x ∈ es.map (qev ts g) := d.subset (List.mem_map_of_mem hx')
      obtain ⟨e, -, h5⟩ := List.mem_map.1 hm
      simp only [evOf, e1, e2]
      have g1 : x.2.1 = rnd (tickL ts e.1) g := (congrArg (fun p : P3 => p.2.1) h5).symm
      have g2 : x.2.2 = rnd (tickL ts e.2.1) g := (congrArg (fun p : P3 => p.2.2) h5).symm
      rw [g1, g2]
      exact ⟨rnd_mul _ _, rnd_mul _ _⟩
  · exact ⟨Nat.zero_le _, fun e h => absurd h (by simp)⟩
end Go.Proofs.YtmodpleonhniaaaGreatDoor
