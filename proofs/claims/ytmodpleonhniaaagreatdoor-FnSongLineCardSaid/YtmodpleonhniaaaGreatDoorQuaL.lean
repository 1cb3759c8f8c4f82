/- Plain laws of written voices: pieces, sounds, what is written for sounds; no program. -/
import Derived.Test.YtmodpleonhniaaaGreatDoorMrg1
namespace Go.Proofs.YtmodpleonhniaaaGreatDoor
open Go.RowKit
set_option linter.unusedSimpArgs false
set_option linter.unusedVariables false
abbrev P3 := Int × Int × Int
/-- the pieces of a note or rest with n ticks -/
def pcs (z : Bool × P3) (n : Int) : List Nt :=
  if 0 < n then List.replicate ((n - 1) / 768).toNat (z.1, z.2.1, z.2.2.1, z.2.2.2, 768, !z.1) ++ [(z.1, z.2.1, z.2.2.1, z.2.2.2, n - 768 * ((n - 1) / 768), false)] else []
theorem pcs_none {z : Bool × P3} {n : Int} (h : n ≤ 0) : pcs z n = [] := if_neg (by omega)
theorem pcs_step {z : Bool × P3} {n : Int} (h : 0 < n) : pcs z n = (z.1, z.2.1, z.2.2.1, z.2.2.2, min n 768, decide (0 < n - min n 768) && !z.1) :: pcs z (n - min n 768) := by
  by_cases hs : n ≤ 768
  · have e1 : (n - 1) / 768 = 0 := by omega
    have e2 : min n 768 = n := by omega
    have e3 : decide (0 < n - n) = false := by simp
    rw [e2, pcs_none (n := n - n) (by omega), e3]
    unfold pcs
    rw [if_pos h, e1]
    simp
  · have e2 : min n 768 = 768 := by omega
    have e3 : decide (0 < n - 768) = true := by simp; omega
    have e4 : ((n - 1) / 768).toNat = ((n - 768 - 1) / 768).toNat + 1 := by omega
    have e5 : n - 768 * ((n - 1) / 768) = n - 768 - 768 * ((n - 768 - 1) / 768) := by omega
    rw [e2, e3]
    unfold pcs
    rw [if_pos h, if_pos (by omega), e4, e5, List.replicate_succ]
    simp
theorem pcs_ind {M : Int → Prop} (h0 : ∀ n, n ≤ 0 → M n) (h1 : ∀ n, 0 < n → M (n - min n 768) → M n) (n : Int) : M n := by
  have key : ∀ k : Nat, ∀ n : Int, n.toNat ≤ k → M n := by
    intro k
    induction k with
    | zero => intro n hn; exact h0 n (by omega)
    | succ k ih =>
      intro n hn
      rcases Int.lt_or_le 0 n with h | h
      · exact h1 n h (ih _ (by omega))
      · exact h0 n h
  exact key n.toNat n (Nat.le_refl _)
theorem pcs_len (z : Bool × P3) (n : Int) (h : 0 ≤ n) : ((pcs z n).length : Int) = (n + 767) / 768 := by
  unfold pcs
  split
  · simp only [List.length_append, List.length_replicate, List.length_singleton]; omega
  · simp only [List.length_nil]; omega
/-- the half tones of a step -/
def halfL (s : Int) : Int := [0, 2, 4, 5, 7, 9, 11].getD s.toNat 0
def pkL (p : P3) : Int := 12 * p.2.2 + halfL p.1 + p.2.1
def stL (k : Int) : Int := [0, 0, 1, 1, 2, 3, 3, 4, 4, 5, 5, 6].getD (k % 12).toNat 0
def alL (k : Int) : Int := [0, 1, 0, 1, 0, 0, 1, 0, 1, 0, 1, 0].getD (k % 12).toNat 0
def spL (k : Int) : P3 := (stL k, alL k, k / 12)
theorem sp_ok {k : Int} (h0 : 0 ≤ k) (h1 : k ≤ 107) : pkL (spL k) = k ∧ pvB (stL k) (alL k) (k / 12) = true := by
  have hr : k % 12 = 0 ∨ k % 12 = 1 ∨ k % 12 = 2 ∨ k % 12 = 3 ∨ k % 12 = 4 ∨ k % 12 = 5 ∨ k % 12 = 6 ∨ k % 12 = 7 ∨ k % 12 = 8 ∨ k % 12 = 9 ∨ k % 12 = 10 ∨ k % 12 = 11 := by omega
  rw [pvB_iff]
  unfold pkL spL
  dsimp only
  unfold stL alL
  rcases hr with h | h | h | h | h | h | h | h | h | h | h | h <;> rw [h] <;> simp [halfL] <;> omega
/-- a sound: its pitch, where it begins, where it ends -/
abbrev Sd := P3 × Int × Int
def sStep (q : List Sd × Int × Int × Bool) (n : Nt) : List Sd × Int × Int × Bool :=
  (if n.1 || n.2.2.2.2.2 then q.1 else q.1 ++ [((n.2.1, n.2.2.1, n.2.2.2.1), (if q.2.2.2 then q.2.1 else q.2.2.1), q.2.2.1 + n.2.2.2.2.1)], (if q.2.2.2 then q.2.1 else q.2.2.1), q.2.2.1 + n.2.2.2.2.1, n.2.2.2.2.2)
def sndL (v : List Nt) : List Sd × Int × Int × Bool := v.foldl sStep ([], 0, 0, false)
def qStep (q : List Nt × Int) (x : P3) : List Nt × Int :=
  if x.2.1 < q.2 ∨ x.2.2 ≤ x.2.1 then q else (q.1 ++ pcs (true, 0, 0, 0) (x.2.1 - q.2) ++ pcs (false, spL x.1) (x.2.2 - x.2.1), x.2.2)
/-- what is written for keys from ticks to ticks -/
def qL (S : List P3) : List Nt × Int := S.foldl qStep ([], 0)
/-- all notes are right, and a tied one has its pitch behind it -/
def okV : List Nt → Prop
  | [] => True
  | n :: v => nvB n = true ∧ (n.2.2.2.2.2 = true → ∃ m v', v = m :: v' ∧ m.1 = false ∧ m.2.1 = n.2.1 ∧ m.2.2.1 = n.2.2.1 ∧ m.2.2.2.1 = n.2.2.2.1) ∧ okV v
theorem okV_append : ∀ {a b : List Nt}, okV a → okV b → okV (a ++ b) := by
  intro a b ha hb
  induction a with
  | nil => exact hb
  | cons n v ih =>
    obtain ⟨h1, h2, h3⟩ := ha
    refine ⟨h1, fun ht => ?_, ih h3⟩
    obtain ⟨m, v', e, h⟩ := h2 ht
    exact ⟨m, v' ++ b, by rw [e]; rfl, h⟩
theorem okV_at : ∀ {v : List Nt}, okV v → ∀ k, k < v.length → nvB (glNote v k) = true ∧ ((glNote v k).2.2.2.2.2 = true → k + 1 < v.length ∧ (glNote v (k + 1)).1 = false ∧ (glNote v (k + 1)).2.1 = (glNote v k).2.1 ∧ (glNote v (k + 1)).2.2.1 = (glNote v k).2.2.1 ∧ (glNote v (k + 1)).2.2.2.1 = (glNote v k).2.2.2.1) := by
  intro v hv
  induction v with
  | nil => intro k hk; exact absurd hk (by simp)
  | cons n v ih =>
    obtain ⟨h1, h2, h3⟩ := hv
    intro k hk
    cases k with
    | zero =>
      refine ⟨by simpa [glNote] using h1, fun ht => ?_⟩
      obtain ⟨m, v', e, h⟩ := h2 (by simpa [glNote] using ht)
      subst e
      exact ⟨by simp, by simpa [glNote] using h⟩
    | succ k =>
      have := ih h3 k (by simpa using hk)
      simpa [glNote] using this
theorem okV_vv {v : List Nt} (h : okV v) (hl : v.length ≤ 60) : vvB v = true := vvB_iff.2 ⟨hl, okV_at h⟩
theorem vv_okV {v : List Nt} (h : vvB v = true) : okV v := by
  have key : ∀ u : List Nt, (∀ k, k < u.length → nvB (glNote u k) = true ∧ ((glNote u k).2.2.2.2.2 = true → k + 1 < u.length ∧ (glNote u (k + 1)).1 = false ∧ (glNote u (k + 1)).2.1 = (glNote u k).2.1 ∧ (glNote u (k + 1)).2.2.1 = (glNote u k).2.2.1 ∧ (glNote u (k + 1)).2.2.2.1 = (glNote u k).2.2.2.1)) → okV u := by
    intro u
    induction u with
    | nil => intro _; trivial
    | cons n u ih =>
      intro hu
      have h0 := hu 0 (by simp)
      refine ⟨by simpa [glNote] using h0.1, fun ht => ?_, ih fun k hk => ?_⟩
      · obtain ⟨h2, h3⟩ := h0.2 (by simpa [glNote] using ht)
        cases u with
        | nil => simp at h2
        | cons m u' => exact ⟨m, u', rfl, by simpa [glNote] using h3⟩
      · have := hu (k + 1) (by simpa using hk)
        simpa [glNote] using this
  exact key v (vvB_iff.1 h).2
theorem nv_tick {n : Nt} (h : nvB n = true) : 1 ≤ n.2.2.2.2.1 ∧ n.2.2.2.2.1 ≤ 768 := by
  unfold nvB at h
  rw [Bool.and_eq_true] at h
  exact inR_iff.1 h.1
theorem pcs_ok {z : Bool × P3} (hz : ∀ t d, 1 ≤ t → t ≤ 768 → (d = true → z.1 = false) → nvB (z.1, z.2.1, z.2.2.1, z.2.2.2, t, d) = true) (n : Int) : okV (pcs z n) := by
  refine pcs_ind (M := fun n => okV (pcs z n)) (fun n h => by rw [pcs_none h]; trivial) (fun n h ih => ?_) n
  rw [pcs_step h]
  refine ⟨hz _ _ (by omega) (by omega) fun hd => ?_, fun hd => ?_, ih⟩
  · revert hd; cases z.1 <;> simp
  · have h2 : 0 < n - min n 768 ∧ z.1 = false := by simpa using hd
    refine ⟨_, _, pcs_step h2.1, h2.2, rfl, rfl, rfl⟩
theorem rest_ok (n : Int) : okV (pcs (true, 0, 0, 0) n) := pcs_ok (fun t d h1 h2 h3 => by
  have hd : d = false := by cases d; rfl; exact absurd (h3 rfl) (by simp)
  subst hd
  unfold nvB
  simp [inR_iff, h1, h2]) n
theorem tone_ok {k : Int} (h0 : 0 ≤ k) (h1 : k ≤ 107) (n : Int) : okV (pcs (false, spL k) n) := pcs_ok (fun t d h2 h3 h4 => by
  have := (sp_ok h0 h1).2
  unfold nvB
  simp [inR_iff, h2, h3, spL, this]) n
theorem snd_rest (a b c : Int) (n : Int) (hn : 0 ≤ n) (S : List Sd) (f t : Int) : ∃ f', (pcs (true, a, b, c) n).foldl sStep (S, f, t, false) = (S, f', t + n, false) := by
  revert f t
  revert hn
  refine pcs_ind (M := fun n => 0 ≤ n → ∀ f t, ∃ f', (pcs (true, a, b, c) n).foldl sStep (S, f, t, false) = (S, f', t + n, false)) (fun n h hn f t => ?_) (fun n h ih hn f t => ?_) n
  · obtain rfl : n = 0 := by omega
    rw [pcs_none (by omega)]; exact ⟨f, by simp⟩
  · rw [pcs_step h]
    obtain ⟨f', e⟩ := ih (by omega) t (t + min n 768)
    refine ⟨f', ?_⟩
    rw [List.foldl_cons]
    simp only [sStep, Bool.not_true, Bool.and_false, Bool.or_false, if_true, Bool.false_eq_true, if_false, Bool.true_or]
    rw [e]
    simp only [Prod.mk.injEq, true_and, and_true]
    omega
theorem snd_tone (p : P3) (n : Int) (hn : 0 < n) (S : List Sd) (f t : Int) (d : Bool) : (pcs (false, p) n).foldl sStep (S, f, t, d) = (S ++ [(p, (if d then f else t), t + n)], (if d then f else t), t + n, false) := by
  revert f t d hn
  refine pcs_ind (M := fun n => 0 < n → ∀ f t d, (pcs (false, p) n).foldl sStep (S, f, t, d) = (S ++ [(p, (if d then f else t), t + n)], (if d then f else t), t + n, false)) (fun n h hn f t => by omega) (fun n h ih hn f t d => ?_) n
  rw [pcs_step h, List.foldl_cons]
  by_cases hc : 0 < n - min n 768
  · have := ih hc (if d then f else t) (t + min n 768) true
    simp only [sStep, decide_eq_true hc, Bool.not_false, Bool.and_true, Bool.or_true, if_true]
    rw [this]
    simp only [if_true, Prod.mk.injEq, true_and, and_true]
    rw [show t + min n 768 + (n - min n 768) = t + n by omega]
    exact ⟨rfl, rfl⟩
  · rw [pcs_none (by omega)]
    have hm : min n 768 = n := by omega
    have hd : decide (0 < n - n) = false := by simp
    rw [hm, hd]
    simp [sStep]
def kSd (x : Sd) : P3 := (pkL x.1, x.2.1, x.2.2)
def sKey (x : P3) : Sd := (spL x.1, x.2.1, x.2.2)
def keyIn (k : Int) : Prop := 0 ≤ k ∧ k ≤ 107
theorem kSd_sKey {K : List P3} (h : ∀ x ∈ K, keyIn x.1) : (K.map sKey).map kSd = K := by
  induction K with
  | nil => rfl
  | cons x K ih =>
    simp only [List.map_cons]
    rw [ih fun y hy => h y (List.mem_cons_of_mem _ hy)]
    have hx := h x (List.mem_cons_self ..)
    simp only [kSd, sKey, (sp_ok hx.1 hx.2).1]
theorem pcs_mem {z : Bool × P3} {n : Int} : ∀ x ∈ pcs z n, x.1 = z.1 ∧ x.2.1 = z.2.1 ∧ x.2.2.1 = z.2.2.1 ∧ x.2.2.2.1 = z.2.2.2 := by
  intro x hx
  unfold pcs at hx
  split at hx
  · rw [List.mem_append] at hx
    rcases hx with hx | hx
    · rw [(List.mem_replicate.1 hx).2]; exact ⟨rfl, rfl, rfl, rfl⟩
    · rw [List.mem_singleton.1 hx]; exact ⟨rfl, rfl, rfl, rfl⟩
  · exact absurd hx (by simp)
/-- all keys of a voice can be played -/
def keysV (v : List Nt) : Prop := ∀ n ∈ v, n.1 = false → keyIn (pkL (n.2.1, n.2.2.1, n.2.2.2.1))
def qInv (K : List P3) (q : List Nt × Int) : Prop :=
  okV q.1 ∧ 0 ≤ q.2 ∧ keysV q.1 ∧ (∃ f, q.1.foldl sStep ([], 0, 0, false) = (K.map sKey, f, q.2, false)) ∧ qL K = q
theorem q_run : ∀ (S K0 : List P3) (q0 : List Nt × Int), (∀ x ∈ S, keyIn x.1) → qInv K0 q0 → ∃ K, K.Sublist S ∧ qInv (K0 ++ K) (S.foldl qStep q0) := by
  intro S
  induction S with
  | nil => intro K0 q0 _ h; exact ⟨[], List.Sublist.refl _, by simpa using h⟩
  | cons x S ih =>
    intro K0 q0 hk h
    have hx := hk x (List.mem_cons_self ..)
    have hS := fun y hy => hk y (List.mem_cons_of_mem x hy)
    rw [List.foldl_cons]
    by_cases hc : x.2.1 < q0.2 ∨ x.2.2 ≤ x.2.1
    · obtain ⟨K, h1, h2⟩ := ih K0 (qStep q0 x) hS (by rw [qStep, if_pos hc]; exact h)
      exact ⟨K, h1.cons _, h2⟩
    · obtain ⟨a1, a2, a3, ⟨f, a4⟩, a5⟩ := h
      obtain ⟨K, h1, h2⟩ := ih (K0 ++ [x]) (qStep q0 x) hS (by
        have e : qStep q0 x = (q0.1 ++ pcs (true, 0, 0, 0) (x.2.1 - q0.2) ++ pcs (false, spL x.1) (x.2.2 - x.2.1), x.2.2) := if_neg hc
        refine ⟨?_, ?_, ?_, ?_, ?_⟩
        · rw [e]; exact okV_append (okV_append a1 (rest_ok _)) (tone_ok hx.1 hx.2 _)
        · rw [e]; show 0 ≤ x.2.2; omega
        · rw [e]
          intro n hn hr
          rcases List.mem_append.1 hn with hn | hn
          · rcases List.mem_append.1 hn with hn | hn
            · exact a3 n hn hr
            · rw [(pcs_mem n hn).1] at hr; cases hr
          · obtain ⟨-, b1, b2, b3⟩ := pcs_mem n hn
            rw [b1, b2, b3]
            show keyIn (pkL (spL x.1))
            rw [(sp_ok hx.1 hx.2).1]; exact hx
        · rw [e]
          obtain ⟨f', ef⟩ := snd_rest 0 0 0 (x.2.1 - q0.2) (by omega) (K0.map sKey) f q0.2
          refine ⟨x.2.1, ?_⟩
          rw [List.foldl_append, List.foldl_append, a4, ef, snd_tone _ _ (by omega)]
          simp only [Bool.false_eq_true, if_false, List.map_append, List.map_cons, List.map_nil, Prod.mk.injEq, and_true, sKey]
          have e1 : q0.2 + (x.2.1 - q0.2) = x.2.1 := by omega
          have e2 : x.2.1 + (x.2.2 - x.2.1) = x.2.2 := by omega
          rw [e1, e2]
          exact ⟨rfl, rfl, rfl⟩
        · unfold qL; rw [List.foldl_append]; show qStep (qL K0) x = _; rw [a5])
      refine ⟨x :: K, h1.cons_cons _, ?_⟩
      rw [List.append_assoc] at h2
      exact h2
/-- what is written, its sounds, and what is written for them -/
theorem q_main {S : List P3} (hk : ∀ x ∈ S, keyIn x.1) : ∃ K, K.Sublist S ∧ qInv K (qL S) := by
  obtain ⟨K, h1, h2⟩ := q_run S [] ([], 0) hk ⟨trivial, Int.le_refl _, fun _ h => absurd h (by simp), ⟨0, rfl⟩, rfl⟩
  exact ⟨K, h1, by rw [List.nil_append] at h2; exact h2⟩
/-- the keys of a voice's sounds -/
def keysL (v : List Nt) : List P3 := (sndL v).1.map kSd
theorem q_again {S : List P3} (hk : ∀ x ∈ S, keyIn x.1) : ∃ K, K.Sublist S ∧ keysL (qL S).1 = K ∧ qL K = qL S ∧ (sndL (qL S).1).2.2.1 = (qL S).2 := by
  obtain ⟨K, h1, a1, a2, a3, ⟨f, a4⟩, a5⟩ := q_main hk
  have e : sndL (qL S).1 = (K.map sKey, f, (qL S).2, false) := a4
  refine ⟨K, h1, ?_, a5, by rw [e]⟩
  unfold keysL
  rw [e]
  exact kSd_sKey fun x hx => hk x (h1.subset hx)
/-- sounds are in order, and what is written for a voice is not longer than it -/
def pInv (k : Nat) (q : List Sd × Int × Int × Bool) : Prop :=
  let w := qL (q.1.map kSd)
  if q.2.2.2 = true then w.2 ≤ q.2.1 ∧ q.2.1 < q.2.2.1 ∧ (w.1.length : Int) + (q.2.1 - w.2 + 767) / 768 + (q.2.2.1 - q.2.1 + 767) / 768 ≤ k
  else w.2 ≤ q.2.2.1 ∧ (w.1.length : Int) + (q.2.2.1 - w.2 + 767) / 768 ≤ k
theorem qL_snoc (S : List P3) (x : P3) : qL (S ++ [x]) = qStep (qL S) x := by unfold qL; rw [List.foldl_append]; rfl
theorem p_end {S : List Sd} {p : P3} {f t : Int} (h1 : (qL (S.map kSd)).2 ≤ f) (h2 : f < t) :
    (qL ((S ++ [(p, f, t)]).map kSd)).2 = t ∧ ((qL ((S ++ [(p, f, t)]).map kSd)).1.length : Int) = ((qL (S.map kSd)).1.length : Int) + (f - (qL (S.map kSd)).2 + 767) / 768 + (t - f + 767) / 768 := by
  rw [List.map_append, List.map_cons, List.map_nil, qL_snoc]
  generalize hq : qL (S.map kSd) = q at *
  have hx : ¬ ((kSd (p, f, t)).2.1 < q.2 ∨ (kSd (p, f, t)).2.2 ≤ (kSd (p, f, t)).2.1) := by show ¬ (f < q.2 ∨ t ≤ f); omega
  rw [qStep, if_neg hx]
  refine ⟨rfl, ?_⟩
  simp only [List.length_append, Int.natCast_add]
  rw [pcs_len _ _ (by show 0 ≤ f - q.2; omega), pcs_len _ _ (by show 0 ≤ t - f; omega)]
  rfl
theorem p_run : ∀ (v : List Nt) (k : Nat) (q : List Sd × Int × Int × Bool), okV v → (q.2.2.2 = true → ∃ m v', v = m :: v' ∧ m.1 = false) → pInv k q → pInv (k + v.length) (v.foldl sStep q) := by
  intro v
  induction v with
  | nil => intro k q _ _ h; exact h
  | cons n v ih =>
    intro k q hv hp h
    obtain ⟨h1, h2, h3⟩ := hv
    obtain ⟨t1, t2⟩ := nv_tick h1
    rw [List.foldl_cons]
    have e : k + (n :: v).length = (k + 1) + v.length := by simp only [List.length_cons]; omega
    rw [e]
    refine ih (k + 1) (sStep q n) h3 (fun hd => ?_) ?_
    · obtain ⟨m, v', e1, e2, -⟩ := h2 hd
      exact ⟨m, v', e1, e2⟩
    · obtain ⟨S, f, t, d⟩ := q
      obtain ⟨r, s, a, o, ti, d'⟩ := n
      have hrd : r = true → d' = false := by
        intro hr
        cases d'
        · rfl
        · unfold nvB at h1; rw [hr] at h1; simp at h1
      have hdr : d = true → r = false := by
        intro hd
        obtain ⟨m, v', e1, e2⟩ := hp hd
        injection e1 with e1 _
        rw [← e1] at e2; exact e2
      simp only [pInv, sStep] at h t1 t2 ⊢
      cases d <;> cases d' <;> cases r <;> simp only [Bool.false_eq_true, if_true, if_false, Bool.or_true, Bool.or_false, Bool.true_or, Bool.or_self] at h hrd hdr ⊢ <;> first
        | (exfalso; revert hrd; simp; done)
        | (exfalso; revert hdr; simp; done)
        | (obtain ⟨g1, g2⟩ := h; obtain ⟨e1, e2⟩ := p_end (S := S) (p := (s, a, o)) (f := t) (t := t + ti) g1 (by omega); rw [e1, e2]; omega)
        | (obtain ⟨g1, g0, g2⟩ := h; obtain ⟨e1, e2⟩ := p_end (S := S) (p := (s, a, o)) (f := f) (t := t + ti) g1 (by omega); rw [e1, e2]; omega)
        | omega
theorem plain_len {v : List Nt} (h : okV v) : (qL (keysL v)).1.length ≤ v.length := by
  have := p_run v 0 ([], 0, 0, false) h (fun h => by cases h) ⟨Int.le_refl _, by decide⟩
  have hq : pInv (0 + v.length) (sndL v) := this
  unfold pInv at hq
  unfold keysL
  generalize sndL v = q at *
  obtain ⟨S, f, t, d⟩ := q
  show (qL (S.map kSd)).1.length ≤ v.length
  cases d <;> simp only [Bool.false_eq_true, if_true, if_false] at hq <;> omega
end Go.Proofs.YtmodpleonhniaaaGreatDoor
