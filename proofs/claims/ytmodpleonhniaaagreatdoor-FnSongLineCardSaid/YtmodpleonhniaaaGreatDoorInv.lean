/- A region that draws its order, by an invariant: each operation is shown once, out of what the operations say on which it waits, whatever the order. No program of its own. -/
import Derived.Test.YtmodpleonhniaaaGreatDoorMrg1
import Derived.OrdersHeld
namespace Go.Proofs.YtmodpleonhniaaaGreatDoor
set_option linter.unusedVariables false
open Go.RowKit

/-! A frame as a function. -/
def fr (n : Nat) (f : Nat → Value) : Array Value := ((List.range n).map f).toArray
def upd (f : Nat → Value) (d : Nat) (v : Value) : Nat → Value := fun s => if s = d then v else f s
theorem fr_set (n d : Nat) (f : Nat → Value) (v : Value) : (fr n f).setIfInBounds d v = fr n (upd f d v) := by
  apply Array.ext
  · simp [fr]
  · intro i h1 h2
    simp only [fr, List.setIfInBounds_toArray, List.getElem_toArray, List.getElem_set, List.getElem_map, List.getElem_range, upd]
    by_cases e : d = i
    · subst e; simp
    · rw [if_neg e, if_neg (Ne.symm e)]
theorem fr_get {n s : Nat} (f : Nat → Value) (h : s < n) : (fr n f).getD s undef = f s := by
  rw [Array.getD_eq_getD_getElem?]; simp [fr, h]
theorem fr_put (n : Nat) (f : Nat → Value) (ds : List Deferred) (d : Nat) (v : Value) : (⟨fr n f, ds⟩ : Act).put (some d) v = ⟨fr n (upd f d v), ds⟩ := by
  simp only [Act.put, fr_set]
theorem upd_same (f : Nat → Value) (d : Nat) (v : Value) : upd f d v d = v := by simp [upd]
theorem upd_other (f : Nat → Value) {d s : Nat} (v : Value) (h : s ≠ d) : upd f d v s = f s := by simp [upd, h]

/-- what operation i says, of its slot (D: the slots) -/
def heldD (D : List (Option Nat)) (G : Nat → Value → World → Prop) (i : Nat) (f : Nat → Value) (w : World) : Prop :=
  match D.getD i none with | some d => G i (f d) w | none => ∃ v, G i v w
def Deps (H : Nat → Prop) : List Edge → Prop
  | [] => True
  | e :: r => (Region.binds .any e = true → H e.on) ∧ Deps H r
def AllI (T : Nat → Oper → Prop) : Nat → List Oper → Prop
  | _, [] => True
  | k, o :: r => T k o ∧ AllI T (k + 1) r
theorem AllI.get {T : Nat → Oper → Prop} : ∀ (l : List Oper) (k i : Nat) (o : Oper), AllI T k l → l[i]? = some o → T (k + i) o
  | [], _, _, _, _, h => by simp at h
  | p :: r, k, 0, o, h, e => by simp at e; subst e; exact h.1
  | p :: r, k, i + 1, o, h, e => by
    have := AllI.get r (k + 1) i o h.2 (by simpa using e)
    rwa [show k + 1 + i = k + (i + 1) by omega] at this
theorem Deps.mk {H : Nat → Prop} : ∀ (l : List Edge), (∀ e ∈ l, Region.binds .any e = true → H e.on) → Deps H l
  | [], _ => trivial
  | e :: r, h => ⟨h e List.mem_cons_self, Deps.mk r fun x hx => h x (List.mem_cons_of_mem _ hx)⟩
/-- one operation -/
def StepI (P : Program) (n : Nat) (ds : List Deferred) (R : World → World → Prop) (J : World → Prop) (Gi : Value → World → Prop) (f : Nat → Value) (w : World) (o : Oper) : Prop :=
  ∀ (K : Act → World → Prop) (Q : Exit → Act → World → Prop), (∀ v w', R w w' → J w' → Gi v w' → K ((⟨fr n f, ds⟩ : Act).put o.dst v) w') → o.wp P ⟨fr n f, ds⟩ w K Q

/-- one operation, wanted or not -/
def StepX (P : Program) (ops : Array Oper) (n : Nat) (ds : List Deferred) (R : World → World → Prop) (J : World → Prop) (Gi : Value → World → Prop) (f : Nat → Value) (w : World) (o : Oper) : Prop :=
  (Region.wanted o (yielded ops (fr n f)) = true ∧ StepI P n ds R J Gi f w o) ∨ (Region.wanted o (yielded ops (fr n f)) = false ∧ R w w ∧ J w ∧ Gi undef w)
theorem wanted_none {ops : Array Oper} {t : Array Value} {o : Oper} (h : o.guard = none) : Region.wanted o (yielded ops t) = true := by simp [Region.wanted, h]
theorem wanted_by {ops : Array Oper} {n j d : Nat} {b want : Bool} {f : Nat → Value} {o : Oper} (h : o.guard = some (j, want)) (hd : (ops[j]?).bind (·.dst) = some d) (hn : d < n) (hf : f d = .bool b) :
    Region.wanted o (yielded ops (fr n f)) = (b == want) := by
  have e : (fr n f)[d]? = some (f d) := by simp [fr, hn]
  simp only [Region.wanted, h, yielded, hd, Option.bind_some, e, hf]
  cases b <;> cases want <;> rfl
theorem wanted_on {ops : Array Oper} {n j d : Nat} {b want : Bool} {f : Nat → Value} {o : Oper} (hf : f d = .bool b) (hn : d < n) (hbw : (b == want) = true) (h : o.guard = some (j, want)) (hd : (ops[j]?).bind (·.dst) = some d) :
    Region.wanted o (yielded ops (fr n f)) = true := (wanted_by h hd hn hf).trans hbw
theorem wanted_off {ops : Array Oper} {n j d : Nat} {b want : Bool} {f : Nat → Value} {o : Oper} (hf : f d = .bool b) (hn : d < n) (hbw : (b == want) = false) (h : o.guard = some (j, want)) (hd : (ops[j]?).bind (·.dst) = some d) :
    Region.wanted o (yielded ops (fr n f)) = false := (wanted_by h hd hn hf).trans hbw
theorem wanted_undef {ops : Array Oper} {n j d : Nat} {want : Bool} {f : Nat → Value} {o : Oper} (hf : f d = undef) (hn : d < n) (h : o.guard = some (j, want)) (hd : (ops[j]?).bind (·.dst) = some d) :
    Region.wanted o (yielded ops (fr n f)) = false := by
  have e : (fr n f)[d]? = some (f d) := by simp [fr, hn]
  simp only [Region.wanted, h, yielded, hd, Option.bind_some, e, hf]
  rfl
/-- edges point back; the slots are D, each once -/
def okI (ops : List Oper) (D : List (Option Nat)) : Bool :=
  decide (ops.map (·.dst) = D) && decide ((D.filterMap id).Nodup) &&
  (ops.zipIdx.all fun p => p.1.after.toList.all fun e => !Region.binds .any e || decide (e.on < p.2))

theorem count_set_false {l : List Bool} {i : Nat} (h : l[i]? = some false) : (l.set i true).count false + 1 = l.count false := by
  induction l generalizing i with
  | nil => simp at h
  | cons b r ih =>
    cases i with
    | zero => simp at h; subst h; simp
    | succ i =>
      simp at h
      have := ih h
      rw [List.set_cons_succ, List.count_cons, List.count_cons]
      omega
theorem count_zero_all {l : List Bool} (h : l.count false = 0) (i : Nat) (hi : i < l.length) : l[i] = true := by
  have := List.count_eq_zero.1 h
  cases e : l[i] with
  | true => rfl
  | false => exact absurd (e ▸ List.getElem_mem hi) this
theorem least_un {l : List Bool} (h : 0 < l.count false) : ∃ i : Nat, l[i]? = some false ∧ ∀ j : Nat, j < i → l[j]? = some true := by
  induction l with
  | nil => simp at h
  | cons b r ih =>
    cases b with
    | false => exact ⟨0, rfl, fun j hj => by omega⟩
    | true =>
      obtain ⟨i, h1, h2⟩ := ih (by simpa using h)
      refine ⟨i + 1, by simpa using h1, fun j hj => ?_⟩
      cases j with
      | zero => rfl
      | succ j => simpa using h2 j (by omega)

def edgeB (ops : List Oper) (j i : Nat) : Bool := match ops[j]? with | some o => o.after.toList.any fun e => Region.binds .any e && e.on == i | none => false
def pathB (ops : List Oper) : Nat → List Nat → Bool
  | _, [] => true
  | j, i :: r => edgeB ops j i && pathB ops i r
theorem path_listed {ops : Array Oper} {listed : Array Bool} (hc : ∀ i o e, ops[i]? = some o → e ∈ o.after → Region.binds .any e = true → listed.getD i false = true → listed.getD e.on false = true) :
    ∀ (p : List Nat) (j i : Nat), listed.getD j false = true → pathB ops.toList j (p ++ [i]) = true → listed.getD i false = true := by
  have one : ∀ j i, listed.getD j false = true → edgeB ops.toList j i = true → listed.getD i false = true := fun j i hj he => by
    unfold edgeB at he
    cases ho : ops.toList[j]? with
    | none => rw [ho] at he; cases he
    | some o =>
      rw [ho] at he
      obtain ⟨e, h1, h2⟩ := List.any_eq_true.1 he
      simp only [Bool.and_eq_true, beq_iff_eq] at h2
      rw [← h2.2]
      exact hc j o e (by rw [← Array.getElem?_toList]; exact ho) (by simpa using h1) h2.1 hj
  intro p
  induction p with
  | nil => intro j i hj hp; simp [pathB] at hp; exact one j i hj hp
  | cons y r ih =>
    intro j i hj hp
    rw [List.cons_append, pathB, Bool.and_eq_true] at hp
    exact ih y i (one j y hj hp.1) hp.2

section
variable {P : Program} {Q : Exit → Act → World → Prop} {n : Nat} {ds : List Deferred} {R : Nat → World → World → Prop} {J : Nat → Bool → World → Prop} {G : Nat → Value → World → Prop} {si : Nat} {D : List (Option Nat)} {f0 : Nat → Value}

theorem dst_once {i j d : Nat} (hn : (D.filterMap id).Nodup) (hi : D[i]? = some (some d)) (hj : D[j]? = some (some d)) : i = j := by
  induction D generalizing i j with
  | nil => simp at hi
  | cons x r ih =>
    have tail : ∀ (k : Nat), r[k]? = some (some d) → d ∈ r.filterMap id := fun k hk =>
      List.mem_filterMap.2 ⟨some d, List.mem_of_getElem? hk, rfl⟩
    cases x with
    | none =>
      have hn' : (r.filterMap id).Nodup := by simpa using hn
      cases i with
      | zero => simp at hi
      | succ i => cases j with
        | zero => simp at hj
        | succ j => exact congrArg (· + 1) (ih hn' (by simpa using hi) (by simpa using hj))
    | some y =>
      have hn' : y ∉ r.filterMap id ∧ (r.filterMap id).Nodup := by simpa using hn
      cases i with
      | zero => cases j with
        | zero => rfl
        | succ j =>
          have e : y = d := by simpa using hi
          subst e
          exact absurd (tail j (by simpa using hj)) hn'.1
      | succ i => cases j with
        | zero =>
          have e : y = d := by simpa using hj
          subst e
          exact absurd (tail i (by simpa using hi)) hn'.1
        | succ j => exact congrArg (· + 1) (ih hn'.2 (by simpa using hi) (by simpa using hj))

theorem wpAny_inv {ops : Array Oper} (hok : okI ops.toList D = true)
    (hG : ∀ j i v w w', j ≠ i → G j v w → R i w w' → G j v w')
    (hstep : AllI (fun i o => ∀ k b f w, k < ops.size → (∀ s, some s ∉ D → f s = f0 s) → Deps (fun j => heldD D G j f w) o.after.toList → (∀ p, pathB ops.toList si (p ++ [i]) = true → b = false) → (∀ p, pathB ops.toList i (p ++ [si]) = true → b = true) → J k b w → StepX P ops n ds (R i) (J (k + 1) (b || decide (i = si))) (G i) f w o) 0 ops.toList)
    (hend : ∀ f w, (∀ s, some s ∉ D → f s = f0 s) → (∀ i, i < ops.size → heldD D G i f w) → J ops.size (decide (si < ops.size)) w → Q .normal ⟨fr n f, ds⟩ w) :
    ∀ (fuel : Nat) (listed : Array Bool) (f : Nat → Value) (w : World), listed.size = ops.size → listed.toList.count false = fuel → fuel ≤ ops.size →
      (∀ s, some s ∉ D → f s = f0 s) → (∀ i, listed.getD i false = true → heldD D G i f w) → (∀ i o e, ops[i]? = some o → e ∈ o.after → Region.binds .any e = true → listed.getD i false = true → listed.getD e.on false = true) → J (ops.size - fuel) (listed.getD si false) w → wpAny P .any ops Q fuel listed ⟨fr n f, ds⟩ w := by
  simp only [okI, Bool.and_eq_true, decide_eq_true_eq, List.all_eq_true] at hok
  obtain ⟨⟨hD, hnd⟩, hbk⟩ := hok
  have dlen : D.length = ops.size := by rw [← hD]; simp
  intro fuel
  induction fuel with
  | zero =>
    intro listed f w hsz hc _ hf hl _ hJ
    have hall : ∀ i, i < ops.size → listed.getD i false = true := fun i hi => by
      have h1 := count_zero_all hc i (by simp; omega)
      rw [Array.getD_eq_getD_getElem?, Array.getElem?_eq_getElem (by omega)]
      simpa using h1
    have hsi : listed.getD si false = decide (si < ops.size) := by
      by_cases h : si < ops.size
      · rw [hall si h]; simp [h]
      · rw [Array.getD_eq_getD_getElem?, Array.getElem?_eq_none (by omega)]; simp [h]
    rw [hsi] at hJ
    refine ⟨?_, hend f w hf (fun i hi => hl i (hall i hi)) (by simpa using hJ)⟩
    cases hr : Region.ready .any ops listed with
    | nil => rfl
    | cons x xs =>
      obtain ⟨h1, o, h2, _⟩ := mem_ready.1 (show x ∈ Region.ready .any ops listed by rw [hr]; exact List.mem_cons_self)
      have hx : x < ops.size := by
        rcases Nat.lt_or_ge x ops.size with h | h
        · exact h
        · rw [Array.getElem?_eq_none h] at h2; cases h2
      have := hall x hx
      rw [Array.getD_eq_getD_getElem?, Array.getElem?_eq_getElem (by omega)] at this h1
      simp at this h1
      rw [this] at h1; cases h1
  | succ fuel ih =>
    intro listed f w hsz hc hfs hf hl hcl hJ
    have hne : Region.ready .any ops listed ≠ [] := by
      obtain ⟨i, h1, h2⟩ := least_un (l := listed.toList) (by omega)
      have hi : i < ops.size := by
        rcases Nat.lt_or_ge i listed.toList.length with h | h
        · simpa [hsz] using h
        · rw [List.getElem?_eq_none h] at h1; cases h1
      have : i ∈ Region.ready .any ops listed := by
        refine mem_ready.2 ⟨?_, ops[i], Array.getElem?_eq_getElem hi, fun e he hb => ?_⟩
        · rw [Array.getD_eq_getD_getElem?, ← Array.getElem?_toList, h1]; rfl
        · have hlt : e.on < i := by
            have := hbk (ops[i], i) (by
              rw [List.mem_zipIdx_iff_getElem?]
              simp) e (by simpa using he)
            rw [hb] at this
            simpa using this
          rw [Array.getD_eq_getD_getElem?, ← Array.getElem?_toList, h2 _ hlt]; rfl
      intro h0; rw [h0] at this; cases this
    refine ⟨fun h => absurd h hne, fun i hi => ?_⟩
    obtain ⟨hun, o, ho, hdep⟩ := mem_ready.1 hi
    have hi2 : i < ops.size := by
      rcases Nat.lt_or_ge i ops.size with h | h
      · exact h
      · rw [Array.getElem?_eq_none h] at ho; cases ho
    have hoD : D[i]? = some o.dst := by rw [← hD, List.getElem?_map, Array.getElem?_toList, ho]; rfl
    have hT := AllI.get _ _ _ _ hstep (show ops.toList[i]? = some o by rw [Array.getElem?_toList]; exact ho)
    rw [Nat.zero_add] at hT
    have hs := hT (ops.size - (fuel + 1)) (listed.getD si false) f w (by omega) hf (Deps.mk _ fun e he hb => hl _ (hdep e (by simpa using he) hb)) (fun p hp => by
      cases hb : listed.getD si false with
      | false => rfl
      | true =>
        have h1 := path_listed hcl p si i hb hp
        rw [Array.getD_eq_getD_getElem?, Array.getElem?_eq_getElem (by omega)] at h1 hun
        simp at h1 hun
        rw [h1] at hun; cases hun) (fun p hp => by
      have first : ∀ y r, pathB ops.toList i (y :: r) = true → listed.getD y false = true := fun y r hy => by
        rw [pathB, Bool.and_eq_true] at hy
        have he := hy.1
        unfold edgeB at he
        rw [show ops.toList[i]? = some o by rw [Array.getElem?_toList]; exact ho] at he
        obtain ⟨e, h1, h2⟩ := List.any_eq_true.1 he
        simp only [Bool.and_eq_true, beq_iff_eq] at h2
        rw [← h2.2]
        exact hdep e (by simpa using h1) h2.1
      cases p with
      | nil => exact first si [] hp
      | cons y r =>
        have h1 := first y (r ++ [si]) hp
        rw [List.cons_append, pathB, Bool.and_eq_true] at hp
        exact path_listed hcl r y si h1 hp.2) hJ
    unfold wpOp
    simp only [ho]
    suffices hnext : ∀ v w', R i w w' → J (ops.size - (fuel + 1) + 1) (listed.getD si false || decide (i = si)) w' → G i v w' → wpAny P .any ops Q fuel (listed.setIfInBounds i true) ((⟨fr n f, ds⟩ : Act).put o.dst v) w' by
      rcases hs with ⟨hw, hs⟩ | ⟨hw, hR0, hJ0, hG0⟩
      · rw [if_pos hw]
        exact .inl (hs _ _ hnext)
      · rw [if_neg (by rw [hw]; simp)]
        exact hnext _ _ hR0 hJ0 hG0
    intro v w' hR hJ' hGi
    have hk : ops.size - (fuel + 1) + 1 = ops.size - fuel := by omega
    rw [hk] at hJ'
    have hsi : (listed.setIfInBounds i true).getD si false = (listed.getD si false || decide (i = si)) := by
      by_cases e : i = si
      · subst e
        rw [Array.getD_eq_getD_getElem?, Array.getElem?_setIfInBounds_self_of_lt (by omega)]; simp
      · rw [Array.getD_eq_getD_getElem?, Array.getElem?_setIfInBounds_ne e, Array.getD_eq_getD_getElem?]; simp [e]
    rw [← hsi] at hJ'
    have hun2 : listed.toList[i]? = some false := by
      rw [Array.getElem?_toList, Array.getElem?_eq_getElem (by omega)]
      rw [Array.getD_eq_getD_getElem?, Array.getElem?_eq_getElem (by omega)] at hun
      simpa using hun
    have hcnt : (listed.setIfInBounds i true).toList.count false = fuel := by
      have := count_set_false hun2
      rw [Array.toList_setIfInBounds]; omega
    have hlj : ∀ j, (listed.setIfInBounds i true).getD j false = true → j = i ∨ (j ≠ i ∧ listed.getD j false = true) := fun j hj => by
      by_cases e : j = i
      · exact .inl e
      · refine .inr ⟨e, ?_⟩
        rw [Array.getD_eq_getD_getElem?, Array.getElem?_setIfInBounds_ne (Ne.symm e)] at hj
        rw [Array.getD_eq_getD_getElem?]; exact hj
    have hcl2 : ∀ j o e, ops[j]? = some o → e ∈ o.after → Region.binds .any e = true → (listed.setIfInBounds i true).getD j false = true → (listed.setIfInBounds i true).getD e.on false = true := by
      intro j o2 e ho2 he hb hj
      have up : ∀ y, listed.getD y false = true → (listed.setIfInBounds i true).getD y false = true := fun y hy => by
        by_cases e : i = y
        · subst e; rw [Array.getD_eq_getD_getElem?, Array.getElem?_setIfInBounds_self_of_lt (by omega)]; rfl
        · rw [Array.getD_eq_getD_getElem?, Array.getElem?_setIfInBounds_ne e]; rw [Array.getD_eq_getD_getElem?] at hy; exact hy
      rcases hlj j hj with rfl | ⟨_, hj2⟩
      · rw [ho] at ho2; injection ho2 with ho2; subst ho2
        exact up _ (hdep e he hb)
      · exact up _ (hcl j o2 e ho2 he hb hj2)
    cases hd : o.dst with
    | none =>
      refine ih _ f w' (by simpa using hsz) hcnt (by omega) hf (fun j hj => ?_) hcl2 hJ'
      rcases hlj j hj with rfl | ⟨hne2, hj2⟩
      · unfold heldD; rw [List.getD_eq_getElem?_getD, hoD, hd]
        exact ⟨v, hGi⟩
      · have h1 := hl j hj2
        unfold heldD at h1 ⊢
        cases hx : D.getD j none with
        | none => rw [hx] at h1; obtain ⟨u, h1⟩ := h1; exact ⟨u, hG _ _ _ _ _ hne2 h1 hR⟩
        | some d => rw [hx] at h1; exact hG _ _ _ _ _ hne2 h1 hR
    | some d =>
      rw [fr_put]
      have hdi : D[i]? = some (some d) := by rw [hoD, hd]
      refine ih _ (upd f d v) w' (by simpa using hsz) hcnt (by omega) (fun s hs => ?_) (fun j hj => ?_) hcl2 hJ'
      · rw [upd_other]
        · exact hf s hs
        · rintro rfl; exact hs (List.mem_of_getElem? hdi)
      · rcases hlj j hj with rfl | ⟨hne2, hj2⟩
        · unfold heldD; rw [List.getD_eq_getElem?_getD, hdi]
          simp only [Option.getD_some, upd_same]; exact hGi
        · have h1 := hl j hj2
          unfold heldD at h1 ⊢
          cases hx : D.getD j none with
          | none => rw [hx] at h1; obtain ⟨u, h1⟩ := h1; exact ⟨u, hG _ _ _ _ _ hne2 h1 hR⟩
          | some d' =>
            rw [hx] at h1
            have hdj : D[j]? = some (some d') := by
              rw [List.getD_eq_getElem?_getD] at hx
              cases hy : D[j]? with
              | none => rw [hy] at hx; cases hx
              | some z => rw [hy] at hx; simp at hx; rw [hx]
            have hne3 : d' ≠ d := by rintro rfl; exact hne2 (dst_once hnd hdj hdi)
            simp only [upd_other f v hne3]
            exact hG _ _ _ _ _ hne2 h1 hR
theorem none_yet (m i : Nat) : (Array.replicate m false).getD i false = false := by
  rw [Array.getD_eq_getD_getElem?, Array.getElem?_replicate]; split <;> rfl
theorem wp_region_inv {ops : Array Oper} {id : Nat} {a : Act} {w : World} (hm : P.follows .mixedOrders = true) (n : Nat) (ds : List Deferred) (f0 : Nat → Value) (D : List (Option Nat)) (G : Nat → Value → World → Prop)
    (R : Nat → World → World → Prop) (J : Nat → Bool → World → Prop) (si : Nat) (ha : a = ⟨fr n f0, ds⟩) (hok : okI ops.toList D = true)
    (hG : ∀ j i v w w', j ≠ i → G j v w → R i w w' → G j v w') (h0 : J 0 false w.drew)
    (hstep : AllI (fun i o => ∀ k b f w, k < ops.size → (∀ s, some s ∉ D → f s = f0 s) → Deps (fun j => heldD D G j f w) o.after.toList → (∀ p, pathB ops.toList si (p ++ [i]) = true → b = false) → (∀ p, pathB ops.toList i (p ++ [si]) = true → b = true) → J k b w → StepX P ops n ds (R i) (J (k + 1) (b || decide (i = si))) (G i) f w o) 0 ops.toList)
    (hend : ∀ f w, (∀ s, some s ∉ D → f s = f0 s) → (∀ i, i < ops.size → heldD D G i f w) → J ops.size (decide (si < ops.size)) w → Q .normal ⟨fr n f, ds⟩ w) :
    (Code.region id ops true).wp P Q a w := by
  subst ha
  refine wp_region_any hm (wpAny_inv hok hG hstep hend ops.size (Array.replicate ops.size false) f0 w.drew (by simp) (by simp) (Nat.le_refl _) (fun _ _ => rfl) (fun i hi => absurd hi (by rw [none_yet]; simp)) (fun i o e _ _ _ hi => absurd hi (by rw [none_yet]; simp)) (by rw [Nat.sub_self, none_yet]; exact h0))
end

section
variable {P : Program} {Q : Exit → Act → World → Prop} {n : Nat} {ds : List Deferred} {R : Nat → World → World → Prop} {J : Nat → Bool → World → Prop} {G : Nat → Value → World → Prop} {si : Nat} {D : List (Option Nat)} {f0 : Nat → Value}
def upTo (m i : Nat) : Array Bool := ((List.range m).map fun j => decide (j < i)).toArray
theorem upTo_get (m i j : Nat) (d : Bool) : (upTo m i).getD j d = if j < m then decide (j < i) else d := by
  rw [Array.getD_eq_getD_getElem?, upTo, List.getElem?_toArray, List.getElem?_map]
  by_cases h : j < m
  · rw [List.getElem?_range h, if_pos h]; rfl
  · rw [List.getElem?_eq_none (by simpa using h), if_neg h]; rfl
theorem upTo_set (m i : Nat) : (upTo m i).setIfInBounds i true = upTo m (i + 1) := by
  apply Array.ext
  · simp [upTo]
  · intro j h1 h2
    simp only [upTo, List.setIfInBounds_toArray, List.getElem_toArray, List.getElem_set, List.getElem_map, List.getElem_range]
    by_cases e : i = j
    · subst e; simp
    · rw [if_neg e]; congr 1; rw [eq_iff_iff]; omega
theorem wpOps_of_any {ops : Array Oper} (hbk : ∀ i o e, ops[i]? = some o → e ∈ o.after → Region.binds .any e = true → e.on < i) :
    ∀ (m i : Nat) (a : Act) (w : World), i + m = ops.size → wpAny P .any ops Q m (upTo ops.size i) a w → wpOps P ops Q (List.range' i m) a w := by
  intro m
  induction m with
  | zero => intro i a w _ h; exact h.2
  | succ m ih =>
    intro i a w hi h
    have hr : i ∈ Region.ready .any ops (upTo ops.size i) := by
      refine mem_ready.2 ⟨by rw [upTo_get, if_pos (by omega)]; simp, ops[i]'(by omega), Array.getElem?_eq_getElem (by omega), fun e he hb => ?_⟩
      have := hbk i _ e (Array.getElem?_eq_getElem (by omega)) he hb
      rw [upTo_get, if_pos (by omega)]; simpa using this
    have h1 := h.2 i hr
    rw [upTo_set] at h1
    rw [List.range'_succ, wpOps_cons]
    exact wpOp_mono (fun a w h2 => ih (i + 1) a w (by omega) h2) h1
theorem wp_region_inv0 {ops : Array Oper} {id : Nat} {a : Act} {w : World} (n : Nat) (ds : List Deferred) (f0 : Nat → Value) (D : List (Option Nat)) (G : Nat → Value → World → Prop)
    (R : Nat → World → World → Prop) (J : Nat → Bool → World → Prop) (si : Nat) (ha : a = ⟨fr n f0, ds⟩) (hok : okI ops.toList D = true)
    (hG : ∀ j i v w w', j ≠ i → G j v w → R i w w' → G j v w') (h0 : J 0 false w)
    (hstep : AllI (fun i o => ∀ k b f w, k < ops.size → (∀ s, some s ∉ D → f s = f0 s) → Deps (fun j => heldD D G j f w) o.after.toList → (∀ p, pathB ops.toList si (p ++ [i]) = true → b = false) → (∀ p, pathB ops.toList i (p ++ [si]) = true → b = true) → J k b w → StepX P ops n ds (R i) (J (k + 1) (b || decide (i = si))) (G i) f w o) 0 ops.toList)
    (hend : ∀ f w, (∀ s, some s ∉ D → f s = f0 s) → (∀ i, i < ops.size → heldD D G i f w) → J ops.size (decide (si < ops.size)) w → Q .normal ⟨fr n f, ds⟩ w) :
    (Code.region id ops false).wp P Q a w := by
  subst ha
  have h := wpAny_inv hok hG hstep hend ops.size (upTo ops.size 0) f0 w (by simp [upTo])
    (by simp [upTo, List.count_eq_length.2]) (Nat.le_refl _) (fun _ _ => rfl)
    (fun i hi => absurd hi (by rw [upTo_get]; split <;> simp)) (fun i o e _ _ _ hi => absurd hi (by rw [upTo_get]; split <;> simp))
    (by rw [Nat.sub_self, upTo_get]; have : (if si < ops.size then decide (si < 0) else false) = false := by split <;> simp
        rw [this]; exact h0)
  refine wp_region ?_
  rw [List.range_eq_range']
  refine wpOps_of_any ?_ _ _ _ _ (Nat.zero_add _) h
  intro i o e ho he hb
  simp only [okI, Bool.and_eq_true, decide_eq_true_eq, List.all_eq_true] at hok
  have := hok.2 (o, i) (by rw [List.mem_zipIdx_iff_getElem?]; simpa using ho) e (by simpa using he)
  rw [hb] at this
  simpa using this
end

theorem below_of_only {a w : World} {g : Nat} (h : a.grownBy w (some g)) (hg : a.heap.size ≤ g) : Below a.heap.size a w :=
  ⟨h.os, h.tape, h.output, h.size, fun i hi => h.block i hi (by simp; omega)⟩
/-! The frame round a reader: g the reader's block, q what it has read, c what an operation reads at most, w0: the world at the region's beginning; boxes that stay; boxes that are written with one value each. -/
structure Stw where
  o : Nat
  b : Nat
  t : TypeId
  n : Nat
structure Cx where
  g : Nat
  q : Nat
  c : Nat
  w0 : World
  wf : World
  bx : List (Nat × TypeId × Array Value)
  st : List Stw
def Cx.ok (x : Cx) : Prop :=
  x.g < x.w0.heap.size ∧ (∀ p ∈ x.bx, p.1 ≠ x.g ∧ p.1 < x.w0.heap.size ∧ ∀ s ∈ x.st, s.b ≠ p.1) ∧ (∀ s ∈ x.st, s.b ≠ x.g ∧ s.b < x.w0.heap.size ∧ x.wf.heap.size ≤ s.b) ∧ ∀ s ∈ x.st, ∀ t ∈ x.st, s.b = t.b → s = t
def Cx.R (x : Cx) (i : Nat) (w w' : World) : Prop :=
  (∀ k, x.w0.heap.size ≤ k → k < w.heap.size → w'.heap[k]? = w.heap[k]?) ∧ w.heap.size ≤ w'.heap.size ∧ ∀ s ∈ x.st, s.o ≠ i → w'.heap[s.b]? = w.heap[s.b]?
def Cx.J (x : Cx) (k : Nat) (b : Bool) (w : World) : Prop :=
  ((b = false ∨ ∀ s ∈ x.st, x.g < s.b) → Rdr w x.g (x.q + x.c * k)) ∧ x.wf.grownBy w (some x.g) ∧ x.w0.heap.size ≤ w.heap.size ∧ (∀ p ∈ x.bx, Blk w p.1 p.2.1 p.2.2) ∧ (∀ s ∈ x.st, ∃ cs, Blk w s.b s.t cs ∧ cs.size = s.n) ∧ ∀ i, i < x.w0.heap.size → i ≠ x.g → (∀ s ∈ x.st, i ≠ s.b) → w.heap[i]? = x.w0.heap[i]?
/-! What an operation may say. -/
def FInt (lo hi : Int) (v : Value) (_ : World) : Prop := ∃ z : Int, v = .int .i64 z ∧ lo ≤ z ∧ z ≤ hi
def FEq (u : Value) (v : Value) (_ : World) : Prop := v = u
def FAny (_ : Value) (_ : World) : Prop := True
def FBool (v : Value) (_ : World) : Prop := ∃ b : Bool, v = .bool b
/-- a literal slice of n numbers in lo .. hi, in a block of its own -/
def FLit (B T n : Nat) (lo hi : Int) (v : Value) (w : World) : Prop := ∃ b cs, v = .slice (some ⟨b, 0, none⟩) n n ∧ Blk w b T cs ∧ cs.size = n ∧ LitIn lo hi cs ∧ B ≤ b
/-- the address of a number in lo .. hi -/
def FAt (B T : Nat) (lo hi : Int) (v : Value) (w : World) : Prop := ∃ b k cs, v = .pointer (some ⟨b, k, none⟩) ∧ Blk w b T cs ∧ k < cs.size ∧ LitIn lo hi cs ∧ B ≤ b
/-- what has been stored in a box -/
def FBlk (b : Nat) (t : TypeId) (N : Array Value → World → Prop) (_ : Value) (w : World) : Prop := ∃ cs, Blk w b t cs ∧ N cs w
/-- as the end wants it -/
def Stay (x : Cx) (j : Nat) (F : Value → World → Prop) : Prop := ∀ i v w w', j ≠ i → F v w → x.R i w w' → F v w'
def StaysF (x : Cx) : Nat → List (Value → World → Prop) → Prop
  | _, [] => True
  | j, F :: r => Stay x j F ∧ StaysF x (j + 1) r
section
variable {x : Cx} {lo hi : Int} {T n j : Nat}
theorem stay_int : Stay x j (FInt lo hi) := fun _ _ _ _ _ h _ => h
theorem stay_eq {u : Value} : Stay x j (FEq u) := fun _ _ _ _ _ h _ => h
theorem stay_any : Stay x j FAny := fun _ _ _ _ _ h _ => h
theorem stay_bool : Stay x j FBool := fun _ _ _ _ _ h _ => h
theorem Cx.R.blk {i : Nat} {w w' : World} {b : Nat} {t : TypeId} {cs : Array Value} (h : x.R i w w') (hb : Blk w b t cs) (hB : x.w0.heap.size ≤ b) : Blk w' b t cs := (h.1 b hB hb.lt).trans hb
theorem stay_lit : Stay x j (FLit x.w0.heap.size T n lo hi) := fun _ _ _ _ _ ⟨b, cs, h1, h2, h3, h4, h5⟩ hR => ⟨b, cs, h1, hR.blk h2 h5, h3, h4, h5⟩
theorem stay_at : Stay x j (FAt x.w0.heap.size T lo hi) := fun _ _ _ _ _ ⟨b, k, cs, h1, h2, h3, h4, h5⟩ hR => ⟨b, k, cs, h1, hR.blk h2 h5, h3, h4, h5⟩
theorem stay_blk {N : Array Value → World → Prop} (s : Stw) (h : s ∈ x.st) (hj : s.o = j) (hN : ∀ cs i w w', j ≠ i → N cs w → x.R i w w' → N cs w') : Stay x j (FBlk s.b s.t N) :=
  fun i _ w w' hne ⟨cs, hb, hn⟩ hR => ⟨cs, (hR.2.2 s h (by rw [hj]; exact hne)).trans hb, hN cs i w w' hne hn hR⟩
theorem stay_blk_eq {new : Array Value} (s : Stw) (h : s ∈ x.st) (hj : s.o = j) : Stay x j (FBlk s.b s.t fun cs _ => cs = new) := stay_blk s h hj fun _ _ _ _ _ h _ => h
theorem stay_list : ∀ (Gs : List (Value → World → Prop)) (b : Nat), StaysF x b Gs → ∀ j i v w w', b + j ≠ i → (Gs.getD j FAny) v w → x.R i w w' → (Gs.getD j FAny) v w'
  | [], _, _, _, _, _, _, _, _, _, _ => by simp [FAny]
  | F :: r, b, h, 0, i, v, w, w', hne, hv, hR => h.1 i v w w' (by simpa using hne) hv hR
  | F :: r, b, h, j + 1, i, v, w, w', hne, hv, hR => stay_list r (b + 1) h.2 j i v w w' (by omega) hv hR
end
section
variable {P : Program} {n : Nat} {ds : List Deferred} {x : Cx} {F : Value → World → Prop} {k : Nat} {f : Nat → Value} {w : World} {o : Oper}
variable {i : Nat}
theorem Cx.R.refl (x : Cx) (i : Nat) (w : World) : x.R i w w := ⟨fun _ _ _ => rfl, Nat.le_refl _, fun _ _ _ => rfl⟩
theorem Cx.J.next {b b' : Bool} (hb : b' = false → b = false) (h : x.J k b w) : x.J (k + 1) b' w := ⟨fun hh => (h.1 (hh.imp hb id)).more (by rw [Nat.mul_succ]; omega), h.2⟩
theorem or_left {b c : Bool} : (b || c) = false → b = false := by cases b <;> simp
theorem Cx.R.alloc (hk : x.ok) (hw : x.w0.heap.size ≤ w.heap.size) (ob : Obj) : x.R i w (w.alloc ob) :=
  ⟨fun i _ h => Below.heap_alloc w ob i h, by simp, fun s hs _ => Below.heap_alloc w ob s.b (Nat.lt_of_lt_of_le (hk.2.2.1 s hs).2.1 hw)⟩
theorem Cx.J.alloc {b b' : Bool} (hb : b' = false → b = false) (h : x.J k b w) (ob : Obj) : x.J (k + 1) b' (w.alloc ob) :=
  ⟨fun hh => ((h.1 (hh.imp hb id)).alloc1 ob).more (by rw [Nat.mul_succ]; omega), only_alloc h.2.1 ob, by have := h.2.2.1; simp; omega, fun p hp => (h.2.2.2.1 p hp).alloc ob, (fun s hs => by
    obtain ⟨cs, h1, h2⟩ := h.2.2.2.2.1 s hs; exact ⟨cs, h1.alloc ob, h2⟩), fun i hi hg hs => (Below.heap_alloc w ob i (Nat.lt_of_lt_of_le hi h.2.2.1)).trans (h.2.2.2.2.2 i hi hg hs)⟩
theorem Cx.R.grown {w' : World} (hk : x.ok) (hw : x.w0.heap.size ≤ w.heap.size) (hg : w.grownBy w' (some x.g)) : x.R i w w' :=
  ⟨fun i hB hi => hg.block i hi (by have := hk.1; simp; omega), hg.size, fun s hs _ => hg.block s.b (Nat.lt_of_lt_of_le (hk.2.2.1 s hs).2.1 hw) (by simpa using (hk.2.2.1 s hs).1)⟩
theorem Cx.J.grown {w' : World} {b b' : Bool} (hk : x.ok) (h : x.J k b w) (hg : w.grownBy w' (some x.g)) (hr : Rdr w' x.g (x.q + x.c * (k + 1))) : x.J (k + 1) b' w' :=
  ⟨fun _ => hr, only_trans h.2.1 hg, Nat.le_trans h.2.2.1 hg.size, fun p hp => (h.2.2.2.1 p hp).only hg (hk.2.1 p hp).1, (fun s hs => by
    obtain ⟨cs, h1, h2⟩ := h.2.2.2.2.1 s hs; exact ⟨cs, h1.only hg (hk.2.2.1 s hs).1, h2⟩), fun i hi hgi hs => (hg.block i (Nat.lt_of_lt_of_le hi h.2.2.1) (by simpa using hgi)).trans (h.2.2.2.2.2 i hi hgi hs)⟩
variable {b c : Bool}
/-- an operation that yields a value and leaves the world alone -/
theorem si_val (v : Value) (hJ : x.J k b w) (hrun : (execOp (⟨fr n f, ds⟩ : Act).eval o).run P w = .ok (.value v) w) (hF : F v w) : StepI P n ds (x.R i) (x.J (k + 1) (b || c)) F f w o := by
  intro K Q h
  unfold Oper.wp
  rw [hrun]
  exact h v w (Cx.R.refl x i w) (hJ.next or_left) hF
theorem si_alloc (v : Value) (ob : Obj) (hk : x.ok) (hJ : x.J k b w) (hrun : (execOp (⟨fr n f, ds⟩ : Act).eval o).run P w = .ok (.value v) (w.alloc ob)) (hF : F v (w.alloc ob)) : StepI P n ds (x.R i) (x.J (k + 1) (b || c)) F f w o := by
  intro K Q h
  unfold Oper.wp
  rw [hrun]
  exact h v _ (Cx.R.alloc hk hJ.2.2.1 ob) (hJ.alloc or_left ob) hF
theorem si_enter (fn : FuncId) (args : Array Value) (hk : x.ok) (hJ : x.J k b w) (hb : b = false ∨ ∀ s ∈ x.st, x.g < s.b) (hrun : (execOp (⟨fr n f, ds⟩ : Act).eval o).run P w = .ok (.enter fn args) w)
    (hc : Rdr w x.g (x.q + x.c * k) → Calls P fn args w fun e w' => ∃ v, e = .returned v ∧ F v w' ∧ Rdr w' x.g (x.q + x.c * (k + 1)) ∧ w.grownBy w' (some x.g)) : StepI P n ds (x.R i) (x.J (k + 1) (b || c)) F f w o := by
  intro K Q h
  unfold Oper.wp
  rw [hrun, Oper.upon_enter]
  refine (hc (hJ.1 hb)).mono ?_
  rintro e w' ⟨v, rfl, hF, hr, hg⟩
  exact h v w' (Cx.R.grown hk hJ.2.2.1 hg) (hJ.grown hk hg hr) hF
/-- the store of a whole box -/
theorem si_store (s : Stw) (hs : s ∈ x.st) (ho : s.o = i) (cs : Array Value) (w' : World) (hk : x.ok) (hJ : x.J k b w) (hrun : (execOp (⟨fr n f, ds⟩ : Act).eval o).run P w = .ok .skip w')
    (hw : ∀ i, i ≠ s.b → w'.heap[i]? = w.heap[i]?) (hsz : w'.heap.size = w.heap.size) (hb : Blk w' s.b s.t cs) (hn : cs.size = s.n) (hos : w'.os = w.os ∧ w'.tape = w.tape ∧ w'.output = w.output) (hF : F undef w')
    (hc : (b || c) = true) : StepI P n ds (x.R i) (x.J (k + 1) (b || c)) F f w o := by
  rw [hc]
  intro K Q h
  unfold Oper.wp
  rw [hrun, Oper.upon_skip]
  obtain ⟨h1, h2, h3⟩ := hk.2.2.1 s hs
  have keep : ∀ {g : Nat} {t : TypeId} {cs : Array Value}, Blk w g t cs → g ≠ s.b → Blk w' g t cs := fun hb hne => (hw _ hne).trans hb
  refine h undef w' ⟨fun i hB _ => hw i (by omega), by omega, fun s2 hs2 hne => hw _ fun e => hne (by rw [hk.2.2.2 s2 hs2 s hs e]; exact ho)⟩ ⟨fun hfar => ?_, ?_, ?_, ?_, ?_, fun i hi hgi hsi => (hw i (hsi s hs)).trans (hJ.2.2.2.2.2 i hi hgi hsi)⟩ hF
  · have hfar : ∀ s ∈ x.st, x.g < s.b := by
      rcases hfar with hf | hf
      · simp at hf
      · exact hf
    obtain ⟨A, c, zs, p, hb1, hy, hwf, hl, hp⟩ := hJ.1 (.inr hfar)
    refine ⟨A, c, zs, p, keep hb1 (Ne.symm h1), ⟨hy.1, fun hn => ?_⟩, hwf, hl, by rw [Nat.mul_succ]; omega⟩
    obtain ⟨bb, off, e, hbl, hc⟩ := hy.2 hn
    refine ⟨bb, off, e, hbl, fun j u hu => ?_⟩
    have := hfar s hs
    exact (World.cell?_of_block (a := ⟨bb, off + j, none⟩) (hw bb (by omega))).trans (hc j u hu)
  · exact ⟨hos.1.trans hJ.2.1.os, hos.2.1.trans hJ.2.1.tape, hos.2.2.trans hJ.2.1.output, by have := hJ.2.1.size; omega, fun i hi hne => (hw i (by omega)).trans (hJ.2.1.block i hi hne)⟩
  · have := hJ.2.2.1; omega
  · exact fun p hp => keep (hJ.2.2.2.1 p hp) (Ne.symm ((hk.2.1 p hp).2.2 s hs))
  · intro s2 hs2
    by_cases e : s2.b = s.b
    · rw [hk.2.2.2 s2 hs2 s hs e]; exact ⟨cs, hb, hn⟩
    · obtain ⟨cs, h5, h6⟩ := hJ.2.2.2.2.1 s2 hs2; exact ⟨cs, keep h5 e, h6⟩
end
theorem pk_post {P : Program} {f : FuncId} {args : Array Value} {w : World} {g q q2 : Nat} {n hi : Int} (h : Calls P f args w (RetPk w g q n)) (hq : q ≤ q2) (hn : n ≤ hi + 1) :
    Calls P f args w fun e w' => ∃ v, e = .returned v ∧ FInt 0 hi v w' ∧ Rdr w' g q2 ∧ w.grownBy w' (some g) :=
  h.mono fun _ _ ⟨k, he, hk, hr, hg⟩ => ⟨_, he, ⟨_, rfl, by omega, by omega⟩, hr.more hq, hg⟩
theorem lv_post {P : Program} {f : FuncId} {args : Array Value} {w : World} {g q q2 : Nat} {lo hi : Int}
    (h : Calls P f args w fun e w' => ∃ l : Int, e = .returned (.int .i64 l) ∧ (lo ≤ l ∧ l ≤ hi) ∧ Rdr w' g q ∧ w.grownBy w' (some g)) (hq : q ≤ q2) :
    Calls P f args w fun e w' => ∃ v, e = .returned v ∧ FInt lo hi v w' ∧ Rdr w' g q2 ∧ w.grownBy w' (some g) :=
  h.mono fun _ _ ⟨k, he, hk, hr, hg⟩ => ⟨_, he, ⟨_, rfl, hk.1, hk.2⟩, hr.more hq, hg⟩
theorem arr1 {cs : Array Value} (h : cs.size = 1) : ∃ a, cs = #[a] := by
  obtain ⟨l⟩ := cs; match l, h with | [a], _ => exact ⟨a, rfl⟩
theorem arr2 {cs : Array Value} (h : cs.size = 2) : ∃ a b, cs = #[a, b] := by
  obtain ⟨l⟩ := cs; match l, h with | [a, b], _ => exact ⟨a, b, rfl⟩
theorem arr3 {cs : Array Value} (h : cs.size = 3) : ∃ a b c, cs = #[a, b, c] := by
  obtain ⟨l⟩ := cs; match l, h with | [a, b, c], _ => exact ⟨a, b, c, rfl⟩
theorem arr4 {cs : Array Value} (h : cs.size = 4) : ∃ a b c d, cs = #[a, b, c, d] := by
  obtain ⟨l⟩ := cs; match l, h with | [a, b, c, d], _ => exact ⟨a, b, c, d, rfl⟩
theorem ev_tmp {n s : Nat} (f : Nat → Value) (ds : List Deferred) (h : s < n) : (⟨fr n f, ds⟩ : Act).eval (.tmp s) = f s := fr_get f h
theorem ev_const (a : Act) (v : Value) : a.eval (.const v) = v := rfl
theorem ev_func (a : Act) (g : FuncId) : a.eval (.func g) = .func (.func g) #[] #[] := rfl
theorem act_fr {a : Act} {n : Nat} (hn : a.tmps.size = n) : a = ⟨fr n (fun s => a.tmps.getD s undef), a.defers⟩ := by
  obtain ⟨t, d⟩ := a
  congr 1
  subst hn
  apply Array.ext
  · simp [fr]
  · intro i h1 h2
    simp only [fr, List.getElem_toArray, List.getElem_map, List.getElem_range]
    rw [Array.getD_eq_getD_getElem?, Array.getElem?_eq_getElem h1]; rfl
theorem AllI.cons {T : Nat → Oper → Prop} {k : Nat} {o : Oper} {r : List Oper} (h : T k o) (h2 : AllI T (k + 1) r) : AllI T k (o :: r) := ⟨h, h2⟩
section
variable {P : Program} {Q : Exit → Act → World → Prop} {ops : Array Oper} {id : Nat} {a : Act} {w : World}
/-- the invariant's law in the frame of a reader, a region that draws -/
theorem region_draws (hm : P.follows .mixedOrders = true) (x : Cx) (si n : Nat) (D : List (Option Nat)) (Gs : List (Value → World → Prop)) (hn : a.tmps.size = n) (hok : okI ops.toList D = true)
    (hG : StaysF x 0 Gs) (h0 : x.J 0 false w)
    (hstep : AllI (fun i o => ∀ k b f w, k < ops.size → (∀ s, some s ∉ D → f s = a.tmps.getD s undef) → Deps (fun j => heldD D (fun i => Gs.getD i FAny) j f w) o.after.toList → (∀ p, pathB ops.toList si (p ++ [i]) = true → b = false) → (∀ p, pathB ops.toList i (p ++ [si]) = true → b = true) → x.J k b w → StepX P ops n a.defers (x.R i) (x.J (k + 1) (b || decide (i = si))) (Gs.getD i FAny) f w o) 0 ops.toList)
    (hend : ∀ f w, (∀ s, some s ∉ D → f s = a.tmps.getD s undef) → (∀ i, i < ops.size → heldD D (fun i => Gs.getD i FAny) i f w) → x.J ops.size (decide (si < ops.size)) w → Q .normal ⟨fr n f, a.defers⟩ w) :
    (Code.region id ops true).wp P Q a w :=
  wp_region_inv hm n a.defers (fun s => a.tmps.getD s undef) D (fun i => Gs.getD i FAny) x.R x.J si (act_fr hn) hok (fun j i v w w' hne => stay_list Gs 0 hG j i v w w' (by omega)) ⟨h0.1, only_drew h0.2.1, h0.2.2⟩ hstep hend
/-- and one that does not -/
theorem region_plain (x : Cx) (si n : Nat) (D : List (Option Nat)) (Gs : List (Value → World → Prop)) (hn : a.tmps.size = n) (hok : okI ops.toList D = true)
    (hG : StaysF x 0 Gs) (h0 : x.J 0 false w)
    (hstep : AllI (fun i o => ∀ k b f w, k < ops.size → (∀ s, some s ∉ D → f s = a.tmps.getD s undef) → Deps (fun j => heldD D (fun i => Gs.getD i FAny) j f w) o.after.toList → (∀ p, pathB ops.toList si (p ++ [i]) = true → b = false) → (∀ p, pathB ops.toList i (p ++ [si]) = true → b = true) → x.J k b w → StepX P ops n a.defers (x.R i) (x.J (k + 1) (b || decide (i = si))) (Gs.getD i FAny) f w o) 0 ops.toList)
    (hend : ∀ f w, (∀ s, some s ∉ D → f s = a.tmps.getD s undef) → (∀ i, i < ops.size → heldD D (fun i => Gs.getD i FAny) i f w) → x.J ops.size (decide (si < ops.size)) w → Q .normal ⟨fr n f, a.defers⟩ w) :
    (Code.region id ops false).wp P Q a w :=
  wp_region_inv0 n a.defers (fun s => a.tmps.getD s undef) D (fun i => Gs.getD i FAny) x.R x.J si (act_fr hn) hok (fun j i v w w' hne => stay_list Gs 0 hG j i v w w' (by omega)) h0 hstep hend
end

/-! The frame of a law: nothing that is there turns. -/
def StayL (F : Value → World → Prop) : Prop := ∀ v w w', F v w → Below w.heap.size w w' → F v w'
def FRd (xs : List Int) (v : Value) (w : World) : Prop := ∃ A c, v = .slice A xs.length c ∧ xs.length ≤ c ∧ RdI w w.heap.size A xs
theorem stayL_int {lo hi : Int} : StayL (FInt lo hi) := fun _ _ _ h _ => h
theorem stayL_eq {u : Value} : StayL (FEq u) := fun _ _ _ h _ => h
theorem stayL_any : StayL FAny := fun _ _ _ h _ => h
theorem stayL_bool : StayL FBool := fun _ _ _ h _ => h
theorem stayL_rd {xs : List Int} : StayL (FRd xs) := fun _ _ _ ⟨A, c, h1, h2, h3⟩ hb => ⟨A, c, h1, h2, (h3.below hb (Nat.le_refl _)).more hb.size⟩
theorem stayLs_nil : ∀ G ∈ ([] : List (Value → World → Prop)), StayL G := fun _ h => by cases h
theorem stayLs_cons {F : Value → World → Prop} {r : List (Value → World → Prop)} (h : StayL F) (k : ∀ G ∈ r, StayL G) : ∀ G ∈ F :: r, StayL G := fun G hG => by
  rcases List.mem_cons.1 hG with rfl | hG
  · exact h
  · exact k G hG
theorem stayL_list {Gs : List (Value → World → Prop)} (h : ∀ F ∈ Gs, StayL F) : ∀ i v w w', (Gs.getD i FAny) v w → Below w.heap.size w w' → (Gs.getD i FAny) v w' := by
  intro i v w w' hv hR
  rw [List.getD_eq_getElem?_getD] at hv ⊢
  cases e : Gs[i]? with
  | none => trivial
  | some F => rw [e] at hv; exact h F (List.mem_of_getElem? e) v w w' hv hR
def RL (w w' : World) : Prop := Below w.heap.size w w'
def JL (W : World) (_ : Nat) (_ : Bool) (w : World) : Prop := Below W.heap.size W w
section
variable {P : Program} {n : Nat} {ds : List Deferred} {W : World} {F : Value → World → Prop} {k : Nat} {b : Bool} {f : Nat → Value} {w : World} {o : Oper}
theorem sl_val (v : Value) (hJ : Below W.heap.size W w) (hrun : (execOp (⟨fr n f, ds⟩ : Act).eval o).run P w = .ok (.value v) w) (hF : F v w) : StepI P n ds RL (JL W k b) F f w o := by
  intro K Q h
  unfold Oper.wp
  rw [hrun]
  exact h v w (Below.refl _ _) hJ hF
theorem sl_alloc (v : Value) (ob : Obj) (hJ : Below W.heap.size W w) (hrun : (execOp (⟨fr n f, ds⟩ : Act).eval o).run P w = .ok (.value v) (w.alloc ob)) (hF : F v (w.alloc ob)) : StepI P n ds RL (JL W k b) F f w o := by
  intro K Q h
  unfold Oper.wp
  rw [hrun]
  exact h v _ ((Below.refl _ _).alloc (Nat.le_refl _) ob) (hJ.alloc hJ.size ob) hF
theorem sl_enter (fn : FuncId) (args : Array Value) (hJ : Below W.heap.size W w) (hrun : (execOp (⟨fr n f, ds⟩ : Act).eval o).run P w = .ok (.enter fn args) w)
    (hc : Calls P fn args w fun e w' => ∃ v, e = .returned v ∧ F v w' ∧ Below w.heap.size w w') : StepI P n ds RL (JL W k b) F f w o := by
  intro K Q h
  unfold Oper.wp
  rw [hrun, Oper.upon_enter]
  refine hc.mono ?_
  rintro e w' ⟨v, rfl, hF, hb⟩
  exact h v w' hb (hJ.trans (hb.mono hJ.size)) hF
end
section
variable {P : Program} {Q : Exit → Act → World → Prop} {ops : Array Oper} {id : Nat} {a : Act} {w : World}
theorem regionL_draws (hm : P.follows .mixedOrders = true) (n : Nat) (D : List (Option Nat)) (Gs : List (Value → World → Prop)) (hn : a.tmps.size = n) (hok : okI ops.toList D = true) (hG : ∀ F ∈ Gs, StayL F)
    (hstep : AllI (fun i o => ∀ k b f ww, k < ops.size → (∀ s, some s ∉ D → f s = a.tmps.getD s undef) → Deps (fun j => heldD D (fun i => Gs.getD i FAny) j f ww) o.after.toList → (∀ p, pathB ops.toList ops.size (p ++ [i]) = true → b = false) → (∀ p, pathB ops.toList i (p ++ [ops.size]) = true → b = true) → JL w k b ww → StepX P ops n a.defers RL (JL w (k + 1) (b || decide (i = ops.size))) (Gs.getD i FAny) f ww o) 0 ops.toList)
    (hend : ∀ f ww, (∀ s, some s ∉ D → f s = a.tmps.getD s undef) → (∀ i, i < ops.size → heldD D (fun i => Gs.getD i FAny) i f ww) → JL w ops.size (decide (ops.size < ops.size)) ww → Q .normal ⟨fr n f, a.defers⟩ ww) :
    (Code.region id ops true).wp P Q a w :=
  wp_region_inv hm n a.defers (fun s => a.tmps.getD s undef) D (fun i => Gs.getD i FAny) (fun _ => RL) (JL w) ops.size (act_fr hn) hok (fun j _ v w w' _ => stayL_list hG j v w w') (below_drewN (Below.refl _ _) 1) hstep hend
theorem regionL_plain (n : Nat) (D : List (Option Nat)) (Gs : List (Value → World → Prop)) (hn : a.tmps.size = n) (hok : okI ops.toList D = true) (hG : ∀ F ∈ Gs, StayL F)
    (hstep : AllI (fun i o => ∀ k b f ww, k < ops.size → (∀ s, some s ∉ D → f s = a.tmps.getD s undef) → Deps (fun j => heldD D (fun i => Gs.getD i FAny) j f ww) o.after.toList → (∀ p, pathB ops.toList ops.size (p ++ [i]) = true → b = false) → (∀ p, pathB ops.toList i (p ++ [ops.size]) = true → b = true) → JL w k b ww → StepX P ops n a.defers RL (JL w (k + 1) (b || decide (i = ops.size))) (Gs.getD i FAny) f ww o) 0 ops.toList)
    (hend : ∀ f ww, (∀ s, some s ∉ D → f s = a.tmps.getD s undef) → (∀ i, i < ops.size → heldD D (fun i => Gs.getD i FAny) i f ww) → JL w ops.size (decide (ops.size < ops.size)) ww → Q .normal ⟨fr n f, a.defers⟩ ww) :
    (Code.region id ops false).wp P Q a w :=
  wp_region_inv0 n a.defers (fun s => a.tmps.getD s undef) D (fun i => Gs.getD i FAny) (fun _ => RL) (JL w) ops.size (act_fr hn) hok (fun j _ v w w' _ => stayL_list hG j v w w') (Below.refl _ _) hstep hend
end
theorem retB_post {P : Program} {f : FuncId} {args : Array Value} {w : World} {b : Bool} (h : Calls P f args w (RetB w b)) : Calls P f args w fun e w' => ∃ v, e = .returned v ∧ FEq (.bool b) v w' ∧ Below w.heap.size w w' :=
  h.mono fun _ _ ⟨he, hb⟩ => ⟨_, he, rfl, hb⟩
theorem retI_post {P : Program} {f : FuncId} {args : Array Value} {w : World} {b : Int} (h : Calls P f args w (RetI w b)) : Calls P f args w fun e w' => ∃ v, e = .returned v ∧ FEq (.int .i64 b) v w' ∧ Below w.heap.size w w' :=
  h.mono fun _ _ ⟨he, hb⟩ => ⟨_, he, rfl, hb⟩
theorem retQ_post {P : Program} {f : FuncId} {args : Array Value} {w : World} {u : Value} (h : Calls P f args w fun e w' => e = .returned u ∧ w = w') : Calls P f args w fun e w' => ∃ v, e = .returned v ∧ FEq u v w' ∧ Below w.heap.size w w' :=
  h.mono fun _ _ ⟨he, hb⟩ => ⟨_, he, rfl, by rw [← hb]; exact Below.refl _ _⟩
end Go.Proofs.YtmodpleonhniaaaGreatDoor
