/- A region that draws its order, by an invariant that sees the frame too: a box that the region lays and stores into. No program of its own. -/
import Derived.Test.YtmodpleonhniaaaGreatDoorInv
namespace Go.Proofs.YtmodpleonhniaaaGreatDoor
set_option linter.unusedVariables false
open Go.RowKit
def updO (f : Nat → Value) (d : Option Nat) (v : Value) : Nat → Value := match d with | some d => upd f d v | none => f
/-- one operation -/
def StepIF (P : Program) (n : Nat) (ds : List Deferred) (R : World → World → Prop) (J : (Nat → Value) → World → Prop) (Gi : Value → World → Prop) (f : Nat → Value) (w : World) (o : Oper) : Prop :=
  ∀ (K : Act → World → Prop) (Q : Exit → Act → World → Prop), (∀ v w', R w w' → J (updO f o.dst v) w' → Gi v w' → K ((⟨fr n f, ds⟩ : Act).put o.dst v) w') → o.wp P ⟨fr n f, ds⟩ w K Q
def StepXF (P : Program) (ops : Array Oper) (n : Nat) (ds : List Deferred) (R : World → World → Prop) (J : (Nat → Value) → World → Prop) (Gi : Value → World → Prop) (f : Nat → Value) (w : World) (o : Oper) : Prop :=
  (Region.wanted o (yielded ops (fr n f)) = true ∧ StepIF P n ds R J Gi f w o) ∨ (Region.wanted o (yielded ops (fr n f)) = false ∧ R w w ∧ J (updO f o.dst undef) w ∧ Gi undef w)
section
variable {P : Program} {Q : Exit → Act → World → Prop} {n : Nat} {ds : List Deferred} {R : Nat → World → World → Prop} {J : Nat → Bool → (Nat → Value) → World → Prop} {G : Nat → Value → World → Prop} {si : Nat} {D : List (Option Nat)} {f0 : Nat → Value}
theorem wpAny_invF {ops : Array Oper} (hok : okI ops.toList D = true)
    (hG : ∀ j i v w w', j ≠ i → G j v w → R i w w' → G j v w')
    (hstep : AllI (fun i o => ∀ k b f w, k < ops.size → (∀ s, some s ∉ D → f s = f0 s) → Deps (fun j => heldD D G j f w) o.after.toList → (∀ p, pathB ops.toList si (p ++ [i]) = true → b = false) → (∀ p, pathB ops.toList i (p ++ [si]) = true → b = true) → J k b f w → StepXF P ops n ds (R i) (J (k + 1) (b || decide (i = si))) (G i) f w o) 0 ops.toList)
    (hend : ∀ f w, (∀ s, some s ∉ D → f s = f0 s) → (∀ i, i < ops.size → heldD D G i f w) → J ops.size (decide (si < ops.size)) f w → Q .normal ⟨fr n f, ds⟩ w) :
    ∀ (fuel : Nat) (listed : Array Bool) (f : Nat → Value) (w : World), listed.size = ops.size → listed.toList.count false = fuel → fuel ≤ ops.size →
      (∀ s, some s ∉ D → f s = f0 s) → (∀ i, listed.getD i false = true → heldD D G i f w) → (∀ i o e, ops[i]? = some o → e ∈ o.after → Region.binds .any e = true → listed.getD i false = true → listed.getD e.on false = true) → J (ops.size - fuel) (listed.getD si false) f w → wpAny P .any ops Q fuel listed ⟨fr n f, ds⟩ w := by
  simp only [okI, Bool.and_eq_true, decide_eq_true_eq, List.all_eq_true] at hok
  obtain ⟨⟨hD, hnd⟩, hbk⟩ := hok
  have dlen : D.length = ops.size := by rw [← hD]; simp
  intro fuel
  induction fuel with
  | zero =>
    intro listed f w hsz hc _ hf hl _ hJ
    have hall : ∀ i, i < ops.size → listed.getD i false = true := fun i hi => by
      have h1 := count_zero_all hc i (by simp; omega)
      rw [Array.getD_eq_getD_getElem?, Array.getElem?_eq_getElem (by omega)]
      simpa using h1
    have hsi : listed.getD si false = decide (si < ops.size) := by
      by_cases h : si < ops.size
      · rw [hall si h]; simp [h]
      · rw [Array.getD_eq_getD_getElem?, Array.getElem?_eq_none (by omega)]; simp [h]
    rw [hsi] at hJ
    refine ⟨?_, hend f w hf (fun i hi => hl i (hall i hi)) (by simpa using hJ)⟩
    cases hr : Region.ready .any ops listed with
    | nil => rfl
    | cons x xs =>
      obtain ⟨h1, o, h2, _⟩ := mem_ready.1 (show x ∈ Region.ready .any ops listed by rw [hr]; exact List.mem_cons_self)
      have hx : x < ops.size := by
        rcases Nat.lt_or_ge x ops.size with h | h
        · exact h
        · rw [Array.getElem?_eq_none h] at h2; cases h2
      have := hall x hx
      rw [Array.getD_eq_getD_getElem?, Array.getElem?_eq_getElem (by omega)] at this h1
      simp at this h1
      rw [this] at h1; cases h1
  | succ fuel ih =>
    intro listed f w hsz hc hfs hf hl hcl hJ
    have hne : Region.ready .any ops listed ≠ [] := by
      obtain ⟨i, h1, h2⟩ := least_un (l := listed.toList) (by omega)
      have hi : i < ops.size := by
        rcases Nat.lt_or_ge i listed.toList.length with h | h
        · simpa [hsz] using h
        · rw [List.getElem?_eq_none h] at h1; cases h1
      have : i ∈ Region.ready .any ops listed := by
        refine mem_ready.2 ⟨?_, ops[i], Array.getElem?_eq_getElem hi, fun e he hb => ?_⟩
        · rw [Array.getD_eq_getD_getElem?, ← Array.getElem?_toList, h1]; rfl
        · have hlt : e.on < i := by
            have := hbk (ops[i], i) (by
              rw [List.mem_zipIdx_iff_getElem?]
              simp) e (by simpa using he)
            rw [hb] at this
            simpa using this
          rw [Array.getD_eq_getD_getElem?, ← Array.getElem?_toList, h2 _ hlt]; rfl
      intro h0; rw [h0] at this; cases this
    refine ⟨fun h => absurd h hne, fun i hi => ?_⟩
    obtain ⟨hun, o, ho, hdep⟩ := mem_ready.1 hi
    have hi2 : i < ops.size := by
      rcases Nat.lt_or_ge i ops.size with h | h
      · exact h
      · rw [Array.getElem?_eq_none h] at ho; cases ho
    have hoD : D[i]? = some o.dst := by rw [← hD, List.getElem?_map, Array.getElem?_toList, ho]; rfl
    have hT := AllI.get _ _ _ _ hstep (show ops.toList[i]? = some o by rw [Array.getElem?_toList]; exact ho)
    rw [Nat.zero_add] at hT
    have hs := hT (ops.size - (fuel + 1)) (listed.getD si false) f w (by omega) hf (Deps.mk _ fun e he hb => hl _ (hdep e (by simpa using he) hb)) (fun p hp => by
      cases hb : listed.getD si false with
      | false => rfl
      | true =>
        have h1 := path_listed hcl p si i hb hp
        rw [Array.getD_eq_getD_getElem?, Array.getElem?_eq_getElem (by omega)] at h1 hun
        simp at h1 hun
        rw [h1] at hun; cases hun) (fun p hp => by
      have first : ∀ y r, pathB ops.toList i (y :: r) = true → listed.getD y false = true := fun y r hy => by
        rw [pathB, Bool.and_eq_true] at hy
        have he := hy.1
        unfold edgeB at he
        rw [show ops.toList[i]? = some o by rw [Array.getElem?_toList]; exact ho] at he
        obtain ⟨e, h1, h2⟩ := List.any_eq_true.1 he
        simp only [Bool.and_eq_true, beq_iff_eq] at h2
        rw [← h2.2]
        exact hdep e (by simpa using h1) h2.1
      cases p with
      | nil => exact first si [] hp
      | cons y r =>
        have h1 := first y (r ++ [si]) hp
        rw [List.cons_append, pathB, Bool.and_eq_true] at hp
        exact path_listed hcl r y si h1 hp.2) hJ
    unfold wpOp
    simp only [ho]
    suffices hnext : ∀ v w', R i w w' → J (ops.size - (fuel + 1) + 1) (listed.getD si false || decide (i = si)) (updO f o.dst v) w' → G i v w' → wpAny P .any ops Q fuel (listed.setIfInBounds i true) ((⟨fr n f, ds⟩ : Act).put o.dst v) w' by
      rcases hs with ⟨hw, hs⟩ | ⟨hw, hR0, hJ0, hG0⟩
      · rw [if_pos hw]
        exact .inl (hs _ _ hnext)
      · rw [if_neg (by rw [hw]; simp)]
        exact hnext _ _ hR0 hJ0 hG0
    intro v w' hR hJ' hGi
    have hk : ops.size - (fuel + 1) + 1 = ops.size - fuel := by omega
    rw [hk] at hJ'
    have hsi : (listed.setIfInBounds i true).getD si false = (listed.getD si false || decide (i = si)) := by
      by_cases e : i = si
      · subst e
        rw [Array.getD_eq_getD_getElem?, Array.getElem?_setIfInBounds_self_of_lt (by omega)]; simp
      · rw [Array.getD_eq_getD_getElem?, Array.getElem?_setIfInBounds_ne e, Array.getD_eq_getD_getElem?]; simp [e]
    rw [← hsi] at hJ'
    have hun2 : listed.toList[i]? = some false := by
      rw [Array.getElem?_toList, Array.getElem?_eq_getElem (by omega)]
      rw [Array.getD_eq_getD_getElem?, Array.getElem?_eq_getElem (by omega)] at hun
      simpa using hun
    have hcnt : (listed.setIfInBounds i true).toList.count false = fuel := by
      have := count_set_false hun2
      rw [Array.toList_setIfInBounds]; omega
    have hlj : ∀ j, (listed.setIfInBounds i true).getD j false = true → j = i ∨ (j ≠ i ∧ listed.getD j false = true) := fun j hj => by
      by_cases e : j = i
      · exact .inl e
      · refine .inr ⟨e, ?_⟩
        rw [Array.getD_eq_getD_getElem?, Array.getElem?_setIfInBounds_ne (Ne.symm e)] at hj
        rw [Array.getD_eq_getD_getElem?]; exact hj
    have hcl2 : ∀ j o e, ops[j]? = some o → e ∈ o.after → Region.binds .any e = true → (listed.setIfInBounds i true).getD j false = true → (listed.setIfInBounds i true).getD e.on false = true := by
      intro j o2 e ho2 he hb hj
      have up : ∀ y, listed.getD y false = true → (listed.setIfInBounds i true).getD y false = true := fun y hy => by
        by_cases e : i = y
        · subst e; rw [Array.getD_eq_getD_getElem?, Array.getElem?_setIfInBounds_self_of_lt (by omega)]; rfl
        · rw [Array.getD_eq_getD_getElem?, Array.getElem?_setIfInBounds_ne e]; rw [Array.getD_eq_getD_getElem?] at hy; exact hy
      rcases hlj j hj with rfl | ⟨_, hj2⟩
      · rw [ho] at ho2; injection ho2 with ho2; subst ho2
        exact up _ (hdep e he hb)
      · exact up _ (hcl j o2 e ho2 he hb hj2)
    cases hd : o.dst with
    | none =>
      rw [hd] at hJ'
      refine ih _ f w' (by simpa using hsz) hcnt (by omega) hf (fun j hj => ?_) hcl2 hJ'
      rcases hlj j hj with rfl | ⟨hne2, hj2⟩
      · unfold heldD; rw [List.getD_eq_getElem?_getD, hoD, hd]
        exact ⟨v, hGi⟩
      · have h1 := hl j hj2
        unfold heldD at h1 ⊢
        cases hx : D.getD j none with
        | none => rw [hx] at h1; obtain ⟨u, h1⟩ := h1; exact ⟨u, hG _ _ _ _ _ hne2 h1 hR⟩
        | some d => rw [hx] at h1; exact hG _ _ _ _ _ hne2 h1 hR
    | some d =>
      rw [hd] at hJ'
      rw [fr_put]
      have hdi : D[i]? = some (some d) := by rw [hoD, hd]
      refine ih _ (upd f d v) w' (by simpa using hsz) hcnt (by omega) (fun s hs => ?_) (fun j hj => ?_) hcl2 hJ'
      · rw [upd_other]
        · exact hf s hs
        · rintro rfl; exact hs (List.mem_of_getElem? hdi)
      · rcases hlj j hj with rfl | ⟨hne2, hj2⟩
        · unfold heldD; rw [List.getD_eq_getElem?_getD, hdi]
          simp only [Option.getD_some, upd_same]; exact hGi
        · have h1 := hl j hj2
          unfold heldD at h1 ⊢
          cases hx : D.getD j none with
          | none => rw [hx] at h1; obtain ⟨u, h1⟩ := h1; exact ⟨u, hG _ _ _ _ _ hne2 h1 hR⟩
          | some d' =>
            rw [hx] at h1
            have hdj : D[j]? = some (some d') := by
              rw [List.getD_eq_getElem?_getD] at hx
              cases hy : D[j]? with
              | none => rw [hy] at hx; cases hx
              | some z => rw [hy] at hx; simp at hx; rw [hx]
            have hne3 : d' ≠ d := by rintro rfl; exact hne2 (dst_once hnd hdj hdi)
            simp only [upd_other f v hne3]
            exact hG _ _ _ _ _ hne2 h1 hR
theorem wp_region_invF {ops : Array Oper} {id : Nat} {a : Act} {w : World} (hm : P.follows .mixedOrders = true) (n : Nat) (ds : List Deferred) (f0 : Nat → Value) (D : List (Option Nat)) (G : Nat → Value → World → Prop)
    (R : Nat → World → World → Prop) (J : Nat → Bool → (Nat → Value) → World → Prop) (si : Nat) (ha : a = ⟨fr n f0, ds⟩) (hok : okI ops.toList D = true)
    (hG : ∀ j i v w w', j ≠ i → G j v w → R i w w' → G j v w') (h0 : J 0 false f0 w.drew)
    (hstep : AllI (fun i o => ∀ k b f w, k < ops.size → (∀ s, some s ∉ D → f s = f0 s) → Deps (fun j => heldD D G j f w) o.after.toList → (∀ p, pathB ops.toList si (p ++ [i]) = true → b = false) → (∀ p, pathB ops.toList i (p ++ [si]) = true → b = true) → J k b f w → StepXF P ops n ds (R i) (J (k + 1) (b || decide (i = si))) (G i) f w o) 0 ops.toList)
    (hend : ∀ f w, (∀ s, some s ∉ D → f s = f0 s) → (∀ i, i < ops.size → heldD D G i f w) → J ops.size (decide (si < ops.size)) f w → Q .normal ⟨fr n f, ds⟩ w) :
    (Code.region id ops true).wp P Q a w := by
  subst ha
  refine wp_region_any hm (wpAny_invF hok hG hstep hend ops.size (Array.replicate ops.size false) f0 w.drew (by simp) (by simp) (Nat.le_refl _) (fun _ _ => rfl) (fun i hi => absurd hi (by rw [none_yet]; simp)) (fun i o e _ _ _ hi => absurd hi (by rw [none_yet]; simp)) (by rw [Nat.sub_self, none_yet]; exact h0))
end
/-! One box (slot d), laid by the region with N cells of type T, stored into by operation si, the last. -/
def StayB (T N : Nat) (F : Value → World → Prop) : Prop := (∀ v w w', F v w → Below w.heap.size w w' → F v w') ∧ (∀ v w w', F v w → (∀ b cs, Blk w b T cs → cs.size = N → ∃ cs', Blk w' b T cs' ∧ cs'.size = N) → F v w')
def RB (T N si : Nat) (i : Nat) (w w' : World) : Prop := if i = si then (∀ b cs, Blk w b T cs → cs.size = N → ∃ cs', Blk w' b T cs' ∧ cs'.size = N) else Below w.heap.size w w'
def JB (W : World) (T d : Nat) (cs1 : Array Value) (_ : Nat) (b : Bool) (f : Nat → Value) (w : World) : Prop := Below W.heap.size W w ∧ (b = true → ∃ g, f d = .pointer (some ⟨g, 0, none⟩) ∧ W.heap.size ≤ g ∧ Blk w g T cs1)
/-- the box's address -/
def FBox (B T N : Nat) (v : Value) (w : World) : Prop := ∃ g cs, v = .pointer (some ⟨g, 0, none⟩) ∧ B ≤ g ∧ Blk w g T cs ∧ cs.size = N
theorem stayB_eq {T N : Nat} {u : Value} : StayB T N (FEq u) := ⟨fun _ _ _ h _ => h, fun _ _ _ h _ => h⟩
theorem stayB_any {T N : Nat} : StayB T N FAny := ⟨fun _ _ _ h _ => h, fun _ _ _ h _ => h⟩
theorem stayB_box {T N B : Nat} : StayB T N (FBox B T N) :=
  ⟨fun v w w' ⟨g, cs, e, hB, hb, hs⟩ h => ⟨g, cs, e, hB, hb.below h hb.lt, hs⟩, fun v w w' ⟨g, cs, e, hB, hb, hs⟩ h => by
    obtain ⟨cs', h1, h2⟩ := h g cs hb hs
    exact ⟨g, cs', e, hB, h1, h2⟩⟩
theorem stayBs_nil {T N : Nat} : ∀ G ∈ ([] : List (Value → World → Prop)), StayB T N G := fun _ h => by cases h
theorem stayBs_cons {T N : Nat} {F : Value → World → Prop} {r : List (Value → World → Prop)} (h : StayB T N F) (k : ∀ G ∈ r, StayB T N G) : ∀ G ∈ F :: r, StayB T N G := fun G hG => by
  rcases List.mem_cons.1 hG with rfl | hG
  · exact h
  · exact k G hG
theorem stayB_list {T N si : Nat} {Gs : List (Value → World → Prop)} (h : ∀ F ∈ Gs, StayB T N F) : ∀ j i v w w', j ≠ i → (Gs.getD j FAny) v w → RB T N si i w w' → (Gs.getD j FAny) v w' := by
  intro j i v w w' _ hv hR
  rw [List.getD_eq_getElem?_getD] at hv ⊢
  unfold RB at hR
  cases e : Gs[j]? with
  | none => trivial
  | some F =>
    rw [e] at hv
    split at hR
    · exact (h F (List.mem_of_getElem? e)).2 v w w' hv hR
    · exact (h F (List.mem_of_getElem? e)).1 v w w' hv hR
section
variable {P : Program} {n : Nat} {ds : List Deferred} {W : World} {F : Value → World → Prop} {k si i T N d : Nat} {b : Bool} {f : Nat → Value} {w : World} {o : Oper} {cs1 : Array Value}
theorem jb_other (hb : b = false) (hi : i ≠ si) (hJ : Below W.heap.size W w) (f : Nat → Value) (k : Nat) : JB W T d cs1 k (b || decide (i = si)) f w := ⟨hJ, fun h => by rw [hb, decide_eq_false hi] at h; cases h⟩
theorem sb_val (v : Value) (hJ : Below W.heap.size W w) (hrun : (execOp (⟨fr n f, ds⟩ : Act).eval o).run P w = .ok (.value v) w) (hF : F v w) (hb : b = false := by assumption) (hi : i ≠ si := by decide) : StepIF P n ds (RB T N si i) (JB W T d cs1 (k + 1) (b || decide (i = si))) F f w o := by
  intro K Q h
  unfold Oper.wp
  rw [hrun]
  exact h v w (by unfold RB; rw [if_neg hi]; exact Below.refl _ _) (jb_other hb hi hJ _ _) hF
theorem sb_alloc (v : Value) (ob : Obj) (hJ : Below W.heap.size W w) (hrun : (execOp (⟨fr n f, ds⟩ : Act).eval o).run P w = .ok (.value v) (w.alloc ob)) (hF : F v (w.alloc ob)) (hb : b = false := by assumption) (hi : i ≠ si := by decide) : StepIF P n ds (RB T N si i) (JB W T d cs1 (k + 1) (b || decide (i = si))) F f w o := by
  intro K Q h
  unfold Oper.wp
  rw [hrun]
  exact h v _ (by unfold RB; rw [if_neg hi]; exact (Below.refl _ _).alloc (Nat.le_refl _) ob) (jb_other hb hi (hJ.alloc hJ.size ob) _ _) hF
theorem sb_enter (fn : FuncId) (args : Array Value) (hJ : Below W.heap.size W w) (hrun : (execOp (⟨fr n f, ds⟩ : Act).eval o).run P w = .ok (.enter fn args) w)
    (hc : Calls P fn args w fun e w' => ∃ v, e = .returned v ∧ F v w' ∧ Below w.heap.size w w') (hb : b = false := by assumption) (hi : i ≠ si := by decide) : StepIF P n ds (RB T N si i) (JB W T d cs1 (k + 1) (b || decide (i = si))) F f w o := by
  intro K Q h
  unfold Oper.wp
  rw [hrun, Oper.upon_enter]
  refine hc.mono ?_
  rintro e w' ⟨v, rfl, hF, hw⟩
  exact h v w' (by unfold RB; rw [if_neg hi]; exact hw) (jb_other hb hi (hJ.trans (hw.mono hJ.size)) _ _) hF
/-- the store: into block g, whose cells become cs1 -/
theorem sb_store (g : Nat) (w1 : World) (hi : i = si) (hdst : o.dst = none) (hg : f d = .pointer (some ⟨g, 0, none⟩)) (hlo : W.heap.size ≤ g) (hN : cs1.size = N) (hJ : Below W.heap.size W w)
    (hrun : (execOp (⟨fr n f, ds⟩ : Act).eval o).run P w = .ok .skip w1) (hblk : Blk w1 g T cs1) (hfar : ∀ j, j ≠ g → w1.heap[j]? = w.heap[j]?) (hos : w1.os = w.os) (htp : w1.tape = w.tape) (hout : w1.output = w.output) (hsz : w1.heap.size = w.heap.size) (hF : F undef w1) : StepIF P n ds (RB T N si i) (JB W T d cs1 (k + 1) (b || decide (i = si))) F f w o := by
  intro K Q h
  unfold Oper.wp
  rw [hrun, Oper.upon_skip]
  refine h undef w1 ?_ ⟨⟨hos.trans hJ.os, htp.trans hJ.tape, hout.trans hJ.output, by rw [hsz]; exact hJ.size, fun j hj => (hfar j (by omega)).trans (hJ.block j hj)⟩, fun _ => ⟨g, ?_, hlo, hblk⟩⟩ hF
  · unfold RB; rw [if_pos hi]
    intro b2 cs hb2 hs2
    by_cases e : b2 = g
    · subst e; exact ⟨cs1, hblk, hN⟩
    · exact ⟨cs, (hfar b2 e).trans hb2, hs2⟩
  · unfold updO; rw [hdst]; exact hg
end
section
variable {P : Program} {Q : Exit → Act → World → Prop} {ops : Array Oper} {id : Nat} {a : Act} {w : World}
theorem regionB_draws (hm : P.follows .mixedOrders = true) (T N d si : Nat) (cs1 : Array Value) (n : Nat) (D : List (Option Nat)) (Gs : List (Value → World → Prop)) (hn : a.tmps.size = n) (hok : okI ops.toList D = true) (hsi : si < ops.size) (hG : ∀ F ∈ Gs, StayB T N F)
    (hstep : AllI (fun i o => ∀ k b f ww, k < ops.size → (∀ s, some s ∉ D → f s = a.tmps.getD s undef) → Deps (fun j => heldD D (fun i => Gs.getD i FAny) j f ww) o.after.toList → (∀ p, pathB ops.toList si (p ++ [i]) = true → b = false) → (∀ p, pathB ops.toList i (p ++ [si]) = true → b = true) → JB w T d cs1 k b f ww → StepXF P ops n a.defers (RB T N si i) (JB w T d cs1 (k + 1) (b || decide (i = si))) (Gs.getD i FAny) f ww o) 0 ops.toList)
    (hend : ∀ f ww, (∀ s, some s ∉ D → f s = a.tmps.getD s undef) → (∀ i, i < ops.size → heldD D (fun i => Gs.getD i FAny) i f ww) → (∃ g, f d = .pointer (some ⟨g, 0, none⟩) ∧ w.heap.size ≤ g ∧ Blk ww g T cs1) → Below w.heap.size w ww → Q .normal ⟨fr n f, a.defers⟩ ww) :
    (Code.region id ops true).wp P Q a w :=
  wp_region_invF hm n a.defers (fun s => a.tmps.getD s undef) D (fun i => Gs.getD i FAny) (RB T N si) (JB w T d cs1) si (act_fr hn) hok (fun j i v w w' => stayB_list hG j i v w w') ⟨below_drewN (Below.refl _ _) 1, fun h => by cases h⟩ hstep
    (fun f ww h1 h2 h3 => hend f ww h1 h2 (h3.2 (decide_eq_true hsi)) h3.1)
end
end Go.Proofs.YtmodpleonhniaaaGreatDoor
