/- A region that draws its order, lays a box and appends to an empty row, by an invariant that sees the frame too. No program of its own. -/
import Derived.Test.YtmodpleonhniaaaGreatDoorInvF
import Derived.Test.YtmodpleonhniaaaGreatDoorMrg1
namespace Go.Proofs.YtmodpleonhniaaaGreatDoor
set_option linter.unusedVariables false
open Go.RowKit
theorem set_os (w : World) (p : Addr) (u : Value) : (w.setCell p u).os = w.os := rfl
theorem set_tape (w : World) (p : Addr) (u : Value) : (w.setCell p u).tape = w.tape := rfl
theorem set_output (w : World) (p : Addr) (u : Value) : (w.setCell p u).output = w.output := rfl
theorem set_hsz (w : World) (p : Addr) (u : Value) : (w.setCell p u).heap.size = w.heap.size := by simp [World.setCell]
def StayC (T N : Nat) (F : Value → World → Prop) : Prop := (∀ v w w', F v w → Below w.heap.size w w' → F v w') ∧ (∀ v w w', F v w → (∀ b cs, Blk w b T cs → cs.size = N → ∃ cs', Blk w' b T cs' ∧ cs'.size = N) → (∀ b t cs, t ≠ T → Blk w b t cs → Blk w' b t cs) → w.heap.size ≤ w'.heap.size → F v w')
def RC (T N si : Nat) (i : Nat) (w w' : World) : Prop := if i = si then (∀ b cs, Blk w b T cs → cs.size = N → ∃ cs', Blk w' b T cs' ∧ cs'.size = N) ∧ (∀ b t cs, t ≠ T → Blk w b t cs → Blk w' b t cs) ∧ w.heap.size ≤ w'.heap.size else Below w.heap.size w w'
def JC (W : World) (T d dv : Nat) (_ : Nat) (b : Bool) (f : Nat → Value) (w : World) : Prop := Below W.heap.size W w ∧ (b = true → ∃ g cs, f d = .pointer (some ⟨g, 0, none⟩) ∧ f dv = .agg cs ∧ W.heap.size ≤ g ∧ Blk w g T cs)
/-- an own row -/
def FOwn (B e s n : Nat) (xs : List Value) (v : Value) (w : World) : Prop := ∃ A c, v = .slice A n c ∧ w.ownsRow B e s (.slice A n c) n xs
def FEmp (B e s : Nat) (v : Value) (w : World) : Prop := ∃ g, v = .slice (some ⟨g, 0, none⟩) 0 0 ∧ w.ownsRow B e s (.slice (some ⟨g, 0, none⟩) 0 0) 0 []
def FAgo (B e s n : Nat) (xs : List Value) (mk : Option Addr → Nat → Array Value) (v : Value) (w : World) : Prop := ∃ A c, v = .agg (mk A c) ∧ w.ownsRow B e s (.slice A n c) n xs
theorem own_typ {w w' : World} {B e s n T c : Nat} {A : Option Addr} {xs : List Value} (hT : e ≠ T) (h : w.ownsRow B e s (.slice A n c) n xs) (hk : ∀ b t cs, t ≠ T → Blk w b t cs → Blk w' b t cs) : w'.ownsRow B e s (.slice A n c) n xs := by
  refine ⟨h.1, ?_⟩
  rcases h.2 with hn | ⟨g, cap, cur, hv, hlo, hg, rest⟩
  · exact .inl hn
  · exact .inr ⟨g, cap, cur, hv, hlo, hk g e cur hT hg, rest⟩
theorem own_not {w : World} {B e s n T c g : Nat} {A : Option Addr} {xs : List Value} {cs : Array Value} (hT : e ≠ T) (h : w.ownsRow B e s (.slice A n c) n xs) (hb : Blk w g T cs) : obA A ≠ some g := by
  intro e9
  rcases h.2 with ⟨hv, -⟩ | ⟨g', cap, cur, hv, hlo, hg, -⟩
  · injection hv with h1; subst h1; simp [obA] at e9
  · injection hv with h1; subst h1
    simp [obA] at e9
    subst e9
    unfold Blk at hb
    rw [hg] at hb
    injection hb with hb
    injection hb with _ h2 _
    exact hT h2
theorem stayC_eq {T N : Nat} {u : Value} : StayC T N (FEq u) := ⟨fun _ _ _ h _ => h, fun _ _ _ h _ _ _ => h⟩
theorem stayC_any {T N : Nat} : StayC T N FAny := ⟨fun _ _ _ h _ => h, fun _ _ _ h _ _ _ => h⟩
theorem stayC_box {T N B : Nat} : StayC T N (FBox B T N) :=
  ⟨fun v w w' ⟨g, cs, e, hB, hb, hs⟩ h => ⟨g, cs, e, hB, hb.below h hb.lt, hs⟩, fun v w w' ⟨g, cs, e, hB, hb, hs⟩ h _ _ => by
    obtain ⟨cs', h1, h2⟩ := h g cs hb hs
    exact ⟨g, cs', e, hB, h1, h2⟩⟩
theorem stayC_own {T N B e s n : Nat} {xs : List Value} (hT : e ≠ T) : StayC T N (FOwn B e s n xs) :=
  ⟨fun _ _ _ ⟨A, c, h1, h2⟩ hb => ⟨A, c, h1, own_bel h2 hb⟩, fun _ _ _ ⟨A, c, h1, h2⟩ _ hk _ => ⟨A, c, h1, own_typ hT h2 hk⟩⟩
theorem stayC_emp {T N B e s : Nat} (hT : e ≠ T) : StayC T N (FEmp B e s) :=
  ⟨fun _ _ _ ⟨g, h1, h2⟩ hb => ⟨g, h1, own_bel h2 hb⟩, fun _ _ _ ⟨g, h1, h2⟩ _ hk _ => ⟨g, h1, own_typ hT h2 hk⟩⟩
theorem stayC_ago {T N B e s n : Nat} {xs : List Value} {mk : Option Addr → Nat → Array Value} (hT : e ≠ T) : StayC T N (FAgo B e s n xs mk) :=
  ⟨fun _ _ _ ⟨A, c, h1, h2⟩ hb => ⟨A, c, h1, own_bel h2 hb⟩, fun _ _ _ ⟨A, c, h1, h2⟩ _ hk _ => ⟨A, c, h1, own_typ hT h2 hk⟩⟩
theorem stayCs_nil {T N : Nat} : ∀ G ∈ ([] : List (Value → World → Prop)), StayC T N G := fun _ h => by cases h
theorem stayCs_cons {T N : Nat} {F : Value → World → Prop} {r : List (Value → World → Prop)} (h : StayC T N F) (k : ∀ G ∈ r, StayC T N G) : ∀ G ∈ F :: r, StayC T N G := fun G hG => by
  rcases List.mem_cons.1 hG with rfl | hG
  · exact h
  · exact k G hG
theorem stayC_list {T N si : Nat} {Gs : List (Value → World → Prop)} (h : ∀ F ∈ Gs, StayC T N F) : ∀ j i v w w', j ≠ i → (Gs.getD j FAny) v w → RC T N si i w w' → (Gs.getD j FAny) v w' := by
  intro j i v w w' _ hv hR
  rw [List.getD_eq_getElem?_getD] at hv ⊢
  unfold RC at hR
  cases e : Gs[j]? with
  | none => trivial
  | some F =>
    rw [e] at hv
    split at hR
    · exact (h F (List.mem_of_getElem? e)).2 v w w' hv hR.1 hR.2.1 hR.2.2
    · exact (h F (List.mem_of_getElem? e)).1 v w w' hv hR
section
variable {P : Program} {n : Nat} {ds : List Deferred} {W : World} {F : Value → World → Prop} {k si i T N d dv : Nat} {b : Bool} {f : Nat → Value} {w : World} {o : Oper}
theorem jc_other (hb : b = false) (hi : i ≠ si) (hJ : Below W.heap.size W w) (f : Nat → Value) (k : Nat) : JC W T d dv k (b || decide (i = si)) f w := ⟨hJ, fun h => by rw [hb, decide_eq_false hi] at h; cases h⟩
theorem sc_val (v : Value) (hJ : Below W.heap.size W w) (hrun : (execOp (⟨fr n f, ds⟩ : Act).eval o).run P w = .ok (.value v) w) (hF : F v w) (hb : b = false := by assumption) (hi : i ≠ si := by decide) : StepIF P n ds (RC T N si i) (JC W T d dv (k + 1) (b || decide (i = si))) F f w o := by
  intro K Q h
  unfold Oper.wp
  rw [hrun]
  exact h v w (by unfold RC; rw [if_neg hi]; exact Below.refl _ _) (jc_other hb hi hJ _ _) hF
/-- a value, behind the store or ahead of it, into another slot -/
theorem sc_val2 {x : Nat} (v : Value) (hJ : JC W T d dv k b f w) (hrun : (execOp (⟨fr n f, ds⟩ : Act).eval o).run P w = .ok (.value v) w) (hF : F v w) (hd : o.dst = some x := by rfl) (h1 : d ≠ x := by decide) (h2 : dv ≠ x := by decide) (hi : i ≠ si := by decide) : StepIF P n ds (RC T N si i) (JC W T d dv (k + 1) (b || decide (i = si))) F f w o := by
  intro K Q h
  unfold Oper.wp
  rw [hrun]
  refine h v w (by unfold RC; rw [if_neg hi]; exact Below.refl _ _) ⟨hJ.1, fun hb => ?_⟩ hF
  rw [decide_eq_false hi, Bool.or_false] at hb
  obtain ⟨g, cs, e1, e2, e3⟩ := hJ.2 hb
  refine ⟨g, cs, ?_, ?_, e3⟩
  · rw [hd]; show upd f x v d = _; rw [upd_other f v h1]; exact e1
  · rw [hd]; show upd f x v dv = _; rw [upd_other f v h2]; exact e2
theorem sc_alloc (v : Value) (ob : Obj) (hJ : Below W.heap.size W w) (hrun : (execOp (⟨fr n f, ds⟩ : Act).eval o).run P w = .ok (.value v) (w.alloc ob)) (hF : F v (w.alloc ob)) (hb : b = false := by assumption) (hi : i ≠ si := by decide) : StepIF P n ds (RC T N si i) (JC W T d dv (k + 1) (b || decide (i = si))) F f w o := by
  intro K Q h
  unfold Oper.wp
  rw [hrun]
  exact h v _ (by unfold RC; rw [if_neg hi]; exact (Below.refl _ _).alloc (Nat.le_refl _) ob) (jc_other hb hi (hJ.alloc hJ.size ob) _ _) hF
theorem sc_enter (fn : FuncId) (args : Array Value) (hJ : Below W.heap.size W w) (hrun : (execOp (⟨fr n f, ds⟩ : Act).eval o).run P w = .ok (.enter fn args) w)
    (hc : Calls P fn args w fun e w' => ∃ v, e = .returned v ∧ F v w' ∧ Below w.heap.size w w') (hb : b = false := by assumption) (hi : i ≠ si := by decide) : StepIF P n ds (RC T N si i) (JC W T d dv (k + 1) (b || decide (i = si))) F f w o := by
  intro K Q h
  unfold Oper.wp
  rw [hrun, Oper.upon_enter]
  refine hc.mono ?_
  rintro e w' ⟨v, rfl, hF, hw⟩
  exact h v w' (by unfold RC; rw [if_neg hi]; exact hw) (jc_other hb hi (hJ.trans (hw.mono hJ.size)) _ _) hF
/-- append of m elements onto an empty row without room -/
theorem sc_append (s x : Operand) (t : TypeId) (ho : o.op = .call { callee := .builtin .append, args := #[s, x], argTypes := #[t, t] })
    (e : TypeId) (it : TypeInfo) (z : Value) (size bytes : Nat) (ht : P.underlying t = some (.slice e)) (hit : P.info? e = some it) (hz : it.zero = some z)
    (hsize : it.size = size) (hby : it.bytes = bytes) (hzs : z.cells.size = size) (hsz : 0 < size) (hb64 : bytes ≤ 64) (g : Nat) (hs : (⟨fr n f, ds⟩ : Act).eval s = .slice (some ⟨g, 0, none⟩) 0 0) (B : Nat) (hown : w.ownsRow B e size (.slice (some ⟨g, 0, none⟩) 0 0) 0 []) (hB : B ≤ w.heap.size)
    (ad : Addr) (m c : Nat) (news : List Value) (hx : (⟨fr n f, ds⟩ : Act).eval x = .slice (some ad) m c) (hl : news.length = m * size) (hnews : ∀ j u, news[j]? = some u → w.cell? (ad.add j) = some u) (h1 : ∀ u ∈ news, u.oneCell' = true)
    (hm : 0 < m) (hm9 : m ≤ 4194304) (hJ : Below W.heap.size W w) (hF : ∀ A c' w', w'.ownsRow B e size (.slice A m c') m news → F (.slice A m c') w') (hb : b = false := by assumption) (hi : i ≠ si := by decide) : StepIF P n ds (RC T N si i) (JC W T d dv (k + 1) (b || decide (i = si))) F f w o := by
  intro K Q h
  have hmul : (0 + m) * bytes ≤ 4194304 * 64 := Nat.mul_le_mul (by omega) hb64
  have hgr := run_append_grow (P := P) (w := w) t o.type e it z ht hit hz ⟨g, 0, none⟩ 0 0 [] (by simp) (fun j u hu => by simp at hu) ad m c news (by rw [hsize]; exact hl) hnews (by omega) (by omega) (growslice_fits (by omega) (by rw [hby]; omega))
  obtain ⟨g8, c8, w8, r8, o8, gr8, at8, lt8⟩ := run_append_lies (P := P) (w := w) t o.type B e it z size bytes ht hit hz hsize hby hzs hsz _ 0 [] hown ad m c news hl hnews h1 hm (by unfold maxLen; omega) (by omega) hB _ rfl
  have r9 := r8
  rw [hgr] at r9
  injection r9 with r10 r11
  have hbw : Below w.heap.size w w8 := by
    rw [← r11]
    exact (below_drewN (Below.refl w.heap.size w) 1).alloc (Nat.le_refl _) _
  rw [Nat.zero_add] at o8 r8
  rw [List.nil_append] at o8
  unfold Oper.wp execOp
  simp only [ho, resolve, invoke, builtin, Sem.run_bind, Sem.run_pure, Result.andThen_ok, List.map_toArray, List.map_cons, List.map_nil, hs, hx, r8]
  exact h _ w8 (by unfold RC; rw [if_neg hi]; exact hbw) (jc_other hb hi (hJ.trans (hbw.mono hJ.size)) _ _) (hF _ _ _ o8)
/-- the store: into block g, whose cells become cs1 -/
theorem sc_store (g : Nat) (w1 : World) (cs1 : Array Value) (hi : i = si) (hdst : o.dst = none) (hg : f d = .pointer (some ⟨g, 0, none⟩)) (hv : f dv = .agg cs1) (hlo : W.heap.size ≤ g) (hN : cs1.size = N) (hJ : Below W.heap.size W w)
    (hrun : (execOp (⟨fr n f, ds⟩ : Act).eval o).run P w = .ok .skip w1) (hblk : Blk w1 g T cs1) (hblk0 : ∃ cs0, Blk w g T cs0) (hfar : ∀ j, j ≠ g → w1.heap[j]? = w.heap[j]?) (hos : w1.os = w.os) (htp : w1.tape = w.tape) (hout : w1.output = w.output) (hsz : w1.heap.size = w.heap.size) (hF : F undef w1) : StepIF P n ds (RC T N si i) (JC W T d dv (k + 1) (b || decide (i = si))) F f w o := by
  intro K Q h
  unfold Oper.wp
  rw [hrun, Oper.upon_skip]
  refine h undef w1 ?_ ⟨⟨hos.trans hJ.os, htp.trans hJ.tape, hout.trans hJ.output, by rw [hsz]; exact hJ.size, fun j hj => (hfar j (by omega)).trans (hJ.block j hj)⟩, fun _ => ⟨g, cs1, ?_, ?_, hlo, hblk⟩⟩ hF
  · unfold RC; rw [if_pos hi]
    refine ⟨?_, ?_, by rw [hsz]; exact Nat.le_refl _⟩
    · intro b2 cs hb2 hs2
      by_cases e : b2 = g
      · subst e; exact ⟨cs1, hblk, hN⟩
      · exact ⟨cs, (hfar b2 e).trans hb2, hs2⟩
    · intro b2 t2 cs ht hb2
      by_cases e : b2 = g
      · subst e
        obtain ⟨cs0, h0⟩ := hblk0
        unfold Blk at hb2 h0
        rw [h0] at hb2
        injection hb2 with hb2
        injection hb2 with _ h2 _
        exact absurd h2.symm ht
      · exact (hfar b2 e).trans hb2
  · unfold updO; rw [hdst]; exact hg
  · unfold updO; rw [hdst]; exact hv
end
section
variable {P : Program} {Q : Exit → Act → World → Prop} {ops : Array Oper} {id : Nat} {a : Act} {w : World}
theorem regionC_draws (hm : P.follows .mixedOrders = true) (T N d dv si : Nat) (n : Nat) (D : List (Option Nat)) (Gs : List (Value → World → Prop)) (hn : a.tmps.size = n) (hok : okI ops.toList D = true) (hsi : si < ops.size) (hG : ∀ F ∈ Gs, StayC T N F)
    (hstep : AllI (fun i o => ∀ k b f ww, k < ops.size → (∀ s, some s ∉ D → f s = a.tmps.getD s undef) → Deps (fun j => heldD D (fun i => Gs.getD i FAny) j f ww) o.after.toList → (∀ p, pathB ops.toList si (p ++ [i]) = true → b = false) → (∀ p, pathB ops.toList i (p ++ [si]) = true → b = true) → JC w T d dv k b f ww → StepXF P ops n a.defers (RC T N si i) (JC w T d dv (k + 1) (b || decide (i = si))) (Gs.getD i FAny) f ww o) 0 ops.toList)
    (hend : ∀ f ww, (∀ s, some s ∉ D → f s = a.tmps.getD s undef) → (∀ i, i < ops.size → heldD D (fun i => Gs.getD i FAny) i f ww) → (∃ g cs, f d = .pointer (some ⟨g, 0, none⟩) ∧ f dv = .agg cs ∧ w.heap.size ≤ g ∧ Blk ww g T cs) → Below w.heap.size w ww → Q .normal ⟨fr n f, a.defers⟩ ww) :
    (Code.region id ops true).wp P Q a w :=
  wp_region_invF hm n a.defers (fun s => a.tmps.getD s undef) D (fun i => Gs.getD i FAny) (RC T N si) (JC w T d dv) si (act_fr hn) hok (fun j i v w w' => stayC_list hG j i v w w') ⟨below_drewN (Below.refl _ _) 1, fun h => by cases h⟩ hstep
    (fun f ww h1 h2 h3 => hend f ww h1 h2 (h3.2 (decide_eq_true hsi)) h3.1)
theorem arr6 {cs : Array Value} (h : cs.size = 6) : ∃ a b c d e f, cs = #[a, b, c, d, e, f] := by
  obtain ⟨l⟩ := cs
  match l, h with
  | [a, b, c, d, e, f], _ => exact ⟨a, b, c, d, e, f, rfl⟩
end
end Go.Proofs.YtmodpleonhniaaaGreatDoor
