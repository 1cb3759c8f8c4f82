/- Contracts of FollowLinks, of the reference and of the program. Condition: lengths at most 2^20. -/
import Derived.Test.YtfmdpnnddhelaaaFol3
import Derived.Test.YtfmdpnnddhelaaaRecLink
import Derived.Test.YtfmdpnnddhelaaaSam2
namespace Go.Proofs.Ytfmdpnnddhelaaa
open Go.RowKit
set_option linter.unusedSimpArgs false
set_option linter.unusedVariables false
def linksV (a b : List Int) : List (Int × Int) := if okK a = true ∧ okK b = true then linksTo a b else []
theorem linksV_no {a b : List Int} (h : okK a = false ∨ okK b = false) : linksV a b = [] := by
  unfold linksV
  rw [if_neg]
  rintro ⟨h1, h2⟩
  rcases h with h | h
  · rw [h] at h1; cases h1
  · rw [h] at h2; cases h2
theorem linksV_yes {a b : List Int} (ha : okK a = true) (hb : okK b = true) : linksV a b = linksTo a b := by unfold linksV; rw [if_pos ⟨ha, hb⟩]
theorem linksV_len (a b : List Int) : (linksV a b).length ≤ a.length + b.length ∧ (linksV a b).length ≤ 80 := by
  unfold linksV
  split
  · rename_i h
    have h1 := links_len a b
    have h2 := okK_len h.1
    have h3 := okK_len h.2
    omega
  · simp
/-- append of a whole slice onto a row of one element, just laid -/
theorem append_front {P : Program} {ops : Array Oper} {rest : List Oper} {o : Oper} {a : Act} {Q : Exit → Act → World → Prop} (hgd : o.guard = none) (s x : Operand) (t : TypeId)
    (ho : o.op = .call { callee := .builtin .append, args := #[s, x], argTypes := #[t, t] })
    (e : TypeId) (i : TypeInfo) (z : Value) (size bytes : Nat) (ht : P.underlying t = some (.slice e)) (hi : P.info? e = some i) (hz : i.zero = some z)
    (hsize : i.size = size) (hby : i.bytes = bytes) (hzs : z.cells.size = size) (hsz : 0 < size) (hb64 : bytes ≤ 64)
    (W : World) (us : List Value) (hus : us.length = size) (hone : ∀ u ∈ us, u.oneCell' = true)
    (b off m d : Nat) (ys : List Value) (hr : Rd W W.heap.size size (some ⟨b, off, none⟩) m ys) (hone2 : ∀ u ∈ ys, u.oneCell' = true) (hm : m ≤ 4194304)
    (zW : Nat) (hs : a.eval s = .slice (some ⟨zW, 0, none⟩) 1 1) (hx : a.eval x = .slice (some ⟨b, off, none⟩) m d) (hzW : zW = W.heap.size)
    (h : ∀ g c w', w'.ownsRow W.heap.size e size (.slice (some ⟨g, 0, none⟩) (m + 1) c) (m + 1) (us ++ ys) → Below W.heap.size W w' →
      wpList P ops Q rest (a.put o.dst (.slice (some ⟨g, 0, none⟩) (m + 1) c)) w') : wpList P ops Q (o :: rest) a (W.alloc (.cells us.toArray e)) := by
  subst hzW
  have hmul : (1 + m) * bytes ≤ (4194304 + 1) * 64 := Nat.mul_le_mul (by omega) hb64
  have hown : (W.alloc (.cells us.toArray e)).ownsRow W.heap.size e size (.slice (some ⟨W.heap.size, 0, none⟩) 1 1) 1 us := by
    have := (Blk.new W e us.toArray).own (base := W.heap.size) (size := size) (n := 1) (Nat.le_refl _) (by unfold maxLen; omega) (by simpa using hus)
    simpa using this
  refine wpList_append_own _ hgd s x t ho W.heap.size e i z size bytes ht hi hz hsize hby hzs hsz _ 1 us hs hown ⟨b, off, none⟩ m d ys hx hr.1 ?_ hone2 (by unfold maxLen; omega) (by omega) (by simp) ?_
  · intro j u hu
    have hj : 0 < m := by
      rcases Nat.eq_zero_or_pos m with h0 | h0
      · have := hr.1; rw [List.getElem?_eq_none (by rw [this, h0]; omega)] at hu; cases hu
      · exact h0
    obtain ⟨b', off', e', hb, hc⟩ := (Rd.alloc hr (Nat.le_refl _) (.cells us.toArray e)).2 hj
    injection e' with e'; injection e' with e1 e2; subst e1; subst e2
    rw [Go.WideShapes.add_plain]
    exact hc j u hu
  · intro v' w' hown' hg _
    obtain ⟨g, cap, hv, _, _⟩ := hown'.form (by omega)
    rw [hv, Nat.add_comm 1 m] at hown' ⊢
    have hgb : Below W.heap.size (W.alloc (.cells us.toArray e)) w' := (Below.refl _ _).grown hg (by simp) (fun k hk => by simp [Value.ownBlock] at hk; omega)
    exact h _ _ w' hown' (((Below.refl _ _).alloc (Nat.le_refl _) _).trans hgb)
/-- a row in new memory, that is not nil -/
def RetRowG (w : World) (E size n : Nat) (xs : List Value) (e : Ending) (w' : World) : Prop :=
  ∃ g c, e = .returned (.slice (some ⟨g, 0, none⟩) n c) ∧ w'.ownsRow w.heap.size E size (.slice (some ⟨g, 0, none⟩) n c) n xs ∧ Below w.heap.size w w'
theorem fl_one_cell {zs : List (Int × Int)} : ∀ u ∈ fl encLink zs, u.oneCell' = true := by
  intro u hu
  obtain ⟨z, _, hz⟩ := List.mem_flatMap.1 hu
  simp [encLink] at hz
  rcases hz with rfl | rfl <;> simp [Value.oneCell']
theorem link_one_cell (x y : Int) : ∀ u ∈ [Value.int .i64 x, Value.int .i64 y], u.oneCell' = true := by
  intro u hu; simp at hu; rcases hu with rfl | rfl <;> simp [Value.oneCell']
/-- the whole table -/
theorem TB.all {w : World} {lo n m : Nat} {vs : List Value} {f : Nat → Nat → Int} {A : Option Addr} {c : Nat} (h : TB w lo vs n m f) (hv : w.ownsRow lo 22 1 (.slice A n c) n vs) (hn : 0 < n) (hm : 0 < m) :
    ∃ g, A = some ⟨g, 0, none⟩ ∧ g < w.heap.size ∧ ∀ i, i < n → ∃ gi ci, gi < w.heap.size ∧ w.cell? ⟨g, i, none⟩ = some (.slice (some ⟨gi, 0, none⟩) m ci) ∧ ∀ j, j < m → w.cell? ⟨gi, j, none⟩ = some (.int .i64 (f i j)) := by
  obtain ⟨g, gi, ci, e, h1, h2⟩ := h.at_ hv hn hm
  refine ⟨g, e, World.block_lt_of_cell? w _ h1, fun i hi => ?_⟩
  obtain ⟨g', gi', ci', e', h1', h2'⟩ := h.at_ hv hi hm
  rw [e] at e'
  injection e' with e'; injection e' with e1 _
  subst e1
  exact ⟨gi', ci', World.block_lt_of_cell? w _ (h2' 0 hm), h1', h2'⟩
theorem infoLink' : (Try.prog.info? 42).map (fun i => (i.zero, i.size, i.bytes)) = some (some (Value.agg #[Value.int .i64 0, Value.int .i64 0]), 2, 16) := by kernel_rfl
/-- one step of the alignment from the end on -/
theorem bt_step1 {a b : List Int} {f i j : Nat} (hf : i + j ≤ f) (hi : 0 < i) (hj : 0 < j) (h : D a b i j = D a b (i - 1) (j - 1) + lc (gi a (i - 1)) (gi b (j - 1))) : btL a b f i j = (((i - 1 : Nat) : Int), ((j - 1 : Nat) : Int)) :: btL a b (f - 1) (i - 1) (j - 1) := by
  obtain ⟨f, rfl⟩ : ∃ f', f = f' + 1 := ⟨f - 1, by omega⟩
  rw [btL, if_neg (by omega), if_pos ⟨hi, hj, h⟩]; rfl
theorem bt_step2 {a b : List Int} {f i j : Nat} (hf : i + j ≤ f) (hi : 0 < i) (h1 : ¬(0 < j ∧ D a b i j = D a b (i - 1) (j - 1) + lc (gi a (i - 1)) (gi b (j - 1)))) (h : D a b i j = D a b (i - 1) j + 2) : btL a b f i j = (((i - 1 : Nat) : Int), -1) :: btL a b (f - 1) (i - 1) j := by
  obtain ⟨f, rfl⟩ : ∃ f', f = f' + 1 := ⟨f - 1, by omega⟩
  rw [btL, if_neg (by omega), if_neg (fun x => h1 ⟨x.2.1, x.2.2⟩), if_pos ⟨hi, h⟩]; rfl
theorem bt_step3 {a b : List Int} {f i j : Nat} (hf : i + j ≤ f) (hj : 0 < j) (h1 : ¬(0 < i ∧ D a b i j = D a b (i - 1) (j - 1) + lc (gi a (i - 1)) (gi b (j - 1)))) (h : ¬(0 < i ∧ D a b i j = D a b (i - 1) j + 2)) : btL a b f i j = (-1, ((j - 1 : Nat) : Int)) :: btL a b (f - 1) i (j - 1) := by
  obtain ⟨f, rfl⟩ : ∃ f', f = f' + 1 := ⟨f - 1, by omega⟩
  rw [btL, if_neg (by omega), if_neg (fun x => h1 ⟨x.1, x.2.2⟩), if_neg h]; rfl
theorem bt_end {a b : List Int} (f : Nat) : btL a b f 0 0 = [] := by cases f <;> simp [btL]
set_option maxRecDepth 100000 in
set_option maxHeartbeats 8000000 in
theorem spec_FollowLinksG (A C : Option Addr) (c d : Nat) (a b : List Int) (w : World) (hx : RdI w w.heap.size A a) (hy : RdI w w.heap.size C b) (hl : a.length ≤ 1048576) (hl2 : b.length ≤ 1048576) :
    Calls Try.prog 27 #[.slice A a.length c, .slice C b.length d] w (RetRowG w 42 2 (linksV a b).length (fl encLink (linksV a b))) := by
  have HE := Lib.hid (own_empty (e := 42) (size := 2) (Below.refl w.heap.size w) (Nat.le_refl _))
  have HX := Lib.hid ((hx.al (Nat.le_refl _) (.cells #[] 42)).more (C := (w.alloc (.cells #[] 42)).heap.size) (by simp))
  have HY := Lib.hid ((hy.al (Nat.le_refl _) (.cells #[] 42)).more (C := (w.alloc (.cells #[] 42)).heap.size) (by simp))
  clear hx hy
  cases ha : okK a
  · rw [linksV_no (.inl ha)]
    have HA := Lib.hid ha; clear ha
    go_enter Try.func27, Try.ntmps27
    go_wp2_with fail
    refine (spec_l24Valid A c a _ HX.out hl).mono ?_
    rw [HA.out]
    rintro e w' ⟨rfl, rfl⟩
    go_wp2
    go_ret
    exact ⟨_, _, rfl, HE.out.1, HE.out.2.1⟩
  cases hb : okK b
  · rw [linksV_no (.inr hb)]
    have HA := Lib.hid ha; have HB := Lib.hid hb; clear ha hb
    go_enter Try.func27, Try.ntmps27
    go_wp2_with fail
    refine (spec_l24Valid A c a _ HX.out hl).mono ?_
    rw [HA.out]
    rintro e w' ⟨rfl, rfl⟩
    go_wp2_with fail
    refine (spec_l24Valid C d b _ HY.out hl2).mono ?_
    rw [HB.out]
    rintro e w' ⟨rfl, rfl⟩
    go_wp2
    go_ret
    exact ⟨_, _, rfl, HE.out.1, HE.out.2.1⟩
  rw [linksV_yes ha hb]
  have HLL := Lib.hid (links_len a b)
  have hla := okK_len ha
  have hlb := okK_len hb
  have HKA := Lib.hid ha; have HKB := Lib.hid hb; clear ha hb
  obtain ⟨i0, hi, hz0, hz1, hz2⟩ := info_parts infoLink'
  have HI := Lib.hid hi; have H0 := Lib.hid hz0; have H1 := Lib.hid hz1; have H2 := Lib.hid hz2; clear hi hz0 hz1 hz2
  go_enter Try.func27, Try.ntmps27
  go_wp2_with fail
  refine (spec_l24Valid A c a _ HX.out hl).mono ?_
  rw [HKA.out]
  rintro e w' ⟨rfl, rfl⟩
  go_wp2_with fail
  refine (spec_l24Valid C d b _ HY.out hl2).mono ?_
  rw [HKB.out]
  rintro e w' ⟨rfl, rfl⟩
  go_wp2_with fail
  refine (spec_l24Table A C c d a b _ HX.out HY.out HKA.out HKB.out).mono ?_
  rintro e w1 ⟨A1, c1, vs, rfl, ho, ht, hb1⟩
  obtain ⟨g, rfl, hgl, hall⟩ := ht.all ho (by omega) (by omega)
  have HT := Lib.hid hall
  have HE1 := Lib.hid (own_keep HE.out.1 hb1)
  have HX1 := Lib.hid (HX.out.below hb1 (Nat.le_refl _)); have HY1 := Lib.hid (HY.out.below hb1 (Nat.le_refl _))
  have zA := hb1.size
  have z1 : w.heap.size + 1 ≤ w1.heap.size := by have := hb1.size; simpa using this
  have HW := Lib.hid (((Below.refl w.heap.size w).alloc (Nat.le_refl _) (.cells #[] 42)).trans (hb1.mono (by simp)))
  clear ho ht hall hb1 HX HY HE
  go_wp2
  go_loopw [5, 7, 8] (fun v vi vj wr => ∃ (i j f go co : Nat) (out : List (Int × Int)), i ≤ a.length ∧ j ≤ b.length ∧ i + j ≤ f ∧ vi = .int .i64 i ∧ vj = .int .i64 j ∧ v = .slice (some ⟨go, 0, none⟩) out.length co ∧
    wr.ownsRow w.heap.size 42 2 (.slice (some ⟨go, 0, none⟩) out.length co) out.length (fl encLink out) ∧ (btL a b f i j).reverse ++ out = linksTo a b ∧ Below w1.heap.size w1 wr) (fun _ vi vj _ => (intOf vi).toNat + (intOf vj).toNat)
  case atStart => exact ⟨a.length, b.length, a.length + b.length, _, _, [], Nat.le_refl _, Nat.le_refl _, Nat.le_refl _, rfl, rfl, rfl, HE1.out, by rw [List.append_nil]; rfl, Below.refl _ _⟩
  case round =>
    obtain ⟨i, j, f, go, co, out, hi, hj, hf, rfl, rfl, rfl, hown, hrun, hbel⟩ := hrel
    have hol : out.length ≤ 80 := by
      have := congrArg List.length hrun
      have h2 := HLL.out
      simp only [List.length_append, List.length_reverse] at this
      omega
    have HO := Lib.hid hown; have HR := Lib.hid hrun; have HB := Lib.hid hbel
    have hsz := hbel.size
    have HRO := Lib.hid (Rd.of_own hown)
    clear hown hrun HE1
    by_cases h0 : i = 0 ∧ j = 0
    · obtain ⟨rfl, rfl⟩ := h0
      have he : out = linksTo a b := by have := HR.out; rw [bt_end] at this; simpa using this
      have HEQ := Lib.hid he
      clear he hbel
      go_wp2
      go_ret
      rw [← HEQ.out]
      exact ⟨_, _, rfl, HO.out, HW.out.trans (HB.out.mono (by omega))⟩
    by_cases hi0 : 0 < i
    · obtain ⟨i, rfl⟩ : ∃ i', i = i' + 1 := ⟨i - 1, by omega⟩
      obtain ⟨ga, ca, hga, ha0, ha1⟩ := HT.out (i + 1) (by omega)
      obtain ⟨gb, cb, hgb, hb0, hb1⟩ := HT.out i (by omega)
      have ha1j := ha1 j (by omega); have hb1j := hb1 j (by omega)
      have k1 : ∀ ob, (wr.alloc ob).cell? ⟨g, i + 1, none⟩ = some (.slice (some ⟨ga, 0, none⟩) (b.length + 1) ca) := fun ob => (World.cell?_alloc_lt wr ob _ (by simp; omega)).trans ((hbel.cell (p := ⟨g, i + 1, none⟩) (by simp; omega)).trans ha0)
      have k2 : ∀ ob, (wr.alloc ob).cell? ⟨ga, j, none⟩ = some (.int .i64 (D a b (i + 1) j)) := fun ob => (World.cell?_alloc_lt wr ob _ (by simp; omega)).trans ((hbel.cell (p := ⟨ga, j, none⟩) (by simp; omega)).trans ha1j)
      have k3 : ∀ ob, (wr.alloc ob).cell? ⟨g, i, none⟩ = some (.slice (some ⟨gb, 0, none⟩) (b.length + 1) cb) := fun ob => (World.cell?_alloc_lt wr ob _ (by simp; omega)).trans ((hbel.cell (p := ⟨g, i, none⟩) (by simp; omega)).trans hb0)
      have k5 : ∀ ob, (wr.alloc ob).cell? ⟨gb, j, none⟩ = some (.int .i64 (D a b i j)) := fun ob => (World.cell?_alloc_lt wr ob _ (by simp; omega)).trans ((hbel.cell (p := ⟨gb, j, none⟩) (by simp; omega)).trans hb1j)
      have n1 : ((i : Int) + 1).toNat = i + 1 := by omega
      have p1 : (i : Int) + 1 < (a.length : Int) + 1 := by omega
      have p2 : (i : Int) < (a.length : Int) + 1 := by omega
      have p3 : (i : Int) < (a.length : Int) := by omega
      have q1 : (j : Int) < (b.length : Int) + 1 := by omega
      have dA := D_bd a b (i := i + 1) (j := j) (by omega) (by omega)
      have dB := D_bd a b (i := i) (j := j) (by omega) (by omega)
      by_cases hj0 : 0 < j
      · obtain ⟨j, rfl⟩ : ∃ j', j = j' + 1 := ⟨j - 1, by omega⟩
        have hb2j := hb1 j (by omega)
        have k4 : ∀ ob, (wr.alloc ob).cell? ⟨gb, j, none⟩ = some (.int .i64 (D a b i j)) := fun ob => (World.cell?_alloc_lt wr ob _ (by simp; omega)).trans ((hbel.cell (p := ⟨gb, j, none⟩) (by simp; omega)).trans hb2j)
        obtain ⟨bx, ox, rfl, hbx, hkx⟩ := HX1.out.at_ (k := i) (by omega)
        obtain ⟨by_, oy, rfl, hby, hky⟩ := HY1.out.at_ (k := j) (by omega)
        have k6 : ∀ ob, (wr.alloc ob).cell? ⟨bx, ox + i, none⟩ = some (.int .i64 (gi a i)) := fun ob => (World.cell?_alloc_lt wr ob _ (by simp; omega)).trans ((hbel.cell (p := ⟨bx, ox + i, none⟩) (by simp; omega)).trans hkx)
        have k7 : ∀ ob, (wr.alloc ob).cell? ⟨by_, oy + j, none⟩ = some (.int .i64 (gi b j)) := fun ob => (World.cell?_alloc_lt wr ob _ (by simp; omega)).trans ((hbel.cell (p := ⟨by_, oy + j, none⟩) (by simp; omega)).trans hky)
        have n2 : ((j : Int) + 1).toNat = j + 1 := by omega
        have q2 : (j : Int) + 1 < (b.length : Int) + 1 := by omega
        have q3 : (j : Int) < (b.length : Int) := by omega
        have q4 : (j : Int) < (b.length : Int) + 1 := by omega
        have hga' := okK_at HKA.out (k := i) (by omega)
        have hgb' := okK_at HKB.out (k := j) (by omega)
        have hlc := lc_bd (gi a i) (gi b j)
        have dC := D_bd a b (i := i) (j := j) (by omega) (by omega)
        have S1 := Lib.hid (fun h => bt_step1 (a := a) (b := b) (f := f) (i := i + 1) (j := j + 1) hf (by omega) (by omega) h)
        have S2 := Lib.hid (fun h1 h => bt_step2 (a := a) (b := b) (f := f) (i := i + 1) (j := j + 1) hf (by omega) h1 h)
        have S3 := Lib.hid (fun h1 h => bt_step3 (a := a) (b := b) (f := f) (i := i + 1) (j := j + 1) hf (by omega) h1 h)
        simp only [Nat.add_sub_cancel] at S1 S2 S3
        clear ha0 ha1 hb0 hb1 ha1j hb1j hb2j hkx hky
        generalize hd1 : D a b (i + 1) (j + 1) = d1 at *
        generalize hd2 : D a b i (j + 1) = d2 at *
        generalize hd3 : D a b i j = d3 at *
        generalize hx1 : gi a i = x1 at *
        generalize hx2 : gi b j = x2 at *
        clear hd1 hd2 hd3 hx1 hx2
        by_cases e1 : d1 = d3 + lc x1 x2
        · have t1 : (d1 == d3 + lc x1 x2) = true := beq_iff_eq.2 e1
          have ST := Lib.hid (S1.out e1)
          clear e1 S1 S2 S3
          go_wp2_with fail
          go_quiet ((go_at_call 41; first | exact quiet_left (spec_l24Wrong _ _ _ (by omega) (by omega)) | exact quiet_add_left (spec_l24Wrong _ _ _ (by omega) (by omega))))
          go_wp2_with (at_builtin; refine append_front rfl _ _ 34 rfl 42 i0 (.agg #[Value.int .i64 0, Value.int .i64 0]) 2 16 Try.underlying34 HI.out H0.out H1.out H2.out rfl (by decide) (by decide) _ [.int .i64 ((i : Int)), .int .i64 ((j : Int))] rfl (link_one_cell _ _) go 0 out.length co (fl encLink out) (by refine Rd.more (B := wr.heap.size) (Rd.below HRO.out (C := wr.heap.size) (by (repeat (first | exact Below.refl _ _ | refine Below.setCell ?_ (by simp) _ | refine Below.alloc ?_ (by simp) _ | refine below_drewN ?_ _ | refine Below.drew ?_))) (Nat.le_refl _)) (by simp)) fl_one_cell (by omega) _ rfl rfl (by simp [World.setCell]) ?_; intro g2 c2 w2 hown2 hbel2)
          have hsz2 := hbel2.size
          have hb3 : Below wr.heap.size wr w2 := by refine Below.trans ?_ (hbel2.mono (by simp)); (repeat (first | exact Below.refl _ _ | refine Below.setCell ?_ (by simp) _ | refine Below.alloc ?_ (by simp) _ | refine below_drewN ?_ _ | refine Below.drew ?_))
          go_roundw
          case rel => exact ⟨i, j, f - 1, g2, c2, ((i : Int), (j : Int)) :: out, by omega, by omega, by omega, by go_num, by go_num, rfl, own_mono hown2 (by simp; omega), by rw [← HR.out, ST.out]; simp, HB.out.trans (hb3.mono hsz)⟩
          case measure => simp [intOf]; try omega
        · have t1 : (d1 == d3 + lc x1 x2) = false := beq_eq_false_iff_ne.2 e1
          by_cases e2 : d1 = d2 + 2
          · have t2 : (d1 == d2 + 2) = true := beq_iff_eq.2 e2
            have ST := Lib.hid (S2.out (fun h => e1 h.2) e2)
            clear e1 e2 S1 S2 S3
            go_wp2_with fail
            go_quiet ((go_at_call 41; first | exact quiet_left (spec_l24Wrong _ _ _ (by omega) (by omega)) | exact quiet_add_left (spec_l24Wrong _ _ _ (by omega) (by omega))))
            go_wp2_with fail
            go_quiet ((go_at_call 41; first | exact quiet_left (spec_l24Wrong _ _ _ (by omega) (by omega)) | exact quiet_add_left (spec_l24Wrong _ _ _ (by omega) (by omega))))
            go_wp2_with (at_builtin; refine append_front rfl _ _ 34 rfl 42 i0 (.agg #[Value.int .i64 0, Value.int .i64 0]) 2 16 Try.underlying34 HI.out H0.out H1.out H2.out rfl (by decide) (by decide) _ [.int .i64 ((i : Int)), .int .i64 (-1)] rfl (link_one_cell _ _) go 0 out.length co (fl encLink out) (by refine Rd.more (B := wr.heap.size) (Rd.below HRO.out (C := wr.heap.size) (by (repeat (first | exact Below.refl _ _ | refine Below.setCell ?_ (by simp) _ | refine Below.alloc ?_ (by simp) _ | refine below_drewN ?_ _ | refine Below.drew ?_))) (Nat.le_refl _)) (by simp)) fl_one_cell (by omega) _ rfl rfl (by simp [World.setCell]) ?_; intro g2 c2 w2 hown2 hbel2)
            have hsz2 := hbel2.size
            have hb3 : Below wr.heap.size wr w2 := by refine Below.trans ?_ (hbel2.mono (by simp)); (repeat (first | exact Below.refl _ _ | refine Below.setCell ?_ (by simp) _ | refine Below.alloc ?_ (by simp) _ | refine below_drewN ?_ _ | refine Below.drew ?_))
            go_roundw
            case rel => exact ⟨i, j + 1, f - 1, g2, c2, ((i : Int), -1) :: out, by omega, by omega, by omega, by go_num, by go_num, rfl, own_mono hown2 (by simp; omega), by rw [← HR.out, ST.out]; simp, HB.out.trans (hb3.mono hsz)⟩
            case measure => simp [intOf]; try omega
          · have t2 : (d1 == d2 + 2) = false := beq_eq_false_iff_ne.2 e2
            have ST := Lib.hid (S3.out (fun h => e1 h.2) (fun h => e2 h.2))
            clear e1 e2 S1 S2 S3
            go_wp2_with fail
            go_quiet ((go_at_call 41; first | exact quiet_left (spec_l24Wrong _ _ _ (by omega) (by omega)) | exact quiet_add_left (spec_l24Wrong _ _ _ (by omega) (by omega))))
            go_wp2_with fail
            go_quiet ((go_at_call 41; first | exact quiet_left (spec_l24Wrong _ _ _ (by omega) (by omega)) | exact quiet_add_left (spec_l24Wrong _ _ _ (by omega) (by omega))))
            go_wp2_with (at_builtin; refine append_front rfl _ _ 34 rfl 42 i0 (.agg #[Value.int .i64 0, Value.int .i64 0]) 2 16 Try.underlying34 HI.out H0.out H1.out H2.out rfl (by decide) (by decide) _ [.int .i64 (-1), .int .i64 ((j : Int))] rfl (link_one_cell _ _) go 0 out.length co (fl encLink out) (by refine Rd.more (B := wr.heap.size) (Rd.below HRO.out (C := wr.heap.size) (by (repeat (first | exact Below.refl _ _ | refine Below.setCell ?_ (by simp) _ | refine Below.alloc ?_ (by simp) _ | refine below_drewN ?_ _ | refine Below.drew ?_))) (Nat.le_refl _)) (by simp)) fl_one_cell (by omega) _ rfl rfl (by simp [World.setCell]) ?_; intro g2 c2 w2 hown2 hbel2)
            have hsz2 := hbel2.size
            have hb3 : Below wr.heap.size wr w2 := by refine Below.trans ?_ (hbel2.mono (by simp)); (repeat (first | exact Below.refl _ _ | refine Below.setCell ?_ (by simp) _ | refine Below.alloc ?_ (by simp) _ | refine below_drewN ?_ _ | refine Below.drew ?_))
            go_roundw
            case rel => exact ⟨i + 1, j, f - 1, g2, c2, (-1, (j : Int)) :: out, by omega, by omega, by omega, by go_num, by go_num, rfl, own_mono hown2 (by simp; omega), by rw [← HR.out, ST.out]; simp, HB.out.trans (hb3.mono hsz)⟩
            case measure => simp [intOf]; try omega
      · have hj1 : ¬ (0 < (j : Int)) := by omega
        have hj2 : decide (0 < j) = false := decide_eq_false hj0
        have hj3 : decide (0 < (j : Int)) = false := decide_eq_false hj1
        have e1 : D a b (i + 1) j = D a b i j + 2 := by rw [show j = 0 by omega, D_i0, D_i0]; omega
        have t2 : (D a b (i + 1) j == D a b i j + 2) = true := beq_iff_eq.2 e1
        have ST := Lib.hid (bt_step2 (a := a) (b := b) (f := f) (i := i + 1) (j := j) hf (by omega) (by omega) (by rw [Nat.add_sub_cancel]; exact e1))
        simp only [Nat.add_sub_cancel] at ST
        clear ha0 ha1 hb0 hb1 ha1j hb1j e1 hj1
        generalize hd1 : D a b (i + 1) j = d1 at *
        generalize hd2 : D a b i j = d2 at *
        clear hd1 hd2
        go_wp2_with fail
        go_quiet ((go_at_call 41; first | exact quiet_left (spec_l24Wrong _ _ _ (by omega) (by omega)) | exact quiet_add_left (spec_l24Wrong _ _ _ (by omega) (by omega))))
        go_wp2_with fail
        go_quiet ((go_at_call 41; first | exact quiet_left (spec_l24Wrong _ _ _ (by omega) (by omega)) | exact quiet_add_left (spec_l24Wrong _ _ _ (by omega) (by omega))))
        go_wp2_with (at_builtin; refine append_front rfl _ _ 34 rfl 42 i0 (.agg #[Value.int .i64 0, Value.int .i64 0]) 2 16 Try.underlying34 HI.out H0.out H1.out H2.out rfl (by decide) (by decide) _ [.int .i64 ((i : Int)), .int .i64 (-1)] rfl (link_one_cell _ _) go 0 out.length co (fl encLink out) (by refine Rd.more (B := wr.heap.size) (Rd.below HRO.out (C := wr.heap.size) (by (repeat (first | exact Below.refl _ _ | refine Below.setCell ?_ (by simp) _ | refine Below.alloc ?_ (by simp) _ | refine below_drewN ?_ _ | refine Below.drew ?_))) (Nat.le_refl _)) (by simp)) fl_one_cell (by omega) _ rfl rfl (by simp [World.setCell]) ?_; intro g2 c2 w2 hown2 hbel2)
        have hsz2 := hbel2.size
        have hb3 : Below wr.heap.size wr w2 := by refine Below.trans ?_ (hbel2.mono (by simp)); (repeat (first | exact Below.refl _ _ | refine Below.setCell ?_ (by simp) _ | refine Below.alloc ?_ (by simp) _ | refine below_drewN ?_ _ | refine Below.drew ?_))
        go_roundw
        case rel => exact ⟨i, j, f - 1, g2, c2, ((i : Int), -1) :: out, by omega, by omega, by omega, by go_num, by go_num, rfl, own_mono hown2 (by simp; omega), by rw [← HR.out, ST.out]; simp, HB.out.trans (hb3.mono hsz)⟩
        case measure => simp [intOf]; try omega
    · have hi1 : ¬ (0 < (i : Int)) := by omega
      have hi2 : decide (0 < i) = false := decide_eq_false hi0
      have hi3 : decide (0 < (i : Int)) = false := decide_eq_false hi1
      obtain ⟨j, rfl⟩ : ∃ j', j = j' + 1 := ⟨j - 1, by omega⟩
      have hj3 : decide (0 < ((j : Int) + 1)) = true := decide_eq_true (by omega)
      have ST := Lib.hid (bt_step3 (a := a) (b := b) (f := f) (i := i) (j := j + 1) hf (by omega) (by omega) (by omega))
      simp only [Nat.add_sub_cancel] at ST
      clear hi1
      go_wp2_with fail
      go_quiet ((go_at_call 41; first | exact quiet_left (spec_l24Wrong _ _ _ (by omega) (by omega)) | exact quiet_add_left (spec_l24Wrong _ _ _ (by omega) (by omega))))
      go_wp2_with fail
      go_quiet ((go_at_call 41; first | exact quiet_left (spec_l24Wrong _ _ _ (by omega) (by omega)) | exact quiet_add_left (spec_l24Wrong _ _ _ (by omega) (by omega))))
      go_wp2_with (at_builtin; refine append_front rfl _ _ 34 rfl 42 i0 (.agg #[Value.int .i64 0, Value.int .i64 0]) 2 16 Try.underlying34 HI.out H0.out H1.out H2.out rfl (by decide) (by decide) _ [.int .i64 (-1), .int .i64 ((j : Int))] rfl (link_one_cell _ _) go 0 out.length co (fl encLink out) (by refine Rd.more (B := wr.heap.size) (Rd.below HRO.out (C := wr.heap.size) (by (repeat (first | exact Below.refl _ _ | refine Below.setCell ?_ (by simp) _ | refine Below.alloc ?_ (by simp) _ | refine below_drewN ?_ _ | refine Below.drew ?_))) (Nat.le_refl _)) (by simp)) fl_one_cell (by omega) _ rfl rfl (by simp [World.setCell]) ?_; intro g2 c2 w2 hown2 hbel2)
      have hsz2 := hbel2.size
      have hb3 : Below wr.heap.size wr w2 := by refine Below.trans ?_ (hbel2.mono (by simp)); (repeat (first | exact Below.refl _ _ | refine Below.setCell ?_ (by simp) _ | refine Below.alloc ?_ (by simp) _ | refine below_drewN ?_ _ | refine Below.drew ?_))
      go_roundw
      case rel => exact ⟨i, j, f - 1, g2, c2, (-1, (j : Int)) :: out, by omega, by omega, by omega, by go_num, by go_num, rfl, own_mono hown2 (by simp; omega), by rw [← HR.out, ST.out]; simp, HB.out.trans (hb3.mono hsz)⟩
      case measure => simp [intOf]; try omega
theorem spec_FollowLinks (A C : Option Addr) (c d : Nat) (a b : List Int) (w : World) (hx : RdI w w.heap.size A a) (hy : RdI w w.heap.size C b) (hl : a.length ≤ 1048576) (hl2 : b.length ≤ 1048576) :
    Calls Try.prog 27 #[.slice A a.length c, .slice C b.length d] w (RetRow w 42 2 (linksV a b).length (fl encLink (linksV a b))) :=
  (spec_FollowLinksG A C c d a b w hx hy hl hl2).mono fun _ _ ⟨g, c, he, ho, hb⟩ => ⟨_, c, he, ho, hb⟩
end Go.Proofs.Ytfmdpnnddhelaaa
