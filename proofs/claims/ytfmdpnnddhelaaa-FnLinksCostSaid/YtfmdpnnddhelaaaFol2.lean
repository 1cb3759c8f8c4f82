/- Contracts of the tables of costs, of the program and of the reference. Condition: valid keys. -/
import Derived.Test.YtfmdpnnddhelaaaFol1
import Derived.Test.YtfmdpnnddhelaaaSam2
import Derived.Test.YtfmdpnnddhelaaaReg
import Derived.StillTailTactics
namespace Go.Proofs.Ytfmdpnnddhelaaa
set_option linter.unusedVariables false
open Go.RowKit
set_option linter.unusedSimpArgs false
theorem quiet_left {P : Program} {f : FuncId} {args : Array Value} {w : World} {n : Nat} {v : Value}
    (h : Calls P f args (w.drewN n) fun e w' => e = .returned v ∧ w.drewN n = w') : Calls P f args (w.drewN n) fun e w' => e = .returned v ∧ ∃ m, w' = w.drewN m :=
  h.mono fun _ _ ⟨he, hm⟩ => ⟨he, n, hm.symm⟩
theorem own_val {w : World} {base E s n : Nat} {v : Value} {xs : List Value} {X Y : Int} (h : w.ownsRow base E s v n (xs ++ [.int .i64 X])) (e : X = Y) : w.ownsRow base E s v n (xs ++ [.int .i64 Y]) := e ▸ h
theorem blk_set_eq {w : World} {g : Nat} {t : TypeId} {cs cs' : Array Value} {q : Nat} {X : Int} (h : Blk w g t cs) (e : cs.setIfInBounds q (.int .i64 X) = cs') : Blk (w.setCell ⟨g, q, none⟩ (.int .i64 X)) g t cs' := e ▸ h.set_ q _
/-- the first m of f -/
def rowL (f : Nat → Int) (m : Nat) : List Int := (List.range m).map f
theorem rowL_len (f : Nat → Int) (m : Nat) : (rowL f m).length = m := by simp [rowL]
theorem rowL_at {f : Nat → Int} {m j : Nat} (h : j < m) : gi (rowL f m) j = f j := by simp [gi, rowL, h]
theorem rowL_succ (f : Nat → Int) (m : Nat) : rowL f (m + 1) = rowL f m ++ [f m] := by simp [rowL, List.range_succ]
theorem rowL_take {f : Nat → Int} {m j : Nat} (h : j ≤ m) : (rowL f m).take j = rowL f j := by
  unfold rowL; rw [← List.map_take, List.take_range, Nat.min_eq_left h]
theorem D_bd (a b : List Int) {i j : Nat} (hi : i ≤ 40) (hj : j ≤ 40) : 0 ≤ D a b i j ∧ D a b i j ≤ 160 := by
  have h1 := (D_ge a b i j).1
  have h2 := D_le a b i j
  omega
theorem own_type_ne {w : World} {b1 e1 s1 n1 b2 e2 s2 n2 : Nat} {v1 v2 : Value} {x1 x2 : List Value} (h1 : w.ownsRow b1 e1 s1 v1 n1 x1) (h2 : w.ownsRow b2 e2 s2 v2 n2 x2) (hne : e1 ≠ e2) : v1.ownBlock = none ∨ ¬ v1.ownBlock = v2.ownBlock := by
  rcases h1.2 with ⟨rfl, _⟩ | ⟨g, cap, cur, rfl, _, hh, _⟩
  · exact .inl rfl
  · refine .inr fun he => ?_
    rcases h2.2 with ⟨rfl, _⟩ | ⟨g', cap', cur', rfl, _, hh', _⟩
    · simp [Value.ownBlock] at he
    · have e : g = g' := by simpa [Value.ownBlock] using he
      subst e
      rw [hh] at hh'
      injection hh' with hh'
      injection hh' with _ ht
      exact hne ht
/-- the rows of a table: row i reads as the first m of f i -/
def TB (w : World) (lo : Nat) (vs : List Value) (n m : Nat) (f : Nat → Nat → Int) : Prop :=
  ∀ i, i < n → ∃ Ai ci, vs[i]? = some (.slice Ai m ci) ∧ w.ownsRow lo 3 1 (.slice Ai m ci) m (iv (rowL (f i) m))
theorem own_keep {w w' : World} {lo e s n : Nat} {v : Value} {xs : List Value} (h : w.ownsRow lo e s v n xs) (hb : Below w.heap.size w w') : w'.ownsRow lo e s v n xs := by
  refine ⟨h.1, ?_⟩
  rcases h.2 with hn | ⟨g, cap, cur, hv, hlo, hg, rest⟩
  · exact .inl hn
  · have hlt := (h.lt g (by rw [hv]; rfl)).2
    exact .inr ⟨g, cap, cur, hv, hlo, (hb.block g hlt).trans hg, rest⟩
theorem TB.below {w w' : World} {lo n m : Nat} {vs : List Value} {f : Nat → Nat → Int} (h : TB w lo vs n m f) (hb : Below w.heap.size w w') : TB w' lo vs n m f := fun i hi => by
  obtain ⟨Ai, ci, h1, h2⟩ := h i hi
  exact ⟨Ai, ci, h1, own_keep h2 hb⟩
theorem TB.append {W w' : World} {lo lo2 n m : Nat} {vs : List Value} {f : Nat → Nat → Int} {v : Value} {Ai : Option Addr} {ci : Nat} (h : TB W lo vs n m f) (hv : W.ownsRow lo 22 1 v n vs) (hn : vs.length = n)
    (hr : W.ownsRow lo2 3 1 (.slice Ai m ci) m (iv (rowL (f n) m))) (hlo : lo ≤ lo2) (hg : W.grownBy w' v.ownBlock) : TB w' lo (vs ++ [.slice Ai m ci]) (n + 1) m f := fun i hi => by
  have kept : ∀ {lo3 : Nat} {u : Value} {k : Nat} {xs : List Value}, W.ownsRow lo3 3 1 u k xs → w'.ownsRow lo3 3 1 u k xs := fun hu => hu.kept hg (own_type_ne hu hv (by decide))
  rcases Nat.lt_or_ge i n with h1 | h1
  · obtain ⟨A1, c1, e1, e2⟩ := h i h1
    exact ⟨A1, c1, by rw [List.getElem?_append_left (by omega)]; exact e1, kept e2⟩
  · obtain rfl : i = n := by omega
    exact ⟨Ai, ci, by rw [List.getElem?_append_right (by omega), hn, Nat.sub_self]; rfl, own_mono (kept hr) hlo⟩
def RetTbl (w : World) (n m : Nat) (f : Nat → Nat → Int) (e : Ending) (w' : World) : Prop :=
  ∃ A c vs, e = .returned (.slice A n c) ∧ w'.ownsRow w.heap.size 22 1 (.slice A n c) n vs ∧ TB w' w.heap.size vs n m f ∧ Below w.heap.size w w'
theorem infoRows : (Try.prog.info? 22).map (fun i => (i.zero, i.size, i.bytes)) = some (some (Value.slice none 0 0), 1, 24) := by kernel_rfl
/-- the cell of row i at column j -/
theorem TB.at_ {w : World} {lo n m : Nat} {vs : List Value} {f : Nat → Nat → Int} {A : Option Addr} {c : Nat} (h : TB w lo vs n m f) (hv : w.ownsRow lo 22 1 (.slice A n c) n vs) {i : Nat} (hi : i < n) (hm : 0 < m) :
    ∃ g gi ci, A = some ⟨g, 0, none⟩ ∧ w.cell? ⟨g, i, none⟩ = some (.slice (some ⟨gi, 0, none⟩) m ci) ∧ ∀ j, j < m → w.cell? ⟨gi, j, none⟩ = some (.int .i64 (f i j)) := by
  obtain ⟨Ai, ci, h1, h2⟩ := h i hi
  obtain ⟨g, cap, hv2, _⟩ := hv.form (by omega)
  injection hv2 with hA
  obtain ⟨gi, cap2, hv3, _⟩ := h2.form hm
  injection hv3 with hA2
  subst hA; subst hA2
  refine ⟨g, gi, ci, rfl, ?_, fun j hj => ?_⟩
  · have := hv.cells (g := g) rfl i _ h1
    rwa [Go.WideShapes.add_plain, Nat.zero_add] at this
  · have h3 : (iv (rowL (f i) m))[j]? = some (.int .i64 (f i j)) := by
      rw [iv, List.getElem?_map, List.getElem?_eq_getElem (by rw [rowL_len]; exact hj), gi_get (by rw [rowL_len]; exact hj), rowL_at hj]; rfl
    have := h2.cells (g := gi) rfl j _ h3
    rwa [Go.WideShapes.add_plain, Nat.zero_add] at this
set_option maxRecDepth 100000 in
set_option maxHeartbeats 8000000 in
theorem spec_l24Table (A C : Option Addr) (c d : Nat) (a b : List Int) (w : World) (hx : RdI w w.heap.size A a) (hy : RdI w w.heap.size C b) (ha : okK a = true) (hb : okK b = true) :
    Calls Try.prog 35 #[.slice A a.length c, .slice C b.length d] w (RetTbl w (a.length + 1) (b.length + 1) (D a b)) := by
  have hla := okK_len ha
  have hlb := okK_len hb
  have HKA := Lib.hid ha; have HKB := Lib.hid hb; clear ha hb
  have HX := Lib.hid hx; have HY := Lib.hid hy; clear hx hy
  obtain ⟨i1, hi, hz0, hz1, hz2⟩ := info_parts infoRows
  have HJ := Lib.hid hi; have J0 := Lib.hid hz0; have J1 := Lib.hid hz1; have J2 := Lib.hid hz2; clear hi hz0 hz1 hz2
  obtain ⟨i0, hi, hz0, hz1, hz2⟩ := info_parts infoInt
  have HI := Lib.hid hi; have H0 := Lib.hid hz0; have H1 := Lib.hid hz1; have H2 := Lib.hid hz2; clear hi hz0 hz1 hz2
  have HE := Lib.hid (own_empty (e := 22) (size := 1) (Below.refl w.heap.size w) (Nat.le_refl _))
  go_enter Try.func35, Try.ntmps35
  go_wp2
  go_loopw [5, 6] (fun v i wr => ∃ (k : Nat) (A : Option Addr) (c : Nat) (vs : List Value), k ≤ a.length + 1 ∧ i = .int .i64 k ∧ v = .slice A k c ∧ wr.ownsRow w.heap.size 22 1 (.slice A k c) k vs ∧ TB wr w.heap.size vs k (b.length + 1) (D a b) ∧ Below w.heap.size w wr ∧ w.heap.size ≤ wr.heap.size) (fun _ i _ => a.length + 1 - (intOf i).toNat)
  case atStart => exact ⟨0, _, _, [], Nat.zero_le _, rfl, rfl, HE.out.1, fun i hi => by omega, HE.out.2.1, HE.out.2.2⟩
  case round =>
    obtain ⟨k, A1, c1, vs, hk, rfl, rfl, hown, htb, hbel, hbase⟩ := hrel
    have HO := Lib.hid hown; have HT := Lib.hid htb; have HB := Lib.hid hbel
    clear hown htb hbel HE
    by_cases hlt : k ≤ a.length
    · have HE2 := Lib.hid (own_empty (e := 3) (size := 1) (Below.refl wr.heap.size wr) (Nat.le_refl _))
      obtain ⟨wo, hwo⟩ : ∃ wo : World, wo = wr := ⟨_, rfl⟩
      go_wp2
      subst hwo
      go_loopw [7, 8, 9] (fun v j _x wi => ∃ (q : Nat) (A' : Option Addr) (c' : Nat), q ≤ b.length + 1 ∧ j = .int .i64 q ∧ v = .slice A' q c' ∧ wi.ownsRow wo.heap.size 3 1 (.slice A' q c') q (iv (rowL (D a b k) q)) ∧ Below wo.heap.size wo wi ∧ wo.heap.size ≤ wi.heap.size) (fun _ j _ _ => b.length + 1 - (intOf j).toNat)
      case atStart => exact ⟨0, _, _, Nat.zero_le _, rfl, rfl, HE2.out.1, HE2.out.2.1, HE2.out.2.2⟩
      case round =>
        obtain ⟨q, A', c', hq, rfl, rfl, hrow, hbw, hbs⟩ := hrel
        have HR := Lib.hid hrow; have HW := Lib.hid hbw
        clear hrow hbw HE2
        by_cases hq2 : q ≤ b.length
        · have hbel2 : Below w.heap.size w wr := HB.out.trans (HW.out.mono hbase)
          have HB2 := Lib.hid hbel2
          have HO2 := Lib.hid (own_keep HO.out HW.out)
          have HT2 := Lib.hid (TB.below HT.out HW.out)
          have hqi : (q : Int) ≤ (b.length : Int) := by omega
          have hD := D_bd a b (i := k) (j := q) (by omega) (by omega)
          clear hbel2
          by_cases hk0 : 0 < k
          · have hk1 : (0 : Int) < (k : Int) := by omega
            obtain ⟨g, g1, cg, hA1, hcg, hcr⟩ := HT2.out.at_ HO2.out (i := k - 1) (by omega) (by omega)
            have hcq := hcr q (by omega)
            have hDq := D_bd a b (i := k - 1) (j := q) (by omega) (by omega)
            have hki : (k : Int) - 1 < (k : Int) := by omega
            subst hA1
            rcases (show q = 0 ∨ ∃ q', q = q' + 1 by cases q <;> simp) with rfl | ⟨q', rfl⟩
            · have HX1 : Hid (D a b k 0 = 2 * (k : Int)) := by unfold Hid; rw [D_i0]
              rw [D_i0] at hcq hDq hD
              have hk2 : ((k - 1 : Nat) : Int) = (k : Int) - 1 := by omega
              rw [hk2] at hcq hDq
              clear hk2 hcr
              go_wp2_with (at_builtin; refine append_el rfl _ _ 22 rfl 3 i0 (.int .i64 0) 1 8 Try.underlying22 HI.out H0.out H1.out H2.out rfl (by decide) (by decide) wo.heap.size wo _ _ _ _ (by first | exact HR.out | exact own_drew HR.out) (by first | exact HW.out | exact below_drewN HW.out _) hbs (by omega) rfl [.int .i64 _] rfl (by simp [Value.oneCell']) rfl ?_; intro A2 c2 w2 hown2 hbel2 hbase2 _)
              all_goals
                go_roundw
                case rel => exact ⟨0 + 1, A2, c2, by omega, by go_num, rfl, by rw [rowL_succ, iv_append]; exact own_val hown2 (by rw [HX1.out]; try (first | omega | (split <;> omega))), hbel2, hbase2⟩
                case measure => (try simp [intOf]); (try omega)
            · have HX1 : Hid (D a b k (q' + 1) = min (min (D a b (k - 1) q' + lc (gi a (k - 1)) (gi b q')) (D a b (k - 1) (q' + 1) + 2)) (D a b k q' + 2)) := by
                unfold Hid
                obtain ⟨k', rfl⟩ : ∃ k', k = k' + 1 := ⟨k - 1, by omega⟩
                exact D_ss a b k' q'
              have hle : D a b k (q' + 1) ≤ 2 * (k : Int) + 2 * ((q' + 1 : Nat) : Int) := D_le a b k (q' + 1)
              have hcp := hcr q' (by omega)
              have hDp := D_bd a b (i := k - 1) (j := q') (by omega) (by omega)
              have hDr := D_bd a b (i := k) (j := q') (by omega) (by omega)
              have hg : gi (rowL (D a b k) (q' + 1)) q' = D a b k q' := by rw [rowL_at (by omega)]
              obtain ⟨b1, o1, rfl, hb1, hc1⟩ := (RdI.of_own2 HR.out (rowL_len _ _)).at_ (k := q') (by rw [rowL_len]; omega)
              rw [hg] at hc1
              obtain ⟨b2, o2, rfl, hb2, hc2⟩ := (HX.out.below HB2.out (Nat.le_refl _)).at_ (k := k - 1) (by omega)
              obtain ⟨b3, o3, rfl, hb3, hc3⟩ := (HY.out.below HB2.out (Nat.le_refl _)).at_ (k := q') (by omega)
              have hga := okK_at HKA.out (k := k - 1) (by omega)
              have hgb := okK_at HKB.out (k := q') (by omega)
              have hlc := lc_bd (gi a (k - 1)) (gi b q')
              have hqb : (q' : Int) < (b.length : Int) := by omega
              have hka : (k : Int) - 1 < (a.length : Int) := by omega
              clear hg hcr
              rw [HX1.out] at hle hD
              have HLE := Lib.hid hle; clear hle hD
              have HRD : Hid (∀ n, (wr.drewN n).ownsRow wo.heap.size 3 1 (.slice (some ⟨b1, o1, none⟩) (q' + 1) c') (q' + 1) (iv (rowL (D a b k) (q' + 1)))) := fun n => HR.out
              have HWD : Hid (∀ n, Below wo.heap.size wo (wr.drewN n)) := fun n => below_drewN HW.out n
              generalize hG1 : D a b (k - 1) q' = d1 at *
              generalize hG2 : D a b (k - 1) (q' + 1) = d2 at *
              generalize hG3 : D a b k q' = d3 at *
              clear hG1 hG2 hG3
              go_wp2_with fail
              all_goals
                go_quiet ((go_at_call 41; exact quiet_left (spec_l24Wrong _ _ _ (by omega) (by omega))))
                go_wp2_with (at_builtin; refine append_el rfl _ _ 22 rfl 3 i0 (.int .i64 0) 1 8 Try.underlying22 HI.out H0.out H1.out H2.out rfl (by decide) (by decide) wo.heap.size wo _ _ _ _ (HRD.out _) (HWD.out _) hbs (by omega) rfl [.int .i64 _] rfl (by simp [Value.oneCell']) rfl ?_; intro A2 c2 w2 hown2 hbel2 hbase2 _)
                all_goals
                  go_roundw
                  case rel => exact ⟨q' + 1 + 1, A2, c2, by omega, by go_num, rfl, by rw [rowL_succ, iv_append]; exact own_val hown2 (by have := HLE.out; rw [HX1.out]; first | omega | (split <;> omega)), hbel2, hbase2⟩
                  case measure => simp [intOf]; try omega
          · have hk1 : decide ((0 : Int) < (k : Int)) = false := decide_eq_false (by omega)
            have hD0 : ∀ j, D a b k j = 2 * (j : Int) := fun j => by
              obtain rfl : k = 0 := by omega
              exact D_0 a b j
            rcases (show q = 0 ∨ ∃ q', q = q' + 1 by cases q <;> simp) with rfl | ⟨q', rfl⟩
            · have HX1 : Hid (D a b k 0 = 2 * (k : Int) + 0) := by unfold Hid; rw [hD0]; omega
              clear hD0 hD
              go_wp2_with (at_builtin; refine append_el rfl _ _ 22 rfl 3 i0 (.int .i64 0) 1 8 Try.underlying22 HI.out H0.out H1.out H2.out rfl (by decide) (by decide) wo.heap.size wo _ _ _ _ (by first | exact HR.out | exact own_drew HR.out) (by first | exact HW.out | exact below_drewN HW.out _) hbs (by omega) rfl [.int .i64 _] rfl (by simp [Value.oneCell']) rfl ?_; intro A2 c2 w2 hown2 hbel2 hbase2 _)
              all_goals
                go_roundw
                case rel => exact ⟨0 + 1, A2, c2, by omega, by go_num, rfl, by rw [rowL_succ, iv_append]; exact own_val hown2 (by rw [HX1.out]; try (first | omega | (split <;> omega))), hbel2, hbase2⟩
                case measure => simp [intOf]; try omega
            · have HX1 : Hid (D a b k (q' + 1) = 2 * ((q' : Int) + 1)) := by unfold Hid; rw [hD0]; omega
              have hg : gi (rowL (D a b k) (q' + 1)) q' = 2 * (q' : Int) := by rw [rowL_at (by omega), hD0]
              obtain ⟨b1, o1, rfl, hb1, hc1⟩ := (RdI.of_own2 HR.out (rowL_len _ _)).at_ (k := q') (by rw [rowL_len]; omega)
              rw [hg] at hc1
              clear hg hD0 hD
              go_wp2_with (at_builtin; refine append_el rfl _ _ 22 rfl 3 i0 (.int .i64 0) 1 8 Try.underlying22 HI.out H0.out H1.out H2.out rfl (by decide) (by decide) wo.heap.size wo _ _ _ _ (by first | exact HR.out | exact own_drew HR.out) (by first | exact HW.out | exact below_drewN HW.out _) hbs (by omega) rfl [.int .i64 _] rfl (by simp [Value.oneCell']) rfl ?_; intro A2 c2 w2 hown2 hbel2 hbase2 _)
              all_goals
                go_roundw
                case rel => exact ⟨q' + 1 + 1, A2, c2, by omega, by go_num, rfl, by rw [rowL_succ, iv_append]; exact own_val hown2 (by rw [HX1.out]; try (first | omega | (split <;> omega))), hbel2, hbase2⟩
                case measure => simp [intOf]; try omega
        · obtain rfl : q = b.length + 1 := by omega
          have HB2 := Lib.hid (HB.out.trans (HW.out.mono hbase))
          have HO2 := Lib.hid (own_keep HO.out HW.out)
          have HT2 := Lib.hid (TB.below HT.out HW.out)
          have hvl : vs.length = k := by have := HO.out.1; omega
          have HVL := Lib.hid hvl; clear hvl
          go_wp2_with (at_builtin; refine append_el rfl _ _ 46 rfl 22 i1 (.slice none 0 0) 1 24 Try.underlying46 HJ.out J0.out J1.out J2.out rfl (by decide) (by decide) w.heap.size w wr _ k vs HO2.out HB2.out (by omega) (by omega) rfl [.slice A' (b.length + 1) c'] rfl (by simp [Value.oneCell']) rfl ?_; intro A2 c2 w2 hown2 hbel2 hbase2 hg2)
          go_roundw
          case rel => exact ⟨k + 1, A2, c2, vs ++ [.slice A' (b.length + 1) c'], by omega, by go_num, rfl, hown2, HT2.out.append HO2.out HVL.out HR.out hbase hg2, hbel2, hbase2⟩
          case measure => simp [intOf]; omega
    · obtain rfl : k = a.length + 1 := by omega
      go_wp2
      go_ret
      exact ⟨_, _, vs, rfl, HO.out, HT.out, HB.out⟩
set_option maxRecDepth 100000 in
set_option maxHeartbeats 8000000 in
theorem impl_followTable (A C : Option Addr) (c d : Nat) (a b : List Int) (w : World) (hx : RdI w w.heap.size A a) (hy : RdI w w.heap.size C b) (ha : okK a = true) (hb : okK b = true) :
    Calls Try.prog 37 #[.slice A a.length c, .slice C b.length d] w (RetTbl w (a.length + 1) (b.length + 1) (D a b)) := by
  have hla := okK_len ha
  have hlb := okK_len hb
  have HKA := Lib.hid ha; have HKB := Lib.hid hb; clear ha hb
  have HX := Lib.hid hx; have HY := Lib.hid hy; clear hx hy
  obtain ⟨i1, hi, hz0, hz1, hz2⟩ := info_parts infoRows
  have HJ := Lib.hid hi; have J0 := Lib.hid hz0; have J1 := Lib.hid hz1; have J2 := Lib.hid hz2; clear hi hz0 hz1 hz2
  obtain ⟨i0, hi, hz0, hz1, hz2⟩ := info_parts infoInt
  have HI := Lib.hid hi; have H0 := Lib.hid hz0; have H1 := Lib.hid hz1; have H2 := Lib.hid hz2; clear hi hz0 hz1 hz2
  have hmk0 := fun W => run_make_rowN (P := Try.prog) 22 3 i0 (.int .i64 0) Try.underlying22 HI.out H0.out .i64 .i64 (b.length + 1) (b.length + 1) (Nat.le_refl _) (by rw [H2.out]; omega) (by omega) W
  have hmk : ∀ W : World, (Instr.makeSlice 22 (.int .i64 ((b.length : Int) + 1)) (.int .i64 ((b.length : Int) + 1))).run Try.prog W = .ok (.slice (some ⟨W.heap.size, 0, none⟩) (b.length + 1) (b.length + 1)) (W.alloc (.cells (madeCells (Value.cells (.int .i64 0)) ((b.length + 1) * 1)) 3)) := fun W => by
    have h := hmk0 W
    rw [H1.out] at h
    exact h
  have hmz : ∀ k, madeCells (Value.cells (.int .i64 0)) ((b.length + 1) * 1) = mkI (rowL (D a b k) (b.length + 1)) 0 := fun k => by
    have := mkI_none (rowL (D a b k) (b.length + 1)); rw [rowL_len] at this; exact this
  have HMK := Lib.hid hmk; have HMZ := Lib.hid hmz; clear hmk0 hmk hmz
  have HE := Lib.hid (own_empty (e := 22) (size := 1) (Below.refl w.heap.size w) (Nat.le_refl _))
  go_enter Try.func37, Try.ntmps37
  go_wp2
  go_loopw [5, 13] (fun v i wr => ∃ (k : Nat) (A : Option Addr) (c : Nat) (vs : List Value), k ≤ a.length + 1 ∧ i = .int .i64 k ∧ v = .slice A k c ∧ wr.ownsRow w.heap.size 22 1 (.slice A k c) k vs ∧ TB wr w.heap.size vs k (b.length + 1) (D a b) ∧ Below w.heap.size w wr ∧ w.heap.size ≤ wr.heap.size) (fun _ i _ => a.length + 1 - (intOf i).toNat)
  case atStart => exact ⟨0, _, _, [], Nat.zero_le _, rfl, rfl, HE.out.1, fun i hi => by omega, HE.out.2.1, HE.out.2.2⟩
  case round =>
    obtain ⟨k, A1, c1, vs, hk, rfl, rfl, hown, htb, hbel, hbase⟩ := hrel
    have HO := Lib.hid hown; have HT := Lib.hid htb; have HB := Lib.hid hbel
    clear hown htb hbel HE
    by_cases hlt : k < a.length + 1
    · have hmk : ∀ W : World, (Instr.makeSlice 22 (.int .i64 ((b.length : Int) + 1)) (.int .i64 ((b.length : Int) + 1))).run Try.prog W = .ok (.slice (some ⟨W.heap.size, 0, none⟩) (b.length + 1) (b.length + 1)) (W.alloc (.cells (mkI (rowL (D a b k) (b.length + 1)) 0) 3)) := fun W => by rw [HMK.out W, HMZ.out k]
      obtain ⟨wo, hwo⟩ : ∃ wo : World, wo = wr := ⟨_, rfl⟩
      have hki : (k : Int) < (a.length : Int) + 1 := by omega
      go_wp2
      subst hwo
      clear hmk
      go_loopw [8, 22] (fun _x j wi => ∃ q : Nat, q ≤ b.length + 1 ∧ j = .int .i64 q ∧ Blk wi wo.heap.size 3 (mkI (rowL (D a b k) (b.length + 1)) q) ∧ Below wo.heap.size wo wi ∧ wo.heap.size < wi.heap.size) (fun _ j _ => b.length + 1 - (intOf j).toNat)
      case atStart => exact ⟨0, Nat.zero_le _, rfl, Blk.new _ _ _, (Below.refl _ _).alloc (Nat.le_refl _) _, by simp⟩
      case round =>
        obtain ⟨q, hq, rfl, hblk, hbw, hbs⟩ := hrel
        have HK := Lib.hid hblk; have HW := Lib.hid hbw
        clear hblk hbw
        by_cases hq2 : q < b.length + 1
        · have HB2 := Lib.hid (HB.out.trans (HW.out.mono hbase))
          have HO2 := Lib.hid (own_keep HO.out HW.out)
          have HT2 := Lib.hid (TB.below HT.out HW.out)
          have hst : ∀ v, v = D a b k q → (mkI (rowL (D a b k) (b.length + 1)) q).setIfInBounds q (.int .i64 v) = mkI (rowL (D a b k) (b.length + 1)) (q + 1) := fun v hv => by
            have h := mkI_set (rowL (D a b k) (b.length + 1)) q (by rw [rowL_len]; exact hq2)
            rw [rowL_at hq2] at h
            rw [hv]; exact h
          have HST := Lib.hid hst
          have hqc : wr.cell? ⟨wo.heap.size, q, none⟩ = some (.int .i64 0) := (HK.out.cell q).trans (mkI_at _ _ (by rw [rowL_len]; exact hq2))
          have hqf := HK.out.frozen q
          have hqi : (q : Int) < (b.length : Int) + 1 := by omega
          clear hst
          by_cases hk0 : k = 0
          · have hk1 : ((k : Int) == 0) = true := by simp [hk0]
            have hD0 : Hid (2 * (q : Int) = D a b k q) := by unfold Hid; rw [hk0, D_0]
            clear hk0
            go_wp2
            go_roundw
            case rel => exact ⟨q + 1, by omega, by go_num, by rw [← HST.out _ hD0.out]; exact HK.out.set_ _ _, HW.out.setCell (Nat.le_refl _) _, by simpa [World.setCell] using hbs⟩
            case measure => simp [intOf]; omega
          · have hk1 : ((k : Int) == 0) = false := by simp [hk0]
            by_cases hq0 : q = 0
            · have hq1 : ((q : Int) == 0) = true := by simp [hq0]
              have hD0 : Hid (2 * (k : Int) = D a b k q) := by unfold Hid; rw [hq0, D_i0]
              clear hk0 hq0
              go_wp2
              go_roundw
              case rel => exact ⟨q + 1, by omega, by go_num, by rw [← HST.out _ hD0.out]; exact HK.out.set_ _ _, HW.out.setCell (Nat.le_refl _) _, by simpa [World.setCell] using hbs⟩
              case measure => simp [intOf]; omega
            · have hq1 : ((q : Int) == 0) = false := by simp [hq0]
              obtain ⟨g, g1, cg, hA1, hcg0, hcr⟩ := HT.out.at_ HO.out (i := k - 1) (by omega) (by omega)
              have hgl : g < wo.heap.size := World.block_lt_of_cell? wo _ hcg0
              have hgl1 : g1 < wo.heap.size := World.block_lt_of_cell? wo _ (hcr q (by omega))
              have hcg := (HW.out.cell (p := ⟨g, k - 1, none⟩) hgl).trans hcg0
              have hcq := (HW.out.cell (p := ⟨g1, q, none⟩) hgl1).trans (hcr q (by omega))
              have hcp := (HW.out.cell (p := ⟨g1, q - 1, none⟩) hgl1).trans (hcr (q - 1) (by omega))
              clear hcg0
              have hDq := D_bd a b (i := k - 1) (j := q) (by omega) (by omega)
              have hDp := D_bd a b (i := k - 1) (j := q - 1) (by omega) (by omega)
              have hDr := D_bd a b (i := k) (j := q - 1) (by omega) (by omega)
              have hcrow : wr.cell? ⟨wo.heap.size, q - 1, none⟩ = some (.int .i64 (D a b k (q - 1))) := by
                rw [HK.out.cell (q - 1)]
                have h0 : (iv ((rowL (D a b k) (b.length + 1)).take q)).length = q := by rw [iv_length, List.length_take, rowL_len]; omega
                simp only [mkI, List.getElem?_toArray]
                rw [List.getElem?_append_left (by omega), rowL_take (by omega), iv, List.getElem?_map, List.getElem?_eq_getElem (by rw [rowL_len]; omega), gi_get (by rw [rowL_len]; omega), rowL_at (by omega)]
                rfl
              obtain ⟨b2, o2, rfl, hb2, hc2⟩ := (HX.out.below HB2.out (Nat.le_refl _)).at_ (k := k - 1) (by omega)
              obtain ⟨b3, o3, rfl, hb3, hc3⟩ := (HY.out.below HB2.out (Nat.le_refl _)).at_ (k := q - 1) (by omega)
              have hga := okK_at HKA.out (k := k - 1) (by omega)
              have hgb := okK_at HKB.out (k := q - 1) (by omega)
              have hlc := lc_bd (gi a (k - 1)) (gi b (q - 1))
              have hDs : Hid (∀ v, v = min (min (D a b (k - 1) (q - 1) + lc (gi a (k - 1)) (gi b (q - 1))) (D a b (k - 1) q + 2)) (D a b k (q - 1) + 2) → v = D a b k q) := by
                intro v hv
                obtain ⟨k', rfl⟩ : ∃ k', k = k' + 1 := ⟨k - 1, by omega⟩
                obtain ⟨q', rfl⟩ : ∃ q', q = q' + 1 := ⟨q - 1, by omega⟩
                rw [D_ss]; exact hv
              subst hA1
              clear hcr
              generalize hG1 : D a b (k - 1) (q - 1) = d1 at *
              generalize hG2 : D a b (k - 1) q = d2 at *
              generalize hG3 : D a b k (q - 1) = d3 at *
              clear hG1 hG2 hG3
              have p1 : (0 : Int) ≤ (k : Int) - 1 := by omega
              have p2 : (k : Int) - 1 < (k : Int) := by omega
              have p3 : (0 : Int) ≤ (q : Int) - 1 := by omega
              have p4 : (q : Int) - 1 < (b.length : Int) + 1 := by omega
              have p5 : (k : Int) - 1 < (a.length : Int) := by omega
              have p6 : (q : Int) - 1 < (b.length : Int) := by omega
              have u1 : IntKind.i64.wrap ((k : Int) - 1) = (k : Int) - 1 := IntWalk.i64_in _ (by omega)
              have u2 : IntKind.i64.wrap ((q : Int) - 1) = (q : Int) - 1 := IntWalk.i64_in _ (by omega)
              have u3 : IntKind.i64.wrap (d1 + lc (gi a (k - 1)) (gi b (q - 1))) = d1 + lc (gi a (k - 1)) (gi b (q - 1)) := IntWalk.i64_in _ (by omega)
              have u4 : IntKind.i64.wrap (d2 + 2) = d2 + 2 := IntWalk.i64_in _ (by omega)
              have u5 : IntKind.i64.wrap (d3 + 2) = d3 + 2 := IntWalk.i64_in _ (by omega)
              have p7 : (1 : Int) ≤ (k : Int) := by omega
              have p8 : (1 : Int) ≤ (q : Int) := by omega
              have K1 : Hid (∀ (X : Value) (b o : Nat), b < wo.heap.size → ((wr.setCell ⟨wo.heap.size, q, none⟩ X).drew).cell? ⟨b, o, none⟩ = wr.cell? ⟨b, o, none⟩) := fun X b o hb => World.cell?_setCell_far wr ⟨wo.heap.size, q, none⟩ ⟨b, o, none⟩ X (by simp; omega)
              have K2 : Hid (∀ (X : Value), ((wr.setCell ⟨wo.heap.size, q, none⟩ X).drew).cell? ⟨wo.heap.size, q - 1, none⟩ = wr.cell? ⟨wo.heap.size, q - 1, none⟩) := fun X => World.cell?_setCell_other wr ⟨wo.heap.size, q, none⟩ ⟨wo.heap.size, q - 1, none⟩ X (fun e => by injection e with _ e; omega)
              have hb2' : b2 < wo.heap.size := by omega
              have hb3' : b3 < wo.heap.size := by omega
              have n1 : ((k : Int) - 1).toNat = k - 1 := by omega
              have n2 : ((q : Int) - 1).toNat = q - 1 := by omega
              go_wp2_with fail
              go_region_held3 (fun w' => w'.cell? ⟨g, k - 1, none⟩ = some (.slice (some ⟨g1, 0, none⟩) (b.length + 1) cg) ∧ w'.cell? ⟨g1, q, none⟩ = some (.int .i64 d2) ∧ w'.cell? ⟨g1, q - 1, none⟩ = some (.int .i64 d1) ∧ w'.cell? ⟨wo.heap.size, q - 1, none⟩ = some (.int .i64 d3) ∧ w'.cell? ⟨b2, o2 + (k - 1), none⟩ = some (.int .i64 (gi a (k - 1))) ∧ w'.cell? ⟨b3, o3 + (q - 1), none⟩ = some (.int .i64 (gi b (q - 1)))) (first | exact ⟨hcg, hcq, hcp, hcrow, hc2, hc3⟩ | exact ⟨(K1.out _ _ _ hgl).trans hcg, (K1.out _ _ _ hgl1).trans hcq, (K1.out _ _ _ hgl1).trans hcp, (K2.out _).trans hcrow, (K1.out _ _ _ hb2').trans hc2, (K1.out _ _ _ hb3').trans hc3⟩) (first | (go_at_call 43; refine (impl_linkCost _ _ _ (by omega) (by omega)).mono ?_; rintro e w' ⟨rfl, rfl⟩))
              clear u1 u2 u3 u4 u5 n1 n2 p1 p2 p3 p4 p5 p6 p7 p8 hcg hcq hcp hcrow hc2 hc3
              go_wp2
              go_roundw
              case rel => exact ⟨q + 1, by omega, by go_num, blk_set_eq HK.out (HST.out _ (hDs.out _ (by (repeat' split) <;> omega))), below_drewN (HW.out.setCell (Nat.le_refl _) _) 1, by simpa [World.setCell] using hbs⟩
              case measure => simp [intOf]; omega
        · obtain rfl : q = b.length + 1 := by omega
          have HB2 := Lib.hid (HB.out.trans (HW.out.mono hbase))
          have HO2 := Lib.hid (own_keep HO.out HW.out)
          have HT2 := Lib.hid (TB.below HT.out HW.out)
          have hvl : vs.length = k := by have := HO.out.1; omega
          have HVL := Lib.hid hvl; clear hvl
          have hrow : wr.ownsRow wo.heap.size 3 1 (.slice (some ⟨wo.heap.size, 0, none⟩) (b.length + 1) (b.length + 1)) (b.length + 1) (iv (rowL (D a b k) (b.length + 1))) := by
            have h := HK.out.own (base := wo.heap.size) (size := 1) (n := b.length + 1) (Nat.le_refl _) (by unfold maxLen; omega) (by rw [mkI_size _ _ (by rw [rowL_len]; exact Nat.le_refl _), rowL_len]; omega)
            have e := mkI_all (rowL (D a b k) (b.length + 1))
            rw [rowL_len] at e
            rw [e] at h
            exact h
          have HR := Lib.hid hrow; clear hrow
          have hqi : ¬ ((b.length + 1 : Nat) : Int) < (b.length : Int) + 1 := by omega
          go_wp2_with (at_builtin; refine append_el rfl _ _ 46 rfl 22 i1 (.slice none 0 0) 1 24 Try.underlying46 HJ.out J0.out J1.out J2.out rfl (by decide) (by decide) w.heap.size w wr _ k vs HO2.out HB2.out (by omega) (by omega) rfl [.slice (some ⟨wo.heap.size, 0, none⟩) (b.length + 1) (b.length + 1)] rfl (by simp [Value.oneCell']) rfl ?_; intro A2 c2 w2 hown2 hbel2 hbase2 hg2)
          go_roundw
          case rel => exact ⟨k + 1, A2, c2, vs ++ [.slice (some ⟨wo.heap.size, 0, none⟩) (b.length + 1) (b.length + 1)], by omega, by go_num, rfl, hown2, HT2.out.append HO2.out HVL.out HR.out hbase hg2, hbel2, hbase2⟩
          case measure => simp [intOf]; omega
    · obtain rfl : k = a.length + 1 := by omega
      have hki : ¬ ((a.length + 1 : Nat) : Int) < (a.length : Int) + 1 := by omega
      go_wp2
      go_ret
      exact ⟨_, _, vs, rfl, HO.out, HT.out, HB.out⟩
end Go.Proofs.Ytfmdpnnddhelaaa
