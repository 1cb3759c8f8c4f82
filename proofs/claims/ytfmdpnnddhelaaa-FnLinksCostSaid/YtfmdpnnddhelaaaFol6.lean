/- Contract of FollowLinks of the program. Condition: lengths at most 2^20. -/
import Derived.Test.YtfmdpnnddhelaaaFol5
import Derived.BigRegion
import Derived.Outline
namespace Go.Proofs.Ytfmdpnnddhelaaa
open Go.RowKit
set_option linter.unusedSimpArgs false
set_option linter.unusedVariables false
theorem own_someF {w : World} {base e size n c : Nat} {A : Option Addr} {xs : List Value} (h : w.ownsRow base e size (.slice A n c) n xs) (hn : 0 < n) : ∃ b, A = some ⟨b, 0, none⟩ := by
  obtain ⟨g, cap, hv, _⟩ := h.form hn
  injection hv with e1; exact ⟨g, e1⟩
/-- a cell of a row of the call's own is written -/
theorem own_set {w : World} {base e size n c g : Nat} {xs : List Value} (h : w.ownsRow base e size (.slice (some ⟨g, 0, none⟩) n c) n xs) (i : Nat) (u : Value) :
    (w.setCell ⟨g, i, none⟩ u).ownsRow base e size (.slice (some ⟨g, 0, none⟩) n c) n (xs.set i u) := by
  rcases h.2 with ⟨hv, _⟩ | ⟨g', cap, cur, hv, hb, hg, hnc, hcm, hsz, htk⟩
  · cases hv
  · injection hv with e1 _ e3; injection e1 with e1; injection e1 with e1; subst e1; subst e3
    have hB : Blk w g e cur := hg
    refine ⟨by simp [h.1], .inr ⟨g, c, cur.setIfInBounds i u, rfl, hb, hB.set_ i u, hnc, hcm, by simpa using hsz, ?_⟩⟩
    rw [← htk, Array.toList_setIfInBounds, List.take_set]
theorem fl_set2 {α : Type} {enc : α → List Value} (he : ∀ a, (enc a).length = 2) {xs : List α} {k : Nat} (hk : k < xs.length) {z : α} {v0 v1 : Value} (hz : enc z = [v0, v1]) :
    ((fl enc xs).set (k * 2) v0).set (k * 2 + 1) v1 = fl enc (xs.set k z) := by
  have e : xs = xs.take k ++ [xs[k]] ++ xs.drop (k + 1) := by
    rw [List.append_assoc, List.singleton_append, ← List.drop_eq_getElem_cons hk, List.take_append_drop]
  have e2 : xs.set k z = xs.take k ++ [z] ++ xs.drop (k + 1) := by
    rw [List.set_eq_take_append_cons_drop, if_pos hk, List.append_assoc, List.singleton_append]
  have hl : (fl enc (xs.take k)).length = k * 2 := by rw [fl_length he, List.length_take, Nat.min_eq_left (Nat.le_of_lt hk)]
  obtain ⟨x0, x1, hx⟩ : ∃ x0 x1, enc xs[k] = [x0, x1] := by
    have := he xs[k]
    match hq : enc xs[k], this with
    | [a, b], _ => exact ⟨a, b, rfl⟩
  rw [e2]
  conv => lhs; rw [e]
  rw [fl_append, fl_append, fl_append, fl_append, fl_one, fl_one, hx, hz, ← hl]
  simp [List.set_append]
/-- the first t and the last t are exchanged -/
def revTo (L : List (Int × Int)) (t : Nat) : List (Int × Int) := (List.range L.length).map fun i => glLink L (if i < t ∨ L.length - t ≤ i then L.length - 1 - i else i)
theorem revTo_len (L : List (Int × Int)) (t : Nat) : (revTo L t).length = L.length := by simp [revTo]
theorem revTo_at {L : List (Int × Int)} {t i : Nat} (h : i < L.length) : glLink (revTo L t) i = glLink L (if i < t ∨ L.length - t ≤ i then L.length - 1 - i else i) := by
  simp only [revTo]
  unfold glLink
  simp [h]
theorem link_ext {a b : List (Int × Int)} (h : a.length = b.length) (hk : ∀ k, k < a.length → glLink a k = glLink b k) : a = b := by
  refine List.ext_getElem h fun k h1 h2 => ?_
  have := hk k h1
  rwa [← glLink_get h1, ← glLink_get h2] at this
theorem revTo_zero (L : List (Int × Int)) : revTo L 0 = L := by
  refine link_ext (revTo_len L 0) fun k hk => ?_
  rw [revTo_len] at hk
  rw [revTo_at hk, if_neg (by omega)]
theorem revTo_end {L : List (Int × Int)} {t : Nat} (h : L.length - 1 - t ≤ t) : revTo L t = L.reverse := by
  refine link_ext (by rw [revTo_len, List.length_reverse]) fun k hk => ?_
  rw [revTo_len] at hk
  rw [revTo_at hk]
  have e : glLink L.reverse k = glLink L (L.length - 1 - k) := by
    rw [← glLink_get (by simpa using hk), ← glLink_get (by omega), List.getElem_reverse]
  rw [e]
  congr 1
  split <;> omega
theorem glLink_set {L : List (Int × Int)} {i k : Nat} {z : Int × Int} (hk : k < L.length) : glLink (L.set i z) k = if i = k then z else glLink L k := by
  rw [← glLink_get (by simpa using hk), List.getElem_set]
  split
  · rfl
  · rw [glLink_get hk]
theorem revTo_step {L : List (Int × Int)} {t : Nat} (h : 2 * t + 1 < L.length) : ((revTo L t).set t (glLink L (L.length - 1 - t))).set (L.length - 1 - t) (glLink L t) = revTo L (t + 1) := by
  refine link_ext (by simp [revTo_len]) fun k hk => ?_
  simp only [List.length_set, revTo_len] at hk
  rw [glLink_set (by simpa [revTo_len] using hk), glLink_set (by simpa [revTo_len] using hk), revTo_at hk, revTo_at hk]
  by_cases h1 : L.length - 1 - t = k
  · rw [if_pos h1, if_pos (by omega)]; congr 1; omega
  · rw [if_neg h1]
    by_cases h2 : t = k
    · rw [if_pos h2, if_pos (by omega)]; congr 1; omega
    · rw [if_neg h2]
      by_cases h3 : k < t ∨ L.length - t ≤ k
      · rw [if_pos h3, if_pos (by omega)]
      · rw [if_neg h3, if_neg (by omega)]
theorem Link_cells {w : World} {base e n c g : Nat} {xs : List (Int × Int)} (h : w.ownsRow base e 2 (.slice (some ⟨g, 0, none⟩) n c) n (fl encLink xs)) {k : Nat} (hk : k < xs.length) :
    w.cell? ⟨g, k * 2, none⟩ = some (.int .i64 (glLink xs k).1) ∧ w.cell? ⟨g, k * 2 + 1, none⟩ = some (.int .i64 (glLink xs k).2) := by
  have a0 := fl_at (enc := encLink) encLink_len (j := 0) hk (by omega)
  have a1 := fl_at (enc := encLink) encLink_len (j := 1) hk (by omega)
  rw [glLink_get hk] at a0 a1
  have c0 := h.cells (g := g) rfl _ _ a0
  have c1 := h.cells (g := g) rfl _ _ a1
  rw [Go.WideShapes.add_plain, Nat.zero_add] at c0 c1
  exact ⟨c0, c1⟩
theorem own_frozen {w : World} {base e size n c g : Nat} {xs : List Value} (h : w.ownsRow base e size (.slice (some ⟨g, 0, none⟩) n c) n xs) (i : Nat) : w.frozen? ⟨g, i, none⟩ = false := by
  rcases h.2 with ⟨hv, _⟩ | ⟨g', cap, cur, hv, hb, hg, hnc, hcm, hsz, htk⟩
  · cases hv
  · injection hv with e1 _ e3; injection e1 with e1; injection e1 with e1; subst e1
    exact Blk.frozen (t := e) hg i
set_option maxRecDepth 100000 in
set_option maxHeartbeats 8000000 in
theorem impl_FollowLinks (A C : Option Addr) (c d : Nat) (a b : List Int) (w : World) (hx : RdI w w.heap.size A a) (hy : RdI w w.heap.size C b) (hl : a.length ≤ 1048576) (hl2 : b.length ≤ 1048576) :
    Calls Try.prog 28 #[.slice A a.length c, .slice C b.length d] w (RetRow w 42 2 (linksV a b).length (fl encLink (linksV a b))) := by
  have HX := Lib.hid hx; have HY := Lib.hid hy; clear hx hy
  have HN := Lib.hid (World.ownsRow_nil w w.heap.size 42 2)
  cases ha : okK a
  · rw [linksV_no (.inl ha)]
    have HA := Lib.hid ha; clear ha
    go_enter Try.func28, Try.ntmps28
    go_wp2_with fail
    refine (impl_areKeys A c a w HX.out hl).mono ?_
    rw [HA.out]
    rintro e w' ⟨rfl, rfl⟩
    go_wp2
    go_ret
    exact ⟨none, 0, rfl, HN.out, Below.refl _ _⟩
  cases hb : okK b
  · rw [linksV_no (.inr hb)]
    have HA := Lib.hid ha; have HB := Lib.hid hb; clear ha hb
    go_enter Try.func28, Try.ntmps28
    go_wp2_with fail
    refine (impl_areKeys A c a w HX.out hl).mono ?_
    rw [HA.out]
    rintro e w' ⟨rfl, rfl⟩
    go_wp2_with fail
    refine (impl_areKeys C d b w HY.out hl2).mono ?_
    rw [HB.out]
    rintro e w' ⟨rfl, rfl⟩
    go_wp2
    go_ret
    exact ⟨none, 0, rfl, HN.out, Below.refl _ _⟩
  rw [linksV_yes ha hb]
  have HLL := Lib.hid (links_len a b)
  have hla := okK_len ha
  have hlb := okK_len hb
  have HKA := Lib.hid ha; have HKB := Lib.hid hb; clear ha hb
  obtain ⟨i0, hi, hz0, hz1, hz2⟩ := info_parts infoLink'
  have HI := Lib.hid hi; have H0 := Lib.hid hz0; have H1 := Lib.hid hz1; have H2 := Lib.hid hz2; clear hi hz0 hz1 hz2
  have hmk0 := fun W => run_make_rowN (P := Try.prog) 34 42 i0 (.agg #[Value.int .i64 0, Value.int .i64 0]) Try.underlying34 HI.out H0.out .i64 .i64 0 (a.length + b.length) (Nat.zero_le _) (by rw [H2.out]; omega) (by omega) W
  have hmk : ∀ W : World, (Instr.makeSlice 34 (.int .i64 0) (.int .i64 ((a.length : Int) + (b.length : Int)))).run Try.prog W = .ok (.slice (some ⟨W.heap.size, 0, none⟩) 0 (a.length + b.length)) (W.alloc (.cells (madeCells (Value.cells (.agg #[Value.int .i64 0, Value.int .i64 0])) ((a.length + b.length) * 2)) 42)) := fun W => by
    have h := hmk0 W
    rw [H1.out] at h
    exact h
  have hmkN : ∀ W : World, (Instr.makeSlice 34 (.int .i64 0) (.int .i64 ((a.length + b.length : Nat) : Int))).run Try.prog W = .ok (.slice (some ⟨W.heap.size, 0, none⟩) 0 (a.length + b.length)) (W.alloc (.cells (madeCells (Value.cells (.agg #[Value.int .i64 0, Value.int .i64 0])) ((a.length + b.length) * 2)) 42)) := hmk
  clear hmk0
  go_enter Try.func28, Try.ntmps28
  go_wp2_with fail
  refine (impl_areKeys A c a w HX.out hl).mono ?_
  rw [HKA.out]
  rintro e w' ⟨rfl, rfl⟩
  go_wp2_with fail
  refine (impl_areKeys C d b w HY.out hl2).mono ?_
  rw [HKB.out]
  rintro e w' ⟨rfl, rfl⟩
  go_wp2_with fail
  refine (impl_followTable A C c d a b w HX.out HY.out HKA.out HKB.out).mono ?_
  rintro e w1 ⟨A1, c1, vs, rfl, ho, ht, hb1⟩
  obtain ⟨g, rfl, hgl, hall⟩ := ht.all ho (by omega) (by omega)
  have HT := Lib.hid hall
  have HX1 := Lib.hid (HX.out.below hb1 (Nat.le_refl _)); have HY1 := Lib.hid (HY.out.below hb1 (Nat.le_refl _))
  have zA := hb1.size
  have HW := Lib.hid hb1
  clear ho ht hall hb1 HX HY
  go_wp2_with fail
  have hrow : (w1.alloc (.cells (madeCells (Value.cells (.agg #[Value.int .i64 0, Value.int .i64 0])) ((a.length + b.length) * 2)) 42)).ownsRow w1.heap.size 42 2 (.slice (some ⟨w1.heap.size, 0, none⟩) 0 (a.length + b.length)) 0 [] :=
    ⟨rfl, .inr ⟨w1.heap.size, a.length + b.length, _, rfl, Nat.le_refl _, Blk.new _ _ _, Nat.zero_le _, by unfold maxLen; omega, by rw [size_madeCells], by simp⟩⟩
  have HE1 := Lib.hid hrow; clear hrow hmk hmkN
  have HAL := Lib.hid ((Below.refl w1.heap.size w1).alloc (Nat.le_refl _) (.cells (madeCells (Value.cells (.agg #[Value.int .i64 0, Value.int .i64 0])) ((a.length + b.length) * 2)) 42))
  go_loopw [6, 7, 8] (fun v vi vj wr => ∃ (i j f co : Nat) (Ao : Option Addr) (out : List (Int × Int)), i ≤ a.length ∧ j ≤ b.length ∧ i + j ≤ f ∧ vi = .int .i64 i ∧ vj = .int .i64 j ∧ v = .slice Ao out.length co ∧
    wr.ownsRow w1.heap.size 42 2 (.slice Ao out.length co) out.length (fl encLink out) ∧ out ++ btL a b f i j = btL a b (a.length + b.length) a.length b.length ∧ Below w1.heap.size w1 wr) (fun _ vi vj _ => (intOf vi).toNat + (intOf vj).toNat)
  case atStart => exact ⟨a.length, b.length, a.length + b.length, _, _, [], Nat.le_refl _, Nat.le_refl _, Nat.le_refl _, rfl, rfl, rfl, HE1.out, rfl, HAL.out⟩
  case round =>
    obtain ⟨i, j, f, co, Ao, out, hi, hj, hf, rfl, rfl, rfl, hown, hrun, hbel⟩ := hrel
    have hol : out.length ≤ 80 := by
      have := congrArg List.length hrun
      have h2 := btL_len a b (a.length + b.length) a.length b.length
      simp only [List.length_append] at this
      omega
    have HO := Lib.hid hown; have HR := Lib.hid hrun; have HB := Lib.hid hbel
    have hsz := hbel.size
    clear hown hrun HE1 HAL
    by_cases h0 : i = 0 ∧ j = 0
    · obtain ⟨rfl, rfl⟩ := h0
      have he : out = btL a b (a.length + b.length) a.length b.length := by have := HR.out; rw [bt_end] at this; simpa using this
      have HEQ := Lib.hid he
      clear he hbel
      go_wp2
      go_loopw [9, 10] (fun va vb wq => ∃ t : Nat, t ≤ out.length ∧ va = .int .i64 t ∧ vb = .int .i64 ((out.length : Int) - 1 - t) ∧ wq.ownsRow w1.heap.size 42 2 (.slice Ao out.length co) out.length (fl encLink (revTo out t)) ∧ Below w1.heap.size w1 wq) (fun va _ _ => out.length - (intOf va).toNat)
      case atStart => exact ⟨0, Nat.zero_le _, rfl, by simp, by rw [revTo_zero]; exact HO.out, HB.out⟩
      case round =>
        obtain ⟨t, ht, rfl, rfl, hown, hbq⟩ := hrel
        have zq := hbq.size
        have HBQ := Lib.hid hbq; clear hbq
        by_cases hlt : 2 * t + 1 < out.length
        · obtain ⟨gq, hA⟩ := own_someF hown (by omega)
          subst hA
          have hs : t < (revTo out t).length := by rw [revTo_len]; omega
          have hs2 : out.length - 1 - t < (revTo out t).length := by rw [revTo_len]; omega
          obtain ⟨p0, p1⟩ := Link_cells hown hs
          obtain ⟨q0, q1⟩ := Link_cells hown hs2
          rw [revTo_at (by omega), if_neg (by omega)] at p0 p1 q0 q1
          have fz := own_frozen hown
          have f0 := fz (t * 2); have f1 := fz (t * 2 + 1); have f2 := fz ((out.length - 1 - t) * 2); have f3 := fz ((out.length - 1 - t) * 2 + 1)
          have HS := Lib.hid (revTo_step hlt)
          have HOW := Lib.hid hown
          have HE2 := Lib.hid (fun (z : Int × Int) => fl_set2 (enc := encLink) encLink_len (xs := revTo out t) hs (z := z) rfl)
          have hu : (out.length - 1 - t : Nat) = out.length - 1 - t := rfl
          have u1 : (out.length : Int) - 1 - (t : Int) = ((out.length - 1 - t : Nat) : Int) := by omega
          have hq : t < out.length - 1 - t := by omega
          have hq2 : out.length - 1 - t < out.length := by omega
          generalize hqq : out.length - 1 - t = q at *
          have hq3 : (t : Int) < (q : Int) := by omega
          have hq4 : (q : Int) < (out.length : Int) := by omega
          have hq5 : (t : Int) < (out.length : Int) := by omega
          have nq : ¬ t * 2 = q * 2 := by omega
          generalize glLink out t = x at *
          generalize glLink out q = y at *
          clear hown fz hu hs hs2
          rw [u1]
          have HU := Lib.hid u1; clear u1
          go_wp2
          go_region
          have hgq := (HOW.out.lt gq rfl).1
          have h4 := own_set (own_set (own_set (own_set HOW.out (t * 2) (.int .i64 y.1)) (t * 2 + 1) (.int .i64 y.2)) (q * 2) (.int .i64 x.1)) (q * 2 + 1) (.int .i64 x.2)
          rw [HE2.out y, fl_set2 encLink_len (xs := (revTo out t).set t y) (k := q) (by simp [revTo_len]; omega) (z := x) rfl, HS.out] at h4
          have H4 := Lib.hid h4
          have HB4 := Lib.hid ((((HBQ.out.setCell (p := ⟨gq, t * 2, none⟩) hgq (.int .i64 y.1)).setCell (p := ⟨gq, t * 2 + 1, none⟩) hgq (.int .i64 y.2)).setCell (p := ⟨gq, q * 2, none⟩) hgq (.int .i64 x.1)).setCell (p := ⟨gq, q * 2 + 1, none⟩) hgq (.int .i64 x.2))
          clear h4
          go_wp2
          go_roundw
          case rel => exact ⟨t + 1, by omega, by go_num, congrArg (Value.int IntKind.i64) (by have := HU.out; omega), own_drew H4.out, Below.drew HB4.out⟩
          case measure => simp [intOf]; omega
        · have hge : out.length - 1 - t ≤ t := by omega
          have hlt2 : decide ((t : Int) < (out.length : Int) - 1 - (t : Int)) = false := decide_eq_false (by omega)
          have hlt3 : ¬ ((t : Int) < (out.length : Int) - 1 - (t : Int)) := by omega
          have HE := Lib.hid (revTo_end hge)
          have HOW := Lib.hid hown
          clear hown
          go_wp2
          go_ret
          refine ⟨_, _, by rw [linksTo, List.length_reverse, ← HEQ.out]; rfl, ?_, HW.out.trans (HBQ.out.mono (by omega))⟩
          have := HOW.out
          rw [HE.out] at this
          rw [linksTo, ← HEQ.out, List.length_reverse]
          exact own_mono this (by omega)
    by_cases hi0 : 0 < i
    · obtain ⟨i, rfl⟩ : ∃ i', i = i' + 1 := ⟨i - 1, by omega⟩
      obtain ⟨ga, ca, hga, ha0, ha1⟩ := HT.out (i + 1) (by omega)
      obtain ⟨gb, cb, hgb, hb0, hb1⟩ := HT.out i (by omega)
      have ha1j := ha1 j (by omega); have hb1j := hb1 j (by omega)
      have k1 : wr.cell? ⟨g, i + 1, none⟩ = some (.slice (some ⟨ga, 0, none⟩) (b.length + 1) ca) := (hbel.cell (p := ⟨g, i + 1, none⟩) (by simp; omega)).trans ha0
      have k2 : wr.cell? ⟨ga, j, none⟩ = some (.int .i64 (D a b (i + 1) j)) := (hbel.cell (p := ⟨ga, j, none⟩) (by simp; omega)).trans ha1j
      have k3 : wr.cell? ⟨g, i, none⟩ = some (.slice (some ⟨gb, 0, none⟩) (b.length + 1) cb) := (hbel.cell (p := ⟨g, i, none⟩) (by simp; omega)).trans hb0
      have k5 : wr.cell? ⟨gb, j, none⟩ = some (.int .i64 (D a b i j)) := (hbel.cell (p := ⟨gb, j, none⟩) (by simp; omega)).trans hb1j
      have n1 : ((i : Int) + 1).toNat = i + 1 := by omega
      have p1 : (i : Int) + 1 < (a.length : Int) + 1 := by omega
      have p2 : (i : Int) < (a.length : Int) + 1 := by omega
      have p3 : (i : Int) < (a.length : Int) := by omega
      have q1 : (j : Int) < (b.length : Int) + 1 := by omega
      have dA := D_bd a b (i := i + 1) (j := j) (by omega) (by omega)
      have dB := D_bd a b (i := i) (j := j) (by omega) (by omega)
      by_cases hj0 : 0 < j
      · obtain ⟨j, rfl⟩ : ∃ j', j = j' + 1 := ⟨j - 1, by omega⟩
        have hb2j := hb1 j (by omega)
        have k4 : wr.cell? ⟨gb, j, none⟩ = some (.int .i64 (D a b i j)) := (hbel.cell (p := ⟨gb, j, none⟩) (by simp; omega)).trans hb2j
        obtain ⟨bx, ox, rfl, hbx, hkx⟩ := HX1.out.at_ (k := i) (by omega)
        obtain ⟨by_, oy, rfl, hby, hky⟩ := HY1.out.at_ (k := j) (by omega)
        have k6 : wr.cell? ⟨bx, ox + i, none⟩ = some (.int .i64 (gi a i)) := (hbel.cell (p := ⟨bx, ox + i, none⟩) (by simp; omega)).trans hkx
        have k7 : wr.cell? ⟨by_, oy + j, none⟩ = some (.int .i64 (gi b j)) := (hbel.cell (p := ⟨by_, oy + j, none⟩) (by simp; omega)).trans hky
        have n2 : ((j : Int) + 1).toNat = j + 1 := by omega
        have q2 : (j : Int) + 1 < (b.length : Int) + 1 := by omega
        have q3 : (j : Int) < (b.length : Int) := by omega
        have q4 : (j : Int) < (b.length : Int) + 1 := by omega
        have hga' := okK_at HKA.out (k := i) (by omega)
        have hgb' := okK_at HKB.out (k := j) (by omega)
        have hlc := lc_bd (gi a i) (gi b j)
        have dC := D_bd a b (i := i) (j := j) (by omega) (by omega)
        have S1 := Lib.hid (fun h => bt_step1 (a := a) (b := b) (f := f) (i := i + 1) (j := j + 1) hf (by omega) (by omega) h)
        have S2 := Lib.hid (fun h1 h => bt_step2 (a := a) (b := b) (f := f) (i := i + 1) (j := j + 1) hf (by omega) h1 h)
        have S3 := Lib.hid (fun h1 h => bt_step3 (a := a) (b := b) (f := f) (i := i + 1) (j := j + 1) hf (by omega) h1 h)
        simp only [Nat.add_sub_cancel] at S1 S2 S3
        clear ha0 ha1 hb0 hb1 ha1j hb1j hb2j hkx hky
        generalize hd1 : D a b (i + 1) (j + 1) = d1 at *
        generalize hd2 : D a b i (j + 1) = d2 at *
        generalize hd3 : D a b i j = d3 at *
        generalize hx1 : gi a i = x1 at *
        generalize hx2 : gi b j = x2 at *
        clear hd1 hd2 hd3 hx1 hx2
        by_cases e1 : d1 = d3 + lc x1 x2
        · have t1 : (d1 == d3 + lc x1 x2) = true := beq_iff_eq.2 e1
          have ST := Lib.hid (S1.out e1)
          clear e1 S1 S2 S3
          go_wp2_with fail
          go_quiet ((go_at_call 43; first | exact quiet_left (impl_linkCost _ _ _ (by omega) (by omega)) | exact quiet_add_left (impl_linkCost _ _ _ (by omega) (by omega))))
          go_wp2_with (at_builtin; refine append_el rfl _ _ 34 rfl 42 i0 (.agg #[Value.int .i64 0, Value.int .i64 0]) 2 16 Try.underlying34 HI.out H0.out H1.out H2.out rfl (by decide) (by decide) w1.heap.size w1 _ _ out.length _ (by exact HO.out) (HB.out.trans (Below.mono (B := wr.heap.size) (by (repeat (first | exact Below.refl _ _ | refine Below.setCell ?_ (by simp) _ | refine Below.alloc ?_ (by simp) _ | refine below_drewN ?_ _ | refine Below.drew ?_))) hsz)) (by simp [World.setCell]; try omega) (by omega) rfl [.int .i64 ((i : Int)), .int .i64 ((j : Int))] rfl (link_one_cell _ _) rfl ?_; intro A2 c2 w2 hown2 hbel2 hbase2 hg2)
          go_roundw
          case rel => exact ⟨i, j, f - 1, c2, A2, out ++ [((i : Int), (j : Int))], by omega, by omega, by omega, by go_num, by go_num, by rw [List.length_append]; rfl, by rw [List.length_append, fl_append, fl_one]; exact hown2, by rw [← HR.out, ST.out]; simp, hbel2⟩
          case measure => simp [intOf]; try omega
        · have t1 : (d1 == d3 + lc x1 x2) = false := beq_eq_false_iff_ne.2 e1
          by_cases e2 : d1 = d2 + 2
          · have t2 : (d1 == d2 + 2) = true := beq_iff_eq.2 e2
            have ST := Lib.hid (S2.out (fun h => e1 h.2) e2)
            clear e1 e2 S1 S2 S3
            go_wp2_with fail
            go_quiet ((go_at_call 43; first | exact quiet_left (impl_linkCost _ _ _ (by omega) (by omega)) | exact quiet_add_left (impl_linkCost _ _ _ (by omega) (by omega))))
            go_wp2_with fail
            go_quiet ((go_at_call 43; first | exact quiet_left (impl_linkCost _ _ _ (by omega) (by omega)) | exact quiet_add_left (impl_linkCost _ _ _ (by omega) (by omega))))
            go_wp2_with (at_builtin; refine append_el rfl _ _ 34 rfl 42 i0 (.agg #[Value.int .i64 0, Value.int .i64 0]) 2 16 Try.underlying34 HI.out H0.out H1.out H2.out rfl (by decide) (by decide) w1.heap.size w1 _ _ out.length _ (by exact HO.out) (HB.out.trans (Below.mono (B := wr.heap.size) (by (repeat (first | exact Below.refl _ _ | refine Below.setCell ?_ (by simp) _ | refine Below.alloc ?_ (by simp) _ | refine below_drewN ?_ _ | refine Below.drew ?_))) hsz)) (by simp [World.setCell]; try omega) (by omega) rfl [.int .i64 ((i : Int)), .int .i64 (-1)] rfl (link_one_cell _ _) rfl ?_; intro A2 c2 w2 hown2 hbel2 hbase2 hg2)
            go_roundw
            case rel => exact ⟨i, j + 1, f - 1, c2, A2, out ++ [((i : Int), -1)], by omega, by omega, by omega, by go_num, by go_num, by rw [List.length_append]; rfl, by rw [List.length_append, fl_append, fl_one]; exact hown2, by rw [← HR.out, ST.out]; simp, hbel2⟩
            case measure => simp [intOf]; try omega
          · have t2 : (d1 == d2 + 2) = false := beq_eq_false_iff_ne.2 e2
            have ST := Lib.hid (S3.out (fun h => e1 h.2) (fun h => e2 h.2))
            clear e1 e2 S1 S2 S3
            go_wp2_with fail
            go_quiet ((go_at_call 43; first | exact quiet_left (impl_linkCost _ _ _ (by omega) (by omega)) | exact quiet_add_left (impl_linkCost _ _ _ (by omega) (by omega))))
            go_wp2_with fail
            go_quiet ((go_at_call 43; first | exact quiet_left (impl_linkCost _ _ _ (by omega) (by omega)) | exact quiet_add_left (impl_linkCost _ _ _ (by omega) (by omega))))
            go_wp2_with (at_builtin; refine append_el rfl _ _ 34 rfl 42 i0 (.agg #[Value.int .i64 0, Value.int .i64 0]) 2 16 Try.underlying34 HI.out H0.out H1.out H2.out rfl (by decide) (by decide) w1.heap.size w1 _ _ out.length _ (by exact HO.out) (HB.out.trans (Below.mono (B := wr.heap.size) (by (repeat (first | exact Below.refl _ _ | refine Below.setCell ?_ (by simp) _ | refine Below.alloc ?_ (by simp) _ | refine below_drewN ?_ _ | refine Below.drew ?_))) hsz)) (by simp [World.setCell]; try omega) (by omega) rfl [.int .i64 (-1), .int .i64 ((j : Int))] rfl (link_one_cell _ _) rfl ?_; intro A2 c2 w2 hown2 hbel2 hbase2 hg2)
            go_roundw
            case rel => exact ⟨i + 1, j, f - 1, c2, A2, out ++ [(-1, (j : Int))], by omega, by omega, by omega, by go_num, by go_num, by rw [List.length_append]; rfl, by rw [List.length_append, fl_append, fl_one]; exact hown2, by rw [← HR.out, ST.out]; simp, hbel2⟩
            case measure => simp [intOf]; try omega
      · have hj1 : ¬ (0 < (j : Int)) := by omega
        have hj2 : decide (0 < j) = false := decide_eq_false hj0
        have hj3 : decide (0 < (j : Int)) = false := decide_eq_false hj1
        have e1 : D a b (i + 1) j = D a b i j + 2 := by rw [show j = 0 by omega, D_i0, D_i0]; omega
        have t2 : (D a b (i + 1) j == D a b i j + 2) = true := beq_iff_eq.2 e1
        have ST := Lib.hid (bt_step2 (a := a) (b := b) (f := f) (i := i + 1) (j := j) hf (by omega) (by omega) (by rw [Nat.add_sub_cancel]; exact e1))
        simp only [Nat.add_sub_cancel] at ST
        clear ha0 ha1 hb0 hb1 ha1j hb1j e1 hj1
        generalize hd1 : D a b (i + 1) j = d1 at *
        generalize hd2 : D a b i j = d2 at *
        clear hd1 hd2
        go_wp2_with fail
        go_quiet ((go_at_call 43; first | exact quiet_left (impl_linkCost _ _ _ (by omega) (by omega)) | exact quiet_add_left (impl_linkCost _ _ _ (by omega) (by omega))))
        go_wp2_with fail
        go_quiet ((go_at_call 43; first | exact quiet_left (impl_linkCost _ _ _ (by omega) (by omega)) | exact quiet_add_left (impl_linkCost _ _ _ (by omega) (by omega))))
        go_wp2_with (at_builtin; refine append_el rfl _ _ 34 rfl 42 i0 (.agg #[Value.int .i64 0, Value.int .i64 0]) 2 16 Try.underlying34 HI.out H0.out H1.out H2.out rfl (by decide) (by decide) w1.heap.size w1 _ _ out.length _ (by exact HO.out) (HB.out.trans (Below.mono (B := wr.heap.size) (by (repeat (first | exact Below.refl _ _ | refine Below.setCell ?_ (by simp) _ | refine Below.alloc ?_ (by simp) _ | refine below_drewN ?_ _ | refine Below.drew ?_))) hsz)) (by simp [World.setCell]; try omega) (by omega) rfl [.int .i64 ((i : Int)), .int .i64 (-1)] rfl (link_one_cell _ _) rfl ?_; intro A2 c2 w2 hown2 hbel2 hbase2 hg2)
        go_roundw
        case rel => exact ⟨i, j, f - 1, c2, A2, out ++ [((i : Int), -1)], by omega, by omega, by omega, by go_num, by go_num, by rw [List.length_append]; rfl, by rw [List.length_append, fl_append, fl_one]; exact hown2, by rw [← HR.out, ST.out]; simp, hbel2⟩
        case measure => simp [intOf]; try omega
    · have hi1 : ¬ (0 < (i : Int)) := by omega
      have hi2 : decide (0 < i) = false := decide_eq_false hi0
      have hi3 : decide (0 < (i : Int)) = false := decide_eq_false hi1
      obtain ⟨j, rfl⟩ : ∃ j', j = j' + 1 := ⟨j - 1, by omega⟩
      have hj3 : decide (0 < ((j : Int) + 1)) = true := decide_eq_true (by omega)
      have ST := Lib.hid (bt_step3 (a := a) (b := b) (f := f) (i := i) (j := j + 1) hf (by omega) (by omega) (by omega))
      simp only [Nat.add_sub_cancel] at ST
      clear hi1
      go_wp2_with fail
      go_quiet ((go_at_call 43; first | exact quiet_left (impl_linkCost _ _ _ (by omega) (by omega)) | exact quiet_add_left (impl_linkCost _ _ _ (by omega) (by omega))))
      go_wp2_with fail
      go_quiet ((go_at_call 43; first | exact quiet_left (impl_linkCost _ _ _ (by omega) (by omega)) | exact quiet_add_left (impl_linkCost _ _ _ (by omega) (by omega))))
      go_wp2_with (at_builtin; refine append_el rfl _ _ 34 rfl 42 i0 (.agg #[Value.int .i64 0, Value.int .i64 0]) 2 16 Try.underlying34 HI.out H0.out H1.out H2.out rfl (by decide) (by decide) w1.heap.size w1 _ _ out.length _ (by exact HO.out) (HB.out.trans (Below.mono (B := wr.heap.size) (by (repeat (first | exact Below.refl _ _ | refine Below.setCell ?_ (by simp) _ | refine Below.alloc ?_ (by simp) _ | refine below_drewN ?_ _ | refine Below.drew ?_))) hsz)) (by simp [World.setCell]; try omega) (by omega) rfl [.int .i64 (-1), .int .i64 ((j : Int))] rfl (link_one_cell _ _) rfl ?_; intro A2 c2 w2 hown2 hbel2 hbase2 hg2)
      go_roundw
      case rel => exact ⟨i, j, f - 1, c2, A2, out ++ [(-1, (j : Int))], by omega, by omega, by omega, by go_num, by go_num, by rw [List.length_append]; rfl, by rw [List.length_append, fl_append, fl_one]; exact hown2, by rw [← HR.out, ST.out]; simp, hbel2⟩
      case measure => simp [intOf]; try omega
end Go.Proofs.Ytfmdpnnddhelaaa
