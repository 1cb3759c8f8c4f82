/- Contracts of the writer of plain voices (write, sound, result), and of l20Add. Condition: sizes. -/
import Derived.Test.YtgnbnedjocolcaaAppR
import Derived.Test.YtgnbnedjocolcaaKeys
import Derived.BigRegion
namespace Go.Proofs.Ytgnbnedjocolcaa
open Go.RowKit
set_option linter.unusedSimpArgs false
set_option linter.unusedVariables false
set_option maxRecDepth 100000
def Wtr (w : World) (g : Nat) (v : List Nt) (e : Int) : Prop := ∃ A c, Blk w g 61 #[.slice A v.length c, .int .i64 e] ∧ w.ownsRow (g + 1) 63 6 (.slice A v.length c) v.length (fl encNote v)
theorem Wtr.al {w : World} {g : Nat} {v : List Nt} {e : Int} (h : Wtr w g v e) (o : Obj) : Wtr (w.alloc o) g v e := by
  obtain ⟨A, c, x1, x2⟩ := h
  exact ⟨A, c, x1.alloc o, x2.alloc o⟩
theorem Wtr.drew {w : World} {g : Nat} {v : List Nt} {e : Int} (h : Wtr w g v e) : Wtr w.drew g v e := h
theorem Wtr.below {w w' : World} {g : Nat} {v : List Nt} {e : Int} (h : Wtr w g v e) (b : Below w.heap.size w w') : Wtr w' g v e := by
  obtain ⟨A1, c1, x1, x2⟩ := h
  exact ⟨A1, c1, x1.below b x1.lt, x2.kept (row := none) (only_of_below b none) (by rw [ob_slice]; cases A1 <;> simp [obA])⟩
/-- a block that is neither the writer nor its row -/
def Away (w : World) (g nb : Nat) : Prop := nb ≠ g ∧ ∀ A n c, w.cell? ⟨g, 0, none⟩ = some (.slice A n c) → obA A ≠ some nb
/-- what the writer's calls leave alone -/
def WtrK (w w' : World) (g : Nat) : Prop := ∀ nb t cs, Blk w nb t cs → Away w g nb → Blk w' nb t cs ∧ Away w' g nb
theorem WtrK.refl (w : World) (g : Nat) : WtrK w w g := fun _ _ _ h k => ⟨h, k⟩
theorem WtrK.trans {a b c : World} {g : Nat} (h : WtrK a b g) (h2 : WtrK b c g) : WtrK a c g := fun nb t cs hb ha => h2 nb t cs (h nb t cs hb ha).1 (h nb t cs hb ha).2
theorem WtrK.bel {a w w' : World} {g : Nat} (h : WtrK a w g) (b : Below w.heap.size w w') (hg : g < w.heap.size) : WtrK a w' g := h.trans fun nb t cs hb ha => ⟨hb.below b hb.lt, ha.1, fun A n c hc => ha.2 A n c ((b.cell (p := ⟨g, 0, none⟩) hg).symm.trans hc)⟩
structure FB (g : Nat) (w wr : World) (A : Option Addr) : Prop where
  bel : Below g w wr
  lt : g < w.heap.size
  kp : ∀ nb t cs, Blk w nb t cs → Away w g nb → Blk wr nb t cs ∧ obA A ≠ some nb
theorem FB.setCell {g : Nat} {w wr : World} {A : Option Addr} (h : FB g w wr A) {p : Addr} (hp : w.heap.size ≤ p.block) (u : Value) : FB g w (wr.setCell p u) A :=
  ⟨h.bel.setCell (by have := h.lt; omega) u, h.lt, fun nb t cs hb ha => ⟨((h.kp nb t cs hb ha).1).far (by have := hb.lt; omega) u, (h.kp nb t cs hb ha).2⟩⟩
theorem FB.setG {g : Nat} {w wr : World} {A : Option Addr} (h : FB g w wr A) (k : Nat) (u : Value) : FB g w (wr.setCell ⟨g, k, none⟩ u) A :=
  ⟨h.bel.setCell (Nat.le_refl _) u, h.lt, fun nb t cs hb ha => ⟨((h.kp nb t cs hb ha).1).far (p := ⟨g, k, none⟩) (fun e => ha.1 e) u, (h.kp nb t cs hb ha).2⟩⟩
theorem FB.drew {g : Nat} {w wr : World} {A : Option Addr} (h : FB g w wr A) : FB g w wr.drew A := ⟨h.bel.drew, h.lt, fun nb t cs hb ha => ⟨((h.kp nb t cs hb ha).1).drew, (h.kp nb t cs hb ha).2⟩⟩
theorem FB.grw {g : Nat} {w wr w2 : World} {A A2 : Option Addr} (h : FB g w wr A) (hr : Grw wr w2 A A2) (ho : ∀ k, obA A = some k → g ≤ k) : FB g w w2 A2 :=
  ⟨h.bel.trans (hr.below (by have := h.bel.size; have := h.lt; omega) ho), h.lt, fun nb t cs hb ha => ⟨hr.blk (h.kp nb t cs hb ha).1 (h.kp nb t cs hb ha).2, hr.ne (h.kp nb t cs hb ha).1.lt (h.kp nb t cs hb ha).2⟩⟩
theorem FB.start {g n c : Nat} {w : World} {A : Option Addr} (hc : w.cell? ⟨g, 0, none⟩ = some (.slice A n c)) (hg : g < w.heap.size) (k : Nat) (u : Value) (o : Obj) : FB g w ((w.setCell ⟨g, k, none⟩ u).alloc o) A :=
  ⟨((Below.refl g w).setCell (Nat.le_refl _) u).alloc (by simp; omega) o, hg, fun nb t cs hb ha => ⟨(hb.far (p := ⟨g, k, none⟩) (fun e => ha.1 e) u).alloc o, ha.2 A n c hc⟩⟩
theorem FB.fin {g n c : Nat} {w wr : World} {A : Option Addr} (h : FB g w wr A) (hc : wr.cell? ⟨g, 0, none⟩ = some (.slice A n c)) : WtrK w wr g :=
  fun nb t cs hb ha => ⟨(h.kp nb t cs hb ha).1, ha.1, fun A' n' c' hc' => by rw [hc] at hc'; injection hc' with e; injection e with e1 e2 e3; subst e1; exact (h.kp nb t cs hb ha).2⟩
set_option maxHeartbeats 4000000 in
theorem impl_write (r : Bool) (s a o t0 : Int) (d0 : Bool) (n : Int) (g : Nat) (v : List Nt) (e : Int) (w : World) (hw : Wtr w g v e) (hn : 0 ≤ n ∧ n ≤ 1000000) (he : 0 ≤ e ∧ e ≤ 2000000) (hl : (v.length : Int) ≤ e) :
    Calls Try.prog 57 #[.pointer (some ⟨g, 0, none⟩), .agg #[.bool r, .int .i64 s, .int .i64 a, .int .i64 o, .int .i64 t0, .bool d0], .int .i64 n] w fun x w' => x = .returned (.tuple #[]) ∧ Wtr w' g (v ++ pcs (r, s, a, o) n) (e + n) ∧ Below g w w' ∧ WtrK w w' g := by
  obtain ⟨i0, hi, hz0, hz1, hz2⟩ := info_parts infoNote
  have HI := Lib.hid hi; have H0 := Lib.hid hz0; have H1 := Lib.hid hz1; have H2 := Lib.hid hz2; clear hi hz0 hz1 hz2
  obtain ⟨A, c, hb, ho⟩ := hw
  have hgl := hb.lt
  have hob := own_ob ho
  have HB := Lib.hid hb; have HO := Lib.hid ho
  have c0 : ∀ ob, (w.alloc ob).cell? ⟨g, 0, none⟩ = some (.slice A v.length c) := fun ob => (World.cell?_alloc_lt w ob _ hgl).trans (hb.cell 0)
  have c1 : ∀ ob, (w.alloc ob).cell? ⟨g, 1, none⟩ = some (.int .i64 e) := fun ob => (World.cell?_alloc_lt w ob _ hgl).trans (hb.cell 1)
  have f1 : ∀ ob, (w.alloc ob).frozen? ⟨g, 1, none⟩ = false := fun ob => (hb.alloc ob).frozen 1
  clear hb ho
  go_enter Try.func57, Try.ntmps57
  go_wp2_with fail
  clear c0 c1 f1
  go_loopw [2] (fun i wr => ∃ (m : Int) (vr : List Nt) (A : Option Addr) (c : Nat) (T : Int) (D : Bool), i = .int .i64 m ∧ 0 ≤ m ∧ m ≤ 1000000 ∧ vr ++ pcs (r, s, a, o) m = v ++ pcs (r, s, a, o) n ∧ (vr.length : Int) + m ≤ v.length + n ∧ Blk wr w.heap.size 63 #[.bool r, .int .i64 s, .int .i64 a, .int .i64 o, .int .i64 T, .bool D] ∧ Blk wr g 61 #[.slice A vr.length c, .int .i64 (e + n)] ∧ wr.ownsRow (g + 1) 63 6 (.slice A vr.length c) vr.length (fl encNote vr) ∧ obA A ≠ some w.heap.size ∧ FB g w wr A) (fun i _ => (intOf i).toNat)
  case atStart =>
    refine ⟨n, v, A, c, t0, d0, rfl, hn.1, by omega, rfl, Int.le_refl _, Blk.newAt (by simp), (HB.out.set_ 1 _).alloc _, (own_far HO.out (fun e2 => by have := hob _ e2; simp at this; omega) _).alloc _, (fun e2 => by have := hob _ e2; omega), FB.start (HB.out.cell 0) hgl _ _ _⟩
  case round =>
    obtain ⟨m, vr, A, c, T, D, rfl, hm0, hm1, heq, hln, hnb, hg, ho, hne, hbel⟩ := hrel
    have hgl2 := hg.lt; have hnl := hnb.lt
    have HE := Lib.hid heq; have HNB := Lib.hid hnb; have HG := Lib.hid hg; have HO := Lib.hid ho; have HNE := Lib.hid hne; have HBEL := Lib.hid hbel
    have c0 := hnb.cell 0; have c1 := hnb.cell 1; have c2 := hnb.cell 2; have c3 := hnb.cell 3; have c4 := hnb.cell 4; have c5 := hnb.cell 5
    have f4 := hnb.frozen 4; have f5 := hnb.frozen 5
    have k0 := hg.cell 0; have j0 := hg.frozen 0
    clear heq hnb hg ho hne hbel
    by_cases hz : 0 < m
    · by_cases h8 : m ≤ 768
      ·
        go_wp2_with fail
        have hnb' := (HNB.out.set_ 4 (.int .i64 m)).set_ 5 (.bool false)
        have hg' := (HG.out.far (p := ⟨w.heap.size, 4, none⟩) (by simp; omega) (.int .i64 m)).far (p := ⟨w.heap.size, 5, none⟩) (by simp; omega) (.bool false)
        have ho' := own_far (p := ⟨w.heap.size, 5, none⟩) (own_far (p := ⟨w.heap.size, 4, none⟩) HO.out HNE.out (.int .i64 m)) HNE.out (.bool false)
        have hbel' := (HBEL.out.setCell (p := ⟨w.heap.size, 4, none⟩) (Nat.le_refl _) (.int .i64 m)).setCell (p := ⟨w.heap.size, 5, none⟩) (Nat.le_refl _) (.bool false)
        clear HNB HG HO HBEL c0 c1 c2 c3 c4 c5 k0 j0 f4 f5 hnl hgl2
        generalize (wr.setCell ⟨w.heap.size, 4, none⟩ (.int .i64 m)).setCell ⟨w.heap.size, 5, none⟩ (.bool false) = X at *
        have c0 : X.cell? ⟨w.heap.size, 0, none⟩ = some (.bool r) := hnb'.cell 0
        have c1 : X.cell? ⟨w.heap.size, 1, none⟩ = some (.int .i64 s) := hnb'.cell 1
        have c2 : X.cell? ⟨w.heap.size, 2, none⟩ = some (.int .i64 a) := hnb'.cell 2
        have c3 : X.cell? ⟨w.heap.size, 3, none⟩ = some (.int .i64 o) := hnb'.cell 3
        have c4 : X.cell? ⟨w.heap.size, 4, none⟩ = some (.int .i64 (m)) := hnb'.cell 4
        have c5 : X.cell? ⟨w.heap.size, 5, none⟩ = some (.bool false) := hnb'.cell 5
        have k0 : X.cell? ⟨g, 0, none⟩ = some (.slice A vr.length c) := hg'.cell 0
        have hgl2 := hg'.lt; have hnl := hnb'.lt
        have HNB := Lib.hid hnb'; have HG := Lib.hid hg'; have HO := Lib.hid ho'; have HBEL := Lib.hid hbel'
        have hob := own_ob ho'
        have HNG : Hid (obA A ≠ some g) := Lib.hid (fun e2 => by have := hob _ e2; omega)
        have HLO : ∀ k, obA A = some k → g ≤ k := fun k e2 => by have := hob _ e2; omega
        clear hnb' hg' ho' hbel'
        go_region_law (first | (refine step_app_rec rfl _ _ 33 rfl (g + 1) 63 i0 (.agg #[Value.bool false, Value.int .i64 0, Value.int .i64 0, Value.int .i64 0, Value.int .i64 0, Value.bool false]) 48 Try.underlying33 HI.out H0.out H1.out H2.out rfl (by decide) (by decide) X.drew A c vr rfl (own_drew HO.out) (show g + 1 ≤ X.drew.heap.size from hgl2) (by omega) (r, s, a, o, m, false) [.bool r, .int .i64 s, .int .i64 a, .int .i64 o, .int .i64 (m), .bool false] rfl rfl (note_one _ _ _ _ _ _) rfl ?_; intro g2 cap2 w2 o2 gr2; have f2 := (gr2.blk HG.out.drew HNG.out).frozen 0; have k2 : w2.cell? ⟨g, 0, none⟩ = some (.slice A vr.length c) := (gr2.blk HG.out.drew HNG.out).cell 0))
        all_goals
          have O2 := Lib.hid o2; have G2 := Lib.hid gr2; clear o2 gr2 f2 k2
          go_wp2_with fail
          go_roundw
          case rel =>
            refine ⟨0, vr ++ [(r, s, a, o, m, false)], some ⟨g2, 0, none⟩, cap2, m, false, by go_num, by omega, by omega, ?_, by simp; omega, ?_, ?_, ?_, ?_, ?_⟩
            · rw [List.append_assoc, ← HE.out, pcs_step hz]
              have e1 : min m 768 = m := by omega
              rw [e1]
              have e2 : m - m = 0 := by omega
              rw [e2]
              congr 2
              try (rw [pcs_none (Int.le_refl 0)]; simp)
            · exact ((G2.out.blk HNB.out.drew HNE.out).far (by simp; omega) _).drew
            · rw [List.length_append]; exact ((G2.out.blk HG.out.drew HNG.out).set_ 0 _).drew
            · rw [List.length_append]
              exact own_drew (own_far O2.out (fun e2 => by rcases own_ob O2.out _ e2 with ⟨h1, h2⟩; simp at h1; omega) _)
            · exact G2.out.ne (by simpa using hnl) HNE.out
            · first | exact (HBEL.out.drew.grw G2.out HLO).setG 0 _ | exact ((HBEL.out.drew.grw G2.out HLO).setG 0 _).drew
          case measure => simp [intOf]; omega
      · cases r
        ·
          go_wp2_with fail
          have hnb' := (HNB.out.set_ 4 (.int .i64 768)).set_ 5 (.bool true)
          have hg' := (HG.out.far (p := ⟨w.heap.size, 4, none⟩) (by simp; omega) (.int .i64 768)).far (p := ⟨w.heap.size, 5, none⟩) (by simp; omega) (.bool true)
          have ho' := own_far (p := ⟨w.heap.size, 5, none⟩) (own_far (p := ⟨w.heap.size, 4, none⟩) HO.out HNE.out (.int .i64 768)) HNE.out (.bool true)
          have hbel' := (HBEL.out.setCell (p := ⟨w.heap.size, 4, none⟩) (Nat.le_refl _) (.int .i64 768)).setCell (p := ⟨w.heap.size, 5, none⟩) (Nat.le_refl _) (.bool true)
          clear HNB HG HO HBEL c0 c1 c2 c3 c4 c5 k0 j0 f4 f5 hnl hgl2
          generalize (wr.setCell ⟨w.heap.size, 4, none⟩ (.int .i64 768)).setCell ⟨w.heap.size, 5, none⟩ (.bool true) = X at *
          have c0 : X.cell? ⟨w.heap.size, 0, none⟩ = some (.bool false) := hnb'.cell 0
          have c1 : X.cell? ⟨w.heap.size, 1, none⟩ = some (.int .i64 s) := hnb'.cell 1
          have c2 : X.cell? ⟨w.heap.size, 2, none⟩ = some (.int .i64 a) := hnb'.cell 2
          have c3 : X.cell? ⟨w.heap.size, 3, none⟩ = some (.int .i64 o) := hnb'.cell 3
          have c4 : X.cell? ⟨w.heap.size, 4, none⟩ = some (.int .i64 (768)) := hnb'.cell 4
          have c5 : X.cell? ⟨w.heap.size, 5, none⟩ = some (.bool true) := hnb'.cell 5
          have k0 : X.cell? ⟨g, 0, none⟩ = some (.slice A vr.length c) := hg'.cell 0
          have hgl2 := hg'.lt; have hnl := hnb'.lt
          have HNB := Lib.hid hnb'; have HG := Lib.hid hg'; have HO := Lib.hid ho'; have HBEL := Lib.hid hbel'
          have hob := own_ob ho'
          have HNG : Hid (obA A ≠ some g) := Lib.hid (fun e2 => by have := hob _ e2; omega)
          have HLO : ∀ k, obA A = some k → g ≤ k := fun k e2 => by have := hob _ e2; omega
          clear hnb' hg' ho' hbel'
          go_region_law (first | (refine step_app_rec rfl _ _ 33 rfl (g + 1) 63 i0 (.agg #[Value.bool false, Value.int .i64 0, Value.int .i64 0, Value.int .i64 0, Value.int .i64 0, Value.bool false]) 48 Try.underlying33 HI.out H0.out H1.out H2.out rfl (by decide) (by decide) X.drew A c vr rfl (own_drew HO.out) (show g + 1 ≤ X.drew.heap.size from hgl2) (by omega) (false, s, a, o, 768, true) [.bool false, .int .i64 s, .int .i64 a, .int .i64 o, .int .i64 (768), .bool true] rfl rfl (note_one _ _ _ _ _ _) rfl ?_; intro g2 cap2 w2 o2 gr2; have f2 := (gr2.blk HG.out.drew HNG.out).frozen 0; have k2 : w2.cell? ⟨g, 0, none⟩ = some (.slice A vr.length c) := (gr2.blk HG.out.drew HNG.out).cell 0))
          all_goals
            have O2 := Lib.hid o2; have G2 := Lib.hid gr2; clear o2 gr2 f2 k2
            go_wp2_with fail
            go_roundw
            case rel =>
              refine ⟨m - 768, vr ++ [(false, s, a, o, 768, true)], some ⟨g2, 0, none⟩, cap2, 768, true, by go_num, by omega, by omega, ?_, by simp; omega, ?_, ?_, ?_, ?_, ?_⟩
              · rw [List.append_assoc, ← HE.out, pcs_step hz]
                have e1 : min m 768 = 768 := by omega
                rw [e1]
                have e2 : m - 768 = m - 768 := by omega
                rw [e2]
                congr 2
                have : decide (0 < m - 768) = true := decide_eq_true (by omega)
                rw [this]; rfl
              · exact ((G2.out.blk HNB.out.drew HNE.out).far (by simp; omega) _).drew
              · rw [List.length_append]; exact ((G2.out.blk HG.out.drew HNG.out).set_ 0 _).drew
              · rw [List.length_append]
                exact own_drew (own_far O2.out (fun e2 => by rcases own_ob O2.out _ e2 with ⟨h1, h2⟩; simp at h1; omega) _)
              · exact G2.out.ne (by simpa using hnl) HNE.out
              · first | exact (HBEL.out.drew.grw G2.out HLO).setG 0 _ | exact ((HBEL.out.drew.grw G2.out HLO).setG 0 _).drew
            case measure => simp [intOf]; omega
        ·
          go_wp2_with fail
          have hnb' := (HNB.out.set_ 4 (.int .i64 768)).set_ 5 (.bool false)
          have hg' := (HG.out.far (p := ⟨w.heap.size, 4, none⟩) (by simp; omega) (.int .i64 768)).far (p := ⟨w.heap.size, 5, none⟩) (by simp; omega) (.bool false)
          have ho' := own_far (p := ⟨w.heap.size, 5, none⟩) (own_far (p := ⟨w.heap.size, 4, none⟩) HO.out HNE.out (.int .i64 768)) HNE.out (.bool false)
          have hbel' := (HBEL.out.setCell (p := ⟨w.heap.size, 4, none⟩) (Nat.le_refl _) (.int .i64 768)).setCell (p := ⟨w.heap.size, 5, none⟩) (Nat.le_refl _) (.bool false)
          clear HNB HG HO HBEL c0 c1 c2 c3 c4 c5 k0 j0 f4 f5 hnl hgl2
          generalize (wr.setCell ⟨w.heap.size, 4, none⟩ (.int .i64 768)).setCell ⟨w.heap.size, 5, none⟩ (.bool false) = X at *
          have c0 : X.cell? ⟨w.heap.size, 0, none⟩ = some (.bool true) := hnb'.cell 0
          have c1 : X.cell? ⟨w.heap.size, 1, none⟩ = some (.int .i64 s) := hnb'.cell 1
          have c2 : X.cell? ⟨w.heap.size, 2, none⟩ = some (.int .i64 a) := hnb'.cell 2
          have c3 : X.cell? ⟨w.heap.size, 3, none⟩ = some (.int .i64 o) := hnb'.cell 3
          have c4 : X.cell? ⟨w.heap.size, 4, none⟩ = some (.int .i64 (768)) := hnb'.cell 4
          have c5 : X.cell? ⟨w.heap.size, 5, none⟩ = some (.bool false) := hnb'.cell 5
          have k0 : X.cell? ⟨g, 0, none⟩ = some (.slice A vr.length c) := hg'.cell 0
          have hgl2 := hg'.lt; have hnl := hnb'.lt
          have HNB := Lib.hid hnb'; have HG := Lib.hid hg'; have HO := Lib.hid ho'; have HBEL := Lib.hid hbel'
          have hob := own_ob ho'
          have HNG : Hid (obA A ≠ some g) := Lib.hid (fun e2 => by have := hob _ e2; omega)
          have HLO : ∀ k, obA A = some k → g ≤ k := fun k e2 => by have := hob _ e2; omega
          clear hnb' hg' ho' hbel'
          go_region_law (first | (refine step_app_rec rfl _ _ 33 rfl (g + 1) 63 i0 (.agg #[Value.bool false, Value.int .i64 0, Value.int .i64 0, Value.int .i64 0, Value.int .i64 0, Value.bool false]) 48 Try.underlying33 HI.out H0.out H1.out H2.out rfl (by decide) (by decide) X.drew A c vr rfl (own_drew HO.out) (show g + 1 ≤ X.drew.heap.size from hgl2) (by omega) (true, s, a, o, 768, false) [.bool true, .int .i64 s, .int .i64 a, .int .i64 o, .int .i64 (768), .bool false] rfl rfl (note_one _ _ _ _ _ _) rfl ?_; intro g2 cap2 w2 o2 gr2; have f2 := (gr2.blk HG.out.drew HNG.out).frozen 0; have k2 : w2.cell? ⟨g, 0, none⟩ = some (.slice A vr.length c) := (gr2.blk HG.out.drew HNG.out).cell 0))
          all_goals
            have O2 := Lib.hid o2; have G2 := Lib.hid gr2; clear o2 gr2 f2 k2
            go_wp2_with fail
            go_roundw
            case rel =>
              refine ⟨m - 768, vr ++ [(true, s, a, o, 768, false)], some ⟨g2, 0, none⟩, cap2, 768, false, by go_num, by omega, by omega, ?_, by simp; omega, ?_, ?_, ?_, ?_, ?_⟩
              · rw [List.append_assoc, ← HE.out, pcs_step hz]
                have e1 : min m 768 = 768 := by omega
                rw [e1]
                have e2 : m - 768 = m - 768 := by omega
                rw [e2]
                congr 2
                have : decide (0 < m - 768) = true := decide_eq_true (by omega)
                rw [this]; rfl
              · exact ((G2.out.blk HNB.out.drew HNE.out).far (by simp; omega) _).drew
              · rw [List.length_append]; exact ((G2.out.blk HG.out.drew HNG.out).set_ 0 _).drew
              · rw [List.length_append]
                exact own_drew (own_far O2.out (fun e2 => by rcases own_ob O2.out _ e2 with ⟨h1, h2⟩; simp at h1; omega) _)
              · exact G2.out.ne (by simpa using hnl) HNE.out
              · first | exact (HBEL.out.drew.grw G2.out HLO).setG 0 _ | exact ((HBEL.out.drew.grw G2.out HLO).setG 0 _).drew
            case measure => simp [intOf]; omega
    · have e0 : pcs (r, s, a, o) m = [] := pcs_none (by omega)
      have HF : Hid (v ++ pcs (r, s, a, o) n = vr) := Lib.hid (by rw [← HE.out, e0, List.append_nil])
      clear e0
      go_wp2_with fail
      go_end0
      refine ⟨rfl, ⟨A, c, ?_, ?_⟩, HBEL.out.bel, HBEL.out.fin (HG.out.cell 0)⟩
      · rw [HF.out]; exact HG.out
      · rw [HF.out]; exact HO.out
set_option maxHeartbeats 4000000 in
theorem impl_sound (k f t : Int) (g : Nat) (v : List Nt) (e : Int) (w : World) (hw : Wtr w g v e) (hk : 0 ≤ k ∧ k ≤ 107) (hf : 0 ≤ f ∧ f ≤ 1000000) (ht : 0 ≤ t ∧ t ≤ 1000000) (he : 0 ≤ e ∧ e ≤ 1000000) (hl : (v.length : Int) ≤ e) :
    Calls Try.prog 39 #[.pointer (some ⟨g, 0, none⟩), .int .i64 k, .int .i64 f, .int .i64 t] w fun x w' => x = .returned (.tuple #[]) ∧ Wtr w' g (qStep (v, e) (k, f, t)).1 (qStep (v, e) (k, f, t)).2 ∧ Below g w w' ∧ WtrK w w' g := by
  have HW := Lib.hid hw
  obtain ⟨A, c, hb, ho⟩ := hw
  have c1 : w.cell? ⟨g, 1, none⟩ = some (.int .i64 e) := hb.cell 1
  have hgl := hb.lt
  clear hb ho
  by_cases h1 : f < e
  · have HF : Hid (qStep (v, e) (k, f, t) = (v, e)) := Lib.hid (by unfold qStep; rw [if_pos (.inl h1)])
    go_enter Try.func39, Try.ntmps39
    go_wp2_with fail
    refine bodyPost_ret (results_none rfl _ _ _) rfl ?_
    exact ⟨rfl, by rw [HF.out]; exact HW.out, Below.refl _ _, WtrK.refl _ _⟩
  by_cases h2 : t ≤ f
  · have HF : Hid (qStep (v, e) (k, f, t) = (v, e)) := Lib.hid (by unfold qStep; rw [if_pos (.inr h2)])
    go_enter Try.func39, Try.ntmps39
    go_wp2_with fail
    refine bodyPost_ret (results_none rfl _ _ _) rfl ?_
    exact ⟨rfl, by rw [HF.out]; exact HW.out, Below.refl _ _, WtrK.refl _ _⟩
  have HF : Hid (qStep (v, e) (k, f, t) = (v ++ pcs (true, 0, 0, 0) (f - e) ++ pcs (false, spL k) (t - f), t)) := Lib.hid (by unfold qStep; rw [if_neg (by simp; omega)])
  have hp1 := pcs_len (true, 0, 0, 0) (f - e) (by omega)
  go_enter Try.func39, Try.ntmps39
  go_wp2_with fail
  refine (impl_write true 0 0 0 0 false (f - e) g v e w HW.out (by omega) (by omega) hl).mono ?_
  rintro x w1 ⟨rfl, hw1, b1, k1⟩
  have z1 := b1.size
  clear c1
  have HW1 := Lib.hid hw1; have HB1 := Lib.hid b1; have HK1 := Lib.hid k1; clear hw1 b1 k1
  go_wp2_with fail
  refine (impl_SpellKey k w1).mono ?_
  rintro x w2 ⟨rfl, b2⟩
  have hin : inR k 0 107 = true := inR_iff.2 hk
  simp only [hin, if_true]
  have z2 := b2.size
  have hw2 : Wtr w2 g (v ++ pcs (true, 0, 0, 0) (f - e)) f := by
    have h := HW1.out.below b2
    rw [show e + (f - e) = f by omega] at h
    exact h
  have HK2 := Lib.hid (HK1.out.bel b2 (by omega)); have HB2 := Lib.hid b2; have HW2 := Lib.hid hw2; clear b2 hin hw2
  have hpl : ((v ++ pcs (true, 0, 0, 0) (f - e)).length : Int) ≤ f := by rw [List.length_append]; push_cast; omega
  have HPL := Lib.hid hpl; clear hpl hp1
  generalize hvv : v ++ pcs (true, 0, 0, 0) (f - e) = vv at *
  go_wp2_with fail
  have hgl2 : g < w2.heap.size := by omega
  have hw3 := HW2.out.al (.cells #[.int .i64 (spL k).1, .int .i64 (spL k).2.1, .int .i64 (spL k).2.2] 54)
  refine (impl_write false (spL k).1 (spL k).2.1 (spL k).2.2 0 false (t - f) g vv f _ hw3 (by omega) (by omega) HPL.out).mono ?_
  rintro x w4 ⟨rfl, hw4, b4, k4⟩
  have HW4 := Lib.hid hw4; have HB4 := Lib.hid b4; have HK4 := Lib.hid ((HK2.out.bel ((Below.refl w2.heap.size w2).alloc (Nat.le_refl _) _) hgl2).trans k4); clear hw3 hw4 b4 k4
  go_wp2_with fail
  go_end0
  refine ⟨rfl, ?_, (HB1.out.trans (HB2.out.mono (by omega))).trans (((Below.refl g w2).alloc (by omega) _).trans HB4.out), HK4.out⟩
  rw [HF.out]
  have e1 : f + (t - f) = t := by omega
  have h4 := HW4.out
  rw [e1] at h4
  exact h4
theorem impl_result (g : Nat) (v : List Nt) (e : Int) (w : World) (hw : Wtr w g v e) :
    Calls Try.prog 40 #[.pointer (some ⟨g, 0, none⟩)] w fun x w' => w = w' ∧ ∃ A c, x = .returned (.tuple #[.slice A (if v.length ≤ 60 then v else []).length c, .bool (decide (v.length ≤ 60))]) ∧ w'.ownsRow (g + 1) 63 6 (.slice A (if v.length ≤ 60 then v else []).length c) (if v.length ≤ 60 then v else []).length (fl encNote (if v.length ≤ 60 then v else [])) := by
  obtain ⟨A, c, hb, ho⟩ := hw
  have c0 : w.cell? ⟨g, 0, none⟩ = some (.slice A v.length c) := hb.cell 0
  have HO := Lib.hid ho
  clear hb ho
  by_cases h : v.length ≤ 60
  · rw [if_pos h, decide_eq_true h]
    go_enter Try.func40, Try.ntmps40
    go_wp2_with fail
    go_ret2
    exact ⟨rfl, A, c, rfl, HO.out⟩
  · rw [if_neg h, decide_eq_false h]
    go_enter Try.func40, Try.ntmps40
    go_wp2_with fail
    go_ret2
    exact ⟨rfl, none, 0, rfl, World.ownsRow_nil _ _ _ _⟩
theorem grown_set {a w : World} {row : Option Nat} (h : a.grownBy w row) {p : Addr} (hp : a.heap.size ≤ p.block) (u : Value) : a.grownBy (w.setCell p u) row :=
  ⟨h.os, h.tape, h.output, by have := h.size; simpa using this, fun k hk hne => (Below.heap_setCell w p u k (by omega)).trans (h.block k hk hne)⟩
set_option maxHeartbeats 4000000 in
theorem spec_l20Add (r : Bool) (s a o t0 : Int) (d0 : Bool) (n : Int) (lo : Nat) (A : Option Addr) (c : Nat) (v : List Nt) (w : World) (ho : w.ownsRow lo 63 6 (.slice A v.length c) v.length (fl encNote v)) (hlo : lo ≤ w.heap.size) (hn : 0 ≤ n ∧ n ≤ 1000000) (hl : v.length ≤ 2000000) :
    Calls Try.prog 45 #[.slice A v.length c, .agg #[.bool r, .int .i64 s, .int .i64 a, .int .i64 o, .int .i64 t0, .bool d0], .int .i64 n] w fun x w' => ∃ A2 c2, x = .returned (.slice A2 (v ++ pcs (r, s, a, o) n).length c2) ∧ w'.ownsRow lo 63 6 (.slice A2 (v ++ pcs (r, s, a, o) n).length c2) (v ++ pcs (r, s, a, o) n).length (fl encNote (v ++ pcs (r, s, a, o) n)) ∧ Grw w w' A A2 := by
  obtain ⟨i0, hi, hz0, hz1, hz2⟩ := info_parts infoNote
  have HI := Lib.hid hi; have H0 := Lib.hid hz0; have H1 := Lib.hid hz1; have H2 := Lib.hid hz2; clear hi hz0 hz1 hz2
  have HO := Lib.hid ho; have hob := own_ob ho; clear ho
  go_enter Try.func45, Try.ntmps45
  go_wp2_with fail
  go_loopw [0, 2] (fun av i wr => ∃ (m : Int) (vr : List Nt) (A1 : Option Addr) (c1 : Nat) (T : Int) (D : Bool), av = .slice A1 vr.length c1 ∧ i = .int .i64 m ∧ 0 ≤ m ∧ m ≤ 1000000 ∧ vr ++ pcs (r, s, a, o) m = v ++ pcs (r, s, a, o) n ∧ (vr.length : Int) + m ≤ v.length + n ∧ Blk wr w.heap.size 63 #[.bool r, .int .i64 s, .int .i64 a, .int .i64 o, .int .i64 T, .bool D] ∧ wr.ownsRow lo 63 6 (.slice A1 vr.length c1) vr.length (fl encNote vr) ∧ obA A1 ≠ some w.heap.size ∧ Grw w wr A A1) (fun _ i _ => (intOf i).toNat)
  case atStart =>
    refine ⟨n, v, A, c, t0, d0, rfl, rfl, hn.1, by omega, rfl, Int.le_refl _, Blk.new w _ _, HO.out.alloc _, (fun e2 => by have := hob _ e2; omega), ⟨World.grownBy_alloc _ _ _, .inl rfl⟩⟩
  case round =>
    obtain ⟨m, vr, A1, cc, T, D, rfl, rfl, hm0, hm1, heq, hln, hnb, ho, hne, hgr⟩ := hrel
    have hnl := hnb.lt
    have HE := Lib.hid heq; have HNB := Lib.hid hnb; have HO := Lib.hid ho; have HNE := Lib.hid hne; have HG := Lib.hid hgr
    have c0 := hnb.cell 0; have c1 := hnb.cell 1; have c2 := hnb.cell 2; have c3 := hnb.cell 3; have c4 := hnb.cell 4; have c5 := hnb.cell 5
    have f4 := hnb.frozen 4; have f5 := hnb.frozen 5
    have hsz := hgr.1.size
    clear heq hnb ho hne hgr
    by_cases hz : 0 < m
    · by_cases h8 : m ≤ 768
      · cases r
        ·
          go_wp2_with (at_builtin; refine app_rec (enc := encNote) rfl _ _ 33 rfl lo 63 i0 (.agg #[Value.bool false, Value.int .i64 0, Value.int .i64 0, Value.int .i64 0, Value.int .i64 0, Value.bool false]) 48 Try.underlying33 HI.out H0.out H1.out H2.out rfl (by decide) (by decide) _ A1 cc vr (own_far (own_far HO.out HNE.out _) HNE.out _) (by simp; omega) (by omega) rfl (false, s, a, o, m, false) [.bool false, .int .i64 s, .int .i64 a, .int .i64 o, .int .i64 (m), .bool false] rfl rfl (note_one _ _ _ _ _ _) wr.heap.size (by simp) rfl ?_; intro g2 cap2 w2 o2 gr2; have O2 := Lib.hid o2; have G2 := Lib.hid gr2; clear o2 gr2)
          go_roundw
          case rel =>
            refine ⟨0, vr ++ [(false, s, a, o, m, false)], some ⟨g2, 0, none⟩, cap2, m, false, by simp, by go_num, by omega, by omega, ?_, by simp; omega, ?_, ?_, ?_, ?_⟩
            · rw [List.append_assoc, ← HE.out, pcs_step hz]
              have e1 : min m 768 = m := by omega
              rw [e1]
              have e2 : m - m = 0 := by omega
              rw [e2]
              congr 2
              first
                | done
                | (rw [pcs_none (Int.le_refl 0)]; simp; done)
                | (have : decide (0 < m - 768) = true := decide_eq_true (by omega)
                   rw [this]; rfl)
            · exact G2.out.blk ((HNB.out.set_ 4 _).set_ 5 _) HNE.out
            · rw [List.length_append]; exact O2.out
            · exact G2.out.ne (by simpa using hnl) HNE.out
            · refine Grw.trans (c := w2) (B := A1) ⟨?_, HG.out.2⟩ G2.out
              exact grown_set (grown_set HG.out.1 (by simp) _) (by simp) _
          case measure => simp [intOf]; omega
        ·
          go_wp2_with (at_builtin; refine app_rec (enc := encNote) rfl _ _ 33 rfl lo 63 i0 (.agg #[Value.bool false, Value.int .i64 0, Value.int .i64 0, Value.int .i64 0, Value.int .i64 0, Value.bool false]) 48 Try.underlying33 HI.out H0.out H1.out H2.out rfl (by decide) (by decide) _ A1 cc vr (own_far (own_far HO.out HNE.out _) HNE.out _) (by simp; omega) (by omega) rfl (true, s, a, o, m, false) [.bool true, .int .i64 s, .int .i64 a, .int .i64 o, .int .i64 (m), .bool false] rfl rfl (note_one _ _ _ _ _ _) wr.heap.size (by simp) rfl ?_; intro g2 cap2 w2 o2 gr2; have O2 := Lib.hid o2; have G2 := Lib.hid gr2; clear o2 gr2)
          go_roundw
          case rel =>
            refine ⟨0, vr ++ [(true, s, a, o, m, false)], some ⟨g2, 0, none⟩, cap2, m, false, by simp, by go_num, by omega, by omega, ?_, by simp; omega, ?_, ?_, ?_, ?_⟩
            · rw [List.append_assoc, ← HE.out, pcs_step hz]
              have e1 : min m 768 = m := by omega
              rw [e1]
              have e2 : m - m = 0 := by omega
              rw [e2]
              congr 2
              first
                | done
                | (rw [pcs_none (Int.le_refl 0)]; simp; done)
                | (have : decide (0 < m - 768) = true := decide_eq_true (by omega)
                   rw [this]; rfl)
            · exact G2.out.blk ((HNB.out.set_ 4 _).set_ 5 _) HNE.out
            · rw [List.length_append]; exact O2.out
            · exact G2.out.ne (by simpa using hnl) HNE.out
            · refine Grw.trans (c := w2) (B := A1) ⟨?_, HG.out.2⟩ G2.out
              exact grown_set (grown_set HG.out.1 (by simp) _) (by simp) _
          case measure => simp [intOf]; omega
      · have h9 : (768 < m) = True := eq_true (by omega)
        have h9' : decide (768 < m) = true := decide_eq_true (by omega)
        cases r
        ·
          go_wp2_with (at_builtin; refine app_rec (enc := encNote) rfl _ _ 33 rfl lo 63 i0 (.agg #[Value.bool false, Value.int .i64 0, Value.int .i64 0, Value.int .i64 0, Value.int .i64 0, Value.bool false]) 48 Try.underlying33 HI.out H0.out H1.out H2.out rfl (by decide) (by decide) _ A1 cc vr (own_far (own_far HO.out HNE.out _) HNE.out _) (by simp; omega) (by omega) rfl (false, s, a, o, 768, true) [.bool false, .int .i64 s, .int .i64 a, .int .i64 o, .int .i64 (768), .bool true] rfl rfl (note_one _ _ _ _ _ _) wr.heap.size (by simp) rfl ?_; intro g2 cap2 w2 o2 gr2; have O2 := Lib.hid o2; have G2 := Lib.hid gr2; clear o2 gr2)
          go_roundw
          case rel =>
            refine ⟨m - 768, vr ++ [(false, s, a, o, 768, true)], some ⟨g2, 0, none⟩, cap2, 768, true, by simp, by go_num, by omega, by omega, ?_, by simp; omega, ?_, ?_, ?_, ?_⟩
            · rw [List.append_assoc, ← HE.out, pcs_step hz]
              have e1 : min m 768 = 768 := by omega
              rw [e1]
              have e2 : m - 768 = m - 768 := by omega
              rw [e2]
              congr 2
              first
                | done
                | (rw [pcs_none (Int.le_refl 0)]; simp; done)
                | (have : decide (0 < m - 768) = true := decide_eq_true (by omega)
                   rw [this]; rfl)
            · exact G2.out.blk ((HNB.out.set_ 4 _).set_ 5 _) HNE.out
            · rw [List.length_append]; exact O2.out
            · exact G2.out.ne (by simpa using hnl) HNE.out
            · refine Grw.trans (c := w2) (B := A1) ⟨?_, HG.out.2⟩ G2.out
              exact grown_set (grown_set HG.out.1 (by simp) _) (by simp) _
          case measure => simp [intOf]; omega
        ·
          go_wp2_with (at_builtin; refine app_rec (enc := encNote) rfl _ _ 33 rfl lo 63 i0 (.agg #[Value.bool false, Value.int .i64 0, Value.int .i64 0, Value.int .i64 0, Value.int .i64 0, Value.bool false]) 48 Try.underlying33 HI.out H0.out H1.out H2.out rfl (by decide) (by decide) _ A1 cc vr (own_far (own_far HO.out HNE.out _) HNE.out _) (by simp; omega) (by omega) rfl (true, s, a, o, 768, false) [.bool true, .int .i64 s, .int .i64 a, .int .i64 o, .int .i64 (768), .bool false] rfl rfl (note_one _ _ _ _ _ _) wr.heap.size (by simp) rfl ?_; intro g2 cap2 w2 o2 gr2; have O2 := Lib.hid o2; have G2 := Lib.hid gr2; clear o2 gr2)
          go_roundw
          case rel =>
            refine ⟨m - 768, vr ++ [(true, s, a, o, 768, false)], some ⟨g2, 0, none⟩, cap2, 768, false, by simp, by go_num, by omega, by omega, ?_, by simp; omega, ?_, ?_, ?_, ?_⟩
            · rw [List.append_assoc, ← HE.out, pcs_step hz]
              have e1 : min m 768 = 768 := by omega
              rw [e1]
              have e2 : m - 768 = m - 768 := by omega
              rw [e2]
              congr 2
              first
                | done
                | (rw [pcs_none (Int.le_refl 0)]; simp; done)
                | (have : decide (0 < m - 768) = true := decide_eq_true (by omega)
                   rw [this]; rfl)
            · exact G2.out.blk ((HNB.out.set_ 4 _).set_ 5 _) HNE.out
            · rw [List.length_append]; exact O2.out
            · exact G2.out.ne (by simpa using hnl) HNE.out
            · refine Grw.trans (c := w2) (B := A1) ⟨?_, HG.out.2⟩ G2.out
              exact grown_set (grown_set HG.out.1 (by simp) _) (by simp) _
          case measure => simp [intOf]; omega
    · have e0 : pcs (r, s, a, o) m = [] := pcs_none (by omega)
      have HF : Hid (v ++ pcs (r, s, a, o) n = vr) := Lib.hid (by rw [← HE.out, e0, List.append_nil])
      clear e0
      go_wp2_with fail
      go_ret
      have hL : v.length + (pcs (r, s, a, o) n).length = vr.length := by rw [← List.length_append, HF.out]
      simp only [List.length_append]
      refine ⟨A1, cc, ?_, ?_, HG.out⟩
      · rw [hL]; rfl
      · rw [hL, HF.out]; exact HO.out
end Go.Proofs.Ytgnbnedjocolcaa
