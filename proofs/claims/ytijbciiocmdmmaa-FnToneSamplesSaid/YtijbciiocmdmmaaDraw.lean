/- Contracts of odd and of the draws of numbers, shapes and samples. No condition but bounds on the numbers asked for. -/
import Derived.Test.YtijbciiocmdmmaaPick
import Derived.Test.YtijbciiocmdmmaaInts
namespace Go.Proofs.Ytijbciiocmdmmaa
set_option linter.unusedVariables false
open Go.RowKit

def RetOdd (w : World) (g q : Nat) (e : Ending) (w' : World) : Prop := ∃ v : Bool, e = .returned (.bool v) ∧ Rdr w' g q ∧ w.grownBy w' (some g)
/-- a number below n is drawn -/
def RetPk (w : World) (g q : Nat) (n : Int) (e : Ending) (w' : World) : Prop :=
  ∃ k : Nat, e = .returned (.int .i64 (k : Int)) ∧ (k : Int) < n ∧ Rdr w' g q ∧ w.grownBy w' (some g)
theorem only_below {a w w' : World} {row : Option Nat} (h : a.grownBy w row) (hb : Below a.heap.size w w') : a.grownBy w' row :=
  ⟨hb.os.trans h.os, hb.tape.trans h.tape, hb.output.trans h.output, Nat.le_trans h.size (by
    have := hb.size
    rcases Nat.lt_or_ge w'.heap.size w.heap.size with hlt | hge
    · have := h.size; omega
    · exact hge), fun i hi hne => (hb.block i hi).trans (h.block i hi hne)⟩
theorem Row.only {w w' : World} {lo hi E size c n g : Nat} {A : Option Addr} {xs : List Value} (h : Row w lo hi E size A c n xs) (hg : w.grownBy w' (some g)) (hd : g < lo ∨ hi ≤ g) : Row w' lo hi E size A c n xs := by
  refine ⟨h.1.kept hg ?_, h.2⟩
  cases hv : (Value.slice A n c).ownBlock with
  | none => exact .inl rfl
  | some k =>
    refine .inr fun e => ?_
    injection e with e
    have h1 := h.2 k hv
    have h2 := (h.1.lt k hv).1
    omega
theorem Rdr.lt {w : World} {g q : Nat} (h : Rdr w g q) : g < w.heap.size := by
  obtain ⟨A, c, zs, p, hb, _⟩ := h; exact hb.lt
theorem only_self {a b c : World} {g : Nat} (h : a.grownBy b (some g)) (k : b.grownBy c (some g)) : a.grownBy c (some g) := only_trans h k
/-- a literal of numbers, each within lo .. hi, at place k -/
def LitIn (lo hi : Int) (cs : Array Value) : Prop := ∀ k : Nat, k < cs.size → ∃ x : Int, cs[k]? = some (.int .i64 x) ∧ lo ≤ x ∧ x ≤ hi
theorem lit_at {w : World} {g : Nat} {t : TypeId} {cs : Array Value} {lo hi : Int} (h : Blk w g t cs) (hl : LitIn lo hi cs) {k : Nat} (hk : k < cs.size) :
    ∃ x : Int, w.cell? ⟨g, k, none⟩ = some (.int .i64 x) ∧ lo ≤ x ∧ x ≤ hi := by
  obtain ⟨x, hx, h1, h2⟩ := hl k hk
  exact ⟨x, (h.cell k).trans hx, h1, h2⟩
theorem Rdr.alloc1 {w : World} {g q : Nat} (h : Rdr w g q) (o : Obj) : Rdr (w.alloc o) g q := h.below ((Below.refl _ _).alloc (Nat.le_refl _) _) h.lt
theorem lit_keep {w w' : World} {g : Nat} {t : TypeId} {cs : Array Value} (hg : (w.alloc (.cells cs t)).grownBy w' (some g)) (hlt : g < w.heap.size) : Blk w' w.heap.size t cs :=
  (Blk.new w t cs).only hg (by omega)
theorem lit_keep2 {w w' : World} {g : Nat} {t : TypeId} {cs : Array Value} {o : Obj} (hg : ((w.alloc (.cells cs t)).alloc o).grownBy w' (some g)) (hlt : g < w.heap.size) : Blk w' w.heap.size t cs :=
  ((Blk.new w t cs).alloc o).only hg (by omega)
theorem Blk.c4 {w : World} {g : Nat} {t : TypeId} {a b c d : Value} (h : Blk w g t #[a, b, c, d]) :
    (w.cell? ⟨g, 0, none⟩ = some a ∧ w.cell? ⟨g, 1, none⟩ = some b ∧ w.cell? ⟨g, 2, none⟩ = some c ∧ w.cell? ⟨g, 3, none⟩ = some d) ∧
    (w.frozen? ⟨g, 0, none⟩ = false ∧ w.frozen? ⟨g, 1, none⟩ = false ∧ w.frozen? ⟨g, 2, none⟩ = false ∧ w.frozen? ⟨g, 3, none⟩ = false) :=
  ⟨⟨h.cell 0, h.cell 1, h.cell 2, h.cell 3⟩, h.frozen 0, h.frozen 1, h.frozen 2, h.frozen 3⟩
theorem Rdr.setFar {w : World} {g q : Nat} (h : Rdr w g q) {p : Addr} (hp : g < p.block) (u : Value) : Rdr (w.setCell p u) g q :=
  h.below ((Below.refl (g + 1) w).setCell (by omega) u) (by omega)
theorem Rdr.drew {w : World} {g q : Nat} (h : Rdr w g q) : Rdr w.drew g q := h
theorem only_cells {w w' : World} {g : Nat} (hg : w.grownBy w' (some g)) : ∀ b o : Nat, ¬ b = g → b < w.heap.size → w'.cell? ⟨b, o, none⟩ = w.cell? ⟨b, o, none⟩ :=
  fun b o hb hl => World.cell?_of_block (hg.block b hl (by simpa using hb))
theorem litIn_nil (lo hi : Int) : LitIn lo hi #[] := fun k hk => by simp at hk
theorem litIn_of {lo hi : Int} {xs : List Int} (h : ∀ x ∈ xs, lo ≤ x ∧ x ≤ hi) : LitIn lo hi (iv xs).toArray := fun k hk => by
  simp [iv] at hk
  exact ⟨xs[k], by simp [iv, hk], h _ (List.getElem_mem hk)⟩
theorem l20_pk (g q : Nat) (n : Int) (w : World) (hr : Rdr w g q) (hq : q ≤ 1000000) (hn : 1 ≤ n ∧ n ≤ 1000000) :
    Calls Try.prog 46 #[.pointer (some ⟨g, 0, none⟩), .int .i64 n] w (RetPk w g (q + 1) n) :=
  (l20_pick g q n w hr hq ⟨by omega, hn.2⟩).mono fun _ _ ⟨v, he, h0, h1, hr, hg⟩ => ⟨v.toNat, by rw [he, Int.toNat_of_nonneg h0], by omega, hr, hg⟩
theorem l20_odd (g q : Nat) (n : Int) (w : World) (hr : Rdr w g q) (hq : q ≤ 999999) (hn : 1 ≤ n ∧ n ≤ 1000000) :
    Calls Try.prog 60 #[.pointer (some ⟨g, 0, none⟩), .int .i64 n] w (RetOdd w g (q + 1)) := by
  go_enter Try.func60, Try.ntmps60
  go_wp2_with fail
  refine (l20_pick g q n w hr (by omega) (by omega)).mono ?_
  rintro e w1 ⟨v, rfl, hv0, hv1, hr1, hg1⟩
  go_wp2_with fail
  go_ret
  exact ⟨_, rfl, hr1, hg1⟩
theorem spec_DrawKeySpeed (A : Option Addr) (c : Nat) (zs : List Int) (w : World) (hr : RdY w w.heap.size A zs) (hw : WfY zs) (hl : zs.length ≤ 1048576) (hc : zs.length ≤ c) :
    Calls Try.prog 13 #[.slice A zs.length c] w (fun e w' => ∃ v : Int, e = .returned (.int .i64 v) ∧ -1 ≤ v ∧ v ≤ 109 ∧ Below w.heap.size w w') := by
  go_enter Try.func13, Try.ntmps13
  go_wp2_with fail
  refine (spec_l20Open A c zs w hr hw hl hc).mono ?_
  rintro e w1 ⟨rfl, hr1, hb1, hs1⟩
  go_wp2_with fail
  refine (l20_pick w.heap.size 0 111 w1 hr1 (by omega) (by omega)).mono ?_
  rintro e w2 ⟨v, rfl, hv0, hv1, hr2, hg2⟩
  have hv2 : v ≤ 110 := by omega
  go_wp2_with fail
  go_ret
  exact ⟨v - 1, rfl, by omega, by omega, below_only hb1 hg2 (by omega) (Nat.le_refl _)⟩
set_option linter.unusedSimpArgs false in
set_option maxHeartbeats 2000000 in
theorem spec_l20Shape (g q : Nat) (n : Int) (w : World) (hr : Rdr w g q) (hq : q ≤ 900000) (hn : 1 ≤ n ∧ n ≤ 1000000) :
    Calls Try.prog 50 #[.pointer (some ⟨g, 0, none⟩), .int .i64 n] w
    fun e w' => ∃ a d s r : Int, e = .returned (.agg #[.int .i64 a, .int .i64 d, .int .i64 s, .int .i64 r]) ∧ (-1 ≤ a ∧ a ≤ 10001) ∧ (-1 ≤ d ∧ d ≤ 10001) ∧ (-1 ≤ s ∧ s ≤ 10001) ∧ (-1 ≤ r ∧ r ≤ 10001) ∧ Rdr w' g (q + 7) ∧ w.grownBy w' (some g) := by
  have hlt := hr.lt
  have HR := Lib.hid hr
  have HG := Lib.hid (only_refl w (some g))
  clear hr
  go_enter Try.func50, Try.ntmps50
  go_wp2_with fail
  refine (l20_pk g q 20 _ (by first | exact HR.out | exact HR.out.alloc1 _ | exact (HR.out.alloc1 _).alloc1 _ | exact ((HR.out.alloc1 _).alloc1 _).alloc1 _) (by omega) (by omega)).mono ?_
  rintro e w1 ⟨k1, rfl, hk1, r_, g_⟩
  have z1 := g_.size; (try simp only [World.size_alloc] at z1)
  replace HG := Lib.hid (only_trans (by first | exact HG.out | exact only_alloc HG.out _ | exact only_alloc (only_alloc HG.out _) _ | exact only_alloc (only_alloc (only_alloc HG.out _) _) _) g_)
  replace HR := Lib.hid r_
  have HK := Lib.hid (lit_keep g_ (by omega))
  clear r_ g_
  go_wp2_with fail
  refine (l20_pk g (q + 1) 20 _ (by first | exact HR.out | exact HR.out.alloc1 _ | exact (HR.out.alloc1 _).alloc1 _ | exact ((HR.out.alloc1 _).alloc1 _).alloc1 _) (by omega) (by omega)).mono ?_
  rintro e w2 ⟨k2, rfl, hk2, r_, g_⟩
  have z2 := g_.size; (try simp only [World.size_alloc] at z2)
  replace HG := Lib.hid (only_trans (by first | exact HG.out | exact only_alloc HG.out _ | exact only_alloc (only_alloc HG.out _) _ | exact only_alloc (only_alloc (only_alloc HG.out _) _) _) g_)
  replace HR := Lib.hid r_
  replace HK := Lib.hid (HK.out.only g_ (by omega))
  clear r_ g_
  go_wp2_with fail
  refine (l20_pk g (q + 1 + 1) 11 _ (by first | exact HR.out | exact HR.out.alloc1 _ | exact (HR.out.alloc1 _).alloc1 _ | exact ((HR.out.alloc1 _).alloc1 _).alloc1 _) (by omega) (by omega)).mono ?_
  rintro e w3 ⟨k3, rfl, hk3, r_, g_⟩
  have z3 := g_.size; (try simp only [World.size_alloc] at z3)
  replace HG := Lib.hid (only_trans (by first | exact HG.out | exact only_alloc HG.out _ | exact only_alloc (only_alloc HG.out _) _ | exact only_alloc (only_alloc (only_alloc HG.out _) _) _) g_)
  replace HR := Lib.hid r_
  replace HK := Lib.hid (HK.out.only g_ (by omega))
  clear r_ g_
  go_wp2_with fail
  refine (l20_pk g (q + 1 + 1 + 1) 20 _ (by first | exact HR.out | exact HR.out.alloc1 _ | exact (HR.out.alloc1 _).alloc1 _ | exact ((HR.out.alloc1 _).alloc1 _).alloc1 _) (by omega) (by omega)).mono ?_
  rintro e w4 ⟨k4, rfl, hk4, r_, g_⟩
  have z4 := g_.size; (try simp only [World.size_alloc] at z4)
  replace HG := Lib.hid (only_trans (by first | exact HG.out | exact only_alloc HG.out _ | exact only_alloc (only_alloc HG.out _) _ | exact only_alloc (only_alloc (only_alloc HG.out _) _) _) g_)
  replace HR := Lib.hid r_
  replace HK := Lib.hid (HK.out.only g_ (by omega))
  clear r_ g_
  go_wp2_with fail
  refine (l20_odd g (q + 1 + 1 + 1 + 1) n _ (by first | exact HR.out | exact HR.out.alloc1 _ | exact (HR.out.alloc1 _).alloc1 _ | exact ((HR.out.alloc1 _).alloc1 _).alloc1 _) (by omega) (by omega)).mono ?_
  rintro e w5 ⟨v5, rfl, r_, g_⟩
  have z5 := g_.size; (try simp only [World.size_alloc] at z5)
  replace HG := Lib.hid (only_trans (by first | exact HG.out | exact only_alloc HG.out _ | exact only_alloc (only_alloc HG.out _) _ | exact only_alloc (only_alloc (only_alloc HG.out _) _) _) g_)
  replace HR := Lib.hid r_
  replace HK := Lib.hid ((HK.out.alloc _).only g_ (by omega))
  have HS := Lib.hid (lit_keep g_ (by omega))
  clear r_ g_
  have hne : ¬ w4.heap.size = w.heap.size := by omega
  have hne2 : ¬ w.heap.size = w4.heap.size := by omega
  cases v5
  · obtain ⟨⟨c0, c1, c2, c3⟩, f0, f1, f2, f3⟩ := HK.out.c4
    obtain ⟨⟨s0, s1, s2, s3⟩, -⟩ := HS.out.c4
    replace HR := Lib.hid (HR.out.more (q' := q + 7) (by omega))
    go_wp2_with fail
    refine bodyPost_ret (v := .agg #[.int .i64 k1, .int .i64 k2, .int .i64 ((k3 : Int) * 100), .int .i64 k4]) (by simp [results, Try.results50, go_sem, c0, c1, c2, c3]) rfl ⟨_, _, _, _, rfl, by omega, by omega, by omega, by omega, (by repeat (first | with_reducible exact HR.out | refine Rdr.setFar ?_ (by first | omega | (simp; done) | (simp; omega)) _ | refine Rdr.alloc1 ?_ _)), (by repeat (first | with_reducible exact HG.out | refine only_setCell ?_ (.inr (by first | omega | (simp; done) | (simp; omega))) _ | refine only_alloc ?_ _))⟩
  · go_wp2_with fail
    refine (l20_pk g (q + 1 + 1 + 1 + 1 + 1) 3 _ (by first | exact HR.out | exact HR.out.alloc1 _ | exact (HR.out.alloc1 _).alloc1 _ | exact ((HR.out.alloc1 _).alloc1 _).alloc1 _) (by omega) (by omega)).mono ?_
    rintro e w6 ⟨k6, rfl, hk6, r_, g_⟩
    have z6 := g_.size; (try simp only [World.size_alloc] at z6)
    replace HG := Lib.hid (only_trans (by first | exact HG.out | exact only_alloc HG.out _ | exact only_alloc (only_alloc HG.out _) _ | exact only_alloc (only_alloc (only_alloc HG.out _) _) _) g_)
    replace HR := Lib.hid r_
    replace HK := Lib.hid (HK.out.only g_ (by omega))
    replace HS := Lib.hid (HS.out.only g_ (by omega))
    clear r_ g_
    rcases (show k6 = 0 ∨ k6 = 1 ∨ k6 = 2 by omega) with rfl | rfl | rfl
    · go_wp2_with fail
      refine (l20_pk g (q + 1 + 1 + 1 + 1 + 1 + 1) 2 _ (by first | exact HR.out | exact HR.out.alloc1 _ | exact (HR.out.alloc1 _).alloc1 _ | exact ((HR.out.alloc1 _).alloc1 _).alloc1 _) (by omega) (by omega)).mono ?_
      rintro e w7 ⟨k7, rfl, hk7, r_, g_⟩
      have z7 := g_.size; (try simp only [World.size_alloc] at z7)
      replace HG := Lib.hid (only_trans (by first | exact HG.out | exact only_alloc HG.out _ | exact only_alloc (only_alloc HG.out _) _ | exact only_alloc (only_alloc (only_alloc HG.out _) _) _) g_)
      replace HR := Lib.hid r_
      replace HK := Lib.hid ((HK.out.alloc _).only g_ (by omega))
      replace HS := Lib.hid ((HS.out.alloc _).only g_ (by omega))
      have HL := Lib.hid (lit_keep g_ (by omega))
      clear r_ g_
      obtain ⟨⟨c0, c1, c2, c3⟩, f0, f1, f2, f3⟩ := HK.out.c4
      obtain ⟨⟨s0, s1, s2, s3⟩, e0, e1, e2, e3⟩ := HS.out.c4
      obtain ⟨x, hx, hx1, hx2⟩ := lit_at (lo := -1) (hi := 10001) HL.out (fun k hk => by simp at hk; rcases k with _ | _ | _ | _ | _ | _ | _ | _ | k <;> first | exact ⟨_, rfl, by omega, by omega⟩ | exact ⟨_, rfl, by rw [IntWalk.i64_in _ (by omega)]; omega, by rw [IntWalk.i64_in _ (by omega)]; omega⟩ | omega) (k := k7) (by simp; omega)
      replace HR := Lib.hid (HR.out.more (q' := q + 7) (by omega))
      go_wp2_with fail
      refine bodyPost_ret (v := .agg #[.int .i64 x, .int .i64 (k2 : Int), .int .i64 ((k3 : Int) * 100), .int .i64 (k4 : Int)]) (by simp [results, Try.results50, go_sem, c0, c1, c2, c3]) rfl ⟨_, _, _, _, rfl, by omega, by omega, by omega, by omega, (by repeat (first | with_reducible exact HR.out | refine Rdr.setFar ?_ (by first | omega | (simp; done) | (simp; omega)) _ | refine Rdr.alloc1 ?_ _)), (by repeat (first | with_reducible exact HG.out | refine only_setCell ?_ (.inr (by first | omega | (simp; done) | (simp; omega))) _ | refine only_alloc ?_ _))⟩
    · go_wp2_with fail
      refine (l20_pk g (q + 1 + 1 + 1 + 1 + 1 + 1) 2 _ (by first | exact HR.out | exact HR.out.alloc1 _ | exact (HR.out.alloc1 _).alloc1 _ | exact ((HR.out.alloc1 _).alloc1 _).alloc1 _) (by omega) (by omega)).mono ?_
      rintro e w7 ⟨k7, rfl, hk7, r_, g_⟩
      have z7 := g_.size; (try simp only [World.size_alloc] at z7)
      replace HG := Lib.hid (only_trans (by first | exact HG.out | exact only_alloc HG.out _ | exact only_alloc (only_alloc HG.out _) _ | exact only_alloc (only_alloc (only_alloc HG.out _) _) _) g_)
      replace HR := Lib.hid r_
      replace HK := Lib.hid ((HK.out.alloc _).only g_ (by omega))
      replace HS := Lib.hid ((HS.out.alloc _).only g_ (by omega))
      have HL := Lib.hid (lit_keep g_ (by omega))
      clear r_ g_
      obtain ⟨⟨c0, c1, c2, c3⟩, f0, f1, f2, f3⟩ := HK.out.c4
      obtain ⟨⟨s0, s1, s2, s3⟩, e0, e1, e2, e3⟩ := HS.out.c4
      obtain ⟨x, hx, hx1, hx2⟩ := lit_at (lo := -1) (hi := 10001) HL.out (fun k hk => by simp at hk; rcases k with _ | _ | _ | _ | _ | _ | _ | _ | k <;> first | exact ⟨_, rfl, by omega, by omega⟩ | exact ⟨_, rfl, by rw [IntWalk.i64_in _ (by omega)]; omega, by rw [IntWalk.i64_in _ (by omega)]; omega⟩ | omega) (k := k7) (by simp; omega)
      replace HR := Lib.hid (HR.out.more (q' := q + 7) (by omega))
      go_wp2_with fail
      refine bodyPost_ret (v := .agg #[.int .i64 (k1 : Int), .int .i64 (k2 : Int), .int .i64 x, .int .i64 (k4 : Int)]) (by simp [results, Try.results50, go_sem, c0, c1, c2, c3]) rfl ⟨_, _, _, _, rfl, by omega, by omega, by omega, by omega, (by repeat (first | with_reducible exact HR.out | refine Rdr.setFar ?_ (by first | omega | (simp; done) | (simp; omega)) _ | refine Rdr.alloc1 ?_ _)), (by repeat (first | with_reducible exact HG.out | refine only_setCell ?_ (.inr (by first | omega | (simp; done) | (simp; omega))) _ | refine only_alloc ?_ _))⟩
    · go_wp2_with fail
      refine (l20_pk g (q + 1 + 1 + 1 + 1 + 1 + 1) 2 _ (by first | exact HR.out | exact HR.out.alloc1 _ | exact (HR.out.alloc1 _).alloc1 _ | exact ((HR.out.alloc1 _).alloc1 _).alloc1 _) (by omega) (by omega)).mono ?_
      rintro e w7 ⟨k7, rfl, hk7, r_, g_⟩
      have z7 := g_.size; (try simp only [World.size_alloc] at z7)
      replace HG := Lib.hid (only_trans (by first | exact HG.out | exact only_alloc HG.out _ | exact only_alloc (only_alloc HG.out _) _ | exact only_alloc (only_alloc (only_alloc HG.out _) _) _) g_)
      replace HR := Lib.hid r_
      replace HK := Lib.hid ((HK.out.alloc _).only g_ (by omega))
      replace HS := Lib.hid ((HS.out.alloc _).only g_ (by omega))
      have HL := Lib.hid (lit_keep g_ (by omega))
      clear r_ g_
      obtain ⟨⟨c0, c1, c2, c3⟩, f0, f1, f2, f3⟩ := HK.out.c4
      obtain ⟨⟨s0, s1, s2, s3⟩, e0, e1, e2, e3⟩ := HS.out.c4
      obtain ⟨x, hx, hx1, hx2⟩ := lit_at (lo := -1) (hi := 10001) HL.out (fun k hk => by simp at hk; rcases k with _ | _ | _ | _ | _ | _ | _ | _ | k <;> first | exact ⟨_, rfl, by omega, by omega⟩ | exact ⟨_, rfl, by rw [IntWalk.i64_in _ (by omega)]; omega, by rw [IntWalk.i64_in _ (by omega)]; omega⟩ | omega) (k := k7) (by simp; omega)
      replace HR := Lib.hid (HR.out.more (q' := q + 7) (by omega))
      go_wp2_with fail
      refine bodyPost_ret (v := .agg #[.int .i64 (k1 : Int), .int .i64 (k2 : Int), .int .i64 ((k3 : Int) * 100), .int .i64 x]) (by simp [results, Try.results50, go_sem, c0, c1, c2, c3, hne, hne2]) rfl ⟨_, _, _, _, rfl, by omega, by omega, by omega, by omega, (by repeat (first | with_reducible exact HR.out | refine Rdr.setFar ?_ (by first | omega | (simp; done) | (simp; omega)) _ | refine Rdr.alloc1 ?_ _)), (by repeat (first | with_reducible exact HG.out | refine only_setCell ?_ (.inr (by first | omega | (simp; done) | (simp; omega))) _ | refine only_alloc ?_ _))⟩
end Go.Proofs.Ytijbciiocmdmmaa
