/- Contracts of the draws of patterns. No condition but bounds on the bytes. -/
import Derived.Test.YtelajonddhoafaaDraw
import Derived.Test.YtelajonddhoafaaEven
import Derived.Deep.RegionWith
namespace Go.Proofs.Ytelajonddhoafaa
set_option linter.unusedVariables false
open Go.RowKit
set_option linter.unusedSimpArgs false
theorem Row.al {w : World} {lo hi E size c n : Nat} {A : Option Addr} {xs : List Value} (h : Row w lo hi E size A c n xs) (o : Obj) : Row (w.alloc o) lo hi E size A c n xs := ⟨h.1.alloc o, h.2⟩
theorem own_only {w w' : World} {base E size n g : Nat} {v : Value} {xs : List Value} (h : w.ownsRow base E size v n xs) (hg : w.grownBy w' (some g)) (hd : g < base) : w'.ownsRow base E size v n xs := by
  refine h.kept hg ?_
  cases hv : v.ownBlock with
  | none => exact .inl rfl
  | some k =>
    refine .inr fun e => ?_
    injection e with e
    have := (h.lt k hv).1
    omega
theorem own_some {w : World} {base e size n c : Nat} {A : Option Addr} {xs : List Value} (h : w.ownsRow base e size (.slice A n c) n xs) (hn : 0 < n) : ∃ b, A = some ⟨b, 0, none⟩ := by
  obtain ⟨g, cap, hv, _⟩ := h.form hn
  injection hv with e1; exact ⟨g, e1⟩
theorem own_cap' {w : World} {base e size n c : Nat} {A : Option Addr} {xs : List Value} (h : w.ownsRow base e size (.slice A n c) n xs) : n ≤ c := by
  rcases h.2 with ⟨hv, rfl⟩ | ⟨g, cap, cur, hv, hb, hg, hnc, _⟩
  · exact Nat.zero_le _
  · injection hv with _ _ e; omega
theorem RdY.alloc1 {w : World} {A : Option Addr} {zs : List Int} (h : RdY w w.heap.size A zs) (o : Obj) : RdY (w.alloc o) (w.alloc o).heap.size A zs :=
  Rd.more (RdY.below h ((Below.refl _ _).alloc (Nat.le_refl _) _) (Nat.le_refl _)) (by simp)
theorem RdBo.setFar {w : World} {B : Nat} {A : Option Addr} {zs : List Bool} (h : RdBo w B A zs) {p : Addr} (hp : ∀ b off, A = some ⟨b, off, none⟩ → p.block < b) (u : Value) : RdBo (w.setCell p u) B A zs :=
  ⟨h.1, fun hn => by
    obtain ⟨b, off, e, hb, hc⟩ := h.2 hn
    refine ⟨b, off, e, hb, fun j v hv => ?_⟩
    have := hp b off e
    exact (World.cell?_setCell_far w p ⟨b, off + j, none⟩ u (by simp; omega)).trans (hc j v hv)⟩
theorem own_lo {w : World} {base e size n c : Nat} {A : Option Addr} {xs : List Value} (h : w.ownsRow base e size (.slice A n c) n xs) : ∀ b off, A = some ⟨b, off, none⟩ → base ≤ b := by
  intro b off e
  rcases h.2 with ⟨hv, _⟩ | ⟨g, cap, cur, hv, hb, _⟩
  · injection hv with e1; rw [e1] at e; cases e
  · injection hv with e1; rw [e1] at e; injection e with e; injection e with e2; omega
def selA (k : Nat) (A B : Option Addr) : Option Addr := if k = 0 then A else B
def selN (k a b : Nat) : Nat := if k = 0 then a else b
theorem sel_at (k : Nat) (hk : k < 2) : ∀ (A A' : Option Addr) (n c n' c' : Nat), (#[Value.slice A n c, Value.slice A' n' c'] : Array Value)[k]? = some (.slice (selA k A A') (selN k n n') (selN k c c')) := by
  intro A A' n c n' c'
  rcases (show k = 0 ∨ k = 1 by omega) with rfl | rfl <;> rfl
theorem only_frozen {w w' : World} {g : Nat} (hg : w.grownBy w' (some g)) : ∀ b o : Nat, ¬ b = g → b < w.heap.size → w'.frozen? ⟨b, o, none⟩ = w.frozen? ⟨b, o, none⟩ :=
  fun b o hb hl => World.frozen?_of_block (hg.block b hl (by simpa using hb))
theorem madeB (n : Nat) : madeCells (Value.cells (.bool false)) (n * 1) = (bv (List.replicate n false)).toArray := by
  rw [bv, List.map_replicate, Nat.mul_one]; exact madeOne _ _
def row33 : Array Value := (bv (List.replicate 33 false)).toArray
theorem RdBo.none0 {w : World} {B : Nat} {A : Option Addr} {zs : List Bool} (h : zs.length = 0) : RdBo w B A zs := ⟨by simp [bv], fun hn => by omega⟩
theorem Blk.rdbo {w : World} {g B : Nat} {t : TypeId} {X : Option Addr} (h : Blk w g t row33) (hg : g < B) : RdBo w B (selA 1 X (some ⟨g, 0, none⟩)) (List.replicate 33 false) := by
  refine ⟨by rw [bv, List.length_map, Nat.mul_one], fun _ => ⟨g, 0, rfl, hg, fun j u hu => ?_⟩⟩
  rw [Nat.zero_add]
  exact (h.cell j).trans (by rw [row33, List.getElem?_toArray]; exact hu)
theorem size_set (w : World) (p : Addr) (u : Value) : (w.setCell p u).heap.size = w.heap.size := by simp [World.setCell]
def RetBe (w : World) (g q : Nat) (e : Ending) (w' : World) : Prop :=
  ∃ (A : Option Addr) (c : Nat) (zs : List Bool), e = .returned (.agg #[.slice A zs.length c]) ∧ zs.length ≤ 33 ∧ zs.length ≤ c ∧ RdBo w' w'.heap.size A zs ∧ (∀ b off, A = some ⟨b, off, none⟩ → w.heap.size ≤ b) ∧ Rdr w' g q ∧ w.grownBy w' (some g)
set_option maxRecDepth 100000 in
set_option maxHeartbeats 20000000 in
theorem spec_l20Beats (g q : Nat) (n : Int) (w : World) (hr : Rdr w g q) (hq : q ≤ 900000) (hn : 1 ≤ n ∧ n ≤ 1000000) :
    Calls Try.prog 30 #[.pointer (some ⟨g, 0, none⟩), .int .i64 n] w (RetBe w g (q + 60)) := by
  obtain ⟨i0, hi, hz0, hz1, hz2⟩ := info_parts infoBool
  have hmk0 := fun W => run_make_rowN (P := Try.prog) 23 4 i0 (.bool false) Try.underlying23 hi hz0 .i64 .i64 33 33 (Nat.le_refl _) (by rw [hz2]; omega) (by omega) W
  rw [hz1, madeB] at hmk0
  have HMK : Hid (∀ W : World, (Instr.makeSlice 23 (.int .i64 33) (.int .i64 33)).run Try.prog W = .ok (.slice (some ⟨W.heap.size, 0, none⟩) 33 33) (W.alloc (.cells row33 4))) := hmk0
  clear hmk0 hi hz0 hz1 hz2
  have hlt := hr.lt
  have HR := Lib.hid hr
  have HG := Lib.hid (only_refl w (some g))
  clear hr
  go_enter Try.func30, Try.ntmps30
  go_wp2_with fail
  refine (l20_pk g q 16 _ (by first | exact HR.out | exact HR.out.alloc1 _ | exact (HR.out.alloc1 _).alloc1 _ | exact ((HR.out.alloc1 _).alloc1 _).alloc1 _) (by omega) (by omega)).mono ?_
  rintro e w2 ⟨k2, rfl, hk2, r_, g_⟩
  have z2 := g_.size; (try simp only [World.size_alloc] at z2)
  replace HG := Lib.hid (only_trans (by first | exact HG.out | exact only_alloc HG.out _ | exact only_alloc (only_alloc HG.out _) _ | exact only_alloc (only_alloc (only_alloc HG.out _) _) _) g_)
  replace HR := Lib.hid r_
  have HK := Lib.hid (lit_keep g_ (by omega))
  clear r_ g_
  go_wp2_with fail
  refine (l20_pk g (q + 1) _ _ (by first | exact HR.out | exact HR.out.alloc1 _ | exact (HR.out.alloc1 _).alloc1 _ | exact ((HR.out.alloc1 _).alloc1 _).alloc1 _) (by omega) (by omega)).mono ?_
  rintro e w3 ⟨k3, rfl, hk3, r_, g_⟩
  have z3 := g_.size; (try simp only [World.size_alloc] at z3)
  replace HG := Lib.hid (only_trans (by first | exact HG.out | exact only_alloc HG.out _ | exact only_alloc (only_alloc HG.out _) _ | exact only_alloc (only_alloc (only_alloc HG.out _) _) _) g_)
  replace HR := Lib.hid r_
  replace HK := Lib.hid (HK.out.only g_ (by omega))
  clear r_ g_
  go_wp2_with fail
  have hle := evenL_len (k3 : Int) (1 + (k2 : Int))
  refine (spec_EvenPattern _ _ _).mono ?_
  generalize evenL (k3 : Int) (1 + (k2 : Int)) = E at *
  rintro e w4 ⟨A4, c4, rfl, o4, b4⟩
  have z4 := b4.size
  replace HK := Lib.hid (HK.out.below b4 (by omega))
  replace HG := Lib.hid (only_below HG.out (b4.mono (by omega)))
  replace HR := Lib.hid (HR.out.below b4 (by omega))
  have HO := Lib.hid o4
  have hrb4 : ∀ b, A4 = some ⟨b, 0, none⟩ → b < w4.heap.size := fun b e => by subst e; exact (o4.lt b rfl).2
  clear b4 o4 hk2 hk3
  go_wp2_with fail
  refine (l20_pk g (q + 1 + 1) 2 _ (by first | exact HR.out | exact HR.out.alloc1 _ | exact (HR.out.alloc1 _).alloc1 _ | exact ((HR.out.alloc1 _).alloc1 _).alloc1 _) (by omega) (by omega)).mono ?_
  rintro e w5 ⟨k5, rfl, hk5, r_, g_⟩
  have z5 := g_.size; (try simp only [World.size_alloc] at z5)
  replace HG := Lib.hid (only_trans (by first | exact HG.out | exact only_alloc HG.out _ | exact only_alloc (only_alloc HG.out _) _ | exact only_alloc (only_alloc (only_alloc HG.out _) _) _) g_)
  replace HR := Lib.hid r_
  replace HK := Lib.hid ((HK.out.alloc _).only g_ (by omega))
  have HP := Lib.hid (lit_keep g_ (by omega))
  replace HO := Lib.hid (own_only (HO.out.alloc _) g_ (by omega))
  clear r_ g_
  generalize hm : E.length = m at *
  rcases (show k5 = 1 ∨ k5 = 0 by omega) with rfl | rfl
  · have HZ := Lib.hid hm; clear hm
    go_wp2_with fail
    refine (l20_odd g _ n _ (by first | with_reducible exact HR.out | with_reducible exact (HR.out).drew | with_reducible exact (HR.out).alloc1 _ | with_reducible exact ((HR.out).drew).alloc1 _ | with_reducible exact ((HR.out).alloc1 _).drew | with_reducible exact ((HR.out).alloc1 _).alloc1 _ | with_reducible exact (((HR.out).drew).alloc1 _).alloc1 _ | with_reducible exact (((HR.out).alloc1 _).alloc1 _).drew | with_reducible exact (((HR.out).alloc1 _).alloc1 _).alloc1 _ | with_reducible exact ((((HR.out).drew).alloc1 _).alloc1 _).alloc1 _ | with_reducible exact ((((HR.out).alloc1 _).alloc1 _).alloc1 _).drew) (by omega) (by omega)).mono ?_
    rintro e w8 ⟨v8, rfl, r_, g_⟩
    have z8 := g_.size; (try simp only [World.size_alloc, size_drew] at z8)
    have hne8 : ¬ w8.heap.size = g := (by omega)
    have hnf8 : ¬ w8.heap.size + 1 = g := (by omega)
    have hnh8 : ¬ w8.heap.size + 1 + 1 = g := (by omega)
    have hq8 := only_cells g_
    replace HG := Lib.hid (only_trans (by first | with_reducible exact HG.out | with_reducible exact only_drew (HG.out) | with_reducible exact only_alloc (HG.out) _ | with_reducible exact only_alloc (only_drew (HG.out)) _ | with_reducible exact only_drew (only_alloc (HG.out) _) | with_reducible exact only_alloc (only_alloc (HG.out) _) _ | with_reducible exact only_alloc (only_alloc (only_drew (HG.out)) _) _ | with_reducible exact only_drew (only_alloc (only_alloc (HG.out) _) _) | with_reducible exact only_alloc (only_alloc (only_alloc (HG.out) _) _) _ | with_reducible exact only_alloc (only_alloc (only_alloc (only_drew (HG.out)) _) _) _ | with_reducible exact only_drew (only_alloc (only_alloc (only_alloc (HG.out) _) _) _)) g_)
    replace HR := Lib.hid r_
    replace HO := Lib.hid (own_only HO.out g_ (by omega)); replace HP := Lib.hid (HP.out.only g_ (by omega)); replace HK := Lib.hid (HK.out.only g_ (by omega))
    clear r_ g_
    have c0 : w8.cell? ⟨w4.heap.size, 0, none⟩ = some (.slice A4 m c4) := HP.out.cell 0
    have d0 := HP.out.frozen 0
    have k0 : w8.cell? ⟨w.heap.size, 0, none⟩ = some (.slice none 0 0) := HK.out.cell 0
    have f0 := HK.out.frozen 0
    have hnp : ¬ w4.heap.size = w.heap.size := by omega
    have hnp2 : ¬ w.heap.size = w4.heap.size := by omega
    cases v8
    · replace HR := Lib.hid (HR.out.more (q' := q + 60) (by omega))
      go_wp2_with fail
      refine bodyPost_ret (v := .agg #[.slice A4 m c4]) (by simp [results, Try.results30, go_sem, k0]) rfl ?_
      have hz := HZ.out
      refine ⟨A4, c4, E, by rw [hz], by omega, by rw [hz]; exact own_cap' HO.out, ?_, ?_, (by repeat (first | with_reducible exact HR.out | refine Rdr.setFar ?_ (by first | omega | (simp; done) | (simp; omega)) _ | refine Rdr.alloc1 ?_ _)), (by repeat (first | with_reducible exact HG.out | refine only_setCell ?_ (.inr (by first | omega | (simp; done) | (simp; omega))) _ | refine only_alloc ?_ _))⟩
      · exact RdBo.more ((RdBo.of_own' HO.out hz).setFar (fun b off e => by have := own_lo HO.out b off e; simp; omega) _) (by simp [World.setCell])
      · intro b off e; have := own_lo HO.out b off e; omega
    · have hmk := HMK.out
      have farp : (w4.heap.size < w8.heap.size ∧ w4.heap.size ≤ w8.heap.size) ∧ (w4.heap.size ≤ w8.heap.size + 1 ∧ w4.heap.size ≤ w8.heap.size + 1 + 1) ∧ (w4.heap.size < w8.heap.size + 1 ∧ w4.heap.size < w8.heap.size + 1 + 1) ∧ (¬ w4.heap.size = w8.heap.size ∧ ¬ w4.heap.size = w8.heap.size + 1 ∧ ¬ w4.heap.size = w8.heap.size + 1 + 1) ∧ (¬ w8.heap.size = w4.heap.size ∧ ¬ w8.heap.size + 1 = w4.heap.size ∧ ¬ w8.heap.size + 1 + 1 = w4.heap.size) := by omega
      obtain ⟨⟨fap, fbp⟩, ⟨fcp, fdp⟩, ⟨fep, ffp⟩, ⟨fgp, fhp, fip⟩, fjp, fkp, flp⟩ := farp
      have farr : (w.heap.size < w8.heap.size ∧ w.heap.size ≤ w8.heap.size) ∧ (w.heap.size ≤ w8.heap.size + 1 ∧ w.heap.size ≤ w8.heap.size + 1 + 1) ∧ (w.heap.size < w8.heap.size + 1 ∧ w.heap.size < w8.heap.size + 1 + 1) ∧ (¬ w.heap.size = w8.heap.size ∧ ¬ w.heap.size = w8.heap.size + 1 ∧ ¬ w.heap.size = w8.heap.size + 1 + 1) ∧ (¬ w8.heap.size = w.heap.size ∧ ¬ w8.heap.size + 1 = w.heap.size ∧ ¬ w8.heap.size + 1 + 1 = w.heap.size) := by omega
      obtain ⟨⟨far, fbr⟩, ⟨fcr, fdr⟩, ⟨fer, ffr⟩, ⟨fgr, fhr, fir⟩, fjr, fkr, flr⟩ := farr
      have hpg : ¬ w4.heap.size = g := by omega
      have hrg : ¬ w.heap.size = g := by omega
      go_wp2_with fail
      go_region_with (go_at_call_of 35 (Value.int IntKind.i64 2); refine (l20_pk g _ 2 _ (by first | with_reducible exact HR.out | with_reducible exact (HR.out).drew | with_reducible exact (HR.out).alloc1 _ | with_reducible exact ((HR.out).drew).alloc1 _ | with_reducible exact ((HR.out).alloc1 _).drew | with_reducible exact ((HR.out).alloc1 _).alloc1 _ | with_reducible exact (((HR.out).drew).alloc1 _).alloc1 _ | with_reducible exact (((HR.out).alloc1 _).alloc1 _).drew | with_reducible exact (((HR.out).alloc1 _).alloc1 _).alloc1 _ | with_reducible exact ((((HR.out).drew).alloc1 _).alloc1 _).alloc1 _ | with_reducible exact ((((HR.out).alloc1 _).alloc1 _).alloc1 _).drew) (by omega) (by omega)).mono ?_; rintro e w9 ⟨k9, rfl, hk9, r_, g_⟩; have z9 := g_.size; (try simp only [World.size_alloc, size_drew] at z9); have hne9 : ¬ w9.heap.size = g := (by omega); have hnf9 : ¬ w9.heap.size + 1 = g := (by omega); have hnh9 : ¬ w9.heap.size + 1 + 1 = g := (by omega); have hq9 := only_cells g_; replace HG := Lib.hid (only_trans (by first | with_reducible exact HG.out | with_reducible exact only_drew (HG.out) | with_reducible exact only_alloc (HG.out) _ | with_reducible exact only_alloc (only_drew (HG.out)) _ | with_reducible exact only_drew (only_alloc (HG.out) _) | with_reducible exact only_alloc (only_alloc (HG.out) _) _ | with_reducible exact only_alloc (only_alloc (only_drew (HG.out)) _) _ | with_reducible exact only_drew (only_alloc (only_alloc (HG.out) _) _) | with_reducible exact only_alloc (only_alloc (only_alloc (HG.out) _) _) _ | with_reducible exact only_alloc (only_alloc (only_alloc (only_drew (HG.out)) _) _) _ | with_reducible exact only_drew (only_alloc (only_alloc (only_alloc (HG.out) _) _) _)) g_); replace HR := Lib.hid r_; have hsel := sel_at k9 (by omega); have HGp := Lib.hid g_; replace HP := Lib.hid (Blk.only (by first | with_reducible exact HP.out | with_reducible exact (HP.out).drew | with_reducible exact (HP.out).alloc _ | with_reducible exact ((HP.out).drew).alloc _ | with_reducible exact ((HP.out).alloc _).drew | with_reducible exact ((HP.out).alloc _).alloc _ | with_reducible exact (((HP.out).drew).alloc _).alloc _ | with_reducible exact (((HP.out).alloc _).alloc _).drew | with_reducible exact (((HP.out).alloc _).alloc _).alloc _ | with_reducible exact ((((HP.out).drew).alloc _).alloc _).alloc _ | with_reducible exact ((((HP.out).alloc _).alloc _).alloc _).drew) g_ (by omega)); replace HK := Lib.hid (Blk.only (by first | with_reducible exact HK.out | with_reducible exact (HK.out).drew | with_reducible exact (HK.out).alloc _ | with_reducible exact ((HK.out).drew).alloc _ | with_reducible exact ((HK.out).alloc _).drew | with_reducible exact ((HK.out).alloc _).alloc _ | with_reducible exact (((HK.out).drew).alloc _).alloc _ | with_reducible exact (((HK.out).alloc _).alloc _).drew | with_reducible exact (((HK.out).alloc _).alloc _).alloc _ | with_reducible exact ((((HK.out).drew).alloc _).alloc _).alloc _ | with_reducible exact ((((HK.out).alloc _).alloc _).alloc _).drew) g_ (by omega)); have c9 : w9.cell? ⟨w4.heap.size, 0, none⟩ = some (.slice A4 m c4) := HP.out.cell 0; have d9 := HP.out.frozen 0; have k9' : w9.cell? ⟨w.heap.size, 0, none⟩ = some (.slice none 0 0) := HK.out.cell 0; have f9 := HK.out.frozen 0; have faru : (w4.heap.size < w9.heap.size ∧ w4.heap.size ≤ w9.heap.size) ∧ (w4.heap.size ≤ w9.heap.size + 1 ∧ w4.heap.size ≤ w9.heap.size + 1 + 1) ∧ (w4.heap.size < w9.heap.size + 1 ∧ w4.heap.size < w9.heap.size + 1 + 1) ∧ (¬ w4.heap.size = w9.heap.size ∧ ¬ w4.heap.size = w9.heap.size + 1 ∧ ¬ w4.heap.size = w9.heap.size + 1 + 1) ∧ (¬ w9.heap.size = w4.heap.size ∧ ¬ w9.heap.size + 1 = w4.heap.size ∧ ¬ w9.heap.size + 1 + 1 = w4.heap.size) := (by omega); obtain ⟨⟨fau, fbu⟩, ⟨fcu, fdu⟩, ⟨feu, ffu⟩, ⟨fgu, fhu, fiu⟩, fju, fku, flu⟩ := faru; have farv : (w.heap.size < w9.heap.size ∧ w.heap.size ≤ w9.heap.size) ∧ (w.heap.size ≤ w9.heap.size + 1 ∧ w.heap.size ≤ w9.heap.size + 1 + 1) ∧ (w.heap.size < w9.heap.size + 1 ∧ w.heap.size < w9.heap.size + 1 + 1) ∧ (¬ w.heap.size = w9.heap.size ∧ ¬ w.heap.size = w9.heap.size + 1 ∧ ¬ w.heap.size = w9.heap.size + 1 + 1) ∧ (¬ w9.heap.size = w.heap.size ∧ ¬ w9.heap.size + 1 = w.heap.size ∧ ¬ w9.heap.size + 1 + 1 = w.heap.size) := (by omega); obtain ⟨⟨fav, fbv⟩, ⟨fcv, fdv⟩, ⟨fev, ffv⟩, ⟨fgv, fhv, fiv⟩, fjv, fkv, flv⟩ := farv; clear r_ g_)
      all_goals
        replace HR := Lib.hid (HR.out.more (q' := q + 60) (by omega))
        go_wp2_with fail
        refine bodyPost_ret (v := .agg #[.slice _ _ _]) (by simp [results, Try.results30, go_sem, k9', fav, fbv, fcv, fdv, fev, ffv, fgv, fhv, fiv, fjv, fkv, flv]; first | done | exact rfl | exact ⟨rfl, rfl, rfl⟩) rfl ?_
        rcases (show k9 = 0 ∨ k9 = 1 by omega) with rfl | rfl
        · refine ⟨_, 0, [], rfl, by simp, Nat.le_refl _, RdBo.none0 rfl, ?_, (by repeat (first | with_reducible exact HR.out | refine Rdr.setFar ?_ (by first | omega | (simp; done) | (simp; omega)) _ | refine Rdr.alloc1 ?_ _)), (by repeat (first | with_reducible exact HG.out | refine only_setCell ?_ (.inr (by first | omega | (simp; done) | (simp; omega))) _ | refine only_alloc ?_ _))⟩
          intro b off e; simp only [selA, if_true] at e; injection e with e; injection e with e1 e2; omega
        · refine ⟨_, 33, List.replicate 33 false, rfl, by simp, by simp, Blk.rdbo (t := 4) (by repeat (first | exact Blk.newAt (by simp [size_set]) | refine Blk.far ?_ (by first | omega | (simp; done) | (simp; omega)) _ | refine Blk.alloc ?_ _ | refine Blk.only ?_ HGp.out (by first | omega | (simp; omega)))) (by simp [size_set]; try omega), ?_, (by repeat (first | with_reducible exact HR.out | refine Rdr.setFar ?_ (by first | omega | (simp; done) | (simp; omega)) _ | refine Rdr.alloc1 ?_ _)), (by repeat (first | with_reducible exact HG.out | refine only_setCell ?_ (.inr (by first | omega | (simp; done) | (simp; omega))) _ | refine only_alloc ?_ _))⟩
          intro b off e; simp [selA] at e; omega
  · have c0 : w5.cell? ⟨w4.heap.size, 0, none⟩ = some (.slice A4 m c4) := HP.out.cell 0
    have HM := Lib.hid hm; clear hm
    go_wp2_with fail
    clear c0
    go_loopw [7] (fun i wr => ∃ (k : Nat) (zs : List Bool), k ≤ m ∧ zs.length = m ∧ i = .int .i64 k ∧ wr.ownsRow w3.heap.size 4 1 (.slice A4 m c4) m (bv zs) ∧ Blk wr w4.heap.size 25 #[.slice A4 m c4] ∧ Blk wr w.heap.size 25 #[.slice none 0 0] ∧ Rdr wr g (q + 3 + k) ∧ w.grownBy wr (some g)) (fun i _ => m - (intOf i).toNat)
    case atStart => exact ⟨0, E, Nat.zero_le _, HM.out, rfl, HO.out, HP.out, HK.out, HR.out.more (by omega), HG.out⟩
    case round =>
      obtain ⟨k, zs, hk, hzm, rfl, ho, hp, hkk, hrd, hgr⟩ := hrel
      have zr := hgr.size
      have HO := Lib.hid ho; have HP := Lib.hid hp; have HK := Lib.hid hkk; have HR := Lib.hid hrd; have HG := Lib.hid hgr
      have HZ := Lib.hid hzm
      have hp4 := hp.lt
      clear ho hp hkk hrd hgr hzm
      have c0 : wr.cell? ⟨w4.heap.size, 0, none⟩ = some (.slice A4 m c4) := HP.out.cell 0
      by_cases hlt2 : k < m
      · obtain ⟨rb, rfl⟩ := own_some HO.out (by omega)
        have hi1 : (k : Int) < (m : Int) := by omega
        have hrb := (HO.out.lt rb rfl)
        have hrb5 := hrb4 rb rfl
        go_wp2_with fail
        go_region_held3 (fun w' => w'.cell? ⟨w4.heap.size, 0, none⟩ = some (.slice (some ⟨rb, 0, none⟩) m c4)) (first | exact c0 | exact c6 | exact (World.cell?_setCell_far _ _ _ _ (by simp; omega)).trans c6) (first | (go_at_call 35; refine (l20_pk g _ 3 _ HR.out.drew (by omega) (by omega)).mono ?_; rintro e w6 ⟨k6, rfl, hk6, r_, g_⟩; have z6 := g_.size; have HO6 := Lib.hid (own_only HO.out.drew g_ (by omega)); have HP6 := Lib.hid (HP.out.drew.only g_ (by omega)); have HK6 := Lib.hid (HK.out.drew.only g_ (by omega)); have c6 : w6.cell? ⟨w4.heap.size, 0, none⟩ = some (.slice (some ⟨rb, 0, none⟩) m c4) := HP6.out.cell 0; have hcell := (HO6.out.cellAt k (by omega)).trans (bv_at (by rw [HZ.out]; exact hlt2)); have hfro := HO6.out.frozenAt k; have HR6 := Lib.hid r_; have HG6 := Lib.hid (only_trans (only_drew HG.out) g_); clear r_ g_))
        go_wp2_with fail
        go_roundw
        case rel =>
          have hst := (HO6.out.stored k (.bool ((k6 : Int) == 0))).1
          rw [bv_set] at hst
          exact ⟨k + 1, zs.set k ((k6 : Int) == 0), by omega, by rw [List.length_set]; exact HZ.out, by go_num, hst, HP6.out.far (by simp; omega) _, HK6.out.far (by simp; omega) _, (HR6.out.setFar (by simp; omega) _).more (by omega), only_setCell HG6.out (.inr (by simp; omega)) _⟩
        case measure => simp [intOf]; omega
      · obtain rfl : m = k := by omega
        go_wp2_with fail
        refine (l20_odd g _ n _ (by first | with_reducible exact HR.out | with_reducible exact (HR.out).drew | with_reducible exact (HR.out).alloc1 _ | with_reducible exact ((HR.out).drew).alloc1 _ | with_reducible exact ((HR.out).alloc1 _).drew | with_reducible exact ((HR.out).alloc1 _).alloc1 _ | with_reducible exact (((HR.out).drew).alloc1 _).alloc1 _ | with_reducible exact (((HR.out).alloc1 _).alloc1 _).drew | with_reducible exact (((HR.out).alloc1 _).alloc1 _).alloc1 _ | with_reducible exact ((((HR.out).drew).alloc1 _).alloc1 _).alloc1 _ | with_reducible exact ((((HR.out).alloc1 _).alloc1 _).alloc1 _).drew) (by omega) (by omega)).mono ?_
        rintro e w8 ⟨v8, rfl, r_, g_⟩
        have z8 := g_.size; (try simp only [World.size_alloc, size_drew] at z8)
        have hne8 : ¬ w8.heap.size = g := (by omega)
        have hnf8 : ¬ w8.heap.size + 1 = g := (by omega)
        have hnh8 : ¬ w8.heap.size + 1 + 1 = g := (by omega)
        have hq8 := only_cells g_
        replace HG := Lib.hid (only_trans (by first | with_reducible exact HG.out | with_reducible exact only_drew (HG.out) | with_reducible exact only_alloc (HG.out) _ | with_reducible exact only_alloc (only_drew (HG.out)) _ | with_reducible exact only_drew (only_alloc (HG.out) _) | with_reducible exact only_alloc (only_alloc (HG.out) _) _ | with_reducible exact only_alloc (only_alloc (only_drew (HG.out)) _) _ | with_reducible exact only_drew (only_alloc (only_alloc (HG.out) _) _) | with_reducible exact only_alloc (only_alloc (only_alloc (HG.out) _) _) _ | with_reducible exact only_alloc (only_alloc (only_alloc (only_drew (HG.out)) _) _) _ | with_reducible exact only_drew (only_alloc (only_alloc (only_alloc (HG.out) _) _) _)) g_)
        replace HR := Lib.hid r_
        replace HO := Lib.hid (own_only HO.out g_ (by omega)); replace HP := Lib.hid (HP.out.only g_ (by omega)); replace HK := Lib.hid (HK.out.only g_ (by omega))
        clear r_ g_
        have c0 : w8.cell? ⟨w4.heap.size, 0, none⟩ = some (.slice A4 m c4) := HP.out.cell 0
        have d0 := HP.out.frozen 0
        have k0 : w8.cell? ⟨w.heap.size, 0, none⟩ = some (.slice none 0 0) := HK.out.cell 0
        have f0 := HK.out.frozen 0
        have hnp : ¬ w4.heap.size = w.heap.size := by omega
        have hnp2 : ¬ w.heap.size = w4.heap.size := by omega
        cases v8
        · replace HR := Lib.hid (HR.out.more (q' := q + 60) (by omega))
          go_wp2_with fail
          refine bodyPost_ret (v := .agg #[.slice A4 m c4]) (by simp [results, Try.results30, go_sem, k0]) rfl ?_
          have hz := HZ.out
          refine ⟨A4, c4, zs, by rw [hz], by omega, by rw [hz]; exact own_cap' HO.out, ?_, ?_, (by repeat (first | with_reducible exact HR.out | refine Rdr.setFar ?_ (by first | omega | (simp; done) | (simp; omega)) _ | refine Rdr.alloc1 ?_ _)), (by repeat (first | with_reducible exact HG.out | refine only_setCell ?_ (.inr (by first | omega | (simp; done) | (simp; omega))) _ | refine only_alloc ?_ _))⟩
          · exact RdBo.more ((RdBo.of_own' HO.out hz).setFar (fun b off e => by have := own_lo HO.out b off e; simp; omega) _) (by simp [World.setCell])
          · intro b off e; have := own_lo HO.out b off e; omega
        · have hmk := HMK.out
          have farp : (w4.heap.size < w8.heap.size ∧ w4.heap.size ≤ w8.heap.size) ∧ (w4.heap.size ≤ w8.heap.size + 1 ∧ w4.heap.size ≤ w8.heap.size + 1 + 1) ∧ (w4.heap.size < w8.heap.size + 1 ∧ w4.heap.size < w8.heap.size + 1 + 1) ∧ (¬ w4.heap.size = w8.heap.size ∧ ¬ w4.heap.size = w8.heap.size + 1 ∧ ¬ w4.heap.size = w8.heap.size + 1 + 1) ∧ (¬ w8.heap.size = w4.heap.size ∧ ¬ w8.heap.size + 1 = w4.heap.size ∧ ¬ w8.heap.size + 1 + 1 = w4.heap.size) := by omega
          obtain ⟨⟨fap, fbp⟩, ⟨fcp, fdp⟩, ⟨fep, ffp⟩, ⟨fgp, fhp, fip⟩, fjp, fkp, flp⟩ := farp
          have farr : (w.heap.size < w8.heap.size ∧ w.heap.size ≤ w8.heap.size) ∧ (w.heap.size ≤ w8.heap.size + 1 ∧ w.heap.size ≤ w8.heap.size + 1 + 1) ∧ (w.heap.size < w8.heap.size + 1 ∧ w.heap.size < w8.heap.size + 1 + 1) ∧ (¬ w.heap.size = w8.heap.size ∧ ¬ w.heap.size = w8.heap.size + 1 ∧ ¬ w.heap.size = w8.heap.size + 1 + 1) ∧ (¬ w8.heap.size = w.heap.size ∧ ¬ w8.heap.size + 1 = w.heap.size ∧ ¬ w8.heap.size + 1 + 1 = w.heap.size) := by omega
          obtain ⟨⟨far, fbr⟩, ⟨fcr, fdr⟩, ⟨fer, ffr⟩, ⟨fgr, fhr, fir⟩, fjr, fkr, flr⟩ := farr
          have hpg : ¬ w4.heap.size = g := by omega
          have hrg : ¬ w.heap.size = g := by omega
          go_wp2_with fail
          go_region_with (go_at_call_of 35 (Value.int IntKind.i64 2); refine (l20_pk g _ 2 _ (by first | with_reducible exact HR.out | with_reducible exact (HR.out).drew | with_reducible exact (HR.out).alloc1 _ | with_reducible exact ((HR.out).drew).alloc1 _ | with_reducible exact ((HR.out).alloc1 _).drew | with_reducible exact ((HR.out).alloc1 _).alloc1 _ | with_reducible exact (((HR.out).drew).alloc1 _).alloc1 _ | with_reducible exact (((HR.out).alloc1 _).alloc1 _).drew | with_reducible exact (((HR.out).alloc1 _).alloc1 _).alloc1 _ | with_reducible exact ((((HR.out).drew).alloc1 _).alloc1 _).alloc1 _ | with_reducible exact ((((HR.out).alloc1 _).alloc1 _).alloc1 _).drew) (by omega) (by omega)).mono ?_; rintro e w9 ⟨k9, rfl, hk9, r_, g_⟩; have z9 := g_.size; (try simp only [World.size_alloc, size_drew] at z9); have hne9 : ¬ w9.heap.size = g := (by omega); have hnf9 : ¬ w9.heap.size + 1 = g := (by omega); have hnh9 : ¬ w9.heap.size + 1 + 1 = g := (by omega); have hq9 := only_cells g_; replace HG := Lib.hid (only_trans (by first | with_reducible exact HG.out | with_reducible exact only_drew (HG.out) | with_reducible exact only_alloc (HG.out) _ | with_reducible exact only_alloc (only_drew (HG.out)) _ | with_reducible exact only_drew (only_alloc (HG.out) _) | with_reducible exact only_alloc (only_alloc (HG.out) _) _ | with_reducible exact only_alloc (only_alloc (only_drew (HG.out)) _) _ | with_reducible exact only_drew (only_alloc (only_alloc (HG.out) _) _) | with_reducible exact only_alloc (only_alloc (only_alloc (HG.out) _) _) _ | with_reducible exact only_alloc (only_alloc (only_alloc (only_drew (HG.out)) _) _) _ | with_reducible exact only_drew (only_alloc (only_alloc (only_alloc (HG.out) _) _) _)) g_); replace HR := Lib.hid r_; have hsel := sel_at k9 (by omega); have HGp := Lib.hid g_; replace HP := Lib.hid (Blk.only (by first | with_reducible exact HP.out | with_reducible exact (HP.out).drew | with_reducible exact (HP.out).alloc _ | with_reducible exact ((HP.out).drew).alloc _ | with_reducible exact ((HP.out).alloc _).drew | with_reducible exact ((HP.out).alloc _).alloc _ | with_reducible exact (((HP.out).drew).alloc _).alloc _ | with_reducible exact (((HP.out).alloc _).alloc _).drew | with_reducible exact (((HP.out).alloc _).alloc _).alloc _ | with_reducible exact ((((HP.out).drew).alloc _).alloc _).alloc _ | with_reducible exact ((((HP.out).alloc _).alloc _).alloc _).drew) g_ (by omega)); replace HK := Lib.hid (Blk.only (by first | with_reducible exact HK.out | with_reducible exact (HK.out).drew | with_reducible exact (HK.out).alloc _ | with_reducible exact ((HK.out).drew).alloc _ | with_reducible exact ((HK.out).alloc _).drew | with_reducible exact ((HK.out).alloc _).alloc _ | with_reducible exact (((HK.out).drew).alloc _).alloc _ | with_reducible exact (((HK.out).alloc _).alloc _).drew | with_reducible exact (((HK.out).alloc _).alloc _).alloc _ | with_reducible exact ((((HK.out).drew).alloc _).alloc _).alloc _ | with_reducible exact ((((HK.out).alloc _).alloc _).alloc _).drew) g_ (by omega)); have c9 : w9.cell? ⟨w4.heap.size, 0, none⟩ = some (.slice A4 m c4) := HP.out.cell 0; have d9 := HP.out.frozen 0; have k9' : w9.cell? ⟨w.heap.size, 0, none⟩ = some (.slice none 0 0) := HK.out.cell 0; have f9 := HK.out.frozen 0; have faru : (w4.heap.size < w9.heap.size ∧ w4.heap.size ≤ w9.heap.size) ∧ (w4.heap.size ≤ w9.heap.size + 1 ∧ w4.heap.size ≤ w9.heap.size + 1 + 1) ∧ (w4.heap.size < w9.heap.size + 1 ∧ w4.heap.size < w9.heap.size + 1 + 1) ∧ (¬ w4.heap.size = w9.heap.size ∧ ¬ w4.heap.size = w9.heap.size + 1 ∧ ¬ w4.heap.size = w9.heap.size + 1 + 1) ∧ (¬ w9.heap.size = w4.heap.size ∧ ¬ w9.heap.size + 1 = w4.heap.size ∧ ¬ w9.heap.size + 1 + 1 = w4.heap.size) := (by omega); obtain ⟨⟨fau, fbu⟩, ⟨fcu, fdu⟩, ⟨feu, ffu⟩, ⟨fgu, fhu, fiu⟩, fju, fku, flu⟩ := faru; have farv : (w.heap.size < w9.heap.size ∧ w.heap.size ≤ w9.heap.size) ∧ (w.heap.size ≤ w9.heap.size + 1 ∧ w.heap.size ≤ w9.heap.size + 1 + 1) ∧ (w.heap.size < w9.heap.size + 1 ∧ w.heap.size < w9.heap.size + 1 + 1) ∧ (¬ w.heap.size = w9.heap.size ∧ ¬ w.heap.size = w9.heap.size + 1 ∧ ¬ w.heap.size = w9.heap.size + 1 + 1) ∧ (¬ w9.heap.size = w.heap.size ∧ ¬ w9.heap.size + 1 = w.heap.size ∧ ¬ w9.heap.size + 1 + 1 = w.heap.size) := (by omega); obtain ⟨⟨fav, fbv⟩, ⟨fcv, fdv⟩, ⟨fev, ffv⟩, ⟨fgv, fhv, fiv⟩, fjv, fkv, flv⟩ := farv; clear r_ g_)
          all_goals
            replace HR := Lib.hid (HR.out.more (q' := q + 60) (by omega))
            go_wp2_with fail
            refine bodyPost_ret (v := .agg #[.slice _ _ _]) (by simp [results, Try.results30, go_sem, k9', fav, fbv, fcv, fdv, fev, ffv, fgv, fhv, fiv, fjv, fkv, flv]; first | done | exact rfl | exact ⟨rfl, rfl, rfl⟩) rfl ?_
            rcases (show k9 = 0 ∨ k9 = 1 by omega) with rfl | rfl
            · refine ⟨_, 0, [], rfl, by simp, Nat.le_refl _, RdBo.none0 rfl, ?_, (by repeat (first | with_reducible exact HR.out | refine Rdr.setFar ?_ (by first | omega | (simp; done) | (simp; omega)) _ | refine Rdr.alloc1 ?_ _)), (by repeat (first | with_reducible exact HG.out | refine only_setCell ?_ (.inr (by first | omega | (simp; done) | (simp; omega))) _ | refine only_alloc ?_ _))⟩
              intro b off e; simp only [selA, if_true] at e; injection e with e; injection e with e1 e2; omega
            · refine ⟨_, 33, List.replicate 33 false, rfl, by simp, by simp, Blk.rdbo (t := 4) (by repeat (first | exact Blk.newAt (by simp [size_set]) | refine Blk.far ?_ (by first | omega | (simp; done) | (simp; omega)) _ | refine Blk.alloc ?_ _ | refine Blk.only ?_ HGp.out (by first | omega | (simp; omega)))) (by simp [size_set]; try omega), ?_, (by repeat (first | with_reducible exact HR.out | refine Rdr.setFar ?_ (by first | omega | (simp; done) | (simp; omega)) _ | refine Rdr.alloc1 ?_ _)), (by repeat (first | with_reducible exact HG.out | refine only_setCell ?_ (.inr (by first | omega | (simp; done) | (simp; omega))) _ | refine only_alloc ?_ _))⟩
              intro b off e; simp [selA] at e; omega
end Go.Proofs.Ytelajonddhoafaa
