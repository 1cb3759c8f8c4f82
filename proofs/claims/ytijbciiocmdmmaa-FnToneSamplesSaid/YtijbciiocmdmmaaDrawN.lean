/- Contracts of the draws of two numbers and of levels. No condition but bounds on the bytes. -/
import Derived.Test.YtijbciiocmdmmaaDraw
import Derived.Deep.RegionWith
namespace Go.Proofs.Ytijbciiocmdmmaa
set_option linter.unusedVariables false
open Go.RowKit
set_option linter.unusedSimpArgs false
def RetII (w : World) (lo hi lo2 hi2 : Int) (e : Ending) (w' : World) : Prop := ∃ a b : Int, e = .returned (.tuple #[.int .i64 a, .int .i64 b]) ∧ (lo ≤ a ∧ a ≤ hi) ∧ (lo2 ≤ b ∧ b ≤ hi2) ∧ Below w.heap.size w w'
set_option maxRecDepth 100000 in
set_option maxRecDepth 100000 in
set_option maxHeartbeats 1000000 in
theorem spec_DrawWaveAt (A : Option Addr) (c : Nat) (zs : List Int) (w : World) (hr : RdY w w.heap.size A zs) (hw : WfY zs) (hl : zs.length ≤ 1048576) (hc : zs.length ≤ c) :
    Calls Try.prog 23 #[.slice A zs.length c] w (RetII w (-1) 3 (-1) 1020) := by
  have HY := Lib.hid hr; clear hr
  go_enter Try.func23, Try.ntmps23
  go_wp2_with fail
  refine (spec_l20Open A c zs w HY.out hw hl hc).mono ?_
  rintro e w1 ⟨rfl, r_, b_, s_⟩
  have z1 := b_.size
  have hlt : w.heap.size < w1.heap.size := r_.lt
  have HR := Lib.hid r_
  have HB := Lib.hid b_
  have HG := Lib.hid (only_refl w1 (some w.heap.size))
  clear r_ b_ s_ HY
  go_wp2_with fail
  go_region_with (first
    | (go_at_call_of 46 (Value.int IntKind.i64 5); refine (l20_pk w.heap.size _ 5 _ (by first | with_reducible exact HR.out | with_reducible exact HR.out.drew | with_reducible exact HR.out.alloc1 _ | with_reducible exact (HR.out.alloc1 _).alloc1 _) (by omega) (by omega)).mono ?_; rintro e w2 ⟨k2, rfl, hk2, r_, g_⟩; have z2 := g_.size; (try simp only [World.size_alloc, size_drew] at z2); replace HG := Lib.hid (only_trans (by first | with_reducible exact HG.out | with_reducible exact only_drew HG.out | with_reducible exact only_alloc HG.out _ | with_reducible exact only_alloc (only_alloc HG.out _) _) g_); replace HR := Lib.hid r_; clear r_ g_)
    | (go_at_call_of 46 (Value.int IntKind.i64 256); refine (l20_pk w.heap.size _ 256 _ (by first | with_reducible exact HR.out | with_reducible exact HR.out.drew | with_reducible exact HR.out.alloc1 _ | with_reducible exact (HR.out.alloc1 _).alloc1 _) (by omega) (by omega)).mono ?_; rintro e w3 ⟨k3, rfl, hk3, r_, g_⟩; have z3 := g_.size; (try simp only [World.size_alloc, size_drew] at z3); replace HG := Lib.hid (only_trans (by first | with_reducible exact HG.out | with_reducible exact only_drew HG.out | with_reducible exact only_alloc HG.out _ | with_reducible exact only_alloc (only_alloc HG.out _) _) g_); replace HR := Lib.hid r_; clear r_ g_)
    | (go_at_call_of 46 (Value.int IntKind.i64 7); refine (l20_pk w.heap.size _ 7 _ (by with_reducible exact HR.out.alloc1 _) (by omega) (by omega)).mono ?_; rintro e w4 ⟨k4, rfl, hk4, r_, g_⟩; have HL4 := Lib.hid (lit_keep g_ (by omega)); have z4 := g_.size; (try simp only [World.size_alloc, size_drew] at z4); replace HG := Lib.hid (only_trans (only_alloc HG.out _) g_); replace HR := Lib.hid r_; clear r_ g_; obtain ⟨x4, hx4, xl4, xh4⟩ := lit_at (lo := -1) (hi := 1020) HL4.out (fun k hk => by simp at hk; rcases k with _ | _ | _ | _ | _ | _ | _ | _ | k <;> first | exact ⟨_, rfl, by omega, by omega⟩ | exact ⟨_, rfl, by rw [IntWalk.i64_in _ (by omega)]; omega, by rw [IntWalk.i64_in _ (by omega)]; omega⟩ | omega) (k := k4) (by simp; omega))
    | (go_at_call_of 46 (Value.int IntKind.i64 7); refine (l20_pk w.heap.size _ 7 _ (by first | with_reducible exact HR.out | with_reducible exact HR.out.drew | with_reducible exact HR.out.alloc1 _ | with_reducible exact (HR.out.alloc1 _).alloc1 _) (by omega) (by omega)).mono ?_; rintro e w4 ⟨k4, rfl, hk4, r_, g_⟩; have z4 := g_.size; (try simp only [World.size_alloc, size_drew] at z4); replace HG := Lib.hid (only_trans (by first | with_reducible exact HG.out | with_reducible exact only_drew HG.out | with_reducible exact only_alloc HG.out _ | with_reducible exact only_alloc (only_alloc HG.out _) _) g_); replace HR := Lib.hid r_; clear r_ g_; obtain ⟨x4, hx4, xl4, xh4⟩ := (show LitIn (-1) (1020) (#[Value.int IntKind.i64 (IntKind.i64.wrap ((k3 : Int) * 4)), Value.int IntKind.i64 0, Value.int IntKind.i64 499, Value.int IntKind.i64 500, Value.int IntKind.i64 999, Value.int IntKind.i64 1000, Value.int IntKind.i64 (-1)]) from (fun k hk => by simp at hk; rcases k with _ | _ | _ | _ | _ | _ | _ | _ | k <;> first | exact ⟨_, rfl, by omega, by omega⟩ | exact ⟨_, rfl, by rw [IntWalk.i64_in _ (by omega)]; omega, by rw [IntWalk.i64_in _ (by omega)]; omega⟩ | omega)) k4 (by simp; omega)))
  all_goals
    go_wp2_with fail
    go_ret2
    exact ⟨_, _, rfl, (by first | omega | (rw [IntWalk.i64_in _ (by omega)]; omega) | (refine ⟨?_, ?_⟩ <;> rw [IntWalk.i64_in _ (by omega)] <;> omega)), (by first | omega | (rw [IntWalk.i64_in _ (by omega)]; omega) | (refine ⟨?_, ?_⟩ <;> rw [IntWalk.i64_in _ (by omega)] <;> omega)), (below_only HB.out (g := w.heap.size) (by first | with_reducible exact HG.out | with_reducible exact only_drew HG.out | with_reducible exact only_alloc HG.out _ | with_reducible exact only_alloc (only_alloc HG.out _) _ | with_reducible exact only_drew (only_alloc HG.out _)) (by omega) (Nat.le_refl _))⟩
theorem spec_l20Level (g q : Nat) (w : World) (hr : Rdr w g q) (hq : q ≤ 900000) :
    Calls Try.prog 54 #[.pointer (some ⟨g, 0, none⟩)] w
    fun e w' => ∃ l : Int, e = .returned (.int .i64 l) ∧ (-1 ≤ l ∧ l ≤ 1001) ∧ Rdr w' g (q + 1 + 1) ∧ w.grownBy w' (some g) := by
  have hlt := hr.lt
  have HR := Lib.hid hr
  have HG := Lib.hid (only_refl w (some g))
  clear hr
  go_enter Try.func54, Try.ntmps54
  go_wp2_with (first
    | (go_at_call_of 46 (Value.int IntKind.i64 11); refine (l20_pk g _ 11 _ (by first | with_reducible exact HR.out | with_reducible exact (HR.out).drew | with_reducible exact (HR.out).alloc1 _ | with_reducible exact ((HR.out).drew).alloc1 _ | with_reducible exact ((HR.out).alloc1 _).drew | with_reducible exact ((HR.out).alloc1 _).alloc1 _ | with_reducible exact (((HR.out).drew).alloc1 _).alloc1 _ | with_reducible exact (((HR.out).alloc1 _).alloc1 _).drew | with_reducible exact (((HR.out).alloc1 _).alloc1 _).alloc1 _ | with_reducible exact ((((HR.out).drew).alloc1 _).alloc1 _).alloc1 _ | with_reducible exact ((((HR.out).alloc1 _).alloc1 _).alloc1 _).drew) (by omega) (by omega)).mono ?_; rintro e w2 ⟨k2, rfl, hk2, r_, g_⟩; have z2 := g_.size; (try simp only [World.size_alloc, size_drew] at z2); have hne2 : ¬ w2.heap.size = g := (by omega); have hnf2 : ¬ w2.heap.size + 1 = g := (by omega); have hnh2 : ¬ w2.heap.size + 1 + 1 = g := (by omega); have hq2 := only_cells g_; replace HG := Lib.hid (only_trans (by first | with_reducible exact HG.out | with_reducible exact only_drew (HG.out) | with_reducible exact only_alloc (HG.out) _ | with_reducible exact only_alloc (only_drew (HG.out)) _ | with_reducible exact only_drew (only_alloc (HG.out) _) | with_reducible exact only_alloc (only_alloc (HG.out) _) _ | with_reducible exact only_alloc (only_alloc (only_drew (HG.out)) _) _ | with_reducible exact only_drew (only_alloc (only_alloc (HG.out) _) _) | with_reducible exact only_alloc (only_alloc (only_alloc (HG.out) _) _) _ | with_reducible exact only_alloc (only_alloc (only_alloc (only_drew (HG.out)) _) _) _ | with_reducible exact only_drew (only_alloc (only_alloc (only_alloc (HG.out) _) _) _)) g_); replace HR := Lib.hid r_; skip; clear r_ g_)
    | (go_at_call_of 46 (Value.int IntKind.i64 7); refine (l20_pk g _ 7 _ (by first | with_reducible exact HR.out | with_reducible exact (HR.out).drew | with_reducible exact (HR.out).alloc1 _ | with_reducible exact ((HR.out).drew).alloc1 _ | with_reducible exact ((HR.out).alloc1 _).drew | with_reducible exact ((HR.out).alloc1 _).alloc1 _ | with_reducible exact (((HR.out).drew).alloc1 _).alloc1 _ | with_reducible exact (((HR.out).alloc1 _).alloc1 _).drew | with_reducible exact (((HR.out).alloc1 _).alloc1 _).alloc1 _ | with_reducible exact ((((HR.out).drew).alloc1 _).alloc1 _).alloc1 _ | with_reducible exact ((((HR.out).alloc1 _).alloc1 _).alloc1 _).drew) (by omega) (by omega)).mono ?_; rintro e w3 ⟨k3, rfl, hk3, r_, g_⟩; have z3 := g_.size; (try simp only [World.size_alloc, size_drew] at z3); have hne3 : ¬ w3.heap.size = g := (by omega); have hnf3 : ¬ w3.heap.size + 1 = g := (by omega); have hnh3 : ¬ w3.heap.size + 1 + 1 = g := (by omega); have hq3 := only_cells g_; replace HG := Lib.hid (only_trans (by first | with_reducible exact HG.out | with_reducible exact only_drew (HG.out) | with_reducible exact only_alloc (HG.out) _ | with_reducible exact only_alloc (only_drew (HG.out)) _ | with_reducible exact only_drew (only_alloc (HG.out) _) | with_reducible exact only_alloc (only_alloc (HG.out) _) _ | with_reducible exact only_alloc (only_alloc (only_drew (HG.out)) _) _ | with_reducible exact only_drew (only_alloc (only_alloc (HG.out) _) _) | with_reducible exact only_alloc (only_alloc (only_alloc (HG.out) _) _) _ | with_reducible exact only_alloc (only_alloc (only_alloc (only_drew (HG.out)) _) _) _ | with_reducible exact only_drew (only_alloc (only_alloc (only_alloc (HG.out) _) _) _)) g_); replace HR := Lib.hid r_; obtain ⟨x, hxx, xlx, xhx⟩ := (show LitIn (0) (4) (#[Value.int IntKind.i64 (0), Value.int IntKind.i64 (0), Value.int IntKind.i64 (0), Value.int IntKind.i64 (1), Value.int IntKind.i64 (2), Value.int IntKind.i64 (3), Value.int IntKind.i64 (4)]) from (fun k hk => by simp at hk; rcases k with _ | _ | _ | _ | _ | _ | _ | _ | k <;> first | exact ⟨_, rfl, by omega, by omega⟩ | exact ⟨_, rfl, by rw [IntWalk.i64_in _ (by omega)]; omega, by rw [IntWalk.i64_in _ (by omega)]; omega⟩ | omega)) k3 (by simp; omega); obtain ⟨j, rfl⟩ : ∃ j : Nat, x = (j : Int) := ⟨x.toNat, by omega⟩; obtain ⟨y, hxy, xly, xhy⟩ := (show LitIn (-1) (1001) (#[Value.int IntKind.i64 ((k2 : Int) * 100), Value.int IntKind.i64 (0), Value.int IntKind.i64 (1000), Value.int IntKind.i64 (-1), Value.int IntKind.i64 (1001)]) from (fun k hk => by simp at hk; rcases k with _ | _ | _ | _ | _ | _ | _ | _ | k <;> first | exact ⟨_, rfl, by omega, by omega⟩ | exact ⟨_, rfl, by rw [IntWalk.i64_in _ (by omega)]; omega, by rw [IntWalk.i64_in _ (by omega)]; omega⟩ | omega)) j (by simp; omega); clear r_ g_))
  go_ret
  exact ⟨_, rfl, by omega, HR.out, HG.out⟩
theorem only_frozen {w w' : World} {g : Nat} (hg : w.grownBy w' (some g)) : ∀ b o : Nat, ¬ b = g → b < w.heap.size → w'.frozen? ⟨b, o, none⟩ = w.frozen? ⟨b, o, none⟩ :=
  fun b o hb hl => World.frozen?_of_block (hg.block b hl (by simpa using hb))
theorem RdY.alloc1 {w : World} {A : Option Addr} {zs : List Int} (h : RdY w w.heap.size A zs) (o : Obj) : RdY (w.alloc o) (w.alloc o).heap.size A zs :=
  Rd.more (RdY.below h ((Below.refl _ _).alloc (Nat.le_refl _) _) (Nat.le_refl _)) (by simp)
def RetShape (w : World) (e : Ending) (w' : World) : Prop :=
  ∃ a d s r : Int, e = .returned (.agg #[.int .i64 a, .int .i64 d, .int .i64 s, .int .i64 r]) ∧ (-1 ≤ a ∧ a ≤ 10001) ∧ (-1 ≤ d ∧ d ≤ 10001) ∧ (-1 ≤ s ∧ s ≤ 10001) ∧ (-1 ≤ r ∧ r ≤ 10001) ∧ Below w.heap.size w w'
theorem spec_DrawShapeValid (A : Option Addr) (c : Nat) (zs : List Int) (w : World) (hr : RdY w w.heap.size A zs) (hw : WfY zs) (hl : zs.length ≤ 1048576) (hc : zs.length ≤ c) :
    Calls Try.prog 17 #[.slice A zs.length c] w (RetShape w) := by
  go_enter Try.func17, Try.ntmps17
  have HY := Lib.hid (fun o => RdY.alloc1 hr o); clear hr
  go_wp2_with fail
  refine (spec_l20Open A c zs _ (by exact HY.out _) hw hl hc).mono ?_
  rintro e w1 ⟨rfl, r_, b_, s_⟩
  have HK := Lib.hid ((Blk.new w _ _).below b_ (by simp))
  have HB := Lib.hid (((Below.refl w.heap.size w).alloc (Nat.le_refl _) _).trans (b_.mono (by simp)))
  simp only [World.size_alloc] at r_ b_ s_
  have z1 : w.heap.size + 2 ≤ w1.heap.size := (by omega)
  have hne1 : ¬ w1.heap.size = w.heap.size + 1 := by omega
  have hnf1 : ¬ w1.heap.size + 1 = w.heap.size + 1 := by omega
  have HR := Lib.hid r_
  have HG := Lib.hid (only_refl w1 (some (w.heap.size + 1)))
  clear r_ b_ s_ HY
  go_wp2_with fail
  refine (spec_l20Shape (w.heap.size + 1) 0 2 w1 HR.out (by omega) (by omega)).mono ?_
  rintro e w2 ⟨a, d, s, r, rfl, h1, h2, h3, h4, hr2, g2⟩
  replace HK := Lib.hid (HK.out.only g2 (by omega))
  replace HB := Lib.hid (below_only HB.out g2 (by omega) (by omega))
  clear hr2 g2
  obtain ⟨⟨c0, c1, c2, c3⟩, f0, f1, f2, f3⟩ := HK.out.c4
  go_wp2_with fail
  refine bodyPost_ret (v := .agg #[.int .i64 a, .int .i64 d, .int .i64 s, .int .i64 r]) (by simp [results, Try.results17, go_sem, c0, c1, c2, c3]) rfl ⟨a, d, s, r, rfl, h1, h2, h3, h4, ?_⟩
  exact (((HB.out.setCell (Nat.le_refl _) _).setCell (Nat.le_refl _) _).setCell (Nat.le_refl _) _).setCell (Nat.le_refl _) _
end Go.Proofs.Ytijbciiocmdmmaa
