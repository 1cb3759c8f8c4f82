/- Contracts of the reader of the draws: l20Open, pick, odd. No condition but bounds on the numbers asked for. -/
import Derived.Test.YtggjgjcdpnidnaaNum
import Derived.IntWalk
import Derived.Deep.RegionHeld3
import Derived.Laws.BitsAllLaws
import Derived.Laws.BitsLemmas
namespace Go.Proofs.Ytggjgjcdpnidnaa
set_option linter.unusedVariables false
open Go.RowKit

/-! Only block 'g' has turned. -/
theorem only_trans {a b c : World} {g : Nat} (h : a.grownBy b (some g)) (k : b.grownBy c (some g)) : a.grownBy c (some g) :=
  ⟨k.os.trans h.os, k.tape.trans h.tape, k.output.trans h.output, Nat.le_trans h.size k.size, fun i hi hne => (k.block i (Nat.lt_of_lt_of_le hi h.size) hne).trans (h.block i hi hne)⟩
theorem only_drew {a w : World} {row : Option Nat} (h : a.grownBy w row) : a.grownBy w.drew row := ⟨h.os, h.tape, h.output, h.size, h.block⟩
theorem below_only {B g : Nat} {w0 w w' : World} (h : Below B w0 w) (hg : w.grownBy w' (some g)) (hw : B ≤ w.heap.size) (hd : B ≤ g) : Below B w0 w' :=
  h.grown hg hw fun k e => by injection e with e; omega
theorem Blk.only {w w' : World} {g k : Nat} {t : TypeId} {cs : Array Value} (h : Blk w k t cs) (hg : w.grownBy w' (some g)) (hne : k ≠ g) : Blk w' k t cs :=
  (hg.block k h.lt (by simpa using hne)).trans h
/-- the reader: a struct of its own block: bytes and a place -/
def Rdr (w : World) (g q : Nat) : Prop :=
  ∃ (A : Option Addr) (c : Nat) (zs : List Int) (p : Nat), Blk w g 68 #[.slice A zs.length c, .int .i64 (p : Int)] ∧ RdY w g A zs ∧ WfY zs ∧ zs.length ≤ 2000 ∧ p ≤ q
theorem Rdr.only {w w' : World} {g q k : Nat} (h : Rdr w g q) (hg : w.grownBy w' (some k)) (hne : g < k) : Rdr w' g q := by
  obtain ⟨A, c, zs, p, hb, hy, hw, hl, hp⟩ := h
  refine ⟨A, c, zs, p, hb.only hg (by omega), ?_, hw, hl, hp⟩
  exact Rd.grown hy hg (Nat.le_of_lt hb.lt) fun k' e => by injection e with e; omega
theorem Rdr.below {w w' : World} {g q B : Nat} (h : Rdr w g q) (hb : Below B w w') (hg : g < B) : Rdr w' g q := by
  obtain ⟨A, c, zs, p, hk, hy, hw, hl, hp⟩ := h
  exact ⟨A, c, zs, p, hk.below hb hg, hy.below hb (by omega), hw, hl, hp⟩
theorem Rdr.more {w : World} {g q q' : Nat} (h : Rdr w g q) (hq : q ≤ q') : Rdr w g q' := by
  obtain ⟨A, c, zs, p, hk, hy, hw, hl, hp⟩ := h
  exact ⟨A, c, zs, p, hk, hy, hw, hl, by omega⟩
def RetPick (w : World) (g q : Nat) (n : Int) (e : Ending) (w' : World) : Prop :=
  ∃ v : Int, e = .returned (.int .i64 v) ∧ 0 ≤ v ∧ (v < n ∨ v = 0) ∧ Rdr w' g q ∧ w.grownBy w' (some g)

theorem spec_l20Open (A : Option Addr) (c : Nat) (zs : List Int) (w : World) (hr : RdY w w.heap.size A zs) (hw : WfY zs) (hl : zs.length ≤ 1048576) (hc : zs.length ≤ c) :
    Calls Try.prog 25 #[.slice A zs.length c] w (fun e w' => e = .returned (.pointer (some ⟨w.heap.size, 0, none⟩)) ∧ Rdr w' w.heap.size 0 ∧ Below w.heap.size w w' ∧ w'.heap.size = w.heap.size + 1) := by
  by_cases hlt : zs.length ≤ 2000
  · have hi1 : (zs.length : Int) ≤ 2000 := by omega
    go_enter Try.func25, Try.ntmps25
    go_wp2
    go_ret
    exact ⟨rfl, ⟨A, c, zs, 0, Blk.newAt rfl, hr.below ((Below.refl _ _).alloc (Nat.le_refl _) _) (Nat.le_refl _), hw, hlt, Nat.le_refl _⟩, (Below.refl _ _).alloc (Nat.le_refl _) _, by simp⟩
  · have hi1 : 2000 < (zs.length : Int) := by omega
    have hi2 : (2000 : Int) ≤ (c : Int) := by omega
    obtain ⟨b, off, rfl, hbB, _⟩ := hr.at_ (k := 0) (by omega)
    have hlen : (zs.take 2000).length = 2000 := by simp; omega
    have hr2 : RdY w w.heap.size (some ⟨b, off, none⟩) (zs.take 2000) := by
      refine ⟨by simp [yv], fun _ => ?_⟩
      obtain ⟨b2, o2, e2, hb2, hc2⟩ := hr.2 (by omega)
      injection e2 with e2; injection e2 with e3 e4; subst e3; subst e4
      refine ⟨b, off, rfl, hb2, fun j u hu => hc2 j u ?_⟩
      have hj : j < 2000 := by
        rcases Nat.lt_or_ge j 2000 with h | h
        · exact h
        · rw [List.getElem?_eq_none (by simpa [yv] using by omega)] at hu; cases hu
      rw [← hu]; simp [yv, hj]
    have hw2 : WfY (zs.take 2000) := fun z hz => hw z (List.mem_of_mem_take hz)
    have HR := Lib.hid hr2; have HW := Lib.hid hw2; have HN := Lib.hid hlen; clear hr2 hw2 hr hw hlen
    go_enter Try.func25, Try.ntmps25
    go_wp2
    go_ret
    have hq : Blk (w.alloc (.cells #[.slice (some ⟨b, off, none⟩) (zs.take 2000).length c, .int .i64 0] 68)) w.heap.size 68 #[.slice (some ⟨b, off, none⟩) (zs.take 2000).length c, .int .i64 ((0 : Nat) : Int)] := Blk.newAt rfl
    rw [HN.out] at hq
    exact ⟨rfl, ⟨some ⟨b, off, none⟩, c, zs.take 2000, 0, by rw [HN.out]; exact hq, HR.out.below ((Below.refl _ _).alloc (Nat.le_refl _) _) (Nat.le_refl _), HW.out, Nat.le_of_eq HN.out, Nat.le_refl _⟩, (Below.refl _ _).alloc (Nat.le_refl _) _, by simp⟩
theorem ofInt_i64 (a : Nat) (ha : a < 9223372036854775808) : (BitVec.ofInt 64 (a : Int)).toNat = a := by
  rw [BitVec.ofInt_natCast, BitVec.toNat_ofNat]; exact Nat.mod_eq_of_lt (by omega)
theorem i64_xor_nat (a b : Nat) (ha : a < 9223372036854775808) (hb : b < 9223372036854775808) : bits .xor .i64 (a : Int) (b : Int) = ((a ^^^ b : Nat) : Int) := by
  have hx : a ^^^ b < 2 ^ 63 := Nat.xor_lt_two_pow (by omega) (by omega)
  show IntKind.i64.wrap ((BitVec.ofInt 64 (a : Int) ^^^ BitVec.ofInt 64 (b : Int)).toNat : Int) = _
  rw [BitVec.toNat_xor, ofInt_i64 a ha, ofInt_i64 b hb, IntKind.wrap_i64]
  omega
set_option maxHeartbeats 1000000 in
theorem l20_pick (g q : Nat) (n : Int) (w : World) (hr : Rdr w g q) (hq : q ≤ 1000000) (hn : 0 ≤ n ∧ n ≤ 1000000) :
    Calls Try.prog 48 #[.pointer (some ⟨g, 0, none⟩), .int .i64 n] w (RetPick w g (q + 1) n) := by
  obtain ⟨A, c, zs, p, hb, hy, hwf, hl, hp⟩ := hr
  have c0 : w.cell? ⟨g, 0, none⟩ = some (.slice A zs.length c) := hb.cell 0
  have c1 : w.cell? ⟨g, 1, none⟩ = some (.int .i64 (p : Int)) := hb.cell 1
  have f1 := hb.frozen 1
  have hon : w.grownBy (w.setCell ⟨g, 1, none⟩ (.int .i64 ((p : Int) + 1))) (some g) := only_setCell (only_refl _ _) (.inl rfl) _
  have hb1 : Blk (w.setCell ⟨g, 1, none⟩ (.int .i64 ((p : Int) + 1))) g 68 #[.slice A zs.length c, .int .i64 ((p : Int) + 1)] := hb.set_ 1 _
  have hy1 : RdY (w.setCell ⟨g, 1, none⟩ (.int .i64 ((p : Int) + 1))) g A zs := Rd.grown hy hon (Nat.le_of_lt hb.lt) fun k' e => by injection e with e; omega
  have hrd : Rdr (w.setCell ⟨g, 1, none⟩ (.int .i64 ((p : Int) + 1))) g (q + 1) := ⟨A, c, zs, p + 1, by simpa using hb1, hy1, hwf, hl, by omega⟩
  have HRD := Lib.hid hrd; have HON := Lib.hid hon; have HB1 := Lib.hid hb1; have HY1 := Lib.hid hy1
  clear hrd hon hb1 hy1 hb hy
  by_cases h0 : n < 1
  · go_enter Try.func48, Try.ntmps48
    go_wp2
    go_ret
    exact ⟨0, rfl, Int.le_refl _, .inr rfl, HRD.out, HON.out⟩
  by_cases h1 : zs.length = 0
  · have h1' : ((zs.length : Int) == 0) = true := by simp [h1]
    have h0' : 1 ≤ n := by omega
    go_enter Try.func48, Try.ntmps48
    go_wp2
    go_ret
    exact ⟨0, rfl, Int.le_refl _, .inr rfl, HRD.out, HON.out⟩
  have h1' : ((zs.length : Int) == 0) = false := by simpa using h1
  have h0' : 1 ≤ n := by omega
  by_cases h2 : p < zs.length
  · have h2' : (p : Int) < (zs.length : Int) := by omega
    obtain ⟨b, off, rfl, hbB, hc⟩ := HY1.out.at_ h2
    have hby := gi_byte hwf h2
    have hne : n ≠ 0 := by omega
    have htm : (gi zs p).tmod n = gi zs p % n := Int.tmod_eq_emod_of_nonneg hby.1
    have c0' : (w.setCell ⟨g, 1, none⟩ (.int .i64 ((p : Int) + 1))).cell? ⟨g, 0, none⟩ = some (.slice (some ⟨b, off, none⟩) zs.length c) := HB1.out.cell 0
    have c1' : (w.setCell ⟨g, 1, none⟩ (.int .i64 ((p : Int) + 1))).cell? ⟨g, 1, none⟩ = some (.int .i64 ((p : Int) + 1)) := HB1.out.cell 1
    go_enter Try.func48, Try.ntmps48
    go_wp2
    go_ret
    exact ⟨gi zs p % n, rfl, Int.emod_nonneg _ hne, .inl (Int.emod_lt_of_pos _ (by omega)), HRD.out, HON.out⟩
  · have h2' : (zs.length : Int) ≤ (p : Int) := by omega
    have hk1 : p % zs.length < zs.length := Nat.mod_lt _ (by omega)
    have hk2 : (p * 7 + 3) % zs.length < zs.length := Nat.mod_lt _ (by omega)
    have hm1 : ((p : Int)).tmod (zs.length : Int) = ((p % zs.length : Nat) : Int) := by rw [Int.tmod_eq_emod_of_nonneg (by omega)]; rfl
    have hm2 : ((p : Int) * 7 + 3).tmod (zs.length : Int) = (((p * 7 + 3) % zs.length : Nat) : Int) := by rw [Int.tmod_eq_emod_of_nonneg (by omega)]; rfl
    generalize p % zs.length = k1 at *
    generalize (p * 7 + 3) % zs.length = k2 at *
    obtain ⟨b, off, rfl, hbB, hc⟩ := HY1.out.at_ hk1
    obtain ⟨b', off', e', hbB', hc'⟩ := HY1.out.at_ hk2
    injection e' with e'; injection e' with e1 e2; subst e1; subst e2
    have hby1 := gi_byte hwf hk1
    have hby2 := gi_byte hwf hk2
    generalize hx1 : gi zs k1 = x1 at *
    generalize hx2 : gi zs k2 = x2 at *
    have hdl : p / zs.length ≤ p := Nat.div_le_self _ _
    have hne : n ≠ 0 := by omega
    have hz0 : (zs.length : Int) ≠ 0 := by omega
    have c0' : (w.setCell ⟨g, 1, none⟩ (.int .i64 ((p : Int) + 1))).cell? ⟨g, 0, none⟩ = some (.slice (some ⟨b, off, none⟩) zs.length c) := HB1.out.cell 0
    have c1' : (w.setCell ⟨g, 1, none⟩ (.int .i64 ((p : Int) + 1))).cell? ⟨g, 1, none⟩ = some (.int .i64 ((p : Int) + 1)) := HB1.out.cell 1
    go_enter Try.func48, Try.ntmps48
    go_wp2
    have w1 : IntKind.i64.wrap ((p : Int) * 7) = (p : Int) * 7 := IntWalk.i64_in _ (by omega)
    have w2 : IntKind.i64.wrap ((p : Int) * 7 + 3) = (p : Int) * 7 + 3 := IntWalk.i64_in _ (by omega)
    have m1a : 0 ≤ (k1 : Int) := by omega
    have m1b : (k1 : Int) < (zs.length : Int) := by omega
    have m2a : 0 ≤ (k2 : Int) := by omega
    have m2b : (k2 : Int) < (zs.length : Int) := by omega
    have w3 : IntKind.i64.wrap (x1 * 131) = x1 * 131 := IntWalk.i64_in _ (by omega)
    have w4 : IntKind.i64.wrap (x2 * 1117) = x2 * 1117 := IntWalk.i64_in _ (by omega)
    have w5 : IntKind.i64.wrap (x1 * 131 + x2 * 1117) = x1 * 131 + x2 * 1117 := IntWalk.i64_in _ (by omega)
    have w6 : IntKind.i64.wrap ((p : Int) * 29) = (p : Int) * 29 := IntWalk.i64_in _ (by omega)
    have w7 : IntKind.i64.wrap (x1 * 131 + x2 * 1117 + (p : Int) * 29) = x1 * 131 + x2 * 1117 + (p : Int) * 29 := IntWalk.i64_in _ (by omega)
    generalize hdv : p / zs.length = dv at *
    have q1 : IntKind.i64.wrap (((p : Int)).tdiv (zs.length : Int)) = (dv : Int) := by
      rw [Int.tdiv_eq_ediv_of_nonneg (by omega), show (p : Int) / (zs.length : Int) = ((p / zs.length : Nat) : Int) from rfl, hdv]; exact IntWalk.i64_in _ (by omega)
    have w8 : IntKind.i64.wrap ((dv : Int) * 53) = (dv : Int) * 53 := IntWalk.i64_in _ (by omega)
    have w9 : IntKind.i64.wrap (x1 * 131 + x2 * 1117 + (p : Int) * 29 + (dv : Int) * 53) = x1 * 131 + x2 * 1117 + (p : Int) * 29 + (dv : Int) * 53 := IntWalk.i64_in _ (by omega)
    generalize (w.setCell ⟨g, 1, none⟩ (.int .i64 ((p : Int) + 1))) = wp at *
    go_region_held3 (fun w' => w'.cell? ⟨g, 0, none⟩ = some (.slice (some ⟨b, off, none⟩) zs.length c) ∧ w'.cell? ⟨b, off + k1, none⟩ = some (.int .u8 x1) ∧ w'.cell? ⟨b, off + k2, none⟩ = some (.int .u8 x2)) (first | exact ⟨c0', hc, hc'⟩) (first | fail)
    obtain ⟨X, hX, hXb⟩ : ∃ X : Nat, IntKind.i64.wrap (IntKind.i64.wrap (IntKind.i64.wrap (IntKind.i64.wrap (IntKind.i64.wrap x1 * 131) + IntKind.i64.wrap (IntKind.i64.wrap x2 * 1117)) + (p : Int) * 29) + IntKind.i64.wrap (IntKind.i64.wrap ((p : Int) / (zs.length : Int)) * 53)) = (X : Int) ∧ X ≤ 1000000000 := by
      have v1 : IntKind.i64.wrap x1 = x1 := IntWalk.i64_in _ (by omega)
      have v2 : IntKind.i64.wrap x2 = x2 := IntWalk.i64_in _ (by omega)
      have v3 : IntKind.i64.wrap ((p : Int) / (zs.length : Int)) = (dv : Int) := by
        rw [show (p : Int) / (zs.length : Int) = ((p / zs.length : Nat) : Int) from rfl, hdv]; exact IntWalk.i64_in _ (by omega)
      rw [v1, v2, v3, w3, w4, w8, w5, w7, w9]
      exact ⟨(x1 * 131 + x2 * 1117 + (p : Int) * 29 + (dv : Int) * 53).toNat, by omega, by omega⟩
    rw [hX]
    clear w1 w2 w3 w4 w5 w6 w7 w8 w9 q1 hX hm1 hm2 hdv hc hc' c0' c1'
    have hxor : bits .xor .i64 (X : Int) ((X : Int) / 64) = ((X ^^^ (X / 64) : Nat) : Int) := i64_xor_nat X (X / 64) (by omega) (by omega)
    have hNb : X ^^^ (X / 64) < 2 ^ 40 := Nat.xor_lt_two_pow (by omega) (by omega)
    generalize X ^^^ (X / 64) = N at *
    have htm : (N : Int).tmod n = (N : Int) % n := Int.tmod_eq_emod_of_nonneg (by omega)
    go_wp2
    go_ret
    exact ⟨(N : Int) % n, rfl, Int.emod_nonneg _ hne, .inl (Int.emod_lt_of_pos _ (by omega)), HRD.out, only_drew HON.out⟩
end Go.Proofs.Ytggjgjcdpnidnaa
