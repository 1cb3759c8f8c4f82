/- Texts of this claim, one behind the other: words on memory, contracts of small functions. Conditions: each theorem states its own. -/
import Derived.Test.YtnkoijkelcjloaaMrg1
import Derived.Deep.Cut
import Derived.Deep.DeepCutAuto
import Derived.BigRegion
/- Contracts of the draws of keys, meters and songs. No condition but bounds on the bytes. -/
namespace Go.Proofs.Ytnkoijkelcjloaa
open Go.RowKit
set_option linter.unusedSimpArgs false
set_option linter.unusedVariables false
set_option maxRecDepth 100000
/-- voices below a row of their headers; the call's own, nothing of it in another's block -/
structure VG (w : World) (lo : Nat) (A : Option Addr) (c : Nat) (vs : List (List Nt)) (hs : List Hd) : Prop where
  len : hs.length = vs.length
  out : w.ownsRow lo 56 1 (.slice A hs.length c) hs.length (fl encHd hs)
  inn : ∀ k, k < vs.length → (glH hs k).2.1 = (glV vs k).length ∧ w.ownsRow lo 68 6 (.slice (glH hs k).1 (glV vs k).length (glH hs k).2.2) (glV vs k).length (fl encNote (glV vs k))
  da : ∀ k, k < vs.length → ∀ g, obA (glH hs k).1 = some g → obA A ≠ some g
section
variable {w w' : World} {lo c : Nat} {A : Option Addr} {vs : List (List Nt)} {hs : List Hd}
theorem VG.only {g : Nat} (h : VG w lo A c vs hs) (hg : w.grownBy w' (some g)) (hd : g < lo) : VG w' lo A c vs hs := ⟨h.len, own_only2 h.out hg hd, fun k hk => ⟨(h.inn k hk).1, own_only2 (h.inn k hk).2 hg hd⟩, h.da⟩
theorem VG.alloc (h : VG w lo A c vs hs) (o : Obj) : VG (w.alloc o) lo A c vs hs := ⟨h.len, h.out.alloc o, fun k hk => ⟨(h.inn k hk).1, (h.inn k hk).2.alloc o⟩, h.da⟩
theorem VG.drew (h : VG w lo A c vs hs) : VG w.drew lo A c vs hs := ⟨h.len, own_drew h.out, fun k hk => ⟨(h.inn k hk).1, own_drew (h.inn k hk).2⟩, h.da⟩
theorem own_low {s n : Nat} {E : TypeId} {xs : List Value} (h : w.ownsRow lo E s (.slice A n c) n xs) {p : Addr} (hp : p.block < lo) (u : Value) : (w.setCell p u).ownsRow lo E s (.slice A n c) n xs :=
  own_far h (fun e => by have := (own_ob h _ e).1; omega) u
theorem VG.far (h : VG w lo A c vs hs) {p : Addr} (hp : p.block < lo) (u : Value) : VG (w.setCell p u) lo A c vs hs := ⟨h.len, own_low h.out hp u, fun k hk => ⟨(h.inn k hk).1, own_low (h.inn k hk).2 hp u⟩, h.da⟩
theorem VG.mono {lo' : Nat} (h : VG w lo A c vs hs) (hb : lo' ≤ lo) : VG w lo' A c vs hs := ⟨h.len, own_mono h.out hb, fun k hk => ⟨(h.inn k hk).1, own_mono (h.inn k hk).2 hb⟩, h.da⟩
theorem VG.rd (h : VG w lo A c vs hs) : RdVs w w.heap.size A vs := ⟨hs, h.len, RdR.of_own h.out, fun k hk => ⟨(h.inn k hk).1, RdR.of_own (h.inn k hk).2⟩⟩
theorem VG.nil (w : World) (lo : Nat) : VG w lo none 0 [] [] := ⟨rfl, World.ownsRow_nil _ _ _ _, fun k hk => by simp at hk, fun k hk => by simp at hk⟩
theorem glV_app {v : List Nt} {k : Nat} (h : k < vs.length) : glV (vs ++ [v]) k = glV vs k := by simp [glV, List.getElem?_append_left h]
theorem glV_lst {v : List Nt} : glV (vs ++ [v]) vs.length = v := by simp [glV]
theorem VG.app {C : Option Addr} {d g9 c9 lo2 : Nat} {v : List Nt} (h : VG w lo A c vs hs) (hv : w.ownsRow lo2 68 6 (.slice C v.length d) v.length (fl encNote v)) (hlo : lo ≤ lo2) (hne : ∀ g, obA C = some g → obA A ≠ some g)
    (ho : w'.ownsRow lo 56 1 (.slice (some ⟨g9, 0, none⟩) (hs.length + 1) c9) (hs.length + 1) (fl encHd (hs ++ [(C, v.length, d)]))) (hg : Grw w w' A (some ⟨g9, 0, none⟩)) : VG w' lo (some ⟨g9, 0, none⟩) c9 (vs ++ [v]) (hs ++ [(C, v.length, d)]) := by
  have hl := h.len
  refine ⟨by simp [hl], by rw [List.length_append]; exact ho, ?_, ?_⟩
  · intro k hk
    rw [List.length_append, List.length_singleton] at hk
    by_cases h1 : k < vs.length
    · rw [glH_append (by omega), glV_app h1]
      exact ⟨(h.inn k h1).1, Grw.own hg (h.inn k h1).2 (h.da k h1)⟩
    · obtain rfl : k = vs.length := by omega
      rw [glV_lst, ← hl, glH_last]
      exact ⟨rfl, Grw.own hg (own_mono hv hlo) hne⟩
  · intro k hk
    rw [List.length_append, List.length_singleton] at hk
    by_cases h1 : k < vs.length
    · rw [glH_append (by omega)]
      exact Grw.apart hg (fun g e => (own_ob (h.inn k h1).2 g e).2) (h.da k h1)
    · obtain rfl : k = vs.length := by omega
      rw [← hl, glH_last]
      exact Grw.apart hg (fun g e => (own_ob hv g e).2) hne
end
theorem spec_l20Fifths (g q : Nat) (w : World) (hr : Rdr w g q) (hq : q ≤ 900000) :
    Calls Try.prog 39 #[.pointer (some ⟨g, 0, none⟩), .int .i64 0] w fun e w' => ∃ x : Int, e = .returned (.int .i64 x) ∧ (-8 ≤ x ∧ x ≤ 8) ∧ Rdr w' g (q + 3) ∧ w.grownBy w' (some g) := by
  have hlt := hr.lt
  have HR := Lib.hid hr; have HG := Lib.hid (only_refl w (some g)); clear hr
  go_enter Try.func39, Try.ntmps39
  go_wp2_with (first
    | (go_at_call 44; refine (l20_odd0 g _).mono ?_; rintro e w' ⟨rfl, rfl⟩)
    | (go_at_call_of 40 (Value.int IntKind.i64 15); refine (l20_pk g _ 15 _ (by first | with_reducible exact HR.out | with_reducible exact (HR.out).drew | with_reducible exact (HR.out).alloc1 _ | with_reducible exact ((HR.out).drew).alloc1 _ | with_reducible exact ((HR.out).alloc1 _).drew | with_reducible exact ((HR.out).alloc1 _).alloc1 _ | with_reducible exact (((HR.out).drew).alloc1 _).alloc1 _ | with_reducible exact (((HR.out).alloc1 _).alloc1 _).drew | with_reducible exact (((HR.out).alloc1 _).alloc1 _).alloc1 _ | with_reducible exact ((((HR.out).drew).alloc1 _).alloc1 _).alloc1 _ | with_reducible exact ((((HR.out).alloc1 _).alloc1 _).alloc1 _).drew) (by omega) (by omega)).mono ?_; rintro e w2 ⟨k2, rfl, hk2, r_, g_⟩; have z2 := g_.size; (try simp only [World.size_alloc, size_drew] at z2); have hne2 : ¬ w2.heap.size = g := (by omega); have hnf2 : ¬ w2.heap.size + 1 = g := (by omega); have hnh2 : ¬ w2.heap.size + 1 + 1 = g := (by omega); have hq2 := only_cells g_; replace HG := Lib.hid (only_trans (by first | with_reducible exact HG.out | with_reducible exact only_drew (HG.out) | with_reducible exact only_alloc (HG.out) _ | with_reducible exact only_alloc (only_drew (HG.out)) _ | with_reducible exact only_drew (only_alloc (HG.out) _) | with_reducible exact only_alloc (only_alloc (HG.out) _) _ | with_reducible exact only_alloc (only_alloc (only_drew (HG.out)) _) _ | with_reducible exact only_drew (only_alloc (only_alloc (HG.out) _) _) | with_reducible exact only_alloc (only_alloc (only_alloc (HG.out) _) _) _ | with_reducible exact only_alloc (only_alloc (only_alloc (only_drew (HG.out)) _) _) _ | with_reducible exact only_drew (only_alloc (only_alloc (only_alloc (HG.out) _) _) _)) g_); replace HR := Lib.hid r_; clear hq2; have hw2 : IntKind.i64.wrap ((k2 : Int) - 7) = (k2 : Int) - 7 := IntWalk.i64_in _ (by omega); clear r_ g_)
    | (go_at_call_of 40 (Value.int IntKind.i64 5); refine (l20_pk g _ 5 _ (by first | with_reducible exact HR.out | with_reducible exact (HR.out).drew | with_reducible exact (HR.out).alloc1 _ | with_reducible exact ((HR.out).drew).alloc1 _ | with_reducible exact ((HR.out).alloc1 _).drew | with_reducible exact ((HR.out).alloc1 _).alloc1 _ | with_reducible exact (((HR.out).drew).alloc1 _).alloc1 _ | with_reducible exact (((HR.out).alloc1 _).alloc1 _).drew | with_reducible exact (((HR.out).alloc1 _).alloc1 _).alloc1 _ | with_reducible exact ((((HR.out).drew).alloc1 _).alloc1 _).alloc1 _ | with_reducible exact ((((HR.out).alloc1 _).alloc1 _).alloc1 _).drew) (by omega) (by omega)).mono ?_; rintro e w3 ⟨k3, rfl, hk3, r_, g_⟩; have z3 := g_.size; (try simp only [World.size_alloc, size_drew] at z3); have hne3 : ¬ w3.heap.size = g := (by omega); have hnf3 : ¬ w3.heap.size + 1 = g := (by omega); have hnh3 : ¬ w3.heap.size + 1 + 1 = g := (by omega); have hq3 := only_cells g_; replace HG := Lib.hid (only_trans (by first | with_reducible exact HG.out | with_reducible exact only_drew (HG.out) | with_reducible exact only_alloc (HG.out) _ | with_reducible exact only_alloc (only_drew (HG.out)) _ | with_reducible exact only_drew (only_alloc (HG.out) _) | with_reducible exact only_alloc (only_alloc (HG.out) _) _ | with_reducible exact only_alloc (only_alloc (only_drew (HG.out)) _) _ | with_reducible exact only_drew (only_alloc (only_alloc (HG.out) _) _) | with_reducible exact only_alloc (only_alloc (only_alloc (HG.out) _) _) _ | with_reducible exact only_alloc (only_alloc (only_alloc (only_drew (HG.out)) _) _) _ | with_reducible exact only_drew (only_alloc (only_alloc (only_alloc (HG.out) _) _) _)) g_); replace HR := Lib.hid r_; clear hq3; have hw3 : IntKind.i64.wrap ((k3 : Int) - 2) = (k3 : Int) - 2 := IntWalk.i64_in _ (by omega); clear r_ g_)
    | (go_at_call_of 40 (Value.int IntKind.i64 3); refine (l20_pk g _ 3 _ (by first | with_reducible exact HR.out | with_reducible exact (HR.out).drew | with_reducible exact (HR.out).alloc1 _ | with_reducible exact ((HR.out).drew).alloc1 _ | with_reducible exact ((HR.out).alloc1 _).drew | with_reducible exact ((HR.out).alloc1 _).alloc1 _ | with_reducible exact (((HR.out).drew).alloc1 _).alloc1 _ | with_reducible exact (((HR.out).alloc1 _).alloc1 _).drew | with_reducible exact (((HR.out).alloc1 _).alloc1 _).alloc1 _ | with_reducible exact ((((HR.out).drew).alloc1 _).alloc1 _).alloc1 _ | with_reducible exact ((((HR.out).alloc1 _).alloc1 _).alloc1 _).drew) (by omega) (by omega)).mono ?_; rintro e w4 ⟨k4, rfl, hk4, r_, g_⟩; have z4 := g_.size; (try simp only [World.size_alloc, size_drew] at z4); have hne4 : ¬ w4.heap.size = g := (by omega); have hnf4 : ¬ w4.heap.size + 1 = g := (by omega); have hnh4 : ¬ w4.heap.size + 1 + 1 = g := (by omega); have hq4 := only_cells g_; replace HG := Lib.hid (only_trans (by first | with_reducible exact HG.out | with_reducible exact only_drew (HG.out) | with_reducible exact only_alloc (HG.out) _ | with_reducible exact only_alloc (only_drew (HG.out)) _ | with_reducible exact only_drew (only_alloc (HG.out) _) | with_reducible exact only_alloc (only_alloc (HG.out) _) _ | with_reducible exact only_alloc (only_alloc (only_drew (HG.out)) _) _ | with_reducible exact only_drew (only_alloc (only_alloc (HG.out) _) _) | with_reducible exact only_alloc (only_alloc (only_alloc (HG.out) _) _) _ | with_reducible exact only_alloc (only_alloc (only_alloc (only_drew (HG.out)) _) _) _ | with_reducible exact only_drew (only_alloc (only_alloc (only_alloc (HG.out) _) _) _)) g_); replace HR := Lib.hid r_; have hv4 := fun o => hq4 w3.heap.size o (by omega) (by simp); clear hq4; obtain ⟨x, hxx, xlx, xhx⟩ := (show LitIn (-8) (8) (#[Value.int IntKind.i64 ((k2 : Int) - 7), Value.int IntKind.i64 (0), Value.int IntKind.i64 ((k3 : Int) - 2)]) from (fun k hk => by simp at hk; rcases k with _ | _ | _ | _ | _ | _ | _ | _ | k <;> first | exact ⟨_, rfl, by omega, by omega⟩ | exact ⟨_, rfl, by rw [IntWalk.i64_in _ (by omega)]; omega, by rw [IntWalk.i64_in _ (by omega)]; omega⟩ | omega)) k4 (by simp; omega); clear r_ g_))
  go_ret
  exact ⟨x, rfl, ⟨xlx, xhx⟩, HR.out.more (by omega), HG.out⟩
/-- a meter in its box, and the result's cells -/
def StM (w wr : World) (g q pb : Nat) : Prop := ∃ b u : Int, Blk wr pb 24 #[.int .i64 b, .int .i64 u] ∧ Rdr wr g q ∧ w.grownBy wr (some g) ∧ Blk wr w.heap.size 24 #[.int .i64 0, .int .i64 0] ∧ pb < wr.heap.size ∧ w.heap.size < pb
set_option maxHeartbeats 2000000 in
theorem spec_l20Meter (g q : Nat) (n : Int) (w : World) (hr : Rdr w g q) (hq : q ≤ 900000) (hn : 0 ≤ n ∧ n ≤ 1000000) :
    Calls Try.prog 41 #[.pointer (some ⟨g, 0, none⟩), .int .i64 n] w fun e w' => ∃ b u : Int, e = .returned (.agg #[.int .i64 b, .int .i64 u]) ∧ Rdr w' g (q + 5) ∧ w.grownBy w' (some g) := by
  have hlt := hr.lt
  have HR := Lib.hid hr; have HG := Lib.hid (only_refl w (some g)); clear hr
  have HK := Lib.hid (Blk.new w 24 #[.int .i64 0, .int .i64 0])
  go_enter Try.func41, Try.ntmps41
  go_upto_if 17 with (first
    | (go_at_call_of 40 (Value.int IntKind.i64 12); refine (l20_pk g _ 12 _ (by first | with_reducible exact HR.out | with_reducible exact (HR.out).drew | with_reducible exact (HR.out).alloc1 _ | with_reducible exact ((HR.out).drew).alloc1 _ | with_reducible exact ((HR.out).alloc1 _).drew | with_reducible exact ((HR.out).alloc1 _).alloc1 _ | with_reducible exact (((HR.out).drew).alloc1 _).alloc1 _ | with_reducible exact (((HR.out).alloc1 _).alloc1 _).drew | with_reducible exact (((HR.out).alloc1 _).alloc1 _).alloc1 _ | with_reducible exact ((((HR.out).drew).alloc1 _).alloc1 _).alloc1 _ | with_reducible exact ((((HR.out).alloc1 _).alloc1 _).alloc1 _).drew) (by omega) (by omega)).mono ?_; rintro e w2 ⟨k2, rfl, hk2, r_, g_⟩; have z2 := g_.size; (try simp only [World.size_alloc, size_drew] at z2); have hne2 : ¬ w2.heap.size = g := (by omega); have hnf2 : ¬ w2.heap.size + 1 = g := (by omega); have hnh2 : ¬ w2.heap.size + 1 + 1 = g := (by omega); have hq2 := only_cells g_; replace HG := Lib.hid (only_trans (by first | with_reducible exact HG.out | with_reducible exact only_drew (HG.out) | with_reducible exact only_alloc (HG.out) _ | with_reducible exact only_alloc (only_drew (HG.out)) _ | with_reducible exact only_drew (only_alloc (HG.out) _) | with_reducible exact only_alloc (only_alloc (HG.out) _) _ | with_reducible exact only_alloc (only_alloc (only_drew (HG.out)) _) _ | with_reducible exact only_drew (only_alloc (only_alloc (HG.out) _) _) | with_reducible exact only_alloc (only_alloc (only_alloc (HG.out) _) _) _ | with_reducible exact only_alloc (only_alloc (only_alloc (only_drew (HG.out)) _) _) _ | with_reducible exact only_drew (only_alloc (only_alloc (only_alloc (HG.out) _) _) _)) g_); replace HR := Lib.hid r_; replace HK := Lib.hid (HK.out.only g_ (by omega)); clear hq2; have hw2 : IntKind.i64.wrap (1 + (k2 : Int)) = 1 + (k2 : Int) := IntWalk.i64_in _ (by omega); clear r_ g_)
    | (go_at_call_of 40 (Value.int IntKind.i64 5); refine (l20_pk g _ 5 _ (by first | with_reducible exact HR.out | with_reducible exact (HR.out).drew | with_reducible exact (HR.out).alloc1 _ | with_reducible exact ((HR.out).drew).alloc1 _ | with_reducible exact ((HR.out).alloc1 _).drew | with_reducible exact ((HR.out).alloc1 _).alloc1 _ | with_reducible exact (((HR.out).drew).alloc1 _).alloc1 _ | with_reducible exact (((HR.out).alloc1 _).alloc1 _).drew | with_reducible exact (((HR.out).alloc1 _).alloc1 _).alloc1 _ | with_reducible exact ((((HR.out).drew).alloc1 _).alloc1 _).alloc1 _ | with_reducible exact ((((HR.out).alloc1 _).alloc1 _).alloc1 _).drew) (by omega) (by omega)).mono ?_; rintro e w3 ⟨k3, rfl, hk3, r_, g_⟩; have z3 := g_.size; (try simp only [World.size_alloc, size_drew] at z3); have hne3 : ¬ w3.heap.size = g := (by omega); have hnf3 : ¬ w3.heap.size + 1 = g := (by omega); have hnh3 : ¬ w3.heap.size + 1 + 1 = g := (by omega); have hq3 := only_cells g_; replace HG := Lib.hid (only_trans (by first | with_reducible exact HG.out | with_reducible exact only_drew (HG.out) | with_reducible exact only_alloc (HG.out) _ | with_reducible exact only_alloc (only_drew (HG.out)) _ | with_reducible exact only_drew (only_alloc (HG.out) _) | with_reducible exact only_alloc (only_alloc (HG.out) _) _ | with_reducible exact only_alloc (only_alloc (only_drew (HG.out)) _) _ | with_reducible exact only_drew (only_alloc (only_alloc (HG.out) _) _) | with_reducible exact only_alloc (only_alloc (only_alloc (HG.out) _) _) _ | with_reducible exact only_alloc (only_alloc (only_alloc (only_drew (HG.out)) _) _) _ | with_reducible exact only_drew (only_alloc (only_alloc (only_alloc (HG.out) _) _) _)) g_); replace HR := Lib.hid r_; have hv3 := fun o => hq3 w2.heap.size o (by omega) (by simp); clear hq3; replace HK := Lib.hid ((HK.out.alloc _).only g_ (by omega)); obtain ⟨x, hxx, xlx, xhx⟩ := (show LitIn (2) (16) (#[Value.int IntKind.i64 (2), Value.int IntKind.i64 (4), Value.int IntKind.i64 (4), Value.int IntKind.i64 (8), Value.int IntKind.i64 (16)]) from (fun k hk => by simp at hk; rcases k with _ | _ | _ | _ | _ | _ | _ | _ | k <;> first | exact ⟨_, rfl, by omega, by omega⟩ | exact ⟨_, rfl, by rw [IntWalk.i64_in _ (by omega)]; omega, by rw [IntWalk.i64_in _ (by omega)]; omega⟩ | omega)) k3 (by simp; omega); clear r_ g_)
    | (go_at_call 44; refine (l20_oddn g _ n _ (HR.out.alloc1 _) (by omega) hn).mono ?_; rintro e w4 ⟨v4, rfl, r_, g_⟩; have z4 := g_.size; (try simp only [World.size_alloc] at z4); have HP := Lib.hid (lit_keep g_ (by omega)); replace HK := Lib.hid ((HK.out.alloc _).only g_ (by omega)); replace HG := Lib.hid (only_trans (only_alloc HG.out _) g_); replace HR := Lib.hid r_; clear r_ g_))
  have hpb : w.heap.size < w3.heap.size := by omega
  generalize hgpb : w3.heap.size = pb at *
  have hpl : pb < w4.heap.size := HP.out.lt
  go_cut [] (fun wx => StM w wx g (q + 5) pb)
  case first =>
    cases v4
    · go_wp2_with fail
      · go_meet
        case rel => exact ⟨_, _, HP.out, HR.out.more (by omega), HG.out, HK.out, by first | omega | (simp; omega), hpb⟩
    · go_upto_if 20 with (go_at_call_of 40 (Value.int IntKind.i64 2); refine (l20_pk g _ 2 _ (by first | with_reducible exact HR.out | with_reducible exact (HR.out).drew | with_reducible exact (HR.out).alloc1 _ | with_reducible exact ((HR.out).drew).alloc1 _ | with_reducible exact ((HR.out).alloc1 _).drew | with_reducible exact ((HR.out).alloc1 _).alloc1 _ | with_reducible exact (((HR.out).drew).alloc1 _).alloc1 _ | with_reducible exact (((HR.out).alloc1 _).alloc1 _).drew | with_reducible exact (((HR.out).alloc1 _).alloc1 _).alloc1 _ | with_reducible exact ((((HR.out).drew).alloc1 _).alloc1 _).alloc1 _ | with_reducible exact ((((HR.out).alloc1 _).alloc1 _).alloc1 _).drew) (by omega) (by omega)).mono ?_; rintro e w5 ⟨k5, rfl, hk5, r_, g_⟩; have z5 := g_.size; (try simp only [World.size_alloc, size_drew] at z5); have hne5 : ¬ w5.heap.size = g := (by omega); have hnf5 : ¬ w5.heap.size + 1 = g := (by omega); have hnh5 : ¬ w5.heap.size + 1 + 1 = g := (by omega); have hq5 := only_cells g_; replace HG := Lib.hid (only_trans (by first | with_reducible exact HG.out | with_reducible exact only_drew (HG.out) | with_reducible exact only_alloc (HG.out) _ | with_reducible exact only_alloc (only_drew (HG.out)) _ | with_reducible exact only_drew (only_alloc (HG.out) _) | with_reducible exact only_alloc (only_alloc (HG.out) _) _ | with_reducible exact only_alloc (only_alloc (only_drew (HG.out)) _) _ | with_reducible exact only_drew (only_alloc (only_alloc (HG.out) _) _) | with_reducible exact only_alloc (only_alloc (only_alloc (HG.out) _) _) _ | with_reducible exact only_alloc (only_alloc (only_alloc (only_drew (HG.out)) _) _) _ | with_reducible exact only_drew (only_alloc (only_alloc (only_alloc (HG.out) _) _) _)) g_); replace HR := Lib.hid r_; clear hq5; replace HP := Lib.hid (HP.out.only g_ (by omega)); replace HK := Lib.hid (HK.out.only g_ (by omega)); clear r_ g_)
      have hpl5 : pb < w5.heap.size := HP.out.lt
      have hk5c : ((k5 : Int) == 0) = true ∨ ((k5 : Int) == 0) = false := by cases ((k5 : Int) == 0) <;> simp
      rcases hk5c with g0 | g0
      · go_wp2_with (go_at_call_of 40 (Value.int IntKind.i64 2); refine (l20_pk g _ 2 _ (by first | with_reducible exact HR.out | with_reducible exact (HR.out).drew | with_reducible exact (HR.out).alloc1 _ | with_reducible exact ((HR.out).drew).alloc1 _ | with_reducible exact ((HR.out).alloc1 _).drew | with_reducible exact ((HR.out).alloc1 _).alloc1 _ | with_reducible exact (((HR.out).drew).alloc1 _).alloc1 _ | with_reducible exact (((HR.out).alloc1 _).alloc1 _).drew | with_reducible exact (((HR.out).alloc1 _).alloc1 _).alloc1 _ | with_reducible exact ((((HR.out).drew).alloc1 _).alloc1 _).alloc1 _ | with_reducible exact ((((HR.out).alloc1 _).alloc1 _).alloc1 _).drew) (by omega) (by omega)).mono ?_; rintro e w6 ⟨k6, rfl, hk6, r_, g_⟩; have z6 := g_.size; (try simp only [World.size_alloc, size_drew] at z6); have hne6 : ¬ w6.heap.size = g := (by omega); have hnf6 : ¬ w6.heap.size + 1 = g := (by omega); have hnh6 : ¬ w6.heap.size + 1 + 1 = g := (by omega); have hq6 := only_cells g_; replace HG := Lib.hid (only_trans (by first | with_reducible exact HG.out | with_reducible exact only_drew (HG.out) | with_reducible exact only_alloc (HG.out) _ | with_reducible exact only_alloc (only_drew (HG.out)) _ | with_reducible exact only_drew (only_alloc (HG.out) _) | with_reducible exact only_alloc (only_alloc (HG.out) _) _ | with_reducible exact only_alloc (only_alloc (only_drew (HG.out)) _) _ | with_reducible exact only_drew (only_alloc (only_alloc (HG.out) _) _) | with_reducible exact only_alloc (only_alloc (only_alloc (HG.out) _) _) _ | with_reducible exact only_alloc (only_alloc (only_alloc (only_drew (HG.out)) _) _) _ | with_reducible exact only_drew (only_alloc (only_alloc (only_alloc (HG.out) _) _) _)) g_); replace HR := Lib.hid r_; have hv6 := fun o => hq6 w5.heap.size o (by omega) (by simp); clear hq6; replace HP := Lib.hid ((HP.out.alloc _).only g_ (by omega)); replace HK := Lib.hid ((HK.out.alloc _).only g_ (by omega)); have e6 := HP.out.cell 0; have f6 := HP.out.frozen 0; obtain ⟨x6, hxx6, xlx6, xhx6⟩ := (show LitIn (0) (13) (#[Value.int IntKind.i64 (0), Value.int IntKind.i64 (13)]) from (fun k hk => by simp at hk; rcases k with _ | _ | _ | _ | _ | _ | _ | _ | k <;> first | exact ⟨_, rfl, by omega, by omega⟩ | exact ⟨_, rfl, by rw [IntWalk.i64_in _ (by omega)]; omega, by rw [IntWalk.i64_in _ (by omega)]; omega⟩ | omega)) k6 (by simp; omega); clear r_ g_)
        · go_meet
          case rel => exact ⟨_, _, HP.out.set_ 0 _, (HR.out.setFar (by simp; omega) _).more (by omega), only_setCell HG.out (.inr (by simp; omega)) _, HK.out.far (by simp; omega) _, by first | omega | (simp; omega), hpb⟩
      · go_wp2_with (go_at_call_of 40 (Value.int IntKind.i64 3); refine (l20_pk g _ 3 _ (by first | with_reducible exact HR.out | with_reducible exact (HR.out).drew | with_reducible exact (HR.out).alloc1 _ | with_reducible exact ((HR.out).drew).alloc1 _ | with_reducible exact ((HR.out).alloc1 _).drew | with_reducible exact ((HR.out).alloc1 _).alloc1 _ | with_reducible exact (((HR.out).drew).alloc1 _).alloc1 _ | with_reducible exact (((HR.out).alloc1 _).alloc1 _).drew | with_reducible exact (((HR.out).alloc1 _).alloc1 _).alloc1 _ | with_reducible exact ((((HR.out).drew).alloc1 _).alloc1 _).alloc1 _ | with_reducible exact ((((HR.out).alloc1 _).alloc1 _).alloc1 _).drew) (by omega) (by omega)).mono ?_; rintro e w6 ⟨k6, rfl, hk6, r_, g_⟩; have z6 := g_.size; (try simp only [World.size_alloc, size_drew] at z6); have hne6 : ¬ w6.heap.size = g := (by omega); have hnf6 : ¬ w6.heap.size + 1 = g := (by omega); have hnh6 : ¬ w6.heap.size + 1 + 1 = g := (by omega); have hq6 := only_cells g_; replace HG := Lib.hid (only_trans (by first | with_reducible exact HG.out | with_reducible exact only_drew (HG.out) | with_reducible exact only_alloc (HG.out) _ | with_reducible exact only_alloc (only_drew (HG.out)) _ | with_reducible exact only_drew (only_alloc (HG.out) _) | with_reducible exact only_alloc (only_alloc (HG.out) _) _ | with_reducible exact only_alloc (only_alloc (only_drew (HG.out)) _) _ | with_reducible exact only_drew (only_alloc (only_alloc (HG.out) _) _) | with_reducible exact only_alloc (only_alloc (only_alloc (HG.out) _) _) _ | with_reducible exact only_alloc (only_alloc (only_alloc (only_drew (HG.out)) _) _) _ | with_reducible exact only_drew (only_alloc (only_alloc (only_alloc (HG.out) _) _) _)) g_); replace HR := Lib.hid r_; have hv6 := fun o => hq6 w5.heap.size o (by omega) (by simp); clear hq6; replace HP := Lib.hid ((HP.out.alloc _).only g_ (by omega)); replace HK := Lib.hid ((HK.out.alloc _).only g_ (by omega)); have e6 := HP.out.cell 1; have f6 := HP.out.frozen 1; obtain ⟨x6, hxx6, xlx6, xhx6⟩ := (show LitIn (1) (32) (#[Value.int IntKind.i64 (1), Value.int IntKind.i64 (3), Value.int IntKind.i64 (32)]) from (fun k hk => by simp at hk; rcases k with _ | _ | _ | _ | _ | _ | _ | _ | k <;> first | exact ⟨_, rfl, by omega, by omega⟩ | exact ⟨_, rfl, by rw [IntWalk.i64_in _ (by omega)]; omega, by rw [IntWalk.i64_in _ (by omega)]; omega⟩ | omega)) k6 (by simp; omega); clear r_ g_)
        · go_meet
          case rel => exact ⟨_, _, HP.out.set_ 1 _, (HR.out.setFar (by simp; omega) _).more (by omega), only_setCell HG.out (.inr (by simp; omega)) _, HK.out.far (by simp; omega) _, by first | omega | (simp; omega), hpb⟩
  case rest =>
    obtain ⟨b, u, hb_, hr_, hg_, hk_, hl_, -⟩ := hcut
    clear HP HR HG HK
    have HP := Lib.hid hb_; have HR := Lib.hid hr_; have HG := Lib.hid hg_; have HK := Lib.hid hk_
    have zc := hg_.size
    clear hb_ hr_ hg_ hk_
    have c0 := HP.out.cell 0; have d0 := HK.out.cell 0; have f0 := HK.out.frozen 0
    have c1 := HP.out.cell 1; have d1 := HK.out.cell 1; have f1 := HK.out.frozen 1
    go_wp2_with fail
    have HK3 := Lib.hid ((HK.out.set_ 0 (.int .i64 b)).set_ 1 (.int .i64 u))
    have HR3 := Lib.hid ((HR.out.setFar (p := ⟨w.heap.size, 0, none⟩) (by simp; omega) (.int .i64 b)).setFar (p := ⟨w.heap.size, 1, none⟩) (by simp; omega) (.int .i64 u))
    have HG3 := Lib.hid (only_setCell (only_setCell HG.out (p := ⟨w.heap.size, 0, none⟩) (.inr (by simp)) (.int .i64 b)) (p := ⟨w.heap.size, 1, none⟩) (.inr (by simp)) (.int .i64 u))
    generalize ((wc.setCell ⟨w.heap.size, 0, none⟩ (.int .i64 b)).setCell ⟨w.heap.size, 1, none⟩ (.int .i64 u)) = W at *
    have r0 : W.cell? ⟨w.heap.size, 0, none⟩ = some (.int .i64 b) := HK3.out.cell 0
    have r1 : W.cell? ⟨w.heap.size, 1, none⟩ = some (.int .i64 u) := HK3.out.cell 1
    refine bodyPost_ret (v := .agg #[.int .i64 b, .int .i64 u]) (by simp [results, Try.results41, go_sem, r0, r1]) rfl ⟨b, u, rfl, HR3.out, HG3.out⟩
def RetSong (w : World) (g q : Nat) (e : Ending) (w' : World) : Prop :=
  ∃ (f : Int) (m : Bool) (b u : Int) (C : Option Addr) (d : Nat) (ts : List (Int × Int)) (A : Option Addr) (c : Nat) (vs : List (List Nt)) (hs : List Hd), e = .returned (.agg #[.int .i64 f, .bool m, .int .i64 b, .int .i64 u, .slice C ts.length d, .slice A vs.length c]) ∧ ts.length ≤ 4 ∧ vs.length ≤ 4 ∧ (∀ v ∈ vs, v.length ≤ 61) ∧ w'.ownsRow w.heap.size 60 2 (.slice C ts.length d) ts.length (fl encTempo ts) ∧ VG w' w.heap.size A c vs hs ∧ Rdr w' g q ∧ w.grownBy w' (some g)
/-- a song in its box, and the result's cells -/
def StS (w wr : World) (g q sb : Nat) : Prop := ∃ (f : Int) (m : Bool) (b u : Int) (C : Option Addr) (d : Nat) (ts : List (Int × Int)) (A : Option Addr) (c : Nat) (vs : List (List Nt)) (hs : List Hd), ts.length ≤ 4 ∧ vs.length ≤ 4 ∧ (∀ v ∈ vs, v.length ≤ 61) ∧ wr.ownsRow (w.heap.size + 1) 60 2 (.slice C ts.length d) ts.length (fl encTempo ts) ∧ VG wr (sb + 1) A c vs hs ∧ Blk wr sb 28 #[.int .i64 f, .bool m, .int .i64 b, .int .i64 u, .slice C ts.length d, .slice A hs.length c] ∧ Rdr wr g q ∧ w.grownBy wr (some g) ∧ Blk wr w.heap.size 28 #[.int .i64 0, .bool false, .int .i64 0, .int .i64 0, .slice none 0 0, .slice none 0 0] ∧ sb < wr.heap.size ∧ w.heap.size < sb
set_option maxHeartbeats 8000000 in
theorem spec_l20Song (g q : Nat) (n : Int) (w : World) (hr : Rdr w g q) (hq : q ≤ 700000) (hn : 0 ≤ n ∧ n ≤ 1000000) :
    Calls Try.prog 16 #[.pointer (some ⟨g, 0, none⟩), .int .i64 n] w (RetSong w g (q + 710)) := by
  obtain ⟨i0, hi, hz0, hz1, hz2⟩ := info_parts info_hdN
  have HI := Lib.hid hi; have H0 := Lib.hid hz0; have H1 := Lib.hid hz1; have H2 := Lib.hid hz2
  clear hi hz0 hz1 hz2
  have hlt := hr.lt
  have HR := Lib.hid hr; have HG := Lib.hid (only_refl w (some g)); clear hr
  have HK := Lib.hid (Blk.new w 28 #[.int .i64 0, .bool false, .int .i64 0, .int .i64 0, .slice none 0 0, .slice none 0 0])
  go_enter Try.func16, Try.ntmps16
  go_upto_region 2 with (first
    | (go_at_call 39; refine (spec_l20Fifths g q _ (HR.out.alloc1 _) (by omega)).mono ?_; rintro e w2 ⟨f, rfl, hf, r_, g_⟩; have z2 := g_.size; (try simp only [World.size_alloc] at z2); replace HK := Lib.hid (HK.out.only g_ (by omega)); replace HG := Lib.hid (only_trans (only_alloc HG.out _) g_); replace HR := Lib.hid r_; clear r_ g_)
    | (go_at_call_of 40 (Value.int IntKind.i64 2); refine (l20_pk g _ 2 _ (by first | with_reducible exact HR.out | with_reducible exact (HR.out).drew | with_reducible exact (HR.out).alloc1 _ | with_reducible exact ((HR.out).drew).alloc1 _ | with_reducible exact ((HR.out).alloc1 _).drew | with_reducible exact ((HR.out).alloc1 _).alloc1 _ | with_reducible exact (((HR.out).drew).alloc1 _).alloc1 _ | with_reducible exact (((HR.out).alloc1 _).alloc1 _).drew | with_reducible exact (((HR.out).alloc1 _).alloc1 _).alloc1 _ | with_reducible exact ((((HR.out).drew).alloc1 _).alloc1 _).alloc1 _ | with_reducible exact ((((HR.out).alloc1 _).alloc1 _).alloc1 _).drew) (by omega) (by omega)).mono ?_; rintro e w3 ⟨k3, rfl, hk3, r_, g_⟩; have z3 := g_.size; (try simp only [World.size_alloc, size_drew] at z3); have hne3 : ¬ w3.heap.size = g := (by omega); have hnf3 : ¬ w3.heap.size + 1 = g := (by omega); have hnh3 : ¬ w3.heap.size + 1 + 1 = g := (by omega); have hq3 := only_cells g_; replace HG := Lib.hid (only_trans (by first | with_reducible exact HG.out | with_reducible exact only_drew (HG.out) | with_reducible exact only_alloc (HG.out) _ | with_reducible exact only_alloc (only_drew (HG.out)) _ | with_reducible exact only_drew (only_alloc (HG.out) _) | with_reducible exact only_alloc (only_alloc (HG.out) _) _ | with_reducible exact only_alloc (only_alloc (only_drew (HG.out)) _) _ | with_reducible exact only_drew (only_alloc (only_alloc (HG.out) _) _) | with_reducible exact only_alloc (only_alloc (only_alloc (HG.out) _) _) _ | with_reducible exact only_alloc (only_alloc (only_alloc (only_drew (HG.out)) _) _) _ | with_reducible exact only_drew (only_alloc (only_alloc (only_alloc (HG.out) _) _) _)) g_); replace HR := Lib.hid r_; clear hq3; replace HK := Lib.hid (HK.out.only g_ (by omega)); clear r_ g_)
    | (go_at_call 41; refine (spec_l20Meter g _ 0 _ HR.out (by omega) (by omega)).mono ?_; rintro e w4 ⟨b, u, rfl, r_, g_⟩; have z4 := g_.size; replace HK := Lib.hid (HK.out.only g_ (by omega)); replace HG := Lib.hid (only_trans HG.out g_); replace HR := Lib.hid r_; clear r_ g_)
    | (go_at_call 42; refine (spec_l20Tempos g _ 0 _ HR.out (by omega) (by omega)).mono ?_; rintro e w5 ⟨C, d, ts, rfl, hts, o_, r_, g_⟩; have z5 := g_.size; have HTE := Lib.hid (own_mono o_ (show w.heap.size + 1 ≤ w4.heap.size by omega)); replace HK := Lib.hid (HK.out.only g_ (by omega)); replace HG := Lib.hid (only_trans HG.out g_); replace HR := Lib.hid r_; clear r_ g_ o_))
  generalize ((k3 : Int) == 0) = m at *
  have HCS : Hid (∀ k, obA C = some k → k < w5.heap.size) := Lib.hid (fun k e9 => (own_ob HTE.out k e9).2)
  have HP := Lib.hid (Blk.new w5 28 #[.int .i64 f, .bool m, .int .i64 b, .int .i64 u, .slice C ts.length d, .slice none 0 0])
  replace HK := Lib.hid (HK.out.alloc (.cells #[.int .i64 f, .bool m, .int .i64 b, .int .i64 u, .slice C ts.length d, .slice none 0 0] 28))
  replace HTE := Lib.hid (HTE.out.alloc (.cells #[.int .i64 f, .bool m, .int .i64 b, .int .i64 u, .slice C ts.length d, .slice none 0 0] 28))
  replace HR := Lib.hid (HR.out.alloc1 (.cells #[.int .i64 f, .bool m, .int .i64 b, .int .i64 u, .slice C ts.length d, .slice none 0 0] 28))
  replace HG := Lib.hid (only_alloc HG.out (.cells #[.int .i64 f, .bool m, .int .i64 b, .int .i64 u, .slice C ts.length d, .slice none 0 0] 28))
  have zx : w5.heap.size + 1 ≤ (w5.alloc (.cells #[.int .i64 f, .bool m, .int .i64 b, .int .i64 u, .slice C ts.length d, .slice none 0 0] 28)).heap.size := by simp
  generalize w5.alloc (.cells #[.int .i64 f, .bool m, .int .i64 b, .int .i64 u, .slice C ts.length d, .slice none 0 0] 28) = w6 at *
  have hsb : w.heap.size < w5.heap.size := by omega
  generalize w5.heap.size = sb at *
  go_wp2_with (go_at_call_of 40 (Value.int IntKind.i64 4); refine (l20_pk g _ 4 _ (by first | with_reducible exact HR.out | with_reducible exact (HR.out).drew | with_reducible exact (HR.out).alloc1 _ | with_reducible exact ((HR.out).drew).alloc1 _ | with_reducible exact ((HR.out).alloc1 _).drew | with_reducible exact ((HR.out).alloc1 _).alloc1 _ | with_reducible exact (((HR.out).drew).alloc1 _).alloc1 _ | with_reducible exact (((HR.out).alloc1 _).alloc1 _).drew | with_reducible exact (((HR.out).alloc1 _).alloc1 _).alloc1 _ | with_reducible exact ((((HR.out).drew).alloc1 _).alloc1 _).alloc1 _ | with_reducible exact ((((HR.out).alloc1 _).alloc1 _).alloc1 _).drew) (by omega) (by omega)).mono ?_; rintro e w7 ⟨k7, rfl, hk7, r_, g_⟩; have z7 := g_.size; (try simp only [World.size_alloc, size_drew] at z7); have hne7 : ¬ w7.heap.size = g := (by omega); have hnf7 : ¬ w7.heap.size + 1 = g := (by omega); have hnh7 : ¬ w7.heap.size + 1 + 1 = g := (by omega); have hq7 := only_cells g_; replace HG := Lib.hid (only_trans (by first | with_reducible exact HG.out | with_reducible exact only_drew (HG.out) | with_reducible exact only_alloc (HG.out) _ | with_reducible exact only_alloc (only_drew (HG.out)) _ | with_reducible exact only_drew (only_alloc (HG.out) _) | with_reducible exact only_alloc (only_alloc (HG.out) _) _ | with_reducible exact only_alloc (only_alloc (only_drew (HG.out)) _) _ | with_reducible exact only_drew (only_alloc (only_alloc (HG.out) _) _) | with_reducible exact only_alloc (only_alloc (only_alloc (HG.out) _) _) _ | with_reducible exact only_alloc (only_alloc (only_alloc (only_drew (HG.out)) _) _) _ | with_reducible exact only_drew (only_alloc (only_alloc (only_alloc (HG.out) _) _) _)) g_); replace HR := Lib.hid r_; clear hq7; replace HP := Lib.hid (HP.out.only g_ (by omega)); replace HK := Lib.hid (HK.out.only g_ (by omega)); replace HTE := Lib.hid (own_only2 HTE.out g_ (by omega)); clear r_ g_)
  go_loopw [6] (fun i wr => ∃ (j : Nat) (A : Option Addr) (c : Nat) (vs : List (List Nt)) (hs : List Hd), j ≤ 3 ∧ vs.length + j ≤ 3 ∧ i = .int .i64 j ∧ (∀ v ∈ vs, v.length ≤ 61) ∧ wr.ownsRow (w.heap.size + 1) 60 2 (.slice C ts.length d) ts.length (fl encTempo ts) ∧ VG wr (sb + 1) A c vs hs ∧ Blk wr sb 28 #[.int .i64 f, .bool m, .int .i64 b, .int .i64 u, .slice C ts.length d, .slice A hs.length c] ∧ Rdr wr g (q + 535 - 170 * j) ∧ w.grownBy wr (some g) ∧ Blk wr w.heap.size 28 #[.int .i64 0, .bool false, .int .i64 0, .int .i64 0, .slice none 0 0, .slice none 0 0]) (fun i _ => (intOf i).toNat)
  case atStart => exact ⟨k7, none, 0, [], [], by omega, by simp; omega, rfl, by simp, HTE.out, VG.nil _ _, HP.out, HR.out.more (by omega), HG.out, HK.out⟩
  case round =>
    clear HP HR HG HK HTE
    obtain ⟨j, A, c, vs, hs, hj, hvj, rfl, h61, ht_, hv_, hb_, hr_, hg_, hk_⟩ := hrel
    have hsl := hb_.lt
    have hhs : hs.length ≤ 4 := by have := hv_.len; omega
    have HV := Lib.hid hv_; have HTE := Lib.hid ht_; have HP := Lib.hid hb_; have HR := Lib.hid hr_; have HG := Lib.hid hg_; have HK := Lib.hid hk_
    have H61 := Lib.hid h61
    have zc := hg_.size
    clear hb_ hr_ hg_ hk_ ht_ hv_ h61
    by_cases h0 : 0 < j
    · obtain ⟨j, rfl⟩ : ∃ i, j = i + 1 := ⟨j - 1, by omega⟩
      go_upto_region 5 with fail
      have HOV := Lib.hid (own_ob HV.out.out)
      have HNX : Hid (obA A ≠ some sb) := Lib.hid (fun e9 => by have := HOV.out _ e9; omega)
      have e5 := HP.out.cell 5
      go_region_law (first
          | (refine step_app_rec (enc := encHd) rfl _ _ 26 rfl (sb + 1) 56 i0 (.slice none 0 0) 24 Try.underlying26 HI.out H0.out H1.out H2.out rfl (by decide) (by decide) w8 A c hs rfl V8.out.out (by omega) (by omega) (C8, v8.length, d8) [.slice C8 v8.length d8] rfl rfl (by simp [Value.oneCell']) rfl ?_; intro g9 c9 w9 o9 gr9; have X9 := Lib.hid (gr9.blk X1.out HNX.out); have f9 := X9.out.frozen 5; have x9 := X9.out.cell 5)
          | (go_simp; go_at_call 43; refine (spec_l20Voice g _ 0 _ HR.out.drew (by omega) (by omega)).mono ?_; rintro e w8 ⟨C8, d8, v8, rfl, hv8, o_, r_, g_⟩; have z8 : wr.heap.size ≤ w8.heap.size := g_.size; have X1 := Lib.hid (HP.out.drew.only g_ (by omega)); have K8 := Lib.hid (HK.out.drew.only g_ (by omega)); have T8 := Lib.hid (own_only2 (own_drew HTE.out) g_ (by omega)); have V8 := Lib.hid (HV.out.drew.only g_ (by omega)); have G8 := Lib.hid (only_trans (only_drew HG.out) g_); have O8 : Hid (w8.ownsRow wr.heap.size 68 6 (.slice C8 v8.length d8) v8.length (fl encNote v8)) := Lib.hid o_; have R8 := Lib.hid r_; have x5 := X1.out.cell 5; have y8 : ∀ ob : Obj, (w8.alloc ob).cell? ⟨sb, 5, none⟩ = some (.slice A hs.length c) := (fun ob => (X1.out.alloc ob).cell 5); clear r_ g_ o_))
      all_goals
        have z9 := gr9.1.size
        have V9 := Lib.hid (V8.out.app O8.out (by omega) (fun g_ e9 e10 => by have h1 := (own_ob O8.out _ e9).1; have h2 := HOV.out _ e10; omega) o9 gr9)
        have HC9 : ∀ k_, obA A = some k_ → w.heap.size ≤ k_ := fun k_ e9 => by have := HOV.out _ e9; omega
        have R9 := Lib.hid (rdr_grw R8.out gr9 (fun k_ e9 => by have := HOV.out _ e9; omega))
        have G9 := Lib.hid (only_grw G8.out gr9 HC9)
        have K9 := Lib.hid (gr9.blk K8.out (fun e9 => by have := HOV.out _ e9; omega))
        have H69 : Hid (∀ v ∈ vs ++ [v8], v.length ≤ 61) := Lib.hid (fun v hv => by rcases List.mem_append.1 hv with h1 | h1; exact H61.out v h1; rw [List.mem_singleton.1 h1]; exact hv8)
        have HL9 : Hid ((hs ++ [(C8, v8.length, d8)]).length = hs.length + 1) := Lib.hid (by simp)
        have T9 := Lib.hid (gr9.own T8.out (fun g_ e9 e10 => by have h1 := HCS.out _ e9; have h2 := HOV.out _ e10; omega))
        clear o9 gr9
        go_wp2_with fail
        go_roundw
        case rel => exact ⟨j, _, _, vs ++ [v8], _, by omega, by rw [List.length_append]; simp; omega, by go_num, H69.out, own_far T9.out (fun e9 => by have h1 := HCS.out _ e9; simp at h1) _, V9.out.far (by simp) _, by rw [HL9.out]; exact X9.out.set_ 5 _, (R9.out.setFar (by simp; omega) _).more (by omega), only_setCell G9.out (.inr (by simp; omega)) _, K9.out.far (by simp; omega) _⟩
        case measure => simp [intOf]
    · obtain rfl : j = 0 := by omega
      go_upto_if 32 with (go_at_call 44; refine (l20_oddn g _ n _ HR.out (by omega) hn).mono ?_; rintro e w10 ⟨v10, rfl, r_, g_⟩; have z10 := g_.size; (try simp only [World.size_alloc] at z10); replace HP := Lib.hid (HP.out.only g_ (by omega)); replace HK := Lib.hid (HK.out.only g_ (by omega)); replace HTE := Lib.hid (own_only2 HTE.out g_ (by omega)); replace HV := Lib.hid (HV.out.only g_ (by omega)); replace HG := Lib.hid (only_trans HG.out g_); replace HR := Lib.hid r_; clear r_ g_)
      have hsl10 := HP.out.lt
      go_cut [] (fun wx => StS w wx g (q + 710) sb)
      case first =>
        cases v10
        · go_wp2_with fail
          · go_meet
            case rel => exact ⟨f, m, b, u, C, d, ts, A, c, vs, hs, hts, by omega, H61.out, HTE.out, HV.out, HP.out, HR.out.more (by omega), HG.out, HK.out, hsl10, hsb⟩
        · go_upto_region 9 with (go_at_call_of 40 (Value.int IntKind.i64 4); refine (l20_pk g _ 4 _ (by first | with_reducible exact HR.out | with_reducible exact (HR.out).drew | with_reducible exact (HR.out).alloc1 _ | with_reducible exact ((HR.out).drew).alloc1 _ | with_reducible exact ((HR.out).alloc1 _).drew | with_reducible exact ((HR.out).alloc1 _).alloc1 _ | with_reducible exact (((HR.out).drew).alloc1 _).alloc1 _ | with_reducible exact (((HR.out).alloc1 _).alloc1 _).drew | with_reducible exact (((HR.out).alloc1 _).alloc1 _).alloc1 _ | with_reducible exact ((((HR.out).drew).alloc1 _).alloc1 _).alloc1 _ | with_reducible exact ((((HR.out).alloc1 _).alloc1 _).alloc1 _).drew) (by omega) (by omega)).mono ?_; rintro e w11 ⟨k11, rfl, hk11, r_, g_⟩; have z11 := g_.size; (try simp only [World.size_alloc, size_drew] at z11); have hne11 : ¬ w11.heap.size = g := (by omega); have hnf11 : ¬ w11.heap.size + 1 = g := (by omega); have hnh11 : ¬ w11.heap.size + 1 + 1 = g := (by omega); have hq11 := only_cells g_; replace HG := Lib.hid (only_trans (by first | with_reducible exact HG.out | with_reducible exact only_drew (HG.out) | with_reducible exact only_alloc (HG.out) _ | with_reducible exact only_alloc (only_drew (HG.out)) _ | with_reducible exact only_drew (only_alloc (HG.out) _) | with_reducible exact only_alloc (only_alloc (HG.out) _) _ | with_reducible exact only_alloc (only_alloc (only_drew (HG.out)) _) _ | with_reducible exact only_drew (only_alloc (only_alloc (HG.out) _) _) | with_reducible exact only_alloc (only_alloc (only_alloc (HG.out) _) _) _ | with_reducible exact only_alloc (only_alloc (only_alloc (only_drew (HG.out)) _) _) _ | with_reducible exact only_drew (only_alloc (only_alloc (only_alloc (HG.out) _) _) _)) g_); replace HR := Lib.hid r_; clear hq11; replace HP := Lib.hid (HP.out.only g_ (by omega)); replace HK := Lib.hid (HK.out.only g_ (by omega)); replace HTE := Lib.hid (own_only2 HTE.out g_ (by omega)); replace HV := Lib.hid (HV.out.only g_ (by omega)); clear r_ g_)
          have hsl11 := HP.out.lt
          have hkc : ((k11 : Int) == 0) = true ∨ (((k11 : Int) == 0) = false ∧ ((k11 : Int) == 1) = true) ∨ (((k11 : Int) == 0) = false ∧ ((k11 : Int) == 1) = false ∧ ((k11 : Int) == 2) = true) ∨ (((k11 : Int) == 0) = false ∧ ((k11 : Int) == 1) = false ∧ ((k11 : Int) == 2) = false) := by simp; omega
          rcases hkc with g0 | ⟨g0, g1⟩ | ⟨g0, g1, g2⟩ | ⟨g0, g1, g2⟩
          · have e0 := HP.out.cell 0; have f0 := HP.out.frozen 0
            go_wp2_with fail
            · go_meet
              case rel => exact ⟨8, m, b, u, C, d, ts, A, c, vs, hs, hts, by omega, H61.out, own_far HTE.out (fun e9 => by have h1 := HCS.out _ e9; simp at h1) _, HV.out.far (by simp) _, HP.out.set_ 0 _, (HR.out.setFar (by simp; omega) _).more (by omega), only_setCell HG.out (.inr (by simp; omega)) _, HK.out.far (by simp; omega) _, by simp; omega, hsb⟩
          · go_wp2_with (go_at_call 41; refine (spec_l20Meter g _ 1 _ HR.out (by omega) (by omega)).mono ?_; rintro e w12 ⟨b2, u2, rfl, r_, g_⟩; have z12 := g_.size; replace HK := Lib.hid (HK.out.only g_ (by omega)); replace HP := Lib.hid (HP.out.only g_ (by omega)); replace HTE := Lib.hid (own_only2 HTE.out g_ (by omega)); replace HV := Lib.hid (HV.out.only g_ (by omega)); replace HG := Lib.hid (only_trans HG.out g_); replace HR := Lib.hid r_; have e2 := HP.out.cell 2; have f2 := HP.out.frozen 2; have e3 := HP.out.cell 3; have f3 := HP.out.frozen 3; clear r_ g_)
            · go_meet
              case rel => exact ⟨f, m, b2, u2, C, d, ts, A, c, vs, hs, hts, by omega, H61.out, own_far (own_far HTE.out (fun e9 => by have h1 := HCS.out _ e9; simp at h1) _) (fun e9 => by have h1 := HCS.out _ e9; simp at h1) _, (HV.out.far (by simp) _).far (by simp) _, (HP.out.set_ 2 _).set_ 3 _, ((HR.out.setFar (by simp; omega) _).setFar (by simp; omega) _).more (by omega), only_setCell (only_setCell HG.out (.inr (by simp; omega)) _) (.inr (by simp; omega)) _, (HK.out.far (by simp; omega) _).far (by simp; omega) _, by simp; omega, hsb⟩
          · go_wp2_with (go_at_call 42; refine (spec_l20Tempos g _ 1 _ HR.out (by omega) (by omega)).mono ?_; rintro e w12 ⟨C2, d2, ts2, rfl, hts2, o_, r_, g_⟩; have z12 := g_.size; have HT2 := Lib.hid o_; replace HK := Lib.hid (HK.out.only g_ (by omega)); replace HP := Lib.hid (HP.out.only g_ (by omega)); replace HV := Lib.hid (HV.out.only g_ (by omega)); replace HG := Lib.hid (only_trans HG.out g_); replace HR := Lib.hid r_; have e4 := HP.out.cell 4; have f4 := HP.out.frozen 4; clear r_ g_ o_)
            · go_meet
              case rel => exact ⟨f, m, b, u, C2, d2, ts2, A, c, vs, hs, hts2, by omega, H61.out, own_mono (own_low HT2.out (by simp; omega) _) (by omega), HV.out.far (by simp) _, HP.out.set_ 4 _, (HR.out.setFar (by simp; omega) _).more (by omega), only_setCell HG.out (.inr (by simp; omega)) _, HK.out.far (by simp; omega) _, by simp; omega, hsb⟩
          · go_upto_region 8 with fail
            have HOV := Lib.hid (own_ob HV.out.out)
            have HNX : Hid (obA A ≠ some sb) := Lib.hid (fun e9 => by have := HOV.out _ e9; omega)
            have e5 := HP.out.cell 5
            go_region_law (first
                | (refine step_app_rec (enc := encHd) rfl _ _ 26 rfl (sb + 1) 56 i0 (.slice none 0 0) 24 Try.underlying26 HI.out H0.out H1.out H2.out rfl (by decide) (by decide) w8 A c hs rfl V8.out.out (by omega) (by omega) (C8, v8.length, d8) [.slice C8 v8.length d8] rfl rfl (by simp [Value.oneCell']) rfl ?_; intro g9 c9 w9 o9 gr9; have X9 := Lib.hid (gr9.blk X1.out HNX.out); have f9 := X9.out.frozen 5; have x9 := X9.out.cell 5)
                | (go_simp; go_at_call 43; refine (spec_l20Voice g _ 1 _ HR.out.drew (by omega) (by omega)).mono ?_; rintro e w8 ⟨C8, d8, v8, rfl, hv8, o_, r_, g_⟩; have z8 : w11.heap.size ≤ w8.heap.size := g_.size; have X1 := Lib.hid (HP.out.drew.only g_ (by omega)); have K8 := Lib.hid (HK.out.drew.only g_ (by omega)); have T8 := Lib.hid (own_only2 (own_drew HTE.out) g_ (by omega)); have V8 := Lib.hid (HV.out.drew.only g_ (by omega)); have G8 := Lib.hid (only_trans (only_drew HG.out) g_); have O8 : Hid (w8.ownsRow w11.heap.size 68 6 (.slice C8 v8.length d8) v8.length (fl encNote v8)) := Lib.hid o_; have R8 := Lib.hid r_; have x5 := X1.out.cell 5; have y8 : ∀ ob : Obj, (w8.alloc ob).cell? ⟨sb, 5, none⟩ = some (.slice A hs.length c) := (fun ob => (X1.out.alloc ob).cell 5); clear r_ g_ o_))
            all_goals
              have z9 := gr9.1.size
              have V9 := Lib.hid (V8.out.app O8.out (by omega) (fun g_ e9 e10 => by have h1 := (own_ob O8.out _ e9).1; have h2 := HOV.out _ e10; omega) o9 gr9)
              have HC9 : ∀ k_, obA A = some k_ → w.heap.size ≤ k_ := fun k_ e9 => by have := HOV.out _ e9; omega
              have R9 := Lib.hid (rdr_grw R8.out gr9 (fun k_ e9 => by have := HOV.out _ e9; omega))
              have G9 := Lib.hid (only_grw G8.out gr9 HC9)
              have K9 := Lib.hid (gr9.blk K8.out (fun e9 => by have := HOV.out _ e9; omega))
              have H69 : Hid (∀ v ∈ vs ++ [v8], v.length ≤ 61) := Lib.hid (fun v hv => by rcases List.mem_append.1 hv with h1 | h1; exact H61.out v h1; rw [List.mem_singleton.1 h1]; exact hv8)
              have HL9 : Hid ((hs ++ [(C8, v8.length, d8)]).length = hs.length + 1) := Lib.hid (by simp)
              have T9 := Lib.hid (gr9.own T8.out (fun g_ e9 e10 => by have h1 := HCS.out _ e9; have h2 := HOV.out _ e10; omega))
              clear o9 gr9
              go_wp2_with fail
              go_meet
              case rel => exact ⟨f, m, b, u, C, d, ts, _, _, vs ++ [v8], _, hts, by rw [List.length_append]; simp; omega, H69.out, own_far T9.out (fun e9 => by have h1 := HCS.out _ e9; simp at h1) _, V9.out.far (by simp) _, by rw [HL9.out]; exact X9.out.set_ 5 _, (R9.out.setFar (by simp; omega) _).more (by omega), only_setCell G9.out (.inr (by simp; omega)) _, K9.out.far (by simp; omega) _, by simp; omega, hsb⟩
      case rest =>
        clear HP HR HG HK HTE HV H61 HCS
        obtain ⟨f, m, b, u, C, d, ts, A, c, vs, hs, hts, hvs, h61, ht_, hv_, hb_, hr_, hg_, hk_, hl_, -⟩ := hcut
        have HLEN := Lib.hid hv_.len
        have HV := Lib.hid hv_; have HTE := Lib.hid ht_; have HP := Lib.hid hb_; have HR := Lib.hid hr_; have HG := Lib.hid hg_; have HK := Lib.hid hk_
        have H61 := Lib.hid h61
        have zc := hg_.size
        clear hb_ hr_ hg_ hk_ ht_ hv_ h61
        have c0 := HP.out.cell 0; have d0 := HK.out.cell 0; have f0 := HK.out.frozen 0
        have c1 := HP.out.cell 1; have d1 := HK.out.cell 1; have f1 := HK.out.frozen 1
        have c2 := HP.out.cell 2; have d2 := HK.out.cell 2; have f2 := HK.out.frozen 2
        have c3 := HP.out.cell 3; have d3 := HK.out.cell 3; have f3 := HK.out.frozen 3
        have c4 := HP.out.cell 4; have d4 := HK.out.cell 4; have f4 := HK.out.frozen 4
        have c5 := HP.out.cell 5; have d5 := HK.out.cell 5; have f5 := HK.out.frozen 5
        go_wp2_with fail
        have HK3 := Lib.hid ((((((HK.out.set_ 0 (.int .i64 f)).set_ 1 (.bool m)).set_ 2 (.int .i64 b)).set_ 3 (.int .i64 u)).set_ 4 (.slice C ts.length d)).set_ 5 (.slice A hs.length c))
        have HR3 := Lib.hid ((((((HR.out.setFar (p := ⟨w.heap.size, 0, none⟩) (by simp; omega) (.int .i64 f)).setFar (p := ⟨w.heap.size, 1, none⟩) (by simp; omega) (.bool m)).setFar (p := ⟨w.heap.size, 2, none⟩) (by simp; omega) (.int .i64 b)).setFar (p := ⟨w.heap.size, 3, none⟩) (by simp; omega) (.int .i64 u)).setFar (p := ⟨w.heap.size, 4, none⟩) (by simp; omega) (.slice C ts.length d)).setFar (p := ⟨w.heap.size, 5, none⟩) (by simp; omega) (.slice A hs.length c))
        have HG3 := Lib.hid (only_setCell (only_setCell (only_setCell (only_setCell (only_setCell (only_setCell HG.out (p := ⟨w.heap.size, 0, none⟩) (.inr (by simp)) (.int .i64 f)) (p := ⟨w.heap.size, 1, none⟩) (.inr (by simp)) (.bool m)) (p := ⟨w.heap.size, 2, none⟩) (.inr (by simp)) (.int .i64 b)) (p := ⟨w.heap.size, 3, none⟩) (.inr (by simp)) (.int .i64 u)) (p := ⟨w.heap.size, 4, none⟩) (.inr (by simp)) (.slice C ts.length d)) (p := ⟨w.heap.size, 5, none⟩) (.inr (by simp)) (.slice A hs.length c))
        have HT3 := Lib.hid (own_low (own_low (own_low (own_low (own_low (own_low HTE.out (p := ⟨w.heap.size, 0, none⟩) (by simp) (.int .i64 f)) (p := ⟨w.heap.size, 1, none⟩) (by simp) (.bool m)) (p := ⟨w.heap.size, 2, none⟩) (by simp) (.int .i64 b)) (p := ⟨w.heap.size, 3, none⟩) (by simp) (.int .i64 u)) (p := ⟨w.heap.size, 4, none⟩) (by simp) (.slice C ts.length d)) (p := ⟨w.heap.size, 5, none⟩) (by simp) (.slice A hs.length c))
        have HV3 := Lib.hid ((((((HV.out.far (p := ⟨w.heap.size, 0, none⟩) (by simp; omega) (.int .i64 f)).far (p := ⟨w.heap.size, 1, none⟩) (by simp; omega) (.bool m)).far (p := ⟨w.heap.size, 2, none⟩) (by simp; omega) (.int .i64 b)).far (p := ⟨w.heap.size, 3, none⟩) (by simp; omega) (.int .i64 u)).far (p := ⟨w.heap.size, 4, none⟩) (by simp; omega) (.slice C ts.length d)).far (p := ⟨w.heap.size, 5, none⟩) (by simp; omega) (.slice A hs.length c))
        generalize ((((((wc.setCell ⟨w.heap.size, 0, none⟩ (.int .i64 f)).setCell ⟨w.heap.size, 1, none⟩ (.bool m)).setCell ⟨w.heap.size, 2, none⟩ (.int .i64 b)).setCell ⟨w.heap.size, 2 + 1, none⟩ (.int .i64 u)).setCell ⟨w.heap.size, 4, none⟩ (.slice C ts.length d)).setCell ⟨w.heap.size, 5, none⟩ (.slice A hs.length c)) = W at *
        have r0 : W.cell? ⟨w.heap.size, 0, none⟩ = some (.int .i64 f) := HK3.out.cell 0
        have r1 : W.cell? ⟨w.heap.size, 1, none⟩ = some (.bool m) := HK3.out.cell 1
        have r2 : W.cell? ⟨w.heap.size, 2, none⟩ = some (.int .i64 b) := HK3.out.cell 2
        have r3 : W.cell? ⟨w.heap.size, 3, none⟩ = some (.int .i64 u) := HK3.out.cell 3
        have r4 : W.cell? ⟨w.heap.size, 4, none⟩ = some (.slice C ts.length d) := HK3.out.cell 4
        have r5 : W.cell? ⟨w.heap.size, 5, none⟩ = some (.slice A hs.length c) := HK3.out.cell 5
        refine bodyPost_ret (v := .agg #[.int .i64 f, .bool m, .int .i64 b, .int .i64 u, .slice C ts.length d, .slice A hs.length c]) (by simp [results, Try.results16, go_sem, r0, r1, r2, r3, r4, r5]) rfl ⟨f, m, b, u, C, d, ts, A, c, vs, hs, by rw [HLEN.out], hts, hvs, H61.out, own_mono HT3.out (by omega), HV3.out.mono (by omega), HR3.out, HG3.out⟩
end Go.Proofs.Ytnkoijkelcjloaa

/- Plain laws of written voices: pieces, sounds, what is written for sounds; no program. -/
namespace Go.Proofs.Ytnkoijkelcjloaa
open Go.RowKit
set_option linter.unusedSimpArgs false
set_option linter.unusedVariables false
abbrev P3 := Int × Int × Int
/-- the pieces of a note or rest with n ticks -/
def pcs (z : Bool × P3) (n : Int) : List Nt :=
  if 0 < n then List.replicate ((n - 1) / 768).toNat (z.1, z.2.1, z.2.2.1, z.2.2.2, 768, !z.1) ++ [(z.1, z.2.1, z.2.2.1, z.2.2.2, n - 768 * ((n - 1) / 768), false)] else []
theorem pcs_none {z : Bool × P3} {n : Int} (h : n ≤ 0) : pcs z n = [] := if_neg (by omega)
theorem pcs_step {z : Bool × P3} {n : Int} (h : 0 < n) : pcs z n = (z.1, z.2.1, z.2.2.1, z.2.2.2, min n 768, decide (0 < n - min n 768) && !z.1) :: pcs z (n - min n 768) := by
  by_cases hs : n ≤ 768
  · have e1 : (n - 1) / 768 = 0 := by omega
    have e2 : min n 768 = n := by omega
    have e3 : decide (0 < n - n) = false := by simp
    rw [e2, pcs_none (n := n - n) (by omega), e3]
    unfold pcs
    rw [if_pos h, e1]
    simp
  · have e2 : min n 768 = 768 := by omega
    have e3 : decide (0 < n - 768) = true := by simp; omega
    have e4 : ((n - 1) / 768).toNat = ((n - 768 - 1) / 768).toNat + 1 := by omega
    have e5 : n - 768 * ((n - 1) / 768) = n - 768 - 768 * ((n - 768 - 1) / 768) := by omega
    rw [e2, e3]
    unfold pcs
    rw [if_pos h, if_pos (by omega), e4, e5, List.replicate_succ]
    simp
theorem pcs_ind {M : Int → Prop} (h0 : ∀ n, n ≤ 0 → M n) (h1 : ∀ n, 0 < n → M (n - min n 768) → M n) (n : Int) : M n := by
  have key : ∀ k : Nat, ∀ n : Int, n.toNat ≤ k → M n := by
    intro k
    induction k with
    | zero => intro n hn; exact h0 n (by omega)
    | succ k ih =>
      intro n hn
      rcases Int.lt_or_le 0 n with h | h
      · exact h1 n h (ih _ (by omega))
      · exact h0 n h
  exact key n.toNat n (Nat.le_refl _)
theorem pcs_len (z : Bool × P3) (n : Int) (h : 0 ≤ n) : ((pcs z n).length : Int) = (n + 767) / 768 := by
  unfold pcs
  split
  · simp only [List.length_append, List.length_replicate, List.length_singleton]; omega
  · simp only [List.length_nil]; omega
/-- the half tones of a step -/
def halfL (s : Int) : Int := [0, 2, 4, 5, 7, 9, 11].getD s.toNat 0
def pkL (p : P3) : Int := 12 * p.2.2 + halfL p.1 + p.2.1
def stL (k : Int) : Int := [0, 0, 1, 1, 2, 3, 3, 4, 4, 5, 5, 6].getD (k % 12).toNat 0
def alL (k : Int) : Int := [0, 1, 0, 1, 0, 0, 1, 0, 1, 0, 1, 0].getD (k % 12).toNat 0
def spL (k : Int) : P3 := (stL k, alL k, k / 12)
theorem sp_ok {k : Int} (h0 : 0 ≤ k) (h1 : k ≤ 107) : pkL (spL k) = k ∧ pvB (stL k) (alL k) (k / 12) = true := by
  have hr : k % 12 = 0 ∨ k % 12 = 1 ∨ k % 12 = 2 ∨ k % 12 = 3 ∨ k % 12 = 4 ∨ k % 12 = 5 ∨ k % 12 = 6 ∨ k % 12 = 7 ∨ k % 12 = 8 ∨ k % 12 = 9 ∨ k % 12 = 10 ∨ k % 12 = 11 := by omega
  rw [pvB_iff]
  unfold pkL spL
  dsimp only
  unfold stL alL
  rcases hr with h | h | h | h | h | h | h | h | h | h | h | h <;> rw [h] <;> simp [halfL] <;> omega
/-- a sound: its pitch, where it begins, where it ends -/
abbrev Sd := P3 × Int × Int
def sStep (q : List Sd × Int × Int × Bool) (n : Nt) : List Sd × Int × Int × Bool :=
  (if n.1 || n.2.2.2.2.2 then q.1 else q.1 ++ [((n.2.1, n.2.2.1, n.2.2.2.1), (if q.2.2.2 then q.2.1 else q.2.2.1), q.2.2.1 + n.2.2.2.2.1)], (if q.2.2.2 then q.2.1 else q.2.2.1), q.2.2.1 + n.2.2.2.2.1, n.2.2.2.2.2)
def sndL (v : List Nt) : List Sd × Int × Int × Bool := v.foldl sStep ([], 0, 0, false)
def qStep (q : List Nt × Int) (x : P3) : List Nt × Int :=
  if x.2.1 < q.2 ∨ x.2.2 ≤ x.2.1 then q else (q.1 ++ pcs (true, 0, 0, 0) (x.2.1 - q.2) ++ pcs (false, spL x.1) (x.2.2 - x.2.1), x.2.2)
/-- what is written for keys from ticks to ticks -/
def qL (S : List P3) : List Nt × Int := S.foldl qStep ([], 0)
/-- all notes are right, and a tied one has its pitch behind it -/
def okV : List Nt → Prop
  | [] => True
  | n :: v => nvB n = true ∧ (n.2.2.2.2.2 = true → ∃ m v', v = m :: v' ∧ m.1 = false ∧ m.2.1 = n.2.1 ∧ m.2.2.1 = n.2.2.1 ∧ m.2.2.2.1 = n.2.2.2.1) ∧ okV v
theorem okV_append : ∀ {a b : List Nt}, okV a → okV b → okV (a ++ b) := by
  intro a b ha hb
  induction a with
  | nil => exact hb
  | cons n v ih =>
    obtain ⟨h1, h2, h3⟩ := ha
    refine ⟨h1, fun ht => ?_, ih h3⟩
    obtain ⟨m, v', e, h⟩ := h2 ht
    exact ⟨m, v' ++ b, by rw [e]; rfl, h⟩
theorem okV_at : ∀ {v : List Nt}, okV v → ∀ k, k < v.length → nvB (glNote v k) = true ∧ ((glNote v k).2.2.2.2.2 = true → k + 1 < v.length ∧ (glNote v (k + 1)).1 = false ∧ (glNote v (k + 1)).2.1 = (glNote v k).2.1 ∧ (glNote v (k + 1)).2.2.1 = (glNote v k).2.2.1 ∧ (glNote v (k + 1)).2.2.2.1 = (glNote v k).2.2.2.1) := by
  intro v hv
  induction v with
  | nil => intro k hk; exact absurd hk (by simp)
  | cons n v ih =>
    obtain ⟨h1, h2, h3⟩ := hv
    intro k hk
    cases k with
    | zero =>
      refine ⟨by simpa [glNote] using h1, fun ht => ?_⟩
      obtain ⟨m, v', e, h⟩ := h2 (by simpa [glNote] using ht)
      subst e
      exact ⟨by simp, by simpa [glNote] using h⟩
    | succ k =>
      have := ih h3 k (by simpa using hk)
      simpa [glNote] using this
theorem okV_vv {v : List Nt} (h : okV v) (hl : v.length ≤ 60) : vvB v = true := vvB_iff.2 ⟨hl, okV_at h⟩
theorem vv_okV {v : List Nt} (h : vvB v = true) : okV v := by
  have key : ∀ u : List Nt, (∀ k, k < u.length → nvB (glNote u k) = true ∧ ((glNote u k).2.2.2.2.2 = true → k + 1 < u.length ∧ (glNote u (k + 1)).1 = false ∧ (glNote u (k + 1)).2.1 = (glNote u k).2.1 ∧ (glNote u (k + 1)).2.2.1 = (glNote u k).2.2.1 ∧ (glNote u (k + 1)).2.2.2.1 = (glNote u k).2.2.2.1)) → okV u := by
    intro u
    induction u with
    | nil => intro _; trivial
    | cons n u ih =>
      intro hu
      have h0 := hu 0 (by simp)
      refine ⟨by simpa [glNote] using h0.1, fun ht => ?_, ih fun k hk => ?_⟩
      · obtain ⟨h2, h3⟩ := h0.2 (by simpa [glNote] using ht)
        cases u with
        | nil => simp at h2
        | cons m u' => exact ⟨m, u', rfl, by simpa [glNote] using h3⟩
      · have := hu (k + 1) (by simpa using hk)
        simpa [glNote] using this
  exact key v (vvB_iff.1 h).2
theorem nv_tick {n : Nt} (h : nvB n = true) : 1 ≤ n.2.2.2.2.1 ∧ n.2.2.2.2.1 ≤ 768 := by
  unfold nvB at h
  rw [Bool.and_eq_true] at h
  exact inR_iff.1 h.1
theorem pcs_ok {z : Bool × P3} (hz : ∀ t d, 1 ≤ t → t ≤ 768 → (d = true → z.1 = false) → nvB (z.1, z.2.1, z.2.2.1, z.2.2.2, t, d) = true) (n : Int) : okV (pcs z n) := by
  refine pcs_ind (M := fun n => okV (pcs z n)) (fun n h => by rw [pcs_none h]; trivial) (fun n h ih => ?_) n
  rw [pcs_step h]
  refine ⟨hz _ _ (by omega) (by omega) fun hd => ?_, fun hd => ?_, ih⟩
  · revert hd; cases z.1 <;> simp
  · have h2 : 0 < n - min n 768 ∧ z.1 = false := by simpa using hd
    refine ⟨_, _, pcs_step h2.1, h2.2, rfl, rfl, rfl⟩
theorem rest_ok (n : Int) : okV (pcs (true, 0, 0, 0) n) := pcs_ok (fun t d h1 h2 h3 => by
  have hd : d = false := by cases d; rfl; exact absurd (h3 rfl) (by simp)
  subst hd
  unfold nvB
  simp [inR_iff, h1, h2]) n
theorem tone_ok {k : Int} (h0 : 0 ≤ k) (h1 : k ≤ 107) (n : Int) : okV (pcs (false, spL k) n) := pcs_ok (fun t d h2 h3 h4 => by
  have := (sp_ok h0 h1).2
  unfold nvB
  simp [inR_iff, h2, h3, spL, this]) n
theorem snd_rest (a b c : Int) (n : Int) (hn : 0 ≤ n) (S : List Sd) (f t : Int) : ∃ f', (pcs (true, a, b, c) n).foldl sStep (S, f, t, false) = (S, f', t + n, false) := by
  revert f t
  revert hn
  refine pcs_ind (M := fun n => 0 ≤ n → ∀ f t, ∃ f', (pcs (true, a, b, c) n).foldl sStep (S, f, t, false) = (S, f', t + n, false)) (fun n h hn f t => ?_) (fun n h ih hn f t => ?_) n
  · obtain rfl : n = 0 := by omega
    rw [pcs_none (by omega)]; exact ⟨f, by simp⟩
  · rw [pcs_step h]
    obtain ⟨f', e⟩ := ih (by omega) t (t + min n 768)
    refine ⟨f', ?_⟩
    rw [List.foldl_cons]
    simp only [sStep, Bool.not_true, Bool.and_false, Bool.or_false, if_true, Bool.false_eq_true, if_false, Bool.true_or]
    rw [e]
    simp only [Prod.mk.injEq, true_and, and_true]
    omega
theorem snd_tone (p : P3) (n : Int) (hn : 0 < n) (S : List Sd) (f t : Int) (d : Bool) : (pcs (false, p) n).foldl sStep (S, f, t, d) = (S ++ [(p, (if d then f else t), t + n)], (if d then f else t), t + n, false) := by
  revert f t d hn
  refine pcs_ind (M := fun n => 0 < n → ∀ f t d, (pcs (false, p) n).foldl sStep (S, f, t, d) = (S ++ [(p, (if d then f else t), t + n)], (if d then f else t), t + n, false)) (fun n h hn f t => by omega) (fun n h ih hn f t d => ?_) n
  rw [pcs_step h, List.foldl_cons]
  by_cases hc : 0 < n - min n 768
  · have := ih hc (if d then f else t) (t + min n 768) true
    simp only [sStep, decide_eq_true hc, Bool.not_false, Bool.and_true, Bool.or_true, if_true]
    rw [this]
    simp only [if_true, Prod.mk.injEq, true_and, and_true]
    rw [show t + min n 768 + (n - min n 768) = t + n by omega]
    exact ⟨rfl, rfl⟩
  · rw [pcs_none (by omega)]
    have hm : min n 768 = n := by omega
    have hd : decide (0 < n - n) = false := by simp
    rw [hm, hd]
    simp [sStep]
def kSd (x : Sd) : P3 := (pkL x.1, x.2.1, x.2.2)
def sKey (x : P3) : Sd := (spL x.1, x.2.1, x.2.2)
def keyIn (k : Int) : Prop := 0 ≤ k ∧ k ≤ 107
theorem kSd_sKey {K : List P3} (h : ∀ x ∈ K, keyIn x.1) : (K.map sKey).map kSd = K := by
  induction K with
  | nil => rfl
  | cons x K ih =>
    simp only [List.map_cons]
    rw [ih fun y hy => h y (List.mem_cons_of_mem _ hy)]
    have hx := h x (List.mem_cons_self ..)
    simp only [kSd, sKey, (sp_ok hx.1 hx.2).1]
theorem pcs_mem {z : Bool × P3} {n : Int} : ∀ x ∈ pcs z n, x.1 = z.1 ∧ x.2.1 = z.2.1 ∧ x.2.2.1 = z.2.2.1 ∧ x.2.2.2.1 = z.2.2.2 := by
  intro x hx
  unfold pcs at hx
  split at hx
  · rw [List.mem_append] at hx
    rcases hx with hx | hx
    · rw [(List.mem_replicate.1 hx).2]; exact ⟨rfl, rfl, rfl, rfl⟩
    · rw [List.mem_singleton.1 hx]; exact ⟨rfl, rfl, rfl, rfl⟩
  · exact absurd hx (by simp)
/-- all keys of a voice can be played -/
def keysV (v : List Nt) : Prop := ∀ n ∈ v, n.1 = false → keyIn (pkL (n.2.1, n.2.2.1, n.2.2.2.1))
def qInv (K : List P3) (q : List Nt × Int) : Prop :=
  okV q.1 ∧ 0 ≤ q.2 ∧ keysV q.1 ∧ (∃ f, q.1.foldl sStep ([], 0, 0, false) = (K.map sKey, f, q.2, false)) ∧ qL K = q
theorem q_run : ∀ (S K0 : List P3) (q0 : List Nt × Int), (∀ x ∈ S, keyIn x.1) → qInv K0 q0 → ∃ K, K.Sublist S ∧ qInv (K0 ++ K) (S.foldl qStep q0) := by
  intro S
  induction S with
  | nil => intro K0 q0 _ h; exact ⟨[], List.Sublist.refl _, by simpa using h⟩
  | cons x S ih =>
    intro K0 q0 hk h
    have hx := hk x (List.mem_cons_self ..)
    have hS := fun y hy => hk y (List.mem_cons_of_mem x hy)
    rw [List.foldl_cons]
    by_cases hc : x.2.1 < q0.2 ∨ x.2.2 ≤ x.2.1
    · obtain ⟨K, h1, h2⟩ := ih K0 (qStep q0 x) hS (by rw [qStep, if_pos hc]; exact h)
      exact ⟨K, h1.cons _, h2⟩
    · obtain ⟨a1, a2, a3, ⟨f, a4⟩, a5⟩ := h
      obtain ⟨K, h1, h2⟩ := ih (K0 ++ [x]) (qStep q0 x) hS (by
        have e : qStep q0 x = (q0.1 ++ pcs (true, 0, 0, 0) (x.2.1 - q0.2) ++ pcs (false, spL x.1) (x.2.2 - x.2.1), x.2.2) := if_neg hc
        refine ⟨?_, ?_, ?_, ?_, ?_⟩
        · rw [e]; exact okV_append (okV_append a1 (rest_ok _)) (tone_ok hx.1 hx.2 _)
        · rw [e]; show 0 ≤ x.2.2; omega
        · rw [e]
          intro n hn hr
          rcases List.mem_append.1 hn with hn | hn
          · rcases List.mem_append.1 hn with hn | hn
            · exact a3 n hn hr
            · rw [(pcs_mem n hn).1] at hr; cases hr
          · obtain ⟨-, b1, b2, b3⟩ := pcs_mem n hn
            rw [b1, b2, b3]
            show keyIn (pkL (spL x.1))
            rw [(sp_ok hx.1 hx.2).1]; exact hx
        · rw [e]
          obtain ⟨f', ef⟩ := snd_rest 0 0 0 (x.2.1 - q0.2) (by omega) (K0.map sKey) f q0.2
          refine ⟨x.2.1, ?_⟩
          rw [List.foldl_append, List.foldl_append, a4, ef, snd_tone _ _ (by omega)]
          simp only [Bool.false_eq_true, if_false, List.map_append, List.map_cons, List.map_nil, Prod.mk.injEq, and_true, sKey]
          have e1 : q0.2 + (x.2.1 - q0.2) = x.2.1 := by omega
          have e2 : x.2.1 + (x.2.2 - x.2.1) = x.2.2 := by omega
          rw [e1, e2]
          exact ⟨rfl, rfl, rfl⟩
        · unfold qL; rw [List.foldl_append]; show qStep (qL K0) x = _; rw [a5])
      refine ⟨x :: K, h1.cons_cons _, ?_⟩
      rw [List.append_assoc] at h2
      exact h2
/-- what is written, its sounds, and what is written for them -/
theorem q_main {S : List P3} (hk : ∀ x ∈ S, keyIn x.1) : ∃ K, K.Sublist S ∧ qInv K (qL S) := by
  obtain ⟨K, h1, h2⟩ := q_run S [] ([], 0) hk ⟨trivial, Int.le_refl _, fun _ h => absurd h (by simp), ⟨0, rfl⟩, rfl⟩
  exact ⟨K, h1, by rw [List.nil_append] at h2; exact h2⟩
/-- the keys of a voice's sounds -/
def keysL (v : List Nt) : List P3 := (sndL v).1.map kSd
theorem q_again {S : List P3} (hk : ∀ x ∈ S, keyIn x.1) : ∃ K, K.Sublist S ∧ keysL (qL S).1 = K ∧ qL K = qL S ∧ (sndL (qL S).1).2.2.1 = (qL S).2 := by
  obtain ⟨K, h1, a1, a2, a3, ⟨f, a4⟩, a5⟩ := q_main hk
  have e : sndL (qL S).1 = (K.map sKey, f, (qL S).2, false) := a4
  refine ⟨K, h1, ?_, a5, by rw [e]⟩
  unfold keysL
  rw [e]
  exact kSd_sKey fun x hx => hk x (h1.subset hx)
/-- sounds are in order, and what is written for a voice is not longer than it -/
def pInv (k : Nat) (q : List Sd × Int × Int × Bool) : Prop :=
  let w := qL (q.1.map kSd)
  if q.2.2.2 = true then w.2 ≤ q.2.1 ∧ q.2.1 < q.2.2.1 ∧ (w.1.length : Int) + (q.2.1 - w.2 + 767) / 768 + (q.2.2.1 - q.2.1 + 767) / 768 ≤ k
  else w.2 ≤ q.2.2.1 ∧ (w.1.length : Int) + (q.2.2.1 - w.2 + 767) / 768 ≤ k
theorem qL_snoc (S : List P3) (x : P3) : qL (S ++ [x]) = qStep (qL S) x := by unfold qL; rw [List.foldl_append]; rfl
theorem p_end {S : List Sd} {p : P3} {f t : Int} (h1 : (qL (S.map kSd)).2 ≤ f) (h2 : f < t) :
    (qL ((S ++ [(p, f, t)]).map kSd)).2 = t ∧ ((qL ((S ++ [(p, f, t)]).map kSd)).1.length : Int) = ((qL (S.map kSd)).1.length : Int) + (f - (qL (S.map kSd)).2 + 767) / 768 + (t - f + 767) / 768 := by
  rw [List.map_append, List.map_cons, List.map_nil, qL_snoc]
  generalize hq : qL (S.map kSd) = q at *
  have hx : ¬ ((kSd (p, f, t)).2.1 < q.2 ∨ (kSd (p, f, t)).2.2 ≤ (kSd (p, f, t)).2.1) := by show ¬ (f < q.2 ∨ t ≤ f); omega
  rw [qStep, if_neg hx]
  refine ⟨rfl, ?_⟩
  simp only [List.length_append, Int.natCast_add]
  rw [pcs_len _ _ (by show 0 ≤ f - q.2; omega), pcs_len _ _ (by show 0 ≤ t - f; omega)]
  rfl
theorem p_run : ∀ (v : List Nt) (k : Nat) (q : List Sd × Int × Int × Bool), okV v → (q.2.2.2 = true → ∃ m v', v = m :: v' ∧ m.1 = false) → pInv k q → pInv (k + v.length) (v.foldl sStep q) := by
  intro v
  induction v with
  | nil => intro k q _ _ h; exact h
  | cons n v ih =>
    intro k q hv hp h
    obtain ⟨h1, h2, h3⟩ := hv
    obtain ⟨t1, t2⟩ := nv_tick h1
    rw [List.foldl_cons]
    have e : k + (n :: v).length = (k + 1) + v.length := by simp only [List.length_cons]; omega
    rw [e]
    refine ih (k + 1) (sStep q n) h3 (fun hd => ?_) ?_
    · obtain ⟨m, v', e1, e2, -⟩ := h2 hd
      exact ⟨m, v', e1, e2⟩
    · obtain ⟨S, f, t, d⟩ := q
      obtain ⟨r, s, a, o, ti, d'⟩ := n
      have hrd : r = true → d' = false := by
        intro hr
        cases d'
        · rfl
        · unfold nvB at h1; rw [hr] at h1; simp at h1
      have hdr : d = true → r = false := by
        intro hd
        obtain ⟨m, v', e1, e2⟩ := hp hd
        injection e1 with e1 _
        rw [← e1] at e2; exact e2
      simp only [pInv, sStep] at h t1 t2 ⊢
      cases d <;> cases d' <;> cases r <;> simp only [Bool.false_eq_true, if_true, if_false, Bool.or_true, Bool.or_false, Bool.true_or, Bool.or_self] at h hrd hdr ⊢ <;> first
        | (exfalso; revert hrd; simp; done)
        | (exfalso; revert hdr; simp; done)
        | (obtain ⟨g1, g2⟩ := h; obtain ⟨e1, e2⟩ := p_end (S := S) (p := (s, a, o)) (f := t) (t := t + ti) g1 (by omega); rw [e1, e2]; omega)
        | (obtain ⟨g1, g0, g2⟩ := h; obtain ⟨e1, e2⟩ := p_end (S := S) (p := (s, a, o)) (f := f) (t := t + ti) g1 (by omega); rw [e1, e2]; omega)
        | omega
theorem plain_len {v : List Nt} (h : okV v) : (qL (keysL v)).1.length ≤ v.length := by
  have := p_run v 0 ([], 0, 0, false) h (fun h => by cases h) ⟨Int.le_refl _, by decide⟩
  have hq : pInv (0 + v.length) (sndL v) := this
  unfold pInv at hq
  unfold keysL
  generalize sndL v = q at *
  obtain ⟨S, f, t, d⟩ := q
  show (qL (S.map kSd)).1.length ≤ v.length
  cases d <;> simp only [Bool.false_eq_true, if_true, if_false] at hq <;> omega
end Go.Proofs.Ytnkoijkelcjloaa

/- Contracts of PitchKey and SpellKey, of the program and of the reference. -/
namespace Go.Proofs.Ytnkoijkelcjloaa
open Go.RowKit
set_option linter.unusedSimpArgs false
set_option linter.unusedVariables false
set_option maxRecDepth 100000
def pkB (a b c : Int) : Int := if pvB a b c = true then pkL (a, b, c) else -100
def natL (p : Int) : Int := 12 * (p / 7) + halfL (p % 7)
theorem half_cases {s : Int} (h0 : 0 ≤ s) (h1 : s ≤ 6) : (s = 0 ∧ halfL s = 0) ∨ (s = 1 ∧ halfL s = 2) ∨ (s = 2 ∧ halfL s = 4) ∨ (s = 3 ∧ halfL s = 5) ∨ (s = 4 ∧ halfL s = 7) ∨ (s = 5 ∧ halfL s = 9) ∨ (s = 6 ∧ halfL s = 11) := by
  have h : s = 0 ∨ s = 1 ∨ s = 2 ∨ s = 3 ∨ s = 4 ∨ s = 5 ∨ s = 6 := by omega
  rcases h with rfl | rfl | rfl | rfl | rfl | rfl | rfl <;> simp [halfL]
theorem sp_of {k s a o : Int} (hs0 : 0 ≤ s) (hs1 : s ≤ 6) (ho : 12 * o + halfL s + a = k) (ha : a = 0 ∨ a = 1 ∧ (∀ q : Int, 0 ≤ q → q ≤ 6 → halfL q ≠ k % 12) ∧ s ≤ 5) : spL k = (s, a, o) := by
  have hh := half_cases hs0 hs1
  have hr : halfL s + a < 12 := by omega
  have hkd : k / 12 = o := by omega
  have hkm : k % 12 = halfL s + a := by omega
  have hst : stL k = s ∧ alL k = a := by
    rcases ha with rfl | ⟨rfl, hq, h5⟩
    · unfold stL alL; rw [hkm]
      rcases hh with ⟨rfl, e⟩ | ⟨rfl, e⟩ | ⟨rfl, e⟩ | ⟨rfl, e⟩ | ⟨rfl, e⟩ | ⟨rfl, e⟩ | ⟨rfl, e⟩ <;> rw [e] <;> decide
    · unfold stL alL; rw [hkm]
      
      rcases hh with ⟨rfl, e⟩ | ⟨rfl, e⟩ | ⟨rfl, e⟩ | ⟨rfl, e⟩ | ⟨rfl, e⟩ | ⟨rfl, e⟩ | ⟨rfl, e⟩ <;> rw [e] <;> first | decide | (exfalso; first | exact hq 3 (by omega) (by omega) (by rw [hkm, e]; decide) | omega)
  unfold spL; rw [hst.1, hst.2, hkd]
theorem sp_nat {p k : Int} (h0 : 0 ≤ p) (h : natL p = k) : spL k = (p % 7, 0, p / 7) := sp_of (by omega) (by omega) (by unfold natL at h; omega) (.inl rfl)
theorem sp_nat1 {p k : Int} (h0 : 0 ≤ p) (h1 : p ≤ 62) (hk0 : 0 ≤ k) (hk1 : k ≤ 107) (hn : ∀ q : Int, 0 ≤ q → q ≤ 62 → natL q ≠ k) (h : k - natL p = 1) : spL k = (p % 7, 1, p / 7) := by
  have hh := half_cases (s := p % 7) (by omega) (by omega)
  refine sp_of (by omega) (by omega) (by unfold natL at h; omega) (.inr ⟨rfl, fun q q0 q1 e => ?_, ?_⟩)
  · refine hn (7 * (k / 12) + q) (by omega) (by omega) ?_
    unfold natL
    have e1 : (7 * (k / 12) + q) / 7 = k / 12 := by omega
    have e2 : (7 * (k / 12) + q) % 7 = q := by omega
    rw [e1, e2]; omega
  · by_cases h6 : p % 7 = 6
    · exfalso
      have e : halfL (p % 7) = 11 := by rw [h6]; decide
      refine hn (7 * (k / 12)) (by omega) (by omega) ?_
      unfold natL at h ⊢
      have e1 : (7 * (k / 12)) / 7 = k / 12 := by omega
      have e2 : (7 * (k / 12)) % 7 = 0 := by omega
      have e3 : halfL 0 = 0 := by decide
      rw [e1, e2, e3]; omega
    · omega
/-- one of the two searches finds a place -/
theorem sp_some {k : Int} (hk0 : 0 ≤ k) (hk1 : k ≤ 107) (hn : ∀ q : Int, 0 ≤ q → q ≤ 62 → natL q ≠ k) : ∃ q : Int, 0 ≤ q ∧ q ≤ 62 ∧ k - natL q = 1 := by
  have h := sp_ok hk0 hk1
  have hp := pvB_iff.1 h.2
  have ha : alL k = 0 ∨ alL k = 1 := by
    have h12 : (k % 12).toNat < 12 := by omega
    unfold alL
    generalize (k % 12).toNat = m at h12
    have : m = 0 ∨ m = 1 ∨ m = 2 ∨ m = 3 ∨ m = 4 ∨ m = 5 ∨ m = 6 ∨ m = 7 ∨ m = 8 ∨ m = 9 ∨ m = 10 ∨ m = 11 := by omega
    rcases this with rfl | rfl | rfl | rfl | rfl | rfl | rfl | rfl | rfl | rfl | rfl | rfl <;> decide
  have hh := half_cases hp.1.1 hp.1.2
  have e1 : (7 * (k / 12) + stL k) / 7 = k / 12 := by omega
  have e2 : (7 * (k / 12) + stL k) % 7 = stL k := by omega
  have h1 : 12 * (k / 12) + halfL (stL k) + alL k = k := h.1
  have hnq := hn (7 * (k / 12) + stL k) (by omega) (by omega)
  have hnat : natL (7 * (k / 12) + stL k) = 12 * (k / 12) + halfL (stL k) := by unfold natL; rw [e1, e2]
  exact ⟨7 * (k / 12) + stL k, by omega, by omega, by omega⟩
theorem impl_stepHalves (s : Int) (w : World) (h0 : 0 ≤ s) (h1 : s ≤ 6) : Calls Try.prog 63 #[.int .i64 s] w fun e w' => e = .returned (.int .i64 (halfL s)) ∧ w = w' := by
  have hix : ∀ w : World, (Instr.index 91 (.agg #[.int .i64 0, .int .i64 2, .int .i64 4, .int .i64 5, .int .i64 7, .int .i64 9, .int .i64 11]) (.int .i64 s)).run Try.prog w = .ok (.int .i64 (halfL s)) w := by
    intro w
    rcases half_cases h0 h1 with ⟨rfl, e⟩ | ⟨rfl, e⟩ | ⟨rfl, e⟩ | ⟨rfl, e⟩ | ⟨rfl, e⟩ | ⟨rfl, e⟩ | ⟨rfl, e⟩ <;> rw [e] <;> kernel_rfl
  go_enter Try.func63, Try.ntmps63
  go_wp2
  go_ret
  exact ⟨rfl, rfl⟩
theorem spec_l1Natural (p : Int) (w : World) (h0 : 0 ≤ p) (h1 : p ≤ 62) : Calls Try.prog 45 #[.int .i64 p] w (RetI w (natL p)) := by
  have HF := Lib.hid (show natL p = 12 * (p / 7) + halfL (p % 7) from rfl)
  have hd : p.tdiv 7 = p / 7 := Int.tdiv_eq_ediv_of_nonneg h0
  have hm : p.tmod 7 = p % 7 := Int.tmod_eq_emod_of_nonneg h0
  have hp : decide (p < 0) = false := decide_eq_false (by omega)
  have hq : 0 ≤ p / 7 ∧ p / 7 ≤ 8 := by omega
  have h : p % 7 = 0 ∨ p % 7 = 1 ∨ p % 7 = 2 ∨ p % 7 = 3 ∨ p % 7 = 4 ∨ p % 7 = 5 ∨ p % 7 = 6 := by omega
  have hbl := Blk.new w 3 #[.int .i64 0, .int .i64 2, .int .i64 4, .int .i64 5, .int .i64 7, .int .i64 9, .int .i64 11]
  have hrt : (p % 7).toNat < 7 := by omega
  have hcell : (w.alloc (.cells #[.int .i64 0, .int .i64 2, .int .i64 4, .int .i64 5, .int .i64 7, .int .i64 9, .int .i64 11] 3)).cell? ⟨w.heap.size, (p % 7).toNat, none⟩ = some (.int .i64 (halfL (p % 7))) := by
    rw [hbl.cell]
    rcases half_cases (s := p % 7) (by omega) (by omega) with ⟨e1, e⟩ | ⟨e1, e⟩ | ⟨e1, e⟩ | ⟨e1, e⟩ | ⟨e1, e⟩ | ⟨e1, e⟩ | ⟨e1, e⟩ <;> rw [e, e1] <;> rfl
  have hb := Lib.hid ((Below.refl w.heap.size w).alloc (Nat.le_refl _) (.cells #[.int .i64 0, .int .i64 2, .int .i64 4, .int .i64 5, .int .i64 7, .int .i64 9, .int .i64 11] 3))
  have hlt : p % 7 < 7 := by omega
  have hge : 0 ≤ p % 7 := by omega
  have hh : 0 ≤ halfL (p % 7) ∧ halfL (p % 7) ≤ 11 := by have := half_cases (s := p % 7) (by omega) (by omega); omega
  clear hbl h
  go_enter Try.func45, Try.ntmps45
  go_wp2_with fail
  go_loopw [0, 4] (fun v u wr => v = .int .i64 p ∧ u = .int .i64 0 ∧ wr = w.alloc (.cells #[.int .i64 0, .int .i64 2, .int .i64 4, .int .i64 5, .int .i64 7, .int .i64 9, .int .i64 11] 3)) (fun _ _ _ => 0)
  case atStart => exact ⟨rfl, rfl, rfl⟩
  case round =>
    obtain ⟨rfl, rfl, rfl⟩ := hrel
    go_wp2_with fail
    go_ret
    exact ⟨ret_int HF.out.symm, hb.out⟩
theorem impl_PitchKey (a b c : Int) (w : World) : Calls Try.prog 30 #[.agg #[.int .i64 a, .int .i64 b, .int .i64 c]] w (RetI w (pkB a b c)) := by
  cases hv : pvB a b c
  · have HF : Hid (pkB a b c = -100) := by unfold Hid pkB; rw [hv]; rfl
    have HV := Lib.hid hv; clear hv
    go_enter Try.func30, Try.ntmps30
    go_wp2_with fail
    refine (impl_PitchValid a b c _).mono ?_
    rw [HV.out]
    rintro e w1 ⟨rfl, b1⟩
    have HB := Lib.hid b1; clear b1
    go_wp2_with fail
    go_ret
    exact ⟨ret_int HF.out.symm, ((Below.refl _ _).alloc (Nat.le_refl _) _).trans (HB.out.mono (by simp))⟩
  · have HF : Hid (pkB a b c = 12 * c + halfL a + b) := by unfold Hid pkB; rw [hv]; rfl
    have hp := pvB_iff.1 hv
    have hh : halfL a = 0 ∨ halfL a = 2 ∨ halfL a = 4 ∨ halfL a = 5 ∨ halfL a = 7 ∨ halfL a = 9 ∨ halfL a = 11 := by have := half_cases hp.1.1 hp.1.2; omega
    have hh0 : 0 ≤ halfL a ∧ halfL a ≤ 11 := by omega
    have hpc := hp.2.2; have hpb := hp.2.1; have hpa := hp.1
    have v1 : IntKind.i64.wrap (12 * c) = 12 * c := IntWalk.i64_in _ (by omega)
    have v2 : IntKind.i64.wrap (12 * c + halfL a) = 12 * c + halfL a := IntWalk.i64_in _ (by omega)
    have v3 : IntKind.i64.wrap (12 * c + halfL a + b) = 12 * c + halfL a + b := IntWalk.i64_in _ (by omega)
    clear hh hp
    have HV := Lib.hid hv; clear hv
    go_enter Try.func30, Try.ntmps30
    go_wp2_with fail
    refine (impl_PitchValid a b c _).mono ?_
    rw [HV.out]
    rintro e w1 ⟨rfl, b1⟩
    have d0 : w1.cell? ⟨w.heap.size, 0, none⟩ = some (.int .i64 a) := (b1.cell (by simp)).trans (by simp [go_sem])
    have d1 : w1.cell? ⟨w.heap.size, 1, none⟩ = some (.int .i64 b) := (b1.cell (by simp)).trans (by simp [go_sem])
    have d2 : w1.cell? ⟨w.heap.size, 2, none⟩ = some (.int .i64 c) := (b1.cell (by simp)).trans (by simp [go_sem])
    have HB := Lib.hid (((Below.refl w.heap.size w).alloc (Nat.le_refl _) _).trans (b1.mono (by simp))); clear b1
    go_wp2_with fail
    go_region_held3 (fun w' => w'.cell? ⟨w.heap.size, 0, none⟩ = some (.int .i64 a) ∧ w'.cell? ⟨w.heap.size, 1, none⟩ = some (.int .i64 b) ∧ w'.cell? ⟨w.heap.size, 2, none⟩ = some (.int .i64 c)) (first | exact ⟨d0, d1, d2⟩) (first | (go_at_call 63; refine (impl_stepHalves a _ (by omega) (by omega)).mono ?_; rintro e w' ⟨rfl, rfl⟩))
    go_wp2
    go_ret
    exact ⟨ret_int HF.out.symm, HB.out.drew⟩
theorem spec_PitchKey (a b c : Int) (w : World) : Calls Try.prog 62 #[.agg #[.int .i64 a, .int .i64 b, .int .i64 c]] w (RetI w (pkB a b c)) := by
  cases hv : pvB a b c
  · have HF : Hid (pkB a b c = -100) := by unfold Hid pkB; rw [hv]; rfl
    have HV := Lib.hid hv; clear hv
    go_enter Try.func62, Try.ntmps62
    go_wp2_with fail
    refine (spec_PitchValid a b c _).mono ?_
    rw [HV.out]
    rintro e w1 ⟨rfl, b1⟩
    have HB := Lib.hid b1; clear b1
    go_wp2_with fail
    go_ret
    exact ⟨ret_int HF.out.symm, ((Below.refl _ _).alloc (Nat.le_refl _) _).trans (HB.out.mono (by simp))⟩
  · have HF : Hid (pkB a b c = 12 * c + halfL a + b) := by unfold Hid pkB; rw [hv]; rfl
    have hp := pvB_iff.1 hv
    have hh : halfL a = 0 ∨ halfL a = 2 ∨ halfL a = 4 ∨ halfL a = 5 ∨ halfL a = 7 ∨ halfL a = 9 ∨ halfL a = 11 := by have := half_cases hp.1.1 hp.1.2; omega
    have hh0 : 0 ≤ halfL a ∧ halfL a ≤ 11 := by omega
    have hpc := hp.2.2; have hpb := hp.2.1; have hpa := hp.1
    have v1 : IntKind.i64.wrap (7 * c) = 7 * c := IntWalk.i64_in _ (by omega)
    have v2 : IntKind.i64.wrap (7 * c + a) = 7 * c + a := IntWalk.i64_in _ (by omega)
    have v3 : IntKind.i64.wrap (natL (7 * c + a) + b) = natL (7 * c + a) + b := IntWalk.i64_in _ (by unfold natL; rw [show (7 * c + a) / 7 = c by omega, show (7 * c + a) % 7 = a by omega]; omega)
    clear hh hp
    have HV := Lib.hid hv; clear hv
    go_enter Try.func62, Try.ntmps62
    go_wp2_with fail
    refine (spec_PitchValid a b c _).mono ?_
    rw [HV.out]
    rintro e w1 ⟨rfl, b1⟩
    have d0 : w1.cell? ⟨w.heap.size, 0, none⟩ = some (.int .i64 a) := (b1.cell (by simp)).trans (by simp [go_sem])
    have d1 : w1.cell? ⟨w.heap.size, 1, none⟩ = some (.int .i64 b) := (b1.cell (by simp)).trans (by simp [go_sem])
    have d2 : w1.cell? ⟨w.heap.size, 2, none⟩ = some (.int .i64 c) := (b1.cell (by simp)).trans (by simp [go_sem])
    have HB := Lib.hid (((Below.refl w.heap.size w).alloc (Nat.le_refl _) _).trans (b1.mono (by simp)))
    have hz : w.heap.size < w1.heap.size := by have := b1.size; simp at this; omega
    have hz' : w.heap.size ≤ w1.heap.size := by omega
    have HN : Hid (natL (7 * c + a) = 12 * c + halfL a) := Lib.hid (by unfold natL; rw [show (7 * c + a) / 7 = c by omega, show (7 * c + a) % 7 = a by omega])
    clear b1
    go_wp2_with fail
    go_region_held3 (fun w' => w'.cell? ⟨w.heap.size, 0, none⟩ = some (.int .i64 a) ∧ w'.cell? ⟨w.heap.size, 1, none⟩ = some (.int .i64 b) ∧ w'.cell? ⟨w.heap.size, 2, none⟩ = some (.int .i64 c)) (first | exact ⟨d0, d1, d2⟩ | exact ⟨d0', d1', d2'⟩) (first | (go_at_call 45; refine (spec_l1Natural (7 * c + a) _ (by omega) (by omega)).mono ?_; rintro e w2 ⟨rfl, b2⟩; have d0' := (b2.cell (p := ⟨w.heap.size, 0, none⟩) (show _ < w1.heap.size from hz)).trans d0; have d1' := (b2.cell (p := ⟨w.heap.size, 1, none⟩) (show _ < w1.heap.size from hz)).trans d1; have d2' := (b2.cell (p := ⟨w.heap.size, 2, none⟩) (show _ < w1.heap.size from hz)).trans d2; replace HB := Lib.hid (HB.out.drew.trans (b2.mono hz'))))
    go_wp2
    go_ret
    exact ⟨ret_int (by rw [HF.out, HN.out]), HB.out⟩
def RetSp (w : World) (k : Int) (e : Ending) (w' : World) : Prop := e = .returned (.tuple #[if inR k 0 107 = true then .agg #[.int .i64 (spL k).1, .int .i64 (spL k).2.1, .int .i64 (spL k).2.2] else .agg #[.int .i64 0, .int .i64 0, .int .i64 0], .bool (inR k 0 107)]) ∧ Below w.heap.size w w'
theorem sp_half {k : Int} (hk0 : 0 ≤ k) (hk1 : k ≤ 107) (hn : ∀ q : Int, 0 ≤ q → q ≤ 6 → halfL q ≠ k % 12) : ∃ q : Int, 0 ≤ q ∧ q ≤ 6 ∧ halfL q + 1 = k % 12 := by
  have h := sp_ok hk0 hk1
  have hp := pvB_iff.1 h.2
  obtain ⟨q, h0, h1, h2⟩ := sp_some hk0 hk1 (fun q q0 q1 e => hn (q % 7) (by omega) (by omega) (by have hh := half_cases (s := q % 7) (by omega) (by omega); unfold natL at e; omega))
  have hh := half_cases (s := q % 7) (by omega) (by omega)
  unfold natL at h2
  by_cases h6 : q % 7 = 6
  · exfalso
    have e : halfL (q % 7) = 11 := by rw [h6]; decide
    exact hn 0 (by omega) (by omega) (by rw [show halfL 0 = 0 by decide]; omega)
  · exact ⟨q % 7, by omega, by omega, by omega⟩
end Go.Proofs.Ytnkoijkelcjloaa

/- Contracts of meters and keys: MeterValid, BarTicks, isKey. No condition. -/
namespace Go.Proofs.Ytnkoijkelcjloaa
open Go.RowKit
set_option linter.unusedSimpArgs false
set_option linter.unusedVariables false
set_option maxRecDepth 100000
theorem impl_isKey (f : Int) (w : World) : Calls Try.prog 31 #[.int .i64 f] w fun e w' => e = .returned (.bool (inR f (-7) 7)) ∧ w = w' := by
  go_enter Try.func31, Try.ntmps31
  go_wp2_with (go_at_call 46; refine (impl_within _ _ _ _).mono ?_; rintro e w' ⟨rfl, rfl⟩)
  go_ret
  exact ⟨rfl, rfl⟩
set_option maxHeartbeats 1000000 in
theorem impl_MeterValid (b u : Int) (w : World) : Calls Try.prog 32 #[.agg #[.int .i64 b, .int .i64 u]] w (RetB w (mvB b u)) := by
  have HB := Lib.hid ((Below.refl w.heap.size w).alloc (Nat.le_refl _) (.cells #[.int .i64 b, .int .i64 u] 24))
  cases hb : inR b 1 12
  · have HF : Hid (mvB b u = false) := Lib.hid (by unfold mvB; simp [hb])
    go_enter Try.func32, Try.ntmps32
    go_wp2_with (go_at_call 46; refine (impl_within _ _ _ _).mono ?_; rintro e w' ⟨rfl, rfl⟩)
    go_ret
    exact ⟨ret_bool (by rw [HF.out]), HB.out⟩
  · have hu : ((u == 2) = true) ∨ ((u == 2) = false ∧ (u == 4) = true) ∨ ((u == 2) = false ∧ (u == 4) = false ∧ (u == 8) = true) ∨ ((u == 2) = false ∧ (u == 4) = false ∧ (u == 8) = false ∧ (u == 16) = true) ∨ ((u == 2) = false ∧ (u == 4) = false ∧ (u == 8) = false ∧ (u == 16) = false) := by
      cases u == 2 <;> cases u == 4 <;> cases u == 8 <;> cases u == 16 <;> simp
    have HF : Hid (mvB b u = ((u == 2) || ((u == 4) || ((u == 8) || (u == 16))))) := Lib.hid (by unfold mvB; rw [hb]; rfl)
    rcases hu with h1 | ⟨h1, h2⟩ | ⟨h1, h2, h3⟩ | ⟨h1, h2, h3, h4⟩ | ⟨h1, h2, h3, h4⟩
    all_goals
      rw [HF.out]
      go_enter Try.func32, Try.ntmps32
      go_wp2_with (go_at_call 46; refine (impl_within _ _ _ _).mono ?_; rintro e w' ⟨rfl, rfl⟩)
      go_ret
      exact ⟨ret_bool (by simp [*]), HB.out⟩
set_option maxHeartbeats 1000000 in
theorem spec_MeterValid (b u : Int) (w : World) : Calls Try.prog 55 #[.agg #[.int .i64 b, .int .i64 u]] w (RetB w (mvB b u)) := by
  have HB := Lib.hid ((Below.refl w.heap.size w).alloc (Nat.le_refl _) (.cells #[.int .i64 b, .int .i64 u] 24))
  cases hb : inR b 1 12
  · have HF : Hid (mvB b u = false) := Lib.hid (by unfold mvB; simp [hb])
    go_enter Try.func55, Try.ntmps55
    go_wp2_with (go_at_call 54; refine (spec_l1In _ _ _ _).mono ?_; rintro e w' ⟨rfl, rfl⟩)
    go_ret
    exact ⟨ret_bool (by rw [HF.out]), HB.out⟩
  · have hu : ((u == 2) = true) ∨ ((u == 2) = false ∧ (u == 4) = true) ∨ ((u == 2) = false ∧ (u == 4) = false ∧ (u == 8) = true) ∨ ((u == 2) = false ∧ (u == 4) = false ∧ (u == 8) = false ∧ (u == 16) = true) ∨ ((u == 2) = false ∧ (u == 4) = false ∧ (u == 8) = false ∧ (u == 16) = false) := by
      cases u == 2 <;> cases u == 4 <;> cases u == 8 <;> cases u == 16 <;> simp
    have HF : Hid (mvB b u = ((u == 2) || ((u == 4) || ((u == 8) || (u == 16))))) := Lib.hid (by unfold mvB; rw [hb]; rfl)
    rcases hu with h1 | ⟨h1, h2⟩ | ⟨h1, h2, h3⟩ | ⟨h1, h2, h3, h4⟩ | ⟨h1, h2, h3, h4⟩
    all_goals
      rw [HF.out]
      go_enter Try.func55, Try.ntmps55
      go_wp2_with (go_at_call 54; refine (spec_l1In _ _ _ _).mono ?_; rintro e w' ⟨rfl, rfl⟩)
      go_ret
      exact ⟨ret_bool (by simp [*]), HB.out⟩
theorem impl_BarTicks (b u : Int) (w : World) : Calls Try.prog 36 #[.agg #[.int .i64 b, .int .i64 u]] w (RetI w (btL b u)) := by
  have HB := Lib.hid ((Below.refl w.heap.size w).alloc (Nat.le_refl _) (.cells #[.int .i64 b, .int .i64 u] 24))
  have HK := Lib.hid (Blk.new w 24 #[.int .i64 b, .int .i64 u])
  have hz : (w.alloc (.cells #[.int .i64 b, .int .i64 u] 24)).heap.size = w.heap.size + 1 := by simp
  have HZ := Lib.hid hz; clear hz
  cases hm : mvB b u
  · have HF : Hid (btL b u = -1) := Lib.hid (if_neg (by rw [hm]; decide)); have HM := Lib.hid hm; clear hm
    go_enter Try.func36, Try.ntmps36
    go_wp2_with fail
    refine (impl_MeterValid _ _ _).mono ?_
    rw [HM.out]
    rintro e w1 ⟨rfl, b1⟩
    have HB1 := Lib.hid (HB.out.trans (b1.mono (by have := HZ.out; omega))); clear b1
    go_wp2_with fail
    go_ret
    exact ⟨ret_int HF.out.symm, HB1.out⟩
  · have HF := Lib.hid (btL_bd hm).1; have HM := Lib.hid hm
    obtain ⟨h1, h2⟩ := mvB_iff.1 hm
    clear hm
    have hu0 : u ≠ 0 := by omega
    have hd : (b * 192).tdiv u = b * 192 / u := Int.tdiv_eq_ediv_of_nonneg (by omega)
    have hbd : 0 ≤ b * 192 / u ∧ b * 192 / u ≤ 4000 := by rcases h2 with rfl | rfl | rfl | rfl <;> omega
    have hu1 : u ≠ -1 := by omega
    go_enter Try.func36, Try.ntmps36
    go_wp2_with fail
    refine (impl_MeterValid _ _ _).mono ?_
    rw [HM.out]
    rintro e w1 ⟨rfl, b1⟩
    have HB1 := Lib.hid (HB.out.trans (b1.mono (by have := HZ.out; omega)))
    have HK1 := HK.out.below b1 (by have := HZ.out; omega)
    have c0 := HK1.cell 0; have c1 := HK1.cell 1
    clear b1 HK1 h2
    generalize hq : b * 192 / u = q at *
    have hw : IntKind.i64.wrap q = q := IntWalk.i64_in _ (by omega)
    have hw2 : IntKind.i64.wrap (b * 192) = b * 192 := IntWalk.i64_in _ (by omega)
    go_wp2_with fail
    go_ret
    exact ⟨ret_int HF.out.symm, HB1.out⟩
end Go.Proofs.Ytnkoijkelcjloaa
