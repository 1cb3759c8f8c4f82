/- Contracts of the draws of samples. No condition but bounds on the bytes. -/
import Derived.Test.YtijbciiocmdmmaaDrawN
namespace Go.Proofs.Ytijbciiocmdmmaa
set_option linter.unusedVariables false
open Go.RowKit
set_option linter.unusedSimpArgs false
def WfS (zs : List Int) : Prop := ∀ z ∈ zs, -32768 ≤ z ∧ z ≤ 32768
theorem Row.al {w : World} {lo hi E size c n : Nat} {A : Option Addr} {xs : List Value} (h : Row w lo hi E size A c n xs) (o : Obj) : Row (w.alloc o) lo hi E size A c n xs := ⟨h.1.alloc o, h.2⟩
theorem own_only {w w' : World} {base E size n g : Nat} {v : Value} {xs : List Value} (h : w.ownsRow base E size v n xs) (hg : w.grownBy w' (some g)) (hd : g < base) : w'.ownsRow base E size v n xs := by
  refine h.kept hg ?_
  cases hv : v.ownBlock with
  | none => exact .inl rfl
  | some k =>
    refine .inr fun e => ?_
    injection e with e
    have := (h.lt k hv).1
    omega
theorem own_only' {w w' : World} {base E size n g : Nat} {v : Value} {xs : List Value} (h : w.ownsRow base E size v n xs) (hg : w.grownBy w' (some g)) (hd : g < base ∨ ∀ k, v.ownBlock = some k → g < k) : w'.ownsRow base E size v n xs := by
  refine h.kept hg ?_
  cases hv : v.ownBlock with
  | none => exact .inl rfl
  | some k =>
    refine .inr fun e => ?_
    injection e with e
    have := (h.lt k hv).1
    rcases hd with hd | hd
    · omega
    · have := hd k hv; omega
theorem own_some {w : World} {base e size n c : Nat} {A : Option Addr} {xs : List Value} (h : w.ownsRow base e size (.slice A n c) n xs) (hn : 0 < n) : ∃ b, A = some ⟨b, 0, none⟩ := by
  obtain ⟨g, cap, hv, _⟩ := h.form hn
  injection hv with e1; exact ⟨g, e1⟩
theorem madeI (n : Nat) : madeCells (Value.cells (.int .i64 0)) (n * 1) = (iv (List.replicate n 0)).toArray := by
  rw [iv, List.map_replicate, Nat.mul_one]; exact madeOne _ _
theorem iv_snoc (zs : List Int) (x : Int) : iv (zs ++ [x]) = iv zs ++ [.int .i64 x] := by rw [iv_append]; rfl
theorem WfS.snoc {zs : List Int} {x : Int} (h : WfS zs) (hx : -32768 ≤ x ∧ x ≤ 32768) : WfS (zs ++ [x]) := fun z hz => by
  rcases List.mem_append.1 hz with h2 | h2
  · exact h z h2
  · rw [List.mem_singleton.1 h2]; exact hx
theorem own_snoc {w : World} {base E c : Nat} {A : Option Addr} {zs : List Int} {x : Int} (h : w.ownsRow base E 1 (.slice A (zs.length + 1) c) (zs.length + 1) (iv zs ++ [.int .i64 x])) :
    w.ownsRow base E 1 (.slice A (zs ++ [x]).length c) (zs ++ [x]).length (iv (zs ++ [x])) := by
  rw [iv_snoc, List.length_append]; exact h
theorem wfS_zero (n : Nat) : WfS (List.replicate n 0) := fun z hz => by rw [List.eq_of_mem_replicate hz]; omega
def RetSam (w : World) (g q : Nat) (e : Ending) (w' : World) : Prop :=
  ∃ (A : Option Addr) (c : Nat) (zs : List Int), e = .returned (.slice A zs.length c) ∧ zs.length ≤ 201 ∧ WfS zs ∧ (∃ b, A = some ⟨b, 0, none⟩) ∧ Row w' w.heap.size w'.heap.size 3 1 A c zs.length (iv zs) ∧ Rdr w' g q ∧ w.grownBy w' (some g)
set_option maxRecDepth 100000 in
set_option maxHeartbeats 2000000 in
theorem spec_l20Samples (g q : Nat) (n : Int) (w : World) (hr : Rdr w g q) (hq : q ≤ 900000) (hn : 1 ≤ n ∧ n ≤ 1000000) :
    Calls Try.prog 51 #[.pointer (some ⟨g, 0, none⟩), .int .i64 n] w (RetSam w g (q + 50)) := by
  obtain ⟨i0, hi, hz0, hz1, hz2⟩ := info_parts infoInt
  have HI := Lib.hid hi; have H0 := Lib.hid hz0; have H1 := Lib.hid hz1; have H2 := Lib.hid hz2; clear hi hz0 hz1 hz2
  have hmk := fun W => run_make_rowN (P := Try.prog) 31 3 i0 (.int .i64 0) Try.underlying31 HI.out H0.out .i64 .i64 201 201 (Nat.le_refl _) (by rw [H2.out]; omega) (by omega) W
  rw [H1.out, madeI] at hmk
  have HMK := Lib.hid hmk; clear hmk
  have hlt := hr.lt
  have HR := Lib.hid hr
  have HG := Lib.hid (only_refl w (some g))
  have HO := Lib.hid (own_empty (e := 3) (size := 1) (Below.refl w.heap.size w) (Nat.le_refl _)).1
  clear hr
  go_enter Try.func51, Try.ntmps51
  go_wp2_with (go_at_call_of 46 (Value.int IntKind.i64 12); refine (l20_pk g _ 12 _ (by first | with_reducible exact HR.out | with_reducible exact (HR.out).drew | with_reducible exact (HR.out).alloc1 _ | with_reducible exact ((HR.out).drew).alloc1 _ | with_reducible exact ((HR.out).alloc1 _).drew | with_reducible exact ((HR.out).alloc1 _).alloc1 _ | with_reducible exact (((HR.out).drew).alloc1 _).alloc1 _ | with_reducible exact (((HR.out).alloc1 _).alloc1 _).drew | with_reducible exact (((HR.out).alloc1 _).alloc1 _).alloc1 _ | with_reducible exact ((((HR.out).drew).alloc1 _).alloc1 _).alloc1 _ | with_reducible exact ((((HR.out).alloc1 _).alloc1 _).alloc1 _).drew) (by omega) (by omega)).mono ?_; rintro e w2 ⟨k2, rfl, hk2, r_, g_⟩; have z2 := g_.size; (try simp only [World.size_alloc, size_drew] at z2); have hne2 : ¬ w2.heap.size = g := (by omega); have hnf2 : ¬ w2.heap.size + 1 = g := (by omega); have hnh2 : ¬ w2.heap.size + 1 + 1 = g := (by omega); have hq2 := only_cells g_; replace HG := Lib.hid (only_trans (by first | with_reducible exact HG.out | with_reducible exact only_drew (HG.out) | with_reducible exact only_alloc (HG.out) _ | with_reducible exact only_alloc (only_drew (HG.out)) _ | with_reducible exact only_drew (only_alloc (HG.out) _) | with_reducible exact only_alloc (only_alloc (HG.out) _) _ | with_reducible exact only_alloc (only_alloc (only_drew (HG.out)) _) _ | with_reducible exact only_drew (only_alloc (only_alloc (HG.out) _) _) | with_reducible exact only_alloc (only_alloc (only_alloc (HG.out) _) _) _ | with_reducible exact only_alloc (only_alloc (only_alloc (only_drew (HG.out)) _) _) _ | with_reducible exact only_drew (only_alloc (only_alloc (only_alloc (HG.out) _) _) _)) g_); replace HR := Lib.hid r_; replace HO := Lib.hid (own_only HO.out g_ (by omega)); clear r_ g_)
  clear hq2
  go_loopw [5, 6] (fun v i wr => ∃ (j : Nat) (zs : List Int) (A : Option Addr) (c : Nat), j ≤ 11 ∧ zs.length + j ≤ 11 ∧ i = .int .i64 j ∧ v = .slice A zs.length c ∧ (∃ b, A = some ⟨b, 0, none⟩) ∧ WfS zs ∧ wr.ownsRow w.heap.size 3 1 (.slice A zs.length c) zs.length (iv zs) ∧ Rdr wr g (q + 40 - 3 * j) ∧ w.grownBy wr (some g)) (fun _ i _ => (intOf i).toNat)
  case atStart => exact ⟨k2, [], _, _, by omega, by simp; omega, rfl, rfl, ⟨_, rfl⟩, (fun z hz => by cases hz), HO.out, HR.out.more (by omega), HG.out⟩
  case round =>
    obtain ⟨j, zs, A, c, hj, hl, rfl, rfl, hsm, hwf, hown, hrd, hgr⟩ := hrel
    have HN := Lib.hid hsm; clear hsm
    have HR := Lib.hid hrd; have HG := Lib.hid hgr; have HO := Lib.hid hown; have HW := Lib.hid hwf
    have zr := hgr.size
    clear hrd hgr hown hwf
    by_cases h0 : 0 < j
    · obtain ⟨j, rfl⟩ : ∃ i, j = i + 1 := ⟨j - 1, by omega⟩
      go_wp2_with (first
        | (go_at_call_of 46 (Value.int IntKind.i64 256); refine (l20_pk g _ 256 _ (by first | with_reducible exact HR.out | with_reducible exact (HR.out).drew | with_reducible exact (HR.out).alloc1 _ | with_reducible exact ((HR.out).drew).alloc1 _ | with_reducible exact ((HR.out).alloc1 _).drew | with_reducible exact ((HR.out).alloc1 _).alloc1 _ | with_reducible exact (((HR.out).drew).alloc1 _).alloc1 _ | with_reducible exact (((HR.out).alloc1 _).alloc1 _).drew | with_reducible exact (((HR.out).alloc1 _).alloc1 _).alloc1 _ | with_reducible exact ((((HR.out).drew).alloc1 _).alloc1 _).alloc1 _ | with_reducible exact ((((HR.out).alloc1 _).alloc1 _).alloc1 _).drew) (by omega) (by omega)).mono ?_; rintro e w3 ⟨k3, rfl, hk3, r_, g_⟩; have z3 := g_.size; (try simp only [World.size_alloc, size_drew] at z3); have hne3 : ¬ w3.heap.size = g := (by omega); have hnf3 : ¬ w3.heap.size + 1 = g := (by omega); have hnh3 : ¬ w3.heap.size + 1 + 1 = g := (by omega); have hq3 := only_cells g_; replace HG := Lib.hid (only_trans (by first | with_reducible exact HG.out | with_reducible exact only_drew (HG.out) | with_reducible exact only_alloc (HG.out) _ | with_reducible exact only_alloc (only_drew (HG.out)) _ | with_reducible exact only_drew (only_alloc (HG.out) _) | with_reducible exact only_alloc (only_alloc (HG.out) _) _ | with_reducible exact only_alloc (only_alloc (only_drew (HG.out)) _) _ | with_reducible exact only_drew (only_alloc (only_alloc (HG.out) _) _) | with_reducible exact only_alloc (only_alloc (only_alloc (HG.out) _) _) _ | with_reducible exact only_alloc (only_alloc (only_alloc (only_drew (HG.out)) _) _) _ | with_reducible exact only_drew (only_alloc (only_alloc (only_alloc (HG.out) _) _) _)) g_); replace HR := Lib.hid r_; replace HO := Lib.hid (own_only HO.out g_ (by omega)); clear r_ g_)
        | (go_at_call_of 46 (Value.int IntKind.i64 9); refine (l20_pk g _ 9 _ (by first | with_reducible exact HR.out | with_reducible exact (HR.out).drew | with_reducible exact (HR.out).alloc1 _ | with_reducible exact ((HR.out).drew).alloc1 _ | with_reducible exact ((HR.out).alloc1 _).drew | with_reducible exact ((HR.out).alloc1 _).alloc1 _ | with_reducible exact (((HR.out).drew).alloc1 _).alloc1 _ | with_reducible exact (((HR.out).alloc1 _).alloc1 _).drew | with_reducible exact (((HR.out).alloc1 _).alloc1 _).alloc1 _ | with_reducible exact ((((HR.out).drew).alloc1 _).alloc1 _).alloc1 _ | with_reducible exact ((((HR.out).alloc1 _).alloc1 _).alloc1 _).drew) (by omega) (by omega)).mono ?_; rintro e w4 ⟨k4, rfl, hk4, r_, g_⟩; have z4 := g_.size; (try simp only [World.size_alloc, size_drew] at z4); have hne4 : ¬ w4.heap.size = g := (by omega); have hnf4 : ¬ w4.heap.size + 1 = g := (by omega); have hnh4 : ¬ w4.heap.size + 1 + 1 = g := (by omega); have hq4 := only_cells g_; replace HG := Lib.hid (only_trans (by first | with_reducible exact HG.out | with_reducible exact only_drew (HG.out) | with_reducible exact only_alloc (HG.out) _ | with_reducible exact only_alloc (only_drew (HG.out)) _ | with_reducible exact only_drew (only_alloc (HG.out) _) | with_reducible exact only_alloc (only_alloc (HG.out) _) _ | with_reducible exact only_alloc (only_alloc (only_drew (HG.out)) _) _ | with_reducible exact only_drew (only_alloc (only_alloc (HG.out) _) _) | with_reducible exact only_alloc (only_alloc (only_alloc (HG.out) _) _) _ | with_reducible exact only_alloc (only_alloc (only_alloc (only_drew (HG.out)) _) _) _ | with_reducible exact only_drew (only_alloc (only_alloc (only_alloc (HG.out) _) _) _)) g_); replace HR := Lib.hid r_; replace HO := Lib.hid (own_only HO.out g_ (by omega)); clear r_ g_)
        | (go_at_call_of 46 (Value.int IntKind.i64 4); refine (l20_pk g _ 4 _ (by first | with_reducible exact HR.out | with_reducible exact (HR.out).drew | with_reducible exact (HR.out).alloc1 _ | with_reducible exact ((HR.out).drew).alloc1 _ | with_reducible exact ((HR.out).alloc1 _).drew | with_reducible exact ((HR.out).alloc1 _).alloc1 _ | with_reducible exact (((HR.out).drew).alloc1 _).alloc1 _ | with_reducible exact (((HR.out).alloc1 _).alloc1 _).drew | with_reducible exact (((HR.out).alloc1 _).alloc1 _).alloc1 _ | with_reducible exact ((((HR.out).drew).alloc1 _).alloc1 _).alloc1 _ | with_reducible exact ((((HR.out).alloc1 _).alloc1 _).alloc1 _).drew) (by omega) (by omega)).mono ?_; rintro e w5 ⟨k5, rfl, hk5, r_, g_⟩; have z5 := g_.size; (try simp only [World.size_alloc, size_drew] at z5); have hne5 : ¬ w5.heap.size = g := (by omega); have hnf5 : ¬ w5.heap.size + 1 = g := (by omega); have hnh5 : ¬ w5.heap.size + 1 + 1 = g := (by omega); have hq5 := only_cells g_; replace HG := Lib.hid (only_trans (by first | with_reducible exact HG.out | with_reducible exact only_drew (HG.out) | with_reducible exact only_alloc (HG.out) _ | with_reducible exact only_alloc (only_drew (HG.out)) _ | with_reducible exact only_drew (only_alloc (HG.out) _) | with_reducible exact only_alloc (only_alloc (HG.out) _) _ | with_reducible exact only_alloc (only_alloc (only_drew (HG.out)) _) _ | with_reducible exact only_drew (only_alloc (only_alloc (HG.out) _) _) | with_reducible exact only_alloc (only_alloc (only_alloc (HG.out) _) _) _ | with_reducible exact only_alloc (only_alloc (only_alloc (only_drew (HG.out)) _) _) _ | with_reducible exact only_drew (only_alloc (only_alloc (only_alloc (HG.out) _) _) _)) g_); replace HR := Lib.hid r_; replace HO := Lib.hid (own_only (HO.out.alloc _) g_ (by omega)); obtain ⟨x, hxx, xlx, xhx⟩ := (show LitIn (-32768) (32768) (#[Value.int IntKind.i64 ((k3 : Int) * 256 - 32768 + 1), Value.int IntKind.i64 ((k4 : Int) - 4), Value.int IntKind.i64 (32767), Value.int IntKind.i64 (-32767)]) from (fun k hk => by simp at hk; rcases k with _ | _ | _ | _ | _ | _ | _ | _ | k <;> first | exact ⟨_, rfl, by omega, by omega⟩ | exact ⟨_, rfl, by rw [IntWalk.i64_in _ (by omega)]; omega, by rw [IntWalk.i64_in _ (by omega)]; omega⟩ | omega)) k5 (by simp; omega); clear r_ g_)
        | (at_builtin; refine append_el rfl _ _ 31 rfl 3 i0 (.int .i64 0) 1 8 Try.underlying31 HI.out H0.out H1.out H2.out rfl (by decide) (by decide) w.heap.size w5 w5 _ zs.length _ HO.out (Below.refl _ _) (by omega) (by omega) rfl [.int .i64 (x)] rfl (by simp [Value.oneCell']) rfl ?_; intro A2 c2 w6 hown2 hbel2 hbase2 _))
      go_roundw
      case rel =>
        exact ⟨j, zs ++ [x], A2, c2, by omega, by simp; omega, by go_num, by simp, own_some hown2 (by omega), HW.out.snoc ⟨xlx, xhx⟩, own_snoc hown2, (HR.out.below hbel2 hlt).more (by omega), only_below HG.out hbel2⟩
      case measure => simp [intOf]
    · obtain rfl : j = 0 := by omega
      go_wp2_with fail
      refine (l20_odd g _ n _ (by first | with_reducible exact HR.out | with_reducible exact (HR.out).drew | with_reducible exact (HR.out).alloc1 _ | with_reducible exact ((HR.out).drew).alloc1 _ | with_reducible exact ((HR.out).alloc1 _).drew | with_reducible exact ((HR.out).alloc1 _).alloc1 _ | with_reducible exact (((HR.out).drew).alloc1 _).alloc1 _ | with_reducible exact (((HR.out).alloc1 _).alloc1 _).drew | with_reducible exact (((HR.out).alloc1 _).alloc1 _).alloc1 _ | with_reducible exact ((((HR.out).drew).alloc1 _).alloc1 _).alloc1 _ | with_reducible exact ((((HR.out).alloc1 _).alloc1 _).alloc1 _).drew) (by omega) (by omega)).mono ?_
      rintro e w6 ⟨v6, rfl, r_, g_⟩
      have z6 := g_.size; (try simp only [World.size_alloc, size_drew] at z6)
      have hne6 : ¬ w6.heap.size = g := (by omega)
      have hnf6 : ¬ w6.heap.size + 1 = g := (by omega)
      have hnh6 : ¬ w6.heap.size + 1 + 1 = g := (by omega)
      have hq6 := only_cells g_
      replace HG := Lib.hid (only_trans (by first | with_reducible exact HG.out | with_reducible exact only_drew (HG.out) | with_reducible exact only_alloc (HG.out) _ | with_reducible exact only_alloc (only_drew (HG.out)) _ | with_reducible exact only_drew (only_alloc (HG.out) _) | with_reducible exact only_alloc (only_alloc (HG.out) _) _ | with_reducible exact only_alloc (only_alloc (only_drew (HG.out)) _) _ | with_reducible exact only_drew (only_alloc (only_alloc (HG.out) _) _) | with_reducible exact only_alloc (only_alloc (only_alloc (HG.out) _) _) _ | with_reducible exact only_alloc (only_alloc (only_alloc (only_drew (HG.out)) _) _) _ | with_reducible exact only_drew (only_alloc (only_alloc (only_alloc (HG.out) _) _) _)) g_)
      replace HR := Lib.hid r_
      replace HO := Lib.hid (own_only HO.out g_ (by omega))
      clear r_ g_
      cases v6
      · go_wp2_with fail
        go_ret
        exact ⟨A, c, zs, rfl, by omega, HW.out, HN.out, Row.mk_ HO.out, HR.out.more (by omega), HG.out⟩
      · go_wp2_with fail
        (go_at_call_of 46 (Value.int IntKind.i64 2); refine (l20_pk g _ 2 _ (by first | with_reducible exact HR.out | with_reducible exact (HR.out).drew | with_reducible exact (HR.out).alloc1 _ | with_reducible exact ((HR.out).drew).alloc1 _ | with_reducible exact ((HR.out).alloc1 _).drew | with_reducible exact ((HR.out).alloc1 _).alloc1 _ | with_reducible exact (((HR.out).drew).alloc1 _).alloc1 _ | with_reducible exact (((HR.out).alloc1 _).alloc1 _).drew | with_reducible exact (((HR.out).alloc1 _).alloc1 _).alloc1 _ | with_reducible exact ((((HR.out).drew).alloc1 _).alloc1 _).alloc1 _ | with_reducible exact ((((HR.out).alloc1 _).alloc1 _).alloc1 _).drew) (by omega) (by omega)).mono ?_; rintro e w7 ⟨k7, rfl, hk7, r_, g_⟩; have z7 := g_.size; (try simp only [World.size_alloc, size_drew] at z7); have hne7 : ¬ w7.heap.size = g := (by omega); have hnf7 : ¬ w7.heap.size + 1 = g := (by omega); have hnh7 : ¬ w7.heap.size + 1 + 1 = g := (by omega); have hq7 := only_cells g_; replace HG := Lib.hid (only_trans (by first | with_reducible exact HG.out | with_reducible exact only_drew (HG.out) | with_reducible exact only_alloc (HG.out) _ | with_reducible exact only_alloc (only_drew (HG.out)) _ | with_reducible exact only_drew (only_alloc (HG.out) _) | with_reducible exact only_alloc (only_alloc (HG.out) _) _ | with_reducible exact only_alloc (only_alloc (only_drew (HG.out)) _) _ | with_reducible exact only_drew (only_alloc (only_alloc (HG.out) _) _) | with_reducible exact only_alloc (only_alloc (only_alloc (HG.out) _) _) _ | with_reducible exact only_alloc (only_alloc (only_alloc (only_drew (HG.out)) _) _) _ | with_reducible exact only_drew (only_alloc (only_alloc (only_alloc (HG.out) _) _) _)) g_); replace HR := Lib.hid r_; replace HO := Lib.hid (own_only HO.out g_ (by omega)); clear r_ g_)
        rcases (show k7 = 0 ∨ k7 = 1 by omega) with rfl | rfl
        · go_wp2_with (first
            | (go_at_call_of 46 (Value.int IntKind.i64 2); refine (l20_pk g _ 2 _ (by first | with_reducible exact HR.out | with_reducible exact (HR.out).drew | with_reducible exact (HR.out).alloc1 _ | with_reducible exact ((HR.out).drew).alloc1 _ | with_reducible exact ((HR.out).alloc1 _).drew | with_reducible exact ((HR.out).alloc1 _).alloc1 _ | with_reducible exact (((HR.out).drew).alloc1 _).alloc1 _ | with_reducible exact (((HR.out).alloc1 _).alloc1 _).drew | with_reducible exact (((HR.out).alloc1 _).alloc1 _).alloc1 _ | with_reducible exact ((((HR.out).drew).alloc1 _).alloc1 _).alloc1 _ | with_reducible exact ((((HR.out).alloc1 _).alloc1 _).alloc1 _).drew) (by omega) (by omega)).mono ?_; rintro e w8 ⟨k8, rfl, hk8, r_, g_⟩; have z8 := g_.size; (try simp only [World.size_alloc, size_drew] at z8); have hne8 : ¬ w8.heap.size = g := (by omega); have hnf8 : ¬ w8.heap.size + 1 = g := (by omega); have hnh8 : ¬ w8.heap.size + 1 + 1 = g := (by omega); have hq8 := only_cells g_; replace HG := Lib.hid (only_trans (by first | with_reducible exact HG.out | with_reducible exact only_drew (HG.out) | with_reducible exact only_alloc (HG.out) _ | with_reducible exact only_alloc (only_drew (HG.out)) _ | with_reducible exact only_drew (only_alloc (HG.out) _) | with_reducible exact only_alloc (only_alloc (HG.out) _) _ | with_reducible exact only_alloc (only_alloc (only_drew (HG.out)) _) _ | with_reducible exact only_drew (only_alloc (only_alloc (HG.out) _) _) | with_reducible exact only_alloc (only_alloc (only_alloc (HG.out) _) _) _ | with_reducible exact only_alloc (only_alloc (only_alloc (only_drew (HG.out)) _) _) _ | with_reducible exact only_drew (only_alloc (only_alloc (only_alloc (HG.out) _) _) _)) g_); replace HR := Lib.hid r_; replace HO := Lib.hid (own_only (HO.out.alloc _) g_ (by omega)); obtain ⟨x, hxx, xlx, xhx⟩ := (show LitIn (-32768) (32768) (#[Value.int IntKind.i64 (-32768), Value.int IntKind.i64 (32768)]) from (fun k hk => by simp at hk; rcases k with _ | _ | _ | _ | _ | _ | _ | _ | k <;> first | exact ⟨_, rfl, by omega, by omega⟩ | exact ⟨_, rfl, by rw [IntWalk.i64_in _ (by omega)]; omega, by rw [IntWalk.i64_in _ (by omega)]; omega⟩ | omega)) k8 (by simp; omega); clear r_ g_)
            | (at_builtin; refine append_el rfl _ _ 31 rfl 3 i0 (.int .i64 0) 1 8 Try.underlying31 HI.out H0.out H1.out H2.out rfl (by decide) (by decide) w.heap.size w8 w8 _ zs.length _ HO.out (Below.refl _ _) (by omega) (by omega) rfl [.int .i64 (x)] rfl (by simp [Value.oneCell']) rfl ?_; intro A2 c2 w9 hown2 hbel2 hbase2 _))
          go_ret
          exact ⟨A2, c2, zs ++ [x], by simp, by simp; omega, HW.out.snoc ⟨xlx, xhx⟩, own_some hown2 (by omega), Row.mk_ (own_snoc hown2), (HR.out.below hbel2 hlt).more (by omega), only_below HG.out hbel2⟩
        · have hmk : ∀ W : World, (Instr.makeSlice 31 (.int .i64 201) (.int .i64 201)).run Try.prog W = .ok (.slice (some ⟨W.heap.size, 0, none⟩) 201 201) (W.alloc (.cells (iv (List.replicate 201 0)).toArray 3)) := HMK.out
          go_wp2_with fail
          go_ret
          exact ⟨some ⟨w7.heap.size, 0, none⟩, 201, List.replicate 201 0, by rw [List.length_replicate]; rfl, by rw [List.length_replicate]; omega, wfS_zero 201, ⟨_, rfl⟩, Row.mk_ (by rw [List.length_replicate]; exact (Blk.new w7 3 (iv (List.replicate 201 0)).toArray).own (size := 1) (n := 201) (by omega) (by unfold maxLen; omega) (by rw [List.size_toArray, iv_length, List.length_replicate])), (HR.out.alloc1 _).more (by omega), only_alloc HG.out _⟩
def RetD1 (w : World) (e : Ending) (w' : World) : Prop :=
  ∃ (A : Option Addr) (c : Nat) (zs : List Int), e = .returned (.slice A zs.length c) ∧ zs.length ≤ 201 ∧ WfS zs ∧ (∃ b, A = some ⟨b, 0, none⟩) ∧ Row w' w.heap.size w'.heap.size 3 1 A c zs.length (iv zs) ∧ Below w.heap.size w w'
theorem spec_DrawSamplesValid (A : Option Addr) (c : Nat) (zs : List Int) (w : World) (hr : RdY w w.heap.size A zs) (hw : WfY zs) (hl : zs.length ≤ 1048576) (hc : zs.length ≤ c) :
    Calls Try.prog 20 #[.slice A zs.length c] w (RetD1 w) := by
  go_enter Try.func20, Try.ntmps20
  have HY := Lib.hid hr; clear hr
  go_wp2_with fail
  refine (spec_l20Open A c zs w HY.out hw hl hc).mono ?_
  rintro e w1 ⟨rfl, r_, b_, s_⟩
  have z1 := b_.size
  have hlt : w.heap.size < w1.heap.size := r_.lt
  have hne1 : ¬ w1.heap.size = w.heap.size := by omega
  have hnf1 : ¬ w1.heap.size + 1 = w.heap.size := by omega
  have hnh1 : ¬ w1.heap.size + 1 + 1 = w.heap.size := by omega
  have HR := Lib.hid r_
  have HB := Lib.hid b_
  have HG := Lib.hid (only_refl w1 (some w.heap.size))
  clear r_ b_ s_ HY
  go_wp2_with fail
  refine (spec_l20Samples w.heap.size 0 2 w1 HR.out (by omega) (by omega)).mono ?_
  rintro e w2 ⟨A2, c2, ys, rfl, hl2, hwf, hsm2, hrow, hr2, hg2⟩
  have hrow2 := own_mono hrow.1 z1
  go_wp2_with fail
  go_ret
  exact ⟨A2, c2, ys, rfl, hl2, hwf, hsm2, Row.mk_ hrow2, below_only HB.out hg2 (by omega) (Nat.le_refl _)⟩
theorem spec_DrawPeakOf (A : Option Addr) (c : Nat) (zs : List Int) (w : World) (hr : RdY w w.heap.size A zs) (hw : WfY zs) (hl : zs.length ≤ 1048576) (hc : zs.length ≤ c) :
    Calls Try.prog 26 #[.slice A zs.length c] w (RetD1 w) := by
  go_enter Try.func26, Try.ntmps26
  have HY := Lib.hid hr; clear hr
  go_wp2_with fail
  refine (spec_l20Open A c zs w HY.out hw hl hc).mono ?_
  rintro e w1 ⟨rfl, r_, b_, s_⟩
  have z1 := b_.size
  have hlt : w.heap.size < w1.heap.size := r_.lt
  have hne1 : ¬ w1.heap.size = w.heap.size := by omega
  have hnf1 : ¬ w1.heap.size + 1 = w.heap.size := by omega
  have hnh1 : ¬ w1.heap.size + 1 + 1 = w.heap.size := by omega
  have HR := Lib.hid r_
  have HB := Lib.hid b_
  have HG := Lib.hid (only_refl w1 (some w.heap.size))
  clear r_ b_ s_ HY
  go_wp2_with fail
  refine (spec_l20Samples w.heap.size 0 9 w1 HR.out (by omega) (by omega)).mono ?_
  rintro e w2 ⟨A2, c2, ys, rfl, hl2, hwf, hsm2, hrow, hr2, hg2⟩
  have hrow2 := own_mono hrow.1 z1
  go_wp2_with fail
  go_ret
  exact ⟨A2, c2, ys, rfl, hl2, hwf, hsm2, Row.mk_ hrow2, below_only HB.out hg2 (by omega) (Nat.le_refl _)⟩
theorem spec_DrawScaleSamples (A : Option Addr) (c : Nat) (zs : List Int) (w : World) (hr : RdY w w.heap.size A zs) (hw : WfY zs) (hl : zs.length ≤ 1048576) (hc : zs.length ≤ c) :
    Calls Try.prog 32 #[.slice A zs.length c] w fun e w' => ∃ (A : Option Addr) (c : Nat) (zs : List Int) (l : Int), e = .returned (.tuple #[.slice A zs.length c, .int .i64 l]) ∧ zs.length ≤ 201 ∧ WfS zs ∧ (-1 ≤ l ∧ l ≤ 1001) ∧ Row w' w.heap.size w'.heap.size 3 1 A c zs.length (iv zs) ∧ Below w.heap.size w w' := by
  go_enter Try.func32, Try.ntmps32
  have HY := Lib.hid hr; clear hr
  go_wp2_with fail
  refine (spec_l20Open A c zs w HY.out hw hl hc).mono ?_
  rintro e w1 ⟨rfl, r_, b_, s_⟩
  have z1 := b_.size
  have hlt : w.heap.size < w1.heap.size := r_.lt
  have hne1 : ¬ w1.heap.size = w.heap.size := by omega
  have hnf1 : ¬ w1.heap.size + 1 = w.heap.size := by omega
  have hnh1 : ¬ w1.heap.size + 1 + 1 = w.heap.size := by omega
  have HR := Lib.hid r_
  have HB := Lib.hid b_
  have HG := Lib.hid (only_refl w1 (some w.heap.size))
  clear r_ b_ s_ HY
  go_wp2_with fail
  refine (spec_l20Samples w.heap.size 0 12 w1 HR.out (by omega) (by omega)).mono ?_
  rintro e w2 ⟨A2, c2, ys, rfl, hl2, hwf, hsm2, hrow, hr2, hg2⟩
  have HO := Lib.hid hrow; have HR2 := Lib.hid hr2; have HB2 := Lib.hid (below_only HB.out hg2 (by omega) (Nat.le_refl _))
  have z2 := hg2.size
  clear hrow hr2 hg2
  go_wp2_with fail
  refine (spec_l20Level w.heap.size _ w2 HR2.out (by omega)).mono ?_
  rintro e w3 ⟨l, rfl, hl3, hr3, hg3⟩
  go_wp2_with fail
  go_ret2
  exact ⟨A2, c2, ys, l, rfl, hl2, hwf, hl3, Row.mk_ (own_mono (HO.out.only hg3 (by omega)).1 z1), below_only HB2.out hg3 (by omega) (Nat.le_refl _)⟩
theorem spec_DrawMixSamples (A : Option Addr) (c : Nat) (zs : List Int) (w : World) (hr : RdY w w.heap.size A zs) (hw : WfY zs) (hl : zs.length ≤ 1048576) (hc : zs.length ≤ c) :
    Calls Try.prog 39 #[.slice A zs.length c] w fun e w' => ∃ (A C : Option Addr) (c d : Nat) (xs ys : List Int), e = .returned (.tuple #[.slice A xs.length c, .slice C ys.length d]) ∧ (xs.length ≤ 201 ∧ WfS xs) ∧ (ys.length ≤ 201 ∧ WfS ys) ∧ RdI w' w'.heap.size A xs ∧ RdI w' w'.heap.size C ys ∧ Below w.heap.size w w' := by
  go_enter Try.func39, Try.ntmps39
  have HY := Lib.hid hr; clear hr
  go_wp2_with fail
  refine (spec_l20Open A c zs w HY.out hw hl hc).mono ?_
  rintro e w1 ⟨rfl, r_, b_, s_⟩
  have z1 := b_.size
  have hlt : w.heap.size < w1.heap.size := r_.lt
  have hne1 : ¬ w1.heap.size = w.heap.size := by omega
  have hnf1 : ¬ w1.heap.size + 1 = w.heap.size := by omega
  have hnh1 : ¬ w1.heap.size + 1 + 1 = w.heap.size := by omega
  have HR := Lib.hid r_
  have HB := Lib.hid b_
  have HG := Lib.hid (only_refl w1 (some w.heap.size))
  clear r_ b_ s_ HY
  go_wp2_with fail
  refine (spec_l20Samples w.heap.size 0 12 w1 HR.out (by omega) (by omega)).mono ?_
  rintro e w2 ⟨A2, c2, ys, rfl, hl2, hwf, hsm2, hrow, hr2, hg2⟩
  have HO := Lib.hid hrow; have HR2 := Lib.hid hr2; have HB2 := Lib.hid (below_only HB.out hg2 (by omega) (Nat.le_refl _))
  have z2 := hg2.size
  clear hrow hr2 hg2
  go_wp2_with fail
  refine (spec_l20Samples w.heap.size _ 12 w2 HR2.out (by omega) (by omega)).mono ?_
  rintro e w3 ⟨A3, c3, xs, rfl, hl3, hwf3, hsm3, hrow3, hr3, hg3⟩
  have z3 := hg3.size
  have HO3 := Lib.hid hrow3; have HO2 := Lib.hid (HO.out.only hg3 (by omega)); have HB3 := Lib.hid (below_only HB2.out hg3 (by omega) (Nat.le_refl _))
  clear hrow3 hr3 hg3
  go_wp2_with fail
  go_ret2
  exact ⟨A2, A3, c2, c3, ys, xs, rfl, ⟨hl2, hwf⟩, ⟨hl3, hwf3⟩, RdI.more HO2.out.rdI z3, HO3.out.rdI, HB3.out⟩
end Go.Proofs.Ytijbciiocmdmmaa
