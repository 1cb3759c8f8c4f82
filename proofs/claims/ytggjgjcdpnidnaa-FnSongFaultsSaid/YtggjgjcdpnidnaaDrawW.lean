/- Contract of the draw of voices. No condition but bounds on the bytes. -/
import Derived.Test.YtggjgjcdpnidnaaDrawV
import Derived.Test.YtggjgjcdpnidnaaNte
namespace Go.Proofs.Ytggjgjcdpnidnaa
open Go.RowKit
set_option linter.unusedSimpArgs false
set_option linter.unusedVariables false
theorem fl_set {α : Type} {enc : α → List Value} {s : Nat} (he : ∀ a, (enc a).length = s) {y : α} {u : Value} {j : Nat} (hj : j < s) :
    ∀ {zs : List α} {k : Nat} (hk : k < zs.length), enc y = (enc zs[k]).set j u → (fl enc zs).set (k * s + j) u = fl enc (zs.set k y) := by
  intro zs
  induction zs with
  | nil => intro k hk; exact absurd hk (by simp)
  | cons z zs ih =>
    intro k hk hy
    have e1 : ∀ (x : α) (xs : List α), fl enc (x :: xs) = enc x ++ fl enc xs := fun x xs => by simp [fl]
    cases k with
    | zero =>
      rw [List.set_cons_zero, e1, e1, Nat.zero_mul, Nat.zero_add, List.set_append_left _ _ (by rw [he]; exact hj), hy]
      rfl
    | succ k =>
      rw [List.set_cons_succ, e1, e1, List.set_append_right _ _ (by rw [he, Nat.add_mul]; omega), he, ← ih (by simpa using hk) (by simpa using hy)]
      congr 2
      rw [Nat.add_mul]; omega
theorem own_only2 {w w' : World} {base E size n g : Nat} {v : Value} {xs : List Value} (h : w.ownsRow base E size v n xs) (hg : w.grownBy w' (some g)) (hd : g < base) : w'.ownsRow base E size v n xs := by
  refine h.kept hg ?_
  cases hv : v.ownBlock with
  | none => exact .inl rfl
  | some k =>
    refine .inr fun e => ?_
    injection e with e
    have := (h.lt k hv).1
    omega
/-- what an append has turned lies above the reader -/
theorem rdr_grw {w w' : World} {g q : Nat} {A B : Option Addr} (h : Rdr w g q) (hr : Grw w w' A B) (ho : ∀ k, obA A = some k → g < k) : Rdr w' g q := by
  cases hA : obA A with
  | none => exact h.below (hr.below (Nat.le_refl _) (fun k e => by rw [hA] at e; cases e)) h.lt
  | some k => exact h.below (B := g + 1) (hr.below (B := g + 1) h.lt (fun k' e => ho k' e)) (Nat.lt_succ_self _)
theorem only_grw {a w w' : World} {g : Nat} {A B : Option Addr} (h : a.grownBy w (some g)) (hr : Grw w w' A B) (ho : ∀ k, obA A = some k → a.heap.size ≤ k) : a.grownBy w' (some g) :=
  only_below h (hr.below h.size ho)
/-- a slice's length -/
def lenV : Value → Nat
  | .slice _ n _ => n
  | _ => 0
def RetVo (w : World) (g q : Nat) (e : Ending) (w' : World) : Prop :=
  ∃ (A : Option Addr) (c : Nat) (v : List Nt), e = .returned (.slice A v.length c) ∧ v.length ≤ 61 ∧ w'.ownsRow w.heap.size 46 6 (.slice A v.length c) v.length (fl encNote v) ∧ Rdr w' g q ∧ w.grownBy w' (some g)
set_option maxRecDepth 100000 in
set_option maxHeartbeats 16000000 in
theorem spec_l20Voice (g q : Nat) (n : Int) (w : World) (hr : Rdr w g q) (hq : q ≤ 800000) (hn : 0 ≤ n ∧ n ≤ 1000000) :
    Calls Try.prog 51 #[.pointer (some ⟨g, 0, none⟩), .int .i64 n] w (RetVo w g (q + 170)) := by
  obtain ⟨i0, hi, hz0, hz1, hz2⟩ := info_parts infoNote
  have HI := Lib.hid hi; have H0 := Lib.hid hz0; have H1 := Lib.hid hz1; have H2 := Lib.hid hz2; clear hi hz0 hz1 hz2
  have hlt := hr.lt
  have HR := Lib.hid hr; have HG := Lib.hid (only_refl w (some g))
  have HO := Lib.hid (own_empty (e := 46) (size := 6) (Below.refl w.heap.size w) (Nat.le_refl _)).1
  clear hr
  go_enter Try.func51, Try.ntmps51
  go_wp2_with (go_at_call_of 48 (Value.int IntKind.i64 9); refine (l20_pk g _ 9 _ (by first | with_reducible exact HR.out | with_reducible exact (HR.out).drew | with_reducible exact (HR.out).alloc1 _ | with_reducible exact ((HR.out).drew).alloc1 _ | with_reducible exact ((HR.out).alloc1 _).drew | with_reducible exact ((HR.out).alloc1 _).alloc1 _ | with_reducible exact (((HR.out).drew).alloc1 _).alloc1 _ | with_reducible exact (((HR.out).alloc1 _).alloc1 _).drew | with_reducible exact (((HR.out).alloc1 _).alloc1 _).alloc1 _ | with_reducible exact ((((HR.out).drew).alloc1 _).alloc1 _).alloc1 _ | with_reducible exact ((((HR.out).alloc1 _).alloc1 _).alloc1 _).drew) (by omega) (by omega)).mono ?_; rintro e w2 ⟨k2, rfl, hk2, r_, g_⟩; have z2 := g_.size; (try simp only [World.size_alloc, size_drew] at z2); have hne2 : ¬ w2.heap.size = g := (by omega); have hnf2 : ¬ w2.heap.size + 1 = g := (by omega); have hnh2 : ¬ w2.heap.size + 1 + 1 = g := (by omega); have hq2 := only_cells g_; replace HG := Lib.hid (only_trans (by first | with_reducible exact HG.out | with_reducible exact only_drew (HG.out) | with_reducible exact only_alloc (HG.out) _ | with_reducible exact only_alloc (only_drew (HG.out)) _ | with_reducible exact only_drew (only_alloc (HG.out) _) | with_reducible exact only_alloc (only_alloc (HG.out) _) _ | with_reducible exact only_alloc (only_alloc (only_drew (HG.out)) _) _ | with_reducible exact only_drew (only_alloc (only_alloc (HG.out) _) _) | with_reducible exact only_alloc (only_alloc (only_alloc (HG.out) _) _) _ | with_reducible exact only_alloc (only_alloc (only_alloc (only_drew (HG.out)) _) _) _ | with_reducible exact only_drew (only_alloc (only_alloc (only_alloc (HG.out) _) _) _)) g_); replace HR := Lib.hid r_; clear hq2; replace HO := Lib.hid (own_only2 HO.out g_ (by omega)); clear r_ g_)
  go_loopw [5, 6] (fun v i wr => ∃ (j : Nat) (zs : List Nt) (A : Option Addr) (c : Nat), j ≤ 8 ∧ zs.length + j ≤ 8 ∧ i = .int .i64 j ∧ v = .slice A zs.length c ∧ wr.ownsRow w.heap.size 46 6 (.slice A zs.length c) zs.length (fl encNote zs) ∧ Rdr wr g (q + 137 - 17 * j) ∧ w.grownBy wr (some g)) (fun _ i _ => (intOf i).toNat)
  case atStart => exact ⟨k2, [], _, _, by omega, by simp; omega, rfl, rfl, HO.out, HR.out.more (by omega), HG.out⟩
  case round =>
    clear HO HR HG
    obtain ⟨j, zs, A, c, hj, hl, rfl, rfl, ho, hrd, hgr⟩ := hrel
    have zr := hgr.size
    have HR := Lib.hid hrd; have HG := Lib.hid hgr; have HO := Lib.hid ho
    clear hrd hgr ho
    by_cases h0 : 0 < j
    · obtain ⟨j, rfl⟩ : ∃ i, j = i + 1 := ⟨j - 1, by omega⟩
      go_upto_region 6 with (go_at_call 60; refine (spec_l20Note g _ 0 _ HR.out (by omega) (by omega)).mono ?_; rintro e w3 ⟨r1, s, a, o, t, d, rfl, r_, g_⟩; have z3 := g_.size; replace HO := Lib.hid (own_only2 HO.out g_ (by omega)); replace HG := Lib.hid (only_trans HG.out g_); replace HR := Lib.hid r_; clear r_ g_)
      have HP := Lib.hid (Blk.new w3 46 #[.bool r1, .int .i64 s, .int .i64 a, .int .i64 o, .int .i64 t, .bool d])
      have zx : (w3.alloc (.cells #[.bool r1, .int .i64 s, .int .i64 a, .int .i64 o, .int .i64 t, .bool d] 46)).heap.size = w3.heap.size + 1 := by simp
      have HOB := Lib.hid (own_ob HO.out)
      have HXB : Hid (obA A ≠ some w3.heap.size) := Lib.hid (fun e9 => by have := HOB.out _ e9; omega)
      replace HO := Lib.hid (HO.out.alloc (.cells #[.bool r1, .int .i64 s, .int .i64 a, .int .i64 o, .int .i64 t, .bool d] 46))
      replace HR := Lib.hid (HR.out.alloc1 (.cells #[.bool r1, .int .i64 s, .int .i64 a, .int .i64 o, .int .i64 t, .bool d] 46))
      replace HG := Lib.hid (only_alloc HG.out (.cells #[.bool r1, .int .i64 s, .int .i64 a, .int .i64 o, .int .i64 t, .bool d] 46))
      generalize (w3.alloc (.cells #[.bool r1, .int .i64 s, .int .i64 a, .int .i64 o, .int .i64 t, .bool d] 46)) = wx at *
      generalize hxe : w3.heap.size = xb at *
      have hxl : xb < wx.heap.size := by omega
      have hwx : w.heap.size ≤ wx.heap.size := by omega
      clear zx
      have e0 := HP.out.cell 0; have e1 := HP.out.cell 1; have e2 := HP.out.cell 2; have e3 := HP.out.cell 3; have e4 := HP.out.cell 4; have e5 := HP.out.cell 5
      rcases Nat.eq_zero_or_pos zs.length with hz | hz
      · have hm0 : decide (0 ≤ (zs.length : Int) - 1) = false := decide_eq_false (by omega)
        have hm1 : IntKind.i64.wrap ((zs.length : Int) - 1) = (zs.length : Int) - 1 := IntWalk.i64_in _ (by omega)
        have hm2 : ((1 : Int) ≤ (zs.length : Int)) = False := eq_false (by omega)
        have hl0 : zs.length + (j + 1) ≤ 8 := hl
        clear hz
        go_wp2_with (at_builtin; refine app_rec (enc := encNote) rfl _ _ 35 rfl (w.heap.size) 46 i0 (.agg #[Value.bool false, Value.int .i64 0, Value.int .i64 0, Value.int .i64 0, Value.int .i64 0, Value.bool false]) 48 Try.underlying35 HI.out H0.out H1.out H2.out rfl (by decide) (by decide) wx A c zs HO.out (by omega) (by omega) rfl (r1, s, a, o, t, d) [.bool r1, .int .i64 s, .int .i64 a, .int .i64 o, .int .i64 t, .bool d] rfl rfl (note_one _ _ _ _ _ _) (World.heap wx).size rfl rfl ?_; intro g4 cap4 w4 o_ gr_; have O4 := Lib.hid o_; have G4 := Lib.hid gr_; clear o_ gr_)
        go_roundw
        case rel => exact ⟨j, zs ++ [(r1, s, a, o, t, d)], some ⟨g4, 0, none⟩, cap4, by omega, by simp; omega, by go_num, by simp, by rw [List.length_append]; exact O4.out, (rdr_grw HR.out G4.out (fun k e9 => by have := HOB.out k e9; omega)).more (by omega), only_grw HG.out G4.out (fun k e9 => (HOB.out k e9).1)⟩
        case measure => simp [intOf]
      · obtain ⟨ga, cap, e9, -, -⟩ := HO.out.form (by omega)
        injection e9 with e9 e10 e11; subst e9; subst e11
        have hga := HOB.out ga rfl
        have HC : Hid (∀ (W : World) (c2 : Nat), W.ownsRow w.heap.size 46 6 (.slice (some ⟨ga, 0, none⟩) zs.length c2) zs.length (fl encNote zs) → ∀ jj, jj < 6 → W.cell? ⟨ga, (zs.length - 1) * 6 + jj, none⟩ = (encNote (glNote zs (zs.length - 1)))[jj]?) := Lib.hid (fun W c2 ho jj hjj => by
          have h1 := ho.cellAt ((zs.length - 1) * 6 + jj) (by omega)
          have h2 := (fl_at encNote_len (zs := zs) (k := zs.length - 1) (j := jj) (by omega) hjj)
          rw [glNote_get (by omega)] at h2
          exact h1.trans h2)
        have p0 : wx.cell? ⟨ga, (zs.length - 1) * 6, none⟩ = some (.bool (glNote zs (zs.length - 1)).1) := HC.out wx c HO.out 0 (by decide)
        have hb0 : ((1 : Int) ≤ (zs.length : Int)) = True := eq_true (by omega)
        have hb1 : ((zs.length : Int) - 1).toNat = zs.length - 1 := by omega
        have hb2 : (zs.length : Int) - 1 < (zs.length : Int) := by omega
        have hb3 : 0 ≤ (zs.length : Int) - 1 := by omega
        have hb4 : IntKind.i64.wrap ((zs.length : Int) - 1) = (zs.length : Int) - 1 := IntWalk.i64_in _ (by omega)
        generalize hLe : glNote zs (zs.length - 1) = L9 at *
        obtain ⟨lr, ls, la, lo9, lt, ld⟩ := L9
        dsimp only at p0
        cases lr
        case true =>
          go_wp2_with (at_builtin; refine app_rec (enc := encNote) rfl _ _ 35 rfl (w.heap.size) 46 i0 (.agg #[Value.bool false, Value.int .i64 0, Value.int .i64 0, Value.int .i64 0, Value.int .i64 0, Value.bool false]) 48 Try.underlying35 HI.out H0.out H1.out H2.out rfl (by decide) (by decide) wx (some ⟨ga, 0, none⟩) c zs HO.out (by omega) (by omega) rfl (r1, s, a, o, t, d) [.bool r1, .int .i64 s, .int .i64 a, .int .i64 o, .int .i64 t, .bool d] rfl rfl (note_one _ _ _ _ _ _) (World.heap wx).size rfl rfl ?_; intro g4 cap4 w4 o_ gr_; have O4 := Lib.hid o_; have G4 := Lib.hid gr_; clear o_ gr_)
          go_roundw
          case rel => exact ⟨j, zs ++ [(r1, s, a, o, t, d)], some ⟨g4, 0, none⟩, cap4, by omega, by simp; omega, by go_num, by simp, by rw [List.length_append]; exact O4.out, (rdr_grw HR.out G4.out (fun k e9 => by have := HOB.out k e9; omega)).more (by omega), only_grw HG.out G4.out (fun k e9 => (HOB.out k e9).1)⟩
          case measure => simp [intOf]
        case false =>
          go_upto_if 35 with (go_at_call_of 48 (Value.int IntKind.i64 4); refine (l20_pk g _ 4 _ (by first | with_reducible exact HR.out | with_reducible exact (HR.out).drew | with_reducible exact (HR.out).alloc1 _ | with_reducible exact ((HR.out).drew).alloc1 _ | with_reducible exact ((HR.out).alloc1 _).drew | with_reducible exact ((HR.out).alloc1 _).alloc1 _ | with_reducible exact (((HR.out).drew).alloc1 _).alloc1 _ | with_reducible exact (((HR.out).alloc1 _).alloc1 _).drew | with_reducible exact (((HR.out).alloc1 _).alloc1 _).alloc1 _ | with_reducible exact ((((HR.out).drew).alloc1 _).alloc1 _).alloc1 _ | with_reducible exact ((((HR.out).alloc1 _).alloc1 _).alloc1 _).drew) (by omega) (by omega)).mono ?_; rintro e w5 ⟨k5, rfl, hk5, r_, g_⟩; have z5 := g_.size; (try simp only [World.size_alloc, size_drew] at z5); have hne5 : ¬ w5.heap.size = g := (by omega); have hnf5 : ¬ w5.heap.size + 1 = g := (by omega); have hnh5 : ¬ w5.heap.size + 1 + 1 = g := (by omega); have hq5 := only_cells g_; replace HG := Lib.hid (only_trans (by first | with_reducible exact HG.out | with_reducible exact only_drew (HG.out) | with_reducible exact only_alloc (HG.out) _ | with_reducible exact only_alloc (only_drew (HG.out)) _ | with_reducible exact only_drew (only_alloc (HG.out) _) | with_reducible exact only_alloc (only_alloc (HG.out) _) _ | with_reducible exact only_alloc (only_alloc (only_drew (HG.out)) _) _ | with_reducible exact only_drew (only_alloc (only_alloc (HG.out) _) _) | with_reducible exact only_alloc (only_alloc (only_alloc (HG.out) _) _) _ | with_reducible exact only_alloc (only_alloc (only_alloc (only_drew (HG.out)) _) _) _ | with_reducible exact only_drew (only_alloc (only_alloc (only_alloc (HG.out) _) _) _)) g_); replace HR := Lib.hid r_; clear hq5; replace HO := Lib.hid (own_only2 HO.out g_ (by omega)); replace HP := Lib.hid (HP.out.only g_ (by omega)); clear r_ g_)
          clear p0 e0 e1 e2 e3 e4 e5
          have hx5 : xb < w5.heap.size := by omega
          by_cases hk5 : k5 = 0
          case neg =>
            have hk6 : ((k5 : Int) == 0) = false := by simp; omega
            have e0 := HP.out.cell 0; have e1 := HP.out.cell 1; have e2 := HP.out.cell 2; have e3 := HP.out.cell 3; have e4 := HP.out.cell 4; have e5 := HP.out.cell 5
            go_wp2_with (at_builtin; refine app_rec (enc := encNote) rfl _ _ 35 rfl (w.heap.size) 46 i0 (.agg #[Value.bool false, Value.int .i64 0, Value.int .i64 0, Value.int .i64 0, Value.int .i64 0, Value.bool false]) 48 Try.underlying35 HI.out H0.out H1.out H2.out rfl (by decide) (by decide) w5 (some ⟨ga, 0, none⟩) c zs HO.out (by omega) (by omega) rfl (r1, s, a, o, t, d) [.bool r1, .int .i64 s, .int .i64 a, .int .i64 o, .int .i64 t, .bool d] rfl rfl (note_one _ _ _ _ _ _) (World.heap w5).size rfl rfl ?_; intro g4 cap4 w4 o_ gr_; have O4 := Lib.hid o_; have G4 := Lib.hid gr_; clear o_ gr_)
            go_roundw
            case rel => exact ⟨j, zs ++ [(r1, s, a, o, t, d)], some ⟨g4, 0, none⟩, cap4, by omega, by simp; omega, by go_num, by simp, by rw [List.length_append]; exact O4.out, (rdr_grw HR.out G4.out (fun k e9 => by have := HOB.out k e9; omega)).more (by omega), only_grw HG.out G4.out (fun k e9 => (HOB.out k e9).1)⟩
            case measure => simp [intOf]
          case pos =>
            have hk6 : ((k5 : Int) == 0) = true := by simp; omega
            have e0 := HP.out.cell 0; have f0 := HP.out.frozen 0
            go_upto_region 9 with fail
            replace HP := Lib.hid (HP.out.set_ 0 (.bool false)); replace HR := Lib.hid (HR.out.setFar (p := ⟨xb, 0, none⟩) (by simp; omega) (.bool false)); replace HG := Lib.hid (only_setCell HG.out (p := ⟨xb, 0, none⟩) (.inr (by simp; omega)) (.bool false)); replace HO := Lib.hid (own_far HO.out (p := ⟨xb, 0, none⟩) HXB.out (.bool false))
            have zy : w5.heap.size ≤ (w5.setCell ⟨xb, 0, none⟩ (.bool false)).heap.size := by simp
            generalize w5.setCell ⟨xb, 0, none⟩ (.bool false) = wy at *
            clear e0 f0
            have e1 := HP.out.cell 1; have f1 := HP.out.frozen 1; have e2 := HP.out.cell 2; have f2 := HP.out.frozen 2; have e3 := HP.out.cell 3; have f3 := HP.out.frozen 3
            have p1 : wy.cell? ⟨ga, (zs.length - 1) * 6 + 1, none⟩ = some (.int .i64 ls) := by have h := HC.out wy c HO.out 1 (by decide); exact h
            have p2 : wy.cell? ⟨ga, (zs.length - 1) * 6 + 1 + 1, none⟩ = some (.int .i64 la) := by have h := HC.out wy c HO.out 2 (by decide); exact h
            have p3 : wy.cell? ⟨ga, (zs.length - 1) * 6 + 1 + 2, none⟩ = some (.int .i64 lo9) := by have h := HC.out wy c HO.out 3 (by decide); exact h
            go_upto_region 10 with fail
            replace HP := Lib.hid (HP.out.set_ 1 (.int .i64 ls)); replace HR := Lib.hid (HR.out.setFar (p := ⟨xb, 1, none⟩) (by simp; omega) (.int .i64 ls)); replace HG := Lib.hid (only_setCell HG.out (p := ⟨xb, 1, none⟩) (.inr (by simp; omega)) (.int .i64 ls)); replace HO := Lib.hid (own_far HO.out (p := ⟨xb, 1, none⟩) HXB.out (.int .i64 ls))
            replace HP := Lib.hid (HP.out.set_ 2 (.int .i64 la)); replace HR := Lib.hid (HR.out.setFar (p := ⟨xb, 2, none⟩) (by simp; omega) (.int .i64 la)); replace HG := Lib.hid (only_setCell HG.out (p := ⟨xb, 2, none⟩) (.inr (by simp; omega)) (.int .i64 la)); replace HO := Lib.hid (own_far HO.out (p := ⟨xb, 2, none⟩) HXB.out (.int .i64 la))
            replace HP := Lib.hid (HP.out.set_ 3 (.int .i64 lo9)); replace HR := Lib.hid (HR.out.setFar (p := ⟨xb, 3, none⟩) (by simp; omega) (.int .i64 lo9)); replace HG := Lib.hid (only_setCell HG.out (p := ⟨xb, 3, none⟩) (.inr (by simp; omega)) (.int .i64 lo9)); replace HO := Lib.hid (own_far HO.out (p := ⟨xb, 3, none⟩) HXB.out (.int .i64 lo9))
            have zz : (((wy.setCell ⟨xb, 1, none⟩ (.int .i64 ls)).setCell ⟨xb, 2, none⟩ (.int .i64 la)).setCell ⟨xb, 3, none⟩ (.int .i64 lo9)).heap.size ≥ wy.heap.size := by simp
            generalize hwz : ((wy.setCell ⟨xb, 1, none⟩ (.int .i64 ls)).setCell ⟨xb, 2, none⟩ (.int .i64 la)).setCell ⟨xb, 3, none⟩ (.int .i64 lo9) = wz at *
            clear e1 f1 e2 f2 e3 f3 p1 p2 p3
            go_upto_region 11 with (go_at_call_of 48 (Value.int IntKind.i64 4); refine (l20_pk g _ 4 _ (by first | with_reducible exact HR.out | with_reducible exact (HR.out).drew | with_reducible exact (HR.out).alloc1 _ | with_reducible exact ((HR.out).drew).alloc1 _ | with_reducible exact ((HR.out).alloc1 _).drew | with_reducible exact ((HR.out).alloc1 _).alloc1 _ | with_reducible exact (((HR.out).drew).alloc1 _).alloc1 _ | with_reducible exact (((HR.out).alloc1 _).alloc1 _).drew | with_reducible exact (((HR.out).alloc1 _).alloc1 _).alloc1 _ | with_reducible exact ((((HR.out).drew).alloc1 _).alloc1 _).alloc1 _ | with_reducible exact ((((HR.out).alloc1 _).alloc1 _).alloc1 _).drew) (by omega) (by omega)).mono ?_; rintro e w7 ⟨k7, rfl, hk7, r_, g_⟩; have z7 := g_.size; (try simp only [World.size_alloc, size_drew] at z7); have hne7 : ¬ w7.heap.size = g := (by omega); have hnf7 : ¬ w7.heap.size + 1 = g := (by omega); have hnh7 : ¬ w7.heap.size + 1 + 1 = g := (by omega); have hq7 := only_cells g_; replace HG := Lib.hid (only_trans (by first | with_reducible exact HG.out | with_reducible exact only_drew (HG.out) | with_reducible exact only_alloc (HG.out) _ | with_reducible exact only_alloc (only_drew (HG.out)) _ | with_reducible exact only_drew (only_alloc (HG.out) _) | with_reducible exact only_alloc (only_alloc (HG.out) _) _ | with_reducible exact only_alloc (only_alloc (only_drew (HG.out)) _) _ | with_reducible exact only_drew (only_alloc (only_alloc (HG.out) _) _) | with_reducible exact only_alloc (only_alloc (only_alloc (HG.out) _) _) _ | with_reducible exact only_alloc (only_alloc (only_alloc (only_drew (HG.out)) _) _) _ | with_reducible exact only_drew (only_alloc (only_alloc (only_alloc (HG.out) _) _) _)) g_); replace HR := Lib.hid r_; clear hq7; replace HO := Lib.hid (own_only2 HO.out g_ (by omega)); replace HP := Lib.hid (HP.out.only g_ (by omega)); have p5 : w7.cell? ⟨ga, (zs.length - 1) * 6 + 5, none⟩ = some (.bool ld) := (by have h := HC.out w7 c HO.out 5 (by decide); exact h); have f5 := HO.out.frozenAt ((zs.length - 1) * 6 + 5); clear r_ g_)
            clear p5 f5
            generalize hbt : decide (0 < k7) = bt at *
            have HS := Lib.hid (HO.out.stored ((zs.length - 1) * 6 + 5) (.bool bt)).1
            have HE : Hid ((fl encNote zs).set ((zs.length - 1) * 6 + 5) (.bool bt) = fl encNote (zs.set (zs.length - 1) (false, ls, la, lo9, lt, bt))) := Lib.hid (fl_set encNote_len (by decide) (by omega) (by rw [glNote_get (by omega), hLe]; rfl))
            rw [HE.out] at HS
            replace HP := Lib.hid (HP.out.far (p := ⟨ga, (zs.length - 1) * 6 + 5, none⟩) (by have := hga; simp; omega) (.bool bt))
            replace HR := Lib.hid (HR.out.setFar (p := ⟨ga, (zs.length - 1) * 6 + 5, none⟩) (by simp; omega) (.bool bt))
            replace HG := Lib.hid (only_setCell HG.out (p := ⟨ga, (zs.length - 1) * 6 + 5, none⟩) (.inr (by simp; omega)) (.bool bt))
            have zv : w7.heap.size ≤ (w7.setCell ⟨ga, (zs.length - 1) * 6 + 5, none⟩ (.bool bt)).heap.size := by simp
            generalize w7.setCell ⟨ga, (zs.length - 1) * 6 + 5, none⟩ (.bool bt) = wv at *
            obtain ⟨zs9, hzs9⟩ : ∃ zs9, zs9 = zs.set (zs.length - 1) (false, ls, la, lo9, lt, bt) := ⟨_, rfl⟩
            have hl9 : zs.length = zs9.length := by rw [hzs9, List.length_set]
            have HO9 : Hid (wv.ownsRow w.heap.size 46 6 (.slice (some ⟨ga, 0, none⟩) zs9.length c) zs9.length (fl encNote zs9)) := by rw [← hl9, hzs9]; exact HS
            have hl8 : zs9.length + (j + 1) ≤ 8 := by omega
            clear hzs9 HS HE HO HC hLe
            rw [hl9]
            clear hl9 hb0 hb1 hb2 hb3 hb4
            have e0 := HP.out.cell 0; have e1 := HP.out.cell 1; have e2 := HP.out.cell 2; have e3 := HP.out.cell 3; have e4 := HP.out.cell 4; have e5 := HP.out.cell 5
            go_wp2_with (at_builtin; refine app_rec (enc := encNote) rfl _ _ 35 rfl (w.heap.size) 46 i0 (.agg #[Value.bool false, Value.int .i64 0, Value.int .i64 0, Value.int .i64 0, Value.int .i64 0, Value.bool false]) 48 Try.underlying35 HI.out H0.out H1.out H2.out rfl (by decide) (by decide) wv (some ⟨ga, 0, none⟩) c zs9 HO9.out (by omega) (by omega) rfl (false, ls, la, lo9, t, d) [.bool false, .int .i64 ls, .int .i64 la, .int .i64 lo9, .int .i64 t, .bool d] rfl rfl (note_one _ _ _ _ _ _) (World.heap wv).size rfl rfl ?_; intro g4 cap4 w4 o_ gr_; have O4 := Lib.hid o_; have G4 := Lib.hid gr_; clear o_ gr_)
            go_roundw
            case rel => exact ⟨j, zs9 ++ [(false, ls, la, lo9, t, d)], some ⟨g4, 0, none⟩, cap4, by omega, by simp; omega, by go_num, by simp, by rw [List.length_append]; exact O4.out, (rdr_grw HR.out G4.out (fun k e9 => by have := HOB.out k e9; omega)).more (by omega), only_grw HG.out G4.out (fun k e9 => (HOB.out k e9).1)⟩
            case measure => simp [intOf]
    · obtain rfl : j = 0 := by omega
      have HOB := Lib.hid (own_ob HO.out)
      go_upto_if 56 with (go_at_call 52; refine (l20_oddn g _ n _ HR.out (by omega) hn).mono ?_; rintro e w6 ⟨v6, rfl, r_, g_⟩; have z6 := g_.size; replace HO := Lib.hid (own_only2 HO.out g_ (by omega)); replace HG := Lib.hid (only_trans HG.out g_); replace HR := Lib.hid r_; clear r_ g_)
      cases v6
      · go_wp2_with fail
        go_ret
        exact ⟨A, c, zs, rfl, by omega, HO.out, HR.out.more (by omega), HG.out⟩
      · go_upto_region 16 with (go_at_call_of 48 (Value.int IntKind.i64 3); refine (l20_pk g _ 3 _ (by first | with_reducible exact HR.out | with_reducible exact (HR.out).drew | with_reducible exact (HR.out).alloc1 _ | with_reducible exact ((HR.out).drew).alloc1 _ | with_reducible exact ((HR.out).alloc1 _).drew | with_reducible exact ((HR.out).alloc1 _).alloc1 _ | with_reducible exact (((HR.out).drew).alloc1 _).alloc1 _ | with_reducible exact (((HR.out).alloc1 _).alloc1 _).drew | with_reducible exact (((HR.out).alloc1 _).alloc1 _).alloc1 _ | with_reducible exact ((((HR.out).drew).alloc1 _).alloc1 _).alloc1 _ | with_reducible exact ((((HR.out).alloc1 _).alloc1 _).alloc1 _).drew) (by omega) (by omega)).mono ?_; rintro e w7 ⟨k7, rfl, hk7, r_, g_⟩; have z7 := g_.size; (try simp only [World.size_alloc, size_drew] at z7); have hne7 : ¬ w7.heap.size = g := (by omega); have hnf7 : ¬ w7.heap.size + 1 = g := (by omega); have hnh7 : ¬ w7.heap.size + 1 + 1 = g := (by omega); have hq7 := only_cells g_; replace HG := Lib.hid (only_trans (by first | with_reducible exact HG.out | with_reducible exact only_drew (HG.out) | with_reducible exact only_alloc (HG.out) _ | with_reducible exact only_alloc (only_drew (HG.out)) _ | with_reducible exact only_drew (only_alloc (HG.out) _) | with_reducible exact only_alloc (only_alloc (HG.out) _) _ | with_reducible exact only_alloc (only_alloc (only_drew (HG.out)) _) _ | with_reducible exact only_drew (only_alloc (only_alloc (HG.out) _) _) | with_reducible exact only_alloc (only_alloc (only_alloc (HG.out) _) _) _ | with_reducible exact only_alloc (only_alloc (only_alloc (only_drew (HG.out)) _) _) _ | with_reducible exact only_drew (only_alloc (only_alloc (only_alloc (HG.out) _) _) _)) g_); replace HR := Lib.hid r_; clear hq7; replace HO := Lib.hid (own_only2 HO.out g_ (by omega)); clear r_ g_)
        have hkc : ((k7 : Int) == 0) = true ∨ (((k7 : Int) == 0) = false ∧ ((k7 : Int) == 1) = true) ∨ (((k7 : Int) == 0) = false ∧ ((k7 : Int) == 1) = false) := by simp; omega
        rcases hkc with g0 | ⟨g0, g1⟩ | ⟨g0, g1⟩
        · go_wp2_with (first
            | (go_at_call 60; refine (spec_l20Note g _ 1 _ HR.out (by omega) (by omega)).mono ?_; rintro e w3 ⟨r1, s, a, o, t, d, rfl, r_, g_⟩; have z3 := g_.size; replace HO := Lib.hid (own_only2 HO.out g_ (by omega)); replace HG := Lib.hid (only_trans HG.out g_); replace HR := Lib.hid r_; clear r_ g_)
            | (at_builtin; refine app_rec (enc := encNote) rfl _ _ 35 rfl (w.heap.size) 46 i0 (.agg #[Value.bool false, Value.int .i64 0, Value.int .i64 0, Value.int .i64 0, Value.int .i64 0, Value.bool false]) 48 Try.underlying35 HI.out H0.out H1.out H2.out rfl (by decide) (by decide) w3 A c zs HO.out (by omega) (by omega) rfl (r1, s, a, o, t, d) [.bool r1, .int .i64 s, .int .i64 a, .int .i64 o, .int .i64 t, .bool d] rfl rfl (note_one _ _ _ _ _ _) (World.heap w3).size rfl rfl ?_; intro g4 cap4 w4 o_ gr_; have O4 := Lib.hid o_; have G4 := Lib.hid gr_; clear o_ gr_))
          go_ret
          exact ⟨some ⟨g4, 0, none⟩, cap4, zs ++ [(r1, s, a, o, t, d)], by simp, by simp; omega, by rw [List.length_append]; exact O4.out, (rdr_grw HR.out G4.out (fun k e9 => by have := HOB.out k e9; omega)).more (by omega), only_grw HG.out G4.out (fun k e9 => (HOB.out k e9).1)⟩
        · go_wp2_with (at_builtin; refine app_rec (enc := encNote) rfl _ _ 35 rfl (w.heap.size) 46 i0 (.agg #[Value.bool false, Value.int .i64 0, Value.int .i64 0, Value.int .i64 0, Value.int .i64 0, Value.bool false]) 48 Try.underlying35 HI.out H0.out H1.out H2.out rfl (by decide) (by decide) w7 A c zs HO.out (by omega) (by omega) rfl (false, 0, 0, 0, 12, true) [.bool false, .int .i64 0, .int .i64 0, .int .i64 0, .int .i64 12, .bool true] rfl rfl (note_one _ _ _ _ _ _) (World.heap w7).size rfl rfl ?_; intro g4 cap4 w4 o_ gr_; have O4 := Lib.hid o_; have G4 := Lib.hid gr_; clear o_ gr_)
          go_ret
          exact ⟨some ⟨g4, 0, none⟩, cap4, zs ++ [(false, 0, 0, 0, 12, true)], by simp, by simp; omega, by rw [List.length_append]; exact O4.out, (rdr_grw HR.out G4.out (fun k e9 => by have := HOB.out k e9; omega)).more (by omega), only_grw HG.out G4.out (fun k e9 => (HOB.out k e9).1)⟩
        · go_wp2_with fail
          go_loopw [5] (fun v wr => ∃ (zs : List Nt) (A : Option Addr) (c : Nat), zs.length ≤ 61 ∧ v = .slice A zs.length c ∧ wr.ownsRow w.heap.size 46 6 (.slice A zs.length c) zs.length (fl encNote zs) ∧ Rdr wr g (q + 170) ∧ w.grownBy wr (some g)) (fun v _ => 61 - lenV v)
          case atStart => exact ⟨zs, A, c, by omega, rfl, HO.out, HR.out.more (by omega), HG.out⟩
          case round =>
            clear HO HR HG HOB hl
            obtain ⟨zs, A, c, hl, rfl, ho, hrd, hgr⟩ := hrel
            have zr := hgr.size
            have HR := Lib.hid hrd; have HG := Lib.hid hgr; have HO := Lib.hid ho
            have HOB := Lib.hid (own_ob ho)
            clear hrd hgr ho
            by_cases h60 : zs.length ≤ 60
            · have h61 : ((zs.length : Int) ≤ 60) = True := eq_true (by omega)
              go_wp2_with (at_builtin; refine app_rec (enc := encNote) rfl _ _ 35 rfl (w.heap.size) 46 i0 (.agg #[Value.bool false, Value.int .i64 0, Value.int .i64 0, Value.int .i64 0, Value.int .i64 0, Value.bool false]) 48 Try.underlying35 HI.out H0.out H1.out H2.out rfl (by decide) (by decide) wr A c zs HO.out (by omega) (by omega) rfl (true, 0, 0, 0, 12, false) [.bool true, .int .i64 0, .int .i64 0, .int .i64 0, .int .i64 12, .bool false] rfl rfl (note_one _ _ _ _ _ _) (World.heap wr).size rfl rfl ?_; intro g4 cap4 w4 o_ gr_; have O4 := Lib.hid o_; have G4 := Lib.hid gr_; clear o_ gr_)
              go_roundw
              case rel => exact ⟨zs ++ [(true, 0, 0, 0, 12, false)], some ⟨g4, 0, none⟩, cap4, by simp; omega, by simp, by rw [List.length_append]; exact O4.out, (rdr_grw HR.out G4.out (fun k e9 => by have := HOB.out k e9; omega)).more (by omega), only_grw HG.out G4.out (fun k e9 => (HOB.out k e9).1)⟩
              case measure => simp [lenV]; omega
            · have h61 : ((zs.length : Int) ≤ 60) = False := eq_false (by omega)
              go_wp2_with fail
              go_ret
              exact ⟨A, c, zs, rfl, hl, HO.out, HR.out, HG.out⟩
end Go.Proofs.Ytggjgjcdpnidnaa
