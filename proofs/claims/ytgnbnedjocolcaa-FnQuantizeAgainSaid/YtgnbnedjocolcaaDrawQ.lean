/- Contracts of the draws of events and of Quantize. No condition but bounds on the bytes. -/
import Derived.Test.YtgnbnedjocolcaaDrawT
import Derived.Test.YtgnbnedjocolcaaPrg
import Derived.Test.YtgnbnedjocolcaaInv
namespace Go.Proofs.Ytgnbnedjocolcaa
open Go.RowKit
set_option linter.unusedSimpArgs false
set_option linter.unusedVariables false
/-- the elements of one appended block: several records -/
theorem app_recs {α : Type} {enc : α → List Value} {s : Nat} (he : ∀ a, (enc a).length = s) {P : Program} {ops : Array Oper} {rest : List Oper} {o : Oper} {a : Act} {Q : Exit → Act → World → Prop} (hgd : o.guard = none) (sl x : Operand) (t : TypeId)
    (ho : o.op = .call { callee := .builtin .append, args := #[sl, x], argTypes := #[t, t] })
    (lo : Nat) (e : TypeId) (i : TypeInfo) (z : Value) (bytes : Nat) (ht : P.underlying t = some (.slice e)) (hi : P.info? e = some i) (hz : i.zero = some z)
    (hsize : i.size = s) (hby : i.bytes = bytes) (hzs : z.cells.size = s) (hsz : 0 < s) (hb64 : bytes ≤ 64)
    (W : World) (A : Option Addr) (c : Nat) (zs : List α) (hown : W.ownsRow lo e s (.slice A zs.length c) zs.length (fl enc zs)) (hlo : lo ≤ W.heap.size) (hn : zs.length ≤ 4194304)
    (hs : a.eval sl = .slice A zs.length c) (ys : List α) (m : Nat) (hm : ys.length = m) (hm0 : 0 < m) (hm9 : m ≤ 9) (us : List Value) (hus : us = fl enc ys) (hone : ∀ u ∈ us, u.oneCell' = true) (gx : Nat) (hgx : gx = W.heap.size) (hx : a.eval x = .slice (some ⟨gx, 0, none⟩) m m)
    (h : ∀ g cap w', w'.ownsRow lo e s (.slice (some ⟨g, 0, none⟩) (zs.length + m) cap) (zs.length + m) (fl enc (zs ++ ys)) → Grw W w' A (some ⟨g, 0, none⟩) → wpList P ops Q rest (a.put o.dst (.slice (some ⟨g, 0, none⟩) (zs.length + m) cap)) w') :
    wpList P ops Q (o :: rest) a (W.alloc (.cells us.toArray e)) := by
  subst hgx
  have hul : us.length = m * s := by rw [hus, fl_length he, hm]
  have hmul : (zs.length + m) * bytes ≤ (4194304 + 9) * 64 := Nat.mul_le_mul (by omega) hb64
  refine wpList_append_lies _ hgd sl x t ho lo e i z s bytes ht hi hz hsize hby hzs hsz _ zs.length (fl enc zs) hs (hown.alloc _) ⟨W.heap.size, 0, none⟩ m m us hx hul ?_ hone hm0 (by unfold maxLen; omega) (by omega) (by simp; omega) _ rfl ?_
  · intro j u hu
    rw [Go.WideShapes.add_plain, Nat.zero_add]
    exact ((Blk.new W e us.toArray).cell j).trans (by simpa using hu)
  · intro g cap w' ho' hg hat hlt
    subst hus
    refine h g cap w' (by rw [fl_append]; exact ho') ⟨?_, ?_⟩
    · have ha := World.grownBy_alloc W (.cells (fl enc ys).toArray e) (obA A)
      rw [ob_slice] at hg
      exact grown_trans2 ha hg (.inl rfl)
    · rw [ob_slice] at hat
      rcases hat with e1 | e1
      · exact .inl e1.symm
      · exact .inr ⟨g, rfl, by rw [e1]; simp⟩
/-- an own row of events of which only the length is known -/
def EvR (w : World) (lo : Nat) (A : Option Addr) (L c : Nat) : Prop := ∃ es : List Ev, es.length = L ∧ w.ownsRow lo 46 4 (.slice A L c) L (fl encEvent es)
theorem EvR.cell {w : World} {lo L c ga k j : Nat} (h : EvR w lo (some ⟨ga, 0, none⟩) L c) (hk : k < L) (hj : j < 4) : ∃ x : Int, w.cell? ⟨ga, k * 4 + j, none⟩ = some (.int .i64 x) := by
  obtain ⟨es, rfl, ho⟩ := h
  have h1 := (ho.cellAt (k * 4 + j) (by omega)).trans (fl_at encEvent_len hk hj)
  rcases (show j = 0 ∨ j = 1 ∨ j = 2 ∨ j = 3 by omega) with rfl | rfl | rfl | rfl <;> exact ⟨_, h1⟩
theorem EvR.frozen {w : World} {lo L c ga k : Nat} (h : EvR w lo (some ⟨ga, 0, none⟩) L c) : w.frozen? ⟨ga, k, none⟩ = false := by
  obtain ⟨es, rfl, ho⟩ := h
  exact ho.frozenAt k
theorem EvR.set {w : World} {lo L c ga k j : Nat} (h : EvR w lo (some ⟨ga, 0, none⟩) L c) (hk : k < L) (hj : j < 4) (X : Int) : EvR (w.setCell ⟨ga, k * 4 + j, none⟩ (.int .i64 X)) lo (some ⟨ga, 0, none⟩) L c := by
  obtain ⟨es, rfl, ho⟩ := h
  have hs := (ho.stored (k * 4 + j) (.int .i64 X)).1
  have key : ∃ y : Ev, encEvent y = (encEvent es[k]).set j (.int .i64 X) := by
    generalize es[k] = e9
    obtain ⟨a, b, c, d⟩ := e9
    rcases (show j = 0 ∨ j = 1 ∨ j = 2 ∨ j = 3 by omega) with rfl | rfl | rfl | rfl
    · exact ⟨(X, b, c, d), rfl⟩
    · exact ⟨(a, X, c, d), rfl⟩
    · exact ⟨(a, b, X, d), rfl⟩
    · exact ⟨(a, b, c, X), rfl⟩
  obtain ⟨y, hy⟩ := key
  rw [fl_set encEvent_len hj hk hy] at hs
  exact ⟨es.set k y, List.length_set, hs⟩
theorem EvR.form {w : World} {lo L c : Nat} {A : Option Addr} (h : EvR w lo A L c) (hL : 0 < L) : ∃ ga, A = some ⟨ga, 0, none⟩ ∧ lo ≤ ga ∧ ga < w.heap.size := by
  obtain ⟨es, rfl, ho⟩ := h
  obtain ⟨ga, cap, e9, -, -⟩ := ho.form hL
  injection e9 with e9
  subst e9
  exact ⟨ga, rfl, own_ob ho ga rfl⟩
theorem EvR.only {w w' : World} {lo L c g : Nat} {A : Option Addr} (h : EvR w lo A L c) (hg : w.grownBy w' (some g)) (hd : g < lo) : EvR w' lo A L c := by
  obtain ⟨es, rfl, ho⟩ := h
  exact ⟨es, rfl, own_only2 ho hg hd⟩
theorem EvR.drew {w : World} {lo L c : Nat} {A : Option Addr} (h : EvR w lo A L c) : EvR w.drew lo A L c := by
  obtain ⟨es, rfl, ho⟩ := h
  exact ⟨es, rfl, own_drew ho⟩
def RetE2 (w : World) (g q : Nat) (e : Ending) (w' : World) : Prop :=
  ∃ (A C : Option Addr) (c d : Nat) (es : List Ev) (ts : List (Int × Int)), e = .returned (.tuple #[.slice A es.length c, .slice C ts.length d]) ∧ es.length ≤ 62 ∧ ts.length ≤ 4 ∧ w'.ownsRow w.heap.size 46 4 (.slice A es.length c) es.length (fl encEvent es) ∧ w'.ownsRow w.heap.size 40 2 (.slice C ts.length d) ts.length (fl encTempo ts) ∧ Rdr w' g q ∧ w.grownBy w' (some g)
set_option maxRecDepth 100000 in
set_option maxHeartbeats 16000000 in
theorem spec_l20Events (g q : Nat) (n : Int) (w : World) (hr : Rdr w g q) (hq : q ≤ 700000) (hn : 0 ≤ n ∧ n ≤ 1000000) :
    Calls Try.prog 49 #[.pointer (some ⟨g, 0, none⟩), .int .i64 n] w (RetE2 w g (q + 400)) := by
  obtain ⟨i0, hi, hz0, hz1, hz2⟩ := info_parts infoEvent
  have HI := Lib.hid hi; have H0 := Lib.hid hz0; have H1 := Lib.hid hz1; have H2 := Lib.hid hz2; clear hi hz0 hz1 hz2
  have hlt := hr.lt
  have HR := Lib.hid hr; have HG := Lib.hid (only_refl w (some g))
  clear hr
  go_enter Try.func49, Try.ntmps49
  go_wp2_with fail
  refine (spec_l20Tempos g q 0 w HR.out (by omega) (by omega)).mono ?_
  rintro e w1 ⟨C, cc, ts, rfl, hts, oT, r_, g_⟩
  have z1 := g_.size
  replace HG := Lib.hid (only_trans HG.out g_); replace HR := Lib.hid r_; have HT := Lib.hid oT
  clear r_ g_ oT
  go_wp2_with fail
  refine (spec_l20Voice g _ 0 w1 HR.out (by omega) (by omega)).mono ?_
  rintro e w2 ⟨B, cb, v, rfl, hv, oV, r_, g_⟩
  have z2 := g_.size
  replace HT := Lib.hid (own_only2 HT.out g_ (by omega)); replace HG := Lib.hid (only_trans HG.out g_); replace HR := Lib.hid r_; have HV := Lib.hid oV
  clear r_ g_ oV
  go_wp2_with (go_at_call_of 27 (Value.int IntKind.i64 127); refine (l20_pk g _ 127 _ (by first | with_reducible exact HR.out | with_reducible exact (HR.out).drew | with_reducible exact (HR.out).alloc1 _ | with_reducible exact ((HR.out).drew).alloc1 _ | with_reducible exact ((HR.out).alloc1 _).drew | with_reducible exact ((HR.out).alloc1 _).alloc1 _ | with_reducible exact (((HR.out).drew).alloc1 _).alloc1 _ | with_reducible exact (((HR.out).alloc1 _).alloc1 _).drew | with_reducible exact (((HR.out).alloc1 _).alloc1 _).alloc1 _ | with_reducible exact ((((HR.out).drew).alloc1 _).alloc1 _).alloc1 _ | with_reducible exact ((((HR.out).alloc1 _).alloc1 _).alloc1 _).drew) (by omega) (by omega)).mono ?_; rintro e w3 ⟨k3, rfl, hk3, r_, g_⟩; have z3 := g_.size; (try simp only [World.size_alloc, size_drew] at z3); have hne3 : ¬ w3.heap.size = g := (by omega); have hnf3 : ¬ w3.heap.size + 1 = g := (by omega); have hnh3 : ¬ w3.heap.size + 1 + 1 = g := (by omega); have hq3 := only_cells g_; replace HG := Lib.hid (only_trans (by first | with_reducible exact HG.out | with_reducible exact only_drew (HG.out) | with_reducible exact only_alloc (HG.out) _ | with_reducible exact only_alloc (only_drew (HG.out)) _ | with_reducible exact only_drew (only_alloc (HG.out) _) | with_reducible exact only_alloc (only_alloc (HG.out) _) _ | with_reducible exact only_alloc (only_alloc (only_drew (HG.out)) _) _ | with_reducible exact only_drew (only_alloc (only_alloc (HG.out) _) _) | with_reducible exact only_alloc (only_alloc (only_alloc (HG.out) _) _) _ | with_reducible exact only_alloc (only_alloc (only_alloc (only_drew (HG.out)) _) _) _ | with_reducible exact only_drew (only_alloc (only_alloc (only_alloc (HG.out) _) _) _)) g_); replace HR := Lib.hid r_; clear hq3; replace HT := Lib.hid (own_only2 HT.out g_ (by omega)); replace HV := Lib.hid (own_only2 HV.out g_ (by omega)); clear r_ g_)
  have HTB : Hid (∀ k, obA C = some k → w.heap.size ≤ k ∧ k < w3.heap.size) := Lib.hid (own_ob HT.out)
  refine (spec_Perform B C cb cc v ts (1 + (k3 : Int)) w3 (RdR.of_own HV.out) (RdR.of_own HT.out) (by omega) (by omega)).mono ?_
  have hpl := perfL_len v ts (1 + (k3 : Int))
  generalize hES : perfL v ts (1 + (k3 : Int)) = E at *
  rintro e w4 ⟨A, ca, rfl, oE, b4⟩
  have z4 := b4.size
  replace HT := Lib.hid (own_bel HT.out b4)
  replace HG := Lib.hid (only_below HG.out (b4.mono (by omega)))
  replace HR := Lib.hid (HR.out.below b4 (by omega))
  generalize hEL : E.length = L at *
  have HE : Hid (EvR w4 w3.heap.size A L ca) := Lib.hid ⟨E, hEL, oE⟩
  clear b4 oE HV hES hEL
  -- here the printed part begins
  go_wp2_with fail
  go_loopw [8] (fun i wr => ∃ k : Nat, k ≤ L ∧ i = .int .i64 k ∧ EvR wr w3.heap.size A L ca ∧ wr.ownsRow w.heap.size 40 2 (.slice C ts.length cc) ts.length (fl encTempo ts) ∧ Rdr wr g (q + 190 + 3 * k) ∧ w.grownBy wr (some g) ∧ w3.heap.size ≤ wr.heap.size) (fun i _ => L - (intOf i).toNat)
  case atStart => exact ⟨0, Nat.zero_le _, rfl, HE.out, HT.out, HR.out.more (by omega), HG.out, z4⟩
  case round =>
    clear HE HT HR HG
    obtain ⟨k, hk, rfl, he, ht, hrd, hgr, zr3⟩ := hrel
    have zr := hgr.size
    have HR := Lib.hid hrd; have HG := Lib.hid hgr; have HE := Lib.hid he; have HT := Lib.hid ht
    clear hrd hgr he ht
    by_cases hlt2 : k < L
    · have hi1 : ((k : Int) < (L : Int)) = True := eq_true (by omega)
      have hi2 : (k : Int) < (L : Int) := by omega
      have hin : (k : Int).toNat = k := by omega
      obtain ⟨ga, rfl, hga1, hga2⟩ := HE.out.form (by omega)
      go_upto_if 26 with (go_at_call_of 27 (Value.int IntKind.i64 2); refine (l20_pk g _ 2 _ (by first | with_reducible exact HR.out | with_reducible exact (HR.out).drew | with_reducible exact (HR.out).alloc1 _ | with_reducible exact ((HR.out).drew).alloc1 _ | with_reducible exact ((HR.out).alloc1 _).drew | with_reducible exact ((HR.out).alloc1 _).alloc1 _ | with_reducible exact (((HR.out).drew).alloc1 _).alloc1 _ | with_reducible exact (((HR.out).alloc1 _).alloc1 _).drew | with_reducible exact (((HR.out).alloc1 _).alloc1 _).alloc1 _ | with_reducible exact ((((HR.out).drew).alloc1 _).alloc1 _).alloc1 _ | with_reducible exact ((((HR.out).alloc1 _).alloc1 _).alloc1 _).drew) (by omega) (by omega)).mono ?_; rintro e w5 ⟨k5, rfl, hk5, r_, g_⟩; have z5 := g_.size; (try simp only [World.size_alloc, size_drew] at z5); have hne5 : ¬ w5.heap.size = g := (by omega); have hnf5 : ¬ w5.heap.size + 1 = g := (by omega); have hnh5 : ¬ w5.heap.size + 1 + 1 = g := (by omega); have hq5 := only_cells g_; replace HG := Lib.hid (only_trans (by first | with_reducible exact HG.out | with_reducible exact only_drew (HG.out) | with_reducible exact only_alloc (HG.out) _ | with_reducible exact only_alloc (only_drew (HG.out)) _ | with_reducible exact only_drew (only_alloc (HG.out) _) | with_reducible exact only_alloc (only_alloc (HG.out) _) _ | with_reducible exact only_alloc (only_alloc (only_drew (HG.out)) _) _ | with_reducible exact only_drew (only_alloc (only_alloc (HG.out) _) _) | with_reducible exact only_alloc (only_alloc (only_alloc (HG.out) _) _) _ | with_reducible exact only_alloc (only_alloc (only_alloc (only_drew (HG.out)) _) _) _ | with_reducible exact only_drew (only_alloc (only_alloc (only_alloc (HG.out) _) _) _)) g_); replace HR := Lib.hid r_; clear hq5; replace HE := Lib.hid (HE.out.only g_ (by omega)); replace HT := Lib.hid (own_only2 HT.out g_ (by omega)); clear r_ g_)
      by_cases hk5 : k5 = 0
      case neg =>
        have hk6 : ((k5 : Int) == 0) = false := by simp; omega
        have HX := Lib.hid trivial
        have hlw : w3.heap.size ≤ w5.heap.size := by omega
        go_upto_if 62 with (go_at_call 56; refine (l20_oddn g _ n _ HR.out (by omega) hn).mono ?_; rintro e w7 ⟨v7, rfl, r_, g_⟩; have z7 := g_.size; replace HE := Lib.hid (HE.out.only g_ (by omega)); replace HT := Lib.hid (own_only2 HT.out g_ (by omega)); replace HG := Lib.hid (only_trans HG.out g_); replace HR := Lib.hid r_; clear r_ g_)
        cases v7
        · obtain ⟨es, rfl, hoe⟩ := HE.out
          go_wp2_with fail
          go_ret2
          exact ⟨_, C, ca, cc, es, ts, rfl, by omega, hts, own_mono hoe (by omega), HT.out, HR.out.more (by omega), HG.out⟩
        · go_upto_region 11 with (go_at_call_of 27 (Value.int IntKind.i64 4); refine (l20_pk g _ 4 _ (by first | with_reducible exact HR.out | with_reducible exact (HR.out).drew | with_reducible exact (HR.out).alloc1 _ | with_reducible exact ((HR.out).drew).alloc1 _ | with_reducible exact ((HR.out).alloc1 _).drew | with_reducible exact ((HR.out).alloc1 _).alloc1 _ | with_reducible exact (((HR.out).drew).alloc1 _).alloc1 _ | with_reducible exact (((HR.out).alloc1 _).alloc1 _).drew | with_reducible exact (((HR.out).alloc1 _).alloc1 _).alloc1 _ | with_reducible exact ((((HR.out).drew).alloc1 _).alloc1 _).alloc1 _ | with_reducible exact ((((HR.out).alloc1 _).alloc1 _).alloc1 _).drew) (by omega) (by omega)).mono ?_; rintro e w8 ⟨k8, rfl, hk8, r_, g_⟩; have z8 := g_.size; (try simp only [World.size_alloc, size_drew] at z8); have hne8 : ¬ w8.heap.size = g := (by omega); have hnf8 : ¬ w8.heap.size + 1 = g := (by omega); have hnh8 : ¬ w8.heap.size + 1 + 1 = g := (by omega); have hq8 := only_cells g_; replace HG := Lib.hid (only_trans (by first | with_reducible exact HG.out | with_reducible exact only_drew (HG.out) | with_reducible exact only_alloc (HG.out) _ | with_reducible exact only_alloc (only_drew (HG.out)) _ | with_reducible exact only_drew (only_alloc (HG.out) _) | with_reducible exact only_alloc (only_alloc (HG.out) _) _ | with_reducible exact only_alloc (only_alloc (only_drew (HG.out)) _) _ | with_reducible exact only_drew (only_alloc (only_alloc (HG.out) _) _) | with_reducible exact only_alloc (only_alloc (only_alloc (HG.out) _) _) _ | with_reducible exact only_alloc (only_alloc (only_alloc (only_drew (HG.out)) _) _) _ | with_reducible exact only_drew (only_alloc (only_alloc (only_alloc (HG.out) _) _) _)) g_); replace HR := Lib.hid r_; clear hq8; replace HE := Lib.hid (HE.out.only g_ (by omega)); replace HT := Lib.hid (own_only2 HT.out g_ (by omega)); clear r_ g_)
          obtain ⟨es, hEs, hoe⟩ := HE.out
          have hoe2 : w8.ownsRow w3.heap.size 46 4 (.slice (some ⟨ga, 0, none⟩) es.length ca) es.length (fl encEvent es) := by rw [hEs]; exact hoe
          have HO := Lib.hid hoe2
          have HOB2 := Lib.hid (own_ob hoe)
          have hpl2 : L ≤ 60 := hpl
          rw [← hEs] at hpl
          rw [← hEs]
          clear hoe hoe2 HE HX hEs
          have hkc : ((k8 : Int) == 0) = true ∨ (((k8 : Int) == 0) = false ∧ ((k8 : Int) == 1) = true) ∨ (((k8 : Int) == 0) = false ∧ ((k8 : Int) == 1) = false ∧ ((k8 : Int) == 2) = true) ∨ (((k8 : Int) == 0) = false ∧ ((k8 : Int) == 1) = false ∧ ((k8 : Int) == 2) = false) := by simp; omega
          have hdj : ∀ g9, obA C = some g9 → obA (some ⟨ga, 0, none⟩) ≠ some g9 := fun g9 e1 e2 => by have h1 := HTB.out g9 e1; have h2 := HOB2.out g9 e2; omega
          have HDJ := Lib.hid hdj
          clear hdj
          rcases hkc with g0 | ⟨g0, g1⟩ | ⟨g0, g1, g2⟩ | ⟨g0, g1, g2⟩
          · go_wp2_with (at_builtin; refine app_recs (enc := encEvent) encEvent_len rfl _ _ 28 rfl (w3.heap.size) 46 i0 (.agg #[Value.int .i64 0, Value.int .i64 0, Value.int .i64 0, Value.int .i64 0]) 32 Try.underlying28 HI.out H0.out H1.out H2.out rfl (by decide) (by decide) w8 (some ⟨ga, 0, none⟩) ca es HO.out (by omega) (by omega) rfl [(-1, 1, 1, 1)] 1 rfl (by decide) (by decide) [.int .i64 (-1), .int .i64 1, .int .i64 1, .int .i64 1] rfl (by simp [Value.oneCell']) (World.heap w8).size rfl rfl ?_; intro g4 cap4 w4 o_ gr_; have O4 := Lib.hid o_; have G4 := Lib.hid gr_; clear o_ gr_)
            go_ret2
            exact ⟨some ⟨g4, 0, none⟩, C, cap4, cc, es ++ [(-1, 1, 1, 1)], ts, by simp, by simp; omega, hts, by rw [List.length_append]; exact own_mono O4.out (by omega), G4.out.own HT.out HDJ.out, (rdr_grw HR.out G4.out (fun k e9 => by have := HOB2.out k e9; omega)).more (by omega), only_grw HG.out G4.out (fun k e9 => by have := HOB2.out k e9; omega)⟩
          · go_wp2_with (at_builtin; refine app_recs (enc := encEvent) encEvent_len rfl _ _ 28 rfl (w3.heap.size) 46 i0 (.agg #[Value.int .i64 0, Value.int .i64 0, Value.int .i64 0, Value.int .i64 0]) 32 Try.underlying28 HI.out H0.out H1.out H2.out rfl (by decide) (by decide) w8 (some ⟨ga, 0, none⟩) ca es HO.out (by omega) (by omega) rfl [(5, 5, 1, 1)] 1 rfl (by decide) (by decide) [.int .i64 5, .int .i64 5, .int .i64 1, .int .i64 1] rfl (by simp [Value.oneCell']) (World.heap w8).size rfl rfl ?_; intro g4 cap4 w4 o_ gr_; have O4 := Lib.hid o_; have G4 := Lib.hid gr_; clear o_ gr_)
            go_ret2
            exact ⟨some ⟨g4, 0, none⟩, C, cap4, cc, es ++ [(5, 5, 1, 1)], ts, by simp, by simp; omega, hts, by rw [List.length_append]; exact own_mono O4.out (by omega), G4.out.own HT.out HDJ.out, (rdr_grw HR.out G4.out (fun k e9 => by have := HOB2.out k e9; omega)).more (by omega), only_grw HG.out G4.out (fun k e9 => by have := HOB2.out k e9; omega)⟩
          · go_wp2_with (at_builtin; refine app_recs (enc := encEvent) encEvent_len rfl _ _ 28 rfl (w3.heap.size) 46 i0 (.agg #[Value.int .i64 0, Value.int .i64 0, Value.int .i64 0, Value.int .i64 0]) 32 Try.underlying28 HI.out H0.out H1.out H2.out rfl (by decide) (by decide) w8 (some ⟨ga, 0, none⟩) ca es HO.out (by omega) (by omega) rfl [(0, 9, 108, 1)] 1 rfl (by decide) (by decide) [.int .i64 0, .int .i64 9, .int .i64 108, .int .i64 1] rfl (by simp [Value.oneCell']) (World.heap w8).size rfl rfl ?_; intro g4 cap4 w4 o_ gr_; have O4 := Lib.hid o_; have G4 := Lib.hid gr_; clear o_ gr_)
            go_ret2
            exact ⟨some ⟨g4, 0, none⟩, C, cap4, cc, es ++ [(0, 9, 108, 1)], ts, by simp, by simp; omega, hts, by rw [List.length_append]; exact own_mono O4.out (by omega), G4.out.own HT.out HDJ.out, (rdr_grw HR.out G4.out (fun k e9 => by have := HOB2.out k e9; omega)).more (by omega), only_grw HG.out G4.out (fun k e9 => by have := HOB2.out k e9; omega)⟩
          · go_wp2_with (at_builtin; refine app_recs (enc := encEvent) encEvent_len rfl _ _ 28 rfl (w3.heap.size) 46 i0 (.agg #[Value.int .i64 0, Value.int .i64 0, Value.int .i64 0, Value.int .i64 0]) 32 Try.underlying28 HI.out H0.out H1.out H2.out rfl (by decide) (by decide) w8 (some ⟨ga, 0, none⟩) ca es HO.out (by omega) (by omega) rfl [(0, 5, 1, 1), (4, 9, 1, 1)] 2 rfl (by decide) (by decide) [.int .i64 0, .int .i64 5, .int .i64 1, .int .i64 1, .int .i64 4, .int .i64 9, .int .i64 1, .int .i64 1] rfl (by simp [Value.oneCell']) (World.heap w8).size rfl rfl ?_; intro g4 cap4 w4 o_ gr_; have O4 := Lib.hid o_; have G4 := Lib.hid gr_; clear o_ gr_)
            go_ret2
            exact ⟨some ⟨g4, 0, none⟩, C, cap4, cc, es ++ [(0, 5, 1, 1), (4, 9, 1, 1)], ts, by simp, by simp; omega, hts, by rw [List.length_append]; exact own_mono O4.out (by omega), G4.out.own HT.out HDJ.out, (rdr_grw HR.out G4.out (fun k e9 => by have := HOB2.out k e9; omega)).more (by omega), only_grw HG.out G4.out (fun k e9 => by have := HOB2.out k e9; omega)⟩
      case pos =>
        have hk6 : ((k5 : Int) == 0) = true := by simp; omega
        clear hk5
        obtain ⟨xa, da⟩ : ∃ xa : Int, w5.cell? ⟨ga, k * 4, none⟩ = some (.int .i64 xa) := HE.out.cell hlt2 (show 0 < 4 by decide)
        obtain ⟨xb, db⟩ := HE.out.cell hlt2 (show 1 < 4 by decide)
        have fa := HE.out.frozen (k := k * 4); have fb := HE.out.frozen (k := k * 4 + 1)
        go_upto_region 6 with fail
        go_region_with (first | (go_at_call 27; refine (l20_pk g _ 50 _ HR.out.drew (by omega) (by omega)).mono ?_; rintro e w6 ⟨k6, rfl, hk6, r_, g_⟩; have z6 : w5.heap.size ≤ w6.heap.size := g_.size; have HE6 := Lib.hid (HE.out.drew.only g_ (by omega)); have HT6 := Lib.hid (own_only2 (own_drew HT.out) g_ (by omega)); have HR6 := Lib.hid r_; have HG6 := Lib.hid (only_trans (only_drew HG.out) g_); have da6 := (only_cells g_ ga (k * 4) (by omega) (show ga < w5.heap.size by omega)).trans da; have db6 := (only_cells g_ ga (k * 4 + 1) (by omega) (show ga < w5.heap.size by omega)).trans db; have fa6 := HE6.out.frozen (k := k * 4); have fb6 := HE6.out.frozen (k := k * 4 + 1); clear r_ g_))
        all_goals
          clear HE HT HR HG da db fa fb
          have HE := Lib.hid (show EvR (w6.setCell ⟨ga, k * 4, none⟩ (.int .i64 (IntKind.i64.wrap (xa + (k6 : Int))))) w3.heap.size (some ⟨ga, 0, none⟩) L ca from HE6.out.set hlt2 (show 0 < 4 by decide) _)
          have HT := Lib.hid (own_far HT6.out (p := ⟨ga, k * 4, none⟩) (fun e9 => by have h9 := HTB.out _ e9; dsimp only at h9; omega) (.int .i64 (IntKind.i64.wrap (xa + (k6 : Int)))))
          have HR := Lib.hid (HR6.out.setFar (p := ⟨ga, k * 4, none⟩) (by dsimp only; omega) (.int .i64 (IntKind.i64.wrap (xa + (k6 : Int)))))
          have HG := Lib.hid (only_setCell HG6.out (p := ⟨ga, k * 4, none⟩) (.inr (by dsimp only; omega)) (.int .i64 (IntKind.i64.wrap (xa + (k6 : Int)))))
          have zy : w6.heap.size ≤ (w6.setCell ⟨ga, k * 4, none⟩ (.int .i64 (IntKind.i64.wrap (xa + (k6 : Int))))).heap.size := by simp
          clear HE6 HT6 HR6 HG6 da6 db6 fa6 fb6
          generalize w6.setCell ⟨ga, k * 4, none⟩ (.int .i64 (IntKind.i64.wrap (xa + (k6 : Int)))) = wy at *
          obtain ⟨xa2, da⟩ : ∃ xa : Int, wy.cell? ⟨ga, k * 4, none⟩ = some (.int .i64 xa) := HE.out.cell hlt2 (show 0 < 4 by decide)
          obtain ⟨xb2, db⟩ := HE.out.cell hlt2 (show 1 < 4 by decide)
          have fa := HE.out.frozen (k := k * 4); have fb := HE.out.frozen (k := k * 4 + 1)
          go_upto_region 7 with fail
          go_region_with (first | (go_at_call 27; refine (l20_pk g _ 50 _ HR.out.drew (by omega) (by omega)).mono ?_; rintro e w7 ⟨k7, rfl, hk7, r_, g_⟩; have z7 : wy.heap.size ≤ w7.heap.size := g_.size; have HE7 := Lib.hid (HE.out.drew.only g_ (by omega)); have HT7 := Lib.hid (own_only2 (own_drew HT.out) g_ (by omega)); have HR7 := Lib.hid r_; have HG7 := Lib.hid (only_trans (only_drew HG.out) g_); have da7 := (only_cells g_ ga (k * 4) (by omega) (show ga < wy.heap.size by omega)).trans da; have db7 := (only_cells g_ ga (k * 4 + 1) (by omega) (show ga < wy.heap.size by omega)).trans db; have fa7 := HE7.out.frozen (k := k * 4); have fb7 := HE7.out.frozen (k := k * 4 + 1); clear r_ g_))
          all_goals
            go_wp2_with fail
          all_goals
            go_roundw
            case' rel => exact ⟨k + 1, by omega, by go_num, HE7.out.set hlt2 (show 1 < 4 by decide) _, own_far HT7.out (fun e9 => by have h9 := HTB.out _ e9; dsimp only at h9; omega) _, (HR7.out.setFar (by dsimp only; omega) _).more (by omega), only_setCell HG7.out (.inr (by dsimp only; omega)) _, by simp; omega⟩
            case' measure => simp [intOf]; omega
    · have hi1 : ((k : Int) < (L : Int)) = False := eq_false (by omega)
      have HX := Lib.hid trivial
      have hlw : w3.heap.size ≤ wr.heap.size := by omega
      go_upto_if 62 with (go_at_call 56; refine (l20_oddn g _ n _ HR.out (by omega) hn).mono ?_; rintro e w7 ⟨v7, rfl, r_, g_⟩; have z7 := g_.size; replace HE := Lib.hid (HE.out.only g_ (by omega)); replace HT := Lib.hid (own_only2 HT.out g_ (by omega)); replace HG := Lib.hid (only_trans HG.out g_); replace HR := Lib.hid r_; clear r_ g_)
      cases v7
      · obtain ⟨es, rfl, hoe⟩ := HE.out
        go_wp2_with fail
        go_ret2
        exact ⟨_, C, ca, cc, es, ts, rfl, by omega, hts, own_mono hoe (by omega), HT.out, HR.out.more (by omega), HG.out⟩
      · go_upto_region 11 with (go_at_call_of 27 (Value.int IntKind.i64 4); refine (l20_pk g _ 4 _ (by first | with_reducible exact HR.out | with_reducible exact (HR.out).drew | with_reducible exact (HR.out).alloc1 _ | with_reducible exact ((HR.out).drew).alloc1 _ | with_reducible exact ((HR.out).alloc1 _).drew | with_reducible exact ((HR.out).alloc1 _).alloc1 _ | with_reducible exact (((HR.out).drew).alloc1 _).alloc1 _ | with_reducible exact (((HR.out).alloc1 _).alloc1 _).drew | with_reducible exact (((HR.out).alloc1 _).alloc1 _).alloc1 _ | with_reducible exact ((((HR.out).drew).alloc1 _).alloc1 _).alloc1 _ | with_reducible exact ((((HR.out).alloc1 _).alloc1 _).alloc1 _).drew) (by omega) (by omega)).mono ?_; rintro e w8 ⟨k8, rfl, hk8, r_, g_⟩; have z8 := g_.size; (try simp only [World.size_alloc, size_drew] at z8); have hne8 : ¬ w8.heap.size = g := (by omega); have hnf8 : ¬ w8.heap.size + 1 = g := (by omega); have hnh8 : ¬ w8.heap.size + 1 + 1 = g := (by omega); have hq8 := only_cells g_; replace HG := Lib.hid (only_trans (by first | with_reducible exact HG.out | with_reducible exact only_drew (HG.out) | with_reducible exact only_alloc (HG.out) _ | with_reducible exact only_alloc (only_drew (HG.out)) _ | with_reducible exact only_drew (only_alloc (HG.out) _) | with_reducible exact only_alloc (only_alloc (HG.out) _) _ | with_reducible exact only_alloc (only_alloc (only_drew (HG.out)) _) _ | with_reducible exact only_drew (only_alloc (only_alloc (HG.out) _) _) | with_reducible exact only_alloc (only_alloc (only_alloc (HG.out) _) _) _ | with_reducible exact only_alloc (only_alloc (only_alloc (only_drew (HG.out)) _) _) _ | with_reducible exact only_drew (only_alloc (only_alloc (only_alloc (HG.out) _) _) _)) g_); replace HR := Lib.hid r_; clear hq8; replace HE := Lib.hid (HE.out.only g_ (by omega)); replace HT := Lib.hid (own_only2 HT.out g_ (by omega)); clear r_ g_)
        obtain ⟨es, hEs, hoe⟩ := HE.out
        have hoe2 : w8.ownsRow w3.heap.size 46 4 (.slice A es.length ca) es.length (fl encEvent es) := by rw [hEs]; exact hoe
        have HO := Lib.hid hoe2
        have HOB2 := Lib.hid (own_ob hoe)
        have hpl2 : L ≤ 60 := hpl
        rw [← hEs] at hpl
        rw [← hEs]
        clear hoe hoe2 HE HX hEs
        have hkc : ((k8 : Int) == 0) = true ∨ (((k8 : Int) == 0) = false ∧ ((k8 : Int) == 1) = true) ∨ (((k8 : Int) == 0) = false ∧ ((k8 : Int) == 1) = false ∧ ((k8 : Int) == 2) = true) ∨ (((k8 : Int) == 0) = false ∧ ((k8 : Int) == 1) = false ∧ ((k8 : Int) == 2) = false) := by simp; omega
        have hdj : ∀ g9, obA C = some g9 → obA A ≠ some g9 := fun g9 e1 e2 => by have h1 := HTB.out g9 e1; have h2 := HOB2.out g9 e2; omega
        have HDJ := Lib.hid hdj
        clear hdj
        rcases hkc with g0 | ⟨g0, g1⟩ | ⟨g0, g1, g2⟩ | ⟨g0, g1, g2⟩
        · go_wp2_with (at_builtin; refine app_recs (enc := encEvent) encEvent_len rfl _ _ 28 rfl (w3.heap.size) 46 i0 (.agg #[Value.int .i64 0, Value.int .i64 0, Value.int .i64 0, Value.int .i64 0]) 32 Try.underlying28 HI.out H0.out H1.out H2.out rfl (by decide) (by decide) w8 A ca es HO.out (by omega) (by omega) rfl [(-1, 1, 1, 1)] 1 rfl (by decide) (by decide) [.int .i64 (-1), .int .i64 1, .int .i64 1, .int .i64 1] rfl (by simp [Value.oneCell']) (World.heap w8).size rfl rfl ?_; intro g4 cap4 w4 o_ gr_; have O4 := Lib.hid o_; have G4 := Lib.hid gr_; clear o_ gr_)
          go_ret2
          exact ⟨some ⟨g4, 0, none⟩, C, cap4, cc, es ++ [(-1, 1, 1, 1)], ts, by simp, by simp; omega, hts, by rw [List.length_append]; exact own_mono O4.out (by omega), G4.out.own HT.out HDJ.out, (rdr_grw HR.out G4.out (fun k e9 => by have := HOB2.out k e9; omega)).more (by omega), only_grw HG.out G4.out (fun k e9 => by have := HOB2.out k e9; omega)⟩
        · go_wp2_with (at_builtin; refine app_recs (enc := encEvent) encEvent_len rfl _ _ 28 rfl (w3.heap.size) 46 i0 (.agg #[Value.int .i64 0, Value.int .i64 0, Value.int .i64 0, Value.int .i64 0]) 32 Try.underlying28 HI.out H0.out H1.out H2.out rfl (by decide) (by decide) w8 A ca es HO.out (by omega) (by omega) rfl [(5, 5, 1, 1)] 1 rfl (by decide) (by decide) [.int .i64 5, .int .i64 5, .int .i64 1, .int .i64 1] rfl (by simp [Value.oneCell']) (World.heap w8).size rfl rfl ?_; intro g4 cap4 w4 o_ gr_; have O4 := Lib.hid o_; have G4 := Lib.hid gr_; clear o_ gr_)
          go_ret2
          exact ⟨some ⟨g4, 0, none⟩, C, cap4, cc, es ++ [(5, 5, 1, 1)], ts, by simp, by simp; omega, hts, by rw [List.length_append]; exact own_mono O4.out (by omega), G4.out.own HT.out HDJ.out, (rdr_grw HR.out G4.out (fun k e9 => by have := HOB2.out k e9; omega)).more (by omega), only_grw HG.out G4.out (fun k e9 => by have := HOB2.out k e9; omega)⟩
        · go_wp2_with (at_builtin; refine app_recs (enc := encEvent) encEvent_len rfl _ _ 28 rfl (w3.heap.size) 46 i0 (.agg #[Value.int .i64 0, Value.int .i64 0, Value.int .i64 0, Value.int .i64 0]) 32 Try.underlying28 HI.out H0.out H1.out H2.out rfl (by decide) (by decide) w8 A ca es HO.out (by omega) (by omega) rfl [(0, 9, 108, 1)] 1 rfl (by decide) (by decide) [.int .i64 0, .int .i64 9, .int .i64 108, .int .i64 1] rfl (by simp [Value.oneCell']) (World.heap w8).size rfl rfl ?_; intro g4 cap4 w4 o_ gr_; have O4 := Lib.hid o_; have G4 := Lib.hid gr_; clear o_ gr_)
          go_ret2
          exact ⟨some ⟨g4, 0, none⟩, C, cap4, cc, es ++ [(0, 9, 108, 1)], ts, by simp, by simp; omega, hts, by rw [List.length_append]; exact own_mono O4.out (by omega), G4.out.own HT.out HDJ.out, (rdr_grw HR.out G4.out (fun k e9 => by have := HOB2.out k e9; omega)).more (by omega), only_grw HG.out G4.out (fun k e9 => by have := HOB2.out k e9; omega)⟩
        · go_wp2_with (at_builtin; refine app_recs (enc := encEvent) encEvent_len rfl _ _ 28 rfl (w3.heap.size) 46 i0 (.agg #[Value.int .i64 0, Value.int .i64 0, Value.int .i64 0, Value.int .i64 0]) 32 Try.underlying28 HI.out H0.out H1.out H2.out rfl (by decide) (by decide) w8 A ca es HO.out (by omega) (by omega) rfl [(0, 5, 1, 1), (4, 9, 1, 1)] 2 rfl (by decide) (by decide) [.int .i64 0, .int .i64 5, .int .i64 1, .int .i64 1, .int .i64 4, .int .i64 9, .int .i64 1, .int .i64 1] rfl (by simp [Value.oneCell']) (World.heap w8).size rfl rfl ?_; intro g4 cap4 w4 o_ gr_; have O4 := Lib.hid o_; have G4 := Lib.hid gr_; clear o_ gr_)
          go_ret2
          exact ⟨some ⟨g4, 0, none⟩, C, cap4, cc, es ++ [(0, 5, 1, 1), (4, 9, 1, 1)], ts, by simp, by simp; omega, hts, by rw [List.length_append]; exact own_mono O4.out (by omega), G4.out.own HT.out HDJ.out, (rdr_grw HR.out G4.out (fun k e9 => by have := HOB2.out k e9; omega)).more (by omega), only_grw HG.out G4.out (fun k e9 => by have := HOB2.out k e9; omega)⟩
end Go.Proofs.Ytgnbnedjocolcaa
