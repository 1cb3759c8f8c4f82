/- Contract of the draw of an interval. No condition but bounds on the bytes. -/
import Derived.Test.YtnkoijkelcjloaaMrg2
import Derived.Test.YtnkoijkelcjloaaIvl2
import Derived.Deep.RegionLaw
namespace Go.Proofs.Ytnkoijkelcjloaa
open Go.RowKit
set_option linter.unusedSimpArgs false
set_option linter.unusedVariables false
set_option maxRecDepth 100000
/-- an interval in its box, and the result's cells -/
def StW (w wr : World) (g q pb : Nat) : Prop := ∃ s h : Int, Blk wr pb 30 #[.int .i64 s, .int .i64 h] ∧ Rdr wr g q ∧ w.grownBy wr (some g) ∧ Blk wr w.heap.size 30 #[.int .i64 0, .int .i64 0] ∧ pb < wr.heap.size ∧ w.heap.size < pb
set_option maxHeartbeats 4000000 in
theorem spec_l20Way (g q : Nat) (n : Int) (w : World) (hr : Rdr w g q) (hq : q ≤ 900000) (hn : 0 ≤ n ∧ n ≤ 1000000) :
    Calls Try.prog 17 #[.pointer (some ⟨g, 0, none⟩), .int .i64 n] w fun e w' => ∃ s h : Int, e = .returned (.agg #[.int .i64 s, .int .i64 h]) ∧ Rdr w' g (q + 6) ∧ w.grownBy w' (some g) := by
  have hlt := hr.lt
  have HR := Lib.hid hr; have HG := Lib.hid (only_refl w (some g)); clear hr
  have HK := Lib.hid (Blk.new w 30 #[.int .i64 0, .int .i64 0])
  go_enter Try.func17, Try.ntmps17
  go_upto_region 2 with (first
    | (go_at_call_of 40 (Value.int IntKind.i64 15); refine (l20_pk g _ 15 _ (by first | with_reducible exact HR.out | with_reducible exact (HR.out).drew | with_reducible exact (HR.out).alloc1 _ | with_reducible exact ((HR.out).drew).alloc1 _ | with_reducible exact ((HR.out).alloc1 _).drew | with_reducible exact ((HR.out).alloc1 _).alloc1 _ | with_reducible exact (((HR.out).drew).alloc1 _).alloc1 _ | with_reducible exact (((HR.out).alloc1 _).alloc1 _).drew | with_reducible exact (((HR.out).alloc1 _).alloc1 _).alloc1 _ | with_reducible exact ((((HR.out).drew).alloc1 _).alloc1 _).alloc1 _ | with_reducible exact ((((HR.out).alloc1 _).alloc1 _).alloc1 _).drew) (by omega) (by omega)).mono ?_; rintro e w2 ⟨k2, rfl, hk2, r_, g_⟩; have z2 := g_.size; (try simp only [World.size_alloc, size_drew] at z2); have hne2 : ¬ w2.heap.size = g := (by omega); have hnf2 : ¬ w2.heap.size + 1 = g := (by omega); have hnh2 : ¬ w2.heap.size + 1 + 1 = g := (by omega); have hq2 := only_cells g_; replace HG := Lib.hid (only_trans (by first | with_reducible exact HG.out | with_reducible exact only_drew (HG.out) | with_reducible exact only_alloc (HG.out) _ | with_reducible exact only_alloc (only_drew (HG.out)) _ | with_reducible exact only_drew (only_alloc (HG.out) _) | with_reducible exact only_alloc (only_alloc (HG.out) _) _ | with_reducible exact only_alloc (only_alloc (only_drew (HG.out)) _) _ | with_reducible exact only_drew (only_alloc (only_alloc (HG.out) _) _) | with_reducible exact only_alloc (only_alloc (only_alloc (HG.out) _) _) _ | with_reducible exact only_alloc (only_alloc (only_alloc (only_drew (HG.out)) _) _) _ | with_reducible exact only_drew (only_alloc (only_alloc (only_alloc (HG.out) _) _) _)) g_); replace HR := Lib.hid r_; replace HK := Lib.hid (HK.out.only g_ (by omega)); clear hq2; have hw2 : IntKind.i64.wrap ((k2 : Int) - 7) = (k2 : Int) - 7 := IntWalk.i64_in _ (by omega); clear r_ g_))
  generalize hz : (k2 : Int) - 7 = z at *
  have hz1 : -7 ≤ z ∧ z ≤ 7 := by omega
  clear hz
  have hwn : IntKind.i64.wrap (-z) = -z := IntWalk.i64_in _ (by omega)
  obtain ⟨a, ha, ha0, ha7⟩ : ∃ a : Int, (if z < -z then -z else z) = a ∧ 0 ≤ a ∧ a ≤ 7 := ⟨_, rfl, by split <;> omega, by split <;> omega⟩
  have hnl := natL_bd ha0
  go_upto_region 3 with (first
    | (go_at_call 45; refine (spec_l1NaturalW a _ ha0 (by omega)).mono ?_; rintro e w3 ⟨rfl, b_⟩; have z3 := b_.size; have g_ := only_of_below b_ (some g); replace HK := Lib.hid (HK.out.below b_ (by omega)); replace HR := Lib.hid (HR.out.below b_ (by omega)); replace HG := Lib.hid (only_trans HG.out g_); clear b_ g_)
    | (go_at_call_of 40 (Value.int IntKind.i64 7); refine (l20_pk g _ 7 _ (by first | with_reducible exact HR.out | with_reducible exact (HR.out).drew | with_reducible exact (HR.out).alloc1 _ | with_reducible exact ((HR.out).drew).alloc1 _ | with_reducible exact ((HR.out).alloc1 _).drew | with_reducible exact ((HR.out).alloc1 _).alloc1 _ | with_reducible exact (((HR.out).drew).alloc1 _).alloc1 _ | with_reducible exact (((HR.out).alloc1 _).alloc1 _).drew | with_reducible exact (((HR.out).alloc1 _).alloc1 _).alloc1 _ | with_reducible exact ((((HR.out).drew).alloc1 _).alloc1 _).alloc1 _ | with_reducible exact ((((HR.out).alloc1 _).alloc1 _).alloc1 _).drew) (by omega) (by omega)).mono ?_; rintro e w4 ⟨k4, rfl, hk4, r_, g_⟩; have z4 := g_.size; (try simp only [World.size_alloc, size_drew] at z4); have hne4 : ¬ w4.heap.size = g := (by omega); have hnf4 : ¬ w4.heap.size + 1 = g := (by omega); have hnh4 : ¬ w4.heap.size + 1 + 1 = g := (by omega); have hq4 := only_cells g_; replace HG := Lib.hid (only_trans (by first | with_reducible exact HG.out | with_reducible exact only_drew (HG.out) | with_reducible exact only_alloc (HG.out) _ | with_reducible exact only_alloc (only_drew (HG.out)) _ | with_reducible exact only_drew (only_alloc (HG.out) _) | with_reducible exact only_alloc (only_alloc (HG.out) _) _ | with_reducible exact only_alloc (only_alloc (only_drew (HG.out)) _) _ | with_reducible exact only_drew (only_alloc (only_alloc (HG.out) _) _) | with_reducible exact only_alloc (only_alloc (only_alloc (HG.out) _) _) _ | with_reducible exact only_alloc (only_alloc (only_alloc (only_drew (HG.out)) _) _) _ | with_reducible exact only_drew (only_alloc (only_alloc (only_alloc (HG.out) _) _) _)) g_); replace HR := Lib.hid r_; clear hq4; replace HK := Lib.hid (HK.out.only g_ (by omega)); have hw4 : IntKind.i64.wrap ((k4 : Int) - 3) = (k4 : Int) - 3 := IntWalk.i64_in _ (by omega); clear r_ g_)
    | (go_at_call_of 40 (Value.int IntKind.i64 6); refine (l20_pk g _ 6 _ (by first | with_reducible exact HR.out | with_reducible exact (HR.out).drew | with_reducible exact (HR.out).alloc1 _ | with_reducible exact ((HR.out).drew).alloc1 _ | with_reducible exact ((HR.out).alloc1 _).drew | with_reducible exact ((HR.out).alloc1 _).alloc1 _ | with_reducible exact (((HR.out).drew).alloc1 _).alloc1 _ | with_reducible exact (((HR.out).alloc1 _).alloc1 _).drew | with_reducible exact (((HR.out).alloc1 _).alloc1 _).alloc1 _ | with_reducible exact ((((HR.out).drew).alloc1 _).alloc1 _).alloc1 _ | with_reducible exact ((((HR.out).alloc1 _).alloc1 _).alloc1 _).drew) (by omega) (by omega)).mono ?_; rintro e w5 ⟨k5, rfl, hk5, r_, g_⟩; have z5 := g_.size; (try simp only [World.size_alloc, size_drew] at z5); have hne5 : ¬ w5.heap.size = g := (by omega); have hnf5 : ¬ w5.heap.size + 1 = g := (by omega); have hnh5 : ¬ w5.heap.size + 1 + 1 = g := (by omega); have hq5 := only_cells g_; replace HG := Lib.hid (only_trans (by first | with_reducible exact HG.out | with_reducible exact only_drew (HG.out) | with_reducible exact only_alloc (HG.out) _ | with_reducible exact only_alloc (only_drew (HG.out)) _ | with_reducible exact only_drew (only_alloc (HG.out) _) | with_reducible exact only_alloc (only_alloc (HG.out) _) _ | with_reducible exact only_alloc (only_alloc (only_drew (HG.out)) _) _ | with_reducible exact only_drew (only_alloc (only_alloc (HG.out) _) _) | with_reducible exact only_alloc (only_alloc (only_alloc (HG.out) _) _) _ | with_reducible exact only_alloc (only_alloc (only_alloc (only_drew (HG.out)) _) _) _ | with_reducible exact only_drew (only_alloc (only_alloc (only_alloc (HG.out) _) _) _)) g_); replace HR := Lib.hid r_; have hv5 := fun o => hq5 w4.heap.size o (by omega) (by simp); clear hq5; replace HK := Lib.hid ((HK.out.alloc _).only g_ (by omega)); obtain ⟨x, hxx, xlx, xhx⟩ := (show LitIn (-3) (3) (#[Value.int IntKind.i64 (0), Value.int IntKind.i64 (0), Value.int IntKind.i64 (0), Value.int IntKind.i64 (-1), Value.int IntKind.i64 (1), Value.int IntKind.i64 ((k4 : Int) - 3)]) from (fun k hk => by simp at hk; rcases k with _ | _ | _ | _ | _ | _ | _ | _ | k <;> first | exact ⟨_, rfl, by omega, by omega⟩ | exact ⟨_, rfl, by rw [IntWalk.i64_in _ (by omega)]; omega, by rw [IntWalk.i64_in _ (by omega)]; omega⟩ | omega)) k5 (by simp; omega); clear r_ g_))
  have HP := Lib.hid (Blk.new w5 30 #[.int .i64 z, .int .i64 (natL a + x)])
  replace HK := Lib.hid (HK.out.alloc (.cells #[.int .i64 z, .int .i64 (natL a + x)] 30))
  replace HR := Lib.hid (HR.out.alloc1 (.cells #[.int .i64 z, .int .i64 (natL a + x)] 30))
  replace HG := Lib.hid (only_alloc HG.out (.cells #[.int .i64 z, .int .i64 (natL a + x)] 30))
  have z6 : w5.heap.size + 1 ≤ (w5.alloc (.cells #[.int .i64 z, .int .i64 (natL a + x)] 30)).heap.size := by simp
  generalize w5.alloc (.cells #[.int .i64 z, .int .i64 (natL a + x)] 30) = w6 at *
  have hpb : w.heap.size < w5.heap.size := by omega
  generalize w5.heap.size = pb at *
  have hh : -10 ≤ natL a + x ∧ natL a + x ≤ 100 := by omega
  generalize natL a + x = h0 at *
  clear ha ha0 ha7 hnl hv5 hwn
  go_upto_if 27 with fail
  go_cut [] from 26 (fun wx => ∃ h : Int, Blk wx pb 30 #[.int .i64 z, .int .i64 h] ∧ Rdr wx g (q + 3) ∧ w.grownBy wx (some g) ∧ Blk wx w.heap.size 30 #[.int .i64 0, .int .i64 0] ∧ pb < wx.heap.size)
  case first =>
    have e1 := HP.out.cell 1; have f1 := HP.out.frozen 1
    have hwh : IntKind.i64.wrap (-h0) = -h0 := IntWalk.i64_in _ (by omega)
    by_cases hzn : z < 0
    · have hd : decide (z < 0) = true := decide_eq_true hzn
      go_wp2_with fail
      go_meet
      case rel => exact ⟨_, HP.out.set_ 1 _, (HR.out.setFar (by simp; omega) _).more (by omega), only_setCell HG.out (.inr (by simp; omega)) _, HK.out.far (by simp; omega) _, by first | omega | (simp; omega)⟩
    · have hd : decide (z < 0) = false := decide_eq_false hzn
      go_wp2_with fail
      go_meet
      case rel => exact ⟨_, HP.out, HR.out.more (by omega), HG.out, HK.out, by omega⟩
  case rest =>
    clear HP HR HG HK hh
    obtain ⟨h, hb_, hr_, hg_, hk_, hl_⟩ := hcut
    have HP := Lib.hid hb_; have HR := Lib.hid hr_; have HG := Lib.hid hg_; have HK := Lib.hid hk_
    clear hb_ hr_ hg_ hk_
    go_upto_if 34 with (go_at_call 44; refine (l20_oddn g _ n _ HR.out (by omega) hn).mono ?_; rintro e w7 ⟨v7, rfl, r_, g_⟩; have z7 := g_.size; replace HP := Lib.hid (HP.out.only g_ (by omega)); replace HK := Lib.hid (HK.out.only g_ (by omega)); replace HG := Lib.hid (only_trans HG.out g_); replace HR := Lib.hid r_; clear r_ g_)
    have hpl : pb < w7.heap.size := HP.out.lt
    go_cut [] from 32 (fun wx => StW w wx g (q + 6) pb)
    case first =>
      cases v7
      · go_wp2_with fail
        · go_meet
          case rel => exact ⟨_, _, HP.out, HR.out.more (by omega), HG.out, HK.out, by first | omega | (simp; omega), hpb⟩
      · go_upto_region 8 with (go_at_call_of 40 (Value.int IntKind.i64 3); refine (l20_pk g _ 3 _ (by first | with_reducible exact HR.out | with_reducible exact (HR.out).drew | with_reducible exact (HR.out).alloc1 _ | with_reducible exact ((HR.out).drew).alloc1 _ | with_reducible exact ((HR.out).alloc1 _).drew | with_reducible exact ((HR.out).alloc1 _).alloc1 _ | with_reducible exact (((HR.out).drew).alloc1 _).alloc1 _ | with_reducible exact (((HR.out).alloc1 _).alloc1 _).drew | with_reducible exact (((HR.out).alloc1 _).alloc1 _).alloc1 _ | with_reducible exact ((((HR.out).drew).alloc1 _).alloc1 _).alloc1 _ | with_reducible exact ((((HR.out).alloc1 _).alloc1 _).alloc1 _).drew) (by omega) (by omega)).mono ?_; rintro e w8 ⟨k8, rfl, hk8, r_, g_⟩; have z8 := g_.size; (try simp only [World.size_alloc, size_drew] at z8); have hne8 : ¬ w8.heap.size = g := (by omega); have hnf8 : ¬ w8.heap.size + 1 = g := (by omega); have hnh8 : ¬ w8.heap.size + 1 + 1 = g := (by omega); have hq8 := only_cells g_; replace HG := Lib.hid (only_trans (by first | with_reducible exact HG.out | with_reducible exact only_drew (HG.out) | with_reducible exact only_alloc (HG.out) _ | with_reducible exact only_alloc (only_drew (HG.out)) _ | with_reducible exact only_drew (only_alloc (HG.out) _) | with_reducible exact only_alloc (only_alloc (HG.out) _) _ | with_reducible exact only_alloc (only_alloc (only_drew (HG.out)) _) _ | with_reducible exact only_drew (only_alloc (only_alloc (HG.out) _) _) | with_reducible exact only_alloc (only_alloc (only_alloc (HG.out) _) _) _ | with_reducible exact only_alloc (only_alloc (only_alloc (only_drew (HG.out)) _) _) _ | with_reducible exact only_drew (only_alloc (only_alloc (only_alloc (HG.out) _) _) _)) g_); replace HR := Lib.hid r_; clear hq8; replace HP := Lib.hid (HP.out.only g_ (by omega)); replace HK := Lib.hid (HK.out.only g_ (by omega)); clear r_ g_)
        have hpl8 : pb < w8.heap.size := HP.out.lt
        have hkc : ((k8 : Int) == 0) = true ∨ (((k8 : Int) == 0) = false ∧ ((k8 : Int) == 1) = true) ∨ (((k8 : Int) == 0) = false ∧ ((k8 : Int) == 1) = false) := by cases ((k8 : Int) == 0) <;> cases ((k8 : Int) == 1) <;> simp
        rcases hkc with g0 | ⟨g0, g1⟩ | ⟨g0, g1⟩
        · have e0 := HP.out.cell 1; have f0 := HP.out.frozen 1
          have e0a : ∀ ob : Obj, (w8.alloc ob).cell? ⟨pb, 1, none⟩ = some (.int .i64 h) := fun ob => (World.cell?_alloc_lt _ _ _ hpl8).trans e0
          go_upto_region 9 with fail
          go_region_law (first
            | (go_simp
               go_at_call_of 40 (Value.int IntKind.i64 2)
               refine (l20_pk g _ 2 _ (by first | with_reducible exact HR.out | with_reducible exact HR.out.drew | with_reducible exact (HR.out.alloc1 _) | with_reducible exact (HR.out.alloc1 _).drew | with_reducible exact HR.out.drew.alloc1 _) (by omega) (by omega)).mono ?_
               rintro e w9 ⟨k9, rfl, hk9, r_, g_⟩
               have z9 := g_.size; (try simp only [World.size_alloc, size_drew] at z9)
               have hq9 := only_cells g_
               replace HG := Lib.hid (only_trans (by first | with_reducible exact only_drew HG.out | with_reducible exact only_drew (only_alloc HG.out _) | with_reducible exact only_alloc (only_drew HG.out) _) g_)
               replace HR := Lib.hid r_
               try have hv9 := fun o => hq9 w8.heap.size o (by omega) (by simp only [World.size_alloc, size_drew]; omega)
               clear hq9
               have HP9 : Hid (Blk w9 pb 30 #[.int .i64 z, .int .i64 h]) := Lib.hid (by first | exact (HP.out.alloc _).drew.only g_ (by omega) | exact HP.out.drew.only g_ (by omega))
               have HK9 : Hid (Blk w9 w.heap.size 30 #[.int .i64 0, .int .i64 0]) := Lib.hid (by first | exact (HK.out.alloc _).drew.only g_ (by omega) | exact HK.out.drew.only g_ (by omega))
               have e6 := HP9.out.cell 1
               have f6 := HP9.out.frozen 1
               have e6a : ∀ ob : Obj, (w9.alloc ob).cell? ⟨pb, 1, none⟩ = some (.int .i64 h) := fun ob => ((HP9.out.alloc ob).cell 1)
               have f6a : ∀ ob : Obj, (w9.alloc ob).frozen? ⟨pb, 1, none⟩ = false := fun ob => ((HP9.out.alloc ob).frozen 1)
               obtain ⟨x9, hx9, xl9, xh9⟩ := (show LitIn (-9) (9) (#[.int .i64 9, .int .i64 (-9)]) from (fun k hk => by simp at hk; rcases k with _ | _ | _ | _ | _ | _ | _ | _ | k <;> first | exact ⟨_, rfl, by omega, by omega⟩ | exact ⟨_, rfl, by rw [IntWalk.i64_in _ (by omega)]; omega, by rw [IntWalk.i64_in _ (by omega)]; omega⟩ | omega)) k9 (by simp; omega)
               clear r_ g_))
          all_goals
            go_wp2_with fail
            go_meet
            case rel => first
              | exact ⟨_, _, HP9.out.set_ 1 _, (HR.out.setFar (by simp; omega) _).more (by omega), only_setCell HG.out (.inr (by simp; omega)) _, HK9.out.far (by simp; omega) _, by first | omega | (simp; omega), hpb⟩
              | exact ⟨_, _, (HP9.out.alloc _).set_ 1 _, ((HR.out.alloc1 _).setFar (by simp; omega) _).more (by omega), only_setCell (only_alloc HG.out _) (.inr (by simp; omega)) _, (HK9.out.alloc _).far (by simp; omega) _, by first | omega | (simp; omega), hpb⟩
        · go_wp2_with (go_at_call_of 40 (Value.int IntKind.i64 2); refine (l20_pk g _ 2 _ (by first | with_reducible exact HR.out | with_reducible exact (HR.out).drew | with_reducible exact (HR.out).alloc1 _ | with_reducible exact ((HR.out).drew).alloc1 _ | with_reducible exact ((HR.out).alloc1 _).drew | with_reducible exact ((HR.out).alloc1 _).alloc1 _ | with_reducible exact (((HR.out).drew).alloc1 _).alloc1 _ | with_reducible exact (((HR.out).alloc1 _).alloc1 _).drew | with_reducible exact (((HR.out).alloc1 _).alloc1 _).alloc1 _ | with_reducible exact ((((HR.out).drew).alloc1 _).alloc1 _).alloc1 _ | with_reducible exact ((((HR.out).alloc1 _).alloc1 _).alloc1 _).drew) (by omega) (by omega)).mono ?_; rintro e w9 ⟨k9, rfl, hk9, r_, g_⟩; have z9 := g_.size; (try simp only [World.size_alloc, size_drew] at z9); have hne9 : ¬ w9.heap.size = g := (by omega); have hnf9 : ¬ w9.heap.size + 1 = g := (by omega); have hnh9 : ¬ w9.heap.size + 1 + 1 = g := (by omega); have hq9 := only_cells g_; replace HG := Lib.hid (only_trans (by first | with_reducible exact HG.out | with_reducible exact only_drew (HG.out) | with_reducible exact only_alloc (HG.out) _ | with_reducible exact only_alloc (only_drew (HG.out)) _ | with_reducible exact only_drew (only_alloc (HG.out) _) | with_reducible exact only_alloc (only_alloc (HG.out) _) _ | with_reducible exact only_alloc (only_alloc (only_drew (HG.out)) _) _ | with_reducible exact only_drew (only_alloc (only_alloc (HG.out) _) _) | with_reducible exact only_alloc (only_alloc (only_alloc (HG.out) _) _) _ | with_reducible exact only_alloc (only_alloc (only_alloc (only_drew (HG.out)) _) _) _ | with_reducible exact only_drew (only_alloc (only_alloc (only_alloc (HG.out) _) _) _)) g_); replace HR := Lib.hid r_; have hv9 := fun o => hq9 w8.heap.size o (by omega) (by simp); clear hq9; replace HP := Lib.hid ((HP.out.alloc _).only g_ (by omega)); replace HK := Lib.hid ((HK.out.alloc _).only g_ (by omega)); have e6 := HP.out.cell 0; have f6 := HP.out.frozen 0; obtain ⟨x9, hxx9, xlx9, xhx9⟩ := (show LitIn (-22) (22) (#[Value.int IntKind.i64 (-22), Value.int IntKind.i64 (22)]) from (fun k hk => by simp at hk; rcases k with _ | _ | _ | _ | _ | _ | _ | _ | k <;> first | exact ⟨_, rfl, by omega, by omega⟩ | exact ⟨_, rfl, by rw [IntWalk.i64_in _ (by omega)]; omega, by rw [IntWalk.i64_in _ (by omega)]; omega⟩ | omega)) k9 (by simp; omega); clear r_ g_)
          · go_meet
            case rel => exact ⟨_, _, HP.out.set_ 0 _, (HR.out.setFar (by simp; omega) _).more (by omega), only_setCell HG.out (.inr (by simp; omega)) _, HK.out.far (by simp; omega) _, by first | omega | (simp; omega), hpb⟩
        · go_wp2_with (go_at_call_of 40 (Value.int IntKind.i64 3); refine (l20_pk g _ 3 _ (by first | with_reducible exact HR.out | with_reducible exact (HR.out).drew | with_reducible exact (HR.out).alloc1 _ | with_reducible exact ((HR.out).drew).alloc1 _ | with_reducible exact ((HR.out).alloc1 _).drew | with_reducible exact ((HR.out).alloc1 _).alloc1 _ | with_reducible exact (((HR.out).drew).alloc1 _).alloc1 _ | with_reducible exact (((HR.out).alloc1 _).alloc1 _).drew | with_reducible exact (((HR.out).alloc1 _).alloc1 _).alloc1 _ | with_reducible exact ((((HR.out).drew).alloc1 _).alloc1 _).alloc1 _ | with_reducible exact ((((HR.out).alloc1 _).alloc1 _).alloc1 _).drew) (by omega) (by omega)).mono ?_; rintro e w9 ⟨k9, rfl, hk9, r_, g_⟩; have z9 := g_.size; (try simp only [World.size_alloc, size_drew] at z9); have hne9 : ¬ w9.heap.size = g := (by omega); have hnf9 : ¬ w9.heap.size + 1 = g := (by omega); have hnh9 : ¬ w9.heap.size + 1 + 1 = g := (by omega); have hq9 := only_cells g_; replace HG := Lib.hid (only_trans (by first | with_reducible exact HG.out | with_reducible exact only_drew (HG.out) | with_reducible exact only_alloc (HG.out) _ | with_reducible exact only_alloc (only_drew (HG.out)) _ | with_reducible exact only_drew (only_alloc (HG.out) _) | with_reducible exact only_alloc (only_alloc (HG.out) _) _ | with_reducible exact only_alloc (only_alloc (only_drew (HG.out)) _) _ | with_reducible exact only_drew (only_alloc (only_alloc (HG.out) _) _) | with_reducible exact only_alloc (only_alloc (only_alloc (HG.out) _) _) _ | with_reducible exact only_alloc (only_alloc (only_alloc (only_drew (HG.out)) _) _) _ | with_reducible exact only_drew (only_alloc (only_alloc (only_alloc (HG.out) _) _) _)) g_); replace HR := Lib.hid r_; have hv9 := fun o => hq9 w8.heap.size o (by omega) (by simp); clear hq9; replace HP := Lib.hid ((HP.out.alloc _).only g_ (by omega)); replace HK := Lib.hid ((HK.out.alloc _).only g_ (by omega)); have e6 := HP.out.cell 1; have f6 := HP.out.frozen 1; obtain ⟨x9, hxx9, xlx9, xhx9⟩ := (show LitIn (-61) (9223372036854775807) (#[Value.int IntKind.i64 (61), Value.int IntKind.i64 (-61), Value.int IntKind.i64 (9223372036854775807)]) from (fun k hk => by simp at hk; rcases k with _ | _ | _ | _ | _ | _ | _ | _ | k <;> first | exact ⟨_, rfl, by omega, by omega⟩ | exact ⟨_, rfl, by rw [IntWalk.i64_in _ (by omega)]; omega, by rw [IntWalk.i64_in _ (by omega)]; omega⟩ | omega)) k9 (by simp; omega); clear r_ g_)
          · go_meet
            case rel => exact ⟨_, _, HP.out.set_ 1 _, (HR.out.setFar (by simp; omega) _).more (by omega), only_setCell HG.out (.inr (by simp; omega)) _, HK.out.far (by simp; omega) _, by first | omega | (simp; omega), hpb⟩
    case rest =>
      obtain ⟨s, h2, hb_, hr_, hg_, hk_, hl_, -⟩ := hcut
      clear HP HR HG HK
      have HP := Lib.hid hb_; have HR := Lib.hid hr_; have HG := Lib.hid hg_; have HK := Lib.hid hk_
      have zc := hg_.size
      clear hb_ hr_ hg_ hk_
      have c0 := HP.out.cell 0; have d0 := HK.out.cell 0; have f0 := HK.out.frozen 0
      have c1 := HP.out.cell 1; have d1 := HK.out.cell 1; have f1 := HK.out.frozen 1
      go_wp2_with fail
      have HK3 := Lib.hid ((HK.out.set_ 0 (.int .i64 s)).set_ 1 (.int .i64 h2))
      have HR3 := Lib.hid ((HR.out.setFar (p := ⟨w.heap.size, 0, none⟩) (by simp; omega) (.int .i64 s)).setFar (p := ⟨w.heap.size, 1, none⟩) (by simp; omega) (.int .i64 h2))
      have HG3 := Lib.hid (only_setCell (only_setCell HG.out (p := ⟨w.heap.size, 0, none⟩) (.inr (by simp)) (.int .i64 s)) (p := ⟨w.heap.size, 1, none⟩) (.inr (by simp)) (.int .i64 h2))
      generalize ((wc.setCell ⟨w.heap.size, 0, none⟩ (.int .i64 s)).setCell ⟨w.heap.size, 1, none⟩ (.int .i64 h2)) = W at *
      have r0 : W.cell? ⟨w.heap.size, 0, none⟩ = some (.int .i64 s) := HK3.out.cell 0
      have r1 : W.cell? ⟨w.heap.size, 1, none⟩ = some (.int .i64 h2) := HK3.out.cell 1
      refine bodyPost_ret (v := .agg #[.int .i64 s, .int .i64 h2]) (by simp [results, Try.results17, go_sem, r0, r1]) rfl ⟨s, h2, rfl, HR3.out, HG3.out⟩
end Go.Proofs.Ytnkoijkelcjloaa
