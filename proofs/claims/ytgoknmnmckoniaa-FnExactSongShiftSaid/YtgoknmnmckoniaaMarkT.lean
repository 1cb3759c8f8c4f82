/- Marks on songs, with what they leave alone: boxes of songs. Conditions: lengths at most 2^20. -/
import Derived.Test.YtgoknmnmckoniaaHelSong
import Derived.Test.YtgoknmnmckoniaaInvC
namespace Go.Proofs.Ytgoknmnmckoniaa
open Go.RowKit
set_option linter.unusedSimpArgs false
set_option linter.unusedVariables false
set_option maxRecDepth 100000
/-- boxes of songs stand -/
def KT (w w' : World) : Prop := ∀ g cs, Blk w g 35 cs → Blk w' g 35 cs
theorem KT.refl (w : World) : KT w w := fun _ _ h => h
theorem KT.trans {a b c : World} (h : KT a b) (k : KT b c) : KT a c := fun g cs hb => k g cs (h g cs hb)
theorem KT.alloc (w : World) (o : Obj) : KT w (w.alloc o) := fun _ _ h => h.alloc o
theorem KT.grown {w w' : World} {lo s n c E : Nat} {A : Option Addr} {xs : List Value} (ho : w.ownsRow lo E s (.slice A n c) n xs) (hg : w.grownBy w' (obA A)) (hE : E ≠ 35 := by decide) : KT w w' := fun g cs hb => (hg.block g hb.lt (fun e => own_not hE ho hb e.symm)).trans hb
set_option maxHeartbeats 2000000 in
theorem laws_markNoteSS2 (A : Option Addr) (c : Nat) (vs : List (List Nt)) (hs : List Hd) (k : Int) (lo hi : Nat) (w : World) (hx : OwX w lo hi A c vs.length (glV vs) hs) (hlv : LenV vs) (h0 : 0 ≤ k) (h1 : k + 6 * (totV vs : Int) ≤ 1000000000) :
    Calls Try.prog 33 #[.slice A vs.length c, .int .i64 k] w fun e w' => e = .returned (.int .i64 (k + 6 * (totV vs : Int))) ∧ OwX w' lo hi A c vs.length (mkX vs k) hs ∧ InB lo hi w w' ∧ KT w w' := by
  have hlv1 : vs.length ≤ 1048576 := hlv.1
  have HX := Lib.hid hx; clear hx
  go_enter Try.func33, Try.ntmps33
  go_wp2_with fail
  go_loopw [1, 5] (fun q i wr => ∃ j : Nat, j ≤ vs.length ∧ i = .int .i64 j ∧ q = .int .i64 (kAt vs k j) ∧ OwX wr lo hi A c vs.length (fun i => if i < j then mkX vs k i else glV vs i) hs ∧ InB lo hi w wr ∧ KT w wr) (fun _ i _ => vs.length - (intOf i).toNat)
  case atStart => exact ⟨0, Nat.zero_le _, rfl, by simp [kAt, totV], HX.out.congr (fun k _ => by simp), InB.refl _ _ _, KT.refl _⟩
  case round =>
    clear HX
    obtain ⟨j, hj, rfl, rfl, hx, hin, hkt⟩ := hrel
    have HKT := Lib.hid hkt; clear hkt
    have HX := Lib.hid hx; have HI := Lib.hid hin
    by_cases hlt : j < vs.length
    · obtain ⟨g, rfl, hg1, hg2, hc8⟩ := hx.hd hlt
      have hrow := (hx.inn j hlt).2
      have hda := hx.da j hlt
      simp only [Nat.lt_irrefl, if_false] at hc8 hrow
      have HRW := Lib.hid hrow; have HDA := Lib.hid hda
      have hi1 : (j : Int) < (vs.length : Int) := by omega
      have hl8 := hlv.at_ hlt
      have HT := Lib.hid (totV_succ hlt)
      have ht2 := totV_le vs j
      have hka : kAt vs k j = k + 6 * (totV (vs.take j) : Int) := rfl
      have hk0 : 0 ≤ kAt vs k j := by omega
      have hk9 : kAt vs k j ≤ 1000000000 := by omega
      have HKA : Hid (kAt vs k j + 6 * ((glV vs j).length : Int) = kAt vs k (j + 1)) := Lib.hid (by unfold kAt; rw [HT.out]; push_cast; omega)
      have HUP : Hid (fl encNote (upNote (kAt vs k j) (glV vs j).length) = fl encNote (mkX vs k j)) := Lib.hid rfl
      have HUL : Hid ((mkX vs k j).length = (glV vs j).length) := Lib.hid (by unfold mkX; exact upNote_length _ _)
      clear hrow hda hx hin hka
      generalize kAt vs k j = kj at *
      go_wp2_with fail
      refine (laws_markNoteS _ _ _ _ kj _ _ HRW.out.1 hl8 hk0 hk9).mono ?_
      rintro e w1 ⟨rfl, o1, g1⟩
      rw [HUP.out] at o1
      rw [ob_slice] at g1
      have HX1 := Lib.hid (HX.out.mark hlt (Y := mkX vs k j) (by rw [HUL.out]; simp) (by simpa using o1) g1)
      have HI1 := Lib.hid (HI.out.trans (InB.of_grown g1 (fun g' e' => HRW.out.ob g' e')))
      have HKT1 := Lib.hid (HKT.out.trans (KT.grown HRW.out.1 g1))
      clear o1 g1
      go_wp2_with fail
      go_roundw
      case rel => exact ⟨j + 1, by omega, by go_num, by rw [HKA.out], HX1.out.congr (fun i hi => by
        by_cases e1 : i = j
        · subst e1; rw [if_pos rfl, if_pos (by omega)]
        · rw [if_neg e1]
          by_cases e2 : i < j
          · rw [if_pos e2, if_pos (by omega)]
          · rw [if_neg e2, if_neg (by omega)]), HI1.out, HKT1.out⟩
      case measure => simp [intOf]; omega
    · obtain rfl : j = vs.length := by omega
      clear hx hin
      have HKA : Hid (kAt vs k vs.length = k + 6 * (totV vs : Int)) := Lib.hid (by unfold kAt; rw [List.take_length])
      rw [HKA.out]
      go_wp2_with fail
      go_ret
      exact ⟨rfl, HX.out.congr (fun i hi => by rw [if_pos hi]), HI.out, HKT.out⟩
set_option maxHeartbeats 2000000 in
theorem laws_markSong2 (f : Int) (m : Bool) (b u : Int) (C A : Option Addr) (d c nt : Nat) (tc : List Value) (vs : List (List Nt)) (hs : List Hd) (k : Int) (lo mid hi : Nat) (w : World) (hx : SgO w lo mid hi C d nt tc A c vs.length (glV vs) hs) (hi9 : hi ≤ w.heap.size) (hlt : nt ≤ 1048576) (hlv : LenV vs) (h0 : 0 ≤ k) (h1 : k + 2 * (nt : Int) + 6 * (totV vs : Int) ≤ 1000000000) :
    Calls Try.prog 10 #[.agg #[.int .i64 f, .bool m, .int .i64 b, .int .i64 u, .slice C nt d, .slice A vs.length c], .int .i64 k] w fun e w' => e = .returned (.int .i64 (k + 2 * (nt : Int) + 6 * (totV vs : Int))) ∧ SgO w' lo mid hi C d nt (fl encTempo (upTempo k nt)) A c vs.length (mkX vs (k + 2 * (nt : Int))) hs ∧ InB lo hi w w' ∧ KT w w' := by
  have hle1 := hx.le1; have hle2 := hx.le2
  have HX := Lib.hid (SgO.below hx ((Below.refl w.heap.size w).alloc (Nat.le_refl _) (.cells #[.int .i64 f, .bool m, .int .i64 b, .int .i64 u, .slice C nt d, .slice A vs.length c] 35)) hi9)
  have HI := Lib.hid ((InB.refl lo hi w).alloc (.cells #[.int .i64 f, .bool m, .int .i64 b, .int .i64 u, .slice C nt d, .slice A vs.length c] 35))
  have HK := Lib.hid (Blk.new w 35 #[.int .i64 f, .bool m, .int .i64 b, .int .i64 u, .slice C nt d, .slice A vs.length c])
  clear hx
  go_enter Try.func10, Try.ntmps10
  go_wp2_with fail
  refine (laws_markTempoS lo nt d C k tc _ HX.out.row.1 hlt h0 (by omega)).mono ?_
  rintro e w1 ⟨rfl, o1, g1⟩
  have hob := fun g e9 => HX.out.row.ob g e9
  have HKT1 : Hid (KT w w1) := Lib.hid ((KT.alloc w _).trans (KT.grown HX.out.row.1 (by rw [ob_slice] at g1; exact g1)))
  rw [ob_slice] at g1
  have hin : InB lo mid _ w1 := InB.of_grown g1 hob
  have HI1 := Lib.hid (HI.out.trans (InB.of_grown g1 (fun g e9 => by have := hob g e9; omega) : InB lo hi _ w1))
  have HR1 := Lib.hid (HX.out.row.self o1)
  have HO1 := Lib.hid (HX.out.own.inB hin (.inr (Nat.le_refl _)))
  have HK1 := hin.blk HK.out (.inr (by omega))
  have c5 := HK1.cell 5
  clear HK1 hin hob o1 g1 HX
  go_wp2_with fail
  refine (laws_markNoteSS2 _ _ _ _ (k + 2 * (nt : Int)) _ _ _ HO1.out hlv (by omega) (by omega)).mono ?_
  rintro e w2 ⟨rfl, o2, i2, k2⟩
  have HKT2 := Lib.hid (HKT1.out.trans k2); clear k2
  have HI2 := Lib.hid (HI1.out.trans (⟨i2.os, i2.tape, i2.output, i2.size, fun q hq hd => i2.block q hq (by omega)⟩ : InB lo hi w1 w2))
  have HR2 := Lib.hid (i2.row HR1.out (.inl (Nat.le_refl _)))
  have HO2 := Lib.hid o2
  clear o2 i2 c5
  go_wp2_with fail
  go_ret
  exact ⟨rfl, ⟨HR2.out, HO2.out, hle1, hle2⟩, HI2.out, HKT2.out⟩
end Go.Proofs.Ytgoknmnmckoniaa
