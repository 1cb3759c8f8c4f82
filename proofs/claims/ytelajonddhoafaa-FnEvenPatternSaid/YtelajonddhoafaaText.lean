/- Contracts of PatternText, of the program and of the reference. No condition but that the slice is readable. -/
import Derived.Test.YtelajonddhoafaaPat
import Derived.Laws.IdiomStrings
namespace Go.Proofs.Ytelajonddhoafaa
set_option linter.unusedVariables false
open Go.RowKit

def RetS (w : World) (s : ByteArray) (e : Ending) (w' : World) : Prop := e = .returned (.string s) ∧ Below w.heap.size w w'
theorem ret_str {a b : ByteArray} (h : a = b) : Ending.returned (.string a) = .returned (.string b) := by rw [h]
def strV (l : List UInt8) : ByteArray := ⟨l.toArray⟩
theorem strV_size (l : List UInt8) : (strV l).size = l.length := by simp [strV, ByteArray.size]
theorem strV_app (a b : List UInt8) : strV a ++ strV b = strV (a ++ b) := ByteArray.mk_append_mk a b
/-- bytes as values -/
def uv (l : List UInt8) : List Value := l.map fun b => Value.int .u8 (b.toNat : Int)
theorem uv_app (a b : List UInt8) : uv (a ++ b) = uv a ++ uv b := by simp [uv]
def textB (zs : List Bool) : List UInt8 := zs.map fun b => if b then 120 else 45
theorem textB_len (zs : List Bool) : (textB zs).length = zs.length := by simp [textB]
theorem textB_succ {zs : List Bool} {k : Nat} (h : k < zs.length) : textB (zs.take (k + 1)) = textB (zs.take k) ++ [if gb zs k then 120 else 45] := by
  rw [take_succ_gb h]; simp [textB]
def textL (zs : List Bool) : List UInt8 := if patL zs = true then textB zs else []
theorem infoU8 : (Try.prog.info? 5).map (fun i => (i.zero, i.size, i.bytes)) = some (some (Value.int .u8 0), 1, 1) := by kernel_rfl
set_option maxHeartbeats 1000000 in
theorem impl_PatternText (A : Option Addr) (c : Nat) (zs : List Bool) (w : World) (hr : RdBo w w.heap.size A zs) (hl : zs.length ≤ 1048576) :
    Calls Try.prog 14 #[.agg #[.slice A zs.length c]] w (RetS w (strV (textL zs))) := by
  obtain ⟨i0, hi, hz0, hz1, hz2⟩ := info_parts infoU8
  have HI := Lib.hid hi; have HZ0 := Lib.hid hz0; have HZ1 := Lib.hid hz1; have HZ2 := Lib.hid hz2; clear hi hz0 hz1 hz2
  cases hp : patL zs
  · have HF : Hid (strV (textL zs) = ByteArray.mk #[]) := by unfold Hid; rw [textL, hp]; rfl
    go_enter Try.func14, Try.ntmps14
    go_wp2_with (go_at_call 10; refine (impl_PatternValid _ _ _ _).mono ?_; rintro e w' ⟨rfl, rfl⟩)
    go_ret
    exact ⟨ret_str HF.out.symm, by (repeat (first | exact Below.refl _ _ | refine Below.alloc ?_ (by simp; try omega) _ | refine below_drewN ?_ _ | refine Below.drew ?_))⟩
  · have HF : Hid (textL zs = textB zs) := by unfold Hid; rw [textL, if_pos hp]
    have hn := inR_iff.1 hp
    go_enter Try.func14, Try.ntmps14
    go_wp2_with (go_at_call 10; refine (impl_PatternValid _ _ _ _).mono ?_; rintro e w' ⟨rfl, rfl⟩)
    clear hp
    go_loopw [3, 13] (fun v i wr => ∃ k : Nat, k ≤ zs.length ∧ i = .int .i64 k ∧ ∃ A c, v = .slice A k c ∧ wr.ownsRow (w.heap.size + 1 + 1) 5 1 (.slice A k c) k (uv (textB (zs.take k))) ∧ Below w.heap.size w wr ∧ w.heap.size + 1 + 1 ≤ wr.heap.size) (fun _ i _ => zs.length - (intOf i).toNat)
    case atStart => exact ⟨0, Nat.zero_le _, rfl, _, _, rfl, (Blk.newAt (g := w.heap.size + 1 + 1) (cs := #[]) (by simp)).own (size := 1) (n := 0) (Nat.le_refl _) (Nat.zero_le _) (by simp), by (repeat (first | exact Below.refl _ _ | refine Below.alloc ?_ (by simp; try omega) _ | refine below_drewN ?_ _ | refine Below.drew ?_)), by simp⟩
    case round =>
      obtain ⟨k, hk, rfl, A', c', rfl, ho, hbel, hsz⟩ := hrel
      by_cases hlt : k < zs.length
      · have hi1 : (k : Int) < (zs.length : Int) := by omega
        obtain ⟨bb, off, rfl, hbB, hc⟩ := (hr.below hbel (Nat.le_refl _)).at_ hlt
        have HO := Lib.hid ho; have HL := Lib.hid hbel; clear ho hbel hr
        have hsucc := textB_succ hlt
        have HS := Lib.hid hsucc; clear hsucc
        cases hg : gb zs k
        all_goals
          rw [hg] at hc HS
          clear hg
          go_wp2_with (at_builtin; refine append_el rfl _ _ 22 rfl 5 i0 (.int .u8 0) 1 1 Try.underlying22 HI.out HZ0.out HZ1.out HZ2.out rfl (by decide) (by decide) (w.heap.size + 1 + 1) wr wr _ k _ HO.out (Below.refl _ _) hsz (by omega) rfl _ rfl (by simp [Value.oneCell']) rfl ?_; intro A2 c2 w2 o2 b2 s2 _)
          have o3 : w2.ownsRow (w.heap.size + 1 + 1) 5 1 (.slice A2 (k + 1) c2) (k + 1) (uv (textB (zs.take (k + 1)))) := by rw [HS.out, uv_app]; exact o2
          clear o2
          go_wp2
          go_roundw
          case rel => exact ⟨k + 1, by omega, by go_num, _, _, rfl, o3, HL.out.trans (b2.mono (by omega)), s2⟩
          case measure => simp [intOf]; omega
      · obtain rfl : k = zs.length := by omega
        obtain ⟨g, cap, hv, _, _⟩ := ho.form (by omega)
        have hcl := fun j (hj : j < (textB zs).length) => ho.cells (g := g) (by rw [hv]; rfl) j (.int .u8 ((textB zs)[j].toNat : Int)) (by simp [uv, hj])
        have hconv := run_convert_bytes_back (P := Try.prog) wr 22 9 5 ⟨g, 0, none⟩ c' (textB zs) Try.underlying22 Try.underlying5 Try.underlying9 hcl
        rw [textB_len] at hconv
        have hA : A' = some ⟨g, 0, none⟩ := by injection hv
        subst hA
        have HL := Lib.hid hbel; clear ho hbel hr hcl hv
        go_wp2
        go_ret
        exact ⟨ret_str (by rw [HF.out]; rfl), HL.out⟩
set_option maxHeartbeats 1000000 in
theorem spec_PatternText (A : Option Addr) (c : Nat) (zs : List Bool) (w : World) (hr : RdBo w w.heap.size A zs) (hl : zs.length ≤ 1048576) :
    Calls Try.prog 15 #[.agg #[.slice A zs.length c]] w (RetS w (strV (textL zs))) := by
  go_enter Try.func15, Try.ntmps15
  go_wp2_with fail
  cases hp : patL zs
  · have HF : Hid (strV (textL zs) = ByteArray.mk #[]) := by unfold Hid; rw [textL, hp]; rfl
    refine wp_loop_once ?_
    by_cases hz : 0 < zs.length
    · have hi1 : decide ((0 : Int) < (zs.length : Int)) = true := decide_eq_true (by omega)
      go_wp2_with (go_at_call 11; refine (spec_PatternValid _ _ _ _).mono ?_; rintro e w' ⟨rfl, rfl⟩)
      go_ret
      exact ⟨ret_str HF.out.symm, by (repeat (first | exact Below.refl _ _ | refine Below.alloc ?_ (by simp; try omega) _ | refine below_drewN ?_ _ | refine Below.drew ?_))⟩
    · have hi1 : decide ((0 : Int) < (zs.length : Int)) = false := decide_eq_false (by omega)
      go_wp2_with fail
      go_ret
      exact ⟨ret_str HF.out.symm, by (repeat (first | exact Below.refl _ _ | refine Below.alloc ?_ (by simp; try omega) _ | refine below_drewN ?_ _ | refine Below.drew ?_))⟩
  · have HF : Hid (textL zs = textB zs) := by unfold Hid; rw [textL, if_pos hp]
    have hn := inR_iff.1 hp
    go_loopw [3, 4] (fun v i wr => ∃ k : Nat, k ≤ zs.length ∧ i = .int .i64 k ∧ v = .string (strV (textB (zs.take k))) ∧ Blk wr w.heap.size 25 #[.slice A zs.length c] ∧ Below w.heap.size w wr) (fun _ i _ => zs.length - (intOf i).toNat)
    case atStart => exact ⟨0, Nat.zero_le _, rfl, rfl, Blk.new _ _ _, by (repeat (first | exact Below.refl _ _ | refine Below.alloc ?_ (by simp; try omega) _ | refine below_drewN ?_ _ | refine Below.drew ?_))⟩
    case round =>
      obtain ⟨k, hk, rfl, rfl, hb0, hbel⟩ := hrel
      have c0 : wr.cell? ⟨w.heap.size, 0, none⟩ = some (.slice A zs.length c) := hb0.cell 0
      by_cases hlt : k < zs.length
      · have hi1 : decide ((k : Int) < (zs.length : Int)) = true := decide_eq_true (by omega)
        have hi2 : (k : Int) < (zs.length : Int) := by omega
        have hz1 : (strV (textB (zs.take k))).size ≤ 32 := by rw [strV_size, textB_len]; simp; omega
        have hq : ∀ W : World, Below w.heap.size w W → ∃ bb off, A = some ⟨bb, off, none⟩ ∧ bb < w.heap.size ∧ W.cell? ⟨bb, off + k, none⟩ = some (.bool (gb zs k)) := fun W hW => (hr.below hW (Nat.le_refl _)).at_ hlt
        have HQ := Lib.hid hq; clear hq
        have H0 := Lib.hid hb0; have HL := Lib.hid hbel; clear hb0 hbel hr
        go_wp2_with fail
        refine (spec_PatternValid _ _ _ _).mono ?_; rintro e w' ⟨rfl, rfl⟩
        have hb1 : Below wr.heap.size wr (wr.alloc (.cells #[.slice A zs.length c] 25)) := (Below.refl _ _).alloc (Nat.le_refl _) _
        have c0' := (H0.out.alloc (.cells #[.slice A zs.length c] 25)).cell 0
        obtain ⟨bb, off, hA, hbB, hc⟩ := HQ.out _ (HL.out.trans (hb1.mono HL.out.size))
        have H0' := Lib.hid (H0.out.alloc (.cells #[.slice A zs.length c] 25)); have HL' := Lib.hid (HL.out.trans (hb1.mono HL.out.size))
        subst hA
        generalize (wr.alloc (.cells #[.slice (some ⟨bb, off, none⟩) zs.length c] 25)) = wr2 at *
        have hsucc := textB_succ hlt
        have HS := Lib.hid hsucc; clear hsucc hb1 H0 HL HQ
        have c0'' : wr2.cell? ⟨w.heap.size, 0, none⟩ = some (.slice (some ⟨bb, off, none⟩) zs.length c) := c0'
        clear c0' c0
        cases hg : gb zs k
        all_goals
          rw [hg] at hc HS
          clear hg
          go_wp2_with fail
          go_roundw
          case rel => exact ⟨k + 1, by omega, by go_num, congrArg Value.string (by rw [HS.out, ← strV_app]; rfl), H0'.out, HL'.out⟩
          case measure => simp [intOf]; omega
      · have hi1 : decide ((k : Int) < (zs.length : Int)) = false := decide_eq_false (by omega)
        have HL := Lib.hid hbel; clear hb0 hbel hr hp
        go_wp2_with fail
        go_ret
        obtain rfl : k = zs.length := by omega
        exact ⟨ret_str (by rw [HF.out, List.take_length]), HL.out⟩
end Go.Proofs.Ytelajonddhoafaa
