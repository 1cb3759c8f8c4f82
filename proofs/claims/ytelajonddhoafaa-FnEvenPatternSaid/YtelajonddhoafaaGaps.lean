/- Contracts of PatternGaps, of the program and of the reference. No condition but that the slice is readable. -/
import Derived.Test.YtelajonddhoafaaPat
import Derived.Test.YtelajonddhoafaaGapp
import Derived.Test.YtelajonddhoafaaInts
import Derived.Deep.RegionHeld3
namespace Go.Proofs.Ytelajonddhoafaa
set_option linter.unusedVariables false
open Go.RowKit

/-- natural numbers as values -/
def nl (s : List Nat) : List Int := s.map fun (k : Nat) => (k : Int)
theorem nl_app (a b : List Nat) : nl (a ++ b) = nl a ++ nl b := by simp [nl]
theorem nl_len (a : List Nat) : (nl a).length = a.length := by simp [nl]
def gn (s : List Nat) (i : Nat) : Nat := s.getD i 0
theorem nl_gi (a : List Nat) (i : Nat) : gi (nl a) i = ((gn a i : Nat) : Int) := by
  simp only [gn, gi, nl, List.getD_eq_getElem?_getD, List.getElem?_map]
  cases a[i]? <;> simp
theorem RdI.of_own2 {w : World} {base c n : Nat} {e : TypeId} {A : Option Addr} {zs : List Int} (h : w.ownsRow base e 1 (.slice A n c) n (iv zs)) (hn : zs.length = n) : RdI w w.heap.size A zs := by subst hn; exact Rd.of_own h
theorem RdI.all {w : World} {B : Nat} {A : Option Addr} {zs : List Int} (h : RdI w B A zs) (hn : 0 < zs.length) :
    ∃ b off, A = some ⟨b, off, none⟩ ∧ b < B ∧ ∀ k, k < zs.length → w.cell? ⟨b, off + k, none⟩ = some (.int .i64 (gi zs k)) := by
  obtain ⟨b, off, hA, hb, _⟩ := h.at_ hn
  refine ⟨b, off, hA, hb, fun k hk => ?_⟩
  obtain ⟨b', off', hA', _, hc⟩ := h.at_ hk
  rw [hA] at hA'
  simp only [Option.some.injEq, Addr.mk.injEq, and_true] at hA'
  obtain ⟨rfl, rfl⟩ := hA'
  exact hc
theorem RdBo.all {w : World} {B : Nat} {A : Option Addr} {zs : List Bool} (h : RdBo w B A zs) (hn : 0 < zs.length) :
    ∃ b off, A = some ⟨b, off, none⟩ ∧ b < B ∧ ∀ k, k < zs.length → w.cell? ⟨b, off + k, none⟩ = some (.bool (gb zs k)) := by
  obtain ⟨b, off, hA, hb, _⟩ := h.at_ hn
  refine ⟨b, off, hA, hb, fun k hk => ?_⟩
  obtain ⟨b', off', hA', _, hc⟩ := h.at_ hk
  rw [hA] at hA'
  simp only [Option.some.injEq, Addr.mk.injEq, and_true] at hA'
  obtain ⟨rfl, rfl⟩ := hA'
  exact hc
theorem Row.rdI' {w : World} {lo hi E c n : Nat} {A : Option Addr} {zs : List Int} (h : Row w lo hi E 1 A c n (iv zs)) (hn : zs.length = n) : RdI w hi A zs := by subst hn; exact h.rd
theorem iv_one1 (z : Int) : iv [z] = [.int .i64 z] := rfl
theorem getD_el {l : List Nat} {i : Nat} (h : i < l.length) : l.getD i 0 = l[i] := by simp [h]
theorem st_lt (zs : List Bool) (i : Nat) (h : i < (st zs).length) : gn (st zs) i < zs.length := by
  unfold gn
  have : (st zs).getD i 0 ∈ st zs := by rw [getD_el h]; exact List.getElem_mem h
  have := List.mem_filter.1 this
  exact List.mem_range.1 this.1
theorem st_mono (zs : List Bool) (i : Nat) (h : i + 1 < (st zs).length) : gn (st zs) i < gn (st zs) (i + 1) := by
  unfold gn
  have hs : (st zs).Pairwise (· < ·) := List.Pairwise.filter _ List.pairwise_lt_range
  rw [getD_el h, getD_el (show i < (st zs).length by omega)]
  exact List.pairwise_iff_getElem.1 hs i (i + 1) (by omega) h (by omega)
/-- the bounds of a gap's parts -/
theorem gapI_eq (zs : List Bool) (i : Nat) (h : i < (st zs).length) :
    (gapI (st zs) zs.length i : Int) = (if i + 1 < (st zs).length then (gn (st zs) (i + 1) : Int) else (gn (st zs) 0 : Int) + (zs.length : Int)) - (gn (st zs) i : Int) := by
  have e1 : (st zs).getD (i + 1) 0 = gn (st zs) (i + 1) := rfl
  have e2 : (st zs).getD 0 0 = gn (st zs) 0 := rfl
  have e3 : (st zs).getD i 0 = gn (st zs) i := rfl
  rw [gapI, e1, e2, e3]
  split
  · have := st_mono zs i ‹_›
    omega
  · have h1 := st_lt zs i h
    omega
set_option maxHeartbeats 4000000 in
theorem impl_PatternGaps (A : Option Addr) (c : Nat) (zs : List Bool) (w : World) (hr : RdBo w w.heap.size A zs) (hl : zs.length ≤ 1048576) :
    Calls Try.prog 19 #[.agg #[.slice A zs.length c]] w (RetRow w 3 1 (gapsL zs).length (iv (gapsL zs))) := by
  obtain ⟨i0, hi, hz0, hz1, hz2⟩ := info_parts infoInt
  have HI := Lib.hid hi; have H0 := Lib.hid hz0; have H1 := Lib.hid hz1; have H2 := Lib.hid hz2; clear hi hz0 hz1 hz2
  cases hp : patL zs
  · have HF : Hid (gapsL zs = []) := by unfold Hid; rw [gapsL, if_neg (by rw [show inR zs.length 1 32 = patL zs from rfl, hp]; decide)]
    go_enter Try.func19, Try.ntmps19
    go_wp2_with (go_at_call 10; refine (impl_PatternValid _ _ _ _).mono ?_; rintro e w' ⟨rfl, rfl⟩)
    go_ret
    rw [HF.out]
    exact ⟨_, _, rfl, World.ownsRow_nil _ _ _ _, by (repeat (first | exact Below.refl _ _ | refine Below.alloc ?_ (by simp; try omega) _ | refine below_drewN ?_ _ | refine Below.drew ?_))⟩
  · have HF : Hid (gapsL zs = gapsOf (st zs) zs.length) := by unfold Hid; rw [gapsL, if_pos (show inR zs.length 1 32 = true from hp)]
    have hn := inR_iff.1 hp
    go_enter Try.func19, Try.ntmps19
    go_wp2_with (go_at_call 10; refine (impl_PatternValid _ _ _ _).mono ?_; rintro e w' ⟨rfl, rfl⟩)
    clear hp
    go_loopw [3, 17] (fun v i wr => ∃ k : Nat, k ≤ zs.length ∧ i = .int .i64 k ∧ ∃ A' c', v = .slice A' (stTo zs k).length c' ∧ wr.ownsRow (w.heap.size + 1 + 1) 3 1 (.slice A' (stTo zs k).length c') (stTo zs k).length (iv (nl (stTo zs k))) ∧ Blk wr w.heap.size 25 #[.slice A zs.length c] ∧ Below w.heap.size w wr ∧ w.heap.size + 1 + 1 ≤ wr.heap.size) (fun _ i _ => zs.length - (intOf i).toNat)
    case atStart => exact ⟨0, Nat.zero_le _, rfl, _, _, rfl, (Blk.newAt (g := w.heap.size + 1 + 1) (cs := #[]) (by simp)).own (size := 1) (n := 0) (Nat.le_refl _) (Nat.zero_le _) (by simp), ((Blk.newAt rfl).alloc _).alloc _, by (repeat (first | exact Below.refl _ _ | refine Below.alloc ?_ (by simp; try omega) _ | refine below_drewN ?_ _ | refine Below.drew ?_)), by simp⟩
    case round =>
      obtain ⟨k, hk, rfl, A', c', rfl, ho, hb0, hbel, hsz⟩ := hrel
      by_cases hlt : k < zs.length
      · have hi1 : (k : Int) < (zs.length : Int) := by omega
        obtain ⟨bb, off, rfl, hbB, hc⟩ := (hr.below hbel (Nat.le_refl _)).at_ hlt
        have HO := Lib.hid ho; have HX0 := Lib.hid hb0; have HL := Lib.hid hbel; clear ho hb0 hbel hr
        have hle := stTo_le zs k
        cases hg : gb zs k
        · rw [hg] at hc
          have HS := Lib.hid (stTo_succ_f hg)
          clear hg
          go_wp2
          go_roundw
          case rel => exact ⟨k + 1, by omega, by go_num, A', c', by rw [HS.out], by rw [HS.out]; exact HO.out, HX0.out, HL.out, hsz⟩
          case measure => simp [intOf]; omega
        · rw [hg] at hc
          have HS := Lib.hid (stTo_succ_t hg)
          clear hg
          go_wp2_with (at_builtin; refine append_el rfl _ _ 34 rfl 3 i0 (.int .i64 0) 1 8 Try.underlying34 HI.out H0.out H1.out H2.out rfl (by decide) (by decide) (w.heap.size + 1 + 1) wr wr _ (stTo zs k).length _ HO.out (Below.refl _ _) hsz (by omega) rfl _ rfl (by simp [Value.oneCell']) rfl ?_; intro A2 c2 w2 o2 b2 s2 _)
          have o3 : w2.ownsRow (w.heap.size + 1 + 1) 3 1 (.slice A2 ((stTo zs k).length + 1) c2) ((stTo zs k).length + 1) (iv (nl (stTo zs (k + 1)))) := by rw [HS.out, nl_app, iv_append]; exact o2
          have hlen : (stTo zs (k + 1)).length = (stTo zs k).length + 1 := by rw [HS.out]; simp
          have HLEN := Lib.hid hlen; clear hlen o2
          go_wp2
          go_roundw
          case rel => exact ⟨k + 1, by omega, by go_num, A2, c2, by rw [HLEN.out], by rw [HLEN.out]; exact o3, HX0.out.below b2 (by omega), HL.out.trans (b2.mono (by omega)), s2⟩
          case measure => simp [intOf]; omega
      · obtain rfl : k = zs.length := by omega
        obtain ⟨wo, rfl⟩ : ∃ wo : World, wo = wr := ⟨_, rfl⟩
        rw [stTo_all] at ho ⊢
        have RS := Lib.hid (Row.mk_ ho); have HX0 := Lib.hid hb0; have HL := Lib.hid hbel; clear ho hb0 hbel hr
        have hm : (st zs).length ≤ zs.length := by rw [← stTo_all]; exact stTo_le _ _
        go_wp2
        go_loopw [6, 31] (fun v i wr => ∃ j : Nat, j ≤ (st zs).length ∧ i = .int .i64 j ∧ ∃ A2 c2, v = .slice A2 j c2 ∧ wr.ownsRow wo.heap.size 3 1 (.slice A2 j c2) j (iv ((gapsOf (st zs) zs.length).take j)) ∧ Row wr (w.heap.size + 1 + 1) wo.heap.size 3 1 A' c' (st zs).length (iv (nl (st zs))) ∧ Blk wr w.heap.size 25 #[.slice A zs.length c] ∧ Below w.heap.size w wr ∧ wo.heap.size ≤ wr.heap.size) (fun _ i _ => (st zs).length - (intOf i).toNat)
        case atStart =>
          have ba : Below wo.heap.size wo (wo.alloc (.cells #[] 3)) := (Below.refl _ _).alloc (Nat.le_refl _) _
          exact ⟨0, Nat.zero_le _, rfl, _, _, rfl, (own_empty (Below.refl _ _) (Nat.le_refl _)).1, RS.out.below ba (Nat.le_refl _), HX0.out.below ba (by omega), HL.out.trans (ba.mono (by omega)), by simp⟩
        case round =>
          obtain ⟨j, hj, rfl, A2, c2, rfl, ho, hrs, hb0, hbel, hsx⟩ := hrel
          by_cases hjt : j < (st zs).length
          · have hj1 : (j : Int) < ((st zs).length : Int) := by omega
            have hj2 : (0 : Int) < ((st zs).length : Int) := by omega
            obtain ⟨bb, off, hA, hbB, hcs⟩ := (hrs.rdI' (nl_len _)).all (by rw [nl_len]; omega)
            subst hA
            have c0 := hcs 0 (by rw [nl_len]; omega)
            have cj := hcs j (by rw [nl_len]; omega)
            have cj1 : j + 1 < (st zs).length → _ := fun h => hcs (j + 1) (by rw [nl_len]; omega)
            rw [nl_gi] at c0 cj
            simp only [nl_gi] at cj1
            rw [Nat.add_zero] at c0
            have l0 := st_lt zs 0 (by omega)
            have lj := st_lt zs j hjt
            have hq : wr.cell? ⟨w.heap.size, 0, none⟩ = some (.slice A zs.length c) := hb0.cell 0
            have HG := Lib.hid (gapI_eq zs j hjt)
            have HT := Lib.hid (gapsOf_take (st zs) zs.length j hjt)
            have e1 : IntKind.i64.wrap ((gn (st zs) 0 : Int) + (zs.length : Int)) = (gn (st zs) 0 : Int) + (zs.length : Int) := IntWalk.i64_in _ (by omega)
            have HO := Lib.hid ho; have RSx := Lib.hid hrs; have HXx := Lib.hid hb0; have HLx := Lib.hid hbel; have CJ1 := Lib.hid cj1; have LN := Lib.hid (fun h => st_lt zs (j + 1) h); clear ho hrs hb0 hbel cj1 hcs
            go_wp2
            go_quiet (fail)
            have HO2 : Hid ((wr.drewN nq).ownsRow wo.heap.size 3 1 (.slice A2 j c2) j (iv ((gapsOf (st zs) zs.length).take j))) := HO.out
            have RS2 : Hid (Row (wr.drewN nq) (w.heap.size + 1 + 1) wo.heap.size 3 1 (some ⟨bb, off, none⟩) c' (st zs).length (iv (nl (st zs)))) := RSx.out
            have HX2 : Hid (Blk (wr.drewN nq) w.heap.size 25 #[.slice A zs.length c]) := HXx.out
            have HL2 : Hid (Below w.heap.size w (wr.drewN nq)) := below_drewN HLx.out _
            have SZ2 : wo.heap.size ≤ (wr.drewN nq).heap.size := hsx
            have CJ2 : Hid (j + 1 < (st zs).length → (wr.drewN nq).cell? ⟨bb, off + (j + 1), none⟩ = some (.int .i64 (gn (st zs) (j + 1) : Int))) := CJ1.out
            clear HO RSx HXx HLx CJ1 hsx c0 cj hq e1
            generalize wr.drewN nq = wy at *
            by_cases hn1 : j + 1 < (st zs).length
            · have c1 := CJ2.out hn1
              have hi2 : (j : Int) + 1 < ((st zs).length : Int) := by omega
              have l1 := LN.out hn1
              go_wp2_with (at_builtin; refine append_el rfl _ _ 34 rfl 3 i0 (.int .i64 0) 1 8 Try.underlying34 HI.out H0.out H1.out H2.out rfl (by decide) (by decide) wo.heap.size wy wy _ j _ HO2.out (Below.refl _ _) SZ2 (by omega) rfl _ rfl (by simp [Value.oneCell']) rfl ?_; intro A3 c3 w3 o3 b3 s3 _)
              have o4 : w3.ownsRow wo.heap.size 3 1 (.slice A3 (j + 1) c3) (j + 1) (iv ((gapsOf (st zs) zs.length).take (j + 1))) := by rw [HT.out, iv_append, HG.out, if_pos hn1]; exact o3
              clear o3
              go_wp2
              go_roundw
              case rel => exact ⟨j + 1, by omega, by go_num, A3, c3, rfl, o4, RS2.out.below b3 (Nat.le_refl _), HX2.out.below b3 (by omega), HL2.out.trans (b3.mono (by omega)), by have := b3.size; omega⟩
              case measure => simp [intOf]; omega
            · have hi2 : ¬ ((j : Int) + 1 < ((st zs).length : Int)) := by omega
              go_wp2_with (at_builtin; refine append_el rfl _ _ 34 rfl 3 i0 (.int .i64 0) 1 8 Try.underlying34 HI.out H0.out H1.out H2.out rfl (by decide) (by decide) wo.heap.size wy wy _ j _ HO2.out (Below.refl _ _) SZ2 (by omega) rfl _ rfl (by simp [Value.oneCell']) rfl ?_; intro A3 c3 w3 o3 b3 s3 _)
              have o4 : w3.ownsRow wo.heap.size 3 1 (.slice A3 (j + 1) c3) (j + 1) (iv ((gapsOf (st zs) zs.length).take (j + 1))) := by rw [HT.out, iv_append, HG.out, if_neg hn1]; exact o3
              clear o3
              go_wp2
              go_roundw
              case rel => exact ⟨j + 1, by omega, by go_num, A3, c3, rfl, o4, RS2.out.below b3 (Nat.le_refl _), HX2.out.below b3 (by omega), HL2.out.trans (b3.mono (by omega)), by have := b3.size; omega⟩
              case measure => simp [intOf]; omega
          · obtain rfl : j = (st zs).length := by omega
            have HO := Lib.hid ho; have HLx := Lib.hid hbel; clear ho hrs hb0 hbel
            go_wp2
            go_ret
            have h3 := HO.out
            rw [List.take_of_length_le (by rw [gapsOf_len]; omega)] at h3
            rw [HF.out, gapsOf_len]
            exact ⟨A2, c2, rfl, own_mono h3 (by omega), HLx.out⟩
theorem gap_le {zs : List Bool} {k d : Nat} (h : IsGap zs k d) (hk : k < zs.length) (hg : gb zs k = true) : d ≤ zs.length := by
  rcases Nat.lt_or_ge zs.length d with hlt | hge
  · have := h.2.2 zs.length (by omega) hlt
    rw [Nat.add_mod_right, Nat.mod_eq_of_lt hk, hg] at this; cases this
  · exact hge
theorem cnt_lt {zs : List Bool} {k : Nat} (hk : k < zs.length) (hg : gb zs k = true) : (stTo zs k).length < (st zs).length := by
  rw [st_split hk hg]; simp
set_option maxHeartbeats 4000000 in
theorem spec_PatternGaps (A : Option Addr) (c : Nat) (zs : List Bool) (w : World) (hr : RdBo w w.heap.size A zs) (hl : zs.length ≤ 1048576) :
    Calls Try.prog 23 #[.agg #[.slice A zs.length c]] w (RetRow w 3 1 (gapsL zs).length (iv (gapsL zs))) := by
  obtain ⟨i0, hi, hz0, hz1, hz2⟩ := info_parts infoInt
  have HI := Lib.hid hi; have H0 := Lib.hid hz0; have H1 := Lib.hid hz1; have H2 := Lib.hid hz2; clear hi hz0 hz1 hz2
  go_enter Try.func23, Try.ntmps23
  go_wp2_with fail
  cases hp : patL zs
  · have HF : Hid (gapsL zs = []) := by unfold Hid; rw [gapsL, if_neg (by rw [show inR zs.length 1 32 = patL zs from rfl, hp]; decide)]
    refine wp_loop_once ?_
    by_cases hz : 0 < zs.length
    · have hi1 : decide ((0 : Int) < (zs.length : Int)) = true := decide_eq_true (by omega)
      go_wp2_with (go_at_call 11; refine (spec_PatternValid _ _ _ _).mono ?_; rintro e w' ⟨rfl, rfl⟩)
      go_ret
      rw [HF.out]
      exact ⟨_, _, rfl, own_mono (((Blk.newAt (g := w.heap.size + 1) (cs := #[]) (by simp)).own (size := 1) (n := 0) (Nat.le_refl _) (Nat.zero_le _) (by simp)).alloc _) (by omega), by (repeat (first | exact Below.refl _ _ | refine Below.alloc ?_ (by simp; try omega) _ | refine below_drewN ?_ _ | refine Below.drew ?_))⟩
    · have hi1 : decide ((0 : Int) < (zs.length : Int)) = false := decide_eq_false (by omega)
      go_wp2_with fail
      go_ret
      rw [HF.out]
      exact ⟨_, _, rfl, own_mono ((Blk.newAt (g := w.heap.size + 1) (cs := #[]) (by simp)).own (size := 1) (n := 0) (Nat.le_refl _) (Nat.zero_le _) (by simp)) (by omega), by (repeat (first | exact Below.refl _ _ | refine Below.alloc ?_ (by simp; try omega) _ | refine below_drewN ?_ _ | refine Below.drew ?_))⟩
  · have HF : Hid (gapsL zs = gapsOf (st zs) zs.length) := by unfold Hid; rw [gapsL, if_pos (show inR zs.length 1 32 = true from hp)]
    have hn := inR_iff.1 hp
    go_loopw [3, 5] (fun v i wr => ∃ k : Nat, k ≤ zs.length ∧ i = .int .i64 k ∧ ∃ A' c', v = .slice A' (stTo zs k).length c' ∧ wr.ownsRow (w.heap.size + 1) 3 1 (.slice A' (stTo zs k).length c') (stTo zs k).length (iv ((gapsOf (st zs) zs.length).take (stTo zs k).length)) ∧ Blk wr w.heap.size 25 #[.slice A zs.length c] ∧ Below w.heap.size w wr ∧ w.heap.size + 1 ≤ wr.heap.size) (fun _ i _ => zs.length - (intOf i).toNat)
    case atStart => exact ⟨0, Nat.zero_le _, rfl, _, _, rfl, (Blk.newAt (g := w.heap.size + 1) (cs := #[]) (by simp)).own (size := 1) (n := 0) (Nat.le_refl _) (Nat.zero_le _) (by simp), (Blk.newAt rfl).alloc _, by (repeat (first | exact Below.refl _ _ | refine Below.alloc ?_ (by simp; try omega) _ | refine below_drewN ?_ _ | refine Below.drew ?_)), by simp⟩
    case round =>
      obtain ⟨k, hk, rfl, A', c', rfl, ho, hb0, hbel, hsz⟩ := hrel
      have q0 : wr.cell? ⟨w.heap.size, 0, none⟩ = some (.slice A zs.length c) := hb0.cell 0
      by_cases hlt : k < zs.length
      · have hi1 : decide ((k : Int) < (zs.length : Int)) = true := decide_eq_true (by omega)
        have hi2 : (k : Int) < (zs.length : Int) := by omega
        have hle := stTo_le zs k
        have ba : Below wr.heap.size wr (wr.alloc (.cells #[.slice A zs.length c] 25)) := (Below.refl _ _).alloc (Nat.le_refl _) _
        have HO := Lib.hid (ho.alloc (.cells #[.slice A zs.length c] 25)); have HX := Lib.hid (hb0.alloc (.cells #[.slice A zs.length c] 25)); have HL := Lib.hid (hbel.trans (ba.mono (by omega)))
        have SZ : w.heap.size + 1 ≤ (wr.alloc (.cells #[.slice A zs.length c] 25)).heap.size := by simp; omega
        have HRD := Lib.hid (hr.below HL.out (Nat.le_refl _))
        clear ho hb0 hbel hr ba
        go_wp2_with fail
        refine (spec_PatternValid _ _ _ _).mono ?_; rintro e w' ⟨rfl, rfl⟩
        generalize (wr.alloc (.cells #[.slice A zs.length c] 25)) = wo at *
        clear q0
        have q0 : wo.cell? ⟨w.heap.size, 0, none⟩ = some (.slice A zs.length c) := HX.out.cell 0
        obtain ⟨bb, off, hA, hbB, hcs⟩ := HRD.out.all (by omega)
        subst hA
        have hc := hcs k hlt
        cases hg : gb zs k
        · rw [hg] at hc
          have HS := Lib.hid (stTo_succ_f hg)
          clear hg hcs
          go_wp2_with fail
          go_roundw
          case rel => exact ⟨k + 1, by omega, by go_num, A', c', by rw [HS.out], by rw [HS.out]; exact HO.out, HX.out, HL.out, SZ⟩
          case measure => simp [intOf]; omega
        · have HG := Lib.hid (gap_ok hlt hg)
          have hG1 := HG.out.1
          have hG2 := gap_le HG.out hlt hg
          have HT := Lib.hid (gapsOf_take (st zs) zs.length _ (cnt_lt hlt hg))
          have HS := Lib.hid (stTo_succ_t hg)
          rw [hg] at hc
          clear hg
          have HCS := Lib.hid hcs; clear hcs
          generalize hGd : gapI (st zs) zs.length (stTo zs k).length = G at *
          clear hGd
          go_wp2_with fail
          go_loopw [6] (fun d wy => ∃ e : Nat, 1 ≤ e ∧ e ≤ G ∧ d = .int .i64 e ∧ ∃ q, wy = wo.drewN q) (fun d _ => G - (intOf d).toNat)
          case atStart => exact ⟨1, Nat.le_refl _, hG1, rfl, 0, rfl⟩
          case round =>
            obtain ⟨e, he1, he2, rfl, q, rfl⟩ := hrel
            have e1 : IntKind.i64.wrap ((k : Int) + (e : Int)) = (k : Int) + (e : Int) := IntWalk.i64_in _ (by omega)
            have hm0 : (0 : Int) ≤ ((k : Int) + (e : Int)) % (zs.length : Int) := Int.emod_nonneg _ (by omega)
            have hm1 : ((k : Int) + (e : Int)) % (zs.length : Int) < (zs.length : Int) := Int.emod_lt_of_pos _ (by omega)
            have e2 : ((k : Int) + (e : Int)).tmod (zs.length : Int) = ((k : Int) + (e : Int)) % (zs.length : Int) := Int.tmod_eq_emod_of_nonneg (by omega)
            have e3 : (((k : Int) + (e : Int)) % (zs.length : Int)).toNat = (k + e) % zs.length := by
              have h : ((k : Int) + (e : Int)) % (zs.length : Int) = (((k + e) % zs.length : Nat) : Int) := by rw [Int.natCast_emod, Int.natCast_add]
              rw [h, Int.toNat_natCast]
            have hn0 : zs.length ≠ 0 := by omega
            have hcd := HCS.out ((k + e) % zs.length) (Nat.mod_lt _ (by omega))
            clear hc
            by_cases heG : e < G
            · rw [HG.out.2.2 e he1 heG] at hcd
              go_wp2_with fail
              go_quiet (fail)
              clear e1 e2 e3 hn0
              go_wp2_with fail
              go_roundw
              case rel => exact ⟨e + 1, by omega, by omega, by go_num, _, rfl⟩
              case measure => simp [intOf]; omega
            · obtain rfl : e = G := by omega
              rw [HG.out.2.1] at hcd
              go_wp2_with fail
              go_quiet (fail)
              clear e1 e2 e3 hn0 hm0 hm1 hcd
              have HO2 : Hid (((wo.drewN q).drewN nq).ownsRow (w.heap.size + 1) 3 1 (.slice A' (stTo zs k).length c') (stTo zs k).length (iv ((gapsOf (st zs) zs.length).take (stTo zs k).length))) := HO.out
              have HX2 : Hid (Blk ((wo.drewN q).drewN nq) w.heap.size 25 #[.slice (some ⟨bb, off, none⟩) zs.length c]) := HX.out
              have HL2 : Hid (Below w.heap.size w ((wo.drewN q).drewN nq)) := below_drewN (below_drewN HL.out _) _
              have SZ2 : w.heap.size + 1 ≤ ((wo.drewN q).drewN nq).heap.size := SZ
              clear HO HX HL SZ q0
              generalize (wo.drewN q).drewN nq = wy at *
              go_wp2_with (at_builtin; refine append_el rfl _ _ 34 rfl 3 i0 (.int .i64 0) 1 8 Try.underlying34 HI.out H0.out H1.out H2.out rfl (by decide) (by decide) (w.heap.size + 1) wy wy _ (stTo zs k).length _ HO2.out (Below.refl _ _) SZ2 (by omega) rfl _ rfl (by simp [Value.oneCell']) rfl ?_; intro A3 c3 w3 o3 b3 s3 _)
              have o4 : w3.ownsRow (w.heap.size + 1) 3 1 (.slice A3 ((stTo zs k).length + 1) c3) ((stTo zs k).length + 1) (iv ((gapsOf (st zs) zs.length).take ((stTo zs k).length + 1))) := by rw [HT.out, iv_append]; exact o3
              have hlen : (stTo zs (k + 1)).length = (stTo zs k).length + 1 := by rw [HS.out]; simp
              have HLEN := Lib.hid hlen; clear hlen o3
              go_wp2_with fail
              go_roundw
              case rel => exact ⟨k + 1, by omega, by go_num, A3, c3, by rw [HLEN.out], by rw [HLEN.out]; exact o4, HX2.out.below b3 (by omega), HL2.out.trans (b3.mono (by omega)), s3⟩
              case measure => simp [intOf]; omega
      · have hi1 : decide ((k : Int) < (zs.length : Int)) = false := decide_eq_false (by omega)
        obtain rfl : k = zs.length := by omega
        have HO := Lib.hid ho; have HL := Lib.hid hbel; clear ho hb0 hbel hr hp
        go_wp2_with fail
        go_ret
        have h3 := HO.out
        rw [stTo_all, List.take_of_length_le (by rw [gapsOf_len]; omega)] at h3
        rw [HF.out, gapsOf_len]
        exact ⟨A', c', by rw [stTo_all]; rfl, own_mono h3 (by omega), HL.out⟩
end Go.Proofs.Ytelajonddhoafaa
