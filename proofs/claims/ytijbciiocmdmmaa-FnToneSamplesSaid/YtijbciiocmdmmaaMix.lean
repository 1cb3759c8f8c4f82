/- Contracts of MixSamples, EchoSamples and the reference ScaleSamples. Conditions: lengths at most 2^20. -/
import Derived.Test.YtijbciiocmdmmaaSmp
namespace Go.Proofs.Ytijbciiocmdmmaa
set_option linter.unusedVariables false
open Go.RowKit
theorem iv_one (z : Int) : iv [z] = [.int .i64 z] := rfl
def clip (z : Int) : Int := max (-32767) (min 32767 z)
theorem clip_bd (z : Int) : -32767 ≤ clip z ∧ clip z ≤ 32767 := by unfold clip; omega
theorem clip_id {z : Int} (h : -32767 ≤ z ∧ z ≤ 32767) : clip z = z := by unfold clip; omega
theorem impl_cut (z : Int) (w : World) : Calls Try.prog 55 #[.int .i64 z] w fun e w' => e = .returned (.int .i64 (clip z)) ∧ w = w' := by
  go_enter Try.func55, Try.ntmps55
  go_wp2
  all_goals go_ret
  all_goals exact ⟨ret_int (by unfold clip; (try simp only []); (repeat' split) <;> omega), rfl⟩
theorem spec_l22Clip (z : Int) (w : World) : Calls Try.prog 56 #[.int .i64 z] w fun e w' => e = .returned (.int .i64 (clip z)) ∧ w = w' := by
  go_enter Try.func56, Try.ntmps56
  go_wp2
  all_goals go_ret
  all_goals exact ⟨ret_int (by unfold clip; (try simp only []); (repeat' split) <;> omega), rfl⟩
def atZ (l : List Int) (i : Nat) : Int := if i < l.length then gi l i else 0
theorem atZ_bd {l : List Int} (h : okS l = true) (i : Nat) : -32767 ≤ atZ l i ∧ atZ l i ≤ 32767 := by
  unfold atZ; split
  · exact okS_at h ‹_›
  · omega
theorem impl_sampleAt (A : Option Addr) (c : Nat) (zs : List Int) (i : Nat) (B : Nat) (w : World) (hr : RdI w B A zs) (hl : zs.length ≤ 1048576) (hi : i ≤ 1048576) :
    Calls Try.prog 57 #[.slice A zs.length c, .int .i64 i] w fun e w' => e = .returned (.int .i64 (atZ zs i)) ∧ w = w' := by
  by_cases hlt : i < zs.length
  · obtain ⟨b, off, rfl, hbB, hc⟩ := hr.at_ hlt
    clear hr
    go_enter Try.func57, Try.ntmps57
    go_wp2
    go_ret
    exact ⟨ret_int (by rw [atZ, if_pos hlt]), rfl⟩
  · clear hr
    go_enter Try.func57, Try.ntmps57
    go_wp2
    go_ret
    exact ⟨ret_int (by rw [atZ, if_neg hlt]), rfl⟩
def mixTo (a b : List Int) (k : Nat) : List Int := (List.range k).map fun i => clip (atZ a i + atZ b i)
theorem mixTo_succ (a b : List Int) (k : Nat) : mixTo a b (k + 1) = mixTo a b k ++ [clip (atZ a k + atZ b k)] := by simp [mixTo, List.range_succ]
def mixL (a b : List Int) : List Int := if okS a = true ∧ okS b = true then mixTo a b (max a.length b.length) else []
theorem mixL_no {a b : List Int} (h : okS a = false ∨ okS b = false) : mixL a b = [] := by rw [mixL, if_neg]; rintro ⟨h1, h2⟩; rcases h with h | h <;> simp [h] at h1 h2
theorem impl_MixSamples (A C : Option Addr) (c d : Nat) (xs ys : List Int) (w : World) (hx : RdI w w.heap.size A xs) (hy : RdI w w.heap.size C ys) (hl : xs.length ≤ 1048576) (hl2 : ys.length ≤ 1048576) :
    Calls Try.prog 40 #[.slice A xs.length c, .slice C ys.length d] w (RetRow w 3 1 (mixL xs ys).length (iv (mixL xs ys))) := by
  obtain ⟨i0, hi, hz0, hz1, hz2⟩ := info_parts infoInt
  have HI := Lib.hid hi; have H0 := Lib.hid hz0; have H1 := Lib.hid hz1; have H2 := Lib.hid hz2; clear hi hz0 hz1 hz2
  cases hv : okS xs
  · have HF := Lib.hid (mixL_no (b := ys) (.inl hv))
    go_enter Try.func40, Try.ntmps40
    go_wp2_with (go_at_call 21; refine (impl_SamplesValid _ _ _ _ hx hl).mono ?_; rintro e w' ⟨rfl, rfl⟩)
    go_ret
    rw [HF.out]
    exact ⟨_, _, rfl, World.ownsRow_nil _ _ _ _, Below.refl _ _⟩
  cases hv2 : okS ys
  · have HF := Lib.hid (mixL_no (a := xs) (.inr hv2))
    go_enter Try.func40, Try.ntmps40
    go_wp2_with fail
    refine (impl_SamplesValid _ _ _ _ hx hl).mono ?_; rintro e w' ⟨rfl, rfl⟩
    go_wp2_with fail
    refine (impl_SamplesValid _ _ _ _ hy hl2).mono ?_; rintro e w' ⟨rfl, rfl⟩
    go_wp2_with fail
    go_ret
    rw [HF.out]
    exact ⟨_, _, rfl, World.ownsRow_nil _ _ _ _, Below.refl _ _⟩
  have HF : Hid (mixL xs ys = mixTo xs ys (max xs.length ys.length)) := by unfold Hid; rw [mixL, if_pos ⟨hv, hv2⟩]
  rcases Int.lt_or_le (xs.length : Int) (ys.length : Int) with hm | hm
  all_goals
    go_enter Try.func40, Try.ntmps40
    go_wp2_with fail
    refine (impl_SamplesValid _ _ _ _ hx hl).mono ?_; rintro e w' ⟨rfl, rfl⟩
    go_wp2_with fail
    refine (impl_SamplesValid _ _ _ _ hy hl2).mono ?_; rintro e w' ⟨rfl, rfl⟩
    go_wp2_with fail
    have HV := Lib.hid hv; have HV2 := Lib.hid hv2; clear hv hv2
    go_loopw [5, 21] (fun v i wr => ∃ k : Nat, k ≤ max xs.length ys.length ∧ i = .int .i64 k ∧ ∃ A c, v = .slice A k c ∧ wr.ownsRow w.heap.size 3 1 (.slice A k c) k (iv (mixTo xs ys k)) ∧ Below w.heap.size w wr ∧ w.heap.size ≤ wr.heap.size) (fun _ i _ => (max xs.length ys.length) - (intOf i).toNat)
    case atStart => exact ⟨0, Nat.zero_le _, rfl, _, _, rfl, own_empty (Below.refl _ _) (Nat.le_refl _)⟩
    case round =>
      obtain ⟨k, hk, rfl, A', c', rfl, hown, hbel, hbase⟩ := hrel
      have hx' := hx.below hbel (Nat.le_refl _)
      have hy' := hy.below hbel (Nat.le_refl _)
      have HO := Lib.hid hown; have HB := Lib.hid hbel
      clear hx hy hown hbel
      by_cases hlt : k < max xs.length ys.length
      · have hi1 : (k : Int) < (ys.length : Int) ∨ (k : Int) < (xs.length : Int) := by omega
        have b1 := atZ_bd HV.out k
        have b2 := atZ_bd HV2.out k
        go_wp2_with fail
        refine (impl_sampleAt _ _ _ _ _ _ hx' hl (by omega)).mono ?_; rintro e w' ⟨rfl, rfl⟩
        go_wp2_with fail
        refine (impl_sampleAt _ _ _ _ _ _ hy' hl2 (by omega)).mono ?_; rintro e w' ⟨rfl, rfl⟩
        go_wp2_with fail
        refine (impl_cut _ _).mono ?_; rintro e w' ⟨rfl, rfl⟩
        go_wp2_with (at_builtin; refine append_el rfl _ _ 31 rfl 3 i0 (.int .i64 0) 1 8 Try.underlying31 HI.out H0.out H1.out H2.out rfl (by decide) (by decide) w.heap.size w wr _ k _ HO.out HB.out hbase (by omega) rfl _ rfl (by simp [Value.oneCell']) rfl ?_; intro A2 c2 w2 hown2 hbel2 hbase2 _)
        rw [← iv_one, ← iv_append, ← mixTo_succ] at hown2
        go_wp2
        go_roundw
        case rel => exact ⟨k + 1, by omega, by go_num, _, _, rfl, hown2, hbel2, hbase2⟩
        case measure => simp [intOf]; omega
      · obtain rfl : k = max xs.length ys.length := by omega
        go_wp2
        go_ret
        have hlen : (mixTo xs ys (max xs.length ys.length)).length = max xs.length ys.length := by simp [mixTo]
        rw [HF.out, hlen]
        exact ⟨A', c', rfl, HO.out, HB.out⟩
theorem spec_MixSamples (A C : Option Addr) (c d : Nat) (xs ys : List Int) (w : World) (hx : RdI w w.heap.size A xs) (hy : RdI w w.heap.size C ys) (hl : xs.length ≤ 1048576) (hl2 : ys.length ≤ 1048576) :
    Calls Try.prog 41 #[.slice A xs.length c, .slice C ys.length d] w (RetRow w 3 1 (mixL xs ys).length (iv (mixL xs ys))) := by
  obtain ⟨i0, hi, hz0, hz1, hz2⟩ := info_parts infoInt
  have HI := Lib.hid hi; have H0 := Lib.hid hz0; have H1 := Lib.hid hz1; have H2 := Lib.hid hz2; clear hi hz0 hz1 hz2
  have hbel0 : Below w.heap.size w (w.alloc (.cells #[] 3)) := (Below.refl _ _).alloc (Nat.le_refl _) _
  have hx1 := hx.below hbel0 (Nat.le_refl _)
  have hy1 := hy.below hbel0 (Nat.le_refl _)
  have HB0 := Lib.hid hbel0; clear hbel0
  cases hv : okS xs
  · have HF := Lib.hid (mixL_no (b := ys) (.inl hv))
    go_enter Try.func41, Try.ntmps41
    go_wp2_with fail
    refine (spec_SamplesValid _ _ _ _ (hx1.more (by simp)) hl).mono ?_; rintro e w' ⟨rfl, rfl⟩
    go_wp2_with fail
    go_ret
    rw [HF.out]
    exact ⟨_, _, rfl, (own_empty (Below.refl _ _) (Nat.le_refl _)).1, HB0.out⟩
  cases hv2 : okS ys
  · have HF := Lib.hid (mixL_no (a := xs) (.inr hv2))
    go_enter Try.func41, Try.ntmps41
    go_wp2_with fail
    refine (spec_SamplesValid _ _ _ _ (hx1.more (by simp)) hl).mono ?_; rintro e w' ⟨rfl, rfl⟩
    go_wp2_with fail
    refine (spec_SamplesValid _ _ _ _ (hy1.more (by simp)) hl2).mono ?_; rintro e w' ⟨rfl, rfl⟩
    go_wp2_with fail
    go_ret
    rw [HF.out]
    exact ⟨_, _, rfl, (own_empty (Below.refl _ _) (Nat.le_refl _)).1, HB0.out⟩
  have HF : Hid (mixL xs ys = mixTo xs ys (max xs.length ys.length)) := by unfold Hid; rw [mixL, if_pos ⟨hv, hv2⟩]
  rcases Int.lt_or_le (xs.length : Int) (ys.length : Int) with hm | hm
  all_goals
    go_enter Try.func41, Try.ntmps41
    go_wp2_with fail
    refine (spec_SamplesValid _ _ _ _ (hx1.more (by simp)) hl).mono ?_; rintro e w' ⟨rfl, rfl⟩
    go_wp2_with fail
    refine (spec_SamplesValid _ _ _ _ (hy1.more (by simp)) hl2).mono ?_; rintro e w' ⟨rfl, rfl⟩
    go_wp2_with fail
    have HV := Lib.hid hv; have HV2 := Lib.hid hv2; clear hv hv2 hx1 hy1
    go_loopw [5, 6] (fun v i wr => ∃ k : Nat, k ≤ max xs.length ys.length ∧ i = .int .i64 k ∧ ∃ A c, v = .slice A k c ∧ wr.ownsRow w.heap.size 3 1 (.slice A k c) k (iv (mixTo xs ys k)) ∧ Below w.heap.size w wr ∧ w.heap.size ≤ wr.heap.size) (fun _ i _ => (max xs.length ys.length) - (intOf i).toNat)
    case atStart => exact ⟨0, Nat.zero_le _, rfl, _, _, rfl, own_empty (Below.refl _ _) (Nat.le_refl _)⟩
    case round =>
      obtain ⟨k, hk, rfl, A', c', rfl, hown, hbel, hbase⟩ := hrel
      have hx' := hx.below hbel (Nat.le_refl _)
      have hy' := hy.below hbel (Nat.le_refl _)
      have HO := Lib.hid hown; have HB := Lib.hid hbel
      clear hx hy hown hbel
      by_cases hlt : k < max xs.length ys.length
      · have b1 := atZ_bd HV.out k
        have b2 := atZ_bd HV2.out k
        have hfin : ∀ (a b : Int), a = atZ xs k → b = atZ ys k → clip (a + b) = clip (atZ xs k + atZ ys k) := by rintro _ _ rfl rfl; rfl
        have HX := Lib.hid hfin; clear hfin
        by_cases h1 : k < xs.length
        · have e1 : atZ xs k = gi xs k := by rw [atZ, if_pos h1]
          rw [e1] at b1
          have E1 := Lib.hid e1; clear e1
          obtain ⟨b, off, rfl, _, hc⟩ := hx'.at_ h1
          by_cases h2 : k < ys.length
          · have e2 : atZ ys k = gi ys k := by rw [atZ, if_pos h2]
            rw [e2] at b2
            have E2 := Lib.hid e2; clear e2
            obtain ⟨b', off', rfl, _, hc'⟩ := hy'.at_ h2
            clear hx' hy'
            go_wp2_with fail
            refine (spec_l22Clip _ _).mono ?_; rintro e w' ⟨rfl, rfl⟩
            go_wp2_with (at_builtin; refine append_el rfl _ _ 31 rfl 3 i0 (.int .i64 0) 1 8 Try.underlying31 HI.out H0.out H1.out H2.out rfl (by decide) (by decide) w.heap.size w wr _ k _ HO.out HB.out hbase (by omega) rfl _ rfl (by simp [Value.oneCell']) rfl ?_; intro A2 c2 w2 hown2 hbel2 hbase2 _)
            rw [HX.out _ _ E1.out.symm E2.out.symm, ← iv_one, ← iv_append, ← mixTo_succ] at hown2
            go_wp2
            go_roundw
            case rel => exact ⟨k + 1, by omega, by go_num, _, _, rfl, hown2, hbel2, hbase2⟩
            case measure => simp [intOf]; omega
          · first
              | (exfalso; omega; done)
              | (have e2 : atZ ys k = 0 := by rw [atZ, if_neg h2]
                 have E2 := Lib.hid e2; clear e2 b2
                 clear hx' hy'
                 go_wp2_with fail
                 refine (spec_l22Clip _ _).mono ?_; rintro e w' ⟨rfl, rfl⟩
                 go_wp2_with (at_builtin; refine append_el rfl _ _ 31 rfl 3 i0 (.int .i64 0) 1 8 Try.underlying31 HI.out H0.out H1.out H2.out rfl (by decide) (by decide) w.heap.size w wr _ k _ HO.out HB.out hbase (by omega) rfl _ rfl (by simp [Value.oneCell']) rfl ?_; intro A2 c2 w2 hown2 hbel2 hbase2 _)
                 rw [show clip (gi xs k) = clip (gi xs k + 0) by simp, HX.out _ _ E1.out.symm E2.out.symm, ← iv_one, ← iv_append, ← mixTo_succ] at hown2
                 go_wp2
                 go_roundw
                 case rel => exact ⟨k + 1, by omega, by go_num, _, _, rfl, hown2, hbel2, hbase2⟩
                 case measure => simp [intOf]; omega)
        · first
            | (exfalso; omega; done)
            | (have e1 : atZ xs k = 0 := by rw [atZ, if_neg h1]
               have E1 := Lib.hid e1; clear e1 b1
               have h2 : k < ys.length := by omega
               have e2 : atZ ys k = gi ys k := by rw [atZ, if_pos h2]
               rw [e2] at b2
               have E2 := Lib.hid e2; clear e2
               obtain ⟨b', off', rfl, _, hc'⟩ := hy'.at_ h2
               clear hx' hy'
               go_wp2_with fail
               refine (spec_l22Clip _ _).mono ?_; rintro e w' ⟨rfl, rfl⟩
               go_wp2_with (at_builtin; refine append_el rfl _ _ 31 rfl 3 i0 (.int .i64 0) 1 8 Try.underlying31 HI.out H0.out H1.out H2.out rfl (by decide) (by decide) w.heap.size w wr _ k _ HO.out HB.out hbase (by omega) rfl _ rfl (by simp [Value.oneCell']) rfl ?_; intro A2 c2 w2 hown2 hbel2 hbase2 _)
               rw [show clip (gi ys k) = clip (0 + gi ys k) by simp, HX.out _ _ E1.out.symm E2.out.symm, ← iv_one, ← iv_append, ← mixTo_succ] at hown2
               go_wp2
               go_roundw
               case rel => exact ⟨k + 1, by omega, by go_num, _, _, rfl, hown2, hbel2, hbase2⟩
               case measure => simp [intOf]; omega)
      · obtain rfl : k = max xs.length ys.length := by omega
        go_wp2
        go_ret
        have hlen : (mixTo xs ys (max xs.length ys.length)).length = max xs.length ys.length := by simp [mixTo]
        rw [HF.out, hlen]
        exact ⟨A', c', rfl, HO.out, HB.out⟩
theorem RdI.of_own' {w : World} {base c n : Nat} {e : TypeId} {A : Option Addr} {zs : List Int} (h : w.ownsRow base e 1 (.slice A n c) n (iv zs)) (hn : zs.length = n) : RdI w w.heap.size A zs := by subst hn; exact Rd.of_own h
def echoTo (zs : List Int) (by_ : Nat) (l : Int) : Nat → List Int
  | 0 => []
  | k + 1 => echoTo zs by_ l k ++ [clip (gi zs k + if by_ ≤ k then (gi (echoTo zs by_ l k) (k - by_) * l).tdiv 1000 else 0)]
theorem echoTo_len (zs : List Int) (b : Nat) (l : Int) (k : Nat) : (echoTo zs b l k).length = k := by
  induction k with
  | zero => rfl
  | succ k ih => simp [echoTo, ih]
theorem echoTo_bd (zs : List Int) (b : Nat) (l : Int) (k : Nat) : ∀ z ∈ echoTo zs b l k, -32767 ≤ z ∧ z ≤ 32767 := by
  induction k with
  | zero => intro z hz; cases hz
  | succ k ih =>
    intro z hz
    rcases List.mem_append.1 hz with h | h
    · exact ih z h
    · rw [List.mem_singleton.1 h]; exact clip_bd _
theorem echoTo_gi (zs : List Int) (b : Nat) (l : Int) (k j : Nat) (h : j < k) : -32767 ≤ gi (echoTo zs b l k) j ∧ gi (echoTo zs b l k) j ≤ 32767 :=
  echoTo_bd zs b l k _ (gi_mem (by rw [echoTo_len]; exact h))
theorem echoTo_yes {zs : List Int} {b : Nat} {l : Int} {k : Nat} (h : b ≤ k) : iv (echoTo zs b l (k + 1)) = iv (echoTo zs b l k) ++ [.int .i64 (clip (gi zs k + (gi (echoTo zs b l k) (k - b) * l).tdiv 1000))] := by
  rw [echoTo, if_pos h, iv_append]; rfl
theorem echoTo_no {zs : List Int} {b : Nat} {l : Int} {k : Nat} (h : ¬ b ≤ k) : iv (echoTo zs b l (k + 1)) = iv (echoTo zs b l k) ++ [.int .i64 (clip (gi zs k))] := by
  rw [echoTo, if_neg h, iv_append, Int.add_zero]; rfl
def echoOk (zs : List Int) (b l : Int) : Prop := okS zs = true ∧ inR b 1 200 = true ∧ inR l 0 1000 = true
instance (zs : List Int) (b l : Int) : Decidable (echoOk zs b l) := by unfold echoOk; infer_instance
def echoL (zs : List Int) (b l : Int) : List Int := if echoOk zs b l then echoTo zs b.toNat l zs.length else []
theorem bool_ne {b : Bool} (h : ¬ b = true) : b = false := by cases b <;> simp_all
theorem impl_EchoSamples (A : Option Addr) (c : Nat) (zs : List Int) (b l : Int) (w : World) (hr : RdI w w.heap.size A zs) (hl : zs.length ≤ 1048576) :
    Calls Try.prog 37 #[.slice A zs.length c, .int .i64 b, .int .i64 l] w (RetRow w 3 1 (echoL zs b l).length (iv (echoL zs b l))) := by
  obtain ⟨i0, hi, hz0, hz1, hz2⟩ := info_parts infoInt
  have HI := Lib.hid hi; have H0 := Lib.hid hz0; have H1 := Lib.hid hz1; have H2 := Lib.hid hz2; clear hi hz0 hz1 hz2
  by_cases hbad : echoOk zs b l
  · have HF : Hid (echoL zs b l = echoTo zs b.toNat l zs.length) := by unfold Hid; rw [echoL, if_pos hbad]
    obtain ⟨hv, hv2, hv3⟩ := hbad
    have hB := inR_iff.1 hv2
    have hL := inR_iff.1 hv3
    obtain ⟨n, rfl⟩ := Int.eq_ofNat_of_zero_le (show 0 ≤ b by omega)
    rw [Int.toNat_natCast] at HF
    go_enter Try.func37, Try.ntmps37
    go_wp2_with fail
    refine (impl_SamplesValid _ _ _ _ hr hl).mono ?_; rintro e w' ⟨rfl, rfl⟩
    go_wp2_with (go_at_call 47; refine (impl_within _ _ _ _).mono ?_; rintro e w' ⟨rfl, rfl⟩)
    have HV := Lib.hid hv; clear hv hv2 hv3
    go_loopw [7, 26] (fun v i wr => ∃ k : Nat, k ≤ zs.length ∧ i = .int .i64 k ∧ ∃ A c, v = .slice A k c ∧ wr.ownsRow w.heap.size 3 1 (.slice A k c) k (iv (echoTo zs n l k)) ∧ Below w.heap.size w wr ∧ w.heap.size ≤ wr.heap.size) (fun _ i _ => zs.length - (intOf i).toNat)
    case atStart => exact ⟨0, Nat.zero_le _, rfl, _, _, rfl, own_empty (Below.refl _ _) (Nat.le_refl _)⟩
    case round =>
      obtain ⟨k, hk, rfl, A', c', rfl, hown, hbel, hbase⟩ := hrel
      have hx' := hr.below hbel (Nat.le_refl _)
      have ho' := RdI.of_own' hown (echoTo_len _ _ _ _)
      have HO := Lib.hid hown; have HB := Lib.hid hbel
      clear hr hown hbel
      by_cases hlt : k < zs.length
      · obtain ⟨bb, off, rfl, _, hc⟩ := hx'.at_ hlt
        have hi1 : (k : Int) < (zs.length : Int) := by omega
        have hb := okS_at HV.out hlt
        by_cases hnk : n ≤ k
        · obtain ⟨bb', off', rfl, _, hc'⟩ := ho'.at_ (k := k - n) (by rw [echoTo_len]; omega)
          have hi2 : (k : Int) - (n : Int) < (k : Int) := by omega
          have hi3 : ((k : Int) - (n : Int)).toNat = k - n := by omega
          have hg := echoTo_gi zs n l k (k - n) (by omega)
          have hp := mul_bd _ _ hg hL
          have hq := tdiv_bd _ _ hp
          clear hx' ho'
          go_wp2_with fail
          refine (impl_cut _ _).mono ?_; rintro e w' ⟨rfl, rfl⟩
          go_wp2_with (at_builtin; refine append_el rfl _ _ 31 rfl 3 i0 (.int .i64 0) 1 8 Try.underlying31 HI.out H0.out H1.out H2.out rfl (by decide) (by decide) w.heap.size w wr _ k _ HO.out HB.out hbase (by omega) rfl _ rfl (by simp [Value.oneCell']) rfl ?_; intro A2 c2 w2 hown2 hbel2 hbase2 _)
          rw [← echoTo_yes hnk] at hown2
          go_wp2
          go_roundw
          case rel => exact ⟨k + 1, by omega, by go_num, _, _, rfl, hown2, hbel2, hbase2⟩
          case measure => simp [intOf]; omega
        · clear hx' ho'
          go_wp2_with (at_builtin; refine append_el rfl _ _ 31 rfl 3 i0 (.int .i64 0) 1 8 Try.underlying31 HI.out H0.out H1.out H2.out rfl (by decide) (by decide) w.heap.size w wr _ k _ HO.out HB.out hbase (by omega) rfl _ rfl (by simp [Value.oneCell']) rfl ?_; intro A2 c2 w2 hown2 hbel2 hbase2 _)
          rw [← clip_id hb, ← echoTo_no hnk] at hown2
          go_wp2
          go_roundw
          case rel => exact ⟨k + 1, by omega, by go_num, _, _, rfl, hown2, hbel2, hbase2⟩
          case measure => simp [intOf]; omega
      · obtain rfl : k = zs.length := by omega
        clear hx' ho'
        go_wp2
        go_ret
        rw [HF.out, echoTo_len]
        exact ⟨A', c', rfl, HO.out, HB.out⟩
  · have HF : Hid (echoL zs b l = []) := by unfold Hid; rw [echoL, if_neg hbad]
    have HBAD := Lib.hid hbad; clear hbad
    have hfin : ∀ W, W = w → ∃ A c, Ending.returned (.slice none 0 0) = .returned (.slice A (echoL zs b l).length c) ∧ W.ownsRow w.heap.size 3 1 (.slice A (echoL zs b l).length c) (echoL zs b l).length (iv (echoL zs b l)) ∧ Below w.heap.size w W := by
      rintro W rfl
      rw [HF.out]
      exact ⟨_, _, rfl, World.ownsRow_nil _ _ _ _, Below.refl _ _⟩
    have HX := Lib.hid hfin; clear hfin
    cases hv : okS zs
    · go_enter Try.func37, Try.ntmps37
      go_wp2_with fail
      refine (impl_SamplesValid _ _ _ _ hr hl).mono ?_; rintro e w' ⟨rfl, rfl⟩
      go_wp2_with (go_at_call 47; refine (impl_within _ _ _ _).mono ?_; rintro e w' ⟨rfl, rfl⟩)
      go_ret
      exact HX.out _ rfl
    cases hv2 : inR b 1 200
    · go_enter Try.func37, Try.ntmps37
      go_wp2_with fail
      refine (impl_SamplesValid _ _ _ _ hr hl).mono ?_; rintro e w' ⟨rfl, rfl⟩
      go_wp2_with (go_at_call 47; refine (impl_within _ _ _ _).mono ?_; rintro e w' ⟨rfl, rfl⟩)
      go_ret
      exact HX.out _ rfl
    · have hv3 : inR l 0 1000 = false := bool_ne fun h => HBAD.out ⟨hv, hv2, h⟩
      go_enter Try.func37, Try.ntmps37
      go_wp2_with fail
      refine (impl_SamplesValid _ _ _ _ hr hl).mono ?_; rintro e w' ⟨rfl, rfl⟩
      go_wp2_with (go_at_call 47; refine (impl_within _ _ _ _).mono ?_; rintro e w' ⟨rfl, rfl⟩)
      go_ret
      exact HX.out _ rfl
theorem spec_EchoSamples (A : Option Addr) (c : Nat) (zs : List Int) (b l : Int) (w : World) (hr : RdI w w.heap.size A zs) (hl : zs.length ≤ 1048576) :
    Calls Try.prog 38 #[.slice A zs.length c, .int .i64 b, .int .i64 l] w (RetRow w 3 1 (echoL zs b l).length (iv (echoL zs b l))) := by
  obtain ⟨i0, hi, hz0, hz1, hz2⟩ := info_parts infoInt
  have HI := Lib.hid hi; have H0 := Lib.hid hz0; have H1 := Lib.hid hz1; have H2 := Lib.hid hz2; clear hi hz0 hz1 hz2
  have hbel0 : Below w.heap.size w (w.alloc (.cells #[] 3)) := (Below.refl _ _).alloc (Nat.le_refl _) _
  have hx1 := hr.below hbel0 (Nat.le_refl _)
  have HB0 := Lib.hid hbel0; clear hbel0
  by_cases hbad : echoOk zs b l
  · have HF : Hid (echoL zs b l = echoTo zs b.toNat l zs.length) := by unfold Hid; rw [echoL, if_pos hbad]
    obtain ⟨hv, hv2, hv3⟩ := hbad
    have hB := inR_iff.1 hv2
    have hL := inR_iff.1 hv3
    obtain ⟨n, rfl⟩ := Int.eq_ofNat_of_zero_le (show 0 ≤ b by omega)
    rw [Int.toNat_natCast] at HF
    go_enter Try.func38, Try.ntmps38
    go_wp2_with fail
    refine (spec_SamplesValid _ _ _ _ (hx1.more (by simp)) hl).mono ?_; rintro e w' ⟨rfl, rfl⟩
    go_wp2_with (go_at_call 48; refine (spec_l1In _ _ _ _).mono ?_; rintro e w' ⟨rfl, rfl⟩)
    have HV := Lib.hid hv; clear hv hv2 hv3 hx1
    go_loopw [7, 8] (fun v i wr => ∃ k : Nat, k ≤ zs.length ∧ i = .int .i64 k ∧ ∃ A c, v = .slice A k c ∧ wr.ownsRow w.heap.size 3 1 (.slice A k c) k (iv (echoTo zs n l k)) ∧ Below w.heap.size w wr ∧ w.heap.size ≤ wr.heap.size) (fun _ i _ => zs.length - (intOf i).toNat)
    case atStart => exact ⟨0, Nat.zero_le _, rfl, _, _, rfl, own_empty (Below.refl _ _) (Nat.le_refl _)⟩
    case round =>
      obtain ⟨k, hk, rfl, A', c', rfl, hown, hbel, hbase⟩ := hrel
      have hx' := hr.below hbel (Nat.le_refl _)
      have ho' := RdI.of_own' hown (echoTo_len _ _ _ _)
      have HO := Lib.hid hown; have HB := Lib.hid hbel
      clear hr hown hbel
      by_cases hlt : k < zs.length
      · obtain ⟨bb, off, rfl, _, hc⟩ := hx'.at_ hlt
        have hi1 : (k : Int) < (zs.length : Int) := by omega
        have hb := okS_at HV.out hlt
        by_cases hnk : n ≤ k
        · obtain ⟨bb', off', rfl, _, hc'⟩ := ho'.at_ (k := k - n) (by rw [echoTo_len]; omega)
          have hi2 : (k : Int) - (n : Int) < (k : Int) := by omega
          have hi3 : ((k : Int) - (n : Int)).toNat = k - n := by omega
          have hg := echoTo_gi zs n l k (k - n) (by omega)
          have hp := mul_bd _ _ hg hL
          have hq := tdiv_bd _ _ hp
          clear hx' ho'
          go_wp2_with fail
          refine (spec_l22Clip _ _).mono ?_; rintro e w' ⟨rfl, rfl⟩
          go_wp2_with (at_builtin; refine append_el rfl _ _ 31 rfl 3 i0 (.int .i64 0) 1 8 Try.underlying31 HI.out H0.out H1.out H2.out rfl (by decide) (by decide) w.heap.size w wr _ k _ HO.out HB.out hbase (by omega) rfl _ rfl (by simp [Value.oneCell']) rfl ?_; intro A2 c2 w2 hown2 hbel2 hbase2 _)
          rw [← echoTo_yes hnk] at hown2
          go_wp2
          go_roundw
          case rel => exact ⟨k + 1, by omega, by go_num, _, _, rfl, hown2, hbel2, hbase2⟩
          case measure => simp [intOf]; omega
        · clear hx' ho'
          go_wp2_with fail
          refine (spec_l22Clip _ _).mono ?_; rintro e w' ⟨rfl, rfl⟩
          go_wp2_with (at_builtin; refine append_el rfl _ _ 31 rfl 3 i0 (.int .i64 0) 1 8 Try.underlying31 HI.out H0.out H1.out H2.out rfl (by decide) (by decide) w.heap.size w wr _ k _ HO.out HB.out hbase (by omega) rfl _ rfl (by simp [Value.oneCell']) rfl ?_; intro A2 c2 w2 hown2 hbel2 hbase2 _)
          rw [← echoTo_no hnk] at hown2
          go_wp2
          go_roundw
          case rel => exact ⟨k + 1, by omega, by go_num, _, _, rfl, hown2, hbel2, hbase2⟩
          case measure => simp [intOf]; omega
      · obtain rfl : k = zs.length := by omega
        clear hx' ho'
        go_wp2
        go_ret
        rw [HF.out, echoTo_len]
        exact ⟨A', c', rfl, HO.out, HB.out⟩
  · have HF : Hid (echoL zs b l = []) := by unfold Hid; rw [echoL, if_neg hbad]
    have HBAD := Lib.hid hbad; clear hbad
    have hfin : ∀ W, W = (w.alloc (.cells #[] 3)) → ∃ A c, Ending.returned (.slice (some ⟨w.heap.size, 0, none⟩) 0 0) = .returned (.slice A (echoL zs b l).length c) ∧ W.ownsRow w.heap.size 3 1 (.slice A (echoL zs b l).length c) (echoL zs b l).length (iv (echoL zs b l)) ∧ Below w.heap.size w W := by
      rintro W rfl
      rw [HF.out]
      exact ⟨_, _, rfl, (own_empty (Below.refl _ _) (Nat.le_refl _)).1, HB0.out⟩
    have HX := Lib.hid hfin; clear hfin
    cases hv : okS zs
    · go_enter Try.func38, Try.ntmps38
      go_wp2_with fail
      refine (spec_SamplesValid _ _ _ _ (hx1.more (by simp)) hl).mono ?_; rintro e w' ⟨rfl, rfl⟩
      go_wp2_with (go_at_call 48; refine (spec_l1In _ _ _ _).mono ?_; rintro e w' ⟨rfl, rfl⟩)
      go_ret
      exact HX.out _ rfl
    cases hv2 : inR b 1 200
    · go_enter Try.func38, Try.ntmps38
      go_wp2_with fail
      refine (spec_SamplesValid _ _ _ _ (hx1.more (by simp)) hl).mono ?_; rintro e w' ⟨rfl, rfl⟩
      go_wp2_with (go_at_call 48; refine (spec_l1In _ _ _ _).mono ?_; rintro e w' ⟨rfl, rfl⟩)
      go_ret
      exact HX.out _ rfl
    · have hv3 : inR l 0 1000 = false := bool_ne fun h => HBAD.out ⟨hv, hv2, h⟩
      go_enter Try.func38, Try.ntmps38
      go_wp2_with fail
      refine (spec_SamplesValid _ _ _ _ (hx1.more (by simp)) hl).mono ?_; rintro e w' ⟨rfl, rfl⟩
      go_wp2_with (go_at_call 48; refine (spec_l1In _ _ _ _).mono ?_; rintro e w' ⟨rfl, rfl⟩)
      go_ret
      exact HX.out _ rfl
theorem spec_ScaleSamples (A : Option Addr) (c : Nat) (zs : List Int) (l : Int) (w : World) (hr : RdI w w.heap.size A zs) (hl : zs.length ≤ 1048576) :
    Calls Try.prog 35 #[.slice A zs.length c, .int .i64 l] w (RetRow w 3 1 (scaleL zs l).length (iv (scaleL zs l))) := by
  obtain ⟨i0, hi, hz0, hz1, hz2⟩ := info_parts infoInt
  have HI := Lib.hid hi; have H0 := Lib.hid hz0; have H1 := Lib.hid hz1; have H2 := Lib.hid hz2; clear hi hz0 hz1 hz2
  have HD : Hid (scaleL zs l = if okS zs = true ∧ inR l 0 1000 = true then scaleTo zs l else []) := rfl
  go_enter Try.func35, Try.ntmps35
  go_wp2_with fail
  by_cases hok : okS zs = true ∧ inR l 0 1000 = true
  · obtain ⟨hv, hv2⟩ := hok
    have HF : Hid (scaleL zs l = scaleTo zs l) := by unfold Hid; rw [HD.out, if_pos ⟨hv, hv2⟩]
    have hL := inR_iff.1 hv2
    go_loopw [5, 6] (fun v i wr => ∃ k : Nat, k ≤ zs.length ∧ i = .int .i64 k ∧ ∃ A c, v = .slice A k c ∧ wr.ownsRow w.heap.size 3 1 (.slice A k c) k (iv (scaleTo (zs.take k) l)) ∧ Below w.heap.size w wr ∧ w.heap.size ≤ wr.heap.size) (fun _ i _ => zs.length - (intOf i).toNat)
    case atStart => exact ⟨0, Nat.zero_le _, rfl, _, _, rfl, own_empty (Below.refl _ _) (Nat.le_refl _)⟩
    case round =>
      obtain ⟨k, hk, rfl, A', c', rfl, hown, hbel, hbase⟩ := hrel
      have hx' := hr.below hbel (Nat.le_refl _)
      have HO := Lib.hid hown; have HB := Lib.hid hbel
      clear hr hown hbel
      by_cases hlt : k < zs.length
      · have hi1 : decide ((k : Int) < (zs.length : Int)) = true := decide_eq_true (by omega)
        have hi2 : (k : Int) < (zs.length : Int) := by omega
        have HX := Lib.hid hx'; clear hx'
        go_wp2_with fail
        refine (spec_SamplesValid _ _ _ _ (HX.out.more hbase) hl).mono ?_; rintro e w' ⟨rfl, rfl⟩
        go_wp2_with fail
        refine (spec_l1In _ _ _ _).mono ?_; rintro e w' ⟨rfl, rfl⟩
        obtain ⟨bb, off, hA, _, hc⟩ := HX.out.at_ hlt
        subst hA
        have hb := okS_at hv hlt
        have hp := mul_bd _ _ hb hL
        go_wp2_with (at_builtin; refine append_el rfl _ _ 31 rfl 3 i0 (.int .i64 0) 1 8 Try.underlying31 HI.out H0.out H1.out H2.out rfl (by decide) (by decide) w.heap.size w wr _ k _ HO.out HB.out hbase (by omega) rfl _ rfl (by simp [Value.oneCell']) rfl ?_; intro A2 c2 w2 hown2 hbel2 hbase2 _)
        rw [← scaleTo_succ hlt] at hown2
        go_wp2
        go_roundw
        case rel => exact ⟨k + 1, by omega, by go_num, _, _, rfl, hown2, hbel2, hbase2⟩
        case measure => simp [intOf]; omega
      · have hi1 : decide ((k : Int) < (zs.length : Int)) = false := decide_eq_false (by omega)
        clear hx'
        go_wp2_with fail
        go_ret
        have hlen : (scaleTo zs l).length = zs.length := by simp [scaleTo]
        obtain rfl : k = zs.length := by omega
        have ho := HO.out
        rw [HF.out, hlen]
        rw [List.take_length] at ho
        exact ⟨A', c', rfl, ho, HB.out⟩
  · have HF : Hid (scaleL zs l = []) := by unfold Hid; rw [HD.out, if_neg hok]
    have HN := Lib.hid hok; clear hok
    have hbel0 : Below w.heap.size w (w.alloc (.cells #[] 3)) := (Below.refl _ _).alloc (Nat.le_refl _) _
    have hx1 := hr.below hbel0 (Nat.le_refl _)
    have hfin : ∀ W, W = (w.alloc (.cells #[] 3)) → ∃ A c, Ending.returned (.slice (some ⟨w.heap.size, 0, none⟩) 0 0) = .returned (.slice A (scaleL zs l).length c) ∧ W.ownsRow w.heap.size 3 1 (.slice A (scaleL zs l).length c) (scaleL zs l).length (iv (scaleL zs l)) ∧ Below w.heap.size w W := by
      rintro W rfl
      rw [HF.out]
      exact ⟨_, _, rfl, (own_empty (Below.refl _ _) (Nat.le_refl _)).1, (Below.refl _ _).alloc (Nat.le_refl _) _⟩
    have HX := Lib.hid hfin; clear hfin hbel0 hr
    refine wp_loop_once ?_
    by_cases hz : 0 < zs.length
    · have hi1 : decide ((0 : Int) < (zs.length : Int)) = true := decide_eq_true (by omega)
      have hi2 : (0 : Int) < (zs.length : Int) := by omega
      cases hv : okS zs
      · go_wp2_with fail
        refine (spec_SamplesValid _ _ _ _ (hx1.more (by simp)) hl).mono ?_; rintro e w' ⟨rfl, rfl⟩
        go_wp2_with fail
        go_ret
        exact HX.out _ rfl
      · have hv2 : inR l 0 1000 = false := bool_ne fun h => HN.out ⟨hv, h⟩
        go_wp2_with fail
        refine (spec_SamplesValid _ _ _ _ (hx1.more (by simp)) hl).mono ?_; rintro e w' ⟨rfl, rfl⟩
        go_wp2_with fail
        refine (spec_l1In _ _ _ _).mono ?_; rintro e w' ⟨rfl, rfl⟩
        go_wp2_with fail
        go_ret
        exact HX.out _ rfl
    · have hi1 : decide ((0 : Int) < (zs.length : Int)) = false := decide_eq_false (by omega)
      clear hx1
      go_wp2_with fail
      go_ret
      exact HX.out _ rfl
theorem scaleL_len (zs : List Int) (l : Int) : (scaleL zs l).length ≤ zs.length := by unfold scaleL scaleTo; split <;> simp
theorem echoL_len (zs : List Int) (b l : Int) : (echoL zs b l).length ≤ zs.length := by unfold echoL; split <;> simp [echoTo_len]
theorem mixL_len (a b : List Int) : (mixL a b).length ≤ max a.length b.length := by unfold mixL; split <;> simp [mixTo]
end Go.Proofs.Ytijbciiocmdmmaa
