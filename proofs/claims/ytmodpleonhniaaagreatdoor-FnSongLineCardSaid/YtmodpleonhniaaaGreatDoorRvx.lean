/- The contract of the program's ReadVoice, at the text of a valid voice, and at the text '?'. Condition: Go's tables and errors as the initialisers lay them (Tb, Mx, Es). -/
import Derived.Test.YtmodpleonhniaaaGreatDoorRnx
import Derived.Test.YtmodpleonhniaaaGreatDoorVxt
import Derived.Test.YtmodpleonhniaaaGreatDoorMrg1
namespace Go.Proofs.YtmodpleonhniaaaGreatDoor
open Go.RowKit
set_option linter.unusedSimpArgs false
set_option linter.unusedVariables false
set_option maxRecDepth 100000
theorem impl_ReadNote_v (n : Nt) (w : World) (hv : nvB n = true) (htb : Tb w) (hmx : Mx w) : Calls Tryz.prog 27 #[.string (stV (ntL n))] w (RetN2 w n true) := by
  rcases n with ⟨r, a, b, c, t, d⟩
  have hT := nv_facts hv
  dsimp only at hT
  obtain ⟨T, rfl⟩ : ∃ T : Nat, t = (T : Int) := ⟨t.toNat, by omega⟩
  cases r
  · exact impl_ReadNote_f a b c T d w hv htb hmx
  · have h2 := hv
    unfold nvB at h2
    simp only [Bool.and_eq_true, if_true, decide_eq_true_eq] at h2
    obtain ⟨_, ⟨rfl, rfl, rfl⟩, _⟩ := h2
    exact impl_ReadNote_t T d w hv htb hmx
/-- the texts of the first notes -/
def txs (v : List Nt) (n : Nat) : List (List UInt8) := (List.range n).map fun j => ntL (glNote v j)
theorem sxs_txs (v : List Nt) (n : Nat) : sxs v n = (txs v n).map stV := by simp [sxs, txs]
theorem txs_join (v : List Nt) (n : Nat) : Lib.join (txs v n) [32] = vxTo v n := by
  rw [← sxs_join, sxs_txs, List.map_map]
  congr 1
  exact (List.map_id _).symm.trans (List.map_congr_left fun l _ => (stV_l l).symm)
theorem cnt_join : ∀ (xs : List (List UInt8)), xs ≠ [] → (∀ x ∈ xs, (32 : UInt8) ∉ x) → (Lib.join xs [32]).count 32 + 1 = xs.length
  | [], h, _ => absurd rfl h
  | [x], _, h => by
    rw [Lib.join_one, List.count_eq_zero_of_not_mem (h x (by simp))]; rfl
  | x :: y :: r, _, h => by
    have hx := h x (by simp)
    have hj : Lib.join (x :: y :: r) [32] = x ++ 32 :: Lib.join (y :: r) [32] := by
      rw [Lib.join_cons, Lib.join_cons]; simp [Lib.joinTail]
    have ih := cnt_join (y :: r) (by simp) (fun z hz => h z (by simp [List.mem_cons] at hz ⊢; exact .inr hz))
    rw [hj, List.count_append, List.count_eq_zero_of_not_mem hx, List.count_cons_self, Nat.zero_add, ih]; rfl
theorem of_data {l : List ByteArray} {xs : List (List UInt8)} (h : l.map (·.data.toList) = xs) : l = xs.map stV := by
  subst h
  rw [List.map_map]
  exact (List.map_id _).symm.trans (List.map_congr_left fun b _ => rfl)
theorem split_ret (v : List Nt) (n : Nat) (h0 : 0 < n) (hno : ∀ j, j < n → (32 : UInt8) ∉ ntL (glNote v j)) (hl : (vxTo v n).length ≤ 1000000) (w : World) (hm : Mx w) :
    Calls Tryz.prog 26 #[.string (stV (vxTo v n)), .string ⟨#[32]⟩] w fun e w' => e = .returned (.slice (some ⟨w.heap.size, 0, none⟩) n n) ∧ w' = w.alloc (.cells ((sxs v n).map Value.string).toArray 9) := by
  obtain ⟨m, hm⟩ := hm
  have hn : txs v n ≠ [] := fun h => by have := congrArg List.length h; simp [txs] at this; omega
  have hx : ∀ x ∈ txs v n, (32 : UInt8) ∉ x := by
    intro x hx
    obtain ⟨j, hj, rfl⟩ := List.mem_map.1 hx
    exact hno j (List.mem_range.1 hj)
  have hc : Lib.countB (stV (vxTo v n)) ⟨#[32]⟩ + 1 = n := by
    rw [← txs_join]
    show Lib.count (stV _).data.toList [32] + 1 = n
    rw [stV_l, Lib.count_one, cnt_join _ hn hx]; simp [txs]
  have hs : Lib.splitB ⟨#[32]⟩ 0 (Lib.countB (stV (vxTo v n)) ⟨#[32]⟩) (stV (vxTo v n)) = sxs v n := by
    rw [sxs_txs]
    refine of_data ?_
    rw [Lib.splitB_data, ← txs_join]
    show Lib.splitK [32] 0 (Lib.count (stV _).data.toList [32]) (stV _).data.toList = _
    rw [stV_l, Lib.count_one]
    exact split_join _ hn hx
  refine (Tryz.strings_Split _ _ m w (by rw [stV_size]; omega) hm (by decide)).mono ?_
  rintro e w' ⟨rfl, rfl⟩
  rw [hc, hs]
  exact ⟨rfl, rfl⟩
def RetRV (w : World) (v : List Nt) (e : Ending) (w' : World) : Prop := ∃ A c, e = .returned (.tuple #[.slice A v.length c, .bool true]) ∧ w'.ownsRow w.heap.size 60 6 (.slice A v.length c) v.length (fl encNote v) ∧ Below w.heap.size w w'
set_option maxHeartbeats 4000000 in
theorem impl_ReadVoice (v : List Nt) (w : World) (hv : vvB v = true) (htb : Tb w) (hmx : Mx w) : Calls Tryz.prog 9 #[.string (stV (vxL v))] w (RetRV w v) := by
  have HTB := Lib.hid htb; have HM := Lib.hid hmx; clear htb hmx
  have HV := Lib.hid hv
  have h60 := (vvB_iff.1 hv).1
  have HNV : Hid (∀ k, k < v.length → nvB (glNote v k) = true) := Lib.hid (fun k hk => ((vvB_iff.1 hv).2 k hk).1)
  rw [show vxL v = vxTo v v.length from if_pos hv]
  clear hv
  by_cases h0 : v.length = 0
  · obtain rfl : v = [] := List.length_eq_zero_iff.1 h0
    have p0 : ((stV (vxTo [] 0)).toList == []) = true := stV_yes rfl
    clear h60 h0
    go_enter Tryz.func9, Tryz.ntmps9
    go_wp2_with fail
    go_ret2
    exact ⟨_, _, rfl, (own_empty (Below.refl _ _) (Nat.le_refl _)).1, (Below.refl _ _).alloc (Nat.le_refl _) _⟩
  have h0' : 0 < v.length := by omega
  have hne : vxTo v v.length ≠ [] := by
    obtain ⟨k, hk⟩ : ∃ k, v.length = k + 1 := ⟨v.length - 1, by omega⟩
    rw [hk, vxTo]
    intro h
    exact nt_ne (HNV.out k (by omega)) (List.append_eq_nil_iff.1 h).2
  have p0 : ((stV (vxTo v v.length)).toList == []) = false := stV_no hne
  have HSP := Lib.hid (fun w1 hm => split_ret v v.length h0' (fun j hj => nt_no (HNV.out j hj)) (Nat.le_trans (vx_len v v.length) (by omega)) w1 hm)
  have HCE : Hid (∀ k, k < v.length → ((sxs v v.length).map Value.string).toArray[k]? = some (.string (stV (ntL (glNote v k))))) := Lib.hid (fun k hk => by
    simp [sxs, hk])
  have HHN := Lib.hid h0
  generalize vxTo v v.length = x at *
  generalize ((sxs v v.length).map Value.string).toArray = pc at *
  clear h0 hne
  obtain ⟨i0, hi, hz0, hz1, hz2⟩ := info_parts infoNote
  have HI := Lib.hid hi; have H0 := Lib.hid hz0; have H1 := Lib.hid hz1; have H2 := Lib.hid hz2; clear hi hz0 hz1 hz2
  have hoe := own_empty (base := w.heap.size) (e := 60) (size := 6) (Below.refl w.heap.size w) (Nat.le_refl _)
  have HO := Lib.hid hoe.1
  have HB := Lib.hid ((Below.refl w.heap.size w).alloc (Nat.le_refl _) (.cells #[] 60))
  have HZ : Hid ((w.alloc (.cells #[] 60)).heap.size = w.heap.size + 1) := Lib.hid (by simp)
  clear hoe
  go_enter Tryz.func9, Tryz.ntmps9
  go_upto_region 2 with fail
  generalize w.alloc (.cells #[] 60) = w0 at *
  go_wp2_with fail
  refine (HSP.out w0 (HM.out.next HB.out)).mono ?_
  rintro e w1 ⟨rfl, rfl⟩
  have hbp : w0.heap.size = w.heap.size + 1 := HZ.out
  have HP := Lib.hid (Blk.new w0 9 pc)
  have z1 : w0.heap.size + 1 ≤ (w0.alloc (.cells pc 9)).heap.size := by simp
  rw [hbp] at HP z1 ⊢
  replace HO := Lib.hid (HO.out.alloc (.cells pc 9)); replace HB := Lib.hid (HB.out.alloc (by omega) (.cells pc 9))
  clear hbp HZ HSP
  generalize w0.alloc (.cells pc 9) = w1 at *
  have hw1 : w.heap.size + 2 ≤ w1.heap.size := by omega
  have HXL : Hid (v.take 0 = []) := Lib.hid (by simp)
  go_wp2_with fail
  go_loopw [4, 16] (fun q i wr => ∃ (k : Nat) (A2 : Option Addr) (c2 : Nat) (zs : List Nt), k ≤ v.length ∧ i = .int .i64 k ∧ q = .slice A2 zs.length c2 ∧ zs = v.take k ∧ wr.ownsRow w.heap.size 60 6 (.slice A2 zs.length c2) zs.length (fl encNote zs) ∧ Blk wr (w.heap.size + 1) 9 pc ∧ obA A2 ≠ some (w.heap.size + 1) ∧ Below w.heap.size w wr ∧ w.heap.size + 2 ≤ wr.heap.size) (fun _ i _ => v.length - (intOf i).toNat)
  case atStart => exact ⟨0, _, _, [], Nat.zero_le _, rfl, rfl, HXL.out.symm, HO.out, HP.out, (by intro h; have h2 : w.heap.size = w.heap.size + 1 := Option.some.inj h; omega), HB.out, hw1⟩
  case round =>
    clear HO HP HB HXL
    obtain ⟨k, A2, c2, zs, hk, rfl, rfl, hz_, ho_, hp_, hne_, hb_, hsz⟩ := hrel
    have HZL : Hid (zs.length = k) := Lib.hid (by rw [hz_]; simp; omega)
    have HZ := Lib.hid hz_; have HO := Lib.hid ho_; have HP := Lib.hid hp_; have HNE := Lib.hid hne_; have HB := Lib.hid hb_
    clear hz_ ho_ hp_ hne_ hb_
    by_cases hlt : k < v.length
    · have hi1 : ((k : Int) < (v.length : Int)) = True := eq_true (by omega)
      have hin : (k : Int).toNat = k := by omega
      have hpk : wr.cell? ⟨w.heap.size + 1, k, none⟩ = some (.string (stV (ntL (glNote v k)))) := (HP.out.cell k).trans (HCE.out k hlt)
      have HNK := Lib.hid (HNV.out k hlt)
      have HTK : Hid (v.take (k + 1) = v.take k ++ [glNote v k]) := Lib.hid (by rw [List.take_succ_eq_append_getElem hlt, glNote_get hlt])
      have hk60 : ((zs.length : Int) == 60) = false := beq_false_of_ne (by have := HZL.out; omega)
      rcases hgn : glNote v k with ⟨r, a, b1, c1, t, d⟩
      have HRN : Hid (Calls Tryz.prog 27 #[.string (stV (ntL (glNote v k)))] wr (RetN2 wr (glNote v k) true)) := Lib.hid (impl_ReadNote_v _ wr HNK.out (HTB.out.next HB.out) (HM.out.next HB.out))
      rw [hgn] at hpk HNK HRN
      have HGN := Lib.hid hgn; clear hgn
      generalize ntL (r, a, b1, c1, t, d) = xt at *
      go_upto_region 8 with (go_at_call 27; refine HRN.out.mono ?_; rintro e w2 ⟨rfl, b2⟩)
      have z2 := b2.size
      clear hpk HRN
      replace HO := Lib.hid (Row.below (Row.mk_ HO.out) b2 (Nat.le_refl _)).1; replace HP := Lib.hid (HP.out.below b2 (by omega)); replace HB := Lib.hid (HB.out.trans (b2.mono (by omega))); clear b2
      try dsimp only
      have HN := Lib.hid (Blk.new w2 60 #[.bool r, .int .i64 a, .int .i64 b1, .int .i64 c1, .int .i64 t, .bool d])
      replace HO := Lib.hid (HO.out.alloc (.cells #[.bool r, .int .i64 a, .int .i64 b1, .int .i64 c1, .int .i64 t, .bool d] 60)); replace HP := Lib.hid (HP.out.alloc (.cells #[.bool r, .int .i64 a, .int .i64 b1, .int .i64 c1, .int .i64 t, .bool d] 60)); replace HB := Lib.hid (HB.out.alloc (by omega) (.cells #[.bool r, .int .i64 a, .int .i64 b1, .int .i64 c1, .int .i64 t, .bool d] 60))
      have z3 : w2.heap.size + 1 ≤ (w2.alloc (.cells #[.bool r, .int .i64 a, .int .i64 b1, .int .i64 c1, .int .i64 t, .bool d] 60)).heap.size := by simp
      generalize w2.alloc (.cells #[.bool r, .int .i64 a, .int .i64 b1, .int .i64 c1, .int .i64 t, .bool d] 60) = w3 at *
      have n0 := HN.out.cell 0; have n1 := HN.out.cell 1; have n2 := HN.out.cell 2; have n3 := HN.out.cell 3; have n4 := HN.out.cell 4; have n5 := HN.out.cell 5
      have HSN : Hid ([Value.bool r, .int .i64 a, .int .i64 b1, .int .i64 c1, .int .i64 t, .bool d] = encNote (glNote v k)) := Lib.hid (by rw [HGN.out]; rfl)
      go_wp2_with (at_builtin; refine app_rec (enc := encNote) rfl _ _ 34 rfl w.heap.size 60 i0 (.agg #[Value.bool false, Value.int .i64 0, Value.int .i64 0, Value.int .i64 0, Value.int .i64 0, Value.bool false]) 48 Tryz.underlying34 HI.out H0.out H1.out H2.out rfl (by decide) (by decide) w3 A2 c2 zs HO.out (by omega) (by have := HZL.out; omega) rfl (glNote v k) [.bool r, .int .i64 a, .int .i64 b1, .int .i64 c1, .int .i64 t, .bool d] HSN.out rfl (note_one _ _ _ _ _ _) w3.heap.size rfl rfl ?_; intro g2 cap2 w9 o9 gr9; have O9 := Lib.hid o9; have G9 := Lib.hid gr9; clear o9 gr9)
      have z9 := G9.out.1.size
      have HX9 : Hid (zs ++ [glNote v k] = v.take (k + 1)) := Lib.hid (by rw [HTK.out, HZ.out])
      have HL9 : Hid ((zs ++ [glNote v k]).length = zs.length + 1) := Lib.hid (by simp)
      have HOB := Lib.hid (own_ob HO.out)
      have B9 := Lib.hid (G9.out.below (B := w.heap.size) (by omega) (fun q e => (HOB.out q e).1))
      have P9 := Lib.hid (G9.out.blk HP.out HNE.out)
      have N9 := Lib.hid (G9.out.ne (nb := w.heap.size + 1) (by omega) HNE.out)
      go_roundw
      case rel => exact ⟨k + 1, some ⟨g2, 0, none⟩, cap2, zs ++ [glNote v k], by omega, by go_num, by rw [HL9.out], HX9.out, by rw [HL9.out]; exact O9.out, P9.out, N9.out, HB.out.trans (B9.out.mono (by omega)), by omega⟩
      case measure => simp [intOf]; omega
    · obtain rfl : k = v.length := by omega
      have hi1 : ((v.length : Int) < (v.length : Int)) = False := eq_false (by omega)
      have HZE : Hid (zs = v) := Lib.hid (by rw [HZ.out]; simp)
      have HRD := Lib.hid (RdR.of_own HO.out)
      have HLN : Hid (zs.length ≤ 1048576) := Lib.hid (by have := HZL.out; omega)
      go_wp2_with fail
      refine (impl_VoiceValid _ _ _ _ HRD.out HLN.out).mono ?_
      rw [show vvB zs = true by rw [HZE.out]; exact HV.out]
      rintro e w5 ⟨rfl, b5⟩
      replace HO := Lib.hid (Row.below (Row.mk_ HO.out) b5 (Nat.le_refl _)).1; replace HB := Lib.hid (HB.out.trans (b5.mono (by omega))); clear b5
      go_wp2_with fail
      go_ret2
      have HO2 := HO.out
      rw [HZE.out] at HO2 ⊢
      exact ⟨_, _, rfl, HO2, HB.out⟩
theorem split_q (w : World) (hm : Mx w) :
    Calls Tryz.prog 26 #[.string (stV [63]), .string ⟨#[32]⟩] w fun e w' => e = .returned (.slice (some ⟨w.heap.size, 0, none⟩) 1 1) ∧ w' = w.alloc (.cells #[.string (stV [63])] 9) := by
  obtain ⟨m, hm⟩ := hm
  have hc : Lib.countB (stV [63]) ⟨#[32]⟩ = 0 := by
    show Lib.count (stV _).data.toList [32] = 0
    rw [stV_l, Lib.count_one]; decide
  refine (Tryz.strings_Split _ _ m w (by rw [stV_size]; decide) hm (by decide)).mono ?_
  rintro e w' ⟨rfl, rfl⟩
  rw [hc]
  exact ⟨rfl, rfl⟩
set_option maxHeartbeats 4000000 in
theorem impl_ReadVoice_q (w : World) (hmx : Mx w) (hes : Es w) : Calls Tryz.prog 9 #[.string (stV [63])] w fun e w' => e = .returned (.tuple #[.slice none 0 0, .bool false]) ∧ Below w.heap.size w w' := by
  have HM := Lib.hid hmx; have HE := Lib.hid hes; clear hmx hes
  have p0 : ((stV [63]).toList == []) = false := stV_no (by decide)
  have HB := Lib.hid ((Below.refl w.heap.size w).alloc (Nat.le_refl _) (.cells #[] 60))
  have HZ : Hid ((w.alloc (.cells #[] 60)).heap.size = w.heap.size + 1) := Lib.hid (by simp)
  obtain ⟨x, hx⟩ : ∃ x, x = stV [63] := ⟨_, rfl⟩
  have HSP : Hid (∀ w1, Mx w1 → Calls Tryz.prog 26 #[.string x, .string ⟨#[32]⟩] w1 fun e w' => e = .returned (.slice (some ⟨w1.heap.size, 0, none⟩) 1 1) ∧ w' = w1.alloc (.cells #[.string x] 9)) := Lib.hid (by rw [hx]; exact split_q)
  have HRN : Hid (∀ w1, Mx w1 → Es w1 → Calls Tryz.prog 27 #[.string x] w1 (RetN2 w1 (false, 0, 0, 0, 0, false) false)) := Lib.hid (by rw [hx]; exact impl_ReadNote_q)
  rw [← hx] at p0 ⊢
  clear hx
  go_enter Tryz.func9, Tryz.ntmps9
  go_upto_region 2 with fail
  generalize w.alloc (.cells #[] 60) = w0 at *
  go_wp2_with fail
  refine (HSP.out w0 (HM.out.next HB.out)).mono ?_
  rintro e w1 ⟨rfl, rfl⟩
  have hbp : w0.heap.size = w.heap.size + 1 := HZ.out
  have HP := Lib.hid (Blk.new w0 9 #[.string x])
  have z1 : w0.heap.size + 1 ≤ (w0.alloc (.cells #[.string x] 9)).heap.size := by simp
  rw [hbp] at HP z1 ⊢
  replace HB := Lib.hid (HB.out.alloc (by omega) (.cells #[.string x] 9))
  clear hbp HZ HSP
  generalize w0.alloc (.cells #[.string x] 9) = w1 at *
  have hw1 : w.heap.size + 2 ≤ w1.heap.size := by omega
  go_wp2_with fail
  go_loopw [16] (fun i wr => i = .int .i64 (0 : Nat) ∧ wr = w1) (fun _ _ => 0)
  case atStart => exact ⟨rfl, rfl⟩
  case round =>
    obtain ⟨rfl, rfl⟩ := hrel
    have hpk : wr.cell? ⟨w.heap.size + 1, 0, none⟩ = some (.string x) := HP.out.cell 0
    go_upto_region 8 with (go_at_call 27; refine (HRN.out _ (HM.out.next HB.out) (HE.out.next HB.out)).mono ?_; rintro e w2 ⟨rfl, b2⟩)
    have z2 := b2.size
    clear hpk
    replace HB := Lib.hid (HB.out.trans (b2.mono (by omega))); clear b2
    replace HB := Lib.hid (HB.out.alloc (by omega) (.cells #[.bool false, .int .i64 0, .int .i64 0, .int .i64 0, .int .i64 0, .bool false] 60))
    generalize w2.alloc (.cells #[.bool false, .int .i64 0, .int .i64 0, .int .i64 0, .int .i64 0, .bool false] 60) = w3 at *
    go_wp2_with fail
    go_ret2
    exact ⟨rfl, HB.out⟩
end Go.Proofs.YtmodpleonhniaaaGreatDoor
