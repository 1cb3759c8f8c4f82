/- The contract of the program's VoiceText. Condition: at most 2^20 notes, the table laid (Tb). -/
import Derived.Test.YtmodpleonhniaaaGreatDoorNtx2
namespace Go.Proofs.YtmodpleonhniaaaGreatDoor
open Go.RowKit
set_option linter.unusedSimpArgs false
set_option linter.unusedVariables false
set_option maxRecDepth 100000
theorem join_snoc (xs : List (List UInt8)) (y sep : List UInt8) : Lib.join (xs ++ [y]) sep = Lib.join xs sep ++ (if 0 < xs.length then sep else []) ++ y := by
  cases xs with
  | nil => simp [Lib.join_one, Lib.join_nil]
  | cons x r => rw [List.cons_append, Lib.join_cons, Lib.join_cons]; simp [Lib.joinTail]
/-- the texts of the first k notes -/
def sxs (v : List Nt) (k : Nat) : List ByteArray := (List.range k).map fun j => stV (ntL (glNote v j))
theorem sxs_len (v : List Nt) (k : Nat) : (sxs v k).length = k := by simp [sxs]
theorem sxs_next (v : List Nt) (k : Nat) : sxs v (k + 1) = sxs v k ++ [stV (ntL (glNote v k))] := by simp [sxs, List.range_succ]
theorem sxs_join (v : List Nt) : ∀ k, Lib.join ((sxs v k).map (·.data.toList)) [32] = vxTo v k
  | 0 => rfl
  | k + 1 => by
    rw [sxs_next, List.map_append, List.map_cons, List.map_nil, join_snoc, sxs_join v k, List.length_map, sxs_len]; rfl
theorem own_cells {W : World} {base E n c : Nat} {A : Option Addr} {xs : List ByteArray} (h : W.ownsRow base E 1 (.slice A n c) n (xs.map Value.string)) (hn : 0 < n) : ∃ bk, A = some ⟨bk, 0, none⟩ ∧ bk < W.heap.size ∧ n ≤ c ∧ xs.length = n ∧ ∀ (j : Nat) x, xs[j]? = some x → W.cell? ⟨bk, 0 + j, none⟩ = some (.string x) := by
  have hlen : xs.length = n := by have := h.1; simpa using this
  obtain ⟨g, cap, hv, hb, hlt⟩ := h.form hn
  injection hv with h1 h2 h3
  subst h1; subst h3
  refine ⟨g, rfl, hlt, ?_, hlen, ?_⟩
  · rcases h.2 with ⟨h0, _⟩ | ⟨g2, cap2, cur, hv2, _, _, hc, _⟩
    · cases h0
    · injection hv2 with _ _ h4; omega
  · intro j x hx
    have hj : j < n := by rw [← hlen]; exact (List.getElem?_eq_some_iff.1 hx).1
    rw [Nat.zero_add, h.cellAt j (by omega), List.getElem?_map, hx]; rfl
theorem infoStr : (Tryz.prog.info? 9).map (fun i => (i.zero, i.size, i.bytes)) = some (some (Value.string ⟨#[]⟩), 1, 16) := by kernel_rfl
set_option maxHeartbeats 2000000 in
theorem impl_VoiceText (A : Option Addr) (c : Nat) (v : List Nt) (w : World) (hr : RdNote w w.heap.size A v) (hl : v.length ≤ 1048576) (ht : Tb w) : Calls Tryz.prog 43 #[.slice A v.length c] w (RetS w (vxL v)) := by
  have HR := Lib.hid hr; have HT := Lib.hid ht; clear hr ht
  cases hv : vvB v
  · have HF : Hid (vxL v = []) := Lib.hid (if_neg (by rw [hv]; simp))
    have HV := Lib.hid hv; clear hv
    go_enter Tryz.func43, Tryz.ntmps43
    go_wp2_with (go_at_call 28; refine (impl_VoiceValid _ _ _ _ HR.out hl).mono ?_; rw [HV.out]; rintro e w1 ⟨rfl, b1⟩; have HB1 := Lib.hid b1)
    go_ret
    exact ⟨ret_st (by rw [HF.out]; rfl), HB1.out⟩
  have HF : Hid (vxL v = vxTo v v.length) := Lib.hid (if_pos hv)
  have HV := Lib.hid hv
  have h60 := (vvB_iff.1 hv).1; clear hv
  obtain ⟨i0, hi, hz0, hz1, hz2⟩ := info_parts infoStr
  have HI := Lib.hid hi; have H0 := Lib.hid hz0; have H1 := Lib.hid hz1; have H2 := Lib.hid hz2; clear hi hz0 hz1 hz2
  go_enter Tryz.func43, Tryz.ntmps43
  go_wp2_with (go_at_call 28; refine (impl_VoiceValid _ _ _ _ HR.out hl).mono ?_; rw [HV.out]; rintro e w1 ⟨rfl, b1⟩; have HB := Lib.hid b1; have z1 := b1.size; replace HR := Lib.hid (RdNote.more (RdNote.below HR.out b1 (Nat.le_refl _)) z1); clear b1)
  go_loopw [3, 12] (fun s i wr => ∃ k : Nat, k ≤ v.length ∧ i = .int .i64 k ∧ ∃ A' c', s = .slice A' k c' ∧ wr.ownsRow w1.heap.size 9 1 (.slice A' k c') k ((sxs v k).map Value.string) ∧ Below w1.heap.size w1 wr ∧ w1.heap.size ≤ wr.heap.size) (fun _ i _ => v.length - (intOf i).toNat)
  case atStart => exact ⟨0, Nat.zero_le _, rfl, _, _, rfl, (own_empty (Below.refl _ _) (Nat.le_refl _)).1, (own_empty (size := 1) (Below.refl _ _) (Nat.le_refl _)).2.1, by simp⟩
  case round =>
    obtain ⟨k, hk, rfl, A', c', rfl, ho, hbel, hsx⟩ := hrel
    have HO := Lib.hid ho; have HL := Lib.hid hbel; clear ho
    by_cases hlt : k < v.length
    · have hi : ((k : Int) < (v.length : Int)) = True := eq_true (by omega)
      have hin : (k : Int).toNat = k := by omega
      have HN := Lib.hid (sxs_next v k)
      obtain ⟨b8, off, hA, hbB, hc0, hc1, hc2, hc3, hc4, hc5⟩ := (RdNote.below HR.out hbel (Nat.le_refl _)).at_ (k := k) hlt
      rcases hgn : glNote v k with ⟨r, a, b, c1, t, d⟩
      rw [hgn] at hc0 hc1 hc2 hc3 hc4 hc5
      have HGN := Lib.hid hgn; clear hgn hbel
      dsimp only at hc0 hc1 hc2 hc3 hc4 hc5
      subst hA
      have HTN : Hid (∀ o, Tb (wr.alloc o)) := Lib.hid fun o => HT.out.next ((HB.out.trans (HL.out.mono z1)).alloc (by omega) o)
      go_wp2_with (first
        | (go_at_call 57; refine (impl_NoteText r a b c1 t d _ (HTN.out _)).mono ?_; rintro e w2 ⟨rfl, b2⟩; have b5 := ((Below.refl wr.heap.size wr).alloc (Nat.le_refl _) _).trans (b2.mono (by simp)); have SZ2 := Nat.le_trans hsx b5.size; have HO2 := Lib.hid (Row.below (Row.mk_ HO.out) b5 (Nat.le_refl _)).1; replace HL := Lib.hid (HL.out.trans (b5.mono hsx)); clear b2 b5)
        | (at_builtin; refine append_el rfl _ _ 42 rfl 9 i0 (.string ⟨#[]⟩) 1 16 Tryz.underlying42 HI.out H0.out H1.out H2.out rfl (by decide) (by decide) w1.heap.size w2 w2 _ k _ HO2.out (Below.refl _ _) SZ2 (by omega) rfl _ rfl (by simp [Value.oneCell']) rfl ?_; intro A2 c2 w3 o3 b3 s3 _))
      have o4 : w3.ownsRow w1.heap.size 9 1 (.slice A2 (k + 1) c2) (k + 1) ((sxs v (k + 1)).map Value.string) := by rw [HN.out, HGN.out, List.map_append]; exact o3
      clear o3
      go_wp2_with fail
      go_roundw
      case rel => exact ⟨k + 1, by omega, by go_num, A2, c2, rfl, o4, HL.out.trans b3, s3⟩
      case measure => simp [intOf]; omega
    · obtain rfl : k = v.length := by omega
      have hi : ((v.length : Int) < (v.length : Int)) = False := eq_false (by omega)
      have HJ : Hid (Calls Tryz.prog 66 #[.slice A' v.length c', .string ⟨#[32]⟩] wr fun e w' => e = .returned (.string (stV (vxTo v v.length))) ∧ Below wr.heap.size wr w') := Lib.hid (by
        rcases Nat.eq_zero_or_pos v.length with h0 | h0
        · rw [h0]
          refine (Tryz.strings_Join_none A' c' _ wr).mono ?_
          rintro e w' ⟨rfl, rfl⟩
          exact ⟨rfl, Below.refl _ _⟩
        · obtain ⟨bk, hA, hbk, hcap, hxl, hcells⟩ := own_cells HO.out h0
          subst hA
          have hj := sxs_join v v.length
          have hlen := vx_len v v.length
          have h := Tryz.strings_Join bk 0 c' (sxs v v.length) ⟨#[32]⟩ wr hcells hbk (by omega) (by omega) (by show (Lib.join _ [32]).length ≤ _; rw [hj]; omega)
          rw [hxl] at h
          refine h.mono ?_
          rintro e w' ⟨rfl, hb⟩
          refine ⟨?_, hb⟩
          show Ending.returned (.string ⟨(Lib.join _ [32]).toArray⟩) = _
          rw [hj]; rfl)
      go_wp2_with (go_at_call 66; refine HJ.out.mono ?_; rintro e w2 ⟨rfl, b2⟩; replace HL := Lib.hid (HB.out.trans ((HL.out.trans (b2.mono hsx)).mono z1)); clear b2)
      go_ret
      exact ⟨ret_st (by rw [HF.out]), HL.out⟩
end Go.Proofs.YtmodpleonhniaaaGreatDoor
