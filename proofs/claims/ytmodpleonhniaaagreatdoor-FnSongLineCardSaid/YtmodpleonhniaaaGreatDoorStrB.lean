/- Strings as lists of bytes; the contract of l8Number. Condition: the number fits. -/
import Derived.Test.YtmodpleonhniaaaGreatDoorMrg1
import Derived.Laws.IdiomStrings
import Derived.Lib.ItoaNum
namespace Go.Proofs.YtmodpleonhniaaaGreatDoor
open Go.RowKit
set_option linter.unusedSimpArgs false
set_option linter.unusedVariables false
set_option maxRecDepth 100000
def stV (l : List UInt8) : ByteArray := ⟨l.toArray⟩
def RetS (w : World) (l : List UInt8) (e : Ending) (w' : World) : Prop := e = .returned (.string (stV l)) ∧ Below w.heap.size w w'
theorem ret_st {a b : ByteArray} (h : a = b) : Ending.returned (.string a) = .returned (.string b) := by rw [h]
theorem stV_size (l : List UInt8) : (stV l).size = l.length := by simp [stV, ByteArray.size]
theorem stV_app (a b : List UInt8) : stV a ++ stV b = stV (a ++ b) := ByteArray.mk_append_mk a b
theorem conv_one (W : World) (b : UInt8) (x : Int) (hx : (b.toNat : Int) = x) : (convert 22 9 (.slice (some ⟨W.heap.size, 0, none⟩) 1 1)).run Tryz.prog (W.alloc (.cells #[.int .u8 x] 5)) = .ok (.string (stV [b])) (W.alloc (.cells #[.int .u8 x] 5)) := by
  subst hx
  refine run_convert_bytes_back (P := Tryz.prog) _ 22 9 5 ⟨W.heap.size, 0, none⟩ 1 [b] Tryz.underlying22 Tryz.underlying5 Tryz.underlying9 ?_
  intro j hj
  obtain rfl : j = 0 := by simp at hj; omega
  rw [Go.WideShapes.add_plain, Nat.zero_add]
  exact ((Blk.new W _ _).cell 0).trans rfl
/-- the last digit -/
def dgt (n : Nat) : UInt8 := UInt8.ofNat (48 + n % 10)
theorem dig_nat (n : Nat) : ((dgt n).toNat : Int) = 48 + (n : Int) % 10 := by
  have h : n % 10 < 10 := Nat.mod_lt _ (by decide)
  unfold dgt
  have h2 : (UInt8.ofNat (48 + n % 10)).toNat = 48 + n % 10 := by
    rw [UInt8.toNat_ofNat']; exact Nat.mod_eq_of_lt (by omega)
  omega
/-- the digits ahead of the last one -/
def preD (u : Nat) : List UInt8 := if u < 10 then [] else Lib.decDigits (u / 10)
theorem dec_pre (u : Nat) : Lib.decDigits u = preD u ++ [dgt u] := by
  rw [Lib.decDigits]
  unfold preD dgt
  split
  · rw [Nat.mod_eq_of_lt (by assumption)]; rfl
  · rfl
theorem pre_next {u : Nat} (h : ¬ u < 10) : preD u = preD (u / 10) ++ [dgt (u / 10)] := by
  conv => lhs; unfold preD
  rw [if_neg h, dec_pre]
theorem nd_le : ∀ (k u : Nat), u < 10 ^ (k + 1) → Lib.nDigits u ≤ k + 1 := by
  intro k
  induction k with
  | zero => intro u hu; rw [Lib.nDigits, dif_pos (by simpa using hu)]; exact Nat.le_refl _
  | succ k ih =>
    intro u hu
    rw [Lib.nDigits]
    split
    · omega
    · have := ih (u / 10) (by rw [Nat.pow_succ] at hu; exact Nat.div_lt_of_lt_mul (by rw [Nat.mul_comm]; exact hu))
      omega
theorem dec_len {N : Nat} (h : N ≤ 9223372036854775807) : (Lib.decDigits N).length ≤ 19 := by
  rw [Lib.decDigits_length]; exact nd_le 18 N (by omega)
set_option maxHeartbeats 1000000 in
theorem spec_l8Number (N : Nat) (w : World) (hn : N ≤ 9223372036854775807) : Calls Tryz.prog 16 #[.int .i64 N] w (RetS w (Lib.decDigits N)) := by
  have hc := fun W => conv_one W _ _ (dig_nat N)
  have hlt : N % 10 < 10 := Nat.mod_lt _ (by decide)
  have HD := Lib.hid (dec_pre N)
  go_enter Tryz.func16, Tryz.ntmps16
  go_wp2_with fail
  clear hc
  go_loopw [0, 3] (fun v s wr => ∃ (n : Nat) (l : List UInt8), n ≤ N ∧ v = .int .i64 n ∧ s = .string (stV l) ∧ Lib.decDigits N = preD n ++ l ∧ Below w.heap.size w wr) (fun v _ _ => (intOf v).toNat)
  case atStart => exact ⟨N, _, Nat.le_refl _, rfl, rfl, HD.out, by (repeat (first | exact Below.refl _ _ | refine Below.alloc ?_ (by simp; try omega) _ | refine below_drewN ?_ _ | refine Below.drew ?_))⟩
  case round =>
    obtain ⟨n, l, hnN, rfl, rfl, hdd, hbel⟩ := hrel
    have HDD := Lib.hid hdd; have HB := Lib.hid hbel; clear hdd hbel
    have hsz := HB.out.size
    by_cases h9 : n < 10
    · have hi : ((9 : Int) < (n : Int)) = False := eq_false (by omega)
      have HF : Hid (Lib.decDigits N = l) := Lib.hid (by rw [HDD.out]; unfold preD; rw [if_pos h9]; rfl)
      go_wp2_with fail
      go_ret
      exact ⟨ret_st (by rw [HF.out]), HB.out⟩
    · have hi : ((9 : Int) < (n : Int)) = True := eq_true (by omega)
      have HP := Lib.hid (pre_next h9)
      have hq : (n : Int).tdiv 10 = ((n / 10 : Nat) : Int) := by rw [Int.tdiv_eq_ediv_of_nonneg (by omega)]; omega
      have hq2 : n / 10 < n := Nat.div_lt_self (by omega) (by decide)
      obtain ⟨m, hm⟩ : ∃ m, m = n / 10 := ⟨_, rfl⟩
      rw [← hm] at hq hq2 HP
      have HM := Lib.hid hm; clear hm
      have hc := fun W => conv_one W _ _ (dig_nat m)
      have hst := stV_app [dgt m] l
      have hll : l.length ≤ 19 := by have h8 := dec_len hn; rw [HDD.out, List.length_append] at h8; omega
      have hz1 := stV_size [dgt m]; have hz2 := stV_size l
      have hz3 : ¬ (9223372036854775807 : Int) < 1 + (l.length : Int) := by omega
      rw [List.length_singleton] at hz1
      go_wp2_with fail
      go_roundw
      case rel => exact ⟨m, [dgt m] ++ l, by omega, by go_num, rfl, by rw [HDD.out, HP.out, List.append_assoc], HB.out.alloc hsz _⟩
      case measure => simp [intOf]; omega
end Go.Proofs.YtmodpleonhniaaaGreatDoor
