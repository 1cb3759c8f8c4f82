/- Contracts of KeySpeed, WaveAt, ShapeValid, heldLevel and LevelAt, of the program and of the reference, and of toShape. No condition but that numbers fit int64. -/
import Derived.Test.YtijbciiocmdmmaaNum
import Derived.RegionCalls
namespace Go.Proofs.Ytijbciiocmdmmaa
set_option linter.unusedVariables false
open Go.RowKit

def kspeeds : List Int := [95955, 101661, 107706, 114111, 120896, 128085, 135701, 143770, 152319, 161377, 170973, 181139]
theorem iv_at {zs : List Int} {k : Nat} (h : k < zs.length) : (iv zs)[k]? = some (.int .i64 (gi zs k)) := by
  rw [iv, List.getElem?_map, List.getElem?_eq_getElem h, gi_get h]; rfl
theorem kspeed_at (k : Nat) (h : k < 12) : [Value.int IntKind.i64 95955, Value.int IntKind.i64 101661, Value.int IntKind.i64 107706, Value.int IntKind.i64 114111, Value.int IntKind.i64 120896, Value.int IntKind.i64 128085, Value.int IntKind.i64 135701, Value.int IntKind.i64 143770, Value.int IntKind.i64 152319, Value.int IntKind.i64 161377, Value.int IntKind.i64 170973, Value.int IntKind.i64 181139][k]? = some (.int .i64 (gi kspeeds k)) :=
  iv_at (zs := kspeeds) h
/-- what KeySpeed returns -/
def speedL (n : Int) : Int := if inR n 0 107 = true then gi kspeeds (n % 12).toNat / 2 ^ (8 - n / 12).toNat else -1
theorem speedL_yes {n : Int} (h : inR n 0 107 = true) : speedL n = gi kspeeds (n % 12).toNat / 2 ^ (8 - n / 12).toNat := by rw [speedL, if_pos h]
theorem speedL_no {n : Int} (h : inR n 0 107 = false) : speedL n = -1 := by rw [speedL, if_neg (by simp [h])]
theorem impl_KeySpeed (n : Int) (w : World) : Calls Try.prog 14 #[.int .i64 n] w (RetI w (speedL n)) := by
  cases hi : inR n 0 107
  · have HF := Lib.hid (speedL_no hi)
    go_enter Try.func14, Try.ntmps14
    go_wp2_with (go_at_call 47; refine (impl_within _ _ _ _).mono ?_; rintro e w' ⟨rfl, rfl⟩)
    go_ret
    exact ⟨ret_int HF.out.symm, Below.refl _ _⟩
  · have hb := inR_iff.1 hi
    have hk := kspeed_at (n % 12).toNat (by omega)
    have HF := Lib.hid (speedL_yes hi)
    go_enter Try.func14, Try.ntmps14
    go_wp2_with (go_at_call 47; refine (impl_within _ _ _ _).mono ?_; rintro e w' ⟨rfl, rfl⟩)
    go_ret
    exact ⟨ret_int HF.out.symm, (Below.refl _ _).alloc (Nat.le_refl _) _⟩
theorem spec_KeySpeed (n : Int) (w : World) : Calls Try.prog 15 #[.int .i64 n] w (RetI w (speedL n)) := by
  cases hi : inR n 0 107
  · have HF := Lib.hid (speedL_no hi)
    go_enter Try.func15, Try.ntmps15
    go_wp2_with (go_at_call 48; refine (spec_l1In _ _ _ _).mono ?_; rintro e w' ⟨rfl, rfl⟩)
    go_ret
    exact ⟨ret_int HF.out.symm, (Below.refl _ _).alloc (Nat.le_refl _) _⟩
  · have hb := inR_iff.1 hi
    have hk := kspeed_at (n % 12).toNat (by omega)
    have HF := Lib.hid (speedL_yes hi)
    go_enter Try.func15, Try.ntmps15
    go_wp2_with (go_at_call 48; refine (spec_l1In _ _ _ _).mono ?_; rintro e w' ⟨rfl, rfl⟩)
    go_ret
    exact ⟨ret_int HF.out.symm, (Below.refl _ _).alloc (Nat.le_refl _) _⟩

/-- what WaveAt returns -/
def waveL (f p : Int) : Int :=
  if inR p 0 999 = true then
    if f = 0 then if p < 500 then 1000 else -1000
    else if f = 1 then 2 * p - 1000
    else if f = 2 then if p < 500 then 4 * p - 1000 else 3000 - 4 * p
    else 0
  else 0
theorem impl_WaveAt (f p : Int) (w : World) : Calls Try.prog 24 #[.int .i64 f, .int .i64 p] w (RetI w (waveL f p)) := by
  cases hi : inR p 0 999
  · have HF : Hid (waveL f p = 0) := by unfold Hid waveL; simp [hi]
    go_enter Try.func24, Try.ntmps24
    go_wp2_with (go_at_call 47; refine (impl_within _ _ _ _).mono ?_; rintro e w' ⟨rfl, rfl⟩)
    go_ret
    exact ⟨ret_int HF.out.symm, Below.refl _ _⟩
  · have hb := inR_iff.1 hi
    have HF : Hid (waveL f p = if f = 0 then if p < 500 then 1000 else -1000 else if f = 1 then 2 * p - 1000 else if f = 2 then if p < 500 then 4 * p - 1000 else 3000 - 4 * p else 0) := by unfold Hid waveL; simp [hi]
    have h0 : f = 0 ∨ f = 1 ∨ f = 2 ∨ (f ≠ 0 ∧ f ≠ 1 ∧ f ≠ 2) := by omega
    by_cases h5 : p < 500
    · have h5b : decide (p < 500) = true := decide_eq_true h5
      rcases h0 with rfl | rfl | rfl | ⟨n0, n1, n2⟩
      · go_enter Try.func24, Try.ntmps24
        go_wp2_with (go_at_call 47; refine (impl_within _ _ _ _).mono ?_; rintro e w' ⟨rfl, rfl⟩)
        go_ret
        exact ⟨ret_int (by rw [HF.out]; first | (simp; done) | (simp; omega) | (simp_all; done)), Below.refl _ _⟩
      · go_enter Try.func24, Try.ntmps24
        go_wp2_with (go_at_call 47; refine (impl_within _ _ _ _).mono ?_; rintro e w' ⟨rfl, rfl⟩)
        go_ret
        exact ⟨ret_int (by rw [HF.out]; first | (simp; done) | (simp; omega) | (simp_all; done)), Below.refl _ _⟩
      · go_enter Try.func24, Try.ntmps24
        go_wp2_with (go_at_call 47; refine (impl_within _ _ _ _).mono ?_; rintro e w' ⟨rfl, rfl⟩)
        go_ret
        exact ⟨ret_int (by rw [HF.out]; first | (simp; done) | (simp; omega) | (simp_all; done)), Below.refl _ _⟩
      · have e0 : (f == 0) = false := by simp [n0]
        have e1 : (f == 1) = false := by simp [n1]
        have e2 : (f == 2) = false := by simp [n2]
        go_enter Try.func24, Try.ntmps24
        go_wp2_with (go_at_call 47; refine (impl_within _ _ _ _).mono ?_; rintro e w' ⟨rfl, rfl⟩)
        go_ret
        exact ⟨ret_int (by rw [HF.out]; first | (simp; done) | (simp; omega) | (simp_all; done)), Below.refl _ _⟩
    · have h5b : decide (p < 500) = false := decide_eq_false h5
      rcases h0 with rfl | rfl | rfl | ⟨n0, n1, n2⟩
      · go_enter Try.func24, Try.ntmps24
        go_wp2_with (go_at_call 47; refine (impl_within _ _ _ _).mono ?_; rintro e w' ⟨rfl, rfl⟩)
        go_ret
        exact ⟨ret_int (by rw [HF.out]; first | (simp; done) | (simp; omega) | (simp_all; done)), Below.refl _ _⟩
      · go_enter Try.func24, Try.ntmps24
        go_wp2_with (go_at_call 47; refine (impl_within _ _ _ _).mono ?_; rintro e w' ⟨rfl, rfl⟩)
        go_ret
        exact ⟨ret_int (by rw [HF.out]; first | (simp; done) | (simp; omega) | (simp_all; done)), Below.refl _ _⟩
      · go_enter Try.func24, Try.ntmps24
        go_wp2_with (go_at_call 47; refine (impl_within _ _ _ _).mono ?_; rintro e w' ⟨rfl, rfl⟩)
        go_ret
        exact ⟨ret_int (by rw [HF.out]; first | (simp; done) | (simp; omega) | (simp_all; done)), Below.refl _ _⟩
      · have e0 : (f == 0) = false := by simp [n0]
        have e1 : (f == 1) = false := by simp [n1]
        have e2 : (f == 2) = false := by simp [n2]
        go_enter Try.func24, Try.ntmps24
        go_wp2_with (go_at_call 47; refine (impl_within _ _ _ _).mono ?_; rintro e w' ⟨rfl, rfl⟩)
        go_ret
        exact ⟨ret_int (by rw [HF.out]; first | (simp; done) | (simp; omega) | (simp_all; done)), Below.refl _ _⟩
theorem spec_WaveAt (f p : Int) (w : World) : Calls Try.prog 25 #[.int .i64 f, .int .i64 p] w (RetI w (waveL f p)) := by
  cases hi : inR p 0 999
  · have HF : Hid (waveL f p = 0) := by unfold Hid waveL; simp [hi]
    go_enter Try.func25, Try.ntmps25
    go_wp2_with (go_at_call 48; refine (spec_l1In _ _ _ _).mono ?_; rintro e w' ⟨rfl, rfl⟩)
    go_ret
    exact ⟨ret_int HF.out.symm, Below.refl _ _⟩
  · have hb := inR_iff.1 hi
    have HF : Hid (waveL f p = if f = 0 then if p < 500 then 1000 else -1000 else if f = 1 then 2 * p - 1000 else if f = 2 then if p < 500 then 4 * p - 1000 else 3000 - 4 * p else 0) := by unfold Hid waveL; simp [hi]
    have h0 : f = 0 ∨ f = 1 ∨ f = 2 ∨ (f ≠ 0 ∧ f ≠ 1 ∧ f ≠ 2) := by omega
    by_cases h5 : p < 500
    all_goals
      rcases h0 with rfl | rfl | rfl | ⟨n0, n1, n2⟩
      · go_enter Try.func25, Try.ntmps25
        go_wp2_with (go_at_call 48; refine (spec_l1In _ _ _ _).mono ?_; rintro e w' ⟨rfl, rfl⟩)
        go_ret
        exact ⟨ret_int (by rw [HF.out]; first | (simp; done) | (simp; omega) | (simp_all; done)), Below.refl _ _⟩
      · go_enter Try.func25, Try.ntmps25
        go_wp2_with (go_at_call 48; refine (spec_l1In _ _ _ _).mono ?_; rintro e w' ⟨rfl, rfl⟩)
        go_ret
        exact ⟨ret_int (by rw [HF.out]; first | (simp; done) | (simp; omega) | (simp_all; done)), Below.refl _ _⟩
      · go_enter Try.func25, Try.ntmps25
        go_wp2_with (go_at_call 48; refine (spec_l1In _ _ _ _).mono ?_; rintro e w' ⟨rfl, rfl⟩)
        go_ret
        exact ⟨ret_int (by rw [HF.out]; first | (simp; done) | (simp; omega) | (simp_all; done)), Below.refl _ _⟩
      · have e0 : (f == 0) = false := by simp [n0]
        have e1 : (f == 1) = false := by simp [n1]
        have e2 : (f == 2) = false := by simp [n2]
        go_enter Try.func25, Try.ntmps25
        go_wp2_with (go_at_call 48; refine (spec_l1In _ _ _ _).mono ?_; rintro e w' ⟨rfl, rfl⟩)
        go_ret
        exact ⟨ret_int (by rw [HF.out]; first | (simp; done) | (simp; omega) | (simp_all; done)), Below.refl _ _⟩

/-- is a shape valid -/
def shapeL (a d s r : Int) : Bool := inR a 0 10000 && inR d 0 10000 && inR r 0 10000 && inR s 0 1000
theorem impl_ShapeValid (a d s r : Int) (w : World) : Calls Try.prog 18 #[.agg #[.int .i64 a, .int .i64 d, .int .i64 s, .int .i64 r]] w
    fun e w' => e = .returned (.bool (shapeL a d s r)) ∧ w.alloc (.cells #[.int .i64 a, .int .i64 d, .int .i64 s, .int .i64 r] 28) = w' := by
  have HF : Hid (shapeL a d s r = (inR a 0 10000 && inR d 0 10000 && inR r 0 10000 && inR s 0 1000)) := rfl
  cases h1 : inR a 0 10000
  · go_enter Try.func18, Try.ntmps18
    go_wp2_with (go_at_call 47; refine (impl_within _ _ _ _).mono ?_; rintro e w' ⟨rfl, rfl⟩)
    go_ret
    exact ⟨ret_bool (by rw [HF.out]; simp_all), rfl⟩
  cases h2 : inR d 0 10000
  · go_enter Try.func18, Try.ntmps18
    go_wp2_with (go_at_call 47; refine (impl_within _ _ _ _).mono ?_; rintro e w' ⟨rfl, rfl⟩)
    go_ret
    exact ⟨ret_bool (by rw [HF.out]; simp_all), rfl⟩
  cases h3 : inR r 0 10000
  · go_enter Try.func18, Try.ntmps18
    go_wp2_with (go_at_call 47; refine (impl_within _ _ _ _).mono ?_; rintro e w' ⟨rfl, rfl⟩)
    go_ret
    exact ⟨ret_bool (by rw [HF.out]; simp_all), rfl⟩
  · go_enter Try.func18, Try.ntmps18
    go_wp2_with (go_at_call 47; refine (impl_within _ _ _ _).mono ?_; rintro e w' ⟨rfl, rfl⟩)
    go_ret
    exact ⟨ret_bool (by rw [HF.out]; simp_all), rfl⟩
theorem impl_ShapeValid_b (a d s r : Int) (w : World) : Calls Try.prog 18 #[.agg #[.int .i64 a, .int .i64 d, .int .i64 s, .int .i64 r]] w (RetB w (shapeL a d s r)) :=
  (impl_ShapeValid a d s r w).mono fun _ _ ⟨h, e⟩ => ⟨h, by subst e; exact (Below.refl _ _).alloc (Nat.le_refl _) _⟩
theorem spec_ShapeValid (a d s r : Int) (w : World) : Calls Try.prog 19 #[.agg #[.int .i64 a, .int .i64 d, .int .i64 s, .int .i64 r]] w
    fun e w' => e = .returned (.bool (shapeL a d s r)) ∧ w.alloc (.cells #[.int .i64 a, .int .i64 d, .int .i64 s, .int .i64 r] 28) = w' := by
  have HF : Hid (shapeL a d s r = (inR a 0 10000 && inR d 0 10000 && inR r 0 10000 && inR s 0 1000)) := rfl
  cases h1 : inR a 0 10000
  · go_enter Try.func19, Try.ntmps19
    go_wp2_with (go_at_call 48; refine (spec_l1In _ _ _ _).mono ?_; rintro e w' ⟨rfl, rfl⟩)
    go_ret
    exact ⟨ret_bool (by rw [HF.out]; simp_all), rfl⟩
  cases h2 : inR d 0 10000
  · go_enter Try.func19, Try.ntmps19
    go_wp2_with (go_at_call 48; refine (spec_l1In _ _ _ _).mono ?_; rintro e w' ⟨rfl, rfl⟩)
    go_ret
    exact ⟨ret_bool (by rw [HF.out]; simp_all), rfl⟩
  cases h3 : inR r 0 10000
  · go_enter Try.func19, Try.ntmps19
    go_wp2_with (go_at_call 48; refine (spec_l1In _ _ _ _).mono ?_; rintro e w' ⟨rfl, rfl⟩)
    go_ret
    exact ⟨ret_bool (by rw [HF.out]; simp_all), rfl⟩
  · go_enter Try.func19, Try.ntmps19
    go_wp2_with (go_at_call 48; refine (spec_l1In _ _ _ _).mono ?_; rintro e w' ⟨rfl, rfl⟩)
    go_ret
    exact ⟨ret_bool (by rw [HF.out]; simp_all), rfl⟩
theorem spec_ShapeValid_b (a d s r : Int) (w : World) : Calls Try.prog 19 #[.agg #[.int .i64 a, .int .i64 d, .int .i64 s, .int .i64 r]] w (RetB w (shapeL a d s r)) :=
  (spec_ShapeValid a d s r w).mono fun _ _ ⟨h, e⟩ => ⟨h, by subst e; exact (Below.refl _ _).alloc (Nat.le_refl _) _⟩

/-- the level while a tone is held -/
def heldLv (a d s t : Int) : Int := if t < a then 1000 * t / a else if t < a + d then 1000 - (1000 - s) * (t - a) / d else s
theorem div_bd {x b q : Int} (h0 : 0 ≤ x) (hb : 0 < b) (h : x ≤ q * b) : 0 ≤ x / b ∧ x / b ≤ q :=
  ⟨Int.ediv_nonneg h0 (Int.le_of_lt hb), Int.ediv_le_of_le_mul hb h⟩
theorem held_mid {a d s t : Int} (hs : 0 ≤ s ∧ s ≤ 1000) (h1 : a ≤ t) (h2 : t < a + d) : 0 ≤ (1000 - s) * (t - a) ∧ (1000 - s) * (t - a) ≤ (1000 - s) * d :=
  ⟨Int.mul_nonneg (by omega) (by omega), Int.mul_le_mul_of_nonneg_left (by omega) (by omega)⟩
theorem mul_le_cap {x y X Y : Int} (hx : 0 ≤ x ∧ x ≤ X) (hy : 0 ≤ y ∧ y ≤ Y) : 0 ≤ x * y ∧ x * y ≤ X * Y :=
  ⟨Int.mul_nonneg hx.1 hy.1, Int.mul_le_mul hx.2 hy.2 hy.1 (by omega)⟩
theorem heldLv_bd {a d s t : Int} (ha : 0 ≤ a) (hs : 0 ≤ s ∧ s ≤ 1000) (ht : 0 ≤ t) : 0 ≤ heldLv a d s t ∧ heldLv a d s t ≤ 1000 := by
  unfold heldLv
  split
  · exact div_bd (by omega) (by omega) (Int.mul_le_mul_of_nonneg_left (by omega) (by omega))
  split
  · have hm := held_mid (a := a) (d := d) (t := t) hs (by omega) (by omega)
    have := div_bd hm.1 (by omega : 0 < d) hm.2
    omega
  · exact hs
theorem impl_heldLevel (a d s r t : Int) (w : World) (ha : 0 ≤ a ∧ a ≤ 10000) (hd : 0 ≤ d ∧ d ≤ 10000) (hs : 0 ≤ s ∧ s ≤ 1000) (ht : 0 ≤ t ∧ t ≤ 1000000) :
    Calls Try.prog 52 #[.agg #[.int .i64 a, .int .i64 d, .int .i64 s, .int .i64 r], .int .i64 t] w
    fun e w' => e = .returned (.int .i64 (heldLv a d s t)) ∧ w.alloc (.cells #[.int .i64 a, .int .i64 d, .int .i64 s, .int .i64 r] 28) = w' := by
  by_cases h1 : t < a
  · go_enter Try.func52, Try.ntmps52
    go_wp2
    go_ret
    exact ⟨ret_int (by rw [heldLv, if_pos h1]), rfl⟩
  by_cases h2 : t < a + d
  · have hm := held_mid (a := a) (d := d) hs (by omega) h2
    have hq := div_bd hm.1 (by omega : 0 < d) hm.2
    have hc := mul_le_cap (x := 1000 - s) (y := t - a) (X := 1000) (Y := 10000) (by omega) (by omega)
    have HM := Lib.hid hm; clear hm
    go_enter Try.func52, Try.ntmps52
    go_wp2
    go_ret
    exact ⟨ret_int (by rw [heldLv, if_neg (by omega), if_pos h2]), rfl⟩
  · go_enter Try.func52, Try.ntmps52
    go_wp2
    go_ret
    exact ⟨ret_int (by rw [heldLv, if_neg (by omega), if_neg (by omega)]), rfl⟩
theorem spec_l22Held (a d s r t : Int) (w : World) (ha : 0 ≤ a ∧ a ≤ 10000) (hd : 0 ≤ d ∧ d ≤ 10000) (hs : 0 ≤ s ∧ s ≤ 1000) (ht : 0 ≤ t ∧ t ≤ 1000000) :
    Calls Try.prog 53 #[.agg #[.int .i64 a, .int .i64 d, .int .i64 s, .int .i64 r], .int .i64 t] w
    fun e w' => e = .returned (.int .i64 (heldLv a d s t)) ∧ w.alloc (.cells #[.int .i64 a, .int .i64 d, .int .i64 s, .int .i64 r] 28) = w' := by
  by_cases h1 : t < a
  · go_enter Try.func53, Try.ntmps53
    go_wp2
    go_ret
    exact ⟨ret_int (by rw [heldLv, if_pos h1]), rfl⟩
  by_cases h2 : t < a + d
  · have hm := held_mid (a := a) (d := d) hs (by omega) h2
    have hq := div_bd hm.1 (by omega : 0 < d) hm.2
    have hc := mul_le_cap (x := 1000 - s) (y := t - a) (X := 1000) (Y := 10000) (by omega) (by omega)
    have HM := Lib.hid hm; clear hm
    go_enter Try.func53, Try.ntmps53
    go_wp2
    go_ret
    exact ⟨ret_int (by rw [heldLv, if_neg (by omega), if_pos h2]), rfl⟩
  · go_enter Try.func53, Try.ntmps53
    go_wp2
    go_ret
    exact ⟨ret_int (by rw [heldLv, if_neg (by omega), if_neg (by omega)]), rfl⟩

end Go.Proofs.Ytijbciiocmdmmaa
