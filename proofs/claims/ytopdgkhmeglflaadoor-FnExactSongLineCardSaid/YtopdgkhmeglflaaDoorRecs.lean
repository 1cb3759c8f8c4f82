/- Words on slices of records: a list of records read off a slice, each record of s cells. No program of its own. -/
import Derived.Test.YtopdgkhmeglflaaDoorMrg1
namespace Go.Proofs.YtopdgkhmeglflaaDoor
set_option linter.unusedVariables false
open Go.RowKit

/-- the cells of records -/
def fl {α : Type} (enc : α → List Value) (zs : List α) : List Value := zs.flatMap enc
section
variable {α : Type} {enc : α → List Value} {s : Nat}
theorem fl_length (he : ∀ a, (enc a).length = s) (zs : List α) : (fl enc zs).length = zs.length * s := by
  unfold fl
  induction zs with
  | nil => simp
  | cons a r ih => rw [List.flatMap_cons, List.length_append, ih, he, List.length_cons, Nat.succ_mul]; omega
theorem fl_append (a b : List α) : fl enc (a ++ b) = fl enc a ++ fl enc b := by simp [fl]
theorem fl_one (a : α) : fl enc [a] = enc a := by simp [fl]
theorem fl_at (he : ∀ a, (enc a).length = s) {zs : List α} {k j : Nat} (hk : k < zs.length) (hj : j < s) : (fl enc zs)[k * s + j]? = (enc zs[k])[j]? := by
  have e : zs = zs.take k ++ zs[k] :: zs.drop (k + 1) := by rw [← List.drop_eq_getElem_cons hk, List.take_append_drop]
  have hl : (fl enc (zs.take k)).length = k * s := by rw [fl_length he, List.length_take, Nat.min_eq_left (Nat.le_of_lt hk)]
  conv => lhs; rw [e, fl_append, show zs[k] :: zs.drop (k + 1) = [zs[k]] ++ zs.drop (k + 1) from rfl, fl_append, fl_one]
  rw [List.getElem?_append_right (by omega), hl, show k * s + j - k * s = j by omega, List.getElem?_append_left (by rw [he]; exact hj)]
/-- slice A reads as the records zs -/
def RdR (enc : α → List Value) (s : Nat) (w : World) (B : Nat) (A : Option Addr) (zs : List α) : Prop := Rd w B s A zs.length (fl enc zs)
theorem RdR.at_ (he : ∀ a, (enc a).length = s) {w : World} {B : Nat} {A : Option Addr} {zs : List α} {k : Nat} (h : RdR enc s w B A zs) (hk : k < zs.length) :
    ∃ b off, A = some ⟨b, off, none⟩ ∧ b < B ∧ ∀ j v, (enc zs[k])[j]? = some v → w.cell? ⟨b, off + (k * s + j), none⟩ = some v := by
  obtain ⟨b, off, e, hb, hc⟩ := h.2 (by omega)
  refine ⟨b, off, e, hb, fun j v hv => ?_⟩
  have hj : j < s := by
    rcases Nat.lt_or_ge j s with h1 | h1
    · exact h1
    · rw [List.getElem?_eq_none (by rw [he]; exact h1)] at hv; cases hv
  exact hc _ _ (by rw [fl_at he hk hj]; exact hv)
theorem RdR.below {w w' : World} {B C : Nat} {A : Option Addr} {zs : List α} (h : RdR enc s w B A zs) (hb : Below C w w') (hB : B ≤ C) : RdR enc s w' B A zs := Rd.below h hb hB
theorem RdR.more {w : World} {B C : Nat} {A : Option Addr} {zs : List α} (h : RdR enc s w B A zs) (hB : B ≤ C) : RdR enc s w C A zs := Rd.more h hB
theorem RdR.drew {w : World} {B : Nat} {A : Option Addr} {zs : List α} (h : RdR enc s w B A zs) : RdR enc s w.drew B A zs := h
theorem RdR.drewN {w : World} {B : Nat} {A : Option Addr} {zs : List α} (h : RdR enc s w B A zs) (k : Nat) : RdR enc s (w.drewN k) B A zs := h
theorem RdR.al {w : World} {B : Nat} {A : Option Addr} {zs : List α} (h : RdR enc s w B A zs) (hB : B ≤ w.heap.size) (o : Obj) : RdR enc s (w.alloc o) B A zs := Rd.alloc h hB o
theorem RdR.far {w w' : World} {B lo' hi' E' size' c' n' : Nat} {A A' : Option Addr} {xs' : List Value} {zs : List α} (h : RdR enc s w B A zs) (h' : Row w lo' hi' E' size' A' c' n' xs')
    (hg : w.grownBy w' (Value.slice A' n' c').ownBlock) (hw : B ≤ w.heap.size) (hd : B ≤ lo') : RdR enc s w' B A zs := Rd.far h h' hg hw hd
theorem RdR.of_own {w : World} {base c : Nat} {e : TypeId} {A : Option Addr} {zs : List α} (h : w.ownsRow base e s (.slice A zs.length c) zs.length (fl enc zs)) : RdR enc s w w.heap.size A zs := Rd.of_own h
theorem Row.rdR {w : World} {lo hi E c : Nat} {A : Option Addr} {zs : List α} (h : Row w lo hi E s A c zs.length (fl enc zs)) : RdR enc s w hi A zs := h.rd
theorem RdR.none0 {w : World} {B : Nat} {A : Option Addr} {zs : List α} (h : zs = []) : RdR enc s w B A zs := by
  subst h; exact ⟨by simp [fl], fun hn => by simp at hn⟩

/-- consecutive stores -/
def setR (cs : Array Value) : Nat → List Value → Array Value
  | _, [] => cs
  | p, v :: r => setR (cs.setIfInBounds p v) (p + 1) r
theorem setR_size (vs : List Value) : ∀ (cs : Array Value) (p : Nat), (setR cs p vs).size = cs.size := by
  induction vs with
  | nil => intro cs p; rfl
  | cons v r ih => intro cs p; rw [setR, ih]; simp
theorem setR_mid : ∀ (vs pre old post : List Value) (p : Nat), p = pre.length → old.length = vs.length → setR (pre ++ old ++ post).toArray p vs = (pre ++ vs ++ post).toArray := by
  intro vs
  induction vs with
  | nil => intro pre old post p hp ho; obtain rfl : old = [] := List.eq_nil_of_length_eq_zero ho; rfl
  | cons v r ih =>
    intro pre old post p hp ho
    match old, ho with
    | x :: t, ho =>
      subst hp
      rw [setR]
      have e : (pre ++ x :: t ++ post).toArray.setIfInBounds pre.length v = (pre ++ [v] ++ t ++ post).toArray := by
        rw [List.setIfInBounds_toArray, List.append_assoc, List.set_append, if_neg (Nat.lt_irrefl _), Nat.sub_self]; simp
      rw [e, show pre ++ [v] ++ t ++ post = (pre ++ [v]) ++ t ++ post from rfl, ih (pre ++ [v]) t post _ (by simp) (by simpa using ho)]
      congr 1; simp
/-- the array after k stores: the first k records, then zeros -/
def mkR (enc : α → List Value) (z0 : List Value) (zs : List α) (k : Nat) : Array Value := (fl enc (zs.take k) ++ (List.replicate (zs.length - k) z0).flatten).toArray
theorem rep_len (z0 : List Value) (n : Nat) : (List.replicate n z0).flatten.length = n * z0.length := by
  induction n with
  | zero => simp
  | succ n ih => rw [List.replicate_succ, List.flatten_cons, List.length_append, ih, Nat.succ_mul]; omega
theorem mkR_size (he : ∀ a, (enc a).length = s) {z0 : List Value} (hz : z0.length = s) (zs : List α) (k : Nat) (h : k ≤ zs.length) : (mkR enc z0 zs k).size = zs.length * s := by
  simp only [mkR, List.size_toArray, List.length_append]
  rw [fl_length he, rep_len, hz, List.length_take, Nat.min_eq_left h, ← Nat.add_mul, Nat.add_sub_cancel' h]
theorem mkR_at (he : ∀ a, (enc a).length = s) {z0 : List Value} (hz : z0.length = s) (zs : List α) (k j : Nat) (h : k < zs.length) (hj : j < s) : (mkR enc z0 zs k)[k * s + j]? = z0[j]? := by
  have hl : (fl enc (zs.take k)).length = k * s := by rw [fl_length he, List.length_take, Nat.min_eq_left (Nat.le_of_lt h)]
  simp only [mkR, List.getElem?_toArray]
  rw [List.getElem?_append_right (by omega), hl, show k * s + j - k * s = j by omega, show zs.length - k = (zs.length - k - 1) + 1 by omega, List.replicate_succ, List.flatten_cons, List.getElem?_append_left (by omega)]
theorem mkR_set (he : ∀ a, (enc a).length = s) {z0 : List Value} (hz : z0.length = s) (zs : List α) (k : Nat) (h : k < zs.length) : setR (mkR enc z0 zs k) (k * s) (enc zs[k]) = mkR enc z0 zs (k + 1) := by
  have hl : (fl enc (zs.take k)).length = k * s := by rw [fl_length he, List.length_take, Nat.min_eq_left (Nat.le_of_lt h)]
  unfold mkR
  rw [show zs.length - k = (zs.length - (k + 1)) + 1 by omega, List.replicate_succ, List.flatten_cons, ← List.append_assoc, setR_mid _ _ _ _ _ hl.symm (by rw [hz, he])]
  congr 1
  rw [List.take_succ_eq_append_getElem h, fl_append, fl_one]
theorem mkR_all (z0 : List Value) (zs : List α) : mkR enc z0 zs zs.length = (fl enc zs).toArray := by simp [mkR]
theorem mkR_none (z0 : Array Value) (zs : List α) (hz : z0.size = s) (hs : 0 < s) : madeCells z0 (zs.length * s) = mkR enc z0.toList zs 0 := by
  apply Array.ext
  · simp [size_madeCells, mkR, fl, hz]
  · intro i h1 h2
    have hi : i < zs.length * s := by simpa [size_madeCells] using h1
    have hq : i / s < zs.length := Nat.div_lt_of_lt_mul (by rw [Nat.mul_comm]; exact hi)
    have hr : i % s < s := Nat.mod_lt _ hs
    have e : i = i / s * s + i % s := by rw [Nat.mul_comm]; exact (Nat.div_add_mod i s).symm
    have h3 : (mkR enc z0.toList zs 0)[i]? = z0[i % s]? := by
      simp only [mkR, List.getElem?_toArray, List.take_zero, Nat.sub_zero]
      have rep : ∀ (n q : Nat), q < n → ((List.replicate n z0.toList).flatten)[q * s + i % s]? = z0.toList[i % s]? := by
        intro n
        induction n with
        | zero => intro q h; omega
        | succ n ih =>
          intro q hq
          rw [List.replicate_succ, List.flatten_cons]
          cases q with
          | zero => rw [Nat.zero_mul, Nat.zero_add, List.getElem?_append_left (by simpa [hz] using hr)]
          | succ q =>
            have h1 : (q + 1) * s + i % s - s = q * s + i % s := by rw [Nat.succ_mul]; omega
            rw [List.getElem?_append_right (by rw [Array.length_toList, hz, Nat.succ_mul]; omega), Array.length_toList, hz, h1]
            exact ih q (by omega)
      have h4 := rep zs.length (i / s) hq
      rw [← e] at h4
      simpa [fl] using h4
    have h5 : (madeCells z0 (zs.length * s))[i]? = z0[i % s]? := by
      simp only [madeCells]
      rw [Array.getElem?_eq_getElem (by simpa [size_madeCells, madeCells] using h1)]
      simp [hz, hr]
    rw [Array.getElem?_eq_getElem h1] at h5
    rw [Array.getElem?_eq_getElem h2] at h3
    exact Option.some.inj (h5.trans h3.symm)
end
end Go.Proofs.YtopdgkhmeglflaaDoor
