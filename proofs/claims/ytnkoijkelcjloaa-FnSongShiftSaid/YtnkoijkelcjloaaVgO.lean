/- Own headers that grow, each voice in a block of its own, no two in one. No program. -/
import Derived.Test.YtnkoijkelcjloaaMrg1
import Derived.Test.YtnkoijkelcjloaaRecSong2
import Derived.Test.YtnkoijkelcjloaaShfD
namespace Go.Proofs.Ytnkoijkelcjloaa
open Go.RowKit
set_option linter.unusedSimpArgs false
set_option linter.unusedVariables false
structure VH (w : World) (lo : Nat) (A : Option Addr) (c : Nat) (vs : List (List Nt)) (hs : List Hd) : Prop where
  len : hs.length = vs.length
  out : w.ownsRow lo 56 1 (.slice A hs.length c) hs.length (fl encHd hs)
  inn : ∀ k, k < vs.length → (glH hs k).2.1 = (glV vs k).length ∧ w.ownsRow lo 68 6 (.slice (glH hs k).1 (glV vs k).length (glH hs k).2.2) (glV vs k).length (fl encNote (glV vs k))
  da : ∀ k, k < vs.length → ∀ g, obA (glH hs k).1 = some g → obA A ≠ some g
  db : ∀ i j, i < vs.length → j < vs.length → i ≠ j → ∀ g, obA (glH hs i).1 = some g → obA (glH hs j).1 ≠ some g
section
variable {w w' : World} {lo c : Nat} {A : Option Addr} {vs : List (List Nt)} {hs : List Hd}
theorem VH.nil (w : World) (lo : Nat) : VH w lo none 0 [] [] := ⟨rfl, World.ownsRow_nil _ _ _ _, fun k hk => by simp at hk, fun k hk => by simp at hk, fun i j hi => by simp at hi⟩
theorem VH.bel (h : VH w lo A c vs hs) (b : Below w.heap.size w w') : VH w' lo A c vs hs := ⟨h.len, own_bel h.out b, fun k hk => ⟨(h.inn k hk).1, own_bel (h.inn k hk).2 b⟩, h.da, h.db⟩
theorem own_low' {lo n c s : Nat} {A : Option Addr} {E : TypeId} {xs : List Value} (h : w.ownsRow lo E s (.slice A n c) n xs) {p : Addr} (hp : p.block < lo) (u : Value) : (w.setCell p u).ownsRow lo E s (.slice A n c) n xs :=
  own_far h (fun e => by have := (own_ob h _ e).1; omega) u
theorem VH.far (h : VH w lo A c vs hs) {p : Addr} (hp : p.block < lo) (u : Value) : VH (w.setCell p u) lo A c vs hs := ⟨h.len, own_low' h.out hp u, fun k hk => ⟨(h.inn k hk).1, own_low' (h.inn k hk).2 hp u⟩, h.da, h.db⟩
theorem glV_app' {v : List Nt} {k : Nat} (h : k < vs.length) : glV (vs ++ [v]) k = glV vs k := by simp [glV, List.getElem?_append_left h]
theorem glV_lst' {v : List Nt} : glV (vs ++ [v]) vs.length = v := by simp [glV]
theorem VH.app {C : Option Addr} {d g9 c9 : Nat} {v : List Nt} {w0 : World} (h : VH w0 lo A c vs hs) (b : Below w0.heap.size w0 w) (hl0 : lo ≤ w0.heap.size) (hv : w.ownsRow w0.heap.size 68 6 (.slice C v.length d) v.length (fl encNote v))
    (ho : w'.ownsRow lo 56 1 (.slice (some ⟨g9, 0, none⟩) (hs.length + 1) c9) (hs.length + 1) (fl encHd (hs ++ [(C, v.length, d)]))) (hg : Grw w w' A (some ⟨g9, 0, none⟩)) : VH w' lo (some ⟨g9, 0, none⟩) c9 (vs ++ [v]) (hs ++ [(C, v.length, d)]) := by
  have hl := h.len
  have hne : ∀ g, obA C = some g → obA A ≠ some g := fun g e e2 => by have h1 := (own_ob hv g e).1; have h2 := (own_ob h.out g e2).2; omega
  have hb := h.bel b
  refine ⟨by simp [hl], by rw [List.length_append]; exact ho, ?_, ?_, ?_⟩
  · intro k hk
    rw [List.length_append, List.length_singleton] at hk
    by_cases h1 : k < vs.length
    · rw [glH_append (by omega), glV_app' h1]
      exact ⟨(hb.inn k h1).1, Grw.own hg (hb.inn k h1).2 (h.da k h1)⟩
    · obtain rfl : k = vs.length := by omega
      rw [glV_lst', ← hl, glH_last]
      exact ⟨rfl, Grw.own hg (own_mono hv hl0) hne⟩
  · intro k hk
    rw [List.length_append, List.length_singleton] at hk
    by_cases h1 : k < vs.length
    · rw [glH_append (by omega)]
      exact Grw.apart hg (fun g e => (own_ob (hb.inn k h1).2 g e).2) (h.da k h1)
    · obtain rfl : k = vs.length := by omega
      rw [← hl, glH_last]
      exact Grw.apart hg (fun g e => (own_ob hv g e).2) hne
  · intro i j hi hj hij g e e2
    rw [List.length_append, List.length_singleton] at hi hj
    by_cases h1 : i < vs.length
    · rw [glH_append (by omega)] at e
      by_cases h2 : j < vs.length
      · rw [glH_append (by omega)] at e2
        exact h.db i j h1 h2 hij g e e2
      · obtain rfl : j = vs.length := by omega
        rw [← hl, glH_last] at e2
        have h3 := (own_ob (h.inn i h1).2 g e).2
        have h4 := (own_ob hv g e2).1
        omega
    · obtain rfl : i = vs.length := by omega
      rw [← hl, glH_last] at e
      have h2 : j < vs.length := by omega
      rw [glH_append (by omega)] at e2
      have h3 := (own_ob (h.inn j h2).2 g e2).2
      have h4 := (own_ob hv g e).1
      omega
theorem VH.ow {mid : Nat} (h : VH w mid A c vs hs) : OwX w mid w.heap.size A c vs.length (glV vs) hs := by
  refine ⟨h.len, ?_, fun k hk => ⟨(h.inn k hk).1, Row.mk_ (h.inn k hk).2⟩, h.da, h.db⟩
  have := Row.mk_ h.out
  rw [h.len] at this
  exact this
end
theorem Rd.allc {w : World} {B size n : Nat} {ad : Addr} {xs : List Value} (h : Rd w B size (some ad) n xs) (hn : 0 < n) : ∀ j u, xs[j]? = some u → w.cell? (ad.add j) = some u := by
  intro j u hu
  obtain ⟨b, off, e, hb, hc⟩ := h.2 hn
  injection e with e; subst e
  rw [Go.WideShapes.add_plain]; exact hc j u hu
theorem tempo_one (ts : List (Int × Int)) : ∀ u ∈ fl encTempo ts, u.oneCell' = true := by
  intro u hu
  unfold fl at hu
  obtain ⟨z, _, hz⟩ := List.mem_flatMap.1 hu
  simp [encTempo] at hz
  rcases hz with rfl | rfl <;> rfl
theorem sgO_nil (w : World) {lo hi : Nat} (h : lo ≤ hi) (X : Nat → List Nt) : SgO w lo lo hi none 0 0 (fl encTempo []) none 0 0 X [] :=
  ⟨⟨World.ownsRow_nil _ _ _ _, fun g e => by simp [Value.ownBlock] at e⟩, ⟨rfl, ⟨World.ownsRow_nil _ _ _ _, fun g e => by simp [Value.ownBlock] at e⟩, fun k hk => by omega, fun k hk => by omega, fun i j hi => by omega⟩, Nat.le_refl _, h⟩
/-- what moving a song says -/
def RetSS (w : World) (q : Sg) (ok : Bool) (e : Ending) (w' : World) : Prop :=
  ∃ C A d c mid hs, e = .returned (.tuple #[.agg #[.int .i64 q.1, .bool q.2.1, .int .i64 q.2.2.1, .int .i64 q.2.2.2.1, .slice C q.2.2.2.2.1.length d, .slice A q.2.2.2.2.2.length c], .bool ok]) ∧
    SgO w' w.heap.size mid w'.heap.size C d q.2.2.2.2.1.length (fl encTempo q.2.2.2.2.1) A c q.2.2.2.2.2.length (glV q.2.2.2.2.2) hs ∧ Below w.heap.size w w'
def zSg : Sg := (0, false, 0, 0, [], [])
theorem ssL_no {f : Int} {m : Bool} {b u : Int} {ts : List (Int × Int)} {vs : List (List Nt)} {s h : Int} (e : ssB f m b u ts vs s h = false) : ssL f m b u ts vs s h = zSg := by unfold ssL; rw [e]; rfl
theorem ssL_yes {f : Int} {m : Bool} {b u : Int} {ts : List (Int × Int)} {vs : List (List Nt)} {s h : Int} (e : ssB f m b u ts vs s h = true) : ssL f m b u ts vs s h = ((nkL f m s h).1, m, b, u, ts, vs.map (shL s h)) := if_pos e
theorem retSS_zero {w w' : World} (hb : Below w.heap.size w w') : RetSS w zSg false (.returned (.tuple #[.agg #[.int .i64 0, .bool false, .int .i64 0, .int .i64 0, .slice none 0 0, .slice none 0 0], .bool false])) w' :=
  ⟨none, none, 0, 0, w.heap.size, [], rfl, sgO_nil w' hb.size _, hb⟩
theorem tk_succ {s h : Int} {vs : List (List Nt)} {k : Nat} (hk : k < vs.length) : (vs.take (k + 1)).map (shL s h) = (vs.take k).map (shL s h) ++ [shL s h (glV vs k)] := by
  rw [take_succ_V hk, List.map_append]; rfl
end Go.Proofs.Ytnkoijkelcjloaa
