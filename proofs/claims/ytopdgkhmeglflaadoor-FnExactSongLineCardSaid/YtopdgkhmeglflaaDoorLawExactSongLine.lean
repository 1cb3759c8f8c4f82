/-
  FnExactSongLine returns true for every input and leaves its arguments as they were. No condition but the given row's: the three listed tables of Go's library read as their initialisers lay them, which the card ties to the program's text.
-/
import Derived.Test.YtopdgkhmeglflaaDoorCorExactSongLine
import Derived.Test.YtopdgkhmeglflaaDoorOpenSong
import Derived.Test.YtopdgkhmeglflaaDoorFrame
import Derived.Test.YtopdgkhmeglflaaDoorCards
import Derived.Test.YtopdgkhmeglflaaDoorTie
import Derived.SevenTiedAt
import Derived.Lib.LaidTab
import Derived.Stop.LaidErr
import Derived.LaidMore
namespace Go.Proofs.YtopdgkhmeglflaaDoor.fnExactSongLine
open Go.ChangeShapes Go.WideShapes Go.ChangeAt Go.RowKit
open Go.ChangeMaps (open_string shut_string)
set_option linter.unusedVariables false

theorem gPow : Tryd.prog.globalNamed "internal/strconv.uint64pow10" = some 0 := by kernel_rfl
theorem gPowType : (Tryd.prog.globals[0]?).map (·.type) = some 116 := by kernel_rfl
/-- the rows' cell 'laid' gives the table -/
theorem tab_of_laid {W : World} (h : laidMet Tryd.prog Rows.fnExactSongLineRow.laid W) : Tb W := by
  intro w' hb
  have h0 : Lib.TabIs Tryd.prog W "internal/strconv.uint64pow10" .u64 Lib.pow10Tab :=
    Lib.tabIs_of_head (n := 20) (rest := []) gPow gPowType Tryd.underlying116 Tryd.underlying106 (by kernel_rfl) (by kernel_rfl) h.tail.tail
  exact tab_below gPow h0 hb
theorem door_met (os : Os) (args : Array Value) : laidMet Tryd.prog Rows.fnExactSongLineRow.laid ((World.doorLaid Tryd.prog 24 os).forCall (fun _ _ => 0) ⟨#[], args, []⟩).memory :=
  laidMet_of_run' 8 (by kernel_rfl) (by kernel_rfl)

set_option maxRecDepth 100000 in
theorem lifted (os : Os) (started : os.Started) (H : Type) (enc : TypeId × Value → H) :
    ReturnsInHanded {} Tryd.checked os 3 .any (fun w args => (Rows.fnExactSongLineSpec.pre enc Tryd.prog Tryd.f3 Rows.fnExactSongLineRow.domain false w args ∧ laidMet Tryd.prog Rows.fnExactSongLineRow.laid w) ∧ sizedMet enc Tryd.prog Tryd.f3 (OpenSpec.ofChange Rows.fnExactSongLineSpec) false w args)
      (Rows.fnExactSongLineSpec.post enc Tryd.prog Tryd.f3 false true false false) := by
  refine returnsInHanded_of_change_and (C := Tryd.checked) (X := fun w _ => laidMet Tryd.prog Rows.fnExactSongLineRow.laid w) (fun _ _ _ hh h => h.of_heap hh) own started (by kernel_rfl) Tryd.func3
    (ChangeSpec.witness_shaped (enc := enc) (C := Tryd.checked) (os := os) (X := fun w _ => laidMet Tryd.prog Rows.fnExactSongLineRow.laid w) false (World.doorLaid Tryd.prog 24 os) #[.agg #[.int .i64 0, .bool false, .int .i64 0, .int .i64 0, .slice none 0 0, .slice none 0 0], .string ⟨#[]⟩] 8 rfl (World.shaped_of_RefB (by kernel_rfl) (by kernel_rfl)) (by kernel_rfl) (by kernel_rfl) (by kernel_rfl) (door_met os _)) ?_
  intro W base args ds gs before hval0 hW hcnd _ hL _
  have hval : ∀ (j : Nat) t v, Tryd.f3.params[j]? = some t → args[j]? = some v → Value.okWide Tryd.prog W .any base t v := hval0
  have hW' := hW
  obtain ⟨p, q, hA0, hV, rfl, hfz, hnd⟩ := hW
  have hA : DataW.TrodAll enc Tryd.prog W 0 (fun _ => true) true Tryd.f3.params.toList args.toList ds p := hA0
  rw [Tryd.params3] at hA hval
  obtain ⟨v0, vs0, d0, ds0, p0, q0, hargs, rfl, rfl, h0, r0⟩ := trodAll_cons hA
  obtain ⟨v1, vs1, d1, ds1, p1, q1, rfl, rfl, rfl, h1, r1⟩ := trodAll_cons r0
  obtain ⟨rfl, rfl, rfl⟩ := trodAll_nil r1
  obtain rfl : args = #[v0, v1] := by cases args; simp_all
  obtain ⟨rfl, rfl⟩ := trodVars_none hV
  have k0 := h0
  have lt0 : ∀ x ∈ p0, x.block < W.heap.size := by obtain ⟨m, hm⟩ := k0; exact DataW.trod_lt m _ _ _ hm
  obtain ⟨f, m, b, u, C, A, d, c, ts, vs, rfl, hT, hV2, m_t, m_v, m_w⟩ := open_song (hval 0 27 v0 rfl rfl) h0
  obtain ⟨s, rfl, rfl, rfl, ws⟩ := open_string Tryd.underlying9 (hval 1 9 v1 rfl rfl) h1
  obtain ⟨l, rfl⟩ : ∃ l : List UInt8, s = stV l := ⟨s.data.toList, by simp [stV]⟩
  clear hA0 hval0
  refine (walk W f m b u C A d c ts vs hT hV2 m_t m_v m_w l (by rw [← stV_size]; exact ws) (tab_of_laid hL)).mono fun e W' hwk => ?_
  obtain ⟨he, bel⟩ := hwk
  subst he
  exact ⟨_, rfl, _, _, _, [], _, [], hW', trodAll_mk1 (shut_bool Tryd.underlying4 _), (trodAll_cons_mk (Below.trod laidOut (by kernel_rfl) (of_decide_eq_true (by kernel_rfl)) k0 bel lt0) (trodAll_cons_mk (shut_string Tryd.underlying9 ws) trodAll_mk0)), rfl, bel.frame _, fun h => by cases h⟩

theorem over : Rows.fnExactSongLineRow.holds Tryd.pinned (OpenSpec.ofChange Rows.fnExactSongLineSpec) :=
  OpenClaim.holds_of_wide 3 Tryd.f3 rfl rfl rfl rfl rfl rfl rfl ⟨rfl, rfl, rfl, rfl, rfl⟩ rfl rfl rfl rfl rfl (by kernel_rfl) Tryd.func3 (by kernel_rfl)
    (of_decide_eq_true (by kernel_rfl)) (by unfold Func.isWrapper; first | (rw [if_pos (by decide +kernel)]; kernel_rfl) | (rw [if_neg (by decide +kernel)]; exact ⟨rfl, rfl⟩))
    (fun os started H enc _ => lifted os started H enc)

/-- The statement: the tied card. -/
theorem proved : Rows.FnExactSongLineCardSaid :=
  Claim7.holds_tied_plain_at .later [] [.data, .data, .data] true (true, "bd518738add8a71fcb52e7ec4cdd21012493f897dff8baa3370a8049a0316aba") false
    over (fun _ h => by cases h) (by kernel_rfl) (fun _ h => by cases h) fnExactSongLine_row_tie rfl ⟨rfl, rfl⟩ (by kernel_rfl) rfl
    (fun f fn hf hfn => by
      obtain rfl : f = 3 := Option.some.inj ((show Tryd.prog.funcNamed "loop.example/musicengine/laws.FnExactSongLine" = some 3 by kernel_rfl).symm.trans hf) |>.symm
      obtain rfl : fn = Tryd.f3 := (Option.some.inj (Tryd.func3.symm.trans hfn)).symm
      exact ⟨by kernel_rfl, fun j t ht => by
        rw [Tryd.params3] at ht
        have hm : t ∈ [27, 9] := by simpa using Array.mem_of_getElem? ht
        have hall : ([27, 9].all fun u => !Tryd.prog.wantsStandIn u) = true := by kernel_rfl
        exact (show Tryd.prog.wantsStandIn t = false by simpa using List.all_eq_true.1 hall t hm)⟩)
    (by kernel_rfl)
#print axioms proved
end Go.Proofs.YtopdgkhmeglflaaDoor.fnExactSongLine
