/- SyntaxTexts: two valid programs have equal text forms if and only if they are equal. For every input; no condition. -/
import Derived.Test.YthfjkdgaiaokdaaDoorQL
import Derived.Test.YthfjkdgaiaokdaaDoorSyQ
import Derived.Test.YthfjkdgaiaokdaaDoorCards
import Derived.Test.YthfjkdgaiaokdaaDoorTie
import Derived.SevenTiedAt
set_option linter.unusedVariables false
namespace Go.Proofs.YthfjkdgaiaokdaaDoor.syntaxTexts
open Go.ChangeShapes Go.WideShapes Go.ChangeAt Go.RowKit Go.OpenShut

set_option maxRecDepth 100000 in
theorem lifted (os : Os) (started : os.Started) (H : Type) (enc : TypeId × Value → H) :
    ReturnsInHanded {} Tryd.checked os 6 .any (fun w args => (Rows.syntaxTextsSpec.pre enc Tryd.prog Tryd.f6 Rows.syntaxTextsRow.domain false w args ∧ laidMetH Tryd.prog Rows.syntaxTextsRow.laid w) ∧ sizedMet enc Tryd.prog Tryd.f6 (OpenSpec.ofChange Rows.syntaxTextsSpec) false w args) (Rows.syntaxTextsSpec.post enc Tryd.prog Tryd.f6 false true false false) := by
  refine returnsInHanded_of_change_and (C := Tryd.checked) (X := fun w _ => laidMetH Tryd.prog Rows.syntaxTextsRow.laid w) (fun _ _ _ hh h => h.of_heap hh) own started (by kernel_rfl) Tryd.func6
    (ChangeSpec.witness_shaped (enc := enc) (C := Tryd.checked) (os := os) (X := fun w _ => laidMetH Tryd.prog Rows.syntaxTextsRow.laid w) false (World.doorLaid Tryd.prog 65 os) #[.agg #[.slice none 0 0, .slice none 0 0], .agg #[.slice none 0 0, .slice none 0 0]] 8 rfl (World.shaped_of_RefB (by kernel_rfl) (by kernel_rfl)) (by kernel_rfl) (by kernel_rfl) (by kernel_rfl) (door_met os _)) ?_
  intro W base args ds gs before hval0 hW _ hsz0 hL _
  have hW' := hW
  obtain ⟨p, q, hA0, hV, rfl, hfz, hnd⟩ := hW
  have hA : DataW.TrodAll enc Tryd.prog W 0 (fun _ => true) true Tryd.f6.params.toList args.toList ds p := hA0
  have hval : ∀ (j : Nat) t v, Tryd.f6.params[j]? = some t → args[j]? = some v → Value.okWide Tryd.prog W .any base t v := hval0
  rw [Tryd.params6] at hA hval
  obtain ⟨v0, vs0, d0, ds0, p0, q0, hargs, rfl, rfl, h0, r0⟩ := trodAll_cons hA
  obtain ⟨v1, vs1, d1, ds1, p1, q1, rfl, rfl, rfl, h1, r1⟩ := trodAll_cons r0
  obtain ⟨rfl, rfl, rfl⟩ := trodAll_nil r1
  obtain rfl : args = #[v0, v1] := by cases args; simp_all
  obtain ⟨rfl, rfl⟩ := trodVars_none hV
  have k0 := h0
  have lt0 : ∀ x ∈ p0, x.block < W.heap.size := by obtain ⟨m, hm⟩ := k0; exact DataW.trod_lt m _ _ _ hm
  obtain ⟨x0, rfl, hx0⟩ := prog_arg (hval 0 25 v0 rfl rfl) h0
  have k1 := h1
  have lt1 : ∀ x ∈ p1, x.block < W.heap.size := by obtain ⟨m, hm⟩ := k1; exact DataW.trod_lt m _ _ _ hm
  obtain ⟨x1, rfl, hx1⟩ := prog_arg (hval 1 25 v1 rfl rfl) h1
  have hsz := hsz0
  rw [Tryd.params6] at hsz
  clear hA0 hval0 hsz0
  refine (texts_any x0.p x1.p _ _ (fun _ => True) (fun _ => True) W (sxw_of_laid hL) hx0.1 hx1.1 (hx0.2 (by have h : (DataW.weights Tryd.checked.prog 25 d0).all (· ≤ reachBytes) = true ∧ (DataW.weights Tryd.checked.prog 25 d1).all (· ≤ reachBytes) = true := (by simpa [DataW.weightsEach] using hsz); exact h.1)) (hx1.2 (by have h : (DataW.weights Tryd.checked.prog 25 d0).all (· ≤ reachBytes) = true ∧ (DataW.weights Tryd.checked.prog 25 d1).all (· ≤ reachBytes) = true := (by simpa [DataW.weightsEach] using hsz); exact h.2))).mono fun e W' ⟨he, bel⟩ => ?_
  subst he
  exact ⟨_, rfl, _, _, _, [], _, [], hW', trodAll_mk1 (shut_bool Tryd.underlying4 _), (trodAll_cons_mk (Below.trod laidOut (by kernel_rfl) (of_decide_eq_true (by kernel_rfl)) k0 bel lt0) (trodAll_cons_mk (Below.trod laidOut (by kernel_rfl) (of_decide_eq_true (by kernel_rfl)) k1 bel lt1) trodAll_mk0)), rfl, bel.frame _, fun h => by cases h⟩

theorem over : Rows.syntaxTextsRow.holds Tryd.pinned (OpenSpec.ofChange Rows.syntaxTextsSpec) :=
  OpenClaim.holds_of_wide 6 Tryd.f6 rfl rfl rfl rfl rfl rfl rfl ⟨rfl, rfl, rfl, rfl, rfl⟩ rfl rfl rfl rfl rfl (by kernel_rfl) Tryd.func6 (by kernel_rfl)
    (of_decide_eq_true (by kernel_rfl)) (by unfold Func.isWrapper; first | (rw [if_pos (by decide +kernel)]; kernel_rfl) | (rw [if_neg (by decide +kernel)]; exact ⟨rfl, rfl⟩))
    (fun os started H enc _ => lifted os started H enc)

theorem proved : Rows.SyntaxTextsCardSaid :=
  Claim7.holds_tied_plain_at .later [] Rows.syntaxTextsCard.laidKinds true Rows.syntaxTextsCard.stood.harness Rows.syntaxTextsCard.stood.looks
    over (fun _ h => by cases h) (by kernel_rfl) (fun _ h => by cases h) syntaxTexts_row_tie rfl ⟨rfl, rfl⟩ (by kernel_rfl) rfl
    (fun f fn hf hfn => by
      obtain rfl : f = 6 := Option.some.inj ((show Tryd.prog.funcNamed "simulcast/simulcastlaw44.SyntaxTexts" = some 6 by kernel_rfl).symm.trans hf) |>.symm
      obtain rfl : fn = Tryd.f6 := (Option.some.inj (Tryd.func6.symm.trans hfn)).symm
      exact ⟨by kernel_rfl, fun j t ht => by
        rw [Tryd.params6] at ht
        have hm : t ∈ [25, 25] := by simpa using Array.mem_of_getElem? ht
        have hall : ([25, 25].all fun u => !Tryd.prog.wantsStandIn u) = true := by kernel_rfl
        exact (show Tryd.prog.wantsStandIn t = false by simpa using List.all_eq_true.1 hall t hm)⟩)
    (by kernel_rfl)
end Go.Proofs.YthfjkdgaiaokdaaDoor.syntaxTexts
