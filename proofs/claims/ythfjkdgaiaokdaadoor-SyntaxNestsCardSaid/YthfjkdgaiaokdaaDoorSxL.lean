/- The walk of syntax.fresh. Conditions: the table of keywords is laid (SxW). -/
import Derived.Test.YthfjkdgaiaokdaaDoorSxK
import Derived.Test.YthfjkdgaiaokdaaDoorSxM
set_option linter.unusedVariables false
set_option linter.unusedSimpArgs false
namespace Go.Proofs.YthfjkdgaiaokdaaDoor
open Go.RowKit

set_option maxRecDepth 100000 in
theorem freshF_any (s : Str) (w : World) (hw : SxW w) : Calls Tryd.prog 37 #[.string (bs s)] w fun e w' => e = .returned (.bool (!nameOk s)) ∧ Below w.heap.size w w' := by
  have K := Lib.hid (isName_any s w hw)
  generalize nameOk s = q at *
  go_enter Tryd.func37, Tryd.ntmps37
  go_wp2_with fail
  refine K.out.mono ?_
  rintro e w1 ⟨rfl, hb⟩
  go_wp2
  go_ret
  exact ⟨rfl, hb⟩
set_option maxRecDepth 100000 in
theorem indexFunc_none (w : World) : Calls Tryd.prog 56 #[.slice none 0 0, .func (.func 37) #[] #[]] w fun e w' => e = .returned (.int .i64 (-1)) ∧ w' = w := by
  go_enter Tryd.func56, Tryd.ntmps56
  go_wp2_with fail
  go_loopw [8] (fun i wr => i = .int .i64 0 ∧ wr = w) (fun i _ => 0)
  case atStart => exact ⟨rfl, rfl⟩
  case round =>
    obtain ⟨rfl, rfl⟩ := hrel
    go_wp2
    go_ret
    exact ⟨rfl, rfl⟩
set_option maxRecDepth 100000 in
theorem containsFunc_none (w : World) : Calls Tryd.prog 36 #[.slice none 0 0, .func (.func 37) #[] #[]] w fun e w' => e = .returned (.bool false) ∧ w' = w := by
  have K := Lib.hid (indexFunc_none w)
  go_enter Tryd.func36, Tryd.ntmps36
  go_wp2_with fail
  refine K.out.mono ?_
  rintro e w1 ⟨rfl, h⟩
  subst w1
  go_wp2
  go_ret
  exact ⟨rfl, rfl⟩
set_option maxRecDepth 100000 in
theorem indexFunc_one (b o c : Nat) (k : Str) (w : World) (hw : SxW w) (hc : w.cell? ⟨b, o, none⟩ = some (.string (bs k))) : Calls Tryd.prog 56 #[.slice (some ⟨b, o, none⟩) 1 c, .func (.func 37) #[] #[]] w fun e w' => e = .returned (.int .i64 (if nameOk k = false then 0 else -1)) ∧ Below w.heap.size w w' := by
  have K := Lib.hid (freshF_any k w hw)
  have hb0 : Below w.heap.size w w := Below.refl _ _
  generalize nameOk k = q at *
  go_enter Tryd.func56, Tryd.ntmps56
  go_wp2_with fail
  go_loopw [8] (fun i wr => (i = .int .i64 0 ∧ wr = w) ∨ (i = .int .i64 1 ∧ q = true ∧ Below w.heap.size w wr)) (fun i _ => 1 - (intOf i).toNat)
  case atStart => exact .inl ⟨rfl, rfl⟩
  case round =>
    rcases hrel with ⟨rfl, rfl⟩ | ⟨rfl, rfl, hb⟩
    · go_wp2_with fail
      refine K.out.mono ?_
      rintro e w1 ⟨rfl, hb⟩
      clear hc
      cases q with
      | false =>
        go_wp2
        go_ret
        exact ⟨rfl, hb⟩
      | true =>
        go_wp2
        go_roundw
        case rel =>
          refine .inr ⟨?_, ?_, hb⟩
          · first | rfl | trivial
          · first | rfl | trivial
        case measure => simp [intOf]
    · go_wp2
      go_ret
      exact ⟨rfl, hb⟩
set_option maxRecDepth 100000 in
theorem containsFunc_one (b o c : Nat) (k : Str) (w : World) (hw : SxW w) (hc : w.cell? ⟨b, o, none⟩ = some (.string (bs k))) : Calls Tryd.prog 36 #[.slice (some ⟨b, o, none⟩) 1 c, .func (.func 37) #[] #[]] w fun e w' => e = .returned (.bool (!nameOk k)) ∧ Below w.heap.size w w' := by
  have K := Lib.hid (indexFunc_one b o c k w hw hc)
  generalize nameOk k = q at *
  clear hc
  go_enter Tryd.func36, Tryd.ntmps36
  go_wp2_with fail
  refine K.out.mono ?_
  rintro e w1 ⟨rfl, hb⟩
  cases q with
  | false =>
    simp only [if_true]
    go_wp2
    go_ret
    exact ⟨rfl, hb⟩
  | true =>
    simp only [Bool.true_eq_false, if_false]
    go_wp2
    go_ret
    exact ⟨rfl, hb⟩
theorem bool_zero (w : World) : (zeroValue 4).run Tryd.prog w = .ok (.bool false) w := by
  have h : (Tryd.prog.info? 4).bind (·.zero) = some (.bool false) := by kernel_rfl
  unfold zeroValue typeInfo
  cases hi : Tryd.prog.info? 4 with
  | none => rw [hi] at h; cases h
  | some i =>
    rw [hi] at h
    have h2 : i.zero = some (.bool false) := h
    simp [hi, h2]
/-- The names behind a call with this error. -/
def metN (met : List Str) (s : Str) (c : Int) : List Str := if c = 0 then met ++ [s] else met
/-- The error of a name and of further names, of which one is wrong where r is true. -/
def freshC (met : List Str) (s : Str) (r : Bool) : Int := if nameOk s = false ∨ r = true then 16 else if met.contains s = true then 11 else 0
set_option maxRecDepth 100000 in
set_option maxHeartbeats 12800000 in
theorem fresh_gen (g : Nat) (met : List Str) (s : Str) (v : Value) (r : Bool) (w : World) (hw : SxW w) (hm : NMap w g met)
    (hv : ∀ W, SxW W → Below w.heap.size w W → Calls Tryd.prog 36 #[v, .func (.func 37) #[] #[]] W fun e w' => e = .returned (.bool r) ∧ Below W.heap.size W w') :
    Calls Tryd.prog 18 #[.map (some g), .string (bs s), v] w fun e w' => e = .returned (.int .i64 (freshC met s r)) ∧ NMap w' g (metN met s (freshC met s r)) ∧ w.grownBy w' (some g) := by
  have K := Lib.hid (isName_any s w hw)
  have HV := Lib.hid hv
  have HM := Lib.hid hm
  have HWS := Lib.hid hw
  obtain ⟨C, hC⟩ : ∃ C, C = freshC met s r := ⟨_, rfl⟩
  rw [← hC]
  unfold freshC at hC
  clear hw hm hv
  generalize nameOk s = q at *
  cases q with
  | false =>
    obtain rfl : C = 16 := by rw [hC, if_pos (.inl rfl)]
    clear hC
    go_enter Tryd.func18, Tryd.ntmps18
    go_wp2_with fail
    refine K.out.mono ?_
    rintro e w1 ⟨rfl, hb⟩
    go_wp2
    go_ret
    exact ⟨rfl, HM.out.keep (hb.block _ HM.out.lt), Below.grown_ hb _⟩
  | true =>
    have hC2 := Lib.hid hC
    clear hC
    go_enter Tryd.func18, Tryd.ntmps18
    go_wp2_with fail
    refine K.out.mono ?_
    rintro e w1 ⟨rfl, hb⟩
    have HB := Lib.hid hb
    clear hb
    go_wp2_with fail
    refine (HV.out w1 (HWS.out.below HB.out) HB.out).mono ?_
    rintro e w2 ⟨rfl, hb⟩
    have HB2 := Lib.hid (HB.out.trans (hb.mono HB.out.size))
    have HM2 := Lib.hid (HM.out.keep (HB2.out.block _ HM.out.lt))
    have HLT := Lib.hid HM.out.lt
    clear hb HB HV K HWS HM
    cases r with
    | true =>
      obtain rfl : C = 16 := by rw [hC2.out, if_pos (.inr rfl)]
      go_wp2
      go_ret
      exact ⟨rfl, HM2.out, Below.grown_ HB2.out _⟩
    | false =>
      obtain ⟨m, hm⟩ : ∃ m, m = met.contains s := ⟨_, rfl⟩
      have HMM := Lib.hid hm
      clear hm
      have HL := Lib.hid (show (if met.contains (bs s).data.toList = true then some (Value.bool true) else none).getD (.bool false) = .bool m by rw [bs_list, ← HMM.out]; cases m <;> rfl)
      cases m with
      | true =>
        obtain rfl : C = 11 := by rw [hC2.out, if_neg (by simp), if_pos HMM.out.symm]
        go_wp2_with (at_lookup; refine wpList_lookup_str rfl _ _ 52 false rfl 9 4 Tryd.underlying52 Tryd.underlying9 (.bool false) bool_zero g _ HM2.out rfl (bs s) rfl ?_; rw [HL.out]; simp only [if_false, Bool.false_eq_true])
        go_ret
        exact ⟨rfl, HM2.out, Below.grown_ HB2.out _⟩
      | false =>
        obtain rfl : C = 0 := by rw [hC2.out, if_neg (by simp), if_neg (by rw [← HMM.out]; decide)]
        go_wp2_with (first | (at_lookup; refine wpList_lookup_str rfl _ _ 52 false rfl 9 4 Tryd.underlying52 Tryd.underlying9 (.bool false) bool_zero g _ HM2.out rfl (bs s) rfl ?_; rw [HL.out]; simp only [if_false, Bool.false_eq_true]) | (at_mapUpdate; refine Hid.out ?_))
        refine Lib.hid ?_
        refine wpList_mapUpdate_str rfl (.tmp 17) (.tmp 18) (.const (.bool true)) 52 rfl 9 4 Tryd.underlying52 Tryd.underlying9 g _ HM2.out rfl (bs s) rfl (.bool true) rfl (fun w3 hm3 hg3 hs3 => ?_)
        have HM3 := Lib.hid hm3
        have HG3 := Lib.hid (World.grownBy.trans (Below.grown_ HB2.out (some g)) hg3)
        clear hm3 hg3 hs3
        go_wp2
        go_ret
        refine ⟨rfl, ?_, HG3.out⟩
        have := HM3.out
        rw [NMap.upd_] at this
        exact this
theorem fresh_none (g : Nat) (met : List Str) (s : Str) (w : World) (hw : SxW w) (hm : NMap w g met) :
    Calls Tryd.prog 18 #[.map (some g), .string (bs s), .slice none 0 0] w fun e w' => e = .returned (.int .i64 (freshC met s false)) ∧ NMap w' g (metN met s (freshC met s false)) ∧ w.grownBy w' (some g) :=
  fresh_gen g met s _ false w hw hm fun W _ _ => (containsFunc_none W).mono (by rintro e w' ⟨rfl, rfl⟩; exact ⟨rfl, Below.refl _ _⟩)
theorem fresh_one (g : Nat) (met : List Str) (s k : Str) (b o c : Nat) (w : World) (hw : SxW w) (hm : NMap w g met) (hb : b < w.heap.size) (hc : w.cell? ⟨b, o, none⟩ = some (.string (bs k))) :
    Calls Tryd.prog 18 #[.map (some g), .string (bs s), .slice (some ⟨b, o, none⟩) 1 c] w fun e w' => e = .returned (.int .i64 (freshC met s (!nameOk k))) ∧ NMap w' g (metN met s (freshC met s (!nameOk k))) ∧ w.grownBy w' (some g) :=
  fresh_gen g met s _ _ w hw hm fun W hW hB => containsFunc_one b o c k W hW (by rw [World.cell?_of_block (a := ⟨b, o, none⟩) (hB.block b hb)]; exact hc)
end Go.Proofs.YthfjkdgaiaokdaaDoor
