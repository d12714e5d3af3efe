/- The walk of slices' BinarySearchFunc over entries. Conditions: at most 1000 entries. -/
import Derived.Test.YtilapnejkdgomaaDoorSrtZ
set_option linter.unusedVariables false
set_option linter.unusedSimpArgs false
namespace Go.Proofs.YtilapnejkdgomaaDoor
open Go.RowKit

/-- The place of x in a sorted list: how many come before it; whether one stands there. -/
def low (x : Ent) (l : List Ent) : Nat := (l.takeWhile fun y => decide (y.loc < x.loc)).length
def has (x : Ent) (l : List Ent) : Bool := match l[low x l]? with | some y => y.loc == x.loc | none => false
/-- A block that holds one entry. -/
theorem ER.box {w : World} {q : Nat} {e : Ent} (h : EBox w q e) : ER w q [e] := by
  have hlt := h.lt
  have hc : ∀ o, w.cell? ⟨q, o, none⟩ = (entC e)[o]? := fun o => by
    have : w.cell? ⟨q, o, none⟩ = (entC e).toArray[o]? := by simp only [World.cell?]; rw [h]; rfl
    rw [this, List.getElem?_toArray]
  refine ⟨⟨hlt, fun j hj => ?_⟩, fun i hi j v hv => ?_⟩
  · rw [hc]
    refine ⟨?_, ?_⟩
    · rw [List.getElem?_eq_getElem (by rw [entC_len]; simpa using hj)]; rfl
    · simp only [World.frozen?]; rw [h]; simp [entO]
  · obtain rfl : i = 0 := by simpa using hi
    rw [hc, Nat.zero_mul, Nat.zero_add]
    exact hv
theorem low_le (x : Ent) (l : List Ent) : low x l ≤ l.length := (List.takeWhile_sublist _).length_le
theorem low_eq {x : Ent} : ∀ {l : List Ent} {i : Nat}, i ≤ l.length → (∀ j (hj : j < l.length), j < i → l[j].loc < x.loc) → (∀ (hi : i < l.length), x.loc ≤ l[i].loc) → low x l = i
  | [], i, h, _, _ => by simp at h; subst h; rfl
  | y :: t, 0, _, _, h2 => by
    have := h2 (by simp)
    unfold low
    rw [List.takeWhile_cons_of_neg (by simpa using this)]
    rfl
  | y :: t, i + 1, h, h1, h2 => by
    have h0 : y.loc < x.loc := h1 0 (by simp) (by omega)
    have ih := low_eq (x := x) (l := t) (i := i) (by simpa using h) (fun j hj hji => h1 (j + 1) (by simpa using hj) (by omega)) (fun hi => h2 (by simpa using hi))
    unfold low at ih ⊢
    rw [List.takeWhile_cons_of_pos (by simpa using h0), List.length_cons, ih]

set_option maxRecDepth 100000 in
set_option maxHeartbeats 12800000 in
theorem bs_none (A : Option Addr) (c : Nat) (x : Ent) (w : World) :
    Calls Tryd.prog 36 #[.slice A 0 c, entV x, .func (.func 37) #[] #[]] w fun e w' => e = .returned (.tuple #[.int .i64 0, .bool false]) ∧ Below w.heap.size w w' := by
  have HB0 := Lib.hid (show Below w.heap.size w (w.alloc (entO x)) from (Below.refl _ _).alloc (Nat.le_refl _) _)
  have HT := Lib.hid True.intro
  unfold entV
  go_enter Tryd.func36, Tryd.ntmps36
  go_wp2
  refine wp_loop_rounds 1 ?_
  rw [rounds_succ]
  go_wp2_with fail
  refine wp_region_held_drew (S := fun W => True) (by kernel_rfl) ⟨⟩ (fun hHeld => ?_)
  have En0 := Lib.hid (show (fun W => True) (w.alloc (.cells #[.int .i64 x.loc, .int .i64 x.val, .int .u32 x.ver, .int .u32 x.ref, .int .i64 x.new, .bool x.wr] 46)).drew from ⟨⟩)
  have Bn0 := Lib.hid (show Below (w.alloc (.cells #[.int .i64 x.loc, .int .i64 x.val, .int .u32 x.ver, .int .u32 x.ref, .int .i64 x.new, .bool x.wr] 46)).heap.size (w.alloc (.cells #[.int .i64 x.loc, .int .i64 x.val, .int .u32 x.ver, .int .u32 x.ref, .int .i64 x.new, .bool x.wr] 46)) (w.alloc (.cells #[.int .i64 x.loc, .int .i64 x.val, .int .u32 x.ver, .int .u32 x.ref, .int .i64 x.new, .bool x.wr] 46)).drew from (Below.refl _ _).drew)
  clear hHeld
  generalize (w.alloc (.cells #[.int .i64 x.loc, .int .i64 x.val, .int .u32 x.ver, .int .u32 x.ref, .int .i64 x.new, .bool x.wr] 46)).drew = vn0 at *
  refine wpAnyH_take (i := 0) (oi := ⟨some 35, _, _, _, _, _⟩) (v := .int .i64 0) rfl (by kernel_rfl) (by kernel_rfl) (by kernel_rfl) (fun _ _ _ h => h) (Or.inl ⟨by rfl, ?_⟩) En0.out ?_
  · intro W' hW
    go_simp
  try simp only [Act.put, List.setIfInBounds_toArray, List.set_cons_zero, List.set_cons_succ]
  refine wpAnyH_take (i := 1) (oi := ⟨some 36, _, _, _, _, _⟩) (v := .int .i64 0) rfl (by kernel_rfl) (by kernel_rfl) (by kernel_rfl) (fun _ _ _ h => h) (Or.inl ⟨by rfl, ?_⟩) En0.out ?_
  · intro W' hW
    go_simp
  try simp only [Act.put, List.setIfInBounds_toArray, List.set_cons_zero, List.set_cons_succ]
  refine wpAnyH_take (i := 2) (oi := ⟨some 37, _, _, _, _, _⟩) (v := .int .i64 0) rfl (by kernel_rfl) (by kernel_rfl) (by kernel_rfl) (fun _ _ _ h => h) (Or.inl ⟨by rfl, ?_⟩) En0.out ?_
  · intro W' hW
    go_simp
  try simp only [Act.put, List.setIfInBounds_toArray, List.set_cons_zero, List.set_cons_succ]
  refine wpAnyH_take (i := 3) (oi := ⟨some 38, _, _, _, _, _⟩) (v := .bool false) rfl (by kernel_rfl) (by kernel_rfl) (by kernel_rfl) (fun _ _ _ h => h) (Or.inl ⟨by rfl, ?_⟩) En0.out ?_
  · intro W' hW
    go_simp
  try simp only [Act.put, List.setIfInBounds_toArray, List.set_cons_zero, List.set_cons_succ]
  refine wpAnyH_take (i := 4) (oi := ⟨some 39, _, _, _, _, _⟩) (v := .bool false) rfl (by kernel_rfl) (by kernel_rfl) (by kernel_rfl) (fun _ _ _ h => h) (Or.inl ⟨by rfl, ?_⟩) En0.out ?_
  · intro W' hW
    go_simp
  try simp only [Act.put, List.setIfInBounds_toArray, List.set_cons_zero, List.set_cons_succ]
  refine wpAnyH_take (i := 5) (oi := ⟨some 40, _, _, _, _, _⟩) (v := undef) rfl (by kernel_rfl) (by kernel_rfl) (by kernel_rfl) (fun _ _ _ h => h) (Or.inr ⟨by rfl, rfl⟩) En0.out ?_
  try simp only [Act.put, List.setIfInBounds_toArray, List.set_cons_zero, List.set_cons_succ]
  refine wpAnyH_take (i := 6) (oi := ⟨some 41, _, _, _, _, _⟩) (v := undef) rfl (by kernel_rfl) (by kernel_rfl) (by kernel_rfl) (fun _ _ _ h => h) (Or.inr ⟨by rfl, rfl⟩) En0.out ?_
  try simp only [Act.put, List.setIfInBounds_toArray, List.set_cons_zero, List.set_cons_succ]
  refine wpAnyH_take (i := 7) (oi := ⟨some 42, _, _, _, _, _⟩) (v := undef) rfl (by kernel_rfl) (by kernel_rfl) (by kernel_rfl) (fun _ _ _ h => h) (Or.inr ⟨by rfl, rfl⟩) En0.out ?_
  try simp only [Act.put, List.setIfInBounds_toArray, List.set_cons_zero, List.set_cons_succ]
  refine wpAnyH_take (i := 8) (oi := ⟨some 43, _, _, _, _, _⟩) (v := undef) rfl (by kernel_rfl) (by kernel_rfl) (by kernel_rfl) (fun _ _ _ h => h) (Or.inr ⟨by rfl, rfl⟩) En0.out ?_
  try simp only [Act.put, List.setIfInBounds_toArray, List.set_cons_zero, List.set_cons_succ]
  refine wpAnyH_take (i := 9) (oi := ⟨some 44, _, _, _, _, _⟩) (v := undef) rfl (by kernel_rfl) (by kernel_rfl) (by kernel_rfl) (fun _ _ _ h => h) (Or.inr ⟨by rfl, rfl⟩) En0.out ?_
  try simp only [Act.put, List.setIfInBounds_toArray, List.set_cons_zero, List.set_cons_succ]
  refine wpAnyH_take (i := 10) (oi := ⟨some 45, _, _, _, _, _⟩) (v := undef) rfl (by kernel_rfl) (by kernel_rfl) (by kernel_rfl) (fun _ _ _ h => h) (Or.inr ⟨by rfl, rfl⟩) En0.out ?_
  try simp only [Act.put, List.setIfInBounds_toArray, List.set_cons_zero, List.set_cons_succ]
  refine wpAnyH_take (i := 11) (oi := ⟨some 46, _, _, _, _, _⟩) (v := undef) rfl (by kernel_rfl) (by kernel_rfl) (by kernel_rfl) (fun _ _ _ h => h) (Or.inr ⟨by rfl, rfl⟩) En0.out ?_
  try simp only [Act.put, List.setIfInBounds_toArray, List.set_cons_zero, List.set_cons_succ]
  refine wpAnyH_take (i := 12) (oi := ⟨some 47, _, _, _, _, _⟩) (v := undef) rfl (by kernel_rfl) (by kernel_rfl) (by kernel_rfl) (fun _ _ _ h => h) (Or.inr ⟨by rfl, rfl⟩) En0.out ?_
  try simp only [Act.put, List.setIfInBounds_toArray, List.set_cons_zero, List.set_cons_succ]
  refine wpAnyH_take (i := 13) (oi := ⟨some 48, _, _, _, _, _⟩) (v := .bool false) rfl (by kernel_rfl) (by kernel_rfl) (by kernel_rfl) (fun _ _ _ h => h) (Or.inl ⟨by rfl, ?_⟩) En0.out ?_
  · intro W' hW
    go_simp
  try simp only [Act.put, List.setIfInBounds_toArray, List.set_cons_zero, List.set_cons_succ]
  refine wpAnyH_take (i := 14) (oi := ⟨some 6, _, _, _, _, _⟩) (v := .int .i64 0) rfl (by kernel_rfl) (by kernel_rfl) (by kernel_rfl) (fun _ _ _ h => h) (Or.inl ⟨by rfl, ?_⟩) En0.out ?_
  · intro W' hW
    go_simp
  try simp only [Act.put, List.setIfInBounds_toArray, List.set_cons_zero, List.set_cons_succ]
  refine wpAnyH_take (i := 15) (oi := ⟨some 7, _, _, _, _, _⟩) (v := .bool false) rfl (by kernel_rfl) (by kernel_rfl) (by kernel_rfl) (fun _ _ _ h => h) (Or.inl ⟨by rfl, ?_⟩) En0.out ?_
  · intro W' hW
    go_simp
  try simp only [Act.put, List.setIfInBounds_toArray, List.set_cons_zero, List.set_cons_succ]
  refine wpAnyH_done (by kernel_rfl) ?_ _
  go_wp2
  go_ret2
  exact ⟨rfl, HB0.out.trans (Bn0.out.mono HB0.out.size)⟩
set_option maxRecDepth 100000 in
set_option maxHeartbeats 12800000 in
theorem bs_any (g n c : Nat) (L : List Ent) (x : Ent) (w : World) (hE : ER w g L) (hL : L.length = n) (h1 : n ≤ 1000) (hA : Asc Ent.loc L) :
    Calls Tryd.prog 36 #[.slice (some ⟨g, 0, none⟩) n c, entV x, .func (.func 37) #[] #[]] w fun e w' => e = .returned (.tuple #[.int .i64 (low x L), .bool (has x L)]) ∧ Below w.heap.size w w' := by
  have HB0 := Lib.hid (show Below w.heap.size w (w.alloc (entO x)) from (Below.refl _ _).alloc (Nat.le_refl _) _)
  have HE0 := Lib.hid (show ER (w.alloc (entO x)) g L ∧ ER (w.alloc (entO x)) w.heap.size [x] from ⟨hE.below HB0.out, ER.box EBox.new⟩)
  unfold entV
  have HLN := Lib.hid hL
  have HAS := Lib.hid hA
  have hnn : (n : Int) ≤ 1000 := by omega
  clear hE hL hA h1
  go_enter Tryd.func36, Tryd.ntmps36
  go_wp2
  go_loopw [9, 10] (fun ii jj wr => ∃ (p q : Nat), p ≤ q ∧ q ≤ n ∧ ii = .int .i64 (p : Int) ∧ jj = .int .i64 (q : Int) ∧ Hid (∀ j (hj : j < L.length), j < p → L[j].loc < x.loc) ∧ Hid (∀ (hi : q < L.length), x.loc ≤ L[q].loc) ∧ Hid (ER wr g L ∧ ER wr w.heap.size [x]) ∧ Hid (Below w.heap.size w wr)) (fun ii jj _ => (intOf jj).toNat - (intOf ii).toNat)
  case atStart => exact ⟨0, n, Nat.zero_le _, Nat.le_refl _, rfl, rfl, Lib.hid (fun j _ h => absurd h (by omega)), Lib.hid (fun h => absurd h (by have := HLN.out; omega)), HE0, HB0⟩
  case round =>
    clear HE0
    obtain ⟨p, q, hpq, hqn, rfl, rfl, HLO, HHI, HE, HB⟩ := hrel
    by_cases hlt : p < q
    · skip
      obtain ⟨h, hh⟩ : ∃ h, h = (p + q) / 2 := ⟨_, rfl⟩
      have hmid := mid_eq p q h hh
      have hhl : h < L.length := by have := HLN.out; omega
      have HX := Lib.hid (show L[h]? = some L[h] from List.getElem?_eq_getElem hhl)
      have HIJ := Lib.hid (show p ≤ h ∧ h < q ∧ p < q ∧ q ≤ n by omega)
      have HY := Lib.hid (show ∀ y, L[h]? = some y → y = L[h] from fun y hy => by rw [List.getElem?_eq_getElem hhl] at hy; injection hy with hy; exact hy.symm)
      have hij : (p : Int) < (q : Int) := by omega
      have hqn2 : (q : Int) ≤ (n : Int) := by omega
      have hhn : (h : Int) < (n : Int) := by omega
      have hsum : (p : Int) + (q : Int) ≤ 2000 := by omega
      have HG := Lib.hid (show ∀ j (hj : j < L.length), j ≤ h → L[j].loc ≤ L[h].loc from fun j hj hjh => asc_at Ent.loc HAS.out hjh (List.getElem?_eq_getElem hj) (List.getElem?_eq_getElem hhl))
      have HG2 := Lib.hid (show ∀ v, v = L[h] → v.loc < x.loc → (∀ j (hj : j < L.length), j < h + 1 → L[j].loc < x.loc) from fun v hv hvx j hj hjh => by have := HG.out j hj (by omega); rw [← hv] at this; omega)
      have HG3 := Lib.hid (show ∀ v, v = L[h] → x.loc ≤ v.loc → (∀ (hi : h < L.length), x.loc ≤ L[h].loc) from fun v hv hvx hi => hv ▸ hvx)
      obtain ⟨y, hy⟩ : ∃ y, y = L[h] := ⟨_, rfl⟩
      have HYE := Lib.hid hy
      rw [← hy] at HX
      clear hh hpq hqn hlt hy HG HY
      by_cases hc : y.loc < x.loc
      · skip
        have hcn := (cmpI_neg y.loc x.loc).2 hc
        have hcd : decide (cmpI y.loc x.loc < 0) = true := decide_eq_true hcn
        have HL2 := Lib.hid (HG2.out y HYE.out hc)
        clear hc
        go_wp2_with fail
        refine wp_region_held_drew (S := fun W => ER W g L ∧ ER W w.heap.size [x]) (by kernel_rfl) ⟨HE.out.1.drew, HE.out.2.drew⟩ (fun hHeld => ?_)
        have Ec0 := Lib.hid (show (fun W => ER W g L ∧ ER W w.heap.size [x]) wr.drew from ⟨HE.out.1.drew, HE.out.2.drew⟩)
        have Bc0 := Lib.hid (show Below wr.heap.size wr wr.drew from (Below.refl _ _).drew)
        clear hHeld
        generalize wr.drew = vc0 at *
        refine wpAnyH_take (i := 0) (oi := ⟨some 24, _, _, _, _, _⟩) (v := .func (.func 37) #[] #[]) rfl (by kernel_rfl) (by kernel_rfl) (by kernel_rfl) (fun _ _ _ h => h) (Or.inl ⟨by rfl, ?_⟩) Ec0.out ?_
        · intro W' hW
          go_simp
        try simp only [Act.put, List.setIfInBounds_toArray, List.set_cons_zero, List.set_cons_succ]
        refine wpAnyH_take (i := 1) (oi := ⟨some 25, _, _, _, _, _⟩) (v := .slice (some ⟨g, 0, none⟩) n c) rfl (by kernel_rfl) (by kernel_rfl) (by kernel_rfl) (fun _ _ _ h => h) (Or.inl ⟨by rfl, ?_⟩) Ec0.out ?_
        · intro W' hW
          go_simp
        try simp only [Act.put, List.setIfInBounds_toArray, List.set_cons_zero, List.set_cons_succ]
        refine wpAnyH_take (i := 2) (oi := ⟨some 26, _, _, _, _, _⟩) (v := .int .i64 (h : Int)) rfl (by kernel_rfl) (by kernel_rfl) (by kernel_rfl) (fun _ _ _ h => h) (Or.inl ⟨by rfl, ?_⟩) Ec0.out ?_
        · intro W' hW
          go_simp
        try simp only [Act.put, List.setIfInBounds_toArray, List.set_cons_zero, List.set_cons_succ]
        refine wpAnyH_take (i := 3) (oi := ⟨some 27, _, _, _, _, _⟩) (v := .pointer (some ⟨g, h * 6, none⟩)) rfl (by kernel_rfl) (by kernel_rfl) (by kernel_rfl) (fun _ _ _ h => h) (Or.inl ⟨by rfl, ?_⟩) Ec0.out ?_
        · intro W' hW
          go_simp
        try simp only [Act.put, List.setIfInBounds_toArray, List.set_cons_zero, List.set_cons_succ]
        refine wpAnyH_take (i := 4) (oi := ⟨some 28, _, _, _, _, _⟩) (v := entV y) rfl (by kernel_rfl) (by kernel_rfl) (by kernel_rfl) (fun _ _ _ h => h) (yields_e (by rfl) (.tmp 27) rfl (g) (h) rfl (fun W hW => hW.1) HX.out) Ec0.out ?_
        try simp only [Act.put, List.setIfInBounds_toArray, List.set_cons_zero, List.set_cons_succ]
        refine wpAnyH_take (i := 5) (oi := ⟨some 29, _, _, _, _, _⟩) (v := entV x) rfl (by kernel_rfl) (by kernel_rfl) (by kernel_rfl) (fun _ _ _ h => h) (yields_e (by rfl) (.tmp 4) rfl (w.heap.size) (0) rfl (fun W hW => hW.2) rfl) Ec0.out ?_
        try simp only [Act.put, List.setIfInBounds_toArray, List.set_cons_zero, List.set_cons_succ]
        refine wpAnyH_ready (rs := [6]) (by kernel_rfl) (by simp) ?_
        refine AllReadyH.cons (o := ⟨some 30, _, _, _, _, _⟩) rfl (fun K hK => ?_) (AllReadyH.nil)
        go_simp
        refine (place_any y x vc0).mono ?_
        rintro e vc1 ⟨rfl, hb⟩
        have Ec1 := Lib.hid (show (fun W => ER W g L ∧ ER W w.heap.size [x]) vc1 from ⟨Ec0.out.1.below hb, Ec0.out.2.below hb⟩)
        have Bc1 := Lib.hid (Bc0.out.trans (hb.mono Bc0.out.size))
        clear hb
        refine hK.out _ _ Ec1.out (fun hHeldq => ?_)
        clear hK hHeldq
        try simp only [Act.put, List.setIfInBounds_toArray, List.set_cons_zero, List.set_cons_succ]
        refine wpAnyH_take (i := 7) (oi := ⟨some 31, _, _, _, _, _⟩) (v := .bool true) rfl (by kernel_rfl) (by kernel_rfl) (by kernel_rfl) (fun _ _ _ h => h) (Or.inl ⟨by rfl, ?_⟩) Ec1.out ?_
        · intro W' hW
          go_simp
        try simp only [Act.put, List.setIfInBounds_toArray, List.set_cons_zero, List.set_cons_succ]
        refine wpAnyH_done (by kernel_rfl) ?_ _
        go_wp2
        go_roundw
        case rel => exact ⟨h + 1, q, by have := HIJ.out; omega, by have := HIJ.out; omega, by (show Value.int .i64 _ = _; rfl), rfl, HL2, HHI, Ec1, Lib.hid (HB.out.trans (Bc1.out.mono HB.out.size))⟩
        case measure => have := HIJ.out; show ((q : Int)).toNat - ((h : Int) + 1).toNat < ((q : Int)).toNat - ((p : Int)).toNat; omega
      · skip
        have hcn : ¬ cmpI y.loc x.loc < 0 := fun h => hc ((cmpI_neg y.loc x.loc).1 h)
        have hcp : 0 ≤ cmpI y.loc x.loc := by omega
        have hcd : decide (cmpI y.loc x.loc < 0) = false := decide_eq_false hcn
        have HL2 := Lib.hid (HG3.out y HYE.out (by omega))
        clear hc
        go_wp2_with fail
        refine wp_region_held_drew (S := fun W => ER W g L ∧ ER W w.heap.size [x]) (by kernel_rfl) ⟨HE.out.1.drew, HE.out.2.drew⟩ (fun hHeld => ?_)
        have Ec0 := Lib.hid (show (fun W => ER W g L ∧ ER W w.heap.size [x]) wr.drew from ⟨HE.out.1.drew, HE.out.2.drew⟩)
        have Bc0 := Lib.hid (show Below wr.heap.size wr wr.drew from (Below.refl _ _).drew)
        clear hHeld
        generalize wr.drew = vc0 at *
        refine wpAnyH_take (i := 0) (oi := ⟨some 24, _, _, _, _, _⟩) (v := .func (.func 37) #[] #[]) rfl (by kernel_rfl) (by kernel_rfl) (by kernel_rfl) (fun _ _ _ h => h) (Or.inl ⟨by rfl, ?_⟩) Ec0.out ?_
        · intro W' hW
          go_simp
        try simp only [Act.put, List.setIfInBounds_toArray, List.set_cons_zero, List.set_cons_succ]
        refine wpAnyH_take (i := 1) (oi := ⟨some 25, _, _, _, _, _⟩) (v := .slice (some ⟨g, 0, none⟩) n c) rfl (by kernel_rfl) (by kernel_rfl) (by kernel_rfl) (fun _ _ _ h => h) (Or.inl ⟨by rfl, ?_⟩) Ec0.out ?_
        · intro W' hW
          go_simp
        try simp only [Act.put, List.setIfInBounds_toArray, List.set_cons_zero, List.set_cons_succ]
        refine wpAnyH_take (i := 2) (oi := ⟨some 26, _, _, _, _, _⟩) (v := .int .i64 (h : Int)) rfl (by kernel_rfl) (by kernel_rfl) (by kernel_rfl) (fun _ _ _ h => h) (Or.inl ⟨by rfl, ?_⟩) Ec0.out ?_
        · intro W' hW
          go_simp
        try simp only [Act.put, List.setIfInBounds_toArray, List.set_cons_zero, List.set_cons_succ]
        refine wpAnyH_take (i := 3) (oi := ⟨some 27, _, _, _, _, _⟩) (v := .pointer (some ⟨g, h * 6, none⟩)) rfl (by kernel_rfl) (by kernel_rfl) (by kernel_rfl) (fun _ _ _ h => h) (Or.inl ⟨by rfl, ?_⟩) Ec0.out ?_
        · intro W' hW
          go_simp
        try simp only [Act.put, List.setIfInBounds_toArray, List.set_cons_zero, List.set_cons_succ]
        refine wpAnyH_take (i := 4) (oi := ⟨some 28, _, _, _, _, _⟩) (v := entV y) rfl (by kernel_rfl) (by kernel_rfl) (by kernel_rfl) (fun _ _ _ h => h) (yields_e (by rfl) (.tmp 27) rfl (g) (h) rfl (fun W hW => hW.1) HX.out) Ec0.out ?_
        try simp only [Act.put, List.setIfInBounds_toArray, List.set_cons_zero, List.set_cons_succ]
        refine wpAnyH_take (i := 5) (oi := ⟨some 29, _, _, _, _, _⟩) (v := entV x) rfl (by kernel_rfl) (by kernel_rfl) (by kernel_rfl) (fun _ _ _ h => h) (yields_e (by rfl) (.tmp 4) rfl (w.heap.size) (0) rfl (fun W hW => hW.2) rfl) Ec0.out ?_
        try simp only [Act.put, List.setIfInBounds_toArray, List.set_cons_zero, List.set_cons_succ]
        refine wpAnyH_ready (rs := [6]) (by kernel_rfl) (by simp) ?_
        refine AllReadyH.cons (o := ⟨some 30, _, _, _, _, _⟩) rfl (fun K hK => ?_) (AllReadyH.nil)
        go_simp
        refine (place_any y x vc0).mono ?_
        rintro e vc1 ⟨rfl, hb⟩
        have Ec1 := Lib.hid (show (fun W => ER W g L ∧ ER W w.heap.size [x]) vc1 from ⟨Ec0.out.1.below hb, Ec0.out.2.below hb⟩)
        have Bc1 := Lib.hid (Bc0.out.trans (hb.mono Bc0.out.size))
        clear hb
        refine hK.out _ _ Ec1.out (fun hHeldq => ?_)
        clear hK hHeldq
        try simp only [Act.put, List.setIfInBounds_toArray, List.set_cons_zero, List.set_cons_succ]
        refine wpAnyH_take (i := 7) (oi := ⟨some 31, _, _, _, _, _⟩) (v := .bool false) rfl (by kernel_rfl) (by kernel_rfl) (by kernel_rfl) (fun _ _ _ h => h) (Or.inl ⟨by rfl, ?_⟩) Ec1.out ?_
        · intro W' hW
          go_simp
        try simp only [Act.put, List.setIfInBounds_toArray, List.set_cons_zero, List.set_cons_succ]
        refine wpAnyH_done (by kernel_rfl) ?_ _
        go_wp2
        go_roundw
        case rel => exact ⟨p, h, by have := HIJ.out; omega, by have := HIJ.out; omega, rfl, rfl, HLO, HL2, Ec1, Lib.hid (HB.out.trans (Bc1.out.mono HB.out.size))⟩
        case measure => have := HIJ.out; show ((h : Int)).toNat - ((p : Int)).toNat < ((q : Int)).toNat - ((p : Int)).toNat; omega
    · skip
      obtain rfl : p = q := by omega
      have hlow := low_eq (by have := HLN.out; omega) HLO.out HHI.out
      have hii : ¬ (p : Int) < (p : Int) := by omega
      have HB1 := Lib.hid hlow
      by_cases hpn : p < n
      · skip
        have hpl : p < L.length := by have := HLN.out; omega
        have HX := Lib.hid (show L[p]? = some L[p] from List.getElem?_eq_getElem hpl)
        have hpi : (p : Int) < (n : Int) := by omega
        obtain ⟨y, hy⟩ : ∃ y, y = L[p] := ⟨_, rfl⟩
        rw [← hy] at HX
        have HHS := Lib.hid (show has x L = (y.loc == x.loc) by unfold has; rw [hlow, HX.out])
        have HC := Lib.hid (show (cmpI y.loc x.loc == 0) = (y.loc == x.loc) by
          by_cases h : y.loc = x.loc
          · rw [beq_iff_eq.2 h, beq_iff_eq.2 ((cmpI_zero _ _).2 h)]
          · rw [beq_eq_false_iff_ne.2 h, beq_eq_false_iff_ne.2 (fun e => h ((cmpI_zero _ _).1 e))])
        clear hpq hqn hlt hlow hpn hpl hy HLO HHI
        go_wp2_with fail
        refine wp_region_held_drew (S := fun W => ER W g L ∧ ER W w.heap.size [x]) (by kernel_rfl) ⟨HE.out.1.drew, HE.out.2.drew⟩ (fun hHeld => ?_)
        have El0 := Lib.hid (show (fun W => ER W g L ∧ ER W w.heap.size [x]) wr.drew from ⟨HE.out.1.drew, HE.out.2.drew⟩)
        have Bl0 := Lib.hid (show Below wr.heap.size wr wr.drew from (Below.refl _ _).drew)
        clear hHeld
        generalize wr.drew = vl0 at *
        refine wpAnyH_take (i := 0) (oi := ⟨some 35, _, _, _, _, _⟩) (v := .int .i64 (p : Int)) rfl (by kernel_rfl) (by kernel_rfl) (by kernel_rfl) (fun _ _ _ h => h) (Or.inl ⟨by rfl, ?_⟩) El0.out ?_
        · intro W' hW
          go_simp
        try simp only [Act.put, List.setIfInBounds_toArray, List.set_cons_zero, List.set_cons_succ]
        refine wpAnyH_take (i := 1) (oi := ⟨some 36, _, _, _, _, _⟩) (v := .int .i64 (p : Int)) rfl (by kernel_rfl) (by kernel_rfl) (by kernel_rfl) (fun _ _ _ h => h) (Or.inl ⟨by rfl, ?_⟩) El0.out ?_
        · intro W' hW
          go_simp
        try simp only [Act.put, List.setIfInBounds_toArray, List.set_cons_zero, List.set_cons_succ]
        refine wpAnyH_take (i := 2) (oi := ⟨some 37, _, _, _, _, _⟩) (v := .int .i64 (n : Int)) rfl (by kernel_rfl) (by kernel_rfl) (by kernel_rfl) (fun _ _ _ h => h) (Or.inl ⟨by rfl, ?_⟩) El0.out ?_
        · intro W' hW
          go_simp
        try simp only [Act.put, List.setIfInBounds_toArray, List.set_cons_zero, List.set_cons_succ]
        refine wpAnyH_take (i := 3) (oi := ⟨some 38, _, _, _, _, _⟩) (v := .bool true) rfl (by kernel_rfl) (by kernel_rfl) (by kernel_rfl) (fun _ _ _ h => h) (Or.inl ⟨by rfl, ?_⟩) El0.out ?_
        · intro W' hW
          go_simp
        try simp only [Act.put, List.setIfInBounds_toArray, List.set_cons_zero, List.set_cons_succ]
        refine wpAnyH_take (i := 4) (oi := ⟨some 39, _, _, _, _, _⟩) (v := .bool true) rfl (by kernel_rfl) (by kernel_rfl) (by kernel_rfl) (fun _ _ _ h => h) (Or.inl ⟨by rfl, ?_⟩) El0.out ?_
        · intro W' hW
          go_simp
        try simp only [Act.put, List.setIfInBounds_toArray, List.set_cons_zero, List.set_cons_succ]
        refine wpAnyH_take (i := 5) (oi := ⟨some 40, _, _, _, _, _⟩) (v := .func (.func 37) #[] #[]) rfl (by kernel_rfl) (by kernel_rfl) (by kernel_rfl) (fun _ _ _ h => h) (Or.inl ⟨by rfl, ?_⟩) El0.out ?_
        · intro W' hW
          go_simp
        try simp only [Act.put, List.setIfInBounds_toArray, List.set_cons_zero, List.set_cons_succ]
        refine wpAnyH_take (i := 6) (oi := ⟨some 41, _, _, _, _, _⟩) (v := .slice (some ⟨g, 0, none⟩) n c) rfl (by kernel_rfl) (by kernel_rfl) (by kernel_rfl) (fun _ _ _ h => h) (Or.inl ⟨by rfl, ?_⟩) El0.out ?_
        · intro W' hW
          go_simp
        try simp only [Act.put, List.setIfInBounds_toArray, List.set_cons_zero, List.set_cons_succ]
        refine wpAnyH_take (i := 7) (oi := ⟨some 42, _, _, _, _, _⟩) (v := .int .i64 (p : Int)) rfl (by kernel_rfl) (by kernel_rfl) (by kernel_rfl) (fun _ _ _ h => h) (Or.inl ⟨by rfl, ?_⟩) El0.out ?_
        · intro W' hW
          go_simp
        try simp only [Act.put, List.setIfInBounds_toArray, List.set_cons_zero, List.set_cons_succ]
        refine wpAnyH_take (i := 8) (oi := ⟨some 43, _, _, _, _, _⟩) (v := .pointer (some ⟨g, p * 6, none⟩)) rfl (by kernel_rfl) (by kernel_rfl) (by kernel_rfl) (fun _ _ _ h => h) (Or.inl ⟨by rfl, ?_⟩) El0.out ?_
        · intro W' hW
          go_simp
        try simp only [Act.put, List.setIfInBounds_toArray, List.set_cons_zero, List.set_cons_succ]
        refine wpAnyH_take (i := 9) (oi := ⟨some 44, _, _, _, _, _⟩) (v := entV y) rfl (by kernel_rfl) (by kernel_rfl) (by kernel_rfl) (fun _ _ _ h => h) (yields_e (by rfl) (.tmp 43) rfl (g) (p) rfl (fun W hW => hW.1) HX.out) El0.out ?_
        try simp only [Act.put, List.setIfInBounds_toArray, List.set_cons_zero, List.set_cons_succ]
        refine wpAnyH_take (i := 10) (oi := ⟨some 45, _, _, _, _, _⟩) (v := entV x) rfl (by kernel_rfl) (by kernel_rfl) (by kernel_rfl) (fun _ _ _ h => h) (yields_e (by rfl) (.tmp 4) rfl (w.heap.size) (0) rfl (fun W hW => hW.2) rfl) El0.out ?_
        try simp only [Act.put, List.setIfInBounds_toArray, List.set_cons_zero, List.set_cons_succ]
        refine wpAnyH_ready (rs := [11]) (by kernel_rfl) (by simp) ?_
        refine AllReadyH.cons (o := ⟨some 46, _, _, _, _, _⟩) rfl (fun K hK => ?_) (AllReadyH.nil)
        go_simp
        refine (place_any y x vl0).mono ?_
        rintro e vl1 ⟨rfl, hb⟩
        have El1 := Lib.hid (show (fun W => ER W g L ∧ ER W w.heap.size [x]) vl1 from ⟨El0.out.1.below hb, El0.out.2.below hb⟩)
        have Bl1 := Lib.hid (Bl0.out.trans (hb.mono Bl0.out.size))
        clear hb
        refine hK.out _ _ El1.out (fun hHeldq => ?_)
        clear hK hHeldq
        try simp only [Act.put, List.setIfInBounds_toArray, List.set_cons_zero, List.set_cons_succ]
        refine wpAnyH_take (i := 12) (oi := ⟨some 47, _, _, _, _, _⟩) (v := .bool (cmpI y.loc x.loc == 0)) rfl (by kernel_rfl) (by kernel_rfl) (by kernel_rfl) (fun _ _ _ h => h) (Or.inl ⟨by rfl, ?_⟩) El1.out ?_
        · intro W' hW
          go_simp
        try simp only [Act.put, List.setIfInBounds_toArray, List.set_cons_zero, List.set_cons_succ]
        refine wpAnyH_take (i := 13) (oi := ⟨some 48, _, _, _, _, _⟩) (v := .bool (cmpI y.loc x.loc == 0)) rfl (by kernel_rfl) (by kernel_rfl) (by kernel_rfl) (fun _ _ _ h => h) (Or.inl ⟨by rfl, ?_⟩) El1.out ?_
        · intro W' hW
          go_simp
        try simp only [Act.put, List.setIfInBounds_toArray, List.set_cons_zero, List.set_cons_succ]
        refine wpAnyH_take (i := 14) (oi := ⟨some 6, _, _, _, _, _⟩) (v := .int .i64 (p : Int)) rfl (by kernel_rfl) (by kernel_rfl) (by kernel_rfl) (fun _ _ _ h => h) (Or.inl ⟨by rfl, ?_⟩) El1.out ?_
        · intro W' hW
          go_simp
        try simp only [Act.put, List.setIfInBounds_toArray, List.set_cons_zero, List.set_cons_succ]
        refine wpAnyH_take (i := 15) (oi := ⟨some 7, _, _, _, _, _⟩) (v := .bool (cmpI y.loc x.loc == 0)) rfl (by kernel_rfl) (by kernel_rfl) (by kernel_rfl) (fun _ _ _ h => h) (Or.inl ⟨by rfl, ?_⟩) El1.out ?_
        · intro W' hW
          go_simp
        try simp only [Act.put, List.setIfInBounds_toArray, List.set_cons_zero, List.set_cons_succ]
        refine wpAnyH_done (by kernel_rfl) ?_ _
        go_wp2
        go_ret2
        exact ⟨by rw [HB1.out, HHS.out, ← HC.out]; rfl, HB.out.trans (Bl1.out.mono HB.out.size)⟩
      · skip
        have hpi : ¬ (p : Int) < (n : Int) := by omega
        have HHS := Lib.hid (show has x L = false by unfold has; rw [hlow, List.getElem?_eq_none (by have := HLN.out; omega)])
        clear hpq hqn hlt hlow HLO HHI
        go_wp2_with fail
        refine wp_region_held_drew (S := fun W => ER W g L ∧ ER W w.heap.size [x]) (by kernel_rfl) ⟨HE.out.1.drew, HE.out.2.drew⟩ (fun hHeld => ?_)
        have En0 := Lib.hid (show (fun W => ER W g L ∧ ER W w.heap.size [x]) wr.drew from ⟨HE.out.1.drew, HE.out.2.drew⟩)
        have Bn0 := Lib.hid (show Below wr.heap.size wr wr.drew from (Below.refl _ _).drew)
        clear hHeld
        generalize wr.drew = vn0 at *
        refine wpAnyH_take (i := 0) (oi := ⟨some 35, _, _, _, _, _⟩) (v := .int .i64 (p : Int)) rfl (by kernel_rfl) (by kernel_rfl) (by kernel_rfl) (fun _ _ _ h => h) (Or.inl ⟨by rfl, ?_⟩) En0.out ?_
        · intro W' hW
          go_simp
        try simp only [Act.put, List.setIfInBounds_toArray, List.set_cons_zero, List.set_cons_succ]
        refine wpAnyH_take (i := 1) (oi := ⟨some 36, _, _, _, _, _⟩) (v := .int .i64 (p : Int)) rfl (by kernel_rfl) (by kernel_rfl) (by kernel_rfl) (fun _ _ _ h => h) (Or.inl ⟨by rfl, ?_⟩) En0.out ?_
        · intro W' hW
          go_simp
        try simp only [Act.put, List.setIfInBounds_toArray, List.set_cons_zero, List.set_cons_succ]
        refine wpAnyH_take (i := 2) (oi := ⟨some 37, _, _, _, _, _⟩) (v := .int .i64 (n : Int)) rfl (by kernel_rfl) (by kernel_rfl) (by kernel_rfl) (fun _ _ _ h => h) (Or.inl ⟨by rfl, ?_⟩) En0.out ?_
        · intro W' hW
          go_simp
        try simp only [Act.put, List.setIfInBounds_toArray, List.set_cons_zero, List.set_cons_succ]
        refine wpAnyH_take (i := 3) (oi := ⟨some 38, _, _, _, _, _⟩) (v := .bool false) rfl (by kernel_rfl) (by kernel_rfl) (by kernel_rfl) (fun _ _ _ h => h) (Or.inl ⟨by rfl, ?_⟩) En0.out ?_
        · intro W' hW
          go_simp
        try simp only [Act.put, List.setIfInBounds_toArray, List.set_cons_zero, List.set_cons_succ]
        refine wpAnyH_take (i := 4) (oi := ⟨some 39, _, _, _, _, _⟩) (v := .bool false) rfl (by kernel_rfl) (by kernel_rfl) (by kernel_rfl) (fun _ _ _ h => h) (Or.inl ⟨by rfl, ?_⟩) En0.out ?_
        · intro W' hW
          go_simp
        try simp only [Act.put, List.setIfInBounds_toArray, List.set_cons_zero, List.set_cons_succ]
        refine wpAnyH_take (i := 5) (oi := ⟨some 40, _, _, _, _, _⟩) (v := undef) rfl (by kernel_rfl) (by kernel_rfl) (by kernel_rfl) (fun _ _ _ h => h) (Or.inr ⟨by rfl, rfl⟩) En0.out ?_
        try simp only [Act.put, List.setIfInBounds_toArray, List.set_cons_zero, List.set_cons_succ]
        refine wpAnyH_take (i := 6) (oi := ⟨some 41, _, _, _, _, _⟩) (v := undef) rfl (by kernel_rfl) (by kernel_rfl) (by kernel_rfl) (fun _ _ _ h => h) (Or.inr ⟨by rfl, rfl⟩) En0.out ?_
        try simp only [Act.put, List.setIfInBounds_toArray, List.set_cons_zero, List.set_cons_succ]
        refine wpAnyH_take (i := 7) (oi := ⟨some 42, _, _, _, _, _⟩) (v := undef) rfl (by kernel_rfl) (by kernel_rfl) (by kernel_rfl) (fun _ _ _ h => h) (Or.inr ⟨by rfl, rfl⟩) En0.out ?_
        try simp only [Act.put, List.setIfInBounds_toArray, List.set_cons_zero, List.set_cons_succ]
        refine wpAnyH_take (i := 8) (oi := ⟨some 43, _, _, _, _, _⟩) (v := undef) rfl (by kernel_rfl) (by kernel_rfl) (by kernel_rfl) (fun _ _ _ h => h) (Or.inr ⟨by rfl, rfl⟩) En0.out ?_
        try simp only [Act.put, List.setIfInBounds_toArray, List.set_cons_zero, List.set_cons_succ]
        refine wpAnyH_take (i := 9) (oi := ⟨some 44, _, _, _, _, _⟩) (v := undef) rfl (by kernel_rfl) (by kernel_rfl) (by kernel_rfl) (fun _ _ _ h => h) (Or.inr ⟨by rfl, rfl⟩) En0.out ?_
        try simp only [Act.put, List.setIfInBounds_toArray, List.set_cons_zero, List.set_cons_succ]
        refine wpAnyH_take (i := 10) (oi := ⟨some 45, _, _, _, _, _⟩) (v := undef) rfl (by kernel_rfl) (by kernel_rfl) (by kernel_rfl) (fun _ _ _ h => h) (Or.inr ⟨by rfl, rfl⟩) En0.out ?_
        try simp only [Act.put, List.setIfInBounds_toArray, List.set_cons_zero, List.set_cons_succ]
        refine wpAnyH_take (i := 11) (oi := ⟨some 46, _, _, _, _, _⟩) (v := undef) rfl (by kernel_rfl) (by kernel_rfl) (by kernel_rfl) (fun _ _ _ h => h) (Or.inr ⟨by rfl, rfl⟩) En0.out ?_
        try simp only [Act.put, List.setIfInBounds_toArray, List.set_cons_zero, List.set_cons_succ]
        refine wpAnyH_take (i := 12) (oi := ⟨some 47, _, _, _, _, _⟩) (v := undef) rfl (by kernel_rfl) (by kernel_rfl) (by kernel_rfl) (fun _ _ _ h => h) (Or.inr ⟨by rfl, rfl⟩) En0.out ?_
        try simp only [Act.put, List.setIfInBounds_toArray, List.set_cons_zero, List.set_cons_succ]
        refine wpAnyH_take (i := 13) (oi := ⟨some 48, _, _, _, _, _⟩) (v := .bool false) rfl (by kernel_rfl) (by kernel_rfl) (by kernel_rfl) (fun _ _ _ h => h) (Or.inl ⟨by rfl, ?_⟩) En0.out ?_
        · intro W' hW
          go_simp
        try simp only [Act.put, List.setIfInBounds_toArray, List.set_cons_zero, List.set_cons_succ]
        refine wpAnyH_take (i := 14) (oi := ⟨some 6, _, _, _, _, _⟩) (v := .int .i64 (p : Int)) rfl (by kernel_rfl) (by kernel_rfl) (by kernel_rfl) (fun _ _ _ h => h) (Or.inl ⟨by rfl, ?_⟩) En0.out ?_
        · intro W' hW
          go_simp
        try simp only [Act.put, List.setIfInBounds_toArray, List.set_cons_zero, List.set_cons_succ]
        refine wpAnyH_take (i := 15) (oi := ⟨some 7, _, _, _, _, _⟩) (v := .bool false) rfl (by kernel_rfl) (by kernel_rfl) (by kernel_rfl) (fun _ _ _ h => h) (Or.inl ⟨by rfl, ?_⟩) En0.out ?_
        · intro W' hW
          go_simp
        try simp only [Act.put, List.setIfInBounds_toArray, List.set_cons_zero, List.set_cons_succ]
        refine wpAnyH_done (by kernel_rfl) ?_ _
        go_wp2
        go_ret2
        exact ⟨by rw [HB1.out, HHS.out]; rfl, HB.out.trans (Bn0.out.mono HB.out.size)⟩
end Go.Proofs.YtilapnejkdgomaaDoor
