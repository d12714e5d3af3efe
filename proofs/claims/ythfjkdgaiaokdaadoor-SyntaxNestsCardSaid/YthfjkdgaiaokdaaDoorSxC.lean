/- The walks of lexer.Keywords, syntax.Binaries, slices.Contains on them, syntax.isName. Conditions: the table of keywords is laid (SxW). -/
import Derived.Test.YthfjkdgaiaokdaaDoorSxB
import Derived.Test.YthfjkdgaiaokdaaDoorSxS
import Derived.Lib.SmallJoins
import Derived.Laws.IdiomStrings
import Derived.Lib.SliceRun
set_option linter.unusedVariables false
set_option linter.unusedSimpArgs false
namespace Go.Proofs.YthfjkdgaiaokdaaDoor
open Go.RowKit

/-- The tables of the program lie there: the keywords, the powers of ten. -/
structure SxW (w : World) : Prop where
  kw : ∃ t fr, w.heap[0]? = some (.cells (kwords.map fun x => Value.string (bs x)).toArray t fr)
  pow : Lib.TabIs Tryd.prog w "internal/strconv.uint64pow10" .u64 Lib.pow10Tab
theorem gPow : Tryd.prog.globalNamed "internal/strconv.uint64pow10" = some 2 := by kernel_rfl
theorem lt_of_block {w : World} {b : Nat} {o : Obj} (h : w.heap[b]? = some o) : b < w.heap.size := (Array.getElem?_eq_some_iff.1 h).1
theorem SxW.below {w w' : World} (h : SxW w) (hb : Below w.heap.size w w') : SxW w' := by
  obtain ⟨⟨t, fr, h1⟩, h2⟩ := h
  exact ⟨⟨t, fr, (hb.block _ (lt_of_block h1)).trans h1⟩, Go.Joins.tab_stays gPow h2 hb (Nat.le_refl _)⟩
theorem SxW.kcell {w : World} (h : SxW w) (j : Nat) (hj : j < (kwords.map bs).length) : w.cell? ⟨0, 0 + j, none⟩ = some (.string ((kwords.map bs).getD j ByteArray.empty)) := by
  obtain ⟨t1, f1, h1⟩ := h.kw
  rw [Nat.zero_add, cell_of_row _ _ _ _ _ _ h1, List.getElem?_toArray, List.getElem?_map, List.getD_eq_getElem?_getD, List.getElem?_map]
  rw [List.length_map] at hj
  rw [List.getElem?_eq_getElem hj]
  rfl
theorem has_strs (l : List Str) (x : Str) : Lib.containsS (l.map bs) (bs x) = l.contains x := by
  rw [Bool.eq_iff_iff, Lib.containsS_iff, List.contains_iff_mem, List.mem_map]
  exact ⟨fun ⟨a, h, e⟩ => by rw [← bs_inj e]; exact h, fun h => ⟨x, h, rfl⟩⟩
set_option maxRecDepth 100000 in
theorem keywords_any (w : World) (hw : SxW w) : Calls Tryd.prog 55 #[] w fun e w' => ∃ v, e = .returned v ∧ w'.ownsRow w.heap.size 9 1 v 14 ((kwords.map bs).map Value.string) ∧ Below w.heap.size w w' := by
  have HK := Lib.hid fun j hj => hw.kcell j hj
  go_enter Tryd.func55, Tryd.ntmps55
  go_wp2_with fail
  refine (Tryd.slices_Clone_string 0 0 14 14 (kwords.map bs) w (by decide) (by decide) HK.out).mono ?_
  rintro e w1 ⟨v, rfl, ho, _, hb⟩
  have HO := Lib.hid ho
  have HB := Lib.hid hb
  clear ho hb HK
  go_wp2
  go_ret
  exact ⟨v, rfl, HO.out, HB.out⟩
/-- slices.Contains on a row of strings of the call's own. -/
theorem contains_own {w : World} {base n : Nat} {v : Value} {xs : List Str} (h : w.ownsRow base 9 1 v n ((xs.map bs).map Value.string)) (x : Str) (hn : n = xs.length) (hlt : n ≤ 1000000) (hne : 0 < n) :
    Calls Tryd.prog 54 #[v, .string (bs x)] w fun e w' => e = .returned (.bool (xs.contains x)) ∧ w' = w := by
  obtain ⟨A, c, rfl, hc, hA, hR⟩ := own_reads (S := fun _ => True) h (fun _ _ => trivial)
  obtain ⟨b, o, rfl, hb, _, hcell⟩ := hR.2 hne
  have hC := Tryd.slices_Contains_string b o n c (xs.map bs) (bs x) w (by rw [List.length_map]; omega) (by omega) (fun j hj => hcell j _ (by
    rw [List.getElem?_map, List.getElem?_eq_getElem hj, List.getD_eq_getElem?_getD, List.getElem?_eq_getElem hj]; rfl))
  rwa [List.take_of_length_le (by rw [List.length_map]; omega), has_strs] at hC

theorem conv_bytes (s : Str) (W : World) : ∃ X cap, (convert 9 61 (.string (bs s))).run Tryd.prog W = .ok (.slice (some ⟨W.heap.size, 0, none⟩) s.length cap) (W.drew.alloc X) ∧ s.length ≤ cap ∧
    (∀ W' : World, Below (W.heap.size + 1) (W.drew.alloc X) W' → ∀ j (hj : j < s.length), W'.cell? ⟨W.heap.size, j, none⟩ = some (.int .u8 (s[j].toNat : Int))) := by
  have h := run_bytes_of_string (P := Tryd.prog) W 9 61 5 (bs s) Tryd.underlying9 Tryd.underlying61 Tryd.underlying5
  rw [bs_size] at h
  refine ⟨_, _, h, grownCap_ge _ _ _ _, fun W' hb j hj => ?_⟩
  have hblk := hb.block W.heap.size (by omega)
  rw [show (W.drew.alloc (Obj.cells (bytesRow (bs s) (grownCap W s.length 0 5)) 5 ((bytesRow (bs s) (grownCap W s.length 0 5)).size, (bytesRow (bs s) (grownCap W s.length 0 5)).size + 1))).heap[W.heap.size]? = some (Obj.cells (bytesRow (bs s) (grownCap W s.length 0 5)) 5 ((bytesRow (bs s) (grownCap W s.length 0 5)).size, (bytesRow (bs s) (grownCap W s.length 0 5)).size + 1)) from by
    show (W.heap.push _)[W.heap.size]? = _
    simp] at hblk
  have hj2 : j < (bs s).data.size := by have h2 : (bs s).data.size = s.length := bs_size s; omega
  rw [cell_of_row _ _ _ _ _ _ hblk, bytesRow_at _ _ _ hj2]
  rfl
theorem letB_iff (b : UInt8) : letB b = true ↔ ((b.toNat : Int) = 95 ∨ (97 ≤ (b.toNat : Int) ∧ (b.toNat : Int) ≤ 122) ∨ (65 ≤ (b.toNat : Int) ∧ (b.toNat : Int) ≤ 90)) := by
  have h95 : b = 95 ↔ (b.toNat : Int) = 95 := by
    rw [← UInt8.toNat_inj]
    show b.toNat = 95 ↔ _
    omega
  unfold letB
  simp only [Bool.or_eq_true, Bool.and_eq_true, beq_iff_eq, decide_eq_true_eq, UInt8.le_iff_toNat_le, h95]
  show (((b.toNat : Int) = 95 ∨ (97 ≤ b.toNat ∧ b.toNat ≤ 122)) ∨ (65 ≤ b.toNat ∧ b.toNat ≤ 90)) ↔ _
  omega
theorem digB_iff (b : UInt8) : digB b = true ↔ (48 ≤ (b.toNat : Int) ∧ (b.toNat : Int) ≤ 57) := by
  unfold digB
  simp only [Bool.and_eq_true, decide_eq_true_eq, UInt8.le_iff_toNat_le]
  show (48 ≤ b.toNat ∧ b.toNat ≤ 57) ↔ _
  omega
/-- The letter at the index k is good. -/
def okB (k : Nat) (b : UInt8) : Bool := letB b || (k != 0 && digB b)
theorem okB_iff (k : Nat) (b : UInt8) : okB k b = true ↔ ((b.toNat : Int) = 95 ∨ (97 ≤ (b.toNat : Int) ∧ (b.toNat : Int) ≤ 122) ∨ (65 ≤ (b.toNat : Int) ∧ (b.toNat : Int) ≤ 90)) ∨ ((k : Int) ≠ 0 ∧ 48 ≤ (b.toNat : Int) ∧ (b.toNat : Int) ≤ 57) := by
  unfold okB
  rw [Bool.or_eq_true, Bool.and_eq_true, letB_iff, digB_iff, bne_iff_ne]
  omega
theorem eq95 (n : Int) : ((n == 95) = true ∧ n = 95) ∨ ((n == 95) = false ∧ ¬ n = 95) := by
  by_cases h : n = 95
  · exact .inl ⟨by rw [h]; rfl, h⟩
  · exact .inr ⟨by simp [h], h⟩
theorem nameL_drop (k : Nat) (s : Str) (hk : k < s.length) : nameL k (s.drop k) = (okB k s[k] && nameL (k + 1) (s.drop (k + 1))) := by
  rw [List.drop_eq_getElem_cons hk, nameL]
  rfl

set_option maxRecDepth 100000 in
set_option maxHeartbeats 12800000 in
theorem isName_any (s : Str) (w : World) (hw : SxW w) : Calls Tryd.prog 35 #[.string (bs s)] w fun e w' => e = .returned (.bool (nameOk s)) ∧ Below w.heap.size w w' := by
  obtain ⟨r, hr⟩ : ∃ r, r = nameOk s := ⟨_, rfl⟩
  rw [← hr]
  by_cases h0 : s = []
  · obtain rfl : r = false := by rw [hr, h0]; rfl
    subst h0
    have e0 : (bs []).toList = [] := bs_toList []
    have e1 : (bs []).toList.isEmpty = true := by rw [e0]; rfl
    clear hr hw
    go_enter Tryd.func35, Tryd.ntmps35
    go_wp2
    go_ret
    exact ⟨rfl, Below.refl _ _⟩
  have hpos : 0 < s.length := List.length_pos_iff.2 h0
  have e0 : ¬ (bs s).toList = [] := by rw [bs_toList]; exact h0
  have e1 : (bs s).toList.isEmpty = false := by rw [bs_toList]; cases s with | nil => exact absurd rfl h0 | cons => rfl
  have hsz := bs_size s
  have hpi : (0 : Int) < (s.length : Int) := by omega
  by_cases h24 : 24 < s.length
  · obtain rfl : r = false := by rw [hr]; unfold nameOk; rw [show decide (s.length ≤ 24) = false from decide_eq_false (by omega)]; simp
    have h24i : (24 : Int) < (s.length : Int) := by omega
    clear hr hw h0 hpos
    go_enter Tryd.func35, Tryd.ntmps35
    go_wp2
    go_ret
    exact ⟨rfl, Below.refl _ _⟩
  have h24i : ¬ (24 : Int) < (s.length : Int) := by omega
  have K1 := Lib.hid (keywords_any w hw)
  cases hk : kwords.contains s with
  | true =>
    obtain rfl : r = false := by rw [hr]; unfold nameOk; rw [hk]; simp
    have HKW := Lib.hid hk
    clear hr hw h0 hpos h24 hk
    go_enter Tryd.func35, Tryd.ntmps35
    go_wp2_with fail
    refine K1.out.mono ?_
    rintro e w1 ⟨v, rfl, ho, hb⟩
    have HB := Lib.hid hb
    have K2 := Lib.hid (contains_own ho s rfl (by decide) (by decide))
    rw [HKW.out] at K2
    clear ho hb K1
    go_wp2_with fail
    refine K2.out.mono ?_
    rintro e w2 ⟨rfl, rfl⟩
    go_wp2
    go_ret
    exact ⟨rfl, HB.out⟩
  | false =>
    have HR := Lib.hid (show r = nameL 0 s by rw [hr]; unfold nameOk; rw [hk, show decide (s.length ≤ 24) = true from decide_eq_true (by omega), show decide (1 ≤ s.length) = true from decide_eq_true (by omega)]; simp)
    have HKW := Lib.hid hk
    clear hr hw h0 hpos hk
    go_enter Tryd.func35, Tryd.ntmps35
    go_wp2_with fail
    refine K1.out.mono ?_
    rintro e w1 ⟨v, rfl, ho, hb⟩
    have HB := Lib.hid hb
    have K2 := Lib.hid (contains_own ho s rfl (by decide) (by decide))
    rw [HKW.out] at K2
    clear ho hb K1
    go_wp2_with fail
    refine K2.out.mono ?_
    rintro e w2 ⟨rfl, rfl⟩
    obtain ⟨X, cap, hcv, hcap, hcell⟩ := conv_bytes s w2
    have HC := Lib.hid hcell
    have hsc : (s.length : Int) ≤ (cap : Int) := by omega
    have HBB : ∀ wr, Hid (Below (w2.heap.size + 1) (w2.drew.alloc X) wr) → Hid (Below w.heap.size w wr) := fun wr h => by
      have hs := HB.out.size
      exact Lib.hid ((HB.out.drew.alloc (by exact hs) X).trans (h.out.mono (by omega)))
    clear hcell
    go_wp2
    go_loopw [21] (fun i wr => ∃ k : Nat, k ≤ s.length ∧ i = .int .i64 k ∧ Hid (r = nameL k (s.drop k)) ∧ Hid (Below (w2.heap.size + 1) (w2.drew.alloc X) wr)) (fun i _ => s.length - (intOf i).toNat)
    case atStart => exact ⟨0, by omega, rfl, Lib.hid HR.out, Lib.hid (Below.refl _ _)⟩
    case round =>
      obtain ⟨k, hk, rfl, HE, HB3⟩ := hrel
      by_cases hlt : k < s.length
      · have f0 := HC.out _ HB3.out k hlt
        have hi1 : (k : Int) < (s.length : Int) := by omega
        obtain ⟨x, hx⟩ : ∃ x, x = s[k] := ⟨_, rfl⟩
        rw [← hx] at f0
        have HX := Lib.hid hx
        obtain ⟨n, hn⟩ : ∃ n : Int, n = (x.toNat : Int) := ⟨_, rfl⟩
        rw [← hn] at f0
        have HN := Lib.hid hn
        have hn0 : 0 ≤ n := by omega
        have hn1 : n ≤ 255 := by have := x.toNat_lt; omega
        have HD := Lib.hid (nameL_drop k s hlt)
        have HB4 := Lib.hid (fun k => (show Below (w2.heap.size + 1) (w2.drew.alloc X) (wr.drewN k) from ⟨HB3.out.os, HB3.out.tape, HB3.out.output, HB3.out.size, HB3.out.block⟩))
        have HG := Lib.hid (okB_iff k x)
        have HG1 := Lib.hid (fun (hg : okB k x = true) => show r = nameL (k + 1) (s.drop (k + 1)) by rw [HE.out, HD.out, ← HX.out, hg]; rfl)
        have HG0 := Lib.hid (fun (hg : okB k x = false) => show r = false by rw [HE.out, HD.out, ← HX.out, hg]; rfl)
        clear HE HD HX
        clear hx hn
        have hcap2 : (k : Int) < (cap : Int) := by omega
        rcases Nat.eq_zero_or_pos k with rfl | q0 <;> (first | (replace q0 : ¬ (k : Int) = 0 := by omega) | skip) <;> rcases Classical.em (n < 48) with q1 | q1 <;> rcases Classical.em (57 < n) with q2 | q2 <;> (first | (exfalso; omega) | skip) <;>
          rcases Classical.em (65 ≤ n) with q3 | q3 <;> (first | (exfalso; omega) | skip) <;> rcases Classical.em (n ≤ 90) with q4 | q4 <;> (first | (exfalso; omega) | skip) <;>
          rcases eq95 n with ⟨q5, q5n⟩ | ⟨q5, q5n⟩ <;> (first | (exfalso; omega) | skip) <;> rcases Classical.em (97 ≤ n) with q6 | q6 <;> (first | (exfalso; omega) | skip) <;>
          rcases Classical.em (n ≤ 122) with q7 | q7 <;> (first | (exfalso; omega) | skip)
        all_goals first
          | (have HE2 := Lib.hid (HG1.out (HG.out.2 (by have := HN.out; omega)))
             clear HG1 HG0 HG
             go_wp2
             try (go_quiet (fail); go_wp2)
             go_roundw
             case rel => first | exact ⟨_, by omega, by go_num, HE2, HB3⟩ | exact ⟨_, by omega, by go_num, HE2, Lib.hid (HB4.out _)⟩
             case measure => simp [intOf]; omega)
          | (have HE2 := Lib.hid (HG0.out (by rw [← Bool.not_eq_true, HG.out]; have := HN.out; omega))
             have HB5 := Lib.hid (fun k => HBB _ (Lib.hid (HB4.out k)))
             clear HG1 HG0 HG
             go_wp2
             try (go_quiet (fail); go_wp2)
             go_ret
             first | exact ⟨by rw [HE2.out]; rfl, (HBB _ HB3).out⟩ | exact ⟨by rw [HE2.out]; rfl, (HB5.out _).out⟩)
      · have hge : ¬ (k : Int) < (s.length : Int) := by omega
        obtain rfl : k = s.length := by omega
        have HE2 := Lib.hid (show r = true by rw [HE.out, List.drop_length]; rfl)
        have HB4 := HBB wr HB3
        clear HE
        go_wp2
        go_ret
        exact ⟨by rw [HE2.out]; rfl, HB4.out⟩
end Go.Proofs.YthfjkdgaiaokdaaDoor
