/- The walk of the reference's sign, and what the reference's Scan keeps (pure). No condition. -/
import Derived.Test.YtjknmfnelkhmcaaDoorLxN
import Derived.BigQuiet
set_option linter.unusedVariables false
set_option linter.unusedSimpArgs false
namespace Go.Proofs.YtjknmfnelkhmcaaDoor
open Go.RowKit

/-- The sign found among the first k. -/
def sgB (k : Nat) (l : List UInt8) : List UInt8 := ((sgs.take k).find? (fun x => x.isPrefixOf l)).getD []
theorem below_drewN' {B : Nat} {w W : World} (h : Below B w W) (n : Nat) : Below B w (W.drewN n) := ⟨h.os, h.tape, h.output, h.size, h.block⟩
theorem sgs_sorted : ∀ k, k < 19 → (0 < (sgs.getD k []).length ∧ (sgs.getD k []).length ≤ 2) ∧ ∀ y ∈ sgs.take k, (sgs.getD k []).length ≤ y.length := by decide
theorem sgB_succ (k : Nat) (hk : k < 19) (l : List UInt8) : sgB (k + 1) l = if (sgs.getD k []).isPrefixOf l = true ∧ (sgB k l).length < (sgs.getD k []).length then sgs.getD k [] else sgB k l := by
  obtain ⟨⟨h0, _⟩, hs⟩ := sgs_sorted k hk
  have hk' : k < sgs.length := hk
  have hg : sgs[k] = sgs.getD k [] := by rw [List.getD_eq_getElem?_getD, List.getElem?_eq_getElem hk']; rfl
  unfold sgB
  rw [List.take_succ_eq_append_getElem hk', List.find?_append, hg]
  generalize sgs.getD k [] = x at *
  cases hf : (sgs.take k).find? (fun x => x.isPrefixOf l) with
  | some y =>
    have := hs y (List.mem_of_find?_eq_some hf)
    rw [if_neg (by rintro ⟨_, h⟩; simp at h; omega)]
    rfl
  | none =>
    rw [Option.none_or]
    by_cases hp : x.isPrefixOf l = true
    · rw [if_pos ⟨hp, by simpa using h0⟩]; simp [hp]
    · rw [if_neg (fun h => hp h.1)]; simp [hp]
theorem sgB_all (l : List UInt8) : sgB 19 l = (sgs.find? (fun x => x.isPrefixOf l)).getD [] := rfl
theorem pre_take {x l : List UInt8} : x.isPrefixOf l = true ↔ x.length ≤ l.length ∧ l.take x.length = x := by
  rw [List.isPrefixOf_iff_prefix]
  constructor
  · intro h; exact ⟨h.length_le, (List.prefix_iff_eq_take.1 h).symm⟩
  · intro h; rw [List.prefix_iff_eq_take]; exact h.2.symm
theorem sgB_len (k : Nat) (l : List UInt8) (hk : k ≤ 19) : (sgB k l).length ≤ 2 := by
  induction k with
  | zero => exact Nat.zero_le _
  | succ k ih =>
    rw [sgB_succ k hk]
    split
    · exact (sgs_sorted k hk).1.2
    · exact ih (by omega)

set_option maxRecDepth 100000 in
set_option maxHeartbeats 3200000 in
theorem rsign_any (l : List UInt8) (w : World) (hl : l.length ≤ 65536) :
    Calls Tryd.prog 23 #[.string (bs l)] w fun e w' => e = .returned (.string (bs (sgB 19 l))) ∧ Below w.heap.size w w' := by
  have hsz := bs_size l
  have hli : (l.length : Int) ≤ 65536 := by omega
  clear hl
  go_enter Tryd.func23, Tryd.ntmps23
  go_wp2_with fail
  refine (rsigns_any w).mono ?_
  rintro e w1 ⟨rfl, hw1⟩
  have HR := Lib.hid (show w1.heap[w.heap.size]? = some (.cells (strRow sgs) 9 (0, 0)) by rw [hw1]; exact heap_alloc_new _ _)
  have HB := Lib.hid (show Below w.heap.size w w1 by rw [hw1]; exact (Below.refl _ _).alloc (Nat.le_refl _) _)
  clear hw1
  go_wp2
  go_loopw [4, 5] (fun b i wr => ∃ k : Nat, k ≤ 19 ∧ i = .int .i64 k ∧ b = .string (bs (sgB k l)) ∧ Hid (wr.heap[w.heap.size]? = some (.cells (strRow sgs) 9 (0, 0))) ∧ Hid (Below w.heap.size w wr)) (fun _ i _ => 19 - (intOf i).toNat)
  case atStart => exact ⟨0, by omega, rfl, rfl, HR, HB⟩
  case round =>
    clear HR HB
    obtain ⟨k, hk, rfl, rfl, HR, HB⟩ := hrel
    by_cases hlt : k < 19
    · skip
      have hki : (k : Int) < 19 := by omega
      have HK := Lib.hid hlt
      have c0 := row_strs HR.out k hlt
      have HR2 := Lib.hid fun nn => (show (wr.drewN nn).heap[w.heap.size]? = some (.cells (strRow sgs) 9 (0, 0)) from HR.out)
      have HB2 := Lib.hid fun nn => below_drewN' HB.out nn
      have hsu := sgB_succ k hlt l
      obtain ⟨⟨hx0, hx2⟩, _⟩ := sgs_sorted k hlt
      have hb2 := sgB_len k l hk
      generalize sgB k l = b1 at *
      generalize sgs.getD k [] = x at *
      have hxl : (bs x).toList = x := bs_toList x
      have hxz : (bs x).size = x.length := bs_size x
      have hbz : (bs b1).size = b1.length := bs_size b1
      have hext : (bs l).extract 0 x.length = bs (l.take x.length) := bs_head l _
      have hx2i : (x.length : Int) ≤ 2 := by omega
      have hb2i : (b1.length : Int) ≤ 2 := by omega
      simp only [pre_take] at hsu
      clear hk hlt HR HB
      by_cases h1 : x.length ≤ l.length
      · have h1i : (x.length : Int) ≤ (l.length : Int) := by omega
        by_cases h2 : l.take x.length = x
        · rw [h2] at hext
          by_cases h3 : b1.length < x.length
          · rw [if_pos ⟨⟨h1, h2⟩, h3⟩] at hsu
            have HSU := Lib.hid hsu
            clear hsu
            have h3i : (b1.length : Int) < (x.length : Int) := by omega
            clear h1 h2
            go_wp2_with fail
            go_quiet (fail)
            go_wp2
            go_roundw
            case rel => exact ⟨k + 1, HK.out, by go_num, by rw [HSU.out], HR2.out _, HB2.out _⟩
            case measure => exact meas_up _ _ HK.out
          · rw [if_neg (fun h => h3 h.2)] at hsu
            have HSU := Lib.hid hsu
            clear hsu
            have h3i : ¬ (b1.length : Int) < (x.length : Int) := by omega
            clear h1 h2
            go_wp2_with fail
            go_quiet (fail)
            go_wp2
            go_roundw
            case rel => exact ⟨k + 1, HK.out, by go_num, by rw [HSU.out], HR2.out _, HB2.out _⟩
            case measure => exact meas_up _ _ HK.out
        · rw [if_neg (fun h => h2 h.1.2)] at hsu
          have HSU := Lib.hid hsu
          clear hsu
          have htl : (bs (l.take x.length)).toList = l.take x.length := bs_toList _
          have h2b : (l.take x.length == x) = false := by simpa using h2
          generalize l.take x.length = y at *
          clear h1 h2
          go_wp2_with fail
          go_quiet (fail)
          go_wp2
          go_roundw
          case rel => exact ⟨k + 1, HK.out, by go_num, by rw [HSU.out], HR2.out _, HB2.out _⟩
          case measure => exact meas_up _ _ HK.out
      · have h1i : ¬ (x.length : Int) ≤ (l.length : Int) := by omega
        rw [if_neg (fun h => h1 h.1.1)] at hsu
        have HSU := Lib.hid hsu
        clear hsu
        go_wp2_with fail
        go_quiet (fail)
        go_wp2
        go_roundw
        case rel => exact ⟨k + 1, HK.out, by go_num, by rw [HSU.out], HR2.out _, HB2.out _⟩
        case measure => exact meas_up _ _ HK.out
    · skip
      obtain rfl : k = 19 := by omega
      have hki : ¬ ((19 : Nat) : Int) < 19 := by omega
      rw [show ((19 : Nat) : Int) = 19 from rfl]
      clear hk hlt HR
      go_wp2
      go_ret
      exact ⟨rfl, HB.out⟩

theorem ws_drop {l : List UInt8} {k : Nat} (hk : k < l.length) (h : wsB l[k] = true) : blankA false (l.drop k) = blankA false (l.drop (k + 1)) + 1 := by
  rw [List.drop_eq_getElem_cons hk]
  simp only [blankA, h, if_true]
theorem hash_drop {l : List UInt8} {k : Nat} (hk : k < l.length) (h : l[k] = 35) : blankA false (l.drop k) = blankA true (l.drop k) := by
  rw [List.drop_eq_getElem_cons hk, h]
  simp [blankA, wsB]
theorem in_drop {l : List UInt8} {k : Nat} (hk : k < l.length) (h : l[k] ≠ 10) : blankA true (l.drop k) = blankA true (l.drop (k + 1)) + 1 := by
  rw [List.drop_eq_getElem_cons hk]
  simp only [blankA, h, if_false]
theorem out_drop {l : List UInt8} {k : Nat} (hk : k < l.length) (h : l[k] = 10) : blankA true (l.drop k) = blankA false (l.drop k) := by
  rw [List.drop_eq_getElem_cons hk, h]
  simp [blankA, wsB]
theorem tok_drop {l : List UInt8} {k : Nat} (hk : k < l.length) (h : wsB l[k] = false) (h35 : l[k] ≠ 35) : blankA false (l.drop k) = 0 := by
  rw [List.drop_eq_getElem_cons hk]
  simp [blankA, h, h35]
theorem word_more {l : List UInt8} {k : Nat} (hk : k < l.length) (h : partN (l[k]).toNat = true) : (word (l.drop k)).length = (word (l.drop (k + 1))).length + 1 := by
  rw [List.drop_eq_getElem_cons hk]
  unfold word
  rw [List.takeWhile_cons, if_pos (by exact h), List.length_cons]
theorem word_none {l : List UInt8} {k : Nat} (hk : k < l.length) (h : partN (l[k]).toNat = false) : word (l.drop k) = [] := by
  rw [List.drop_eq_getElem_cons hk]
  unfold word
  rw [List.takeWhile_cons, if_neg (by show ¬ partN (l[k]).toNat = true; rw [h]; decide)]
theorem word_dig {l : List UInt8} {k : Nat} (hk : k < l.length) (h : partN (l[k]).toNat = true) : headDig (word (l.drop k)) = digN (l[k]).toNat := by
  rw [List.drop_eq_getElem_cons hk]
  unfold word
  rw [List.takeWhile_cons, if_pos (by exact h)]
  rfl
/-- The reference's Scan stands at i with the tokens acc (true: within a comment). -/
def RfI (c : Bool) (l : List UInt8) (i : Nat) (acc : List Tok) : Prop := ScI l (i + blankA c (l.drop i)) acc
theorem rf_start (l : List UInt8) : RfI false l 0 [] := by
  unfold RfI
  rw [List.drop_zero, Nat.zero_add]
  exact sc_start l
theorem rf_ws {l : List UInt8} {i : Nat} {acc : List Tok} (h : RfI false l i acc) (hk : i < l.length) (hw : wsB l[i] = true) : RfI false l (i + 1) acc := by
  unfold RfI at *
  rw [ws_drop hk hw, ← Nat.add_assoc, Nat.add_right_comm] at h
  exact h
theorem rf_hash {l : List UInt8} {i : Nat} {acc : List Tok} (h : RfI false l i acc) (hk : i < l.length) (hw : l[i] = 35) : RfI true l i acc := by
  unfold RfI at *
  rw [hash_drop hk hw] at h
  exact h
theorem rf_in {l : List UInt8} {i : Nat} {acc : List Tok} (h : RfI true l i acc) (hk : i < l.length) (hw : l[i] ≠ 10) : RfI true l (i + 1) acc := by
  unfold RfI at *
  rw [in_drop hk hw, ← Nat.add_assoc, Nat.add_right_comm] at h
  exact h
theorem rf_out {l : List UInt8} {i : Nat} {acc : List Tok} (h : RfI true l i acc) (hk : i < l.length) (hw : l[i] = 10) : RfI false l i acc := by
  unfold RfI at *
  rw [out_drop hk hw] at h
  exact h
theorem rf_over {l : List UInt8} {acc : List Tok} (h : RfI true l l.length acc) : RfI false l l.length acc := by
  unfold RfI at *
  rw [List.drop_length] at *
  exact h
theorem rf_tok {l : List UInt8} {i : Nat} {acc : List Tok} (h : RfI false l i acc) (hk : i < l.length) (hw : wsB l[i] = false) (h35 : l[i] ≠ 35) : ScI l i acc := by
  unfold RfI at h
  rw [tok_drop hk hw h35] at h
  exact h
theorem rf_step {l x : List UInt8} {i : Nat} {acc : List Tok} {kd : Int} (h : ScI l i acc) (hk : i < l.length) (hn : nextT (l.drop i) = (kd, x, 0)) : RfI false l (i + x.length) (acc ++ [⟨kd, x, i⟩]) := by
  have := sc_step h hk (by rw [hn])
  rw [hn] at this
  exact this
theorem rf_err {l x : List UInt8} {i : Nat} {acc : List Tok} {kd e : Int} (h : ScI l i acc) (hk : i < l.length) (hn : nextT (l.drop i) = (kd, x, e)) (he : e ≠ 0) (h6 : l.length ≤ 65536) : scanL l = ([], i, e) := by
  have := sc_err h hk (by rw [hn]; exact he) h6
  rw [hn] at this
  exact this
theorem rf_end {l : List UInt8} {acc : List Tok} (h : RfI false l l.length acc) (h6 : l.length ≤ 65536) : scanL l = (acc ++ [⟨0, [], l.length⟩], 0, 0) := by
  unfold RfI at h
  rw [List.drop_length] at h
  exact sc_end h h6
/-- What follows at a token that begins with a letter or a digit. -/
structure WordI (l : List UInt8) (i : Nat) (acc : List Tok) (W : List UInt8) (d : Bool) : Prop where
  pos : 0 < W.length
  le : i + W.length ≤ l.length
  ext : (bs l).extract i (i + W.length) = bs W
  num : d = true → numE W = 0 → RfI false l (i + W.length) (acc ++ [⟨2, W, i⟩])
  bad : d = true → numE W ≠ 0 → scanL l = ([], i, numE W)
  kw : d = false → kws.contains W = true → RfI false l (i + W.length) (acc ++ [⟨4, W, i⟩])
  name : d = false → kws.contains W = false → W.length ≤ 24 → RfI false l (i + W.length) (acc ++ [⟨1, W, i⟩])
  long : d = false → kws.contains W = false → 24 < W.length → scanL l = ([], i, 16)
theorem rf_word {l : List UInt8} {i : Nat} {acc : List Tok} (h : ScI l i acc) (hk : i < l.length) (h6 : l.length ≤ 65536) (hp : partN (l[i]).toNat = true) : WordI l i acc (word (l.drop i)) (digN (l[i]).toNat) := by
  have h1 := word_more hk hp
  have h2 := word_len (l.drop i)
  rw [List.length_drop] at h2
  have h3 := word_dig hk hp
  have hne : word (l.drop i) ≠ [] := by intro e; rw [e] at h1; simp at h1
  rw [← h3]
  refine ⟨by omega, by omega, ?_, fun hd he => ?_, fun hd he => ?_, fun hd he => ?_, fun hd he hl => ?_, fun hd he hl => ?_⟩
  · rw [bs_extract, Nat.add_sub_cancel_left, word_take]
  · exact rf_step h hk (by unfold nextT; rw [if_pos hd, he])
  · exact rf_err h hk (by unfold nextT; rw [if_pos hd]) he h6
  · exact rf_step h hk (by unfold nextT; rw [if_neg (by rw [hd]; decide), if_pos he])
  · exact rf_step h hk (by unfold nextT; rw [if_neg (by rw [hd]; decide), if_neg (by rw [he]; decide), if_neg (by omega), if_pos hne])
  · exact rf_err h hk (by unfold nextT; rw [if_neg (by rw [hd]; decide), if_neg (by rw [he]; decide), if_pos hl]) (by decide) h6
/-- What follows at a token that begins with another byte. -/
structure SignI (l : List UInt8) (i : Nat) (acc : List Tok) (W : List UInt8) : Prop where
  le : i + W.length ≤ l.length
  two : W.length ≤ 2
  yes : W ≠ [] → RfI false l (i + W.length) (acc ++ [⟨3, W, i⟩])
  no : W = [] → scanL l = ([], i, 5)
theorem rf_sign {l : List UInt8} {i : Nat} {acc : List Tok} (h : ScI l i acc) (hk : i < l.length) (h6 : l.length ≤ 65536) (hp : partN (l[i]).toNat = false) : SignI l i acc (sgB 19 (l.drop i)) := by
  have hw := word_none hk hp
  have h2 := sgB_len 19 (l.drop i) (Nat.le_refl _)
  rw [sgB_all] at *
  have hn : nextT (l.drop i) = match sgs.find? (fun x => x.isPrefixOf (l.drop i)) with
    | some x => (3, x, 0)
    | none => (0, [], 5) := by
    unfold nextT
    rw [hw]
    rfl
  cases hf : sgs.find? (fun x => x.isPrefixOf (l.drop i)) with
  | none =>
    rw [hf] at hn
    exact ⟨by simp; omega, by simp, fun hne => absurd rfl hne, fun _ => rf_err h hk hn (by decide) h6⟩
  | some x =>
    rw [hf] at hn h2
    have hp := List.isPrefixOf_iff_prefix.1 (show x.isPrefixOf (l.drop i) = true from List.find?_some (p := fun y : List UInt8 => y.isPrefixOf (l.drop i)) hf)
    have hle := hp.length_le
    rw [List.length_drop] at hle
    exact ⟨by simp; omega, h2, fun _ => rf_step h hk hn, fun he => absurd he (sgs_ne (List.mem_of_find?_eq_some hf))⟩

end Go.Proofs.YtjknmfnelkhmcaaDoor
