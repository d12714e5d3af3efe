/- The walk of the law LexerLong: true. Condition: the package's tables are laid (LxW). -/
import Derived.Test.YtjknmfnelkhmcaaDoorLxH
import Derived.Laws.IdiomStrings
set_option linter.unusedVariables false
set_option linter.unusedSimpArgs false
namespace Go.Proofs.YtjknmfnelkhmcaaDoor
open Go.RowKit

theorem bs_cat (a b : List UInt8) : bs a ++ bs b = bs (a ++ b) := by
  rw [← bs_eta (bs a ++ bs b)]
  congr 1
section
variable {P : Program} {ops : Array Oper} {rest : List Oper} {a : Act} {w : World} {Q : Exit → Act → World → Prop} {d : Option Tmp} {ty t : TypeId} {pos : String} {x y : Operand}
theorem at_make_ {aft} {g} (h : wpList P ops Q (⟨d, .makeSlice t x y, ty, pos, aft, g⟩ :: rest) a w) : wpList P ops Q (⟨d, .makeSlice t x y, ty, pos, aft, g⟩ :: rest) a w := h
end
theorem Tryd.info5 : (Tryd.prog.info? 5).map (fun i => (i.zero, i.size, i.bytes)) = some (some (.int .u8 0), 1, 1) := by kernel_rfl
/-- The first k cells of the block g, which has N, hold x. -/
def Fill (N : Nat) (w : World) (g : Nat) (x : Int) (k : Nat) : Prop := ∃ cur : Array Value, w.heap[g]? = some (.cells cur 5 (0, 0)) ∧ cur.size = N ∧ ∀ j, j < k → cur[j]? = some (.int .u8 x)
theorem Fill.below {N : Nat} {w w' : World} {g : Nat} {x : Int} {k : Nat} (h : Fill N w g x k) (hb : Below w.heap.size w w') : Fill N w' g x k := by
  obtain ⟨cur, h1, h2⟩ := h
  exact ⟨cur, (hb.block g (lt_of_block h1)).trans h1, h2⟩
theorem Fill.here {N : Nat} {w : World} {g : Nat} {x : Int} {k : Nat} (h : Fill N w g x k) (hk : k < N) : (∃ u, w.cell? ⟨g, k, none⟩ = some u) ∧ (∀ i, w.frozen? ⟨g, i, none⟩ = false) ∧ g < w.heap.size := by
  obtain ⟨cur, h1, h2, h3⟩ := h
  refine ⟨⟨cur[k], ?_⟩, fun i => not_frozen h1 i, lt_of_block h1⟩
  rw [cell_of_row _ _ _ _ _ _ h1, Array.getElem?_eq_getElem (by omega)]
theorem Fill.step {N : Nat} {w : World} {g : Nat} {x : Int} {k : Nat} (h : Fill N w g x k) (hk : k < N) : Fill N (w.setCell ⟨g, k, none⟩ (.int .u8 x)) g x (k + 1) ∧ ∀ w0 : World, w0.heap.size ≤ g → Below w0.heap.size w0 w → Below w0.heap.size w0 (w.setCell ⟨g, k, none⟩ (.int .u8 x)) := by
  obtain ⟨cur, h1, h2, h3⟩ := h
  rw [setCell_eq_setRow w g k _ _ _ (.int .u8 x) h1]
  refine ⟨⟨cur.setIfInBounds k (.int .u8 x), setRow_heap _ _ _ _ _ _ h1, by simp [h2], fun j hj => ?_⟩, fun w0 hg hb => below_setRow hb hg _⟩
  rw [Array.getElem?_setIfInBounds]
  by_cases hjk : k = j
  · subst hjk
    rw [if_pos rfl, if_pos (by omega)]
  · rw [if_neg hjk]
    exact h3 j (by omega)
theorem conv_fill {N : Nat} {w : World} {g : Nat} {xb : UInt8} (h : Fill N w g (xb.toNat : Int) N) : (convert 34 9 (.slice (some ⟨g, 0, none⟩) N N)).run Tryd.prog w = .ok (.string (bs (List.replicate N xb))) w := by
  obtain ⟨cur, h1, h2, h3⟩ := h
  have := run_convert_bytes_back w 34 9 5 ⟨g, 0, none⟩ N (List.replicate N xb) Tryd.underlying34 Tryd.underlying5 Tryd.underlying9 (fun j hj => by
    rw [List.length_replicate] at hj
    rw [show (⟨g, 0, none⟩ : Addr).add j = ⟨g, j, none⟩ by unfold Addr.add; split <;> simp_all, cell_of_row _ _ _ _ _ _ h1, h3 j hj, List.getElem_replicate])
  rw [List.length_replicate] at this
  exact this
theorem blank_rep (N : Nat) (xb : UInt8) (h : wsB xb = true) : blankA false (List.replicate N xb) = N := by
  induction N with
  | zero => rfl
  | succ N ih => rw [List.replicate_succ]; simp only [blankA, h, if_true, ih]
theorem scan_rep (N : Nat) (hN : N ≤ 65536) (xb : UInt8) (h : wsB xb = true) : scanL (List.replicate N xb) = ([⟨0, [], N⟩], 0, 0) := by
  have := scan_blank (l := List.replicate N xb) (by rw [blank_rep N xb h, List.length_replicate]) (by rw [List.length_replicate]; exact hN)
  rw [List.length_replicate] at this
  exact this
theorem scan_more (l : List UInt8) (h : l.length = 65536) (x : UInt8) : scanL (l ++ [x]) = ([], 0, 7) := by
  unfold scanL
  rw [if_pos (by rw [List.length_append, h, List.length_singleton]; omega)]

set_option maxRecDepth 100000 in
set_option maxHeartbeats 12800000 in
theorem long_ok (b : Int) (r : Nat) (xb : UInt8) (w : World) (hw : LxW w) (hr : b.tmod 3 = (r : Int)) (hr3 : r < ({ data := #[32, 10, 9] } : ByteArray).size) (hx : ({ data := #[32, 10, 9] } : ByteArray)[r] = xb) (hs : wsB xb = true) :
    Calls Tryd.prog 7 #[.int .u8 b] w fun e w' => e = .returned (.bool true) ∧ Below w.heap.size w w' := by
  obtain ⟨iu, hiu0, hiu1, hiu2, hiu3⟩ := info_parts Tryd.info5
  have HW := Lib.hid hw
  have HS1 := Lib.hid fun W (h : LxW W) => scan_any (List.replicate 65536 xb) W h (by rw [List.length_replicate]; decide)
  rw [scan_rep 65536 (Nat.le_refl _) xb hs] at HS1
  have HS2 := Lib.hid fun W (h : LxW W) => scan_any (List.replicate 65536 xb ++ [32]) W h (by rw [List.length_append, List.length_replicate]; decide)
  rw [scan_more _ List.length_replicate] at HS2
  have HCV := Lib.hid fun (W : World) (g : Nat) (h : Fill 65536 W g (xb.toNat : Int) 65536) => conv_fill h
  have hcat : bs (List.replicate 65536 xb) ++ (⟨#[32]⟩ : ByteArray) = bs (List.replicate 65536 xb ++ [32]) := bs_cat _ [32]
  have hsl : (bs (List.replicate 65536 xb)).size = 65536 := by rw [bs_size, List.length_replicate]
  have hs1 : (⟨#[32]⟩ : ByteArray).size = 1 := rfl
  generalize List.replicate 65536 xb = l at *
  have hge : (({ data := #[32, 10, 9] } : ByteArray)[r]'hr3).toNat = xb.toNat := by rw [hx]
  have hri : (r : Int) < ((({ data := #[32, 10, 9] } : ByteArray).size : Nat) : Int) := by omega
  have hr3' : (r : Int) < 3 := hri
  clear hw hs hx
  generalize hxn : xb.toNat = xn at *
  clear hxn
  go_enter Tryd.func7, Tryd.ntmps7
  go_wp2_with (with_reducible refine at_make_ (t := 34) ?_; refine wpList_make_full w rfl _ _ 34 rfl w.heap.size 5 iu (.int .u8 0) 1 Tryd.underlying34 hiu0 hiu1 hiu2 .i64 .i64 65536 65536 65536 rfl rfl rfl rfl ?k1 ?k2 ?k3 ?k4)
  case k2 => decide
  case k4 =>
    intro w1 ho hg
    have hb : Below w.heap.size w w1 := Below.grown (Below.refl _ _) hg (Nat.le_refl _) (fun j hj => by cases hj)
    have hf : Fill 65536 w1 w.heap.size (xn : Int) 0 := by
      rcases ho.2 with ⟨h0, _⟩ | ⟨g, cap, cur, hv, h2, h3, h4, h5, h6, h7⟩
      · cases h0
      · injection hv with e1 e2 e3
        injection e1 with e1
        injection e1 with e1 e4 e5
        subst e1 e3
        exact ⟨cur, h3, by omega, fun j hj => absurd hj (by omega)⟩
    have HF := Lib.hid hf
    have HB := Lib.hid hb
    have HQ := Lib.hid (Nat.le_refl w.heap.size)
    generalize hgq : w.heap.size = q at HF ⊢
    have HGQ := Lib.hid hgq
    clear ho hg hb hf hgq hiu0 hiu1 hiu2 hiu3
    go_wp2
    go_loopw [14] (fun i wr => ∃ k : Nat, k ≤ 65536 ∧ i = .int .i64 k ∧ Hid (Fill 65536 wr q (xn : Int) k) ∧ Hid (Below w.heap.size w wr)) (fun i _ => 65536 - (intOf i).toNat)
    case atStart => exact ⟨0, by omega, rfl, HF, HB⟩
    case round =>
      clear HF HB
      obtain ⟨k, hk, rfl, HF, HB⟩ := hrel
      by_cases hlt : k < 65536
      · skip
        have hki : (k : Int) < 65536 := by omega
        have HK := Lib.hid hlt
        obtain ⟨⟨u, hcu⟩, hz, _⟩ := HF.out.here hlt
        obtain ⟨s1, s2⟩ := HF.out.step hlt
        have HS := Lib.hid s1
        have HBs := Lib.hid (s2 w (Nat.le_of_eq HGQ.out) HB.out)
        clear s1 s2 hk hlt HF HB
        go_wp2
        go_roundw
        case rel => exact ⟨k + 1, HK.out, by go_num, HS, HBs⟩
        case measure => exact meas_up _ _ HK.out
      · skip
        obtain rfl : k = 65536 := by omega
        have hki : ¬ ((65536 : Nat) : Int) < 65536 := by omega
        rw [show ((65536 : Nat) : Int) = 65536 from rfl]
        have hcv := HCV.out _ _ HF.out
        have HW1 := Lib.hid (HW.out.below HB.out)
        clear hk hlt
        go_wp2_with fail
        refine (HS1.out _ HW1.out).mono ?_
        rintro e wa ⟨v1, rfl, ho, hb⟩
        obtain ⟨g, c1, rfl, _, _, hc⟩ := toks_at ho (by simp)
        have HC := Lib.hid fun wz (h : Below wa.heap.size wa wz) => (hc wz h 0 (by simp)).2.2
        have HFa := Lib.hid (HF.out.below hb)
        have HBa := Lib.hid (HB.out.trans (hb.mono HB.out.size))
        have HWa := Lib.hid (HW1.out.below hb)
        clear hb ho hc hcv HF HB HW1 HS1
        have hcv := HCV.out _ _ HFa.out
        go_wp2_with fail
        refine (HS2.out _ HWa.out).mono ?_
        rintro e wb ⟨v2, rfl, _, hb⟩
        have HBb := Lib.hid (HBa.out.trans (hb.mono HBa.out.size))
        have HWb := Lib.hid (HWa.out.below hb)
        have HSb := Lib.hid hb
        clear hb hcv HFa HBa HWa HS2 HCV
        go_wp2_with fail
        refine (awake_any wb HWb.out).mono ?_
        rintro e wz ⟨rfl, hb⟩
        have HBz := Lib.hid (HBb.out.trans (hb.mono HBb.out.size))
        have z2 : wz.cell? ⟨g, 2, none⟩ = some (.int .i64 65536) := HC.out wz (HSb.out.trans (hb.mono HSb.out.size))
        clear hb HBb HWb HSb HC
        go_wp2
        go_ret
        exact ⟨by first | rfl | simp, HBz.out⟩
theorem long_any (b : Int) (w : World) (hw : LxW w) (hb : 0 ≤ b ∧ b ≤ 255) :
    Calls Tryd.prog 7 #[.int .u8 b] w fun e w' => e = .returned (.bool true) ∧ Below w.heap.size w w' := by
  have hm : b.tmod 3 = ((b % 3).toNat : Int) := by rw [Int.tmod_eq_emod_of_nonneg hb.1]; omega
  rcases (show (b % 3).toNat = 0 ∨ (b % 3).toNat = 1 ∨ (b % 3).toNat = 2 by omega) with h | h | h
  · rw [h] at hm; exact long_ok b 0 32 w hw hm (by decide) rfl (by decide)
  · rw [h] at hm; exact long_ok b 1 10 w hw hm (by decide) rfl (by decide)
  · rw [h] at hm; exact long_ok b 2 9 w hw hm (by decide) rfl (by decide)
end Go.Proofs.YtjknmfnelkhmcaaDoor
