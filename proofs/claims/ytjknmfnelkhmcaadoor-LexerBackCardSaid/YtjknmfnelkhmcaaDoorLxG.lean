/- The tokens in memory; the walk of law43's awake: true. Condition: the package's tables are laid (LxW). -/
import Derived.Test.YtjknmfnelkhmcaaDoorLxF
set_option linter.unusedVariables false
set_option linter.unusedSimpArgs false
namespace Go.Proofs.YtjknmfnelkhmcaaDoor
open Go.RowKit

theorem flat_tok (ts : List Tok) (j : Nat) (hj : j < ts.length) (i : Nat) (hi : i < 3) : (ts.flatMap tokC)[j * 3 + i]? = (tokC ts[j])[i]? := by
  induction ts generalizing j with
  | nil => cases hj
  | cons a t ih =>
    rw [List.flatMap_cons]
    have hl : (tokC a).length = 3 := rfl
    cases j with
    | zero =>
      rw [Nat.zero_mul, Nat.zero_add, List.getElem?_append_left (by omega)]
      rfl
    | succ j =>
      rw [List.getElem?_append_right (by omega), hl, show (j + 1) * 3 + i - 3 = j * 3 + i by omega]
      exact ih j (by simpa using hj)
/-- A slice of tokens that the call has made: its cells. -/
theorem toks_at {w : World} {base : Nat} {v : Value} {ts : List Tok} (h : w.ownsRow base 33 3 v ts.length (ts.flatMap tokC)) (hne : 0 < ts.length) :
    ∃ g c, v = .slice (some ⟨g, 0, none⟩) ts.length c ∧ g < w.heap.size ∧ base ≤ g ∧ ∀ w', Below w.heap.size w w' → ∀ j (hj : j < ts.length), w'.cell? ⟨g, j * 3, none⟩ = some (.int .i64 ts[j].kind) ∧ w'.cell? ⟨g, j * 3 + 1, none⟩ = some (.string (bs ts[j].text)) ∧ w'.cell? ⟨g, j * 3 + 2, none⟩ = some (.int .i64 ts[j].off) := by
  rcases h.2 with ⟨_, h0⟩ | ⟨g, cap, cur, rfl, hb, hh, hn, hcap, hsz, htake⟩
  · omega
  · have hlt := lt_of_block hh
    refine ⟨g, cap, rfl, hlt, hb, fun w' hB j hj => ?_⟩
    have hc : ∀ i, i < 3 → w'.cell? ⟨g, j * 3 + i, none⟩ = (tokC ts[j])[i]? := by
      intro i hi
      rw [cell_of_row _ _ _ _ _ _ ((hB.block g hlt).trans hh), ← flat_tok ts j hj i hi, ← htake, List.getElem?_take_of_lt (by omega), Array.getElem?_toList]
    exact ⟨hc 0 (by omega), hc 1 (by omega), hc 2 (by omega)⟩
/-- The tables stay. -/
theorem LxW.lt {w : World} (h : LxW w) : 4 < w.heap.size := by
  obtain ⟨ev, h3, _⟩ := h.er
  exact World.block_lt_of_cell? _ _ h3

def srcA : List UInt8 := [111, 112, 32, 97, 40, 120, 49, 41, 32, 123, 32, 120, 49, 32, 61, 32, 48, 55, 59, 32, 125]
def srcB : List UInt8 := [108, 101, 116, 32, 121, 61, 120, 60, 61, 51, 59]
def tokB : List Tok := [⟨4, [108, 101, 116], 0⟩, ⟨1, [121], 4⟩, ⟨3, [61], 5⟩, ⟨1, [120], 6⟩, ⟨3, [60, 61], 7⟩, ⟨2, [51], 9⟩, ⟨3, [59], 10⟩, ⟨0, [], 11⟩]
set_option maxRecDepth 100000 in
theorem scan_a : scanL srcA = ([], 16, 5) := by decide +kernel
set_option maxRecDepth 100000 in
theorem scan_b : scanL srcB = (tokB, 0, 0) := by decide +kernel

set_option maxRecDepth 100000 in
set_option maxHeartbeats 6400000 in
theorem awake_any (w : World) (hw : LxW w) : Calls Tryd.prog 9 #[] w fun e w' => e = .returned (.bool true) ∧ Below w.heap.size w w' := by
  have HW := Lib.hid hw
  have HA := Lib.hid (scan_any srcA w hw (by decide))
  rw [scan_a] at HA
  have HB := Lib.hid fun W (h : LxW W) => scan_any srcB W h (by decide)
  rw [scan_b] at HB
  clear hw
  go_enter Tryd.func9, Tryd.ntmps9
  go_wp2_with fail
  refine HA.out.mono ?_
  rintro e w1 ⟨v, rfl, _, hb⟩
  have HW1 := Lib.hid (HW.out.below hb)
  have HB1 := Lib.hid hb
  clear hb HA HW
  go_wp2_with fail
  refine (HB.out w1 HW1.out).mono ?_
  rintro e w2 ⟨u, rfl, ho, hb⟩
  have HB2 := Lib.hid (HB1.out.trans (hb.mono HB1.out.size))
  obtain ⟨g, c, rfl, _, _, hc⟩ := toks_at ho (by decide)
  obtain ⟨a0, a1, a2⟩ : w2.cell? ⟨g, 0, none⟩ = some (.int .i64 4) ∧ w2.cell? ⟨g, 1, none⟩ = some (.string ⟨#[108, 101, 116]⟩) ∧ w2.cell? ⟨g, 2, none⟩ = some (.int .i64 0) := hc w2 (Below.refl _ _) 0 (by decide)
  obtain ⟨b0, b1, b2⟩ : w2.cell? ⟨g, 12, none⟩ = some (.int .i64 3) ∧ w2.cell? ⟨g, 13, none⟩ = some (.string ⟨#[60, 61]⟩) ∧ w2.cell? ⟨g, 14, none⟩ = some (.int .i64 7) := hc w2 (Below.refl _ _) 4 (by decide)
  have c0 : w2.cell? ⟨g, 21, none⟩ = some (.int .i64 0) := (hc w2 (Below.refl _ _) 7 (by decide)).1
  rw [show tokB.length = 8 from rfl]
  clear hc ho hb HB HB1 HW1
  go_wp2
  go_ret
  exact ⟨by first | rfl | simp, HB2.out⟩
end Go.Proofs.YtjknmfnelkhmcaaDoor
