/- The walks of law43's same and of the law LexerScans: true. Condition: the package's tables are laid (LxW). -/
import Derived.Test.YtjknmfnelkhmcaaDoorLxP
import Derived.Test.YtjknmfnelkhmcaaDoorLxG
set_option linter.unusedVariables false
set_option linter.unusedSimpArgs false
namespace Go.Proofs.YtjknmfnelkhmcaaDoor
open Go.RowKit

theorem scanG_len : ∀ (f k : Nat) (l : List UInt8) (ts : List Tok), scanG f k l = .ok ts → ts.length ≤ l.length := by
  intro f
  induction f with
  | zero => intro k l ts h; injection h with h; subst h; exact Nat.zero_le _
  | succ f ih =>
    intro k l ts h
    rw [scanG_succ] at h
    split at h
    · injection h with h; subst h; exact Nat.zero_le _
    · split at h
      · cases h
      · next h1 h2 =>
        obtain ⟨h3, h4⟩ := next_text (Decidable.not_not.1 h2)
        have h5 := h3.length_le
        have h6 : 0 < (nextT l).2.1.length := List.length_pos_iff.2 h4
        split at h
        · cases h
        · next us hu =>
          injection h with h
          subst h
          have := ih _ _ _ hu
          simp only [List.length_drop] at this
          rw [List.length_cons]
          omega
theorem scanL_len (l : List UInt8) : (scanL l).1.length ≤ l.length + 1 := by
  unfold scanL
  split
  · exact Nat.zero_le _
  · split
    · exact Nat.zero_le _
    · next ts h =>
      unfold scanR at h
      have := scanG_len _ _ _ _ h
      rw [List.length_drop] at this
      simp
      omega
theorem toks_of {w : World} {base : Nat} {t : TypeId} {v : Value} {ts : List Tok} (h : w.ownsRow base t 3 v ts.length (ts.flatMap tokC)) (hne : 0 < ts.length) :
    ∃ g c, v = .slice (some ⟨g, 0, none⟩) ts.length c ∧ ∀ j (hj : j < ts.length), w.cell? ⟨g, j * 3, none⟩ = some (.int .i64 ts[j].kind) ∧ w.cell? ⟨g, j * 3 + 1, none⟩ = some (.string (bs ts[j].text)) ∧ w.cell? ⟨g, j * 3 + 2, none⟩ = some (.int .i64 ts[j].off) := by
  rcases h.2 with ⟨_, h0⟩ | ⟨g, cap, cur, rfl, hb, hh, hn, hcap, hsz, htake⟩
  · omega
  · refine ⟨g, cap, rfl, fun j hj => ?_⟩
    have hc : ∀ i, i < 3 → w.cell? ⟨g, j * 3 + i, none⟩ = (tokC ts[j])[i]? := by
      intro i hi
      rw [cell_of_row _ _ _ _ _ _ hh, ← flat_tok ts j hj i hi, ← htake, List.getElem?_take_of_lt (by omega), Array.getElem?_toList]
    exact ⟨hc 0 (by omega), hc 1 (by omega), hc 2 (by omega)⟩

set_option maxRecDepth 100000 in
set_option maxHeartbeats 6400000 in
theorem same_any (ts : List Tok) (va vb : Value) (b1 b2 : Nat) (w : World) (h1 : w.ownsRow b1 33 3 va ts.length (ts.flatMap tokC)) (h2 : w.ownsRow b2 45 3 vb ts.length (ts.flatMap tokC)) (hl : ts.length ≤ 9000) :
    Calls Tryd.prog 12 #[va, vb] w fun e w' => e = .returned (.bool true) ∧ Below w.heap.size w w' := by
  have hli : (ts.length : Int) ≤ 9000 := by omega
  by_cases hne : 0 < ts.length
  · obtain ⟨ga, ca, rfl, hca⟩ := toks_of h1 hne
    obtain ⟨gb, cb, rfl, hcb⟩ := toks_of h2 hne
    have HA := Lib.hid hca
    have HB := Lib.hid hcb
    clear h1 h2 hca hcb hl hne
    go_enter Tryd.func12, Tryd.ntmps12
    go_wp2
    go_loopw [13] (fun i wr => ∃ k m : Nat, k ≤ ts.length ∧ i = .int .i64 k ∧ wr = w.drewN m) (fun i _ => ts.length - (intOf i).toNat)
    case atStart => exact ⟨0, 0, by omega, rfl, rfl⟩
    case round =>
      obtain ⟨k, m, hk, rfl, rfl⟩ := hrel
      by_cases hlt : k < ts.length
      · skip
        have hki : (k : Int) < (ts.length : Int) := by omega
        have HK := Lib.hid hlt
        obtain ⟨a0, a1, a2⟩ := HA.out k hlt
        obtain ⟨c0, c1, c2⟩ := HB.out k hlt
        generalize ts[k] = t at *
        obtain ⟨tk, tx, tf⟩ := t
        dsimp only at a0 a1 a2 c0 c1 c2
        clear hk hlt
        go_wp2_with fail
        go_quiet (fail)
        go_wp2
        go_roundw
        case rel => exact ⟨k + 1, _, HK.out, by go_num, by first | rfl | exact World.drewN_drewN .. | simp⟩
        case measure => exact meas_up _ _ HK.out
      · skip
        obtain rfl : k = ts.length := by omega
        clear hk hlt
        go_wp2
        go_ret
        exact ⟨rfl, below_drewN' (Below.refl _ _) _⟩
  · have h0 : ts.length = 0 := by omega
    rw [h0] at h1 h2
    obtain ⟨A, ca, rfl, _, _, _⟩ := own_reads h1 (S := fun _ => True) (fun b hb => trivial)
    obtain ⟨B, cb, rfl, _, _, _⟩ := own_reads h2 (S := fun _ => True) (fun b hb => trivial)
    clear h1 h2 hne hl hli
    go_enter Tryd.func12, Tryd.ntmps12
    go_wp2
    go_loopw [13] (fun i wr => i = .int .i64 0 ∧ wr = w) (fun i _ => 0)
    case atStart => exact ⟨rfl, rfl⟩
    case round =>
      obtain ⟨rfl, rfl⟩ := hrel
      go_wp2
      go_ret
      exact ⟨rfl, Below.refl _ _⟩

set_option maxRecDepth 100000 in
set_option maxHeartbeats 6400000 in
theorem scans_long (l : List UInt8) (w : World) (hw : LxW w) (hmax : l.length ≤ 9223372036854775807) (h2 : 2000 < l.length) :
    Calls Tryd.prog 3 #[.string (bs l)] w fun e w' => e = .returned (.bool true) ∧ Below w.heap.size w w' := by
  have hsz := bs_size l
  have h2i : (2000 : Int) < (l.length : Int) := by omega
  have HW := Lib.hid hw
  have HB0 := Lib.hid (Below.refl w.heap.size w)
  clear hw h2
  go_enter Tryd.func3, Tryd.ntmps3
  go_wp2_with fail
  refine (awake_any w HW.out).mono ?_
  rintro e wz ⟨rfl, hb⟩
  have HBz := Lib.hid (HB0.out.trans (hb.mono HB0.out.size))
  clear hb HB0 HW
  go_wp2
  go_ret
  exact ⟨by first | rfl | simp, HBz.out⟩

set_option maxRecDepth 100000 in
set_option maxHeartbeats 6400000 in
theorem scans_ok (l : List UInt8) (w : World) (hw : LxW w) (hmax : l.length ≤ 9223372036854775807) (h2 : ¬ 2000 < l.length) :
    Calls Tryd.prog 3 #[.string (bs l)] w fun e w' => e = .returned (.bool true) ∧ Below w.heap.size w w' := by
  have hsz := bs_size l
  have h2i : (l.length : Int) ≤ 2000 := by omega
  have HW := Lib.hid hw
  have HSC := Lib.hid (scan_any l w hw hmax)
  have HSR := Lib.hid fun W => rscan_any l W (by omega)
  have HLN := Lib.hid (show (scanL l).1.length ≤ 9000 by have := scanL_len l; omega)
  generalize scanL l = sc at *
  obtain ⟨ts, sk, se⟩ := sc
  dsimp only at HSC HSR HLN
  clear hw h2 hmax
  go_enter Tryd.func3, Tryd.ntmps3
  go_wp2_with fail
  refine HSC.out.mono ?_
  rintro e w1 ⟨va, rfl, ho, hb⟩
  have HB1 := Lib.hid hb
  have HO1 := Lib.hid ho
  have HW1 := Lib.hid (HW.out.below hb)
  clear ho hb HW HSC
  go_wp2_with fail
  refine (HSR.out w1).mono ?_
  rintro e w2 ⟨vb, rfl, ho, hb⟩
  have HB2 := Lib.hid (HB1.out.trans (hb.mono HB1.out.size))
  have HO2 := Lib.hid (own_below HO1.out hb)
  have HP2 := Lib.hid ho
  have HW2 := Lib.hid (HW1.out.below hb)
  clear ho hb HW1 HSR HB1 HO1
  go_wp2_with fail
  refine (awake_any w2 HW2.out).mono ?_
  rintro e w3 ⟨rfl, hb⟩
  have HB3 := Lib.hid (HB2.out.trans (hb.mono HB2.out.size))
  have HO3 := Lib.hid (own_below HO2.out hb)
  have HP3 := Lib.hid (own_below HP2.out hb)
  clear hb HW2 HB2 HO2 HP2
  go_wp2_with fail
  refine (same_any ts va vb _ _ w3 HO3.out HP3.out HLN.out).mono ?_
  rintro e wz ⟨rfl, hb⟩
  have HBz := Lib.hid (HB3.out.trans (hb.mono HB3.out.size))
  clear hb HB3 HO3 HP3
  go_wp2
  go_ret
  exact ⟨by first | rfl | simp, HBz.out⟩
theorem scans_any (l : List UInt8) (w : World) (hw : LxW w) (hmax : l.length ≤ 9223372036854775807) :
    Calls Tryd.prog 3 #[.string (bs l)] w fun e w' => e = .returned (.bool true) ∧ Below w.heap.size w w' := by
  by_cases h2 : 2000 < l.length
  · exact scans_long l w hw hmax h2
  · exact scans_ok l w hw hmax h2
theorem scans_str (s : ByteArray) (w : World) (hw : LxW w) (hmax : s.size ≤ 9223372036854775807) :
    Calls Tryd.prog 3 #[.string s] w fun e w' => e = .returned (.bool true) ∧ Below w.heap.size w w' := by
  have h := scans_any s.data.toList w hw (by rw [← bs_size, bs_eta]; exact hmax)
  rwa [bs_eta] at h
end Go.Proofs.YtjknmfnelkhmcaaDoor
