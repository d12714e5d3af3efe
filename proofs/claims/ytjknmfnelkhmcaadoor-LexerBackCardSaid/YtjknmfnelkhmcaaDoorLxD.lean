/- The walk of the lexer's number. Conditions: the text is not empty and holds ASCII bytes alone, at most 65536; the variable strconv.ErrRange holds an interface. -/
import Derived.Test.YtjknmfnelkhmcaaDoorLxC
set_option linter.unusedVariables false
set_option linter.unusedSimpArgs false
namespace Go.Proofs.YtjknmfnelkhmcaaDoor
open Go.RowKit

def stepV (n : Nat) (b : UInt8) : Nat := 10 * n + (b.toNat - 48)
theorem fold_ge (l : List UInt8) : ∀ a, a ≤ l.foldl stepV a := by
  induction l with
  | nil => intro a; exact Nat.le_refl _
  | cons b t ih =>
    intro a
    rw [List.foldl_cons]
    have := ih (stepV a b)
    unfold stepV at *
    omega
theorem parse_m (l : List UInt8) : l.all digB = true → ∀ a, a ≤ 18446744073709551615 → Lib.parseUintM 18446744073709551615 a l = if l.foldl stepV a ≤ 18446744073709551615 then .ok (l.foldl stepV a) else .range := by
  induction l with
  | nil => intro _ a h; rw [List.foldl_nil, if_pos h]; rfl
  | cons b t ih =>
    intro hd a h
    rw [List.all_cons, Bool.and_eq_true] at hd
    have hb : 48 ≤ b.toNat ∧ b.toNat ≤ 57 := by
      have := hd.1
      unfold digB digN at this
      simpa using this
    rw [List.foldl_cons]
    have hge := fold_ge t (stepV a b)
    have e : a * 10 + (b.toNat - 48) = stepV a b := by unfold stepV; omega
    unfold Lib.parseUintM
    rw [if_pos hb, e]
    by_cases h1 : 1844674407370955162 ≤ a
    · rw [if_pos h1, if_neg (by unfold stepV at *; omega)]
    · rw [if_neg h1]
      by_cases h2 : 18446744073709551615 < stepV a b
      · rw [if_pos h2, if_neg (by omega)]
      · rw [if_neg h2, ih hd.2 _ (by omega)]
theorem parse_i (l : List UInt8) (h : l.all digB = true) (hne : l ≠ []) : Lib.parseIntB 64 l = if numV l ≤ 9223372036854775807 then .ok ((numV l : Nat) : Int) else .range := by
  cases l with
  | nil => exact absurd rfl hne
  | cons b t =>
    have hb : 48 ≤ b.toNat ∧ b.toNat ≤ 57 := by
      rw [List.all_cons, Bool.and_eq_true] at h
      have := h.1
      unfold digB digN at this
      simpa using this
    have hp := parse_m (b :: t) h 0 (by omega)
    have hv : (b :: t).foldl stepV 0 = numV (b :: t) := rfl
    rw [hv] at hp
    unfold Lib.parseIntB Lib.parseUintB
    have n1 : ¬ (b.toNat = 43 ∨ b.toNat = 45) := by omega
    have n2 : ¬ b.toNat = 45 := by omega
    simp only [if_neg n1]
    rw [if_neg (by simp), show (2 ^ 64 - 1 : Nat) = 18446744073709551615 by decide, hp]
    by_cases h1 : numV (b :: t) ≤ 18446744073709551615
    · rw [if_pos h1]
      simp only [show (2 ^ (64 - 1) : Nat) = 9223372036854775808 by decide]
      by_cases h2 : numV (b :: t) ≤ 9223372036854775807
      · rw [if_pos h2, if_neg (by omega), if_neg (by omega), if_neg n2]
      · rw [if_neg h2, if_pos ⟨n2, by omega⟩]
    · rw [if_neg h1, if_neg (by omega)]
theorem take_all (l : List UInt8) (k : Nat) (hk : k < l.length) (h : (l.take k).all digB = true) : (digB l[k] = true → (l.take (k + 1)).all digB = true) ∧ (digB l[k] = false → l.all digB = false) := by
  rw [List.take_succ_eq_append_getElem hk]
  refine ⟨fun g => ?_, fun g => ?_⟩
  · rw [List.all_append, h, List.all_cons, g]; rfl
  · cases hq : l.all digB with
    | false => rfl
    | true =>
      rw [List.all_eq_true] at hq
      rw [hq _ (List.getElem_mem hk)] at g
      cases g

theorem head_get {l : List UInt8} (h : 0 < l.length) : l.head? = some l[0] := by
  cases l with
  | nil => cases h
  | cons b t => rfl
theorem iter_or {w w1 w' : World} {b : TypeId} (h : Below w.heap.size w w1) (hw : w' = w1 ∨ ∃ t, w' = Lib.bytesWorld w1 b t) : Below w.heap.size w w' := by
  rcases hw with rfl | ⟨t, rfl⟩
  · exact h
  · exact h.trans ((Lib.bytesWorld_below _ _ _).mono h.size)

set_option maxRecDepth 100000 in
set_option maxHeartbeats 3200000 in
theorem number_any (l : List UInt8) (w : World) (hne : l ≠ []) (hlo : ∀ b ∈ l, b.toNat < 128) (hl : l.length ≤ 65536) (ev : Value) (hv : w.cell? ⟨4, 0, none⟩ = some ev) (hev : ev = .nilIface ∨ ∃ te pe, ev = .iface te pe) :
    Calls Tryd.prog 28 #[.string (bs l)] w fun e w' => e = .returned (.int .i64 (numE l)) ∧ Below w.heap.size w w' := by
  have hsz := bs_size l
  have hli : (l.length : Int) ≤ 65536 := by omega
  have HLO := Lib.hid hlo
  have HV := Lib.hid hv
  have HEV := Lib.hid hev
  have HNE := Lib.hid hne
  have HL := Lib.hid hl
  clear hl hlo hv hev hne
  go_enter Tryd.func28, Tryd.ntmps28
  go_wp2
  go_loopw [4] (fun _ wr => ∃ k : Nat, k ≤ l.length ∧ (l.take k).all digB = true ∧ wr = w.iter (bs l) k) (fun _ wr => l.length - wr.iterPos w.heap.size)
  case atStart => exact ⟨0, by omega, by simp, rfl⟩
  case round =>
    obtain ⟨k, hk, ht, rfl⟩ := hrel
    by_cases hp : k < l.length
    · skip
      have hps : k < (bs l).size := hp
      have HK := Lib.hid hp
      obtain ⟨s1, s2⟩ := take_all l k hp ht
      have hnx : ∀ ty, (Instr.next (.pointer (some ⟨w.heap.size, 0, none⟩)) true ty).run Tryd.prog (w.iter (bs l) k) = .ok (.tuple #[.bool true, .int .i64 k, .int .i32 (l[k]).toNat]) (w.iter (bs l) (k + 1)) := fun ty => run_next_ascii w (bs l) k ty hps (HLO.out _ (List.getElem_mem hp))
      have HD := Lib.hid (digit_any ((l[k]).toNat : Int) (w.iter (bs l) (k + 1)))
      rw [digZ_nat] at HD
      by_cases h2 : digN (l[k]).toNat = true
      · have S1 := Lib.hid (s1 h2)
        rw [h2] at HD
        clear s1 s2 h2 ht
        generalize (l[k]).toNat = c at *
        clear hps hp
        go_wp2_with fail
        refine HD.out.mono ?_
        rintro e w1 ⟨rfl, rfl⟩
        go_wp2
        go_roundw
        case rel => exact ⟨k + 1, HK.out, S1.out, rfl⟩
        case measure => rw [World.iterPos_iter, World.iterPos_iter]; have := HK.out; omega
      · have h2f : digN (l[k]).toNat = false := by simpa using h2
        have S2 := Lib.hid (s2 h2f)
        rw [h2f] at HD
        clear s1 s2 h2 h2f ht
        generalize (l[k]).toNat = c at *
        clear hps hp
        go_wp2_with fail
        refine HD.out.mono ?_
        rintro e w1 ⟨rfl, rfl⟩
        go_wp2
        go_ret
        exact ⟨by unfold numE; rw [S2.out, if_neg (by decide)]; rfl, iter_below _ _ _⟩
    · skip
      have hps : ¬ k < (bs l).size := hp
      have hnx : ∀ ty, (Instr.next (.pointer (some ⟨w.heap.size, 0, none⟩)) true ty).run Tryd.prog (w.iter (bs l) k) = _ := fun ty => run_next_end w (bs l) k ty hps
      obtain rfl : k = l.length := by omega
      rw [List.take_length] at ht
      have HT := Lib.hid ht
      have hpi := parse_i l ht HNE.out
      have HNX := Lib.hid (show ¬ (1 < l.length ∧ l.head? = some 48) → numE l = if numV l ≤ 9223372036854775807 then 0 else 3 from fun h => by unfold numE; rw [if_pos ht, if_neg h])
      have HN5 := Lib.hid (show (1 < l.length ∧ l.head? = some 48) → numE l = 5 from fun h => by unfold numE; rw [if_pos ht, if_pos h])
      have hlen : 0 < l.length := List.length_pos_iff.2 HNE.out
      have h0s : 0 < (bs l).size := hlen
      have hhead : l.head? = some l[0] := head_get hlen
      have hc48 : l[0] = 48 ↔ (l[0]).toNat = 48 := by rw [← UInt8.toNat_inj]; rfl
      have hge : ((bs l)[0]'h0s).toNat = (l[0]).toNat := rfl
      have hbel := iter_below w (bs l) l.length
      have hx4 : (w.iter (bs l) l.length).cell? ⟨4, 0, none⟩ = some ev := (hbel.cell (p := ⟨4, 0, none⟩) (World.block_lt_of_cell? _ _ HV.out)).trans HV.out
      clear hps hp ht hk
      by_cases h1 : 1 < l.length
      · have h1i : (1 : Int) < (l.length : Int) := by omega
        by_cases h2 : (l[0]).toNat = 48
        · have HF := Lib.hid (HN5.out ⟨h1, by rw [hhead, hc48.2 h2]⟩)
          rw [h2] at hge
          clear h1 h2 hhead hc48 hpi HN5 HNX hx4 hbel
          go_wp2
          go_ret
          exact ⟨by rw [HF.out]; rfl, iter_below _ _ _⟩
        · have HF := Lib.hid (HNX.out fun h => h2 (hc48.1 (by have := h.2; rw [hhead] at this; exact Option.some.inj this)))
          have h2i : ¬ ((l[0]).toNat : Int) = 48 := by omega
          clear HN5 HNX hhead hc48 h1 h2
          generalize (l[0]).toNat = c at *
          by_cases hm : numV l ≤ 9223372036854775807
          · rw [if_pos hm] at hpi HF
            clear hm hx4
            go_wp2_with fail
            refine (Tryd.strconv_ParseInt_10_at64_ok (bs l) (by have := HL.out; omega) _ hpi _).mono ?_
            rintro e w1 ⟨rfl, hw⟩
            have HB := Lib.hid (iter_or hbel hw)
            clear hw hbel hpi
            go_wp2
            go_ret
            exact ⟨by rw [HF.out]; rfl, HB.out⟩
          · rw [if_neg hm] at hpi HF
            clear hm
            go_wp2_with fail
            refine (Tryd.strconv_ParseInt_10_at64_range (bs l) (by have := HL.out; omega) hpi ev _ hx4 HEV.out).mono ?_
            rintro e w1 ⟨N, rfl, _, _, hb⟩
            have HB := Lib.hid (hbel.trans (hb.mono hbel.size))
            clear hb hbel hpi hx4
            go_wp2
            go_ret
            exact ⟨by rw [HF.out]; rfl, HB.out⟩
      · have h1i : (l.length : Int) ≤ 1 := by omega
        have HF := Lib.hid (HNX.out fun h => h1 h.1)
        clear HN5 HNX hhead hc48 h1 hge
        by_cases hm : numV l ≤ 9223372036854775807
        · rw [if_pos hm] at hpi HF
          clear hm hx4
          go_wp2_with fail
          refine (Tryd.strconv_ParseInt_10_at64_ok (bs l) (by have := HL.out; omega) _ hpi _).mono ?_
          rintro e w1 ⟨rfl, hw⟩
          have HB := Lib.hid (iter_or hbel hw)
          clear hw hbel hpi
          go_wp2
          go_ret
          exact ⟨by rw [HF.out]; rfl, HB.out⟩
        · rw [if_neg hm] at hpi HF
          clear hm
          go_wp2_with fail
          refine (Tryd.strconv_ParseInt_10_at64_range (bs l) (by have := HL.out; omega) hpi ev _ hx4 HEV.out).mono ?_
          rintro e w1 ⟨N, rfl, _, _, hb⟩
          have HB := Lib.hid (hbel.trans (hb.mono hbel.size))
          clear hb hbel hpi hx4
          go_wp2
          go_ret
          exact ⟨by rw [HF.out]; rfl, HB.out⟩
end Go.Proofs.YtjknmfnelkhmcaaDoor
