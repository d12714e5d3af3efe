/- The walks of the reference's Now, Is, Close and Open. Conditions: the store's slices lie in blocks that meet S. -/
import Derived.Test.YtpejhgkcofilmaaRa
set_option linter.unusedVariables false
namespace Go.Proofs.Ytpejhgkcofilmaa
open Go.RowKit

set_option maxRecDepth 100000 in
set_option maxHeartbeats 3200000 in
theorem rnow_any {S : Nat → Prop} {d : Rd} {sa sv : Value} (w : World) (hm : d.Mem w S sa sv) (hl : d.st.length ≤ 1000000) :
    Calls Try.prog 67 #[d.val sa sv] w fun e w' => e = .returned (.int .i64 ((d.st.length : Int) - 1)) ∧ Below w.heap.size w w' := by
  have HM := Lib.hid hm
  obtain ⟨⟨A, c, rows, rfl, _⟩, _⟩ := hm
  have hn : (d.st.length : Int) ≤ 1000000 := by omega
  clear hl
  go_enter Try.func67, Try.ntmps67
  go_wp2_with (with_reducible refine at_box_ (t := 80) ?_; refine box_rd rfl _ rfl rfl HM.out ?_)
  intro w1 hp _ hb hz
  have c0 := (rd_all hp).1
  have HB := Lib.hid hb
  clear hp hb hz
  go_wp2
  go_ret
  exact ⟨rfl, HB.out⟩

/-- Is a reader open? -/
def isD (R : Nat → Int) (i : Int) : Bool := decide (1 ≤ i) && decide (i ≤ 8) && decide (0 ≤ R (i - 1).toNat)
theorem isD_lo (R : Nat → Int) {i : Int} (h : i < 1) : isD R i = false := by simp only [isD, decide_eq_false (show ¬ 1 ≤ i by omega), Bool.false_and]
theorem isD_hi (R : Nat → Int) {i : Int} (h : 8 < i) : isD R i = false := by simp only [isD, decide_eq_false (show ¬ i ≤ 8 by omega), Bool.and_false, Bool.false_and]
theorem isD_at (R : Nat → Int) (k : Nat) (hk : k < 8) : isD R ((k : Int) + 1) = decide (0 ≤ R k) := by
  unfold isD
  rw [decide_eq_true (show (1 : Int) ≤ (k : Int) + 1 by omega), decide_eq_true (show (k : Int) + 1 ≤ 8 by omega), show ((k : Int) + 1 - 1).toNat = k by omega]
  rfl

set_option maxRecDepth 100000 in
set_option maxHeartbeats 3200000 in
theorem ris_any {S : Nat → Prop} {d : Rd} {sa sv : Value} (i : Int) (w : World) (hm : d.Mem w S sa sv) :
    Calls Try.prog 68 #[d.val sa sv, .int .i64 i] w fun e w' => e = .returned (.bool (isD d.R i)) ∧ Below w.heap.size w w' := by
  have HM := Lib.hid hm
  clear hm
  by_cases h1 : 1 ≤ i
  · by_cases h2 : i ≤ 8
    · obtain ⟨k, hk⟩ : ∃ k : Nat, i = (k : Int) + 1 := ⟨(i - 1).toNat, by omega⟩
      subst hk
      have hk8 : k < 8 := by omega
      have h8 : (k : Int) < 8 := by omega
      have h0 : (0 : Int) ≤ (k : Int) := by omega
      have hkw : IntKind.i64.wrap ((k : Int) + 1 - 1) = (k : Int) := by simp [IntKind.wrap, IntKind.bits, IntKind.signed]; omega
      rw [isD_at d.R k hk8]
      have HD := Lib.hid fun (k : Nat) (h : k < 8) => h
      go_enter Try.func68, Try.ntmps68
      go_wp2_with (with_reducible refine at_box_ (t := 80) ?_; refine box_rd rfl _ rfl rfl HM.out ?_)
      intro w1 hp _ hb hz
      have c0 := (rd_all hp).2.2 k hk8
      have HB := Lib.hid hb
      clear hp hb hz
      generalize hx : d.R k = x at *
      have HX := Lib.hid hx
      clear hk8 hx
      go_wp2
      go_ret
      exact ⟨by rw [HX.out]; rfl, HB.out⟩
    · have h2' : 8 < i := by omega
      rw [isD_hi d.R h2']
      go_enter Try.func68, Try.ntmps68
      go_wp2_with (with_reducible refine at_box_ (t := 80) ?_; refine box_rd rfl _ rfl rfl HM.out ?_)
      intro w1 hp _ hb hz
      have HB := Lib.hid hb
      clear hp hb hz
      go_wp2
      go_ret
      exact ⟨rfl, HB.out⟩
  · have h1' : i < 1 := by omega
    rw [isD_lo d.R h1']
    go_enter Try.func68, Try.ntmps68
    go_wp2_with (with_reducible refine at_box_ (t := 80) ?_; refine box_rd rfl _ rfl rfl HM.out ?_)
    intro w1 hp _ hb hz
    have HB := Lib.hid hb
    clear hp hb hz
    go_wp2
    go_ret
    exact ⟨rfl, HB.out⟩

def Rd.setR (d : Rd) (k : Nat) (x : Int) : Rd := { d with R := updR d.R k x }
/-- What Open leaves, where r is the first reader that is free. -/
def Rd.openR (d : Rd) (r : Nat) : Rd × Int := if r < 8 then (d.setR r ((d.st.length : Int) - 1), (r : Int) + 1) else (d, 0)
theorem Rd.setR_mem {d : Rd} {w : World} {S : Nat → Prop} {sa sv : Value} (h : d.Mem w S sa sv) (k : Nat) (x : Int) : (d.setR k x).Mem w S sa sv := h

set_option maxRecDepth 100000 in
set_option maxHeartbeats 6400000 in
theorem rclose_any {S : Nat → Prop} {d : Rd} {sa sv : Value} (k : Nat) (hk : k < 8) (w : World) (hm : d.Mem w S sa sv) :
    Calls Try.prog 69 #[d.val sa sv, .int .i64 ((k : Int) + 1)] w fun e w' => ∃ sa' sv', e = .returned ((d.setR k (-1)).val sa' sv') ∧ (d.setR k (-1)).Mem w' S sa' sv' ∧ Below w.heap.size w w' := by
  have HM := Lib.hid (hm.more (S' := SX S w.heap.size (w.heap.size + 1)) fun b hb h => ⟨h, by omega, by omega⟩)
  have h8 : (k : Int) < 8 := by omega
  have h0 : (0 : Int) ≤ (k : Int) := by omega
  have hkw : IntKind.i64.wrap ((k : Int) + 1 - 1) = (k : Int) := by simp [IntKind.wrap, IntKind.bits, IntKind.signed]; omega
  have HK := Lib.hid hk
  clear hm hk
  go_enter Try.func69, Try.ntmps69
  go_wp2_with (with_reducible refine at_box_ (t := 80) ?_; refine box_rd rfl _ rfl rfl HM.out ?_)
  intro w1 hp hm1 hb hz
  have P1 := Lib.hid hp
  have HB1 := Lib.hid hb
  have HZ1 := Lib.hid hz
  clear hp hm1 hb hz
  go_wp2_with (with_reducible refine at_alloc_ (t := 80) ?_; refine alloc_rd (S := fun _ => False) rfl rfl ?_)
  intro w2 hp hb hz
  rw [HZ1.out] at hp hz ⊢
  have R2 := Lib.hid hp
  have P2 := Lib.hid ((hb.block w.heap.size (lt_of_block P1.out)).trans P1.out)
  have HB2 := Lib.hid (HB1.out.trans (hb.mono HB1.out.size))
  clear hp hb hz P1 HB1 HZ1
  have c0 := (rd_all P2.out).2.2 k HK.out
  have hz : ∀ i, w2.frozen? ⟨w.heap.size, i, none⟩ = false := fun i => not_frozen P2.out i
  have E1 := Lib.hid (rd_set P2.out k HK.out (-1))
  have E2 := Lib.hid (HB2.out.setCell (p := ⟨w.heap.size, 2 + k, none⟩) (Nat.le_refl _) (.int .i64 (-1)))
  have E3 := Lib.hid (show Rd.zero.At (w2.setCell ⟨w.heap.size, 2 + k, none⟩ (.int .i64 (-1))) (fun _ => False) (w.heap.size + 1) from by
    obtain ⟨sa0, sv0, h1, h2⟩ := R2.out
    exact ⟨sa0, sv0, (heap_setCell_other _ ⟨w.heap.size, 2 + k, none⟩ _ _ (by simp)).trans h1, h2.keep (by simp [World.setCell]) (fun p _ hp => hp.elim)⟩)
  have E4 := Lib.hid (Rd.setR_mem ((HM.out.below HB2.out).setCell (p := ⟨w.heap.size, 2 + k, none⟩) (fun h => h.2.1 rfl) (.int .i64 (-1))) k (-1))
  clear P2 R2 HB2 HM
  go_wp2_with (first
    | (with_reducible refine at_load_ (t := 80) ?_; refine Hid.out ?_)
    | (with_reducible refine at_store_ (t := 80) ?_; refine Hid.out ?_))
  refine Lib.hid ?_
  generalize w2.setCell ⟨w.heap.size, 2 + k, none⟩ (.int .i64 (-1)) = w3 at *
  refine get_rd (d := d.setR k (-1)) (sa := sa) (sv := sv) rfl (.tmp 2) rfl w.heap.size rfl E1.out ?_
  try simp only [Act.put, List.setIfInBounds_toArray, List.set_cons_zero, List.set_cons_succ]
  go_wp2_with (with_reducible refine at_store_ (t := 80) ?_; refine Hid.out ?_)
  refine Lib.hid ?_
  refine put_rd rfl (.tmp 4) (.tmp 9) rfl rfl (w.heap.size + 1) rfl rfl E3.out E4.out (fun h => h.2.2 rfl) ?_
  intro w4 hp ht
  have HP := Lib.hid hp
  have HB4 := Lib.hid (ht.below E2.out (Nat.le_succ _))
  have E5 := Lib.hid ht
  go_wp2_with fail
  obtain ⟨sa5, sv5, hblk, hmm⟩ := HP.out
  have hl := load_rd _ _ _ _ _ hblk rfl
  refine bodyPost_ret (v := (d.setR k (-1)).val sa5 sv5) ?_ rfl ⟨sa5, sv5, rfl, hmm.more fun b _ h => h.1, HB4.out⟩
  simp [results, Try.results69, asAddr, hl, Rd.val]

set_option maxRecDepth 100000 in
set_option maxHeartbeats 6400000 in
theorem ropen_any {S : Nat → Prop} {d : Rd} {sa sv : Value} (w : World) (hm : d.Mem w S sa sv) (hl : d.st.length ≤ 1000000) (r : Nat) (hr : r ≤ 8) (hlt : ∀ j, j < r → 0 ≤ d.R j) (hat : r < 8 → d.R r < 0) :
    Calls Try.prog 38 #[d.val sa sv] w fun e w' => ∃ sa' sv', e = .returned (.tuple #[(d.openR r).1.val sa' sv', .int .i64 (d.openR r).2]) ∧ (d.openR r).1.Mem w' S sa' sv' ∧ Below w.heap.size w w' := by
  have HM := Lib.hid (hm.more (S' := SX S w.heap.size (w.heap.size + 1)) fun b hb h => ⟨h, by omega, by omega⟩)
  have HLT := Lib.hid hlt
  have HAT := Lib.hid hat
  have HR := Lib.hid hr
  have HLE := Lib.hid hl
  clear hm hlt hat hr hl
  go_enter Try.func38, Try.ntmps38
  go_wp2_with (with_reducible refine at_box_ (t := 80) ?_; refine box_rd rfl _ rfl rfl HM.out ?_)
  intro w1 hp hm1 hb hz
  have P1 := Lib.hid hp
  have HB1 := Lib.hid hb
  have HZ1 := Lib.hid hz
  clear hp hm1 hb hz
  go_wp2_with (with_reducible refine at_alloc_ (t := 80) ?_; refine alloc_rd (S := fun _ => False) rfl rfl ?_)
  intro w2 hp hb hz
  rw [HZ1.out] at hp hz ⊢
  have R2 := Lib.hid hp
  have P2 := Lib.hid ((hb.block w.heap.size (lt_of_block P1.out)).trans P1.out)
  have HB2 := Lib.hid (HB1.out.trans (hb.mono HB1.out.size))
  have HM2 := Lib.hid (HM.out.below HB2.out)
  clear hp hb hz P1 HB1 HZ1 HM
  go_wp2
  go_loopw [4] (fun i wr => ∃ k : Nat, k ≤ r ∧ i = .int .i64 k ∧ wr = w2) (fun i _ => 8 - (intOf i).toNat)
  case atStart => exact ⟨0, by omega, rfl, rfl⟩
  case round =>
    obtain ⟨k, hk, rfl, rfl⟩ := hrel
    by_cases hk8 : k < 8
    · have h8 : (k : Int) < 8 := by omega
      have c0 := (rd_all P2.out).2.2 k hk8
      by_cases hkr : k < r
      · have hx := HLT.out k hkr
        have HK := Lib.hid (And.intro hkr hk8)
        generalize d.R k = x at *
        clear hk8 hkr hk
        go_wp2
        go_roundw
        case rel => exact ⟨k + 1, HK.out.1, by go_num, by first | rfl | trivial⟩
        case measure => exact meas_up _ _ HK.out.2
      · obtain rfl : k = r := by omega
        have hx := HAT.out hk8
        have HK := Lib.hid hk8
        generalize hdr : d.R k = x at *
        clear hkr hk hdr
        go_wp2_with (with_reducible refine at_load_ (t := 80) ?_; refine get_rd (d := d) (sa := sa) (sv := sv) rfl _ rfl w.heap.size rfl P2.out ?_)
        refine (rnow_any wr HM2.out HLE.out).mono ?_
        rintro e w3 ⟨rfl, hb⟩
        have P3 := Lib.hid ((hb.block w.heap.size (lt_of_block P2.out)).trans P2.out)
        have R3 := Lib.hid (R2.out.below hb)
        have HB3 := Lib.hid (HB2.out.trans (hb.mono HB2.out.size))
        have HM3 := Lib.hid (HM2.out.below hb)
        clear hb P2 R2 HB2 HM2 c0
        have c0 := (rd_all P3.out).2.2 k HK.out
        have hz : ∀ i, w3.frozen? ⟨w.heap.size, i, none⟩ = false := fun i => not_frozen P3.out i
        have E1 := Lib.hid (rd_set P3.out k HK.out ((d.st.length : Int) - 1))
        have E2 := Lib.hid (HB3.out.setCell (p := ⟨w.heap.size, 2 + k, none⟩) (Nat.le_refl _) (.int .i64 ((d.st.length : Int) - 1)))
        have E3 := Lib.hid (show Rd.zero.At (w3.setCell ⟨w.heap.size, 2 + k, none⟩ (.int .i64 ((d.st.length : Int) - 1))) (fun _ => False) (w.heap.size + 1) from by
          obtain ⟨sa0, sv0, h1, h2⟩ := R3.out
          exact ⟨sa0, sv0, (heap_setCell_other _ ⟨w.heap.size, 2 + k, none⟩ _ _ (by simp)).trans h1, h2.keep (by simp [World.setCell]) (fun p _ hp => hp.elim)⟩)
        have E4 := Lib.hid (Rd.setR_mem (HM3.out.setCell (p := ⟨w.heap.size, 2 + k, none⟩) (fun h => h.2.1 rfl) (.int .i64 ((d.st.length : Int) - 1))) k ((d.st.length : Int) - 1))
        have hnn : (d.st.length : Int) ≤ 1000000 := by have := HLE.out; omega
        clear P3 R3 HB3 HM3
        generalize hnow : (d.st.length : Int) - 1 = now at *
        have HOP := Lib.hid (show d.openR k = (d.setR k now, (k : Int) + 1) by unfold Rd.openR; rw [if_pos HK.out, hnow])
        clear hnow
        go_wp2_with (first
          | (with_reducible refine at_load_ (t := 80) ?_; refine Hid.out ?_)
          | (with_reducible refine at_store_ (t := 80) ?_; refine Hid.out ?_))
        refine Lib.hid ?_
        generalize w3.setCell ⟨w.heap.size, 2 + k, none⟩ (.int .i64 now) = w4 at *
        refine get_rd (d := d.setR k now) (sa := sa) (sv := sv) rfl (.tmp 1) rfl w.heap.size rfl E1.out ?_
        try simp only [Act.put, List.setIfInBounds_toArray, List.set_cons_zero, List.set_cons_succ]
        go_wp2_with (with_reducible refine at_store_ (t := 80) ?_; refine Hid.out ?_)
        refine Lib.hid ?_
        refine put_rd rfl (.tmp 2) (.tmp 19) rfl rfl (w.heap.size + 1) rfl rfl E3.out E4.out (fun h => h.2.2 rfl) ?_
        intro w5 hp ht
        have HP := Lib.hid hp
        have HB5 := Lib.hid (ht.below E2.out (Nat.le_succ _))
        clear hp ht
        go_wp2_with fail
        obtain ⟨sa5, sv5, hblk, hmm⟩ := HP.out
        have hl := load_rd _ _ _ _ _ hblk rfl
        refine bodyPost_ret (v := .tuple #[(d.setR k now).val sa5 sv5, .int .i64 ((k : Int) + 1)]) ?_ rfl ⟨sa5, sv5, by rw [HOP.out], by rw [HOP.out]; exact hmm.more fun b _ h => h.1, HB5.out⟩
        simp [results, Try.results38, asAddr, hl, Rd.val, Result.andThen]
    · obtain rfl : k = 8 := by have := HR.out; omega
      have hr8 : r = 8 := by have := HR.out; omega
      have HOP := Lib.hid (show d.openR r = (d, 0) by unfold Rd.openR; rw [if_neg (by omega)])
      clear hk8 hk hr8
      go_wp2_with (first
        | (with_reducible refine at_load_ (t := 80) ?_; refine get_rd (d := d) (sa := sa) (sv := sv) rfl _ rfl w.heap.size rfl P2.out ?_)
        | (with_reducible refine at_store_ (t := 80) ?_; refine Hid.out ?_))
      refine Lib.hid ?_
      refine put_rd rfl (.tmp 2) (.tmp 22) rfl rfl (w.heap.size + 1) rfl rfl R2.out HM2.out (fun h => h.2.2 rfl) ?_
      intro w5 hp ht
      have HP := Lib.hid hp
      have HB5 := Lib.hid (ht.below HB2.out (Nat.le_succ _))
      clear hp ht
      go_wp2_with fail
      obtain ⟨sa5, sv5, hblk, hmm⟩ := HP.out
      have hl := load_rd _ _ _ _ _ hblk rfl
      refine bodyPost_ret (v := .tuple #[d.val sa5 sv5, .int .i64 0]) ?_ rfl ⟨sa5, sv5, by rw [HOP.out], by rw [HOP.out]; exact hmm.more fun b _ h => h.1, HB5.out⟩
      simp [results, Try.results38, asAddr, hl, Rd.val, Result.andThen]
end Go.Proofs.Ytpejhgkcofilmaa
