/- The history of law28's stores; the walk of SnapAts: true. No condition on the law. -/
import Derived.Test.YtpejhgkcofilmaaRk
import Derived.Test.YtpejhgkcofilmaaPure
set_option linter.unusedVariables false
namespace Go.Proofs.Ytpejhgkcofilmaa
open Go.RowKit

/-- The store shows, at every stamp up to now, what the reference's state of that time holds. -/
def Hist (n : Nat) (s : Sn) (d : Rd) : Prop := ∀ k : Nat, k < n → ∀ t : Nat, t < d.st.length → seeV (s.L k) t = (d.st.getD t []).getD k 0 ∧ seeB (s.L k) t = true
theorem aft_all {l : List (Int × Int)} {t : Int} (h : ∀ p ∈ l, p.1 ≤ t) : aft l t = l.length := by
  unfold aft
  induction l with
  | nil => rfl
  | cons a r ih =>
    rw [List.takeWhile_cons, if_pos (by simpa using h a (.head _)), List.length_cons, List.length_cons, ih fun p hp => h p (.tail _ hp)]
theorem see_last {l : List (Int × Int)} {t : Int} (h : ∀ p ∈ l, p.1 ≤ t) (h0 : 0 < l.length) : seeV l t = (lastP l).2 ∧ seeB l t = true := by
  have ha := aft_all h
  unfold seeV seeB lastP
  rw [ha, if_neg (by omega), List.getLast?_eq_getElem?]
  exact ⟨rfl, by simpa using h0⟩
theorem see_first {l : List (Int × Int)} {t : Int} (h : ∀ p ∈ l, t < p.1) : seeV l t = 0 ∧ seeB l t = false := by
  have : aft l t = 0 := by
    unfold aft
    cases l with
    | nil => rfl
    | cons a r => rw [List.takeWhile_cons, if_neg (by have := h a (.head _); simp; omega)]; rfl
  exact ⟨by unfold seeV; rw [if_pos this], by unfold seeB; rw [this]; rfl⟩
theorem hist_zero (n : Nat) : Hist n (Sn.zero n) (Rd.new n) := by
  intro k hk t ht
  have ht : t < 1 := ht
  obtain rfl : t = 0 := by omega
  have hL : (Sn.zero n).L k = [(0, 0)] := by
    show listOf n noG k = _
    unfold listOf
    rw [if_pos (by omega)]
    rfl
  rw [hL]
  have := see_last (l := [((0 : Int), (0 : Int))]) (t := ((0 : Nat) : Int)) (by simp) (by simp)
  rw [this.1, this.2]
  simp [lastP, Rd.new, hk]
section
variable {n : Nat} {s : Sn} {d : Rd} {m : Int} (h : Rel n s d m) (g : Hist n s d)
include h g
theorem Hist.com (hm : m ≤ 900) (l : List Ent) : Hist n (s.com l) (d.com n l) := by
  unfold Sn.com Rd.com
  by_cases hw : s.wrongS l = 0
  · obtain ⟨hk, hh⟩ := (h.ok l).1 hw
    by_cases ha : l.any (fun e => e.wr) = true
    · rw [if_pos ⟨hw, ha⟩, if_pos ⟨hk, hh⟩]
      unfold Rd.commitD
      rw [if_pos ha]
      intro k hk t ht
      have ht : t < (d.st ++ [nextL d n l]).length := ht
      have hst := h.hst
      show _ = ((d.st ++ [nextL d n l]).getD t []).getD k 0 ∧ _
      rw [List.length_append, List.length_singleton] at ht
      by_cases htl : t < d.st.length
      · have e : (d.st ++ [nextL d n l]).getD t [] = d.st.getD t [] := by
          rw [List.getD_eq_getElem?_getD, List.getD_eq_getElem?_getD, List.getElem?_append_left htl]
        rw [e, ← (g k hk t htl).1, ← (g k hk t htl).2]
        rcases com_L s l k with ⟨e, _⟩ | ⟨v, _, e⟩
        · rw [e]; exact ⟨rfl, rfl⟩
        · have hadd : addL (s.L k) (s.n + 1) v = s.L k ++ [(s.n + 1, v)] := by unfold addL; rw [if_pos (h.add hm k)]
          rw [e, ← hadd]
          exact see_add (s.L k) (h.hA k) (s.n + 1) v t (.inr (by omega))
      · obtain rfl : t = d.st.length := by omega
        have e : (d.st ++ [nextL d n l]).getD d.st.length [] = nextL d n l := by
          rw [List.getD_eq_getElem?_getD, List.getElem?_append_right (Nat.le_refl _)]
          simp
        have e2 : (nextL d n l).getD k 0 = (wrOf l k).getD (d.nowAt k) := by
          unfold nextL
          rw [List.getD_eq_getElem?_getD, List.getElem?_map, List.getElem?_range hk]
          rfl
        rw [e, e2]
        rcases com_L s l k with ⟨e, ew⟩ | ⟨v, ew, e⟩
        · rw [e, ew]
          have := see_last (l := s.L k) (t := ((d.st.length : Nat) : Int)) (fun p hp => by have := (h.hst2 k p hp).2; omega) (h.hne k hk)
          rw [this.1, this.2]
          exact ⟨h.last k hk, rfl⟩
        · rw [e, ew]
          have := see_last (l := s.L k ++ [(s.n + 1, v)]) (t := ((d.st.length : Nat) : Int)) (fun p hp => by
            rcases List.mem_append.1 hp with hp | hp
            · have := (h.hst2 k p hp).2; omega
            · rw [List.mem_singleton.1 hp]; show s.n + 1 ≤ _; omega) (by simp)
          rw [this.1, this.2]
          simp [lastP]
    · rw [if_neg (fun x => ha x.2), if_pos ⟨hk, hh⟩]
      unfold Rd.commitD
      rw [if_neg ha]
      exact g
  · rw [if_neg (fun x => hw x.1), if_neg (fun x => hw ((h.ok l).2 x))]
    exact g
theorem Hist.doF (hm : m ≤ 900) (a : SA) : Hist n (doS n s d a) (doD n s d a) := by
  unfold doS doD
  split
  · have e1 : s.openS.L = s.L := by unfold Sn.openS; split <;> rfl
    have e2 : (d.openR s.free).1.st = d.st := by unfold Rd.openR; split <;> rfl
    unfold Hist
    rw [e1, e2]
    exact g
  · split
    · have e1 : (s.closeS a.num).L = s.L := by unfold Sn.closeS; split <;> rfl
      have e2 : (d.closeD a.num).st = d.st := by unfold Rd.closeD; split <;> rfl
      unfold Hist
      rw [e1, e2]
      exact g
    · exact Hist.com h g hm _
end
theorem play_hist (n : Nat) (l : List SA) (h60 : l.length ≤ 900) (k : Nat) (hk : k ≤ l.length) : Hist n (playF n (l.take k)).1 (playF n (l.take k)).2 := by
  induction k with
  | zero => exact hist_zero n
  | succ k ih =>
    rw [playF_step n l k (by omega)]
    exact Hist.doF (play_rel n l h60 k (by omega)) (ih (by omega)) (by omega) l[k]
theorem play_end (n : Nat) (l : List SA) (h60 : l.length ≤ 900) : Rel n (playF n l).1 (playF n l).2 l.length ∧ Hist n (playF n l).1 (playF n l).2 := by
  have h1 := play_rel n l h60 l.length (Nat.le_refl _)
  have h2 := play_hist n l h60 l.length (Nat.le_refl _)
  rw [List.take_length] at h1 h2
  exact ⟨h1, h2⟩
/-- A row of the reference's states. -/
theorem Rd.row_at {d : Rd} {w : World} {S : Nat → Prop} {sa sv : Value} (h : d.Mem w S sa sv) (i : Nat) (hi : i < d.st.length) :
    ∃ b o c A1 c1, sa = .slice (some ⟨b, o, none⟩) d.st.length c ∧ b < w.heap.size ∧ w.cell? ⟨b, o + i, none⟩ = some (.slice A1 (d.st.getD i []).length c1) ∧ Reads w S 1 A1 (d.st.getD i []).length ((d.st.getD i []).map (.int .i64 ·)) := by
  obtain ⟨⟨A, c, rows, rfl, h1, h2, h3, h4⟩, _⟩ := h
  obtain ⟨b, o, rfl, hb, hS, hc⟩ := h3.2 (by omega)
  obtain ⟨v, hv, A1, c1, rfl, g1, g2, g3⟩ := h4 i hi
  have e : d.st.getD i [] = d.st[i] := by rw [List.getD_eq_getElem?_getD, List.getElem?_eq_getElem hi]; rfl
  rw [e]
  exact ⟨b, o, c, A1, c1, rfl, hb, hc _ _ hv, g3⟩
theorem Rel.at_no {n : Nat} {s : Sn} {d : Rd} {m : Int} (h : Rel n s d m) {t i : Int} (hb : t < 0 ∨ s.n < t ∨ i < 0 ∨ (n : Int) ≤ i) : s.atV t i = 0 ∧ s.atB t i = false := by
  unfold Sn.atV Sn.atB
  by_cases hc : ((decide (0 ≤ i) && decide (i < s.c)) && decide (t ≤ s.n)) = true
  · rw [if_pos hc, hc, Bool.true_and]
    have h1 : t < 0 := by
      have := h.hc
      simp at hc
      omega
    have := see_first (l := s.L i) (t := t) (fun p hp => by have := (h.hst2 i p hp).1; omega)
    exact this
  · rw [if_neg hc]
    simp only [Bool.not_eq_true] at hc
    exact ⟨rfl, by rw [hc]; rfl⟩
theorem Rel.at_yes {n : Nat} {s : Sn} {d : Rd} {m : Int} (h : Rel n s d m) (g : Hist n s d) {t i : Nat} (ht : (t : Int) ≤ s.n) (hi : i < n) : s.atV t i = (d.st.getD t []).getD i 0 ∧ s.atB t i = true := by
  have h1 := h.hc
  have h2 := h.hst
  unfold Sn.atV Sn.atB
  rw [decide_eq_true (show (0 : Int) ≤ (i : Int) by omega), decide_eq_true (show (i : Int) < s.c by omega), decide_eq_true ht]
  obtain ⟨e1, e2⟩ := g i hi t (by omega)
  exact ⟨by simpa using e1, by simpa using e2⟩

set_option maxRecDepth 100000 in
set_option maxHeartbeats 6400000 in
theorem ats_great (A : Option Addr) (n c : Nat) (l : List SA) (t i : Int) (w : World) (hl : SAs w (fun _ => True) A n l) (hlen : l.length ≤ 9223372036854775807) (hf : fewB l = false) :
    Calls Try.prog 10 #[.slice A n c, .int .i64 t, .int .i64 i] w fun e w' => e = .returned (.bool true) ∧ Below w.heap.size w w' := by
  have FW := Lib.hid (few28_any A n c l w hl hlen)
  rw [hf] at FW
  clear hl hlen hf
  go_enter Try.func10, Try.ntmps10
  go_wp2_with fail
  refine FW.out.mono ?_
  rintro e w1 ⟨rfl, hb⟩
  have HB1 := Lib.hid hb
  clear hb FW
  go_wp2_with fail
  refine (awake_snap w1).mono ?_
  rintro e w2 ⟨rfl, hb⟩
  have HB := Lib.hid (HB1.out.trans (hb.mono HB1.out.size))
  clear hb HB1
  go_wp2
  go_ret
  exact ⟨rfl, HB.out⟩

set_option maxRecDepth 100000 in
set_option maxHeartbeats 6400000 in
theorem ats_neg (A : Option Addr) (n c : Nat) (l : List SA) (t i : Int) (w : World) (hl : SAs w (fun _ => True) A n l) (hlen : l.length ≤ 9223372036854775807) (hf : fewB l = true) (h0 : t < 0) :
    Calls Try.prog 10 #[.slice A n c, .int .i64 t, .int .i64 i] w fun e w' => e = .returned (.bool true) ∧ Below w.heap.size w w' := by
  have FW := Lib.hid (few28_any A n c l w hl hlen)
  rw [hf] at FW
  obtain ⟨h60, h8⟩ := few_yes hl hf
  obtain ⟨hrel0, hhist0⟩ := play_end 4 l (by omega)
  have PL := Lib.hid fun (w1 : World) (hb : Below w.heap.size w w1) => played_any (S := fun _ => True) 4 A n c l w1 (fun _ _ => trivial) (by omega) (by omega) (hl.below hb) h60 h8
  have HL9 := Lib.hid (show (l.length : Int) ≤ 900 by omega)
  generalize playF 4 l = z at *
  obtain ⟨s, d⟩ := z
  dsimp only at hrel0 hhist0 PL
  have HREL := Lib.hid hrel0
  have HH := Lib.hid hhist0
  have HAV := Lib.hid (hrel0.at_no (t := t) (i := i) (.inl h0)).1
  have HAB := Lib.hid (hrel0.at_no (t := t) (i := i) (.inl h0)).2
  have hd0 : decide (t < 0) = true := decide_eq_true h0
  clear hl hlen hf h60 h8 hrel0 hhist0
  go_enter Try.func10, Try.ntmps10
  go_wp2_with fail
  refine FW.out.mono ?_
  rintro e w1 ⟨rfl, hb⟩
  have HB1 := Lib.hid hb
  clear hb FW
  go_wp2_with fail
  refine (PL.out w1 HB1.out).mono ?_
  rintro e w2 ⟨b1, b2, sa, sv, rfl, hm, hd, hb⟩
  have HB2 := Lib.hid (HB1.out.trans (hb.mono HB1.out.size))
  have HM2 := Lib.hid (hm.more (S' := fun b => b ≠ w2.heap.size ∧ b ≠ w2.heap.size + 1) fun b hb _ => ⟨by omega, by omega⟩)
  have HD2 := Lib.hid (hd.more (S' := fun b => b ≠ w2.heap.size ∧ b ≠ w2.heap.size + 1) fun b hb _ => ⟨by omega, by omega⟩)
  clear hb hm hd HB1 PL
  go_wp2_with (with_reducible refine at_alloc_ (t := 57) ?_; refine alloc_at (S := fun _ => False) rfl rfl ?_)
  intro w3 hp hb hz
  have X7 := Lib.hid hp
  have HB3 := Lib.hid (HB2.out.trans (hb.mono HB2.out.size))
  have HM3 := Lib.hid (HM2.out.below hb)
  have HD3 := Lib.hid (HD2.out.below hb)
  have HZ := Lib.hid hz
  have HQ := Lib.hid HB2.out.size
  clear hp hb hz HB2 HM2 HD2
  go_wp2_with (with_reducible refine at_alloc_ (t := 80) ?_; refine alloc_rd (S := fun _ => False) rfl rfl ?_)
  intro w4 hp hb hz
  rw [HZ.out] at hp
  rw [HZ.out]
  have X8 := Lib.hid hp
  have X7b := Lib.hid (X7.out.below hb)
  have HB4 := Lib.hid (HB3.out.trans (hb.mono HB3.out.size))
  have HM4 := Lib.hid (HM3.out.below hb)
  have HD4 := Lib.hid (HD3.out.below hb)
  clear hp hb hz HZ X7 HB3 HM3 HD3
  generalize w2.heap.size = q at *
  go_wp2_with (with_reducible refine at_store_ (t := 57) ?_; refine Hid.out ?_)
  refine Lib.hid ?_
  refine put_at rfl (.tmp 7) (.tmp 19) rfl rfl q rfl rfl X7b.out HM4.out (fun h => h.1 rfl) ?_
  intro w5 hp ht
  have Y7 := Lib.hid hp
  have X8b := Lib.hid (ht.rat X8.out (by omega) (fun h => h))
  have HD5 := Lib.hid (ht.mem HD4.out (fun h => h.1 rfl))
  have HB5 := Lib.hid (ht.below HB4.out HQ.out)
  clear hp ht X7b HM4 X8 HD4 HB4
  go_wp2_with (with_reducible refine at_store_ (t := 80) ?_; refine Hid.out ?_)
  refine Lib.hid ?_
  refine put_rd rfl (.tmp 8) (.tmp 20) rfl rfl (q + 1) rfl rfl X8b.out HD5.out (fun h => h.2 rfl) ?_
  intro w6 hp ht
  have Y8 := Lib.hid hp
  have Y7b := Lib.hid (ht.at Y7.out (by omega) (fun h => h.2 rfl))
  have HB6 := Lib.hid (ht.below HB5.out (by have := HQ.out; omega))
  clear hp ht X8b HD5 HB5 Y7
  go_wp2_with (with_reducible refine at_load_ (t := 57) ?_; refine get_at rfl _ rfl q rfl Y7b.out ?_)
  intro k1 k2 hm1
  have HM1 := Lib.hid (hm1.more (S' := fun _ => True) fun _ _ _ => trivial)
  clear hm1
  try simp only [Act.put, List.setIfInBounds_toArray, List.set_cons_zero, List.set_cons_succ]
  go_wp2_with fail
  refine (st_at (s := s) (b1 := k1) (b2 := k2) t i (fun _ _ => trivial) HM1.out (HREL.out.hA _) (HREL.out.few HL9.out _)).mono ?_
  rintro e w7 ⟨rfl, hb⟩
  have Z7 := Lib.hid (Y7b.out.below hb)
  have Z8 := Lib.hid (Y8.out.below hb)
  have HB7 := Lib.hid (HB6.out.trans (hb.mono HB6.out.size))
  clear hb HM1 Y7b Y8 HB6
  rw [HAV.out, HAB.out]
  have HBC := Lib.hid HB7.out
  clear HB7 Z7 Z8
  go_wp2_with fail
  refine (awake_snap w7).mono ?_
  rintro e w9 ⟨rfl, hb⟩
  have HB9 := Lib.hid (HBC.out.trans (hb.mono HBC.out.size))
  clear hb HBC
  go_wp2
  go_ret
  exact ⟨rfl, HB9.out⟩

set_option maxRecDepth 100000 in
set_option maxHeartbeats 6400000 in
theorem ats_far (A : Option Addr) (n c : Nat) (l : List SA) (t i : Int) (w : World) (hl : SAs w (fun _ => True) A n l) (hlen : l.length ≤ 9223372036854775807) (hf : fewB l = true) (h0 : 0 ≤ t) (h1 : (playF 4 l).1.n < t) :
    Calls Try.prog 10 #[.slice A n c, .int .i64 t, .int .i64 i] w fun e w' => e = .returned (.bool true) ∧ Below w.heap.size w w' := by
  have FW := Lib.hid (few28_any A n c l w hl hlen)
  rw [hf] at FW
  obtain ⟨h60, h8⟩ := few_yes hl hf
  obtain ⟨hrel0, hhist0⟩ := play_end 4 l (by omega)
  have PL := Lib.hid fun (w1 : World) (hb : Below w.heap.size w w1) => played_any (S := fun _ => True) 4 A n c l w1 (fun _ _ => trivial) (by omega) (by omega) (hl.below hb) h60 h8
  have HL9 := Lib.hid (show (l.length : Int) ≤ 900 by omega)
  generalize playF 4 l = z at *
  obtain ⟨s, d⟩ := z
  dsimp only at hrel0 hhist0 PL h1
  have HREL := Lib.hid hrel0
  have HH := Lib.hid hhist0
  have HAV := Lib.hid (hrel0.at_no (t := t) (i := i) (.inr (.inl h1))).1
  have HAB := Lib.hid (hrel0.at_no (t := t) (i := i) (.inr (.inl h1))).2
  have hd0 : decide (t < 0) = false := decide_eq_false (by omega)
  have hd1 : decide (s.n < t) = true := decide_eq_true h1
  clear hl hlen hf h60 h8 hrel0 hhist0
  go_enter Try.func10, Try.ntmps10
  go_wp2_with fail
  refine FW.out.mono ?_
  rintro e w1 ⟨rfl, hb⟩
  have HB1 := Lib.hid hb
  clear hb FW
  go_wp2_with fail
  refine (PL.out w1 HB1.out).mono ?_
  rintro e w2 ⟨b1, b2, sa, sv, rfl, hm, hd, hb⟩
  have HB2 := Lib.hid (HB1.out.trans (hb.mono HB1.out.size))
  have HM2 := Lib.hid (hm.more (S' := fun b => b ≠ w2.heap.size ∧ b ≠ w2.heap.size + 1) fun b hb _ => ⟨by omega, by omega⟩)
  have HD2 := Lib.hid (hd.more (S' := fun b => b ≠ w2.heap.size ∧ b ≠ w2.heap.size + 1) fun b hb _ => ⟨by omega, by omega⟩)
  clear hb hm hd HB1 PL
  go_wp2_with (with_reducible refine at_alloc_ (t := 57) ?_; refine alloc_at (S := fun _ => False) rfl rfl ?_)
  intro w3 hp hb hz
  have X7 := Lib.hid hp
  have HB3 := Lib.hid (HB2.out.trans (hb.mono HB2.out.size))
  have HM3 := Lib.hid (HM2.out.below hb)
  have HD3 := Lib.hid (HD2.out.below hb)
  have HZ := Lib.hid hz
  have HQ := Lib.hid HB2.out.size
  clear hp hb hz HB2 HM2 HD2
  go_wp2_with (with_reducible refine at_alloc_ (t := 80) ?_; refine alloc_rd (S := fun _ => False) rfl rfl ?_)
  intro w4 hp hb hz
  rw [HZ.out] at hp
  rw [HZ.out]
  have X8 := Lib.hid hp
  have X7b := Lib.hid (X7.out.below hb)
  have HB4 := Lib.hid (HB3.out.trans (hb.mono HB3.out.size))
  have HM4 := Lib.hid (HM3.out.below hb)
  have HD4 := Lib.hid (HD3.out.below hb)
  clear hp hb hz HZ X7 HB3 HM3 HD3
  generalize w2.heap.size = q at *
  go_wp2_with (with_reducible refine at_store_ (t := 57) ?_; refine Hid.out ?_)
  refine Lib.hid ?_
  refine put_at rfl (.tmp 7) (.tmp 19) rfl rfl q rfl rfl X7b.out HM4.out (fun h => h.1 rfl) ?_
  intro w5 hp ht
  have Y7 := Lib.hid hp
  have X8b := Lib.hid (ht.rat X8.out (by omega) (fun h => h))
  have HD5 := Lib.hid (ht.mem HD4.out (fun h => h.1 rfl))
  have HB5 := Lib.hid (ht.below HB4.out HQ.out)
  clear hp ht X7b HM4 X8 HD4 HB4
  go_wp2_with (with_reducible refine at_store_ (t := 80) ?_; refine Hid.out ?_)
  refine Lib.hid ?_
  refine put_rd rfl (.tmp 8) (.tmp 20) rfl rfl (q + 1) rfl rfl X8b.out HD5.out (fun h => h.2 rfl) ?_
  intro w6 hp ht
  have Y8 := Lib.hid hp
  have Y7b := Lib.hid (ht.at Y7.out (by omega) (fun h => h.2 rfl))
  have HB6 := Lib.hid (ht.below HB5.out (by have := HQ.out; omega))
  clear hp ht X8b HD5 HB5 Y7
  go_wp2_with (with_reducible refine at_load_ (t := 57) ?_; refine get_at rfl _ rfl q rfl Y7b.out ?_)
  intro k1 k2 hm1
  have HM1 := Lib.hid (hm1.more (S' := fun _ => True) fun _ _ _ => trivial)
  clear hm1
  try simp only [Act.put, List.setIfInBounds_toArray, List.set_cons_zero, List.set_cons_succ]
  go_wp2_with fail
  refine (st_at (s := s) (b1 := k1) (b2 := k2) t i (fun _ _ => trivial) HM1.out (HREL.out.hA _) (HREL.out.few HL9.out _)).mono ?_
  rintro e w7 ⟨rfl, hb⟩
  have Z7 := Lib.hid (Y7b.out.below hb)
  have Z8 := Lib.hid (Y8.out.below hb)
  have HB7 := Lib.hid (HB6.out.trans (hb.mono HB6.out.size))
  clear hb HM1 Y7b Y8 HB6
  rw [HAV.out, HAB.out]
  go_wp2_with (with_reducible refine at_load_ (t := 57) ?_; refine Hid.out ?_)
  refine Lib.hid ?_
  refine get_at_g (by kernel_rfl) (.tmp 7) rfl q rfl Z7.out ?_
  intro k3 k4 hm3
  clear hm3
  try simp only [Act.put, List.setIfInBounds_toArray, List.set_cons_zero, List.set_cons_succ]
  go_wp2_with fail
  refine (st_now (s := s) (b1 := k3) (b2 := k4) w7).mono ?_
  rintro e w8 ⟨rfl, hb⟩
  have HBC := Lib.hid (HB7.out.trans (hb.mono HB7.out.size))
  have Z8b := Lib.hid (Z8.out.below hb)
  clear hb HB7 Z7 Z8

  go_wp2_with fail
  refine (awake_snap w8).mono ?_
  rintro e w9 ⟨rfl, hb⟩
  have HB9 := Lib.hid (HBC.out.trans (hb.mono HBC.out.size))
  clear hb HBC
  go_wp2
  go_ret
  exact ⟨rfl, HB9.out⟩

set_option maxRecDepth 100000 in
set_option maxHeartbeats 6400000 in
theorem ats_low (A : Option Addr) (n c : Nat) (l : List SA) (t i : Int) (w : World) (hl : SAs w (fun _ => True) A n l) (hlen : l.length ≤ 9223372036854775807) (hf : fewB l = true) (h0 : 0 ≤ t) (h1 : t ≤ (playF 4 l).1.n) (h2 : i < 0) :
    Calls Try.prog 10 #[.slice A n c, .int .i64 t, .int .i64 i] w fun e w' => e = .returned (.bool true) ∧ Below w.heap.size w w' := by
  have FW := Lib.hid (few28_any A n c l w hl hlen)
  rw [hf] at FW
  obtain ⟨h60, h8⟩ := few_yes hl hf
  obtain ⟨hrel0, hhist0⟩ := play_end 4 l (by omega)
  have PL := Lib.hid fun (w1 : World) (hb : Below w.heap.size w w1) => played_any (S := fun _ => True) 4 A n c l w1 (fun _ _ => trivial) (by omega) (by omega) (hl.below hb) h60 h8
  have HL9 := Lib.hid (show (l.length : Int) ≤ 900 by omega)
  generalize playF 4 l = z at *
  obtain ⟨s, d⟩ := z
  dsimp only at hrel0 hhist0 PL h1
  have HREL := Lib.hid hrel0
  have HH := Lib.hid hhist0
  have HAV := Lib.hid (hrel0.at_no (t := t) (i := i) (.inr (.inr (.inl h2)))).1
  have HAB := Lib.hid (hrel0.at_no (t := t) (i := i) (.inr (.inr (.inl h2)))).2
  have hd0 : decide (t < 0) = false := decide_eq_false (by omega)
  have hd1 : decide (s.n < t) = false := decide_eq_false (by omega)
  have hd2 : decide (i < 0) = true := decide_eq_true h2
  clear hl hlen hf h60 h8 hrel0 hhist0
  go_enter Try.func10, Try.ntmps10
  go_wp2_with fail
  refine FW.out.mono ?_
  rintro e w1 ⟨rfl, hb⟩
  have HB1 := Lib.hid hb
  clear hb FW
  go_wp2_with fail
  refine (PL.out w1 HB1.out).mono ?_
  rintro e w2 ⟨b1, b2, sa, sv, rfl, hm, hd, hb⟩
  have HB2 := Lib.hid (HB1.out.trans (hb.mono HB1.out.size))
  have HM2 := Lib.hid (hm.more (S' := fun b => b ≠ w2.heap.size ∧ b ≠ w2.heap.size + 1) fun b hb _ => ⟨by omega, by omega⟩)
  have HD2 := Lib.hid (hd.more (S' := fun b => b ≠ w2.heap.size ∧ b ≠ w2.heap.size + 1) fun b hb _ => ⟨by omega, by omega⟩)
  clear hb hm hd HB1 PL
  go_wp2_with (with_reducible refine at_alloc_ (t := 57) ?_; refine alloc_at (S := fun _ => False) rfl rfl ?_)
  intro w3 hp hb hz
  have X7 := Lib.hid hp
  have HB3 := Lib.hid (HB2.out.trans (hb.mono HB2.out.size))
  have HM3 := Lib.hid (HM2.out.below hb)
  have HD3 := Lib.hid (HD2.out.below hb)
  have HZ := Lib.hid hz
  have HQ := Lib.hid HB2.out.size
  clear hp hb hz HB2 HM2 HD2
  go_wp2_with (with_reducible refine at_alloc_ (t := 80) ?_; refine alloc_rd (S := fun _ => False) rfl rfl ?_)
  intro w4 hp hb hz
  rw [HZ.out] at hp
  rw [HZ.out]
  have X8 := Lib.hid hp
  have X7b := Lib.hid (X7.out.below hb)
  have HB4 := Lib.hid (HB3.out.trans (hb.mono HB3.out.size))
  have HM4 := Lib.hid (HM3.out.below hb)
  have HD4 := Lib.hid (HD3.out.below hb)
  clear hp hb hz HZ X7 HB3 HM3 HD3
  generalize w2.heap.size = q at *
  go_wp2_with (with_reducible refine at_store_ (t := 57) ?_; refine Hid.out ?_)
  refine Lib.hid ?_
  refine put_at rfl (.tmp 7) (.tmp 19) rfl rfl q rfl rfl X7b.out HM4.out (fun h => h.1 rfl) ?_
  intro w5 hp ht
  have Y7 := Lib.hid hp
  have X8b := Lib.hid (ht.rat X8.out (by omega) (fun h => h))
  have HD5 := Lib.hid (ht.mem HD4.out (fun h => h.1 rfl))
  have HB5 := Lib.hid (ht.below HB4.out HQ.out)
  clear hp ht X7b HM4 X8 HD4 HB4
  go_wp2_with (with_reducible refine at_store_ (t := 80) ?_; refine Hid.out ?_)
  refine Lib.hid ?_
  refine put_rd rfl (.tmp 8) (.tmp 20) rfl rfl (q + 1) rfl rfl X8b.out HD5.out (fun h => h.2 rfl) ?_
  intro w6 hp ht
  have Y8 := Lib.hid hp
  have Y7b := Lib.hid (ht.at Y7.out (by omega) (fun h => h.2 rfl))
  have HB6 := Lib.hid (ht.below HB5.out (by have := HQ.out; omega))
  clear hp ht X8b HD5 HB5 Y7
  go_wp2_with (with_reducible refine at_load_ (t := 57) ?_; refine get_at rfl _ rfl q rfl Y7b.out ?_)
  intro k1 k2 hm1
  have HM1 := Lib.hid (hm1.more (S' := fun _ => True) fun _ _ _ => trivial)
  clear hm1
  try simp only [Act.put, List.setIfInBounds_toArray, List.set_cons_zero, List.set_cons_succ]
  go_wp2_with fail
  refine (st_at (s := s) (b1 := k1) (b2 := k2) t i (fun _ _ => trivial) HM1.out (HREL.out.hA _) (HREL.out.few HL9.out _)).mono ?_
  rintro e w7 ⟨rfl, hb⟩
  have Z7 := Lib.hid (Y7b.out.below hb)
  have Z8 := Lib.hid (Y8.out.below hb)
  have HB7 := Lib.hid (HB6.out.trans (hb.mono HB6.out.size))
  clear hb HM1 Y7b Y8 HB6
  rw [HAV.out, HAB.out]
  go_wp2_with (with_reducible refine at_load_ (t := 57) ?_; refine Hid.out ?_)
  refine Lib.hid ?_
  refine get_at_g (by kernel_rfl) (.tmp 7) rfl q rfl Z7.out ?_
  intro k3 k4 hm3
  clear hm3
  try simp only [Act.put, List.setIfInBounds_toArray, List.set_cons_zero, List.set_cons_succ]
  go_wp2_with fail
  refine (st_now (s := s) (b1 := k3) (b2 := k4) w7).mono ?_
  rintro e w8 ⟨rfl, hb⟩
  have HBC := Lib.hid (HB7.out.trans (hb.mono HB7.out.size))
  have Z8b := Lib.hid (Z8.out.below hb)
  clear hb HB7 Z7 Z8

  go_wp2_with fail
  refine (awake_snap w8).mono ?_
  rintro e w9 ⟨rfl, hb⟩
  have HB9 := Lib.hid (HBC.out.trans (hb.mono HBC.out.size))
  clear hb HBC
  go_wp2
  go_ret
  exact ⟨rfl, HB9.out⟩

set_option maxRecDepth 100000 in
set_option maxHeartbeats 6400000 in
theorem ats_high (A : Option Addr) (n c : Nat) (l : List SA) (t i : Int) (w : World) (hl : SAs w (fun _ => True) A n l) (hlen : l.length ≤ 9223372036854775807) (hf : fewB l = true) (h0 : 0 ≤ t) (h1 : t ≤ (playF 4 l).1.n) (h2 : 0 ≤ i) (h3 : 3 < i) :
    Calls Try.prog 10 #[.slice A n c, .int .i64 t, .int .i64 i] w fun e w' => e = .returned (.bool true) ∧ Below w.heap.size w w' := by
  have FW := Lib.hid (few28_any A n c l w hl hlen)
  rw [hf] at FW
  obtain ⟨h60, h8⟩ := few_yes hl hf
  obtain ⟨hrel0, hhist0⟩ := play_end 4 l (by omega)
  have PL := Lib.hid fun (w1 : World) (hb : Below w.heap.size w w1) => played_any (S := fun _ => True) 4 A n c l w1 (fun _ _ => trivial) (by omega) (by omega) (hl.below hb) h60 h8
  have HL9 := Lib.hid (show (l.length : Int) ≤ 900 by omega)
  generalize playF 4 l = z at *
  obtain ⟨s, d⟩ := z
  dsimp only at hrel0 hhist0 PL h1
  have HREL := Lib.hid hrel0
  have HH := Lib.hid hhist0
  have HAV := Lib.hid (hrel0.at_no (t := t) (i := i) (.inr (.inr (.inr (by show (4 : Int) ≤ i; omega))))).1
  have HAB := Lib.hid (hrel0.at_no (t := t) (i := i) (.inr (.inr (.inr (by show (4 : Int) ≤ i; omega))))).2
  have hd0 : decide (t < 0) = false := decide_eq_false (by omega)
  have hd1 : decide (s.n < t) = false := decide_eq_false (by omega)
  have hd2 : decide (i < 0) = false := decide_eq_false (by omega)
  have hd3 : decide (3 < i) = true := decide_eq_true h3
  clear hl hlen hf h60 h8 hrel0 hhist0
  go_enter Try.func10, Try.ntmps10
  go_wp2_with fail
  refine FW.out.mono ?_
  rintro e w1 ⟨rfl, hb⟩
  have HB1 := Lib.hid hb
  clear hb FW
  go_wp2_with fail
  refine (PL.out w1 HB1.out).mono ?_
  rintro e w2 ⟨b1, b2, sa, sv, rfl, hm, hd, hb⟩
  have HB2 := Lib.hid (HB1.out.trans (hb.mono HB1.out.size))
  have HM2 := Lib.hid (hm.more (S' := fun b => b ≠ w2.heap.size ∧ b ≠ w2.heap.size + 1) fun b hb _ => ⟨by omega, by omega⟩)
  have HD2 := Lib.hid (hd.more (S' := fun b => b ≠ w2.heap.size ∧ b ≠ w2.heap.size + 1) fun b hb _ => ⟨by omega, by omega⟩)
  clear hb hm hd HB1 PL
  go_wp2_with (with_reducible refine at_alloc_ (t := 57) ?_; refine alloc_at (S := fun _ => False) rfl rfl ?_)
  intro w3 hp hb hz
  have X7 := Lib.hid hp
  have HB3 := Lib.hid (HB2.out.trans (hb.mono HB2.out.size))
  have HM3 := Lib.hid (HM2.out.below hb)
  have HD3 := Lib.hid (HD2.out.below hb)
  have HZ := Lib.hid hz
  have HQ := Lib.hid HB2.out.size
  clear hp hb hz HB2 HM2 HD2
  go_wp2_with (with_reducible refine at_alloc_ (t := 80) ?_; refine alloc_rd (S := fun _ => False) rfl rfl ?_)
  intro w4 hp hb hz
  rw [HZ.out] at hp
  rw [HZ.out]
  have X8 := Lib.hid hp
  have X7b := Lib.hid (X7.out.below hb)
  have HB4 := Lib.hid (HB3.out.trans (hb.mono HB3.out.size))
  have HM4 := Lib.hid (HM3.out.below hb)
  have HD4 := Lib.hid (HD3.out.below hb)
  clear hp hb hz HZ X7 HB3 HM3 HD3
  generalize w2.heap.size = q at *
  go_wp2_with (with_reducible refine at_store_ (t := 57) ?_; refine Hid.out ?_)
  refine Lib.hid ?_
  refine put_at rfl (.tmp 7) (.tmp 19) rfl rfl q rfl rfl X7b.out HM4.out (fun h => h.1 rfl) ?_
  intro w5 hp ht
  have Y7 := Lib.hid hp
  have X8b := Lib.hid (ht.rat X8.out (by omega) (fun h => h))
  have HD5 := Lib.hid (ht.mem HD4.out (fun h => h.1 rfl))
  have HB5 := Lib.hid (ht.below HB4.out HQ.out)
  clear hp ht X7b HM4 X8 HD4 HB4
  go_wp2_with (with_reducible refine at_store_ (t := 80) ?_; refine Hid.out ?_)
  refine Lib.hid ?_
  refine put_rd rfl (.tmp 8) (.tmp 20) rfl rfl (q + 1) rfl rfl X8b.out HD5.out (fun h => h.2 rfl) ?_
  intro w6 hp ht
  have Y8 := Lib.hid hp
  have Y7b := Lib.hid (ht.at Y7.out (by omega) (fun h => h.2 rfl))
  have HB6 := Lib.hid (ht.below HB5.out (by have := HQ.out; omega))
  clear hp ht X8b HD5 HB5 Y7
  go_wp2_with (with_reducible refine at_load_ (t := 57) ?_; refine get_at rfl _ rfl q rfl Y7b.out ?_)
  intro k1 k2 hm1
  have HM1 := Lib.hid (hm1.more (S' := fun _ => True) fun _ _ _ => trivial)
  clear hm1
  try simp only [Act.put, List.setIfInBounds_toArray, List.set_cons_zero, List.set_cons_succ]
  go_wp2_with fail
  refine (st_at (s := s) (b1 := k1) (b2 := k2) t i (fun _ _ => trivial) HM1.out (HREL.out.hA _) (HREL.out.few HL9.out _)).mono ?_
  rintro e w7 ⟨rfl, hb⟩
  have Z7 := Lib.hid (Y7b.out.below hb)
  have Z8 := Lib.hid (Y8.out.below hb)
  have HB7 := Lib.hid (HB6.out.trans (hb.mono HB6.out.size))
  clear hb HM1 Y7b Y8 HB6
  rw [HAV.out, HAB.out]
  go_wp2_with (with_reducible refine at_load_ (t := 57) ?_; refine Hid.out ?_)
  refine Lib.hid ?_
  refine get_at_g (by kernel_rfl) (.tmp 7) rfl q rfl Z7.out ?_
  intro k3 k4 hm3
  clear hm3
  try simp only [Act.put, List.setIfInBounds_toArray, List.set_cons_zero, List.set_cons_succ]
  go_wp2_with fail
  refine (st_now (s := s) (b1 := k3) (b2 := k4) w7).mono ?_
  rintro e w8 ⟨rfl, hb⟩
  have HBC := Lib.hid (HB7.out.trans (hb.mono HB7.out.size))
  have Z8b := Lib.hid (Z8.out.below hb)
  clear hb HB7 Z7 Z8

  go_wp2_with fail
  refine (awake_snap w8).mono ?_
  rintro e w9 ⟨rfl, hb⟩
  have HB9 := Lib.hid (HBC.out.trans (hb.mono HBC.out.size))
  clear hb HBC
  go_wp2
  go_ret
  exact ⟨rfl, HB9.out⟩

set_option maxRecDepth 100000 in
set_option maxHeartbeats 6400000 in
theorem ats_yes (A : Option Addr) (n c : Nat) (l : List SA) (t i : Int) (w : World) (hl : SAs w (fun _ => True) A n l) (hlen : l.length ≤ 9223372036854775807) (hf : fewB l = true) (h0 : 0 ≤ t) (h1 : t ≤ (playF 4 l).1.n) (h2 : 0 ≤ i) (h3 : i ≤ 3) :
    Calls Try.prog 10 #[.slice A n c, .int .i64 t, .int .i64 i] w fun e w' => e = .returned (.bool true) ∧ Below w.heap.size w w' := by
  have FW := Lib.hid (few28_any A n c l w hl hlen)
  rw [hf] at FW
  obtain ⟨h60, h8⟩ := few_yes hl hf
  obtain ⟨hrel0, hhist0⟩ := play_end 4 l (by omega)
  have PL := Lib.hid fun (w1 : World) (hb : Below w.heap.size w w1) => played_any (S := fun _ => True) 4 A n c l w1 (fun _ _ => trivial) (by omega) (by omega) (hl.below hb) h60 h8
  have HL9 := Lib.hid (show (l.length : Int) ≤ 900 by omega)
  generalize playF 4 l = z at *
  obtain ⟨s, d⟩ := z
  dsimp only at hrel0 hhist0 PL h1
  have HREL := Lib.hid hrel0
  have HH := Lib.hid hhist0
  obtain ⟨tn, rfl⟩ : ∃ tn : Nat, t = (tn : Int) := ⟨t.toNat, by omega⟩
  obtain ⟨j, rfl⟩ : ∃ j : Nat, i = (j : Int) := ⟨i.toNat, by omega⟩
  have HAT := hrel0.at_yes hhist0 h1 (show j < 4 by omega)
  have hst := hrel0.hst
  have hlt : (tn : Int) < (d.st.length : Int) := by omega
  have hj4 : (j : Int) < 4 := by omega
  have htl : tn < d.st.length := by omega
  have hrl : (d.st.getD tn []).length = 4 := by rw [List.getD_eq_getElem?_getD, List.getElem?_eq_getElem htl]; exact hrel0.hrow tn htl
  have HTL := Lib.hid htl
  have HRL := Lib.hid hrl
  have HX := Lib.hid (getD_map (d.st.getD tn []) j (by omega) (Value.int .i64 ·))
  generalize (d.st.getD tn []).getD j 0 = x at *
  have HAV := Lib.hid HAT.1
  have HAB := Lib.hid HAT.2
  clear HAT hst htl hrl
  have hd0 : decide ((tn : Int) < 0) = false := decide_eq_false (by omega)
  have hd1 : decide (s.n < (tn : Int)) = false := decide_eq_false (by omega)
  have hd2 : decide ((j : Int) < 0) = false := decide_eq_false (by omega)
  have hd3 : decide ((3 : Int) < (j : Int)) = false := decide_eq_false (by omega)
  clear hl hlen hf h60 h8 hrel0 hhist0
  go_enter Try.func10, Try.ntmps10
  go_wp2_with fail
  refine FW.out.mono ?_
  rintro e w1 ⟨rfl, hb⟩
  have HB1 := Lib.hid hb
  clear hb FW
  go_wp2_with fail
  refine (PL.out w1 HB1.out).mono ?_
  rintro e w2 ⟨b1, b2, sa, sv, rfl, hm, hd, hb⟩
  have HB2 := Lib.hid (HB1.out.trans (hb.mono HB1.out.size))
  have HM2 := Lib.hid (hm.more (S' := fun b => b ≠ w2.heap.size ∧ b ≠ w2.heap.size + 1) fun b hb _ => ⟨by omega, by omega⟩)
  have HD2 := Lib.hid (hd.more (S' := fun b => b ≠ w2.heap.size ∧ b ≠ w2.heap.size + 1) fun b hb _ => ⟨by omega, by omega⟩)
  clear hb hm hd HB1 PL
  go_wp2_with (with_reducible refine at_alloc_ (t := 57) ?_; refine alloc_at (S := fun _ => False) rfl rfl ?_)
  intro w3 hp hb hz
  have X7 := Lib.hid hp
  have HB3 := Lib.hid (HB2.out.trans (hb.mono HB2.out.size))
  have HM3 := Lib.hid (HM2.out.below hb)
  have HD3 := Lib.hid (HD2.out.below hb)
  have HZ := Lib.hid hz
  have HQ := Lib.hid HB2.out.size
  clear hp hb hz HB2 HM2 HD2
  go_wp2_with (with_reducible refine at_alloc_ (t := 80) ?_; refine alloc_rd (S := fun _ => False) rfl rfl ?_)
  intro w4 hp hb hz
  rw [HZ.out] at hp
  rw [HZ.out]
  have X8 := Lib.hid hp
  have X7b := Lib.hid (X7.out.below hb)
  have HB4 := Lib.hid (HB3.out.trans (hb.mono HB3.out.size))
  have HM4 := Lib.hid (HM3.out.below hb)
  have HD4 := Lib.hid (HD3.out.below hb)
  clear hp hb hz HZ X7 HB3 HM3 HD3
  generalize w2.heap.size = q at *
  go_wp2_with (with_reducible refine at_store_ (t := 57) ?_; refine Hid.out ?_)
  refine Lib.hid ?_
  refine put_at rfl (.tmp 7) (.tmp 19) rfl rfl q rfl rfl X7b.out HM4.out (fun h => h.1 rfl) ?_
  intro w5 hp ht
  have Y7 := Lib.hid hp
  have X8b := Lib.hid (ht.rat X8.out (by omega) (fun h => h))
  have HD5 := Lib.hid (ht.mem HD4.out (fun h => h.1 rfl))
  have HB5 := Lib.hid (ht.below HB4.out HQ.out)
  clear hp ht X7b HM4 X8 HD4 HB4
  go_wp2_with (with_reducible refine at_store_ (t := 80) ?_; refine Hid.out ?_)
  refine Lib.hid ?_
  refine put_rd rfl (.tmp 8) (.tmp 20) rfl rfl (q + 1) rfl rfl X8b.out HD5.out (fun h => h.2 rfl) ?_
  intro w6 hp ht
  have Y8 := Lib.hid hp
  have Y7b := Lib.hid (ht.at Y7.out (by omega) (fun h => h.2 rfl))
  have HB6 := Lib.hid (ht.below HB5.out (by have := HQ.out; omega))
  clear hp ht X8b HD5 HB5 Y7
  go_wp2_with (with_reducible refine at_load_ (t := 57) ?_; refine get_at rfl _ rfl q rfl Y7b.out ?_)
  intro k1 k2 hm1
  have HM1 := Lib.hid (hm1.more (S' := fun _ => True) fun _ _ _ => trivial)
  clear hm1
  try simp only [Act.put, List.setIfInBounds_toArray, List.set_cons_zero, List.set_cons_succ]
  go_wp2_with fail
  refine (st_at (s := s) (b1 := k1) (b2 := k2) tn j (fun _ _ => trivial) HM1.out (HREL.out.hA _) (HREL.out.few HL9.out _)).mono ?_
  rintro e w7 ⟨rfl, hb⟩
  have Z7 := Lib.hid (Y7b.out.below hb)
  have Z8 := Lib.hid (Y8.out.below hb)
  have HB7 := Lib.hid (HB6.out.trans (hb.mono HB6.out.size))
  clear hb HM1 Y7b Y8 HB6
  rw [HAV.out, HAB.out]
  go_wp2_with (with_reducible refine at_load_ (t := 57) ?_; refine Hid.out ?_)
  refine Lib.hid ?_
  refine get_at_g (by kernel_rfl) (.tmp 7) rfl q rfl Z7.out ?_
  intro k3 k4 hm3
  clear hm3
  try simp only [Act.put, List.setIfInBounds_toArray, List.set_cons_zero, List.set_cons_succ]
  go_wp2_with fail
  refine (st_now (s := s) (b1 := k3) (b2 := k4) w7).mono ?_
  rintro e w8 ⟨rfl, hb⟩
  have HBC := Lib.hid (HB7.out.trans (hb.mono HB7.out.size))
  have Z8b := Lib.hid (Z8.out.below hb)
  clear hb HB7 Z7 Z8

  go_wp2_with fail
  refine (awake_snap w8).mono ?_
  rintro e w9 ⟨rfl, hb⟩
  have HB9 := Lib.hid (HBC.out.trans (hb.mono HBC.out.size))
  obtain ⟨sa5, sv5, hblk, hmem⟩ := (Z8b.out.below hb)
  obtain ⟨bs, os, cs, A1, c1, rfl, hbs, hrow, hr⟩ := Rd.row_at (d := d) hmem tn HTL.out
  rw [HRL.out] at hrow hr
  obtain ⟨b5, o5, rfl, _, _, hcc⟩ := hr.2 (by omega)
  have x0 := hcc j _ HX.out
  have s0 := (rd_all hblk).1
  clear hb HBC hcc hr hmem hblk HX HRL
  go_wp2
  go_ret
  exact ⟨by first | rfl | simp, HB9.out⟩

theorem ats_any (A : Option Addr) (n c : Nat) (l : List SA) (t i : Int) (w : World) (hl : SAs w (fun _ => True) A n l) (hlen : l.length ≤ 9223372036854775807) :
    Calls Try.prog 10 #[.slice A n c, .int .i64 t, .int .i64 i] w fun e w' => e = .returned (.bool true) ∧ Below w.heap.size w w' := by
  cases hf : fewB l with
  | false => exact ats_great A n c l t i w hl hlen hf
  | true =>
    by_cases h0 : t < 0
    · exact ats_neg A n c l t i w hl hlen hf h0
    · by_cases h1 : (playF 4 l).1.n < t
      · exact ats_far A n c l t i w hl hlen hf (by omega) h1
      · by_cases h2 : i < 0
        · exact ats_low A n c l t i w hl hlen hf (by omega) (by omega) h2
        · by_cases h3 : 3 < i
          · exact ats_high A n c l t i w hl hlen hf (by omega) (by omega) (by omega) h3
          · exact ats_yes A n c l t i w hl hlen hf (by omega) (by omega) (by omega) (by omega)
end Go.Proofs.Ytpejhgkcofilmaa
