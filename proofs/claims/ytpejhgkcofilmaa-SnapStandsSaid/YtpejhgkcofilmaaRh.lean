/- What law28's do computes, in plain Lean: the store, the reference's store, and how the one answers to the other. -/
import Derived.Test.YtpejhgkcofilmaaRf
import Derived.Test.YtpejhgkcofilmaaRg
set_option linter.unusedVariables false
namespace Go.Proofs.Ytpejhgkcofilmaa
open Go.RowKit

/-- An act: its kind, its number, its writes, its raw entries, and the slices that hold them. -/
structure SA where
  kind : Int
  num : Int
  AW : Option Addr
  mw : Nat
  cw : Nat
  ws : List Wr
  AR : Option Addr
  mr : Nat
  cr : Nat
  raw : List Ent
/-- The first reader that is free, or eight. -/
def Sn.free (s : Sn) : Nat := (freeR s.B).getD 8
def comL (d : Rd) (n : Nat) (a : SA) : List Ent := if a.kind % 6 = 5 then a.raw else d.ents n a.ws
def doS (n : Nat) (s : Sn) (d : Rd) (a : SA) : Sn := if a.kind % 6 = 3 then s.openS else if a.kind % 6 = 4 then s.closeS a.num else s.com (comL d n a)
def Rd.com (d : Rd) (n : Nat) (l : List Ent) : Rd := if chk l = 0 ∧ d.holds l = 0 then d.commitD n l else d
def Rd.closeD (d : Rd) (i : Int) : Rd := if isD d.R i = true then d.setR (i - 1).toNat (-1) else d
def doD (n : Nat) (s : Sn) (d : Rd) (a : SA) : Rd := if a.kind % 6 = 3 then (d.openR s.free).1 else if a.kind % 6 = 4 then d.closeD a.num else d.com n (comL d n a)

/-- The store answers to the reference's store. -/
structure Rel (n : Nat) (s : Sn) (d : Rd) (m : Int) : Prop where
  hc : s.c = (n : Int)
  hvs : d.vs.length = n
  hrow : ∀ i (h : i < d.st.length), d.st[i].length = n
  hst : (d.st.length : Int) = s.n + 1
  hn0 : 0 ≤ s.n
  hnm : s.n ≤ m
  last : ∀ k : Nat, k < n → (lastP (s.L k)).2 = d.nowAt k
  hW : ∀ k : Nat, k < n → s.W k = d.vsAt k
  hv : ∀ k : Nat, k < n → 0 ≤ d.vsAt k ∧ d.vsAt k ≤ s.n
  hB : ∀ j, j < 8 → s.B j = decide (0 ≤ d.R j)
  hT : ∀ j, j < 8 → s.B j = true → s.T j = d.R j
  hR : ∀ j, j < 8 → d.R j ≤ s.n
  hA : ∀ k, Asc (s.L k)
  hst2 : ∀ k, ∀ p ∈ s.L k, 0 ≤ p.1 ∧ p.1 ≤ s.n
  hlen : ∀ k, ((s.L k).length : Int) ≤ s.n + 1
  hne : ∀ k : Nat, k < n → 0 < (s.L k).length

theorem find_free (B : Nat → Bool) : (∀ r, freeR B = some r → r < 8 ∧ B r = false ∧ ∀ j, j < r → B j = true) ∧ (freeR B = none → ∀ j, j < 8 → B j = true) := by
  obtain ⟨h1, h2⟩ := find_range (fun j => !B j) 8
  refine ⟨fun r hr => ?_, fun h j hj => by simpa using h2 h j hj⟩
  obtain ⟨a, b, c⟩ := h1 r hr
  exact ⟨a, by simpa using b, fun j hj => by simpa using c j hj⟩
theorem st_open2 {s : Sn} {b1 b2 : Option Nat} (w : World) :
    Calls Try.prog 30 #[s.val b1 b2] w fun e w' => (e = .returned (.tuple #[s.openS.val b1 b2, .int .i64 (if s.free < 8 then (s.free : Int) + 1 else 0), .int .i64 (if s.free < 8 then 0 else 9)]) ∧ Below w.heap.size w w') := by
  obtain ⟨g1, g2⟩ := find_free s.B
  unfold Sn.openS Sn.free
  cases hf : freeR s.B with
  | none =>
    refine (open_full s.c s.n b1 b2 s.B s.T (g2 hf) w).mono ?_
    rintro e w' ⟨rfl, hb⟩
    exact ⟨rfl, hb⟩
  | some r =>
    obtain ⟨h1, h2, h3⟩ := g1 r hf
    refine (open_ok s.c s.n b1 b2 s.B s.T r h1 h3 h2 w).mono ?_
    rintro e w' ⟨rfl, hb⟩
    refine ⟨?_, hb⟩
    rw [Option.getD_some, if_pos h1, if_pos h1]
    rfl
theorem st_close2 {s : Sn} {b1 b2 : Option Nat} (r : Int) (w : World) :
    Calls Try.prog 49 #[s.val b1 b2, .int .i64 r] w fun e w' => (e = .returned (.tuple #[(s.closeS r).val b1 b2, .int .i64 (if isR s.B r = true then 0 else 10)]) ∧ Below w.heap.size w w') := by
  unfold Sn.closeS
  by_cases h : isR s.B r = true
  · rw [if_pos h, if_pos h]
    have hr : 1 ≤ r ∧ r ≤ 8 := by
      unfold isR at h
      simp at h
      omega
    obtain ⟨k, rfl⟩ : ∃ k : Nat, r = (k : Int) + 1 := ⟨(r - 1).toNat, by omega⟩
    refine (close_ok s.c s.n b1 b2 s.B s.T k (by omega) w h).mono ?_
    rintro e w' ⟨rfl, hb⟩
    refine ⟨?_, hb⟩
    rw [show ((k : Int) + 1 - 1).toNat = k by omega]
    rfl
  · rw [if_neg h, if_neg h]
    refine (close_no s.c s.n b1 b2 s.B s.T r w (by simpa using h)).mono ?_
    rintro e w' ⟨rfl, hb⟩
    exact ⟨rfl, hb⟩

theorem chkL_zero (l : List Ent) : ∀ d, chkL d l = 0 → (∀ e ∈ l, entE e = 0) ∧ (∀ e ∈ l, ∀ y ∈ d, y.loc ≠ e.loc) ∧ l.Pairwise fun x y => x.loc ≠ y.loc := by
  induction l with
  | nil => intro d _; exact ⟨fun _ h => (nomatch h), fun _ h => (nomatch h), .nil⟩
  | cons x t ih =>
    intro d h
    unfold chkL at h
    split at h
    · contradiction
    · rename_i h1
      split at h
      · cases h
      · rename_i h2
        obtain ⟨g1, g2, g3⟩ := ih _ h
        have hd : ∀ y ∈ d, y.loc ≠ x.loc := fun y hy e => h2 (List.any_eq_true.2 ⟨y, hy, by simpa using e⟩)
        refine ⟨fun e he => ?_, fun e he y hy => ?_, ?_⟩
        · rcases List.mem_cons.1 he with rfl | he
          · exact Decidable.not_not.1 h1
          · exact g1 e he
        · rcases List.mem_cons.1 he with rfl | he
          · exact hd y hy
          · exact g2 e he y (List.mem_append_left _ hy)
        · rw [List.pairwise_cons]
          exact ⟨fun y hy => g2 y hy x (by simp), g3⟩
theorem chk_zero {l : List Ent} (h : chk l = 0) : (∀ e ∈ l, entE e = 0) ∧ l.Pairwise (fun x y => x.loc ≠ y.loc) ∧ l.length ≤ 32 := by
  unfold chk at h
  split at h
  · cases h
  · split at h
    · cases h
    · obtain ⟨h1, _, h3⟩ := chkL_zero l [] h
      exact ⟨h1, h3, by omega⟩
theorem ent_ref {e : Ent} (h : entE e = 0) : e.ref = 0 := by
  unfold entE at h
  split at h
  · cases h
  · split at h
    · cases h
    · rename_i h2
      exact Decidable.not_not.1 h2
theorem wr_dis {l : List Ent} (h : l.Pairwise fun x y => x.loc ≠ y.loc) (j : Nat) (hj : j < l.length) : wrOf (l.take j) l[j].loc = none := by
  cases hw : wrOf (l.take j) l[j].loc with
  | none => rfl
  | some v =>
    obtain ⟨e, he, _, hl, _⟩ := wr_some hw
    obtain ⟨i, hi, rfl⟩ := List.mem_iff_getElem.1 he
    rw [List.length_take] at hi
    rw [List.getElem_take] at hl
    exact absurd hl (List.pairwise_iff_getElem.1 h i j (by omega) hj (by omega))

theorem com_L (s : Sn) (l : List Ent) (k : Int) : (s.commit l).L k = s.L k ∧ wrOf l k = none ∨ ∃ v, wrOf l k = some v ∧ (s.commit l).L k = s.L k ++ [(s.n + 1, v)] := by
  show (match wrOf l k with | some v => s.L k ++ [(s.n + 1, v)] | none => s.L k) = _ ∧ _ ∨ ∃ v, _ ∧ (match wrOf l k with | some v => s.L k ++ [(s.n + 1, v)] | none => s.L k) = _
  cases wrOf l k with
  | none => exact .inl ⟨rfl, rfl⟩
  | some v => exact .inr ⟨v, rfl, rfl⟩
section
variable {n : Nat} {s : Sn} {d : Rd} {m : Int} (h : Rel n s d m)
include h
theorem Rel.wide (hm : m ≤ 900) : d.Wide n := ⟨h.hvs, by have := h.hst; have := h.hn0; omega, by have := h.hst; have := h.hnm; omega, h.hrow⟩
theorem Rel.isR (i : Int) : isD d.R i = Go.Proofs.Ytpejhgkcofilmaa.isR s.B i := by
  unfold isD Go.Proofs.Ytpejhgkcofilmaa.isR
  by_cases h1 : 1 ≤ i
  · by_cases h2 : i ≤ 8
    · rw [h.hB _ (by omega)]
    · rw [decide_eq_false h2, Bool.and_false, Bool.false_and, Bool.false_and]
  · rw [decide_eq_false h1, Bool.false_and, Bool.false_and, Bool.false_and]
theorem Rel.free : s.free ≤ 8 ∧ (∀ j, j < s.free → 0 ≤ d.R j) ∧ (s.free < 8 → d.R s.free < 0) := by
  obtain ⟨g1, g2⟩ := find_free s.B
  unfold Sn.free
  cases hf : freeR s.B with
  | none =>
    refine ⟨by simp, fun j hj => ?_, fun h => by simp at h⟩
    have h1 : j < 8 := by simpa using hj
    have := g2 hf j h1
    rw [h.hB j h1] at this
    simpa using this
  | some r =>
    obtain ⟨h1, h2, h3⟩ := g1 r hf
    simp only [Option.getD_some]
    refine ⟨by omega, fun j hj => ?_, fun _ => ?_⟩
    · have := h3 j hj
      rw [h.hB j (by omega)] at this
      simpa using this
    · rw [h.hB r h1] at h2
      simpa using h2
theorem Rel.openS : Rel n s.openS (d.openR s.free).1 m := by
  obtain ⟨g1, g2⟩ := find_free s.B
  unfold Sn.openS Sn.free
  cases hf : freeR s.B with
  | none => exact h
  | some r =>
    obtain ⟨h1, h2, h3⟩ := g1 r hf
    simp only [Option.getD_some]
    have e : (d.openR r).1 = d.setR r ((d.st.length : Int) - 1) := by unfold Rd.openR; rw [if_pos h1]
    rw [e]
    have hst := h.hst
    refine { h with hB := fun j hj => ?_, hT := fun j hj hb => ?_, hR := fun j hj => ?_ }
    · show (if j = r then true else s.B j) = decide (0 ≤ if j = r then (d.st.length : Int) - 1 else d.R j)
      by_cases hjr : j = r
      · rw [if_pos hjr, if_pos hjr]
        have := h.hn0
        simp; omega
      · rw [if_neg hjr, if_neg hjr]
        exact h.hB j hj
    · have hb : (if j = r then true else s.B j) = true := hb
      show (if j = r then s.n else s.T j) = if j = r then (d.st.length : Int) - 1 else d.R j
      by_cases hjr : j = r
      · rw [if_pos hjr, if_pos hjr]; omega
      · rw [if_neg hjr, if_neg hjr]
        rw [if_neg hjr] at hb
        exact h.hT j hj hb
    · show (if j = r then (d.st.length : Int) - 1 else d.R j) ≤ s.n
      by_cases hjr : j = r
      · rw [if_pos hjr]; omega
      · rw [if_neg hjr]; exact h.hR j hj
theorem Rel.closeS (r : Int) : Rel n (s.closeS r) (d.closeD r) m := by
  unfold Sn.closeS Rd.closeD
  rw [h.isR]
  split
  · rename_i hr
    have hr2 : 1 ≤ r ∧ r ≤ 8 := by unfold Go.Proofs.Ytpejhgkcofilmaa.isR at hr; simp at hr; omega
    refine { h with hB := fun j hj => ?_, hT := fun j hj hb => ?_, hR := fun j hj => ?_ }
    · show (if j = (r - 1).toNat then false else s.B j) = decide (0 ≤ if j = (r - 1).toNat then (-1 : Int) else d.R j)
      by_cases hjr : j = (r - 1).toNat
      · rw [if_pos hjr, if_pos hjr]; rfl
      · rw [if_neg hjr, if_neg hjr]; exact h.hB j hj
    · have hb : (if j = (r - 1).toNat then false else s.B j) = true := hb
      show s.T j = if j = (r - 1).toNat then (-1 : Int) else d.R j
      by_cases hjr : j = (r - 1).toNat
      · rw [if_pos hjr] at hb; cases hb
      · rw [if_neg hjr] at hb ⊢
        exact h.hT j hj hb
    · show (if j = (r - 1).toNat then (-1 : Int) else d.R j) ≤ s.n
      by_cases hjr : j = (r - 1).toNat
      · rw [if_pos hjr]; have := h.hn0; omega
      · rw [if_neg hjr]; exact h.hR j hj
  · exact h
theorem Rel.err (l : List Ent) : s.wrongS l = if chk l ≠ 0 then chk l else d.holds l := by
  unfold Sn.wrongS Rd.holds
  by_cases hk : chk l ≠ 0
  · rw [if_pos hk, if_pos hk]
  · rw [if_neg hk, if_neg hk, h.hc, h.hvs]
    obtain ⟨h1, _, _⟩ := chk_zero (Decidable.not_not.1 hk)
    by_cases hi : l.any (fun e => !inC (n : Int) e) = true
    · rw [if_pos hi, if_pos hi]
    · rw [if_neg hi, if_neg hi]
      have e : l.any (fun e => !s.asS e) = l.any (fun e => !d.asD e) := by
        rw [Bool.eq_iff_iff, List.any_eq_true, List.any_eq_true]
        have g : ∀ e ∈ l, s.asS e = d.asD e := fun e he => by
          have hin : inC (n : Int) e = true := by
            cases hx : inC (n : Int) e with
            | true => rfl
            | false => exact absurd (List.any_eq_true.2 ⟨e, he, by rw [hx]; rfl⟩) hi
          have hr : 0 ≤ e.loc ∧ e.loc < (n : Int) := by unfold inC at hin; simpa using hin
          obtain ⟨k, hk⟩ : ∃ k : Nat, e.loc = (k : Int) := ⟨e.loc.toNat, by omega⟩
          unfold Sn.asS Rd.asD
          rw [hk, h.last k (by omega), h.hW k (by omega), ent_ref (h1 e he)]
          simp
        constructor
        · rintro ⟨e, he, hx⟩; exact ⟨e, he, by rw [← g e he]; exact hx⟩
        · rintro ⟨e, he, hx⟩; exact ⟨e, he, by rw [g e he]; exact hx⟩
      rw [e]
theorem Rel.ok (l : List Ent) : s.wrongS l = 0 ↔ chk l = 0 ∧ d.holds l = 0 := by
  rw [h.err]
  by_cases hk : chk l ≠ 0
  · rw [if_pos hk]
    exact ⟨fun e => absurd e hk, fun e => absurd e.1 hk⟩
  · rw [if_neg hk]
    exact ⟨fun e => ⟨Decidable.not_not.1 hk, e⟩, fun e => e.2⟩
theorem Rel.inl {l : List Ent} (hh : d.holds l = 0) : ∀ e ∈ l, inC (n : Int) e = true := by
  intro e he
  unfold Rd.holds at hh
  rw [h.hvs] at hh
  split at hh
  · cases hh
  · rename_i hi
    cases hx : inC (n : Int) e with
    | true => rfl
    | false => exact absurd (List.any_eq_true.2 ⟨e, he, by rw [hx]; rfl⟩) hi
theorem Rel.add (hm : m ≤ 900) (k : Int) : addE (s.L k) (s.n + 1) = 0 := by
  have h0 := h.hn0
  have h1 := h.hnm
  have hl := h.hlen k
  unfold addE
  rw [if_neg (by omega)]
  rw [if_neg, if_neg (by omega)]
  rintro ⟨he, hx⟩
  have hpos : 0 < (s.L k).length := by
    cases hL : s.L k with
    | nil => rw [hL] at he; simp at he
    | cons a t => simp
  obtain ⟨i, hi⟩ : ∃ i, (s.L k).length = i + 1 := ⟨(s.L k).length - 1, by omega⟩
  obtain ⟨hil, hP⟩ := lastP_get _ _ hi
  rw [hP] at hx
  have := (h.hst2 k _ (List.getElem_mem hil)).2
  omega
theorem Rel.few (hm : m ≤ 900) (k : Int) : (s.L k).length ≤ 1099511627776 := by have := h.hlen k; have := h.hnm; omega
theorem Rel.upto {m' : Int} (hm : m ≤ m') : Rel n s d m' := { h with hnm := by have := h.hnm; omega }
theorem Rel.com (hm : m ≤ 900) (l : List Ent) : Rel n (s.com l) (d.com n l) (m + 1) := by
  have h0 := h.hn0
  have h1 := h.hnm
  unfold Sn.com Rd.com
  by_cases hw : s.wrongS l = 0
  · obtain ⟨hk, hh⟩ := (h.ok l).1 hw
    by_cases ha : l.any (fun e => e.wr) = true
    · rw [if_pos ⟨hw, ha⟩, if_pos ⟨hk, hh⟩]
      unfold Rd.commitD
      rw [if_pos ha]
      have hnow : ∀ k : Nat, k < n → Rd.nowAt { d with st := d.st ++ [nextL d n l], vs := versL d n l } k = (wrOf l k).getD (d.nowAt k) := fun k hk => by
        unfold Rd.nowAt nextL
        rw [show ((k : Nat) : Int).toNat = k by omega]
        simp [hk, Rd.nowAt]
      have hvat : ∀ k : Nat, k < n → Rd.vsAt { d with st := d.st ++ [nextL d n l], vs := versL d n l } k = if (wrOf l k).isSome = true then d.vsAt k + 1 else d.vsAt k := fun k hk => by
        unfold Rd.vsAt versL
        rw [show ((k : Nat) : Int).toNat = k by omega]
        simp [hk, Rd.vsAt]
      refine ⟨h.hc, versL_len d n l, fun i hi => ?_, ?_, ?_, ?_, fun k hk => ?_, fun k hk => ?_, fun k hk => ?_, h.hB, h.hT, fun j hj => ?_, fun k => ?_, fun k p hp => ?_, fun k => ?_, fun k hk => ?_⟩
      · show (d.st ++ [nextL d n l])[i].length = n
        have hi : i < (d.st ++ [nextL d n l]).length := hi
        by_cases hil : i < d.st.length
        · rw [List.getElem_append_left hil]; exact h.hrow i hil
        · rw [List.getElem_append_right (by omega)]
          simp [nextL_len]
      · show ((d.st ++ [nextL d n l]).length : Int) = s.n + 1 + 1
        have := h.hst
        rw [List.length_append, List.length_singleton]
        omega
      · show 0 ≤ s.n + 1; omega
      · show s.n + 1 ≤ m + 1; omega
      · rw [hnow k hk]
        rcases com_L s l k with ⟨e, ew⟩ | ⟨v, ew, e⟩
        · rw [e, ew]; exact h.last k hk
        · rw [e, ew]; simp [lastP]
      · rw [hvat k hk]
        show (if (wrOf l k).isSome = true then (s.W k + 1) % 4294967296 else s.W k) = _
        have := h.hv k hk
        rw [h.hW k hk]
        split <;> omega
      · rw [hvat k hk]
        show 0 ≤ _ ∧ _ ≤ s.n + 1
        have := h.hv k hk
        split <;> omega
      · show d.R j ≤ s.n + 1
        have := h.hR j hj
        omega
      · rcases com_L s l k with ⟨e, _⟩ | ⟨v, _, e⟩
        · rw [e]; exact h.hA k
        · rw [e]
          unfold Asc
          rw [List.pairwise_append]
          refine ⟨h.hA k, by simp, fun p hp q hq => ?_⟩
          simp only [List.mem_singleton] at hq
          subst hq
          have := (h.hst2 k p hp).2
          show p.1 < s.n + 1
          omega
      · show 0 ≤ p.1 ∧ p.1 ≤ s.n + 1
        rcases com_L s l k with ⟨e, _⟩ | ⟨v, _, e⟩
        · rw [e] at hp
          have := h.hst2 k p hp
          omega
        · rw [e] at hp
          rcases List.mem_append.1 hp with hp | hp
          · have := h.hst2 k p hp; omega
          · simp only [List.mem_singleton] at hp
            subst hp
            dsimp only
            omega
      · show _ ≤ s.n + 1 + 1
        have := h.hlen k
        rcases com_L s l k with ⟨e, _⟩ | ⟨v, _, e⟩
        · rw [e]; omega
        · rw [e]; simp; omega
      · have := h.hne k hk
        rcases com_L s l k with ⟨e, _⟩ | ⟨v, _, e⟩
        · rw [e]; exact this
        · rw [e]; simp
    · rw [if_neg (fun x => ha x.2), if_pos ⟨hk, hh⟩]
      unfold Rd.commitD
      rw [if_neg ha]
      exact h.upto (by omega)
  · rw [if_neg (fun x => hw x.1), if_neg (fun x => hw ((h.ok l).2 x))]
    exact h.upto (by omega)
theorem Rel.time (l : List Ent) (hw : s.wrongS l = 0) : s.comT l = ((d.com n l).st.length : Int) - 1 := by
  have := h.hst
  unfold Sn.comT Rd.com
  rw [if_neg (by rw [hw]; simp), if_pos ((h.ok l).1 hw)]
  unfold Rd.commitD
  split
  · show s.n + 1 = ((d.st ++ [nextL d n l]).length : Int) - 1
    rw [List.length_append, List.length_singleton]
    omega
  · omega
theorem Rel.doF (hm : m ≤ 900) (a : SA) : Rel n (doS n s d a) (doD n s d a) (m + 1) := by
  unfold doS doD
  split
  · exact h.openS.upto (by omega)
  · split
    · exact (h.closeS a.num).upto (by omega)
    · exact h.com hm _
theorem Rel.cut (k t : Int) : Rel n (s.cut k t) d m := by
  have hL : ∀ i, (s.cut k t).L i = s.L i ∨ (s.cut k t).L i = (s.L i).drop (aft (s.L i) t - 1) := fun i => by
    show (if _ then _ else _) = _ ∨ (if _ then _ else _) = _
    split
    · exact .inr rfl
    · exact .inl rfl
  refine { h with last := fun i hi => ?_, hA := fun i => ?_, hst2 := fun i p hp => ?_, hlen := fun i => ?_, hne := fun i hi => ?_ }
  · rcases hL i with e | e
    · rw [e]; exact h.last i hi
    · rw [e, ← h.last i hi]
      have := aft_le (s.L i) t
      have := h.hne i hi
      unfold lastP
      rw [List.getLast?_drop, if_neg (by omega)]
  · rcases hL i with e | e
    · rw [e]; exact h.hA i
    · rw [e]; exact (h.hA i).sublist (List.drop_sublist _ _)
  · rcases hL i with e | e
    · rw [e] at hp; exact h.hst2 i p hp
    · rw [e] at hp; exact h.hst2 i p (List.mem_of_mem_drop hp)
  · have := h.hlen i
    show _ ≤ s.n + 1
    rcases hL i with e | e
    · rw [e]; exact this
    · rw [e, List.length_drop]; omega
  · have := h.hne i hi
    rcases hL i with e | e
    · rw [e]; exact this
    · rw [e, List.length_drop]
      have := aft_le (s.L i) t
      omega
end
/-- The beginning. -/
theorem rel_zero (n : Nat) : Rel n (Sn.zero n) (Rd.new n) 0 where
  hc := rfl
  hvs := by simp [Rd.new]
  hrow := fun i hi => by
    have hi : i < 1 := hi
    obtain rfl : i = 0 := by omega
    simp [Rd.new]
  hst := rfl
  hn0 := Int.le_refl _
  hnm := Int.le_refl _
  last := fun k hk => by
    show (lastP (listOf n noG k)).2 = _
    unfold listOf
    rw [if_pos (by omega)]
    simp [noG, lastP, Rd.nowAt, Rd.new, hk]
  hW := fun k hk => by
    show (0 : Int) = _
    simp [Rd.vsAt, Rd.new, hk]
  hv := fun k hk => by simp [Rd.vsAt, Rd.new, hk, Sn.zero]
  hB := fun j hj => by simp [Sn.zero, Rd.new, Bf, hj]
  hT := fun j hj h => by cases h
  hR := fun j hj => by simp [Sn.zero, Rd.new, hj]
  hA := fun k => by show Asc (listOf n noG k); unfold listOf; split <;> simp [Asc, noG]
  hst2 := fun k p hp => by
    have hp : p ∈ listOf n noG k := hp
    unfold listOf at hp
    split at hp
    · simp [noG] at hp; subst hp; exact ⟨Int.le_refl _, Int.le_refl _⟩
    · cases hp
  hlen := fun k => by
    show ((listOf n noG k).length : Int) ≤ 0 + 1
    unfold listOf
    split <;> simp [noG]
  hne := fun k hk => by
    show 0 < (listOf n noG k).length
    unfold listOf
    rw [if_pos (by omega)]
    simp [noG]
end Go.Proofs.Ytpejhgkcofilmaa
