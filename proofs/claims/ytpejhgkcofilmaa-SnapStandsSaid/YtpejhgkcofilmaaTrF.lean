/- What trim's laws build: a store out of acts, and what holds of it. No program in sight. -/
import Derived.Test.YtpejhgkcofilmaaTrE
set_option linter.unusedVariables false
namespace Go.Proofs.Ytpejhgkcofilmaa
open Go.RowKit

/-- A write: the cell, the stamp, the value. -/
abbrev W3 := Int × Int × Int
/-- The value of the first of the puts that names cell k. -/
def putOf (c : Int) (ps : List (Int × Int)) (k : Int) : Option Int := (ps.find? fun p => (p.1 + 128) % c == k).map (·.2)
/-- The entry that a put gives. -/
def Sn.ent (s : Sn) (k v : Int) : Ent := ⟨k, (lastP (s.L k)).2, s.W k, 0, v, true⟩
def Sn.ents (s : Sn) (ps : List (Int × Int)) : Nat → List Ent
  | 0 => []
  | k + 1 => s.ents ps k ++ ((putOf s.c ps k).map (s.ent k)).toList
def Sn.w3 (s : Sn) (e : Ent) : W3 := (e.loc, s.n + 1, e.new)
def Sn.putS (s : Sn) (all : List W3) (ps : List (Int × Int)) : Sn × List W3 :=
  if (s.ents ps s.c.toNat).length = 0 then (s, all) else (s.commit (s.ents ps s.c.toNat), all ++ (s.ents ps s.c.toNat).map s.w3)
/-- The first free reader. -/
def freeR (B : Nat → Bool) : Option Nat := (List.range 8).find? fun j => !B j
def Sn.openS (s : Sn) : Sn := match freeR s.B with | some r => { s with B := updB s.B r true, T := updT s.T r s.n } | none => s
def Sn.closeS (s : Sn) (r : Int) : Sn := if isR s.B r = true then { s with B := updB s.B (r - 1).toNat false } else s
def stepA (p : Sn × List W3) (a : TAct) : Sn × List W3 :=
  if a.kind % 4 = 1 then (p.1.openS, p.2) else if a.kind % 4 = 2 then (p.1.closeS (1 + a.n % 8), p.2) else p.1.putS p.2 a.ps
def madeF (c : Int) (l : List TAct) : Sn × List W3 := l.foldl stepA (Sn.zero c, [])

structure Good (c : Int) (s : Sn) (all : List W3) (m : Int) : Prop where
  hc : s.c = c
  hn0 : 0 ≤ s.n
  hnm : s.n ≤ m
  hL : ∀ k, 0 ≤ k → k < c → s.L k = (0, 0) :: (all.filter fun x => x.1 == k).map (·.2)
  hO : ∀ k, ¬ (0 ≤ k ∧ k < c) → s.L k = []
  hA : ∀ k, Asc (s.L k)
  hst : ∀ k, ∀ p ∈ s.L k, 0 ≤ p.1 ∧ p.1 ≤ s.n
  hle : ∀ x ∈ all, 0 ≤ x.1 ∧ x.1 < c ∧ 1 ≤ x.2.1 ∧ x.2.1 ≤ s.n
  hlen : ∀ k, ((s.L k).length : Int) ≤ s.n + 1
  hW : ∀ k, 0 ≤ k → k < c → s.W k = ((s.L k).length : Int) - 1
  hT : ∀ j, s.B j = true → 0 ≤ s.T j ∧ s.T j ≤ s.n
  hall : (all.length : Int) ≤ 6 * s.n

theorem good_zero (c : Int) : Good c (Sn.zero c) [] 0 where
  hc := rfl
  hn0 := Int.le_refl _
  hnm := Int.le_refl _
  hL := fun k h0 h1 => by show listOf c noG k = _; unfold listOf; rw [if_pos ⟨h0, h1⟩]; rfl
  hO := fun k h => by show listOf c noG k = _; unfold listOf; rw [if_neg h]
  hA := fun k => by show Asc (listOf c noG k); unfold listOf; split <;> simp [Asc, noG]
  hst := fun k p hp => by
    have hp : p ∈ listOf c noG k := hp
    unfold listOf at hp
    split at hp
    · simp [noG] at hp; subst hp; exact ⟨Int.le_refl _, Int.le_refl _⟩
    · cases hp
  hle := fun x hx => by cases hx
  hlen := fun k => by have := listOf_no c k; show ((listOf c noG k).length : Int) ≤ 0 + 1; omega
  hW := fun k h0 h1 => by show (0 : Int) = ((listOf c noG k).length : Int) - 1; unfold listOf; rw [if_pos ⟨h0, h1⟩]; rfl
  hT := fun j h => by cases h
  hall := by show (0 : Int) ≤ 6 * 0; omega

section
variable {s : Sn} {ps : List (Int × Int)}
theorem ents_mem {m : Nat} {e : Ent} (h : e ∈ s.ents ps m) : ∃ j : Nat, j < m ∧ ∃ v, putOf s.c ps j = some v ∧ e = s.ent j v := by
  induction m with
  | zero => cases h
  | succ k ih =>
    unfold Sn.ents at h
    rcases List.mem_append.1 h with h | h
    · obtain ⟨j, hj, h1⟩ := ih h
      exact ⟨j, by omega, h1⟩
    · cases hp : putOf s.c ps k with
      | none => rw [hp] at h; cases h
      | some v =>
        rw [hp] at h
        simp at h
        exact ⟨k, by omega, v, hp, h⟩
theorem ents_len (m : Nat) : (s.ents ps m).length ≤ m := by
  induction m with
  | zero => simp [Sn.ents]
  | succ k ih =>
    unfold Sn.ents
    rw [List.length_append]
    have : (((putOf s.c ps k).map (s.ent k)).toList).length ≤ 1 := by cases putOf s.c ps k <;> simp
    omega
theorem ents_sorted (m : Nat) : (s.ents ps m).Pairwise fun x y => x.loc < y.loc := by
  induction m with
  | zero => simp [Sn.ents]
  | succ k ih =>
    unfold Sn.ents
    rw [List.pairwise_append]
    refine ⟨ih, ?_, fun x hx y hy => ?_⟩
    · cases putOf s.c ps k <;> simp
    · obtain ⟨j, hj, v, _, rfl⟩ := ents_mem hx
      cases hp : putOf s.c ps k with
      | none => rw [hp] at hy; cases hy
      | some u =>
        rw [hp] at hy
        simp at hy
        subst hy
        show (j : Int) < (k : Int)
        omega
theorem wrOf_snoc (l : List Ent) (e : Ent) (k : Int) : wrOf (l ++ [e]) k = if e.wr = true then (if k = e.loc then some e.new else wrOf l k) else wrOf l k := by
  unfold wrOf
  rw [List.foldl_append]
  rfl
theorem wr_ents (m : Nat) (k : Int) : wrOf (s.ents ps m) k = if 0 ≤ k ∧ k < m then putOf s.c ps k else none := by
  induction m with
  | zero => rw [if_neg (by omega)]; rfl
  | succ j ih =>
    unfold Sn.ents
    cases hp : putOf s.c ps j with
    | none =>
      simp only [Option.map_none, Option.toList_none, List.append_nil]
      rw [ih]
      by_cases h : k = j
      · subst h
        rw [if_neg (by omega), if_pos (by omega), hp]
      · by_cases h1 : 0 ≤ k ∧ k < j
        · rw [if_pos h1, if_pos (by omega)]
        · rw [if_neg h1, if_neg (by omega)]
    | some v =>
      simp only [Option.map_some, Option.toList_some]
      rw [wrOf_snoc, if_pos (show (s.ent j v).wr = true from rfl), ih]
      show (if k = (j : Int) then some v else if 0 ≤ k ∧ k < (j : Int) then putOf s.c ps k else none) = _
      by_cases h : k = j
      · subst h
        rw [if_pos rfl, if_pos (by omega), hp]
      · rw [if_neg h]
        by_cases h1 : 0 ≤ k ∧ k < j
        · rw [if_pos h1, if_pos (by omega)]
        · rw [if_neg h1, if_neg (by omega)]
theorem w3_filter (m : Nat) (k : Int) : ((s.ents ps m).map s.w3).filter (fun x => x.1 == k) = if 0 ≤ k ∧ k < m then ((putOf s.c ps k).map fun v => (k, s.n + 1, v)).toList else [] := by
  induction m with
  | zero => rw [if_neg (by omega)]; rfl
  | succ j ih =>
    unfold Sn.ents
    rw [List.map_append, List.filter_append, ih]
    cases hp : putOf s.c ps j with
    | none =>
      simp only [Option.map_none, Option.toList_none, List.map_nil, List.filter_nil, List.append_nil]
      by_cases h : k = j
      · subst h
        rw [if_neg (by omega), if_pos (by omega), hp]; rfl
      · by_cases h1 : 0 ≤ k ∧ k < j
        · rw [if_pos h1, if_pos (by omega)]
        · rw [if_neg h1, if_neg (by omega)]
    | some v =>
      simp only [Option.map_some, Option.toList_some, List.map_cons, List.map_nil]
      by_cases h : k = j
      · subst h
        rw [if_neg (by omega), if_pos (by omega), hp]
        simp [Sn.w3, Sn.ent]
      · have : List.filter (fun x : W3 => x.1 == k) [s.w3 (s.ent j v)] = [] := by simp [Sn.w3, Sn.ent]; omega
        rw [this, List.append_nil]
        by_cases h1 : 0 ≤ k ∧ k < j
        · rw [if_pos h1, if_pos (by omega)]
        · rw [if_neg h1, if_neg (by omega)]
theorem chkL_sorted (l : List Ent) : ∀ (d : List Ent), (∀ x ∈ l, entE x = 0) → l.Pairwise (fun x y => x.loc < y.loc) → (∀ y ∈ d, ∀ x ∈ l, y.loc < x.loc) → chkL d l = 0 := by
  induction l with
  | nil => intro d _ _ _; rfl
  | cons x t ih =>
    intro d h1 h2 h3
    rw [List.pairwise_cons] at h2
    unfold chkL
    rw [if_neg (by rw [h1 x (List.mem_cons_self ..)]; simp)]
    have hno : (d.any fun y => y.loc == x.loc) = false := by
      rw [List.any_eq_false]
      intro y hy
      have := h3 y hy x (List.mem_cons_self ..)
      simp; omega
    rw [if_neg (by rw [hno]; simp)]
    refine ih _ (fun y hy => h1 y (List.mem_cons_of_mem _ hy)) h2.2 fun y hy z hz => ?_
    rcases List.mem_append.1 hy with hy | hy
    · exact h3 y hy z (List.mem_cons_of_mem _ hz)
    · simp only [List.mem_singleton] at hy
      subst hy
      exact h2.1 z hz
end
section
variable {c m : Int} {s : Sn} {all : List W3} (h : Good c s all m) (hm : m ≤ 1000) (hc0 : 1 ≤ c) (hc6 : c ≤ 6) (ps : List (Int × Int))
include h hm
theorem Good.few : s.Few := fun k => by have := h.hlen k; have := h.hnm; omega
theorem Good.okS : s.Ok := ⟨h.hA, h.few hm⟩
include hc0 hc6
theorem Good.ent_fit {j : Nat} (hj : j < s.c.toNat) (v : Int) : entE (s.ent j v) = 0 ∧ EntOk (s.ent j v) ∧ inC s.c (s.ent j v) = true ∧ s.asS (s.ent j v) = true ∧ addE (s.L j) (s.n + 1) = 0 := by
  have hjc : (j : Int) < c := by have := h.hc; omega
  have hW := h.hW j (by omega) hjc
  have hlen := h.hlen j
  have hpos : 0 < (s.L j).length := by rw [h.hL j (by omega) hjc]; simp
  have hnm := h.hnm
  have hn0 := h.hn0
  refine ⟨?_, ?_, ?_, ?_, ?_⟩
  · unfold entE Sn.ent
    dsimp only
    rw [if_neg (by omega), if_neg (by simp), if_neg (by rw [hW]; omega), if_neg (by simp)]
  · unfold EntOk Sn.ent
    dsimp only
    rw [hW]
    omega
  · unfold inC Sn.ent
    have := h.hc
    simp; omega
  · unfold Sn.asS Sn.ent
    simp
  · unfold addE
    have hlast : (lastP (s.L j)).1 ≤ s.n := by
      obtain ⟨i, hi⟩ : ∃ i, (s.L j).length = i + 1 := ⟨(s.L j).length - 1, by omega⟩
      obtain ⟨hil, hP⟩ := lastP_get _ _ hi
      rw [hP]
      exact (h.hst j _ (List.getElem_mem hil)).2
    rw [if_neg (by omega), if_neg (fun x => by have := x.2; omega), if_neg (by omega)]
theorem Good.ents_ok : (∀ e ∈ s.ents ps s.c.toNat, EntOk e) ∧ (0 < (s.ents ps s.c.toNat).length → s.wrongS (s.ents ps s.c.toNat) = 0 ∧ ∃ k, wrOf (s.ents ps s.c.toNat) k ≠ none) ∧ (∀ e ∈ s.ents ps s.c.toNat, e.wr = true → addE (s.L e.loc) (s.n + 1) = 0) := by
  have hfit := fun j (hj : j < s.c.toNat) v => h.ent_fit hm hc0 hc6 hj v
  have hlen := ents_len (s := s) (ps := ps) s.c.toNat
  refine ⟨fun e he => ?_, fun hpos => ⟨?_, ?_⟩, fun e he _ => ?_⟩
  · obtain ⟨j, hj, v, _, rfl⟩ := ents_mem he
    exact (hfit j hj v).2.1
  · unfold Sn.wrongS
    have hchk : chk (s.ents ps s.c.toNat) = 0 := by
      unfold chk
      rw [if_neg (by omega), if_neg (by have := h.hc; omega)]
      refine chkL_sorted _ [] (fun e he => ?_) (ents_sorted _) (fun y hy => by cases hy)
      obtain ⟨j, hj, v, _, rfl⟩ := ents_mem he
      exact (hfit j hj v).1
    have h1 : (s.ents ps s.c.toNat).any (fun e => !inC s.c e) = false := by
      rw [List.any_eq_false]
      intro e he
      obtain ⟨j, hj, v, _, rfl⟩ := ents_mem he
      rw [(hfit j hj v).2.2.1]; simp
    have h2 : (s.ents ps s.c.toNat).any (fun e => !s.asS e) = false := by
      rw [List.any_eq_false]
      intro e he
      obtain ⟨j, hj, v, _, rfl⟩ := ents_mem he
      rw [(hfit j hj v).2.2.2.1]; simp
    rw [hchk, h1, h2]
    simp
  · obtain ⟨e, he⟩ := List.exists_mem_of_length_pos hpos
    obtain ⟨j, hj, v, hv, rfl⟩ := ents_mem he
    refine ⟨j, ?_⟩
    rw [wr_ents, if_pos (by omega), hv]
    simp
  · obtain ⟨j, hj, v, _, rfl⟩ := ents_mem he
    exact (hfit j hj v).2.2.2.2
theorem Good.put : Good c (s.putS all ps).1 (s.putS all ps).2 (m + 1) := by
  unfold Sn.putS
  have hnm := h.hnm
  have hn0 := h.hn0
  split
  · exact { h with hnm := by show s.n ≤ m + 1; omega }
  · rename_i hne
    have hcc : s.c = c := h.hc
    have hLk : ∀ k, (s.commit (s.ents ps s.c.toNat)).L k = s.L k ++ (if 0 ≤ k ∧ k < c then ((putOf s.c ps k).map fun v => (s.n + 1, v)).toList else []) := by
      intro k
      show (match wrOf (s.ents ps s.c.toNat) k with | some v => s.L k ++ [(s.n + 1, v)] | none => s.L k) = _
      rw [wr_ents, show ((s.c.toNat : Nat) : Int) = c by omega]
      by_cases hk : 0 ≤ k ∧ k < c
      · rw [if_pos hk, if_pos hk]
        cases putOf s.c ps k <;> simp
      · rw [if_neg hk, if_neg hk]
        simp
    have hcase : ∀ k, (s.commit (s.ents ps s.c.toNat)).L k = s.L k ∨ (0 ≤ k ∧ k < c ∧ ∃ v, wrOf (s.ents ps s.c.toNat) k = some v ∧ (s.commit (s.ents ps s.c.toNat)).L k = s.L k ++ [(s.n + 1, v)]) := by
      intro k
      show (match wrOf (s.ents ps s.c.toNat) k with | some v => s.L k ++ [(s.n + 1, v)] | none => s.L k) = _ ∨ (0 ≤ k ∧ k < c ∧ ∃ v, wrOf (s.ents ps s.c.toNat) k = some v ∧ (match wrOf (s.ents ps s.c.toNat) k with | some v => s.L k ++ [(s.n + 1, v)] | none => s.L k) = _)
      cases hw : wrOf (s.ents ps s.c.toNat) k with
      | none => exact .inl rfl
      | some v =>
        rw [wr_ents, show ((s.c.toNat : Nat) : Int) = c by omega] at hw
        split at hw
        · rename_i hk
          exact .inr ⟨hk.1, hk.2, v, rfl, rfl⟩
        · cases hw
    refine ⟨hcc, by show 0 ≤ s.n + 1; omega, by show s.n + 1 ≤ m + 1; omega, fun k h0 h1 => ?_, fun k hk => ?_, fun k => ?_, fun k p hp => ?_, fun x hx => ?_, fun k => ?_, fun k h0 h1 => ?_, fun j hj => ?_, ?_⟩
    · rw [hLk, if_pos ⟨h0, h1⟩, h.hL k h0 h1, List.filter_append, w3_filter, if_pos ⟨h0, by omega⟩, List.map_append]
      cases putOf s.c ps k <;> simp
    · rw [hLk, if_neg hk, h.hO k hk]; rfl
    · rcases hcase k with e | ⟨_, _, v, _, e⟩
      · rw [e]; exact h.hA k
      · rw [e]
        unfold Asc
        rw [List.pairwise_append]
        refine ⟨h.hA k, by simp, fun p hp q hq => ?_⟩
        simp only [List.mem_singleton] at hq
        subst hq
        have := (h.hst k p hp).2
        show p.1 < s.n + 1
        omega
    · show 0 ≤ p.1 ∧ p.1 ≤ s.n + 1
      rcases hcase k with e | ⟨_, _, v, _, e⟩
      · rw [e] at hp
        have := h.hst k p hp
        omega
      · rw [e] at hp
        rcases List.mem_append.1 hp with hp | hp
        · have := h.hst k p hp; omega
        · simp only [List.mem_singleton] at hp
          subst hp
          dsimp only
          omega
    · show 0 ≤ x.1 ∧ x.1 < c ∧ 1 ≤ x.2.1 ∧ x.2.1 ≤ s.n + 1
      rcases List.mem_append.1 hx with hx | hx
      · have := h.hle x hx; omega
      · obtain ⟨e, he, rfl⟩ := List.mem_map.1 hx
        obtain ⟨j, hj, v, _, rfl⟩ := ents_mem he
        show 0 ≤ (j : Int) ∧ (j : Int) < c ∧ 1 ≤ s.n + 1 ∧ s.n + 1 ≤ s.n + 1
        omega
    · show _ ≤ s.n + 1 + 1
      have := h.hlen k
      rcases hcase k with e | ⟨_, _, v, _, e⟩
      · rw [e]; omega
      · rw [e]; simp; omega
    · have hW := h.hW k h0 h1
      have hl := h.hlen k
      show (if (wrOf (s.ents ps s.c.toNat) k).isSome = true then (s.W k + 1) % 4294967296 else s.W k) = (((match wrOf (s.ents ps s.c.toNat) k with | some v => s.L k ++ [(s.n + 1, v)] | none => s.L k) : List (Int × Int)).length : Int) - 1
      cases wrOf (s.ents ps s.c.toNat) k with
      | none => simpa using hW
      | some v => simp; omega
    · have := h.hT j hj
      show 0 ≤ s.T j ∧ s.T j ≤ s.n + 1
      omega
    · have := h.hall
      have := ents_len (s := s) (ps := ps) s.c.toNat
      show ((all ++ (s.ents ps s.c.toNat).map s.w3).length : Int) ≤ 6 * (s.n + 1)
      rw [List.length_append, List.length_map]
      omega
end
theorem Good.openS {c m : Int} {s : Sn} {all : List W3} (h : Good c s all m) : Good c s.openS all m := by
  unfold Sn.openS
  cases freeR s.B with
  | none => exact h
  | some r =>
    refine { h with hT := fun j hj => ?_ }
    dsimp only at hj ⊢
    unfold updB at hj
    unfold updT
    by_cases hr : j = r
    · rw [if_pos hr]; exact ⟨h.hn0, Int.le_refl _⟩
    · rw [if_neg hr] at hj ⊢; exact h.hT j hj
theorem Good.closeS {c m : Int} {s : Sn} {all : List W3} (h : Good c s all m) (r : Int) : Good c (s.closeS r) all m := by
  unfold Sn.closeS
  split
  · refine { h with hT := fun j hj => ?_ }
    dsimp only at hj ⊢
    unfold updB at hj
    split at hj
    · cases hj
    · exact h.hT j hj
  · exact h
theorem Good.step {c m : Int} {s : Sn} {all : List W3} (h : Good c s all m) (hm : m ≤ 1000) (hc0 : 1 ≤ c) (hc6 : c ≤ 6) (a : TAct) : Good c (stepA (s, all) a).1 (stepA (s, all) a).2 (m + 1) := by
  unfold stepA
  have up : ∀ {s' : Sn}, Good c s' all m → Good c s' all (m + 1) := fun h => { h with hnm := by have := h.hnm; omega }
  split
  · exact up h.openS
  · split
    · exact up (h.closeS _)
    · exact h.put hm hc0 hc6 a.ps
theorem good_made (c : Int) (hc0 : 1 ≤ c) (hc6 : c ≤ 6) (l : List TAct) (k : Nat) (hk : k ≤ l.length) (h1 : k ≤ 1000) : Good c (madeF c (l.take k)).1 (madeF c (l.take k)).2 k := by
  induction k with
  | zero => exact good_zero c
  | succ k ih =>
    have := ih (by omega) (by omega)
    have e : madeF c (l.take (k + 1)) = stepA (madeF c (l.take k)) l[k] := foldl_take stepA _ l k (by omega)
    rw [e]
    have h2 := this.step (by omega) hc0 hc6 l[k]
    have e2 : ((k + 1 : Nat) : Int) = (k : Int) + 1 := by omega
    rw [e2]
    exact h2
end Go.Proofs.Ytpejhgkcofilmaa
