/- Three consecutive swaps, as plain laws over lists: what the law's 'made' gives, what their compositions are. No condition beyond the versions' bound. -/
import Derived.Test.YtilapnejkdgomaaDoorEnK
set_option linter.unusedVariables false
set_option linter.unusedSimpArgs false
namespace Go.Proofs.YtilapnejkdgomaaDoor

/-- The entry of a list at a location. -/
def getE (l : List Ent) (i : Int) : Option Ent := l.find? fun y => y.loc == i
def cmbE : Option Ent → Option Ent → Option Ent
  | none, o => o
  | some y, none => some y
  | some y, some x => some (onto y x)
theorem cmbE_assoc (a b c : Option Ent) : cmbE (cmbE a b) c = cmbE a (cmbE b c) := by
  cases a <;> cases b <;> cases c <;> try rfl
  simp only [cmbE, onto, Bool.or_assoc]
theorem getE_mem {l : List Ent} {i : Int} {e : Ent} (h : getE l i = some e) : e ∈ l ∧ e.loc = i := ⟨List.mem_of_find?_eq_some h, by have := List.find?_some h; simpa using this⟩
theorem getE_of {l : List Ent} (hd : Dst l) {e : Ent} (h : e ∈ l) : getE l e.loc = some e := by
  induction l with
  | nil => cases h
  | cons y t ih =>
    have hd' := List.pairwise_cons.1 hd
    unfold getE
    rcases List.mem_cons.1 h with rfl | h
    · rw [List.find?_cons_of_pos (by simp)]
    · rw [List.find?_cons_of_neg (by simpa using hd'.1 e h)]
      exact ih hd'.2 h
theorem getE_none {l : List Ent} {i : Int} (h : ∀ e ∈ l, e.loc ≠ i) : getE l i = none := List.find?_eq_none.2 fun e he => by simpa using h e he
theorem getE_none_of {l : List Ent} {i : Int} (h : getE l i = none) : ∀ e ∈ l, e.loc ≠ i := fun e he => by have := List.find?_eq_none.1 h e he; simpa using this
theorem fk_getE {l : List Ent} (hd : Dst l) (k : Int) : fk Ent.loc k l = (getE l k).toList := by
  cases h : getE l k with
  | none => exact fk_nil _ (getE_none_of h)
  | some e =>
    obtain ⟨he, hk⟩ := getE_mem h
    have hm : e ∈ fk Ent.loc k l := List.mem_filter.2 ⟨he, by simpa using hk⟩
    have hl := dst_fk hd k
    match hf : fk Ent.loc k l, hl, hm with
    | [x], _, hm => rw [List.mem_singleton.1 hm]; rfl
theorem srt_getE {a b : List Ent} (ha : Dst a) (hb : Dst b) (h : ∀ i, getE a i = getE b i) : srt Ent.loc a = srt Ent.loc b :=
  ((srt_sts Ent.loc a).congr Ent.loc fun k => by rw [fk_getE ha, fk_getE hb, h]).eq Ent.loc
theorem getE_perm {a b : List Ent} (ha : Dst a) (p : a.Perm b) (i : Int) : getE a i = getE b i := by
  cases h : getE a i with
  | none => exact (getE_none fun e he => getE_none_of h e (p.mem_iff.2 he)).symm
  | some e =>
    obtain ⟨he, rfl⟩ := getE_mem h
    exact (getE_of (ha.perm p) (p.mem_iff.1 he)).symm
theorem dst_srt {a : List Ent} (h : Dst a) : Dst (srt Ent.loc a) := h.perm (srt_perm a).symm
theorem getE_srt {a : List Ent} (h : Dst a) (i : Int) : getE (srt Ent.loc a) i = getE a i := getE_perm (dst_srt h) (srt_perm a) i
theorem getE_map (x : Ent) (l : List Ent) (i : Int) : getE (l.map (rMap x)) i = (getE l i).map (rMap x) := by
  unfold getE
  rw [List.find?_map]
  congr 1
  exact congrArg (fun f => List.find? f l) (funext fun y => by show ((rMap x y).loc == i) = _; rw [rMap_loc])
theorem getE_put {out : List Ent} {x : Ent} (i : Int) : getE (rPut out x) i = if i = x.loc then cmbE (getE out i) (some x) else getE out i := by
  unfold rPut
  by_cases h : rHas out x = true
  · rw [if_pos h, getE_map]
    cases hg : getE out i with
    | none =>
      rw [if_neg]
      · rfl
      · intro e
        subst e
        obtain ⟨y, hy, he⟩ := List.any_eq_true.1 h
        exact getE_none_of hg y hy (by simpa using he)
    | some y =>
      obtain ⟨_, rfl⟩ := getE_mem hg
      show some (rMap x y) = _
      unfold rMap
      split
      · rfl
      · rfl
  · rw [if_neg h]
    have hn := rHas_false h
    unfold getE
    rw [List.find?_append]
    by_cases e : i = x.loc
    · subst e
      rw [if_pos rfl, show List.find? (fun y => y.loc == x.loc) out = none from getE_none hn]
      simp [cmbE]
    · rw [if_neg e, List.find?_cons_of_neg (by simpa using fun h => e h.symm)]
      simp
theorem getE_go {b : List Ent} : ∀ {out : List Ent}, Dst b → ∀ i, getE (rGo out b) i = cmbE (getE out i) (getE b i) := by
  induction b with
  | nil => intro out _ i; show getE out i = cmbE (getE out i) none; cases getE out i <;> rfl
  | cons x t ih =>
    intro out hd i
    have hd' := List.pairwise_cons.1 hd
    show getE (rGo (rPut out x) t) i = _
    rw [ih hd'.2, getE_put]
    by_cases e : i = x.loc
    · subst e
      rw [if_pos rfl]
      have h1 : getE t x.loc = none := getE_none fun y hy h => hd'.1 y hy h.symm
      have h2 : getE (x :: t) x.loc = some x := getE_of hd (.head _)
      rw [h1, h2]
      cases getE out x.loc <;> rfl
    · rw [if_neg e]
      have h2 : getE (x :: t) i = getE t i := by unfold getE; rw [List.find?_cons_of_neg (by simpa using fun h => e h.symm)]
      rw [h2]

/-- The words of the six locations: value and version. -/
def wG (ws : List (Int × Int)) (i : Int) : Int × Int := ws.getD i.toNat (0, 0)
/-- The list a is a swap that turns the words w into x. -/
structure Sw (w : List (Int × Int)) (a : List Ent) (x : List (Int × Int)) : Prop where
  dst : Dst a
  loc : ∀ e ∈ a, 0 ≤ e.loc ∧ e.loc < 6
  old : ∀ e ∈ a, e.val = (wG w e.loc).1 ∧ e.ver = (wG w e.loc).2 ∧ e.ref = 0
  keep : ∀ e ∈ a, e.wr = false → e.new = e.val
  after : ∀ e ∈ a, wG x e.loc = (e.new, if e.wr = true then e.ver + 1 else e.ver)
  rest : ∀ i, 0 ≤ i → i < 6 → (∀ e ∈ a, e.loc ≠ i) → wG x i = wG w i
/-- The versions are at most B. -/
def VerB (w : List (Int × Int)) (B : Int) : Prop := ∀ i, 0 ≤ i → i < 6 → 0 ≤ (wG w i).2 ∧ (wG w i).2 ≤ B
theorem split_len {α : Type} (f : α → Bool) : ∀ l : List α, l.length = (l.filter f).length + (l.filter fun e => !(f e)).length
  | [] => rfl
  | a :: t => by
    have ih := split_len f t
    cases h : f a <;> simp [h] <;> omega
theorem locs_len : ∀ (N : Nat) (l : List Ent), Dst l → (∀ e ∈ l, 0 ≤ e.loc ∧ e.loc < N) → l.length ≤ N
  | 0, l, _, h => by
    cases l with
    | nil => exact Nat.le_refl _
    | cons e t => have := h e (.head _); omega
  | N + 1, l, hd, h => by
    have h1 := dst_fk hd N
    have h2 := locs_len N (l.filter fun e => !(e.loc == (N : Int))) (List.Pairwise.filter _ hd) fun e he => by
      obtain ⟨he, hn⟩ := List.mem_filter.1 he
      have := h e he
      have hn : e.loc ≠ N := by simpa using hn
      omega
    have h3 : l.length = (fk Ent.loc N l).length + (l.filter fun e => !(e.loc == (N : Int))).length := by
      unfold fk
      exact split_len (fun e : Ent => e.loc == (N : Int)) l
    omega
theorem chkL_of : ∀ {r done : List Ent}, (∀ x ∈ r, entE x = 0) → (∀ x ∈ r, ∀ y ∈ done, y.loc ≠ x.loc) → Dst r → chkL done r = 0
  | [], _, _, _, _ => rfl
  | x :: t, done, h1, h2, h3 => by
    have h3' := List.pairwise_cons.1 h3
    rw [chkL, if_neg (by rw [h1 x (.head _)]; simp), if_neg (fun h => by
      obtain ⟨y, hy, he⟩ := List.any_eq_true.1 h
      exact h2 x (.head _) y hy (by simpa using he))]
    exact chkL_of (fun y hy => h1 y (.tail _ hy)) (fun y hy z hz => by
      rcases List.mem_append.1 hz with hz | hz
      · exact h2 y (.tail _ hy) z hz
      · rw [List.mem_singleton.1 hz]; exact h3'.1 y hy) h3'.2
theorem chk0_of {l : List Ent} (hd : Dst l) (he : ∀ x ∈ l, entE x = 0) (hl : l.length ≤ 32) : chk0 l = 0 := by
  unfold chk0
  split
  · rfl
  · next h0 =>
    unfold chk
    rw [if_neg h0, if_neg (by omega)]
    exact chkL_of he (fun x hx y hy => by cases hy) hd
theorem entE_of {e : Ent} (hl : 0 ≤ e.loc ∧ e.loc < 6) (hr : e.ref = 0) (hk : e.wr = false → e.new = e.val) (hv : e.ver ≠ 4294967295) : entE e = 0 := by
  unfold entE
  rw [if_neg (by omega), if_neg (by simp [hr]), if_neg (fun h => hv h.2), if_neg (fun h => h.2 (hk h.1))]
theorem Sw.chk {w x : List (Int × Int)} {a : List Ent} (h : Sw w a x) {B : Int} (hB : VerB w B) (hb : B < 4294967290) : chk0 a = 0 := by
  refine chk0_of h.dst (fun e he => entE_of (h.loc e he) (h.old e he).2.2 (h.keep e he) ?_) (by have := locs_len 6 a h.dst h.loc; omega)
  have := hB e.loc (h.loc e he).1 (h.loc e he).2
  rw [(h.old e he).2.1]
  omega
theorem Sw.bound {w x : List (Int × Int)} {a : List Ent} (h : Sw w a x) {B : Int} (hB : VerB w B) : VerB x (B + 1) := by
  intro i h0 h1
  have := hB i h0 h1
  cases hg : getE a i with
  | none => rw [h.rest i h0 h1 (getE_none_of hg)]; omega
  | some e =>
    obtain ⟨he, rfl⟩ := getE_mem hg
    rw [h.after e he, (h.old e he).2.1]
    show 0 ≤ (if e.wr = true then _ else _) ∧ (if e.wr = true then _ else _) ≤ B + 1
    split <;> omega
theorem mem_go {a b : List Ent} (ha : Dst a) (hb : Dst b) {e : Ent} (h : e ∈ rGo a b) : (e ∈ a ∧ ∀ x ∈ b, x.loc ≠ e.loc) ∨ (e ∈ b ∧ ∀ y ∈ a, y.loc ≠ e.loc) ∨ ∃ y ∈ a, ∃ x ∈ b, x.loc = y.loc ∧ e = onto y x := by
  have h1 := getE_of ha.go h
  rw [getE_go hb] at h1
  cases h2 : getE a e.loc with
  | none =>
    rw [h2] at h1
    exact .inr (.inl ⟨(getE_mem h1).1, getE_none_of h2⟩)
  | some y =>
    obtain ⟨hy, hyl⟩ := getE_mem h2
    cases h3 : getE b e.loc with
    | none =>
      rw [h2, h3] at h1
      injection h1 with h1
      subst h1
      exact .inl ⟨hy, getE_none_of h3⟩
    | some x =>
      obtain ⟨hx, hxl⟩ := getE_mem h3
      rw [h2, h3] at h1
      injection h1 with h1
      exact .inr (.inr ⟨y, hy, x, hx, hxl.trans hyl.symm, h1.symm⟩)
theorem Sw.mrg {w x y : List (Int × Int)} {a b : List Ent} (ha : Sw w a x) (hb : Sw x b y) {B : Int} (hB : VerB w B) (hb' : B < 4294967280) :
    mrg a b = (srt Ent.loc (rGo a b), 0) ∧ (rGo a b).length ≤ 6 := by
  have hl : (rGo a b).length ≤ 6 := locs_len 6 _ ha.dst.go fun e he => by
    rcases mem_go ha.dst hb.dst he with h | h | ⟨y, hy, x, hx, hxy, rfl⟩
    · exact ha.loc e h.1
    · exact hb.loc e h.1
    · exact ha.loc y hy
  refine ⟨?_, hl⟩
  rw [mrg_ref]
  unfold rMrg
  rw [if_neg (by rw [ha.chk hB (by omega)]; simp), if_neg (by rw [hb.chk (ha.bound hB) (by omega)]; simp), if_neg, if_neg (by omega)]
  intro h
  obtain ⟨e, he, h⟩ := List.any_eq_true.1 h
  obtain ⟨y, hy, h⟩ := List.any_eq_true.1 h
  unfold rMis at h
  simp only [Bool.and_eq_true, beq_iff_eq, Bool.not_eq_true', Bool.and_eq_false_iff, decide_eq_false_iff_not] at h
  obtain ⟨hl, h⟩ := h
  have ho := hb.old e he
  rw [← hl, ha.after y hy] at ho
  have hv := hB y.loc (ha.loc y hy).1 (ha.loc y hy).2
  rw [← (ha.old y hy).2.1] at hv
  rcases h with h | h
  · refine h ?_
    rw [ho.1]
    unfold leafV
    split
    · rfl
    · next hw => exact (ha.keep y hy (by simpa using hw)).symm
  · refine h ?_
    rw [ho.2.1]
    unfold leafN
    show _ = if y.wr = true then _ else _
    split
    · omega
    · rfl
/-- No location is written by both. -/
def twice (a b : List Ent) : Bool := a.any fun p => b.any fun q => p.loc == q.loc && p.wr && q.wr
theorem twice_not {a b : List Ent} (h : twice a b = false) : ∀ p ∈ a, ∀ q ∈ b, p.loc = q.loc → ¬ (p.wr = true ∧ q.wr = true) := by
  intro p hp q hq hl hw
  have : twice a b = true := List.any_eq_true.2 ⟨p, hp, List.any_eq_true.2 ⟨q, hq, by simp [hl, hw.1, hw.2]⟩⟩
  rw [h] at this
  cases this
theorem Sw.go {w x y : List (Int × Int)} {a b : List Ent} (ha : Sw w a x) (hb : Sw x b y) (ht : twice a b = false) : Sw w (rGo a b) y := by
  have hm := fun e he => mem_go ha.dst hb.dst (e := e) he
  refine ⟨ha.dst.go, fun e he => ?_, fun e he => ?_, fun e he => ?_, fun e he => ?_, fun i h0 h1 hn => ?_⟩
  · rcases hm e he with h | h | ⟨p, hp, q, hq, hpq, rfl⟩
    · exact ha.loc e h.1
    · exact hb.loc e h.1
    · exact ha.loc p hp
  · rcases hm e he with h | h | ⟨p, hp, q, hq, hpq, rfl⟩
    · exact ha.old e h.1
    · have h2 := ha.rest e.loc (hb.loc e h.1).1 (hb.loc e h.1).2 h.2
      rw [← h2]
      exact hb.old e h.1
    · exact ha.old p hp
  · rcases hm e he with h | h | ⟨p, hp, q, hq, hpq, rfl⟩
    · exact ha.keep e h.1
    · exact hb.keep e h.1
    · intro hw
      have hw' : (p.wr || q.wr) = false := hw
      have hp0 : p.wr = false := by cases hc : p.wr <;> simp_all
      have hq0 : q.wr = false := by cases hc : q.wr <;> simp_all
      show q.new = p.val
      rw [hb.keep q hq hq0, (hb.old q hq).1, hpq, ha.after p hp]
      exact ha.keep p hp hp0
  · rcases hm e he with h | h | ⟨p, hp, q, hq, hpq, rfl⟩
    · rw [hb.rest e.loc (ha.loc e h.1).1 (ha.loc e h.1).2 h.2]
      exact ha.after e h.1
    · exact hb.after e h.1
    · show wG y p.loc = (q.new, if (p.wr || q.wr) = true then p.ver + 1 else p.ver)
      rw [← hpq, hb.after q hq]
      have hv := (hb.old q hq).2.1
      rw [hpq, ha.after p hp] at hv
      have hv' : q.ver = if p.wr = true then p.ver + 1 else p.ver := hv
      have hn := twice_not ht p hp q hq hpq.symm
      rw [hv']
      cases h1 : p.wr <;> cases h2 : q.wr <;> simp_all
  · have h2 : getE (rGo a b) i = none := getE_none hn
    rw [getE_go hb.dst] at h2
    have h3 : getE a i = none := by
      cases h : getE a i with
      | none => rfl
      | some y => rw [h] at h2; cases hg : getE b i <;> rw [hg] at h2 <;> cases h2
    have h4 : getE b i = none := by rw [h3] at h2; exact h2
    rw [hb.rest i h0 h1 (getE_none_of h4), ha.rest i h0 h1 (getE_none_of h3)]
theorem Sw.srt {w x : List (Int × Int)} {a : List Ent} (h : Sw w a x) : Sw w (srt Ent.loc a) x := by
  have hm := fun e => (srt_sts Ent.loc a).mem Ent.loc e
  exact ⟨dst_srt h.dst, fun e he => h.loc e ((hm e).1 he), fun e he => h.old e ((hm e).1 he), fun e he => h.keep e ((hm e).1 he), fun e he => h.after e ((hm e).1 he), fun i h0 h1 hn => h.rest i h0 h1 fun e he => hn e ((hm e).2 he)⟩
/-- What the law asks of the composition of three. -/
def okAll (w z : List (Int × Int)) (all : List Ent) : Prop := ∀ p ∈ all, 0 ≤ p.loc ∧ p.loc < 6 ∧ p.val = (wG w p.loc).1 ∧ p.ver = (wG w p.loc).2 ∧ p.ref = 0 ∧ p.new = (wG z p.loc).1 ∧ (p.wr = true → (wG w p.loc).2 < (wG z p.loc).2)
theorem Sw.all {w y z : List (Int × Int)} {ab c : List Ent} (ha : Sw w ab y) (hc : Sw y c z) {B : Int} (hB : VerB w B) (hb' : B < 4294967280) :
    okAll w z (Proofs.YtilapnejkdgomaaDoor.srt Ent.loc (rGo ab c)) ∧ chk0 (Proofs.YtilapnejkdgomaaDoor.srt Ent.loc (rGo ab c)) = 0 := by
  have key : okAll w z (rGo ab c) ∧ ∀ p ∈ rGo ab c, p.wr = false → p.new = p.val := by
    refine ⟨fun p hp => ?_, fun p hp hw => ?_⟩
    · rcases mem_go ha.dst hc.dst hp with h | h | ⟨y', hy, x, hx, hxy, rfl⟩
      · have h1 := ha.loc p h.1
        have h2 := ha.old p h.1
        have h3 := hc.rest p.loc h1.1 h1.2 h.2
        have h4 := ha.after p h.1
        rw [← h3] at h4
        refine ⟨h1.1, h1.2, h2.1, h2.2.1, h2.2.2, by rw [h4], fun hw => ?_⟩
        rw [h4, if_pos hw, h2.2.1]
        show _ < _ + 1
        omega
      · have h1 := hc.loc p h.1
        have h2 := hc.old p h.1
        have h3 := ha.rest p.loc h1.1 h1.2 h.2
        have h4 := hc.after p h.1
        rw [h3] at h2
        refine ⟨h1.1, h1.2, h2.1, h2.2.1, h2.2.2, by rw [h4], fun hw => ?_⟩
        rw [h4, if_pos hw, h2.2.1]
        show _ < _ + 1
        omega
      · have h1 := ha.loc y' hy
        have h2 := ha.old y' hy
        have h4 := hc.after x hx
        have h5 := hc.old x hx
        have h6 := ha.after y' hy
        rw [hxy] at h4 h5
        rw [h6] at h5
        have h5v : x.ver = if y'.wr = true then y'.ver + 1 else y'.ver := h5.2.1
        refine ⟨h1.1, h1.2, h2.1, h2.2.1, h2.2.2, by show x.new = _; rw [show (onto y' x).loc = y'.loc from rfl, h4], fun hw => ?_⟩
        have hw' : (y'.wr || x.wr) = true := hw
        rw [show (onto y' x).loc = y'.loc from rfl, h4, h5v]
        show (wG w y'.loc).2 < if x.wr = true then _ else _
        rw [← h2.2.1]
        cases h7 : y'.wr <;> cases h8 : x.wr <;> simp_all <;> omega
    · rcases mem_go ha.dst hc.dst hp with h | h | ⟨y', hy, x, hx, hxy, rfl⟩
      · exact ha.keep p h.1 hw
      · exact hc.keep p h.1 hw
      · have hw' : (y'.wr || x.wr) = false := hw
        have hp0 : y'.wr = false := by cases hq : y'.wr <;> simp_all
        have hq0 : x.wr = false := by cases hq : x.wr <;> simp_all
        show x.new = y'.val
        rw [hc.keep x hx hq0, (hc.old x hx).1, hxy, ha.after y' hy]
        exact ha.keep y' hy hp0
  have hm := fun e => (srt_sts Ent.loc (rGo ab c)).mem Ent.loc e
  refine ⟨fun p hp => key.1 p ((hm p).1 hp), ?_⟩
  refine chk0_of (dst_srt ha.dst.go) (fun e he => ?_) (by rw [srt_len]; have := (ha.mrg hc hB hb').2; omega)
  have h1 := key.1 e ((hm e).1 he)
  have hv := hB e.loc h1.1 h1.2.1
  exact entE_of ⟨h1.1, h1.2.1⟩ h1.2.2.2.2.1 (key.2 e ((hm e).1 he)) (by rw [h1.2.2.2.1]; omega)
theorem mrg_assoc {a b c : List Ent} (ha : Dst a) (hb : Dst b) (hc : Dst c) (h : (mrg a (srt Ent.loc (rGo b c))).2 = 0) : (mrg a (srt Ent.loc (rGo b c))).1 = srt Ent.loc (rGo (srt Ent.loc (rGo a b)) c) := by
  rw [mrg_ref] at h ⊢
  unfold rMrg at h ⊢
  split at h
  · next h1 => exact absurd h h1
  · next h1 =>
    rw [if_neg h1]
    split at h
    · next h2 => exact absurd h h2
    · next h2 =>
      rw [if_neg h2]
      split at h
      · cases h
      · next h3 =>
        rw [if_neg h3]
        split at h
        · cases h
        · next h4 =>
          rw [if_neg h4]
          show srt Ent.loc (rGo a (srt Ent.loc (rGo b c))) = _
          refine srt_getE ha.go (dst_srt ha.go).go fun i => ?_
          rw [getE_go (dst_srt hb.go), getE_srt hb.go, getE_go hc, getE_go hc, getE_srt ha.go, getE_go hb, cmbE_assoc]

/-- The effect of a swap on one location. -/
structure Put where
  at_ : Nat
  new : Int
  wr : Bool
def mkE (ws : List (Int × Int)) (p : Put) : Ent := ⟨((p.at_ % 6 : Nat) : Int), (wG ws ((p.at_ % 6 : Nat) : Int)).1, (wG ws ((p.at_ % 6 : Nat) : Int)).2, 0, if p.wr = true then p.new else (wG ws ((p.at_ % 6 : Nat) : Int)).1, p.wr⟩
def mkStep (ws : List (Int × Int)) (s : List Ent × List (Int × Int)) (p : Put) : List Ent × List (Int × Int) :=
  if (s.1.any fun y => y.loc == ((p.at_ % 6 : Nat) : Int)) = true then s
  else (s.1 ++ [mkE ws p], if p.wr = true then s.2.set (p.at_ % 6) (p.new, (wG ws ((p.at_ % 6 : Nat) : Int)).2 + 1) else s.2)
def mk (ws : List (Int × Int)) (l : List Put) : List Ent × List (Int × Int) := l.foldl (mkStep ws) ([], ws)
theorem mk_snoc (ws : List (Int × Int)) (l : List Put) (p : Put) : mk ws (l ++ [p]) = mkStep ws (mk ws l) p := by unfold mk; rw [List.foldl_append]; rfl
theorem wG_set {ws : List (Int × Int)} {k : Nat} {v : Int × Int} (hk : k < ws.length) (i : Int) (h0 : 0 ≤ i) : wG (ws.set k v) i = if i = k then v else wG ws i := by
  unfold wG
  rw [List.getD_eq_getElem?_getD, List.getD_eq_getElem?_getD, List.getElem?_set]
  by_cases h : i = k
  · subst h
    rw [if_pos rfl, if_pos (by omega), if_pos (by simpa using hk)]
    rfl
  · rw [if_neg h, if_neg (by omega)]
theorem mkStep_sw {ws : List (Int × Int)} {s : List Ent × List (Int × Int)} (p : Put) (hl : s.2.length = 6) (h : Sw ws s.1 s.2) : Sw ws (mkStep ws s p).1 (mkStep ws s p).2 ∧ (mkStep ws s p).2.length = 6 := by
  unfold mkStep
  split
  · exact ⟨h, hl⟩
  · next hn =>
    have hk : p.at_ % 6 < 6 := Nat.mod_lt _ (by omega)
    generalize hkk : p.at_ % 6 = k at *
    have hne : ∀ y ∈ s.1, y.loc ≠ (k : Int) := fun y hy e => hn (List.any_eq_true.2 ⟨y, hy, by simpa using e⟩)
    have hE : mkE ws p = ⟨(k : Int), (wG ws (k : Int)).1, (wG ws (k : Int)).2, 0, if p.wr = true then p.new else (wG ws (k : Int)).1, p.wr⟩ := by unfold mkE; rw [hkk]
    have hx : ∀ i : Int, 0 ≤ i → i ≠ k → wG (if p.wr = true then s.2.set k (p.new, (wG ws (k : Int)).2 + 1) else s.2) i = wG s.2 i := fun i h0 hi => by
      split
      · rw [wG_set (by omega) i h0, if_neg hi]
      · rfl
    refine ⟨⟨?_, fun e he => ?_, fun e he => ?_, fun e he => ?_, fun e he => ?_, fun i h0 h1 hni => ?_⟩, by dsimp only; split <;> simp [hl]⟩
    · refine List.pairwise_append.2 ⟨h.dst, List.pairwise_singleton .., fun a ha b hb => ?_⟩
      rw [List.mem_singleton.1 hb, hE]
      exact hne a ha
    all_goals dsimp only at *
    · rcases List.mem_append.1 he with he | he
      · exact h.loc e he
      · rw [List.mem_singleton.1 he, hE]; exact ⟨by dsimp only; omega, by dsimp only; omega⟩
    · rcases List.mem_append.1 he with he | he
      · exact h.old e he
      · rw [List.mem_singleton.1 he, hE]; exact ⟨rfl, rfl, rfl⟩
    · rcases List.mem_append.1 he with he | he
      · exact h.keep e he
      · rw [List.mem_singleton.1 he, hE]; intro hw; dsimp only at hw ⊢; rw [hw]; simp
    · rcases List.mem_append.1 he with he | he
      · rw [hx e.loc (h.loc e he).1 (hne e he)]; exact h.after e he
      · rw [List.mem_singleton.1 he, hE]
        dsimp only
        by_cases hw : p.wr = true
        · rw [if_pos hw, wG_set (by omega) _ (by omega), if_pos rfl, if_pos hw, if_pos hw]
        · rw [if_neg hw, if_neg hw, if_neg hw, h.rest (k : Int) (by omega) (by omega) hne]
    · have h2 : i ≠ k := fun e => hni (mkE ws p) (List.mem_append_right _ (.head _)) (by rw [hE]; exact e.symm)
      rw [hx i h0 h2]
      exact h.rest i h0 h1 fun e he => hni e (List.mem_append_left _ he)
theorem mk_sw {ws : List (Int × Int)} (hl : ws.length = 6) (l : List Put) : Sw ws (mk ws l).1 (mk ws l).2 ∧ (mk ws l).2.length = 6 := by
  have go : ∀ (l : List Put) (s : List Ent × List (Int × Int)), s.2.length = 6 → Sw ws s.1 s.2 → Sw ws (l.foldl (mkStep ws) s).1 (l.foldl (mkStep ws) s).2 ∧ (l.foldl (mkStep ws) s).2.length = 6 := by
    intro l
    induction l with
    | nil => intro s h1 h2; exact ⟨h2, h1⟩
    | cons p t ih => intro s h1 h2; have h3 := mkStep_sw p h1 h2; exact ih _ h3.2 h3.1
  exact go l ([], ws) hl ⟨List.Pairwise.nil, fun e h => (by cases h), fun e h => (by cases h), fun e h => (by cases h), fun e h => (by cases h), fun i _ _ _ => rfl⟩
end Go.Proofs.YtilapnejkdgomaaDoor
