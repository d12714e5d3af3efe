/- Stable sorting of a list by an integer key, as plain laws: what it is, that it is one, and the steps that the library's code takes. No condition. -/
import Derived.Test.YtilapnejkdgomaaDoorBase
set_option linter.unusedVariables false
set_option linter.unusedSimpArgs false
namespace Go.Proofs.YtilapnejkdgomaaDoor

section
variable {α : Type} (key : α → Int)

/-- In ascending order of the keys. -/
def Asc (l : List α) : Prop := l.Pairwise fun a b => key a ≤ key b
/-- The elements with key k, in their order. -/
def fk (k : Int) (l : List α) : List α := l.filter fun a => key a == k
theorem fk_app (k : Int) (a b : List α) : fk key k (a ++ b) = fk key k a ++ fk key k b := List.filter_append ..
theorem fk_nil {k : Int} {l : List α} (h : ∀ a ∈ l, key a ≠ k) : fk key k l = [] := by
  unfold fk
  rw [List.filter_eq_nil_iff]
  intro a ha
  simpa using h a ha
theorem fk_none {l : List α} (h : ∀ k, fk key k l = []) : l = [] := by
  cases l with
  | nil => rfl
  | cons a t =>
    have := h (key a)
    simp [fk] at this
/-- r is l, stably sorted. -/
def StS (l r : List α) : Prop := Asc key r ∧ ∀ k, fk key k r = fk key k l
theorem asc_unique : ∀ {r1 r2 : List α}, Asc key r1 → Asc key r2 → (∀ k, fk key k r1 = fk key k r2) → r1 = r2
  | [], r2, _, _, h => by
    have : r2 = [] := fk_none key fun k => (h k).symm
    rw [this]
  | a :: t1, [], _, _, h => by
    have := fk_none key (l := a :: t1) fun k => (h k).trans rfl
    cases this
  | a :: t1, b :: t2, h1, h2, h => by
    have h1' := List.pairwise_cons.1 h1
    have h2' := List.pairwise_cons.1 h2
    have hab : key a = key b := by
      have ha : key b ≤ key a := by
        have e : a ∈ fk key (key a) (b :: t2) := by rw [← h]; simp [fk]
        have : a ∈ b :: t2 := (List.mem_filter.1 e).1
        rcases List.mem_cons.1 this with rfl | hm
        · omega
        · exact h2'.1 a hm
      have hb : key a ≤ key b := by
        have e : b ∈ fk key (key b) (a :: t1) := by rw [h]; simp [fk]
        have : b ∈ a :: t1 := (List.mem_filter.1 e).1
        rcases List.mem_cons.1 this with rfl | hm
        · omega
        · exact h1'.1 b hm
      omega
    have hk := h (key a)
    have e1 : fk key (key a) (a :: t1) = a :: fk key (key a) t1 := by simp [fk]
    have e2 : fk key (key a) (b :: t2) = b :: fk key (key a) t2 := by simp [fk, hab]
    rw [e1, e2] at hk
    injection hk with hab2 hkt
    subst hab2
    rw [asc_unique h1'.2 h2'.2 fun k => by
      have hk := h k
      by_cases hc : key a = k
      · subst hc; exact hkt
      · have e3 : ∀ t, fk key k (a :: t) = fk key k t := fun t => by simp [fk, hc]
        rwa [e3, e3] at hk]
theorem StS.unique {l r1 r2 : List α} (h1 : StS key l r1) (h2 : StS key l r2) : r1 = r2 := asc_unique key h1.1 h2.1 fun k => (h1.2 k).trans (h2.2 k).symm
theorem StS.of_asc {l : List α} (h : Asc key l) : StS key l l := ⟨h, fun _ => rfl⟩
theorem StS.mem {l r : List α} (h : StS key l r) (a : α) : a ∈ r ↔ a ∈ l := by
  have e : ∀ x : List α, a ∈ x ↔ a ∈ fk key (key a) x := fun x => by simp [fk]
  rw [e r, e l, h.2]
theorem StS.congr {l l' r : List α} (h : StS key l r) (hk : ∀ k, fk key k l = fk key k l') : StS key l' r := ⟨h.1, fun k => (h.2 k).trans (hk k)⟩
theorem StS.trans {l m r : List α} (h1 : StS key l m) (h2 : StS key m r) : StS key l r := ⟨h2.1, fun k => (h2.2 k).trans (h1.2 k)⟩
theorem StS.app_left {l m r x : List α} (h : StS key l m) (h2 : StS key (x ++ m) r) : StS key (x ++ l) r := h2.congr key fun k => by rw [fk_app, fk_app, h.2]
theorem StS.app_right {l m r x : List α} (h : StS key l m) (h2 : StS key (m ++ x) r) : StS key (l ++ x) r := h2.congr key fun k => by rw [fk_app, fk_app, h.2]
theorem asc_app {a b : List α} (ha : Asc key a) (hb : Asc key b) (h : ∀ x ∈ a, ∀ y ∈ b, key x ≤ key y) : Asc key (a ++ b) := List.pairwise_append.2 ⟨ha, hb, h⟩
theorem asc_left {a b : List α} (h : Asc key (a ++ b)) : Asc key a := (List.pairwise_append.1 h).1
theorem asc_right {a b : List α} (h : Asc key (a ++ b)) : Asc key b := (List.pairwise_append.1 h).2.1
theorem asc_across {a b : List α} (h : Asc key (a ++ b)) : ∀ x ∈ a, ∀ y ∈ b, key x ≤ key y := (List.pairwise_append.1 h).2.2
/-- Two blocks with no common key change places without a change of the order of equals. -/
theorem fk_comm {a b : List α} (h : ∀ x ∈ a, ∀ y ∈ b, key y < key x) (k : Int) : fk key k a ++ fk key k b = fk key k b ++ fk key k a := by
  by_cases hb : ∃ y ∈ b, key y = k
  · obtain ⟨y, hy, rfl⟩ := hb
    have : fk key (key y) a = [] := fk_nil key fun x hx e => by have := h x hx y hy; omega
    rw [this, List.nil_append, List.append_nil]
  · have : fk key k b = [] := fk_nil key fun y hy e => hb ⟨y, hy, e⟩
    rw [this, List.nil_append, List.append_nil]
/-- The merge's step: two sorted blocks, each cut in two, the inner ones exchanged. -/
theorem StS.sym {x1 x2 y1 y2 r1 r2 : List α} (hx : Asc key (x1 ++ x2)) (hy : Asc key (y1 ++ y2)) (h12 : ∀ x ∈ x1, ∀ y ∈ y2, key x ≤ key y) (h21 : ∀ x ∈ x2, ∀ y ∈ y1, key y < key x)
    (h1 : StS key (x1 ++ y1) r1) (h2 : StS key (x2 ++ y2) r2) : StS key ((x1 ++ x2) ++ (y1 ++ y2)) (r1 ++ r2) := by
  refine ⟨asc_app key h1.1 h2.1 fun a ha b hb => ?_, fun k => ?_⟩
  · rcases List.mem_append.1 ((h1.mem key a).1 ha) with ha | ha <;> rcases List.mem_append.1 ((h2.mem key b).1 hb) with hb | hb
    · exact asc_across key hx a ha b hb
    · exact h12 a ha b hb
    · have := h21 b hb a ha; omega
    · exact asc_across key hy a ha b hb
  · rw [fk_app, h1.2, h2.2, fk_app, fk_app, fk_app, fk_app, fk_app, List.append_assoc, List.append_assoc, ← List.append_assoc (fk key k x2), fk_comm key h21, List.append_assoc]
/-- An element put into a sorted list, behind all that are not greater. -/
def insS (x : α) : List α → List α
  | [] => [x]
  | y :: t => if key x < key y then x :: y :: t else y :: insS x t
theorem insS_mem (x : α) : ∀ (l : List α) (a : α), a ∈ insS key x l ↔ a = x ∨ a ∈ l
  | [], a => by simp [insS]
  | y :: t, a => by
    unfold insS
    split
    · simp
    · simp [insS_mem x t a]
      constructor
      · rintro (h | h | h) <;> simp [h]
      · rintro (h | h | h) <;> simp [h]
theorem insS_asc (x : α) : ∀ {l : List α}, Asc key l → Asc key (insS key x l)
  | [], _ => List.pairwise_singleton ..
  | y :: t, h => by
    have h' := List.pairwise_cons.1 h
    unfold insS
    split
    · next hc =>
      refine List.pairwise_cons.2 ⟨fun a ha => ?_, h⟩
      rcases List.mem_cons.1 ha with rfl | ha
      · omega
      · have := h'.1 a ha; omega
    · next hc =>
      refine List.pairwise_cons.2 ⟨fun a ha => ?_, insS_asc x h'.2⟩
      rcases (insS_mem key x t a).1 ha with rfl | ha
      · omega
      · exact h'.1 a ha
theorem insS_fk (x : α) (k : Int) : ∀ {l : List α}, Asc key l → fk key k (insS key x l) = fk key k (l ++ [x])
  | [], _ => rfl
  | y :: t, h => by
    have h' := List.pairwise_cons.1 h
    unfold insS
    split
    · next hc =>
      by_cases hk : key x = k
      · have : fk key k (y :: t) = [] := fk_nil key fun a ha e => by
          rcases List.mem_cons.1 ha with rfl | ha
          · omega
          · have := h'.1 a ha; omega
        rw [fk_app, this, List.nil_append]
        have e : fk key k (x :: y :: t) = x :: fk key k (y :: t) := by simp [fk, hk]
        rw [e, this]
        simp [fk, hk]
      · have e : fk key k [x] = [] := by simp [fk, hk]
        rw [fk_app, e, List.append_nil]
        simp [fk, hk]
    · have ih := insS_fk x k h'.2
      by_cases hk : key y = k
      · have e : ∀ s, fk key k (y :: s) = y :: fk key k s := fun s => by simp [fk, hk]
        rw [List.cons_append, e, e, ih]
      · have e : ∀ s, fk key k (y :: s) = fk key k s := fun s => by simp [fk, hk]
        rw [List.cons_append, e, e, ih]
/-- The stable sort. -/
def srt : List α → List α := List.foldl (fun acc x => insS key x acc) []
theorem srt_go (l acc : List α) (h : Asc key acc) : StS key (acc ++ l) (l.foldl (fun acc x => insS key x acc) acc) := by
  induction l generalizing acc with
  | nil => rw [List.append_nil]; exact StS.of_asc key h
  | cons x t ih =>
    rw [List.foldl_cons]
    have h1 := ih (insS key x acc) (insS_asc key x h)
    have e : acc ++ x :: t = (acc ++ [x]) ++ t := by simp
    rw [e]
    exact h1.congr key fun k => by rw [fk_app, fk_app, insS_fk key x k h]
theorem srt_sts (l : List α) : StS key l (srt key l) := srt_go key l [] List.Pairwise.nil
theorem StS.eq {l r : List α} (h : StS key l r) : r = srt key l := h.unique key (srt_sts key l)
theorem srt_asc {l : List α} (h : Asc key l) : srt key l = l := ((StS.of_asc key h).eq key).symm
theorem insS_app {x : α} {a b : List α} (ha : ∀ y ∈ a, key y ≤ key x) (hb : ∀ y, b.head? = some y → key x < key y) : insS key x (a ++ b) = a ++ x :: b := by
  induction a with
  | nil =>
    cases b with
    | nil => rfl
    | cons y t => rw [List.nil_append, insS, if_pos (hb y rfl), List.nil_append]
  | cons y t ih => rw [List.cons_append, insS, if_neg (by have := ha y (.head _); omega), ih fun z hz => ha z (.tail _ hz), List.cons_append]
/-- Two elements of a list change places. -/
def swp (l : List α) (i j : Nat) (hi : i < l.length) (hj : j < l.length) : List α := (l.set i l[j]).set j l[i]
theorem swp_app {p m q : List α} {x y : α} : ∀ (hi : p.length < (p ++ x :: (m ++ y :: q)).length) (hj : p.length + 1 + m.length < (p ++ x :: (m ++ y :: q)).length), swp (p ++ x :: (m ++ y :: q)) p.length (p.length + 1 + m.length) hi hj = p ++ y :: (m ++ x :: q) := by
  intro hi hj
  unfold swp
  have e1 : (p ++ x :: (m ++ y :: q))[p.length + 1 + m.length] = y := by
    rw [List.getElem_append_right (by omega)]
    simp only [show p.length + 1 + m.length - p.length = m.length + 1 by omega, List.getElem_cons_succ]
    rw [List.getElem_append_right (Nat.le_refl _)]
    simp
  have e2 : (p ++ x :: (m ++ y :: q))[p.length] = x := by
    rw [List.getElem_append_right (Nat.le_refl _)]
    simp
  rw [e1, e2, List.set_append_right _ _ (Nat.le_refl _), Nat.sub_self, List.set_cons_zero, List.set_append_right _ _ (by omega), show p.length + 1 + m.length - p.length = m.length + 1 by omega, List.set_cons_succ, List.set_append_right _ _ (Nat.le_refl _), Nat.sub_self, List.set_cons_zero]
end
end Go.Proofs.YtilapnejkdgomaaDoor
