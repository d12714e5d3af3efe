/- What ParserJoins asks: the joined text's program; rows appended to a row of the call's own. No condition. -/
import Derived.Test.YtkakbidllpjopaaGreatDoorPzW
import Derived.Test.YtkakbidllpjopaaGreatDoorRbA
set_option linter.unusedVariables false
set_option linter.unusedSimpArgs false
namespace Go.Proofs.YtkakbidllpjopaaGreatDoor
open Go.RowKit

def bothP (p q : Prog') : Prog' := ⟨p.stores ++ q.stores, p.opers ++ q.opers⟩
theorem prP_join {a b : Str} (ha : (prP a).2.2 = 0) (hb : (prP b).2.2 = 0) (la : a.length ≤ 600) (lb : b.length ≤ 600) :
    prP (a ++ [10] ++ b) = if chkP (bothP (prP a).1 (prP b).1) = 0 then (bothP (prP a).1 (prP b).1, 0, 0) else (emP, 0, chkP (bothP (prP a).1 (prP b).1)) := by
  obtain ⟨sa, -, -, -, ra, pa⟩ := prP_zero ha
  obtain ⟨sb, -, -, -, rb, pb⟩ := prP_zero hb
  obtain ⟨ta, xa, ea, na⟩ := toks_of sa
  obtain ⟨tb, xb, eb, nb⟩ := toks_of sb
  rw [ea] at pa
  rw [eb] at pb
  have hj := Lx.lex_join a.length a (Nat.le_refl _) ta b tb xa xb
  have e : (a ++ [10] ++ b : Str) = a ++ 10 :: b := by simp
  rw [e]
  obtain ⟨k1, k2⟩ := scan_of hj (by rw [List.length_append, List.length_cons]; omega)
  have hp : pP ((Lx.scanL (a ++ 10 :: b)).1.map tkq) = .ok (bothP (prP a).1 (prP b).1) rb := by
    rw [k2, List.append_assoc]
    exact pP_join pa pb na
  exact prP_ok k1 hp
theorem both_lim {p q : Prog'} {n m : Nat} (hp : p.Lim n) (hq : q.Lim m) : (bothP p q).Lim (n + m) := by
  refine ⟨?_, ?_, ?_⟩
  · have := hp.1
    have := hq.1
    unfold bothP
    rw [List.length_append]
    omega
  · have := hp.2.1
    have := hq.2.1
    unfold bothP
    rw [List.length_append]
    omega
  · intro o ho
    unfold bothP at ho
    rcases List.mem_append.1 ho with h | h
    · have := hp.2.2 o h; omega
    · have := hq.2.2 o h; omega
/-- A row of the call's own whose elements stand in S. -/
def OwnR {α : Type} (V : World → (Nat → Prop) → α → List Value → Prop) (e : TypeId) (size : Nat) (S : Nat → Prop) (w : World) (base : Nat) (v : Value) (l : List α) : Prop :=
  ∃ css : List (List Value), css.length = l.length ∧ w.ownsRow base e size v l.length css.flatten ∧ (∀ cs ∈ css, cs.length = size) ∧ ∀ (i : Nat) (x : α), l[i]? = some x → ∃ cs, css[i]? = some cs ∧ V w S x cs
section
variable {α : Type} {V : World → (Nat → Prop) → α → List Value → Prop} {e : TypeId} {size : Nat} {S : Nat → Prop} {w w' : World} {base : Nat} {v : Value} {l : List α}
theorem OwnR.nil (w : World) (base : Nat) : OwnR V e size S w base (.slice none 0 0) [] := by
  refine ⟨[], rfl, World.ownsRow_nil _ _ _ _, ?_, ?_⟩
  · intro cs h
    cases h
  · intro i x h
    simp at h
theorem OwnR.lt (h : OwnR V e size S w base v l) : ∀ k, v.ownBlock = some k → base ≤ k ∧ k < w.heap.size := by
  obtain ⟨css, h1, h2, h3, h4⟩ := h
  exact fun k hk => h2.lt k hk
theorem OwnR.gr (hV : VOk V size) (h : OwnR V e size S w base v l) {r : Option Nat} (hg : w.grownBy w' r) (hr : ∀ k, r = some k → v.ownBlock ≠ some k ∧ ¬ S k) : OwnR V e size S w' base v l := by
  obtain ⟨css, h1, h2, h3, h4⟩ := h
  refine ⟨css, h1, World.ownsRow.kept h2 hg ?_, h3, fun i x hx => ?_⟩
  · cases hv : v.ownBlock with
    | none => exact .inl rfl
    | some k => exact .inr fun e => (hr k e.symm).1 hv
  · obtain ⟨cs, e1, e2⟩ := h4 i x hx
    exact ⟨cs, e1, hV.keep hg.size (fun b hb hS => hg.block b hb fun e => (hr b e.symm).2 hS) (fun _ _ h => h) e2⟩
/-- A row's elements, cell by cell. -/
theorem css_of {A : Option Addr} {n c : Nat} (h : RowOf w S size A n c fun i cs => ∃ x, l[i]? = some x ∧ V w S x cs) (hn : n = l.length) (hV : VOk V size) : ∃ css : List (List Value), css.length = l.length ∧ Reads w (fun _ => True) size A n css.flatten ∧ (∀ cs ∈ css, cs.length = size) ∧ ∀ (i : Nat) (x : α), l[i]? = some x → ∃ cs, css[i]? = some cs ∧ V w S x cs := by
  rcases Nat.eq_zero_or_pos n with h0 | hpos
  · have hl : l = [] := List.eq_nil_of_length_eq_zero (by omega)
    subst hl
    refine ⟨[], rfl, ?_, fun cs h => (by cases h), fun i x h => by simp at h⟩
    exact ⟨by rw [h0]; simp, fun h => absurd h (by omega)⟩
  · obtain ⟨b, q, rfl, hb, hS, hx⟩ := h.2 hpos
    have key : ∀ k, k ≤ n → ∃ css : List (List Value), css.length = k ∧ (∀ cs ∈ css, cs.length = size) ∧ ∀ i, i < k → ∃ cs, css[i]? = some cs ∧ (∃ x, l[i]? = some x ∧ V w S x cs) ∧ w.rangeAt b (q + i * size) cs := by
      intro k
      induction k with
      | zero => exact fun _ => ⟨[], rfl, (fun cs h => by cases h), fun i h => absurd h (Nat.not_lt_zero _)⟩
      | succ k ih =>
        intro hk
        obtain ⟨css, c1, c2, c3⟩ := ih (by omega)
        obtain ⟨cs, h1, h2⟩ := hx k (by omega)
        refine ⟨css ++ [cs], by simp [c1], fun ds hd => ?_, fun i hi => ?_⟩
        · rcases List.mem_append.1 hd with hd | hd
          · exact c2 ds hd
          · rw [List.mem_singleton.1 hd]
            obtain ⟨x, _, hv⟩ := h1
            exact hV.len hv
        · by_cases hik : i < k
          · obtain ⟨ds, e1, e2⟩ := c3 i hik
            exact ⟨ds, by rw [List.getElem?_append_left (by omega)]; exact e1, e2⟩
          · obtain rfl : i = k := by omega
            exact ⟨cs, by rw [List.getElem?_append_right (by omega), c1, Nat.sub_self]; rfl, h1, h2⟩
    obtain ⟨css, c1, c2, c3⟩ := key n (Nat.le_refl _)
    refine ⟨css, by omega, ⟨?_, fun _ => ⟨b, q, rfl, hb, trivial, fun j u hu => ?_⟩⟩, c2, fun i x hx2 => ?_⟩
    · clear c3 key
      have : ∀ (l : List (List Value)), (∀ cs ∈ l, cs.length = size) → l.flatten.length = l.length * size := by
        intro l
        induction l with
        | nil => intro _; simp
        | cons a t ih =>
          intro h
          rw [List.flatten_cons, List.length_append, ih (fun cs hc => h cs (by simp [hc])), h a (by simp), List.length_cons, Nat.succ_mul]
          omega
      rw [this css c2, c1]
    · have hs : 0 < size := by
        rcases Nat.eq_zero_or_pos size with h0 | h0
        · exfalso
          have hz : ∀ (l : List (List Value)), (∀ cs ∈ l, cs.length = size) → l.flatten = [] := by
            intro l
            induction l with
            | nil => intro _; rfl
            | cons a t ih =>
              intro h
              have ha : a = [] := List.eq_nil_of_length_eq_zero (by rw [h a (by simp), h0])
              rw [List.flatten_cons, ih (fun cs hc => h cs (by simp [hc])), ha]
              rfl
          rw [hz css c2] at hu
          simp at hu
        · exact h0
      have hj : j < css.flatten.length := (List.getElem?_eq_some_iff.1 hu).1
      have hfl : ∀ (l : List (List Value)) (j : Nat) (u : Value), (∀ cs ∈ l, cs.length = size) → l.flatten[j]? = some u → ∃ cs, l[j / size]? = some cs ∧ cs[j % size]? = some u := by
        intro l
        induction l with
        | nil => intro j u _ h; simp at h
        | cons a t ih =>
          intro j u hc h
          have ha := hc a (by simp)
          rw [List.flatten_cons] at h
          by_cases hja : j < size
          · rw [List.getElem?_append_left (by omega)] at h
            exact ⟨a, by rw [Nat.div_eq_of_lt hja]; rfl, by rw [Nat.mod_eq_of_lt hja]; exact h⟩
          · rw [List.getElem?_append_right (by omega), ha] at h
            obtain ⟨cs, h1, h2⟩ := ih (j - size) u (fun cs hcs => hc cs (by simp [hcs])) h
            have hd : j / size = (j - size) / size + 1 := by rw [← Nat.add_div_right _ hs]; congr 1; omega
            have hm : j % size = (j - size) % size := (Nat.mod_eq_sub_mod (by omega)).trans rfl
            exact ⟨cs, by rw [hd, List.getElem?_cons_succ]; exact h1, by rw [hm]; exact h2⟩
      obtain ⟨cs, h1, h2⟩ := hfl css j u c2 hu
      have hji : j / size < n := by rw [← c1]; exact (List.getElem?_eq_some_iff.1 h1).1
      obtain ⟨ds, d1, d2, d3⟩ := c3 _ hji
      obtain rfl : cs = ds := by rw [h1] at d1; exact Option.some.inj d1
      have := d3 _ _ h2
      rw [show q + j / size * size + j % size = q + j from by rw [Nat.add_assoc, Nat.div_add_mod']] at this
      exact this
    · have hi : i < n := by rw [hn]; exact (List.getElem?_eq_some_iff.1 hx2).1
      obtain ⟨cs, d1, ⟨y, d2, d3⟩, -⟩ := c3 i hi
      obtain rfl : x = y := by rw [hx2] at d2; exact Option.some.inj d2
      exact ⟨cs, d1, d3⟩
/-- A row appended. -/
theorem OwnR.apps {t ty : TypeId} (hV : VOk V size) (hA : AppOk t e size) (h : OwnR V e size S w base v l) {l2 : List α} {A : Option Addr} {n c : Nat} (h2 : RowOf w S size A n c fun i cs => ∃ x, l2[i]? = some x ∧ V w S x cs) (hn : n = l2.length) (hl : l.length + n ≤ 1000000) (hb : base ≤ w.heap.size) (hv : ∀ k, v.ownBlock = some k → ¬ S k) :
    ∃ v' w', (Builtin.append_ #[t, t] ty #[v, .slice A n c]).run Tryz.prog w = .ok v' w' ∧ OwnR V e size S w' base v' (l ++ l2) ∧ w.grownBy w' v.ownBlock ∧ (v'.ownBlock = v.ownBlock ∨ v'.ownBlock = some w.heap.size) := by
  obtain ⟨ys, y1, y2, y3, y4⟩ := css_of h2 hn hV
  obtain ⟨css, c1, c2, c3, c4⟩ := h
  obtain ⟨ht, hs0, i, z, bytes, hi, hz, his, hib, hzs, hbb⟩ := hA
  have hone : ∀ u ∈ ys.flatten, u.oneCell' = true := fun u hu => by
    obtain ⟨cs, hcs, hu⟩ := List.mem_flatten.1 hu
    obtain ⟨j, hj, rfl⟩ := List.mem_iff_getElem.1 hcs
    obtain ⟨ds, d1, d2⟩ := y4 j _ (List.getElem?_eq_getElem (by omega))
    obtain rfl : ys[j] = ds := by rw [List.getElem?_eq_getElem hj] at d1; exact Option.some.inj d1
    exact hV.one d2 u hu
  obtain ⟨v', w', e1, e2, e3, e4⟩ := run_append_any (P := Tryz.prog) w base t ty e i z size bytes ht hi hz his hib hzs hs0 v l.length _ c2 (fun _ => True) A n c ys.flatten y2 hone (by unfold maxLen; omega) (Nat.le_trans (Nat.mul_le_mul hl hbb) (by omega)) hb
  have keep : ∀ {x : α} {ds : List Value}, V w S x ds → V w' S x ds := fun hx => hV.keep e3.size (fun b hb hS => e3.block b hb (fun e => hv b e.symm hS)) (fun _ _ h => h) hx
  refine ⟨v', w', e1, ⟨css ++ ys, by simp [c1, y1], by rw [List.length_append, List.flatten_append, ← hn]; exact e2, fun cs hc => ?_, fun j x hx => ?_⟩, e3, e4⟩
  · rcases List.mem_append.1 hc with h | h
    · exact c3 cs h
    · exact y3 cs h
  · by_cases hj : j < l.length
    · rw [List.getElem?_append_left hj] at hx
      obtain ⟨cs, d1, d2⟩ := c4 j x hx
      exact ⟨cs, by rw [List.getElem?_append_left (by omega)]; exact d1, keep d2⟩
    · rw [List.getElem?_append_right (by omega)] at hx
      obtain ⟨cs, d1, d2⟩ := y4 _ x hx
      exact ⟨cs, by rw [List.getElem?_append_right (by omega), c1]; exact d1, keep d2⟩
theorem OwnR.row (hV : VOk V size) (h : OwnR V e size S w base v l) : ∃ A c, v = .slice A l.length c ∧ RowOf w (fun _ => True) size A l.length c fun i cs => ∃ x, l[i]? = some x ∧ V w (fun _ => True) x cs := by
  obtain ⟨css, h1, h2, h3, h4⟩ := h
  obtain ⟨A, c, rfl, hc, hA, hR⟩ := own_reads (S := fun _ => True) h2 (fun _ _ => trivial)
  refine ⟨A, c, rfl, ⟨hc, hA⟩, fun hn => ?_⟩
  obtain ⟨b, o, rfl, hb, hS, hcell⟩ := hR.2 hn
  refine ⟨b, o, rfl, hb, hS, fun j hj => ?_⟩
  obtain ⟨cs, e1, e2⟩ := h4 j _ (List.getElem?_eq_getElem hj)
  refine ⟨cs, ⟨_, List.getElem?_eq_getElem hj, hV.keep (Nat.le_refl _) (fun _ _ _ => rfl) (fun b _ _ => trivial) e2⟩, fun r u hu => ?_⟩
  have := hcell _ _ (flatG size css h3 j cs e1 r u hu)
  rw [show o + j * size + r = o + (j * size + r) by omega]
  exact this
end
end Go.Proofs.YtkakbidllpjopaaGreatDoor
