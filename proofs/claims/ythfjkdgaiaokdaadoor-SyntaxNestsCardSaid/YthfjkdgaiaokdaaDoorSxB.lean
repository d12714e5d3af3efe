/- Syntax trees in memory: what it is for cells to hold one; kept over growth of memory. No condition. -/
import Derived.Test.YthfjkdgaiaokdaaDoorSxA
import Derived.Deep.MidRow
set_option linter.unusedVariables false
set_option linter.unusedSimpArgs false
namespace Go.Proofs.YthfjkdgaiaokdaaDoor
open Go.RowKit

/-- A string out of its bytes. -/
def bs (l : List UInt8) : ByteArray := ⟨⟨l⟩⟩
theorem bs_eta (s : ByteArray) : bs s.data.toList = s := by obtain ⟨⟨l⟩⟩ := s; rfl
theorem bs_list (l : List UInt8) : (bs l).data.toList = l := rfl
theorem bs_size (l : List UInt8) : (bs l).size = l.length := rfl
theorem bs_toList (l : List UInt8) : (bs l).toList = l := (ByteArray.toList_eq _).trans rfl
theorem bs_inj {a b : List UInt8} (h : bs a = bs b) : a = b := congrArg (fun s => s.data.toList) h
/-- An expression's cells. -/
def exC (k n : Int) (s m : Str) (A : Option Addr) (na ca : Nat) (O : Option Addr) (no co : Nat) : List Value := [.int .i64 k, .int .i64 n, .string (bs s), .string (bs m), .slice A na ca, .slice O no co]
/-- An int64. -/
def InR (n : Int) : Prop := -9223372036854775808 ≤ n ∧ n ≤ 9223372036854775807
mutual
/-- The cells cs are the expression's, its parts lie in blocks that meet S. -/
def XV (w : World) (S : Nat → Prop) : Ex → List Value → Prop
  | .mk k n s m a o, cs => ∃ (A : Option Addr) (na ca : Nat) (O : Option Addr) (no co : Nat), cs = exC k n s m A na ca O no co ∧ InR n ∧ (na = a.length ∧ na ≤ ca ∧ (A = none → ca = 0)) ∧ (no = o.length ∧ no ≤ co ∧ (O = none → co = 0)) ∧
      (0 < na → ∃ b q, A = some ⟨b, q, none⟩ ∧ b < w.heap.size ∧ S b ∧ XLf w S b q 0 a) ∧ (0 < no → ∃ b q, O = some ⟨b, q, none⟩ ∧ b < w.heap.size ∧ S b ∧ XLf w S b q 0 o)
/-- From the i-th element of a row on. -/
def XLf (w : World) (S : Nat → Prop) (b q : Nat) : Nat → List Ex → Prop
  | _, [] => True
  | i, e :: t => (∃ cs, XV w S e cs ∧ w.rangeAt b (q + i * 6) cs) ∧ XLf w S b q (i + 1) t
end
/-- A slice that holds expressions. -/
def XL (w : World) (S : Nat → Prop) (A : Option Addr) (n c : Nat) (l : List Ex) : Prop := (n = l.length ∧ n ≤ c ∧ (A = none → c = 0)) ∧ (0 < n → ∃ b q, A = some ⟨b, q, none⟩ ∧ b < w.heap.size ∧ S b ∧ XLf w S b q 0 l)
theorem XV.open_ {w : World} {S : Nat → Prop} {k n : Int} {s m : Str} {a o : List Ex} {cs : List Value} (h : XV w S (.mk k n s m a o) cs) : ∃ (A : Option Addr) (na ca : Nat) (O : Option Addr) (no co : Nat), cs = exC k n s m A na ca O no co ∧ XL w S A na ca a ∧ XL w S O no co o := by
  rw [XV] at h
  obtain ⟨A, na, ca, O, no, co, h1, _, h2, h3, h4, h5⟩ := h
  exact ⟨A, na, ca, O, no, co, h1, ⟨h2, h4⟩, h3, h5⟩
theorem XV.num {w : World} {S : Nat → Prop} {k n : Int} {s m : Str} {a o : List Ex} {cs : List Value} (h : XV w S (.mk k n s m a o) cs) : InR n := by
  rw [XV] at h
  obtain ⟨A, na, ca, O, no, co, _, h1, _⟩ := h
  exact h1
theorem XV.shut {w : World} {S : Nat → Prop} {k n : Int} {s m : Str} {a o : List Ex} {A O : Option Addr} {na ca no co : Nat} (hn : InR n) (h1 : XL w S A na ca a) (h2 : XL w S O no co o) : XV w S (.mk k n s m a o) (exC k n s m A na ca O no co) := by
  rw [XV]
  exact ⟨A, na, ca, O, no, co, rfl, hn, h1.1, h2.1, h1.2, h2.2⟩
theorem exC_len (k n : Int) (s m : Str) (A : Option Addr) (na ca : Nat) (O : Option Addr) (no co : Nat) : (exC k n s m A na ca O no co).length = 6 := rfl
theorem XV.len {w : World} {S : Nat → Prop} {e : Ex} {cs : List Value} (h : XV w S e cs) : cs.length = 6 := by
  obtain ⟨k, n, s, m, a, o⟩ := e
  obtain ⟨A, na, ca, O, no, co, rfl, _⟩ := h.open_
  rfl
theorem XV.one {w : World} {S : Nat → Prop} {e : Ex} {cs : List Value} (h : XV w S e cs) : ∀ u ∈ cs, u.oneCell' = true := by
  obtain ⟨k, n, s, m, a, o⟩ := e
  obtain ⟨A, na, ca, O, no, co, rfl, _⟩ := h.open_
  intro u hu
  simp only [exC, List.mem_cons, List.mem_nil_iff, or_false] at hu
  rcases hu with rfl | rfl | rfl | rfl | rfl | rfl <;> rfl
theorem rangeAt_keep {w w' : World} {b o : Nat} {cs : List Value} (h : w.rangeAt b o cs) (he : w'.heap[b]? = w.heap[b]?) : w'.rangeAt b o cs := fun j v hv => by
  rw [World.cell?_of_block (a := ⟨b, o + j, none⟩) he]; exact h j v hv
mutual
theorem XV.keep {w w' : World} {S S' : Nat → Prop} (hs : w.heap.size ≤ w'.heap.size) (hk : ∀ b, b < w.heap.size → S b → w'.heap[b]? = w.heap[b]?) (hS : ∀ b, b < w.heap.size → S b → S' b) : ∀ {e : Ex} {cs : List Value}, XV w S e cs → XV w' S' e cs
  | .mk k n s m a o, cs, h => by
    rw [XV] at h ⊢
    obtain ⟨A, na, ca, O, no, co, h1, h0, h2, h3, h4, h5⟩ := h
    refine ⟨A, na, ca, O, no, co, h1, h0, h2, h3, fun hn => ?_, fun hn => ?_⟩
    · obtain ⟨b, q, e1, hb, hSb, hx⟩ := h4 hn
      exact ⟨b, q, e1, Nat.lt_of_lt_of_le hb hs, hS b hb hSb, XLf.keep hs hk hS hb hSb hx⟩
    · obtain ⟨b, q, e1, hb, hSb, hx⟩ := h5 hn
      exact ⟨b, q, e1, Nat.lt_of_lt_of_le hb hs, hS b hb hSb, XLf.keep hs hk hS hb hSb hx⟩
theorem XLf.keep {w w' : World} {S S' : Nat → Prop} (hs : w.heap.size ≤ w'.heap.size) (hk : ∀ b, b < w.heap.size → S b → w'.heap[b]? = w.heap[b]?) (hS : ∀ b, b < w.heap.size → S b → S' b) {b q : Nat} (hb : b < w.heap.size) (hSb : S b) : ∀ {i : Nat} {l : List Ex}, XLf w S b q i l → XLf w' S' b q i l
  | _, [], _ => by rw [XLf]; trivial
  | i, e :: t, h => by
    rw [XLf] at h ⊢
    obtain ⟨⟨cs, h1, h2⟩, h3⟩ := h
    exact ⟨⟨cs, XV.keep hs hk hS h1, rangeAt_keep h2 (hk b hb hSb)⟩, XLf.keep hs hk hS hb hSb h3⟩
end
section
variable {w w' : World} {S S' : Nat → Prop} {A : Option Addr} {n c : Nat} {l : List Ex} {e : Ex} {cs : List Value}
theorem XL.keep (hs : w.heap.size ≤ w'.heap.size) (hk : ∀ b, b < w.heap.size → S b → w'.heap[b]? = w.heap[b]?) (hS : ∀ b, b < w.heap.size → S b → S' b) (h : XL w S A n c l) : XL w' S' A n c l :=
  ⟨h.1, fun hn => by
    obtain ⟨b, q, e1, hb, hSb, hx⟩ := h.2 hn
    exact ⟨b, q, e1, Nat.lt_of_lt_of_le hb hs, hS b hb hSb, XLf.keep hs hk hS hb hSb hx⟩⟩
theorem XL.below (h : XL w S A n c l) (hb : Below w.heap.size w w') : XL w' S A n c l := XL.keep hb.size (fun b hlt _ => hb.block b hlt) (fun _ _ h => h) h
theorem XV.below (h : XV w S e cs) (hb : Below w.heap.size w w') : XV w' S e cs := XV.keep hb.size (fun b hlt _ => hb.block b hlt) (fun _ _ h => h) h
theorem XL.more (h : XL w S A n c l) (hS : ∀ b, b < w.heap.size → S b → S' b) : XL w S' A n c l := XL.keep (Nat.le_refl _) (fun _ _ _ => rfl) hS h
theorem XV.more (h : XV w S e cs) (hS : ∀ b, b < w.heap.size → S b → S' b) : XV w S' e cs := XV.keep (Nat.le_refl _) (fun _ _ _ => rfl) hS h
theorem XLf.at {b q : Nat} : ∀ {l : List Ex} {i : Nat} (_ : XLf w S b q i l) (j : Nat) (hj : j < l.length), ∃ cs, XV w S l[j] cs ∧ w.rangeAt b (q + (i + j) * 6) cs
  | e :: t, i, h, 0, _ => by rw [XLf] at h; exact h.1
  | e :: t, i, h, j + 1, hj => by
    rw [XLf] at h
    obtain ⟨cs, h1, h2⟩ := XLf.at h.2 j (by simpa using hj)
    exact ⟨cs, h1, by rwa [show i + (j + 1) = i + 1 + j by omega]⟩
/-- One element of a slice of expressions: its value, and its six cells now and later. -/
theorem XL.at (h : XL w S A n c l) (i : Nat) (hi : i < n) : ∃ e b q cs, l[i]? = some e ∧ A = some ⟨b, q, none⟩ ∧ b < w.heap.size ∧ S b ∧ XV w S e cs ∧ w.rangeAt b (q + i * 6) cs := by
  obtain ⟨b, q, e1, hb, hSb, hx⟩ := h.2 (by omega)
  have hil : i < l.length := by have := h.1.1; omega
  obtain ⟨cs, h1, h2⟩ := hx.at i hil
  rw [Nat.zero_add] at h2
  exact ⟨l[i], b, q, cs, List.getElem?_eq_getElem hil, e1, hb, hSb, h1, h2⟩
end
/-- The six cells of an expression, one by one. -/
theorem exC_at {w : World} {b o : Nat} {k n : Int} {s m : Str} {A O : Option Addr} {na ca no co : Nat} (h : w.rangeAt b o (exC k n s m A na ca O no co)) :
    w.cell? ⟨b, o, none⟩ = some (.int .i64 k) ∧ w.cell? ⟨b, o + 1, none⟩ = some (.int .i64 n) ∧ w.cell? ⟨b, o + 2, none⟩ = some (.string (bs s)) ∧ w.cell? ⟨b, o + 3, none⟩ = some (.string (bs m)) ∧ w.cell? ⟨b, o + 4, none⟩ = some (.slice A na ca) ∧ w.cell? ⟨b, o + 5, none⟩ = some (.slice O no co) :=
  ⟨h 0 _ rfl, h 1 _ rfl, h 2 _ rfl, h 3 _ rfl, h 4 _ rfl, h 5 _ rfl⟩
/-- A statement's cells. -/
def stC (k : Int) (s : Str) (n : Int) (ex : List Value) (B : Option Addr) (nb cb : Nat) (L : Option Addr) (nl cl : Nat) : List Value := [.int .i64 k, .string (bs s), .int .i64 n] ++ ex ++ [.slice B nb cb, .slice L nl cl]
mutual
def SV (w : World) (S : Nat → Prop) : St → List Value → Prop
  | .mk k s n e b l, cs => ∃ (ex : List Value) (B : Option Addr) (nb cb : Nat) (L : Option Addr) (nl cl : Nat), cs = stC k s n ex B nb cb L nl cl ∧ InR n ∧ XV w S e ex ∧ (nb = b.length ∧ nb ≤ cb ∧ (B = none → cb = 0)) ∧ (nl = l.length ∧ nl ≤ cl ∧ (L = none → cl = 0)) ∧
      (0 < nb → ∃ g q, B = some ⟨g, q, none⟩ ∧ g < w.heap.size ∧ S g ∧ SLf w S g q 0 b) ∧ (0 < nl → ∃ g q, L = some ⟨g, q, none⟩ ∧ g < w.heap.size ∧ S g ∧ SLf w S g q 0 l)
def SLf (w : World) (S : Nat → Prop) (g q : Nat) : Nat → List St → Prop
  | _, [] => True
  | i, e :: t => (∃ cs, SV w S e cs ∧ w.rangeAt g (q + i * 11) cs) ∧ SLf w S g q (i + 1) t
end
/-- A slice that holds statements. -/
def SL (w : World) (S : Nat → Prop) (A : Option Addr) (n c : Nat) (l : List St) : Prop := (n = l.length ∧ n ≤ c ∧ (A = none → c = 0)) ∧ (0 < n → ∃ g q, A = some ⟨g, q, none⟩ ∧ g < w.heap.size ∧ S g ∧ SLf w S g q 0 l)
theorem SV.open_ {w : World} {S : Nat → Prop} {k n : Int} {s : Str} {e : Ex} {b l : List St} {cs : List Value} (h : SV w S (.mk k s n e b l) cs) : ∃ (ex : List Value) (B : Option Addr) (nb cb : Nat) (L : Option Addr) (nl cl : Nat), cs = stC k s n ex B nb cb L nl cl ∧ XV w S e ex ∧ SL w S B nb cb b ∧ SL w S L nl cl l := by
  rw [SV] at h
  obtain ⟨ex, B, nb, cb, L, nl, cl, h1, _, h2, h3, h4, h5, h6⟩ := h
  exact ⟨ex, B, nb, cb, L, nl, cl, h1, h2, ⟨h3, h5⟩, h4, h6⟩
theorem SV.num {w : World} {S : Nat → Prop} {k n : Int} {s : Str} {e : Ex} {b l : List St} {cs : List Value} (h : SV w S (.mk k s n e b l) cs) : InR n := by
  rw [SV] at h
  obtain ⟨ex, B, nb, cb, L, nl, cl, _, h1, _⟩ := h
  exact h1
theorem SV.shut {w : World} {S : Nat → Prop} {k n : Int} {s : Str} {e : Ex} {b l : List St} {ex : List Value} {B L : Option Addr} {nb cb nl cl : Nat} (hn : InR n) (h0 : XV w S e ex) (h1 : SL w S B nb cb b) (h2 : SL w S L nl cl l) : SV w S (.mk k s n e b l) (stC k s n ex B nb cb L nl cl) := by
  rw [SV]
  exact ⟨ex, B, nb, cb, L, nl, cl, rfl, hn, h0, h1.1, h2.1, h1.2, h2.2⟩
theorem SV.len {w : World} {S : Nat → Prop} {e : St} {cs : List Value} (h : SV w S e cs) : cs.length = 11 := by
  obtain ⟨k, s, n, e, b, l⟩ := e
  obtain ⟨ex, B, nb, cb, L, nl, cl, rfl, hx, _⟩ := h.open_
  have := hx.len
  simp [stC, this]
theorem SV.one {w : World} {S : Nat → Prop} {e : St} {cs : List Value} (h : SV w S e cs) : ∀ u ∈ cs, u.oneCell' = true := by
  obtain ⟨k, s, n, e, b, l⟩ := e
  obtain ⟨ex, B, nb, cb, L, nl, cl, rfl, hx, _⟩ := h.open_
  intro u hu
  simp only [stC, List.mem_append, List.mem_cons, List.mem_nil_iff, or_false] at hu
  rcases hu with ((rfl | rfl | rfl) | hu) | (rfl | rfl)
  · rfl
  · rfl
  · rfl
  · exact hx.one u hu
  · rfl
  · rfl
mutual
theorem SV.keep {w w' : World} {S S' : Nat → Prop} (hs : w.heap.size ≤ w'.heap.size) (hk : ∀ b, b < w.heap.size → S b → w'.heap[b]? = w.heap[b]?) (hS : ∀ b, b < w.heap.size → S b → S' b) : ∀ {e : St} {cs : List Value}, SV w S e cs → SV w' S' e cs
  | .mk k s n e b l, cs, h => by
    rw [SV] at h ⊢
    obtain ⟨ex, B, nb, cb, L, nl, cl, h1, h0, h2, h3, h4, h5, h6⟩ := h
    refine ⟨ex, B, nb, cb, L, nl, cl, h1, h0, XV.keep hs hk hS h2, h3, h4, fun hn => ?_, fun hn => ?_⟩
    · obtain ⟨g, q, e1, hb, hSb, hx⟩ := h5 hn
      exact ⟨g, q, e1, Nat.lt_of_lt_of_le hb hs, hS g hb hSb, SLf.keep hs hk hS hb hSb hx⟩
    · obtain ⟨g, q, e1, hb, hSb, hx⟩ := h6 hn
      exact ⟨g, q, e1, Nat.lt_of_lt_of_le hb hs, hS g hb hSb, SLf.keep hs hk hS hb hSb hx⟩
theorem SLf.keep {w w' : World} {S S' : Nat → Prop} (hs : w.heap.size ≤ w'.heap.size) (hk : ∀ b, b < w.heap.size → S b → w'.heap[b]? = w.heap[b]?) (hS : ∀ b, b < w.heap.size → S b → S' b) {g q : Nat} (hb : g < w.heap.size) (hSb : S g) : ∀ {i : Nat} {l : List St}, SLf w S g q i l → SLf w' S' g q i l
  | _, [], _ => by rw [SLf]; trivial
  | i, e :: t, h => by
    rw [SLf] at h ⊢
    obtain ⟨⟨cs, h1, h2⟩, h3⟩ := h
    exact ⟨⟨cs, SV.keep hs hk hS h1, rangeAt_keep h2 (hk g hb hSb)⟩, SLf.keep hs hk hS hb hSb h3⟩
end
section
variable {w w' : World} {S S' : Nat → Prop} {A : Option Addr} {n c : Nat} {l : List St} {e : St} {cs : List Value}
theorem SL.keep (hs : w.heap.size ≤ w'.heap.size) (hk : ∀ b, b < w.heap.size → S b → w'.heap[b]? = w.heap[b]?) (hS : ∀ b, b < w.heap.size → S b → S' b) (h : SL w S A n c l) : SL w' S' A n c l :=
  ⟨h.1, fun hn => by
    obtain ⟨b, q, e1, hb, hSb, hx⟩ := h.2 hn
    exact ⟨b, q, e1, Nat.lt_of_lt_of_le hb hs, hS b hb hSb, SLf.keep hs hk hS hb hSb hx⟩⟩
theorem SL.below (h : SL w S A n c l) (hb : Below w.heap.size w w') : SL w' S A n c l := SL.keep hb.size (fun b hlt _ => hb.block b hlt) (fun _ _ h => h) h
theorem SV.below (h : SV w S e cs) (hb : Below w.heap.size w w') : SV w' S e cs := SV.keep hb.size (fun b hlt _ => hb.block b hlt) (fun _ _ h => h) h
theorem SL.more (h : SL w S A n c l) (hS : ∀ b, b < w.heap.size → S b → S' b) : SL w S' A n c l := SL.keep (Nat.le_refl _) (fun _ _ _ => rfl) hS h
theorem SV.more (h : SV w S e cs) (hS : ∀ b, b < w.heap.size → S b → S' b) : SV w S' e cs := SV.keep (Nat.le_refl _) (fun _ _ _ => rfl) hS h
theorem SLf.at {b q : Nat} : ∀ {l : List St} {i : Nat} (_ : SLf w S b q i l) (j : Nat) (hj : j < l.length), ∃ cs, SV w S l[j] cs ∧ w.rangeAt b (q + (i + j) * 11) cs
  | e :: t, i, h, 0, _ => by rw [SLf] at h; exact h.1
  | e :: t, i, h, j + 1, hj => by
    rw [SLf] at h
    obtain ⟨cs, h1, h2⟩ := SLf.at h.2 j (by simpa using hj)
    exact ⟨cs, h1, by rwa [show i + (j + 1) = i + 1 + j by omega]⟩
theorem SL.at (h : SL w S A n c l) (i : Nat) (hi : i < n) : ∃ e b q cs, l[i]? = some e ∧ A = some ⟨b, q, none⟩ ∧ b < w.heap.size ∧ S b ∧ SV w S e cs ∧ w.rangeAt b (q + i * 11) cs := by
  obtain ⟨b, q, e1, hb, hSb, hx⟩ := h.2 (by omega)
  have hil : i < l.length := by have := h.1.1; omega
  obtain ⟨cs, h1, h2⟩ := hx.at i hil
  rw [Nat.zero_add] at h2
  exact ⟨l[i], b, q, cs, List.getElem?_eq_getElem hil, e1, hb, hSb, h1, h2⟩
end
end Go.Proofs.YthfjkdgaiaokdaaDoor
