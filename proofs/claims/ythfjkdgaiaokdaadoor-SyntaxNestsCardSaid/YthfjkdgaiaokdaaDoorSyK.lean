/- How much room a program leaves: what the law's Great computes, in plain Lean. No condition. -/
import Derived.Test.YthfjkdgaiaokdaaDoorSyG
import Derived.Test.YthfjkdgaiaokdaaDoorSxY
set_option linter.unusedVariables false
set_option linter.unusedSimpArgs false
namespace Go.Proofs.YthfjkdgaiaokdaaDoor

mutual
/-- Strings as long as the machine has them. -/
def Ex.Ws : Ex → Prop
  | .mk _ _ s m a o => s.length ≤ 9223372036854775807 ∧ m.length ≤ 9223372036854775807 ∧ Ex.Wss a ∧ Ex.Wss o
def Ex.Wss : List Ex → Prop
  | [] => True
  | e :: t => e.Ws ∧ Ex.Wss t
end
mutual
def St.Ws : St → Prop
  | .mk _ s _ e b l => s.length ≤ 9223372036854775807 ∧ e.Ws ∧ St.Wss b ∧ St.Wss l
def St.Wss : List St → Prop
  | [] => True
  | e :: t => e.Ws ∧ St.Wss t
end
def Prog'.Ws (p : Prog') : Prop := (∀ d ∈ p.stores, d.name.length ≤ 9223372036854775807 ∧ d.kind.length ≤ 9223372036854775807) ∧ ∀ o ∈ p.opers, o.params.length ≤ 1152921504606846976 ∧ o.name.length ≤ 9223372036854775807 ∧ (∀ s ∈ o.params, s.length ≤ 9223372036854775807) ∧ St.Wss o.body
theorem Ex.Wss_at : ∀ {l : List Ex}, Ex.Wss l → ∀ e ∈ l, e.Ws
  | a :: t, h, e, he => by
    rw [Ex.Wss] at h
    rcases List.mem_cons.1 he with rfl | he
    · exact h.1
    · exact Ex.Wss_at h.2 e he
theorem St.Wss_at : ∀ {l : List St}, St.Wss l → ∀ e ∈ l, e.Ws
  | a :: t, h, e, he => by
    rw [St.Wss] at h
    rcases List.mem_cons.1 he with rfl | he
    · exact h.1
    · exact St.Wss_at h.2 e he
mutual
def roomE : Ex → Int → Int
  | .mk _ _ s m a o, l => roomEs o (roomEs a (l - 1 - (s.length : Int) / 100 - (m.length : Int) / 100))
def roomEs : List Ex → Int → Int
  | [], l => l
  | e :: t, l => if 0 ≤ l then roomEs t (roomE e l) else l
end
mutual
def roomT : St → Int → Int
  | .mk _ s _ e b els, l => roomS els (roomS b (roomE e (l - 1 - (s.length : Int) / 100)))
def roomS : List St → Int → Int
  | [], l => l
  | x :: t, l => if 0 ≤ l then roomS t (roomT x l) else l
end
theorem roomEs_neg (t : List Ex) {l : Int} (h : ¬ 0 ≤ l) : roomEs t l = l := by
  cases t with
  | nil => rw [roomEs]
  | cons e t => rw [roomEs, if_neg h]
theorem roomS_neg (t : List St) {l : Int} (h : ¬ 0 ≤ l) : roomS t l = l := by
  cases t with
  | nil => rw [roomS]
  | cons e t => rw [roomS, if_neg h]
theorem roomEs_app : ∀ (a b : List Ex) (l : Int), roomEs (a ++ b) l = roomEs b (roomEs a l)
  | [], b, l => by rw [List.nil_append, roomEs]
  | e :: t, b, l => by
    rw [List.cons_append, roomEs, roomEs]
    split
    · exact roomEs_app t b _
    · rename_i h; exact (roomEs_neg b h).symm
theorem roomS_app : ∀ (a b : List St) (l : Int), roomS (a ++ b) l = roomS b (roomS a l)
  | [], b, l => by rw [List.nil_append, roomS]
  | e :: t, b, l => by
    rw [List.cons_append, roomS, roomS]
    split
    · exact roomS_app t b _
    · rename_i h; exact (roomS_neg b h).symm
theorem roomEs_up {l : List Ex} {q : Nat} {x : Ex} {a : Int} (h : l[q]? = some x) (h0 : 0 ≤ roomEs (l.take q) a) : roomEs (l.take (q + 1)) a = roomE x (roomEs (l.take q) a) := by
  rw [List.take_add_one, h, roomEs_app]
  show roomEs [x] _ = _
  rw [roomEs, if_pos h0, roomEs]
theorem roomEs_end {l : List Ex} {q : Nat} {a : Int} (h : ¬ q < l.length ∨ ¬ 0 ≤ roomEs (l.take q) a) : roomEs l a = roomEs (l.take q) a := by
  rcases h with h | h
  · rw [List.take_of_length_le (by omega)]
  · conv => lhs; rw [← List.take_append_drop q l]
    rw [roomEs_app, roomEs_neg _ h]
theorem roomS_up {l : List St} {q : Nat} {x : St} {a : Int} (h : l[q]? = some x) (h0 : 0 ≤ roomS (l.take q) a) : roomS (l.take (q + 1)) a = roomT x (roomS (l.take q) a) := by
  rw [List.take_add_one, h, roomS_app]
  show roomS [x] _ = _
  rw [roomS, if_pos h0, roomS]
theorem roomS_end {l : List St} {q : Nat} {a : Int} (h : ¬ q < l.length ∨ ¬ 0 ≤ roomS (l.take q) a) : roomS l a = roomS (l.take q) a := by
  rcases h with h | h
  · rw [List.take_of_length_le (by omega)]
  · conv => lhs; rw [← List.take_append_drop q l]
    rw [roomS_app, roomS_neg _ h]
mutual
theorem roomE_ge : ∀ (e : Ex) (l : Int), e.Ws → min l 0 - 184467440737095517 ≤ roomE e l
  | .mk k n s m a o, l, h => by
    rw [Ex.Ws] at h
    rw [roomE]
    have h1 := roomEs_ge a (l - 1 - (s.length : Int) / 100 - (m.length : Int) / 100) h.2.2.1
    have h2 := roomEs_ge o (roomEs a (l - 1 - (s.length : Int) / 100 - (m.length : Int) / 100)) h.2.2.2
    have := h.1
    have := h.2.1
    omega
theorem roomEs_ge : ∀ (t : List Ex) (l : Int), Ex.Wss t → min l (-184467440737095517) ≤ roomEs t l
  | [], l, _ => by rw [roomEs]; omega
  | e :: t, l, h => by
    rw [Ex.Wss] at h
    rw [roomEs]
    split
    · have h1 := roomE_ge e l h.1
      have h2 := roomEs_ge t (roomE e l) h.2
      omega
    · omega
end
mutual
theorem roomT_ge : ∀ (x : St) (l : Int), 0 ≤ l → x.Ws → -276701161105643276 ≤ roomT x l
  | .mk k s n e b els, l, h0, h => by
    rw [St.Ws] at h
    rw [roomT]
    have h1 := roomE_ge e (l - 1 - (s.length : Int) / 100) h.2.1
    have h2 := roomS_ge b (roomE e (l - 1 - (s.length : Int) / 100)) h.2.2.1
    have h3 := roomS_ge els (roomS b (roomE e (l - 1 - (s.length : Int) / 100))) h.2.2.2
    have := h.1
    omega
theorem roomS_ge : ∀ (t : List St) (l : Int), St.Wss t → min l (-276701161105643276) ≤ roomS t l
  | [], l, _ => by rw [roomS]; omega
  | e :: t, l, h => by
    rw [St.Wss] at h
    rw [roomS]
    split
    · rename_i h0
      have h1 := roomT_ge e l h0 h.1
      have h2 := roomS_ge t (roomT e l) h.2
      omega
    · omega
end
mutual
theorem roomE_le : ∀ (e : Ex) (l : Int), roomE e l ≤ l - 1
  | .mk k n s m a o, l => by
    rw [roomE]
    have h1 := roomEs_le a (l - 1 - (s.length : Int) / 100 - (m.length : Int) / 100)
    have h2 := roomEs_le o (roomEs a (l - 1 - (s.length : Int) / 100 - (m.length : Int) / 100))
    omega
theorem roomEs_le : ∀ (t : List Ex) (l : Int), roomEs t l ≤ l
  | [], l => by rw [roomEs]; omega
  | e :: t, l => by
    rw [roomEs]
    split
    · have h1 := roomE_le e l
      have h2 := roomEs_le t (roomE e l)
      omega
    · omega
end
mutual
theorem roomT_le : ∀ (x : St) (l : Int), roomT x l ≤ l - 1
  | .mk k s n e b els, l => by
    rw [roomT]
    have h1 := roomE_le e (l - 1 - (s.length : Int) / 100)
    have h2 := roomS_le b (roomE e (l - 1 - (s.length : Int) / 100))
    have h3 := roomS_le els (roomS b (roomE e (l - 1 - (s.length : Int) / 100)))
    omega
theorem roomS_le : ∀ (t : List St) (l : Int), roomS t l ≤ l
  | [], l => by rw [roomS]; omega
  | e :: t, l => by
    rw [roomS]
    split
    · have h1 := roomT_le e l
      have h2 := roomS_le t (roomT e l)
      omega
    · omega
end
mutual
theorem roomE_fit : ∀ (e : Ex) (l : Int), l ≤ 400 → 0 ≤ roomE e l → roomE e l + e.size ≤ l ∧ e.Sm
  | .mk k n s m a o, l, hl, h => by
    rw [roomE] at h ⊢
    have h2 := roomEs_fit o _ (by have := roomEs_le a (l - 1 - (s.length : Int) / 100 - (m.length : Int) / 100); omega) h
    have h1 := roomEs_fit a (l - 1 - (s.length : Int) / 100 - (m.length : Int) / 100) (by omega) (by omega)
    rw [Ex.size, Ex.Sm]
    refine ⟨?_, ?_, ?_, h1.2, h2.2⟩ <;> omega
theorem roomEs_fit : ∀ (t : List Ex) (l : Int), l ≤ 400 → 0 ≤ roomEs t l → roomEs t l + Ex.sizes t ≤ l ∧ Ex.Sms t
  | [], l, _, h => by rw [roomEs] at h ⊢; rw [Ex.sizes, Ex.Sms]; exact ⟨by omega, trivial⟩
  | e :: t, l, hl, h => by
    rw [roomEs] at h ⊢
    split at h
    · rename_i h0
      rw [if_pos h0]
      have h2 := roomEs_fit t _ (by have := roomE_le e l; omega) h
      have h1 := roomE_fit e l hl (by omega)
      rw [Ex.sizes, Ex.Sms]
      exact ⟨by omega, h1.2, h2.2⟩
    · omega
end
mutual
theorem roomT_fit : ∀ (x : St) (l : Int), l ≤ 400 → 0 ≤ roomT x l → roomT x l + x.size ≤ l ∧ x.Sm
  | .mk k s n e b els, l, hl, h => by
    rw [roomT] at h ⊢
    have q1 := roomE_le e (l - 1 - (s.length : Int) / 100)
    have q2 := roomS_le b (roomE e (l - 1 - (s.length : Int) / 100))
    have h3 := roomS_fit els _ (by omega) h
    have h2 := roomS_fit b (roomE e (l - 1 - (s.length : Int) / 100)) (by omega) (by omega)
    have h1 := roomE_fit e (l - 1 - (s.length : Int) / 100) (by omega) (by omega)
    rw [St.size, St.Sm]
    refine ⟨?_, ?_, h1.2, h2.2, h3.2⟩ <;> omega
theorem roomS_fit : ∀ (t : List St) (l : Int), l ≤ 400 → 0 ≤ roomS t l → roomS t l + St.sizes t ≤ l ∧ St.Sms t
  | [], l, _, h => by rw [roomS] at h ⊢; rw [St.sizes, St.Sms]; exact ⟨by omega, trivial⟩
  | e :: t, l, hl, h => by
    rw [roomS] at h ⊢
    split at h
    · rename_i h0
      rw [if_pos h0]
      have h2 := roomS_fit t _ (by have := roomT_le e l; omega) h
      have h1 := roomT_fit e l hl (by omega)
      rw [St.sizes, St.Sms]
      exact ⟨by omega, h1.2, h2.2⟩
    · omega
end
/-- The room after some of an operation's parameters' names. -/
def roomP : List Str → Int → Int
  | [], l => l
  | s :: t, l => roomP t (l - (s.length : Int) / 100)
theorem roomP_app : ∀ (a b : List Str) (l : Int), roomP (a ++ b) l = roomP b (roomP a l)
  | [], b, l => by rw [List.nil_append, roomP]
  | e :: t, b, l => by rw [List.cons_append, roomP, roomP]; exact roomP_app t b _
theorem roomP_up {l : List Str} {q : Nat} {x : Str} {a : Int} (h : l[q]? = some x) : roomP (l.take (q + 1)) a = roomP (l.take q) a - (x.length : Int) / 100 := by
  rw [List.take_add_one, h, roomP_app]
  show roomP [x] _ = _
  rw [roomP, roomP]
theorem roomP_le : ∀ (t : List Str) (l : Int), roomP t l ≤ l
  | [], l => by rw [roomP]; omega
  | e :: t, l => by
    rw [roomP]
    have := roomP_le t (l - (e.length : Int) / 100)
    omega
theorem roomP_ge : ∀ (t : List Str) (l : Int), (∀ s ∈ t, s.length ≤ 9223372036854775807) → l - 92233720368547758 * t.length ≤ roomP t l
  | [], l, _ => by rw [roomP]; simp
  | e :: t, l, h => by
    rw [roomP]
    have := roomP_ge t (l - (e.length : Int) / 100) fun s hs => h s (by simp [hs])
    have := h e (by simp)
    rw [List.length_cons]
    omega
theorem roomP_fit : ∀ (t : List Str) (l : Int), l ≤ 400 → 0 ≤ roomP t l → ∀ s ∈ t, s.length ≤ 1000000
  | e :: t, l, hl, h, s, hs => by
    rw [roomP] at h
    have q := roomP_le t (l - (e.length : Int) / 100)
    rcases List.mem_cons.1 hs with rfl | hs
    · omega
    · exact roomP_fit t _ (by omega) h s hs
/-- .. after an operation. -/
def roomO (o : Oper') (l : Int) : Int := roomP (o.params.take 20) (roomS o.body (l - 1 - (o.params.length : Int) - (o.name.length : Int) / 100))
def roomOs : List Oper' → Int → Int
  | [], l => l
  | o :: t, l => if 0 ≤ l then roomOs t (roomO o l) else l
/-- .. after a store. -/
def roomD (d : Decl') (l : Int) : Int := l - 1 - (d.name.length : Int) / 100 - (d.kind.length : Int) / 100
def roomDs : List Decl' → Int → Int
  | [], l => l
  | d :: t, l => if 0 ≤ l then roomDs t (roomD d l) else l
theorem roomOs_neg (t : List Oper') {l : Int} (h : ¬ 0 ≤ l) : roomOs t l = l := by
  cases t with
  | nil => rw [roomOs]
  | cons e t => rw [roomOs, if_neg h]
theorem roomDs_neg (t : List Decl') {l : Int} (h : ¬ 0 ≤ l) : roomDs t l = l := by
  cases t with
  | nil => rw [roomDs]
  | cons e t => rw [roomDs, if_neg h]
theorem roomOs_app : ∀ (a b : List Oper') (l : Int), roomOs (a ++ b) l = roomOs b (roomOs a l)
  | [], b, l => by rw [List.nil_append, roomOs]
  | e :: t, b, l => by
    rw [List.cons_append, roomOs, roomOs]
    split
    · exact roomOs_app t b _
    · rename_i h; exact (roomOs_neg b h).symm
theorem roomDs_app : ∀ (a b : List Decl') (l : Int), roomDs (a ++ b) l = roomDs b (roomDs a l)
  | [], b, l => by rw [List.nil_append, roomDs]
  | e :: t, b, l => by
    rw [List.cons_append, roomDs, roomDs]
    split
    · exact roomDs_app t b _
    · rename_i h; exact (roomDs_neg b h).symm
theorem roomOs_up {l : List Oper'} {q : Nat} {x : Oper'} {a : Int} (h : l[q]? = some x) (h0 : 0 ≤ roomOs (l.take q) a) : roomOs (l.take (q + 1)) a = roomO x (roomOs (l.take q) a) := by
  rw [List.take_add_one, h, roomOs_app]
  show roomOs [x] _ = _
  rw [roomOs, if_pos h0, roomOs]
theorem roomOs_end {l : List Oper'} {q : Nat} {a : Int} (h : ¬ q < l.length ∨ ¬ 0 ≤ roomOs (l.take q) a) : roomOs l a = roomOs (l.take q) a := by
  rcases h with h | h
  · rw [List.take_of_length_le (by omega)]
  · conv => lhs; rw [← List.take_append_drop q l]
    rw [roomOs_app, roomOs_neg _ h]
theorem roomDs_up {l : List Decl'} {q : Nat} {x : Decl'} {a : Int} (h : l[q]? = some x) (h0 : 0 ≤ roomDs (l.take q) a) : roomDs (l.take (q + 1)) a = roomD x (roomDs (l.take q) a) := by
  rw [List.take_add_one, h, roomDs_app]
  show roomDs [x] _ = _
  rw [roomDs, if_pos h0, roomDs]
theorem roomDs_end {l : List Decl'} {q : Nat} {a : Int} (h : ¬ q < l.length ∨ ¬ 0 ≤ roomDs (l.take q) a) : roomDs l a = roomDs (l.take q) a := by
  rcases h with h | h
  · rw [List.take_of_length_le (by omega)]
  · conv => lhs; rw [← List.take_append_drop q l]
    rw [roomDs_app, roomDs_neg _ h]
theorem roomO_le (o : Oper') (l : Int) : roomO o l ≤ l - 1 := by
  rw [roomO]
  have h1 := roomS_le o.body (l - 1 - (o.params.length : Int) - (o.name.length : Int) / 100)
  have h2 := roomP_le (o.params.take 20) (roomS o.body (l - 1 - (o.params.length : Int) - (o.name.length : Int) / 100))
  omega
theorem roomOs_le : ∀ (t : List Oper') (l : Int), roomOs t l ≤ l
  | [], l => by rw [roomOs]; omega
  | e :: t, l => by
    rw [roomOs]
    split
    · have h1 := roomO_le e l
      have h2 := roomOs_le t (roomO e l)
      omega
    · omega
theorem roomOs_fit : ∀ (t : List Oper') (l : Int), l ≤ 400 → 0 ≤ roomOs t l → roomOs t l + t.length ≤ l ∧ ∀ o ∈ t, St.sizes o.body ≤ 400 ∧ o.params.length ≤ 400 ∧ o.name.length ≤ 1000000 ∧ (∀ s ∈ o.params.take 20, s.length ≤ 1000000) ∧ St.Sms o.body
  | [], l, _, h => by rw [roomOs] at h ⊢; exact ⟨by simp, fun o ho => by cases ho⟩
  | e :: t, l, hl, h => by
    rw [roomOs] at h ⊢
    split at h
    · rename_i h0
      rw [if_pos h0]
      have q0 := roomO_le e l
      have q1 := roomOs_le t (roomO e l)
      have h2 := roomOs_fit t _ (by omega) h
      refine ⟨by rw [List.length_cons]; omega, fun o ho => ?_⟩
      rcases List.mem_cons.1 ho with rfl | ho
      · have q4 : roomO o l = roomP (o.params.take 20) (roomS o.body (l - 1 - (o.params.length : Int) - (o.name.length : Int) / 100)) := rfl
        have q2 := roomP_le (o.params.take 20) (roomS o.body (l - 1 - (o.params.length : Int) - (o.name.length : Int) / 100))
        have q3 := roomS_le o.body (l - 1 - (o.params.length : Int) - (o.name.length : Int) / 100)
        have h3 := roomP_fit (o.params.take 20) (roomS o.body (l - 1 - (o.params.length : Int) - (o.name.length : Int) / 100)) (by omega) (by omega)
        have h4 := roomS_fit o.body (l - 1 - (o.params.length : Int) - (o.name.length : Int) / 100) (by omega) (by omega)
        exact ⟨by omega, by omega, by omega, h3, h4.2⟩
      · exact h2.2 o ho
    · omega
theorem roomD_le (d : Decl') (l : Int) : roomD d l ≤ l - 1 := by unfold roomD; omega
theorem roomDs_le : ∀ (t : List Decl') (l : Int), roomDs t l ≤ l
  | [], l => by rw [roomDs]; omega
  | e :: t, l => by
    rw [roomDs]
    split
    · have h1 := roomD_le e l
      have h2 := roomDs_le t (roomD e l)
      omega
    · omega
theorem roomDs_fit : ∀ (t : List Decl') (l : Int), l ≤ 400 → 0 ≤ roomDs t l → roomDs t l + t.length ≤ l ∧ ∀ d ∈ t, d.name.length ≤ 1000000 ∧ d.kind.length ≤ 1000000
  | [], l, _, h => by rw [roomDs] at h ⊢; exact ⟨by simp, fun o ho => by cases ho⟩
  | e :: t, l, hl, h => by
    rw [roomDs] at h ⊢
    split at h
    · rename_i h0
      rw [if_pos h0]
      have q0 := roomD_le e l
      have q1 := roomDs_le t (roomD e l)
      have h2 := roomDs_fit t _ (by omega) h
      refine ⟨by rw [List.length_cons]; omega, fun o ho => ?_⟩
      rcases List.mem_cons.1 ho with rfl | ho
      · have q4 : roomD o l = l - 1 - (o.name.length : Int) / 100 - (o.kind.length : Int) / 100 := rfl
        omega
      · exact h2.2 o ho
    · omega
/-- What Great leaves. -/
def roomG (p : Prog') : Int := roomDs p.stores (roomOs p.opers 400)
theorem roomG_fit {p : Prog'} (h : 0 ≤ roomG p) : p.Few2 ∧ p.Sm ∧ p.stores.length ≤ 400 ∧ p.opers.length ≤ 400 := by
  unfold roomG at h
  have h0 := roomDs_le p.stores (roomOs p.opers 400)
  have h2 := roomOs_le p.opers 400
  have h1 := roomDs_fit p.stores _ h2 h
  have h3 := roomOs_fit p.opers 400 (by omega) (by omega)
  refine ⟨⟨by omega, by omega, fun o ho => by have := (h3.2 o ho).1; omega⟩, ⟨h1.2, fun o ho => ?_⟩, by omega, by omega⟩
  obtain ⟨a, b, c, d, e⟩ := h3.2 o ho
  exact ⟨c, fun h4 s hs => d s (by rw [List.take_of_length_le (by omega)]; exact hs), e⟩
theorem roomO_ge {o : Oper'} {l : Int} (h0 : 0 ≤ l) (hp : o.params.length ≤ 1152921504606846976) (hn : o.name.length ≤ 9223372036854775807) (hs : ∀ s ∈ o.params, s.length ≤ 9223372036854775807) (hb : St.Wss o.body) (q : Nat) (hq : q ≤ 20) :
    -4611686018427387904 ≤ roomP (o.params.take q) (roomS o.body (l - 1 - (o.params.length : Int) - (o.name.length : Int) / 100)) := by
  have h1 := roomS_ge o.body (l - 1 - (o.params.length : Int) - (o.name.length : Int) / 100) hb
  have h2 := roomP_ge (o.params.take q) (roomS o.body (l - 1 - (o.params.length : Int) - (o.name.length : Int) / 100)) fun s hs2 => hs s (List.mem_of_mem_take hs2)
  have h3 : (o.params.take q).length ≤ 20 := by rw [List.length_take]; omega
  omega
end Go.Proofs.YthfjkdgaiaokdaaDoor
