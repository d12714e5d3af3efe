/- The walk of the parser's args, once for whatever expr answers (printed by wip/genprl.py). No condition beyond the state. The parser's expression functions answer what the pure parser answers (printed by wip/genprm.py). No condition beyond the state. The frames of the parser's statement functions; the walk of block, once for whatever statement answers (printed by wip/genprn.py). No condition beyond the state. The frames of statements' boxes (printed by wip/genpro.py). No condition beyond the state. The walk of the parser's branch (printed by wip/genprp.py). No condition beyond the state. What a statement's walk needs: the pure answers in parts, a store of an expression into a statement's box. No condition beyond the state. -/
import Derived.Test.YtkakbidllpjopaaGreatDoorW07
set_option linter.unusedVariables false
set_option linter.unusedSimpArgs false
namespace Go.Proofs.YtkakbidllpjopaaGreatDoor
open Go.RowKit

theorem PSx.rlen {L : List Lx.Tok} {A : Option Addr} {n c g : Nat} {w : World} {bad : Bool} {R : List Tk} (h : PSx L A n c g w bad R) : R.length ≤ 70000 := by
  have e := h.idx
  obtain ⟨i, hi⟩ := h
  have := hi.ok.len
  omega
theorem enter_args1 (args : Array Value) (w : World) : (callFunc 150 args).run Tryz.prog w = .ok (.enter 150 args) w := by
  kernel_rfl
set_option maxRecDepth 100000 in
set_option maxHeartbeats 12800000 in
theorem args_gen (L : List Lx.Tok) (A : Option Addr) (n c g : Nat) (w : World) (bad : Bool) (R : List Tk) (h : PSx L A n c g w bad R) (f : Nat)
    (hE : ∀ f', f' < f → ∀ W R', 8 * R'.length + 7 ≤ f' → PSx L A n c g W false R' → Calls Tryz.prog 23 #[.pointer (some ⟨g, 0, none⟩)] W (XP L A n c g W (pB f' 0 R')))
    (hm : bad = false → 8 * R.length + 1 ≤ f) :
    Calls Tryz.prog 134 #[.pointer (some ⟨g, 0, none⟩)] w (LP L A n c g w (if bad = true then .bad R else pA f R)) := by
  have hPA : (if bad = true then Res.bad R else pA f R) = (if bad = true then Res.bad R else pPg (fun f R => pB f 0 R) (f - 1) R) := by
    cases bad with
    | true => rfl
    | false =>
      obtain ⟨f0, rfl⟩ : ∃ f0, f = f0 + 1 := ⟨f - 1, by have := hm rfl; omega⟩
      rw [if_neg (by simp), if_neg (by simp), pA, pPg, Nat.add_sub_cancel]
      simp only [pLg_pL]
  rw [hPA]
  obtain ⟨wa, hwa⟩ : ∃ wa, wa = w.alloc (.cells #[.pointer (some ⟨g, 0, none⟩)] 66) := ⟨_, rfl⟩
  obtain ⟨wb, hwb⟩ : ∃ wb, wb = wa.alloc (.cells #[.slice none 0 0] 25) := ⟨_, rfl⟩
  have hba : Below w.heap.size w wa := by rw [hwa]; exact (Below.refl _ _).alloc (Nat.le_refl _) _
  have hsa : wa.heap.size = w.heap.size + 1 := by rw [hwa]; exact World.size_alloc ..
  have hsb : wb.heap.size = w.heap.size + 2 := by rw [hwb, World.size_alloc, hsa]
  have hbb : Below wa.heap.size wa wb := by rw [hwb]; exact (Below.refl _ _).alloc (Nat.le_refl _) _
  have hq3 : wb.heap[w.heap.size + 1]? = some (.cells #[.slice none 0 0] 25 (0, 0)) := by rw [hwb, ← hsa]; exact heap_alloc_new wa _
  have hq1 : wb.heap[w.heap.size]? = some (.cells #[.pointer (some ⟨g, 0, none⟩)] 66 (0, 0)) := by
    rw [hbb.block _ (by omega), hwa]; exact heap_alloc_new w _
  have HG0 := Lib.hid (gr_below (Below.grown_ hba (some g)) hbb)
  have h0 := (h.next hba).next hbb
  have hgl := h.lt
  have htb := h.base
  have hrl := h.rlen
  have htb2 : TB A g (w.heap.size + 1) := by
    obtain ⟨⟨b, q, e, h1⟩, h2, h3⟩ := htb
    exact ⟨⟨b, q, e, by omega⟩, by omega, by omega⟩
  have K := Lib.hid (commas_gen (β := Ex) L A n c g wb bad R 150 #[] #[.pointer (some ⟨w.heap.size + 1, 0, none⟩), .pointer (some ⟨w.heap.size, 0, none⟩)]
    (fun W acc b R' => PSx L A n c g W b R' ∧ ∃ v, W.cell? ⟨w.heap.size, 0, none⟩ = some (.pointer (some ⟨g, 0, none⟩)) ∧ W.heap[w.heap.size + 1]? = some (.cells #[v] 25 (0, 0)) ∧ OwnG XV 27 6 W (w.heap.size + 2) v acc ∧ Kp (w.heap.size + 2) g (w.heap.size + 1) wb W)
    (fun f R => pB f 0 R) 8 8 (f - 1) (by omega) (by omega)
    ⟨h0, _, by rw [cell_of_row _ _ _ _ _ _ hq1]; rfl, hq3, OwnG.nil _ _, Kp.refl _ _ _ _⟩ (fun W acc b R' h => h.1)
    (fun W W' acc b b' R' R'' ⟨h1, v, h2, h3, h4, h5⟩ hg hp => ⟨hp, v, (World.cell?_of_block (a := ⟨w.heap.size, 0, none⟩) (hg.block _ (World.block_lt_of_cell? _ _ h2) (fun e => by have e : w.heap.size = g := Option.some.inj e; omega))).trans h2, (hg.block _ (lt_of_block h3) (fun e => by have := Option.some.inj e; omega)).trans h3, h4.gr okXV hg (fun k e => by have := Option.some.inj e; omega), h5.trans (Kp.gr (by have := h5.size; omega) hg (fun k e => .inl (Option.some.inj e).symm))⟩)
    (fun f R' a r e => suf_len ((suf_of ((suf_parts f).1 0 R')).1 _ _ e)) (fun f R' r e => suf_len ((suf_of ((suf_parts f).1 0 R')).2 _ e))
    (fun f' W acc R' hf hl hal ⟨h1, v, h2, h3, h4, h5⟩ => by
      refine (args1_gen L A n c g W false R' h1 (w.heap.size + 1) w.heap.size (w.heap.size + 2) v acc h2 (by omega) (by omega) (by omega) h3 h4 (by omega) (by omega) (by have := h5.size; omega) htb2 (by omega) (pB f' 0 R') (fun W hW => hE f' (by omega) W R' (by omega) hW)).mono ?_
      rintro e w' ⟨rfl, x, v', hP, hbx, hO, hK⟩
      refine ⟨rfl, x, Res.is_imp hP fun b r hp => ⟨hp, v', (World.cell?_of_block (a := ⟨w.heap.size, 0, none⟩) (hK.block _ (show w.heap.size < _ by omega) (show w.heap.size ≠ _ by omega) (show w.heap.size ≠ _ by omega))).trans h2, hbx, hO, h5.trans hK⟩⟩)
    (fun hb h40 => by
      have := hm hb
      have hlt : R.tail.length + 1 = R.length := by cases R with | nil => cases h40 | cons t r => rfl
      omega) enter_args1)
  generalize (if bad = true then Res.bad R else pPg (fun f R => pB f 0 R) (f - 1) R) = PZ at *
  have HSA := Lib.hid hsa
  have C1 := Lib.hid (show wb.cell? ⟨w.heap.size, 0, none⟩ = some (.pointer (some ⟨g, 0, none⟩)) from by rw [cell_of_row _ _ _ _ _ _ hq1]; rfl)
  have HSB := Lib.hid hsb
  have HGL := Lib.hid hgl
  clear h hE hm hPA hba hbb hq3 hq1 h0 htb htb2 hgl hrl hsb
  rw [hwa] at hwb
  go_enter Tryz.func134, Tryz.ntmps134
  go_upto_region 2 with fail
  rw [← hwb]
  clear hwb hwa hsa
  have c1 : wb.cell? ⟨w.heap.size, 0, none⟩ = some (.pointer (some ⟨g, 0, none⟩)) := C1.out
  go_wp2_with fail
  refine K.out.mono ?_
  rintro e w1 ⟨rfl, acc, hP⟩
  obtain ⟨b, r, ⟨hps, v, hpc, hbx, hO, hK⟩, -, hb1, ho1⟩ := Res.is_ex hP
  obtain ⟨A1, c1', rfl, hxl⟩ := hO.xl
  have HPP := Lib.hid (show PZ.is acc fun b r => PSx L A n c g w1 b r from Res.is_imp hP fun b r h => h.1)
  have c3 : w1.cell? ⟨w.heap.size + 1, 0, none⟩ = some (.slice A1 acc.length c1') := by rw [cell_of_row _ _ _ _ _ _ hbx]; rfl
  have HXL := Lib.hid (hxl.more (S' := fun b => w.heap.size ≤ b) fun b _ (h : w.heap.size + 2 ≤ b) => by omega)
  have GR := Lib.hid (show w.grownBy w1 (some g) from by
    have g0 := HG0.out
    exact ⟨hK.os.trans g0.os, hK.tape.trans g0.tape, hK.output.trans g0.output, Nat.le_trans g0.size hK.size, fun b hb hne => (hK.block b (by omega) (fun e => hne (by rw [e])) (by omega)).trans (g0.block b hb hne)⟩)
  clear hP hps hpc hbx hO hK hb1 ho1 hxl c1 K C1
  go_wp2
  go_ret
  exact ⟨acc, A1, acc.length, c1', rfl, HXL.out, GR.out, HPP.out⟩
end Go.Proofs.YtkakbidllpjopaaGreatDoor
namespace Go.Proofs.YtkakbidllpjopaaGreatDoor
open Go.RowKit

section
variable {L : List Lx.Tok} {A : Option Addr} {n c g : Nat}
theorem unary_bad (W : World) (R : List Tk) (h : PSx L A n c g W true R) : Calls Tryz.prog 135 #[.pointer (some ⟨g, 0, none⟩)] W (XP L A n c g W (.bad R)) := by
  have := unary_gen L A n c g W true R h (.bad R) (.bad R) (.bad R) (.bad R) (fun e => by rcases e with e | e <;> cases e) (fun e => by cases e) (fun e => by cases e) (fun e => by cases e)
  exact this
theorem product_bad (W : World) (R : List Tk) (h : PSx L A n c g W true R) : Calls Tryz.prog 128 #[.pointer (some ⟨g, 0, none⟩)] W (XP L A n c g W (.bad R)) :=
  lvl_product L A n c g W true R h 0 (fun W R' h => unary_bad W R' h) (fun f' h => absurd h (Nat.not_lt_zero _)) (fun e => by cases e)
theorem sum_bad (W : World) (R : List Tk) (h : PSx L A n c g W true R) : Calls Tryz.prog 105 #[.pointer (some ⟨g, 0, none⟩)] W (XP L A n c g W (.bad R)) :=
  lvl_sum L A n c g W true R h 0 (fun W R' h => product_bad W R' h) (fun f' h => absurd h (Nat.not_lt_zero _)) (fun e => by cases e)
theorem comparison_bad (W : World) (R : List Tk) (h : PSx L A n c g W true R) : Calls Tryz.prog 81 #[.pointer (some ⟨g, 0, none⟩)] W (XP L A n c g W (.bad R)) :=
  lvl_comparison L A n c g W true R h 0 (fun W R' h => sum_bad W R' h) (fun f' h => absurd h (Nat.not_lt_zero _)) (fun e => by cases e)
theorem and_bad (W : World) (R : List Tk) (h : PSx L A n c g W true R) : Calls Tryz.prog 47 #[.pointer (some ⟨g, 0, none⟩)] W (XP L A n c g W (.bad R)) :=
  lvl_and L A n c g W true R h 0 (fun W R' h => comparison_bad W R' h) (fun f' h => absurd h (Nat.not_lt_zero _)) (fun e => by cases e)
theorem expr_bad (W : World) (R : List Tk) (h : PSx L A n c g W true R) : Calls Tryz.prog 23 #[.pointer (some ⟨g, 0, none⟩)] W (XP L A n c g W (.bad R)) :=
  lvl_expr L A n c g W true R h 0 (fun W R' h => and_bad W R' h) (fun f' h => absurd h (Nat.not_lt_zero _)) (fun e => by cases e)
end
/-- What the function of a level is. -/
def lvF : Nat → Nat
  | 0 => 23
  | 1 => 47
  | 2 => 81
  | 3 => 105
  | _ => 128
/-- All the expression functions, with so much fuel. -/
structure At (L : List Lx.Tok) (A : Option Addr) (n c g f : Nat) : Prop where
  lv : ∀ k, k < 5 → ∀ W R, 8 * R.length + 2 + (5 - k) ≤ f → PSx L A n c g W false R → Calls Tryz.prog (lvF k) #[.pointer (some ⟨g, 0, none⟩)] W (XP L A n c g W (pB f k R))
  un : ∀ W R, 8 * R.length + 1 ≤ f → PSx L A n c g W false R → Calls Tryz.prog 135 #[.pointer (some ⟨g, 0, none⟩)] W (XP L A n c g W (pU f R))
  ho : ∀ W R, 8 * R.length + 1 ≤ f → PSx L A n c g W false R → Calls Tryz.prog 116 #[.pointer (some ⟨g, 0, none⟩)] W (XP L A n c g W (pH f R))
  ca : ∀ W R s, 8 * R.length + 1 ≤ f → PSx L A n c g W false R → Calls Tryz.prog 117 #[.pointer (some ⟨g, 0, none⟩), .string (bs s)] W (XP L A n c g W (pK f s R))
theorem isT_len {s : Str} {R : List Tk} (h : isT s R = true) : R.tail.length + 1 = R.length := by cases R with | nil => cases h | cons t r => rfl
theorem kind_len {k : Int} {R : List Tk} (h : kindT R = k) (hk : k ≠ 0) : R.tail.length + 1 = R.length := by cases R with | nil => exact absurd h.symm hk | cons t r => rfl
theorem wd_len (b : Bool) (k : Int) (R : List Tk) : (wdR b k R).length ≤ R.length := by
  unfold wdR
  split
  · exact Nat.le_refl _
  · rw [List.length_tail]; omega
theorem tkR_len (b : Bool) (s : Str) (R : List Tk) : (tkR b s R).length ≤ R.length := by
  unfold tkR
  split
  · rw [List.length_tail]; omega
  · exact Nat.le_refl _
/-- What args answers behind a dot and a name. -/
def pDA (f : Nat) (R : List Tk) : Res (List Ex) := if wdB (false || !isT [46] R) 1 (tkR false [46] R) = true then .bad (wdR (false || !isT [46] R) 1 (tkR false [46] R)) else pA f (wdR (false || !isT [46] R) 1 (tkR false [46] R))
theorem dot_cases (R : List Tk) :
    (isT [46] R = false ∧ wdB (false || !isT [46] R) 1 (tkR false [46] R) = true ∧ wdR (false || !isT [46] R) 1 (tkR false [46] R) = R) ∨
    (isT [46] R = true ∧ kindT R.tail ≠ 1 ∧ wdB (false || !isT [46] R) 1 (tkR false [46] R) = true ∧ wdR (false || !isT [46] R) 1 (tkR false [46] R) = R.tail) ∨
    (isT [46] R = true ∧ kindT R.tail = 1 ∧ wdB (false || !isT [46] R) 1 (tkR false [46] R) = false ∧ wdR (false || !isT [46] R) 1 (tkR false [46] R) = R.tail.tail ∧ wdS (false || !isT [46] R) 1 (tkR false [46] R) = textT R.tail) := by
  cases h : isT [46] R with
  | false =>
    left
    have e : tkR false [46] R = R := if_neg (by unfold tk; rw [h]; simp)
    rw [e]
    exact ⟨rfl, rfl, if_pos (.inl rfl)⟩
  | true =>
    right
    have e : tkR false [46] R = R.tail := if_pos (by unfold tk; rw [h]; rfl)
    rw [e]
    by_cases hk : kindT R.tail = 1
    · right
      refine ⟨rfl, hk, by simp [wdB, hk], if_neg (by rintro (e | e); cases e; exact e hk), if_neg (by rintro (e | e); cases e; exact e hk)⟩
    · left
      exact ⟨rfl, hk, by simp [wdB, hk], if_pos (.inr hk)⟩
theorem hostP (f : Nat) (R : List Tk) : ((pDA f R).map fun l => Ex.mk 7 0 (wdS (false || !isT [46] R) 1 (tkR false [46] R)) [] l []) = pH (f + 1) R := by
  rw [pH]
  unfold pDA
  rcases dot_cases R with ⟨h1, h2, h3⟩ | ⟨h1, hk, h2, h3⟩ | ⟨h1, hk, h2, h3, h4⟩
  · rw [if_pos h2, h3, if_neg (by rw [h1]; simp)]; rfl
  · rw [if_pos h2, h3, if_pos h1, if_neg hk]; rfl
  · rw [if_neg (by rw [h2]; simp), h3, if_pos h1, if_pos hk, h4]
    cases pA f R.tail.tail <;> rfl
theorem callP (f : Nat) (s : Str) (R : List Tk) : kEnd s (wdS (false || !isT [46] R) 1 (tkR false [46] R)) (pDA f R) (pU f) = pK (f + 1) s R := by
  rw [pK]
  unfold pDA kEnd
  rcases dot_cases R with ⟨h1, h2, h3⟩ | ⟨h1, hk, h2, h3⟩ | ⟨h1, hk, h2, h3, h4⟩
  · rw [if_pos h2, h3, if_neg (by rw [h1]; simp)]
  · rw [if_pos h2, h3, if_pos h1, if_neg hk]
  · rw [if_neg (by rw [h2]; simp), h3, if_pos h1, if_pos hk, h4]
    cases pA f R.tail.tail with
    | bad r => rfl
    | ok l r =>
      dsimp only
      split
      · cases pU f r.tail <;> rfl
      · rfl
theorem unaryP (f : Nat) (R : List Tk) : uEnd false R (pU f R.tail) (pB f 0 R.tail) (pH f R.tail) (pK f (textT R) R.tail) = pU (f + 1) R := by
  rw [pU]
  unfold uEnd pEnd
  have e : ∀ s, tk false s R = isT s R := fun s => rfl
  have e1 : ∀ k, (wdB false k R = false) = (kindT R = k) := fun k => by simp [wdB]
  simp only [e, e1]
  split
  · cases pU f R.tail <;> rfl
  · split
    · cases pU f R.tail <;> rfl
    · rfl
set_option maxHeartbeats 3200000 in
theorem at_all (L : List Lx.Tok) (A : Option Addr) (n c g : Nat) (f : Nat) : At L A n c g f := by
  induction f using Nat.strongRecOn with
  | ind f ih =>
    have hargs : ∀ f0, f0 < f → ∀ W b R, (b = false → 8 * R.length + 1 ≤ f0) → PSx L A n c g W b R → Calls Tryz.prog 134 #[.pointer (some ⟨g, 0, none⟩)] W (LP L A n c g W (if b = true then .bad R else pA f0 R)) := fun f0 h0 W b R hl h =>
      args_gen L A n c g W b R h f0 (fun f' hf W R' hl h => (ih f' (by omega)).lv 0 (by omega) W R' (by omega) h) hl
    have hda : ∀ f0, f0 < f → ∀ W R, 8 * R.length ≤ f0 → PSx L A n c g W (wdB (false || !isT [46] R) 1 (tkR false [46] R)) (wdR (false || !isT [46] R) 1 (tkR false [46] R)) → Calls Tryz.prog 134 #[.pointer (some ⟨g, 0, none⟩)] W (LP L A n c g W (pDA f0 R)) := fun f0 h0 W R hl h =>
      hargs f0 h0 W _ _ (fun e => by
        rcases dot_cases R with ⟨h1, h2, h3⟩ | ⟨h1, hk, h2, h3⟩ | ⟨h1, hk, h2, h3, h4⟩
        · rw [h2] at e; cases e
        · rw [h2] at e; cases e
        · rw [h3]
          have l1 := isT_len h1
          have l2 := kind_len hk (by decide)
          omega) h
    refine ⟨?_, ?_, ?_, ?_⟩
    · intro k hk W R hl h
      match k, hk with
      | 0, _ => exact lvl_expr L A n c g W false R h f (fun W R' h => and_bad W R' h) (fun f' hf W R' hl h => (ih f' hf).lv 1 (by omega) W R' (by omega) h) (fun _ => by omega)
      | 1, _ => exact lvl_and L A n c g W false R h f (fun W R' h => comparison_bad W R' h) (fun f' hf W R' hl h => (ih f' hf).lv 2 (by omega) W R' (by omega) h) (fun _ => by omega)
      | 2, _ => exact lvl_comparison L A n c g W false R h f (fun W R' h => sum_bad W R' h) (fun f' hf W R' hl h => (ih f' hf).lv 3 (by omega) W R' (by omega) h) (fun _ => by omega)
      | 3, _ => exact lvl_sum L A n c g W false R h f (fun W R' h => product_bad W R' h) (fun f' hf W R' hl h => (ih f' hf).lv 4 (by omega) W R' (by omega) h) (fun _ => by omega)
      | 4, _ => exact lvl_product L A n c g W false R h f (fun W R' h => unary_bad W R' h) (fun f' hf W R' hl h => by
          obtain ⟨f0, rfl⟩ : ∃ f0, f' = f0 + 1 := ⟨f' - 1, by omega⟩
          rw [pB, if_pos (by omega)]
          exact (ih f0 (by omega)).un W R' (by omega) h) (fun _ => by omega)
    · intro W R hl h
      obtain ⟨f0, rfl⟩ : ∃ f0, f = f0 + 1 := ⟨f - 1, by omega⟩
      rw [← unaryP]
      exact unary_gen L A n c g W false R h _ _ _ _ (fun e W h => (ih f0 (by omega)).un W _ (by have := e.elim (fun e => isT_len (tk_true e).2.1) (fun e => isT_len (tk_true e).2.1); omega) h)
        (fun e W h => (ih f0 (by omega)).lv 0 (by omega) W _ (by have := isT_len (tk_true e).2.1; omega) h)
        (fun e W h => (ih f0 (by omega)).ho W _ (by have := isT_len (tk_true e).2.1; omega) h)
        (fun e _ W h => (ih f0 (by omega)).ca W _ _ (by have := kind_len (wd_false e).2.1 (by decide); omega) h)
    · intro W R hl h
      obtain ⟨f0, rfl⟩ : ∃ f0, f = f0 + 1 := ⟨f - 1, by omega⟩
      rw [← hostP]
      exact host_gen L A n c g W false R h _ (fun W h => hda f0 (by omega) W R (by omega) h)
    · intro W R s hl h
      obtain ⟨f0, rfl⟩ : ∃ f0, f = f0 + 1 := ⟨f - 1, by omega⟩
      rw [← callP]
      exact call_gen L A n c g W false R h s _ _ (fun W h => hda f0 (by omega) W R (by omega) h) (fun l r e he W h => (ih f0 (by omega)).un W _ (by
        have l1 := isT_len he
        unfold pDA at e
        split at e
        · cases e
        · have l2 := suf_len ((suf_of ((suf_parts f0).2.2.2.2.2.1 _)).1 _ _ e)
          have l3 := wd_len (false || !isT [46] R) 1 (tkR false [46] R)
          have l4 := tkR_len false [46] R
          omega) h)
end Go.Proofs.YtkakbidllpjopaaGreatDoor
namespace Go.Proofs.YtkakbidllpjopaaGreatDoor
open Go.RowKit

theorem SV.gr {w w' : World} {S S' : Nat → Prop} {e : St} {cs : List Value} {r : Nat} (h : SV w S e cs) (hg : w.grownBy w' (some r)) (hS : ∀ b, b < w.heap.size → S b → b ≠ r ∧ S' b) : SV w' S' e cs :=
  SV.keep hg.size (fun b hb hs => hg.block b hb fun e => (hS b hb hs).1 (Option.some.inj e)) (fun b hb hs => (hS b hb hs).2) h
theorem SL.gr {w w' : World} {S S' : Nat → Prop} {A : Option Addr} {n c : Nat} {l : List St} {r : Nat} (h : SL w S A n c l) (hg : w.grownBy w' (some r)) (hS : ∀ b, b < w.heap.size → S b → b ≠ r ∧ S' b) : SL w' S' A n c l :=
  SL.keep hg.size (fun b hb hs => hg.block b hb fun e => (hS b hb hs).1 (Option.some.inj e)) (fun b hb hs => (hS b hb hs).2) h
/-- What a function that reads a statement answers. -/
def SP (L : List Lx.Tok) (A : Option Addr) (n c g : Nat) (w : World) (P : Res St) (e : Ending) (w' : World) : Prop :=
  ∃ (st : St) (cs : List Value), e = .returned (.agg cs.toArray) ∧ SV w' (fun b => w.heap.size ≤ b) st cs ∧ w.grownBy w' (some g) ∧ P.is st fun b r => PSx L A n c g w' b r
/-- .. a list of statements. -/
def TP (L : List Lx.Tok) (A : Option Addr) (n c g : Nat) (w : World) (P : Res (List St)) (e : Ending) (w' : World) : Prop :=
  ∃ (l : List St) (B : Option Addr) (m k : Nat), e = .returned (.slice B m k) ∧ SL w' (fun b => w.heap.size ≤ b) B m k l ∧ w.grownBy w' (some g) ∧ P.is l fun b r => PSx L A n c g w' b r
theorem wl_app {P : Program} {ops : Array Oper} {rest : List Oper} {o : Oper} {a : Act} {w : World} {Q : Exit → Act → World → Prop}
    (hg : o.guard = none) (d x : Operand) (t : TypeId) (hop : o.op = Op.call { callee := Callee.builtin Builtin.append, args := #[d, x], argTypes := #[t, t] })
    (v u : Value) (hd : a.eval d = v) (hx : a.eval x = u) {v' : Value} {w' : World} (hr : (Builtin.append_ #[t, t] o.type #[v, u]).run P w = .ok v' w') (h : wpList P ops Q rest (a.put o.dst v') w') : wpList P ops Q (o :: rest) a w :=
  wpList_plain hg fun _ hK => by
    unfold Oper.wp execOp
    simp only [hop, resolve, invoke, builtin, Sem.run_bind, Sem.run_pure, Result.andThen_ok, List.map_toArray, List.map_cons, List.map_nil, hd, hx, hr]
    exact hK _ _ h
theorem SL.nil_ (w : World) (S : Nat → Prop) : SL w S none 0 0 [] := ⟨⟨rfl, Nat.le_refl _, fun _ => rfl⟩, fun h => absurd h (by omega)⟩
theorem tail_le (R : List Tk) : R.tail.length ≤ R.length := by rw [List.length_tail]; omega
set_option maxRecDepth 100000 in
set_option maxHeartbeats 12800000 in
theorem block_gen (L : List Lx.Tok) (A : Option Addr) (n c g : Nat) (w : World) (bad : Bool) (R : List Tk) (h : PSx L A n c g w bad R) (f : Nat)
    (hS : ∀ f', f' < f → ∀ W R', 4 * R'.length + 3 ≤ f' → PSx L A n c g W false R' → Calls Tryz.prog 89 #[.pointer (some ⟨g, 0, none⟩)] W (SP L A n c g W (pS f' R')))
    (hlt : ∀ f R s r, pS f R = .ok s r → r.length + 1 ≤ R.length)
    (hm : bad = false → 4 * R.length + 1 ≤ f) :
    Calls Tryz.prog 58 #[.pointer (some ⟨g, 0, none⟩)] w (TP L A n c g w (if bad = true then .bad R else pBl f R)) := by
  obtain ⟨PZ, hPZ⟩ : ∃ z, z = (if bad = true then .bad R else pBl f R) := ⟨_, rfl⟩
  rw [← hPZ]
  have hrl := h.rlen
  have hb0 := (Below.refl w.heap.size w).alloc (Nat.le_refl _) (.cells #[.string { data := #[123] }] 9)
  have K1 := Lib.hid (need_any L A n c g _ bad R (h.next hb0) [123] w.heap.size (by simp) (by have := h.lt; omega) (by rw [cell_of_row _ _ _ _ _ _ (heap_alloc_new w _)]; rfl))
  have G0 := Lib.hid (Below.grown_ hb0 (some g))
  have TBs := Lib.hid h.base
  have HGL := Lib.hid h.lt
  have HRL := Lib.hid hrl
  obtain ⟨f1, hz1, hf1⟩ : ∃ f1, PZ = (if (bad || !isT [123] R) = true then .bad (tkR bad [123] R) else pM f1 [] (tkR bad [123] R)) ∧ ((bad || !isT [123] R) = false → (4 * (tkR bad [123] R).length + 4 ≤ f1 ∧ f1 ≤ f) ∧ (tkR bad [123] R).length ≤ R.length) := by
    cases bad with
    | true => exact ⟨0, hPZ, fun e => by cases e⟩
    | false =>
      have hm := hm rfl
      obtain ⟨f0, rfl⟩ : ∃ f0, f = f0 + 1 := ⟨f - 1, by omega⟩
      rw [if_neg (by simp), pBl] at hPZ
      cases h4 : isT [123] R with
      | false =>
        have er : tkR false [123] R = R := if_neg (by unfold tk; rw [h4]; simp)
        rw [h4, if_neg (by simp)] at hPZ
        rw [er]
        exact ⟨0, hPZ, fun e => by cases e⟩
      | true =>
        have er : tkR false [123] R = R.tail := if_pos (by unfold tk; rw [h4]; rfl)
        rw [h4, if_pos rfl] at hPZ
        have hl := isT_len h4
        rw [er]
        exact ⟨f0, hPZ, fun _ => ⟨⟨by omega, by omega⟩, by omega⟩⟩
  have Z1 := Lib.hid hz1
  have F1 := Lib.hid hf1
  have HS := Lib.hid hS
  have HSTR := Lib.hid hlt
  generalize (bad || !isT [123] R) = b1 at *
  generalize tkR bad [123] R = R1 at *
  clear h hrl hb0 hPZ hz1 hf1 hS hlt hm
  go_enter Tryz.func58, Tryz.ntmps58
  go_wp2_with fail
  refine K1.out.mono ?_
  rintro e w1 ⟨rfl, h1, hg⟩
  have P1 := Lib.hid h1
  have G1 := Lib.hid (World.grownBy.trans G0.out hg)
  clear h1 hg K1 G0
  go_wp2_with fail
  go_loopw [3] (fun v3 wr => ∃ (acc : List St) (b : Bool) (R' : List Tk) (f1 : Nat), PSx L A n c g wr b R' ∧ OwnG SV 74 11 wr w.heap.size v3 acc ∧ w.grownBy wr (some g) ∧ PZ = (if b = true then .bad R' else pM f1 acc R') ∧ (b = false → (4 * R'.length + 4 ≤ f1 ∧ f1 ≤ f) ∧ acc.length + R'.length ≤ R.length)) (fun _ wr => 2 * (L.length - idxOf g wr) + notBad g wr)
  case atStart => exact ⟨[], b1, R1, f1, P1.out, OwnG.nil _ _, G1.out, Z1.out, fun e => ⟨(F1.out e).1, by rw [List.length_nil, Nat.zero_add]; exact (F1.out e).2⟩⟩
  case round =>
    clear P1 G1 Z1 F1
    obtain ⟨acc, b, R', f2, hP, hO, hG, hZ, hF⟩ := hrel
    have HMU := Lib.hid (show 2 * (L.length - idxOf g wr) + notBad g wr = 2 * R'.length + if b = true then 0 else 1 from by rw [hP.idx, hP.nb])
    have P2 := Lib.hid hP
    have O2 := Lib.hid hO
    have G2 := Lib.hid hG
    obtain ⟨i2, hi2⟩ := hP
    obtain ⟨q0, q1, q2⟩ := hi2.cells
    clear hO hG hi2
    cases b with
    | true =>
      rw [if_pos rfl] at hZ
      have HZ2 := Lib.hid hZ
      clear hZ hF
      obtain ⟨A2, c2, rfl, hsl⟩ := O2.out.sl
      have HSL := Lib.hid hsl
      clear hsl
      go_wp2
      go_ret
      refine ⟨acc, A2, acc.length, c2, rfl, HSL.out, G2.out, ?_⟩
      rw [HZ2.out]
      exact P2.out
    | false =>
      rw [if_neg (by simp)] at hZ
      obtain ⟨⟨hf1, hf2⟩, hla⟩ := hF rfl
      obtain ⟨f3, hf3⟩ : ∃ f3, f2 = f3 + 1 := ⟨f2 - 1, by omega⟩
      subst hf3
      rw [pM] at hZ
      have HF1 := Lib.hid hf1
      have HF2 := Lib.hid hf2
      have HLA := Lib.hid hla
      have HZ3 := Lib.hid hZ
      clear hZ hF hf1 hf2 hla
      go_wp2_with fail
      refine (take_any L A n c g wr false R' P2.out [125]).mono ?_
      rintro e w3 ⟨rfl, h3, hg⟩
      by_cases ht : tk false [125] R' = true
      · obtain ⟨eb, ei, er⟩ := tk_true ht
        rw [ht]
        rw [er] at h3
        have P3 := Lib.hid h3
        have O3 := Lib.hid (O2.out.gr okSV hg (fun k e => by have := Option.some.inj e; have := HGL.out; omega))
        have G3 := Lib.hid (World.grownBy.trans G2.out hg)
        have hz := HZ3.out
        rw [if_pos ei] at hz
        have HZ4 := Lib.hid hz
        clear hz eb ei er ht h3 hg P2 O2 G2
        obtain ⟨A2, c2, rfl, hsl⟩ := O3.out.sl
        have HSL := Lib.hid hsl
        clear hsl
        go_wp2
        go_ret
        refine ⟨acc, A2, acc.length, c2, rfl, HSL.out, G3.out, ?_⟩
        rw [HZ4.out]
        exact ⟨rfl, P3.out⟩
      · obtain ⟨e1, e2⟩ := tk_false ht
        rw [e1]
        rw [e2] at h3
        have P3 := Lib.hid h3
        have O3 := Lib.hid (O2.out.gr okSV hg (fun k e => by have := Option.some.inj e; have := HGL.out; omega))
        have G3 := Lib.hid (World.grownBy.trans G2.out hg)
        have hz := HZ3.out
        rw [if_neg (by have e : isT [125] R' = false := by simpa [tk] using e1
                       rw [e]; simp)] at hz
        have HZ4 := Lib.hid hz
        clear hz e1 e2 ht h3 hg P2 O2 G2
        go_wp2_with fail
        refine (HS.out f3 (by have := HF2.out; omega) w3 R' (by have := HF1.out; omega) P3.out).mono ?_
        rintro e w4 ⟨st, cs, rfl, hx, hg, hP4⟩
        obtain ⟨b4, r4, hps, hr4, hb4, ho4⟩ := Res.is_ex (x := st) (P := pS f3 R') (Q := fun b r => PSx L A n c g w4 b r) hP4
        have hl4 := suf_len ((suf_stmts f3).1 R')
        rw [← hr4] at hl4
        obtain ⟨sst, hss⟩ : ∃ z, z = st := ⟨_, rfl⟩
        have HSS := Lib.hid hss
        obtain ⟨sk, sn, sm, se, sb, sl⟩ := st
        obtain ⟨ex, B, nb, cb, Lb, nl, cl, rfl, hex, -, -⟩ := hx.open_
        obtain ⟨k1, n1, s1, m1, a1, o1⟩ := se
        obtain ⟨A1, na1, ca1, O1, no1, co1, rfl, -, -⟩ := hex.open_
        obtain ⟨w5, hw5⟩ : ∃ W, W = w4.alloc (.cells #[.int .i64 sk, .string (bs sn), .int .i64 sm, .int .i64 k1, .int .i64 n1, .string (bs s1), .string (bs m1), .slice A1 na1 ca1, .slice O1 no1 co1, .slice B nb cb, .slice Lb nl cl] 74) := ⟨_, rfl⟩
        have hb5 : Below w4.heap.size w4 w5 := by rw [hw5]; exact (Below.refl _ _).alloc (Nat.le_refl _) _
        have hr5 : w5.heap[w4.heap.size]? = some (.cells #[.int .i64 sk, .string (bs sn), .int .i64 sm, .int .i64 k1, .int .i64 n1, .string (bs s1), .string (bs m1), .slice A1 na1 ca1, .slice O1 no1 co1, .slice B nb cb, .slice Lb nl cl] 74 (0, 0)) := by rw [hw5]; exact heap_alloc_new w4 _
        have O4 := O3.out.gr okSV hg (fun k e => by have := Option.some.inj e; have := HGL.out; omega)
        have O5 := O4.below okSV hb5
        obtain ⟨v6, w6, hrun, O6, gr6, -⟩ := O5.app (t := 72) (ty := 72) okSV apk_s w3.heap.size w4.heap.size _ _ (lt_of_block hr5) (fun j v hv => by rw [Nat.zero_add, cell_of_row _ _ _ _ _ _ hr5, ← hv, ← Array.getElem?_toList]; rfl) (hx.below hb5) (by have := HLA.out; have := HRL.out; omega) (by have := G3.out.size; have := hg.size; have := hb5.size; omega) (fun k e => (O3.out.lt k e).2) G3.out.size
        have gq : ∀ k, u3.ownBlock = some k → w.heap.size ≤ k := fun k e => (O3.out.lt k e).1
        have g45 := gr_below (World.grownBy.trans G3.out hg) hb5
        have G6 := Lib.hid (show w.grownBy w6 (some g) from ⟨gr6.os.trans g45.os, gr6.tape.trans g45.tape, gr6.output.trans g45.output, Nat.le_trans g45.size gr6.size, fun b hb hne => (gr6.block b (Nat.lt_of_lt_of_le hb g45.size) (fun e => by have := gq b e.symm; omega)).trans (g45.block b hb hne)⟩)
        have P6 := Lib.hid (PSx.othr TBs.out (hps.next hb5) gr6 gq)
        have OO6 := Lib.hid O6
        have HRUN := Lib.hid hrun
        have HL4 := Lib.hid hl4
        have HB4 := Lib.hid hb4
        have HO4 := Lib.hid ho4
        clear hx hg hP4 hps hr4 hb4 ho4 hl4 hss hex hb5 hr5 O4 O5 hrun O6 gr6 g45 gq P3 O3 G3
        rw [show (stC sk sn sm (exC k1 n1 s1 m1 A1 na1 ca1 O1 no1 co1) B nb cb Lb nl cl).toArray = #[.int .i64 sk, .string (bs sn), .int .i64 sm, .int .i64 k1, .int .i64 n1, .string (bs s1), .string (bs m1), .slice A1 na1 ca1, .slice O1 no1 co1, .slice B nb cb, .slice Lb nl cl] from rfl]
        go_wp2_with (at_builtin; rw [← hw5]; refine wl_app rfl _ _ 72 rfl _ _ rfl rfl HRUN.out ?_)
        clear HRUN hw5
        have hstr : b4 = false → r4.length + 1 ≤ R'.length := fun e => HSTR.out _ _ _ _ (HO4.out e)
        have hla := HLA.out
        have hf1 := HF1.out
        have hf2 := HF2.out
        have hl4 := HL4.out
        refine ⟨⟨acc ++ [.mk sk sn sm (.mk k1 n1 s1 m1 a1 o1) sb sl], b4, r4, f3, P6.out, OO6.out, G6.out, ?_, fun e => ⟨⟨by have := hstr e; omega, by omega⟩, by have := hstr e; rw [List.length_append, List.length_singleton]; omega⟩⟩, ?_⟩
        · rw [HZ4.out]
          cases b4 with
          | true => rw [HB4.out rfl]; rfl
          | false => rw [HO4.out rfl]; rfl
        · rw [P6.out.idx, P6.out.nb, HMU.out]
          cases b4 with
          | true => simp; omega
          | false => have := hstr rfl; simp; omega
end Go.Proofs.YtkakbidllpjopaaGreatDoor
namespace Go.Proofs.YtkakbidllpjopaaGreatDoor
open Go.RowKit

/-- Block r holds a statement's cells. -/
def SB (w : World) (r : Nat) (u : Array Value) : Prop := w.heap[r]? = some (.cells u 74 (0, 0))
theorem SB.gr {w w' : World} {r k : Nat} {u : Array Value} (h : SB w r u) (hg : w.grownBy w' (some k)) (hk : r ≠ k) : SB w' r u := (hg.block r (lt_of_block h) (fun e => hk (Option.some.inj e))).trans h
theorem SB.below {w w' : World} {r : Nat} {u : Array Value} (h : SB w r u) (hb : Below w.heap.size w w') : SB w' r u := (hb.block r (lt_of_block h)).trans h
theorem SB.lt {w : World} {r : Nat} {u : Array Value} (h : SB w r u) : r < w.heap.size := lt_of_block h
theorem SB.set {w : World} {r : Nat} {u : Array Value} (h : SB w r u) (j : Nat) (v : Value) : SB (w.setCell ⟨r, j, none⟩ v) r (u.setIfInBounds j v) := by
  unfold SB
  rw [setCell_eq_setRow w r j _ _ _ _ h]
  exact setRow_heap _ _ _ _ _ _ h
theorem st_size : (Tryz.prog.info? 74).map (·.size) = some 11 := by kernel_rfl
/-- Eleven values of one cell each. -/
def Elv (u : Array Value) : Prop := u.size = 11 ∧ u.all (·.oneCell') = true
theorem SV.elv {w : World} {S : Nat → Prop} {e : St} {cs : List Value} (h : SV w S e cs) : Elv cs.toArray := by
  refine ⟨by rw [List.size_toArray]; exact h.len, ?_⟩
  rw [List.all_toArray]
  exact List.all_eq_true.2 h.one
section
variable {ops : Array Oper} {rest : List Oper} {a : Act} {w : World} {Q : Exit → Act → World → Prop} {o : Oper} {u old : Array Value}
theorem sb_put (hg : o.guard = none) (x y : Operand) (ho : o.op = .store 74 x y) (hd : o.dst = none) (r : Nat) (hx : a.eval x = .pointer (some ⟨r, 0, none⟩)) (hy : a.eval y = .agg u) (h6 : Elv u) (hb : SB w r old) (h6' : old.size = 11)
    (h : ∀ w', SB w' r u → w.grownBy w' (some r) → w'.heap.size = w.heap.size → wpList Tryz.prog ops Q rest a w') : wpList Tryz.prog ops Q (o :: rest) a w := by
  refine wpList_store_rowTo hg _ x y ho hd r u hx hy _ _ hb (by rw [h6.1]; exact st_size) (by rw [h6.1, h6']) h6.2 ?_
  exact h _ (setRow_heap _ _ _ _ _ _ hb) ⟨rfl, rfl, rfl, Nat.le_of_eq (by simp [World.setRow]), fun k _ hk => setRow_other _ _ _ _ (fun e => hk (by rw [e]))⟩ (by simp [World.setRow])
theorem sb_load (hg : o.guard = none) (x : Operand) (ho : o.op = .load 74 x) (r : Nat) (hx : a.eval x = .pointer (some ⟨r, 0, none⟩)) (hb : SB w r u) (h6 : u.size = 11)
    (h : wpList Tryz.prog ops Q rest (a.put o.dst (.agg u)) w) : wpList Tryz.prog ops Q (o :: rest) a w :=
  wpList_load_row hg _ x ho r hx _ _ _ _ hb Tryz.underlying74 rfl (by rw [h6]; exact st_size) h
end
theorem sb_ret {fnn : Func} {p : Tmp} (hf : fnn.results = #[.cell p 74]) (tmps : Array Value) (w : World) (r : Nat) (u : Array Value) (hp : tmps.getD p undef = .pointer (some ⟨r, 0, none⟩)) (hb : SB w r u) (h6 : u.size = 11) : (results fnn tmps).run Tryz.prog w = .ok (.agg u) w :=
  results_cell_row hf tmps w r _ u _ _ hp hb Tryz.underlying74 rfl (by rw [h6]; exact st_size)
theorem SL.one {w : World} {S : Nat → Prop} {e : St} {cs : List Value} {b : Nat} {t : TypeId} {fr : Nat × Nat} (h : SV w S e cs) (hb : w.heap[b]? = some (.cells cs.toArray t fr)) (hS : S b) : SL w S (some ⟨b, 0, none⟩) 1 1 [e] := by
  refine ⟨⟨rfl, Nat.le_refl _, fun h => by cases h⟩, fun _ => ⟨b, 0, rfl, lt_of_block hb, hS, ?_⟩⟩
  rw [SLf]
  refine ⟨⟨cs, h, fun j v hv => ?_⟩, by rw [SLf]; trivial⟩
  rw [Nat.zero_mul, Nat.zero_add]
  try rw [Nat.zero_add]
  rw [cell_of_row _ _ _ _ _ _ hb, ← hv, ← Array.getElem?_toList]
/-- A statement that is read took at least one token. -/
theorem pS_lt : ∀ (f : Nat) (R : List Tk) (s : St) (r : List Tk), pS f R = .ok s r → r.length + 1 ≤ R.length
  | 0, R, s, r, h => by rw [pS] at h; cases h
  | f + 1, R, s, r, h => by
    have hn : R ≠ [] := by
      rintro rfl
      rw [pS] at h
      simp [isT, kindT, tIf] at h
    have hR : R.tail.length + 1 = R.length := by cases R with | nil => exact absurd rfl hn | cons t r => rfl
    have key : r <:+ R.tail → r.length + 1 ≤ R.length := fun h => by have := h.length_le; omega
    apply key
    rw [pS] at h
    have t1 := tail_suf R.tail
    have t2 := (tail_suf R.tail.tail).trans t1
    split at h
    · exact (suf_of ((suf_stmts f).2.1 R.tail)).1 _ _ h
    split at h
    · split at h
      · cases hb : pBl f R.tail.tail with
        | bad q => rw [hb] at h; cases h
        | ok b q =>
          rw [hb] at h
          injection h with h1 h2
          subst h2
          exact ((suf_of ((suf_stmts f).2.2.1 R.tail.tail)).1 _ _ hb).trans t1
      · cases h
    split at h
    · split at h
      · split at h
        · exact ((suf_of (suf_pN _ _)).1 _ _ h).trans t2
        · cases h
      · cases h
    split at h
    · exact (suf_of (suf_pN _ _)).1 _ _ h
    split at h
    · split at h
      · split at h
        · injection h with h1 h2
          subst h2
          exact t2
        · cases h
      · cases h
    split at h
    · cases hb : pH (8 * R.length + 7) R.tail with
      | bad q => rw [hb] at h; cases h
      | ok b q =>
        rw [hb] at h
        dsimp only at h
        split at h
        · injection h with h1 h2
          subst h2
          exact (tail_suf q).trans ((suf_of ((suf_parts _).2.2.2.1 R.tail)).1 _ _ hb)
        · cases h
    split at h
    · split at h
      · cases hb : pK (8 * R.length + 7) (textT R) R.tail with
        | bad q => rw [hb] at h; cases h
        | ok b q =>
          rw [hb] at h
          dsimp only at h
          split at h
          · injection h with h1 h2
            subst h2
            exact (tail_suf q).trans ((suf_of ((suf_parts _).2.2.2.2.1 _ R.tail)).1 _ _ hb)
          · cases h
      · split at h
        · exact ((suf_of (suf_pN _ _)).1 _ _ h).trans t1
        · cases h
    · cases h
/-- expr, whatever the state. -/
theorem expr_any {L : List Lx.Tok} {A : Option Addr} {n c g : Nat} (W : World) (b : Bool) (R : List Tk) (h : PSx L A n c g W b R) : Calls Tryz.prog 23 #[.pointer (some ⟨g, 0, none⟩)] W (XP L A n c g W (if b = true then .bad R else pE R)) := by
  cases b with
  | true => exact expr_bad W R h
  | false => exact (at_all L A n c g (8 * R.length + 7)).lv 0 (by omega) W R (by omega) h
theorem host_any {L : List Lx.Tok} {A : Option Addr} {n c g : Nat} (W : World) (f : Nat) (R : List Tk) (hf : 8 * R.length + 1 ≤ f) (h : PSx L A n c g W false R) : Calls Tryz.prog 116 #[.pointer (some ⟨g, 0, none⟩)] W (XP L A n c g W (pH f R)) := (at_all L A n c g f).ho W R hf h
theorem call_any {L : List Lx.Tok} {A : Option Addr} {n c g : Nat} (W : World) (f : Nat) (R : List Tk) (s : Str) (hf : 8 * R.length + 1 ≤ f) (h : PSx L A n c g W false R) : Calls Tryz.prog 117 #[.pointer (some ⟨g, 0, none⟩), .string (bs s)] W (XP L A n c g W (pK f s R)) := (at_all L A n c g f).ca W R s hf h
end Go.Proofs.YtkakbidllpjopaaGreatDoor
namespace Go.Proofs.YtkakbidllpjopaaGreatDoor
open Go.RowKit

theorem elv_of (k n k1 n1 : Int) (s s1 m1 : ByteArray) (A B O Lb : Option Addr) (a b c d e f g h : Nat) : Elv #[.int .i64 k, .string s, .int .i64 n, .int .i64 k1, .int .i64 n1, .string s1, .string m1, .slice A a b, .slice O c d, .slice B e f, .slice Lb g h] := ⟨rfl, by simp [Value.oneCell']⟩
set_option maxRecDepth 100000 in
set_option maxHeartbeats 12800000 in
theorem branch_gen (L : List Lx.Tok) (A : Option Addr) (n c g : Nat) (w : World) (R : List Tk) (h : PSx L A n c g w false R) (f : Nat)
    (hBl : ∀ f', f' < f → ∀ W b R', (b = false → 4 * R'.length + 1 ≤ f') → PSx L A n c g W b R' → Calls Tryz.prog 58 #[.pointer (some ⟨g, 0, none⟩)] W (TP L A n c g W (if b = true then .bad R' else pBl f' R')))
    (hI : ∀ f', f' < f → ∀ W R', 4 * R'.length + 2 ≤ f' → PSx L A n c g W false R' → Calls Tryz.prog 114 #[.pointer (some ⟨g, 0, none⟩)] W (SP L A n c g W (pI f' R')))
    (hm : 4 * R.length + 2 ≤ f) :
    Calls Tryz.prog 114 #[.pointer (some ⟨g, 0, none⟩)] w (SP L A n c g w (pI f R)) := by
  obtain ⟨PZ, hPZ⟩ : ∃ z, z = pI f R := ⟨_, rfl⟩
  rw [← hPZ]
  obtain ⟨f0, rfl⟩ : ∃ f0, f = f0 + 1 := ⟨f - 1, by omega⟩
  rw [pI] at hPZ
  have HZ := Lib.hid hPZ
  obtain ⟨w0, hw0⟩ : ∃ w0, w0 = w.alloc (.cells #[.int .i64 0, .string { data := #[] }, .int .i64 0, .int .i64 0, .int .i64 0, .string { data := #[] }, .string { data := #[] }, .slice none 0 0, .slice none 0 0, .slice none 0 0, .slice none 0 0] 74) := ⟨_, rfl⟩
  have hb0 : Below w.heap.size w w0 := by rw [hw0]; exact (Below.refl _ _).alloc (Nat.le_refl _) _
  have X0 := Lib.hid (show SB w0 w.heap.size #[.int .i64 0, .string { data := #[] }, .int .i64 0, .int .i64 0, .int .i64 0, .string { data := #[] }, .string { data := #[] }, .slice none 0 0, .slice none 0 0, .slice none 0 0, .slice none 0 0] from by rw [hw0]; exact heap_alloc_new w _)
  have TBs := Lib.hid h.base
  have G0 := Lib.hid (Below.grown_ hb0 (some g))
  have HGL := Lib.hid h.lt
  have HBL := Lib.hid hBl
  have HI := Lib.hid hI
  have HM := Lib.hid hm
  have KE := Lib.hid (show Calls _ _ _ _ (XP L A n c g w0 (pE R)) from expr_any w0 false R (h.next hb0))
  clear h hBl hI hm hPZ hb0
  go_enter Tryz.func114, Tryz.ntmps114
  go_upto_region 1 with fail
  rw [← hw0]
  clear hw0
  go_wp2_with fail
  refine KE.out.mono ?_
  rintro e w1 ⟨x, cs, rfl, hx, hg, hP⟩
  have X1 := Lib.hid (X0.out.gr hg (by have := HGL.out; omega))
  have G1 := Lib.hid (World.grownBy.trans G0.out hg)
  have HXL := Lib.hid (show w.heap.size < w0.heap.size from X0.out.lt)
  obtain ⟨b1, r1, hps, hr1, hb1, ho1⟩ := Res.is_ex (x := x) (P := pE R) (Q := fun b r => PSx L A n c g w1 b r) hP
  have HB1 := Lib.hid hb1
  have HO1 := Lib.hid ho1
  have HR1 := Lib.hid (show r1.length ≤ R.length from by rw [hr1]; exact suf_len (suf_pE R))
  obtain ⟨xx, hxx⟩ : ∃ z, z = x := ⟨_, rfl⟩
  have HXX := Lib.hid hxx
  obtain ⟨k1, n1, s1, m1, a1, o1⟩ := x
  obtain ⟨A1, na1, ca1, O1, no1, co1, rfl, -, -⟩ := hx.open_
  obtain ⟨wd, hwd⟩ : ∃ wd, wd = w1.alloc (.cells #[.int .i64 3, .string { data := #[] }, .int .i64 0, .int .i64 k1, .int .i64 n1, .string (bs s1), .string (bs m1), .slice A1 na1 ca1, .slice O1 no1 co1, .slice none 0 0, .slice none 0 0] 74) := ⟨_, rfl⟩
  have hbd : Below w1.heap.size w1 wd := by rw [hwd]; exact (Below.refl _ _).alloc (Nat.le_refl _) _
  have H2 := Lib.hid (hps.next hbd)
  have E2 := Lib.hid (show SB wd w1.heap.size #[.int .i64 3, .string { data := #[] }, .int .i64 0, .int .i64 k1, .int .i64 n1, .string (bs s1), .string (bs m1), .slice A1 na1 ca1, .slice O1 no1 co1, .slice none 0 0, .slice none 0 0] from by rw [hwd]; exact heap_alloc_new w1 _)
  have X3 := Lib.hid (X1.out.below hbd)
  have G3 := Lib.hid (gr_below G1.out hbd)
  have HE := Lib.hid (show w.heap.size < w1.heap.size from X1.out.lt)
  have V2 := Lib.hid ((hx.more (S' := fun k => w.heap.size < k ∧ k ≠ w1.heap.size) fun k hk (hb : w0.heap.size ≤ k) => ⟨by have := HXL.out; omega, by omega⟩).below hbd)
  clear hx hg hP hps hr1 hb1 ho1 hxx X0 G0 X1 G1 KE hbd
  unfold exC
  go_upto_region 2 with fail
  rw [← hwd]
  clear hwd
  have KB := Lib.hid (HBL.out f0 (by omega) wd b1 r1 (fun _ => by have := HM.out; have := HR1.out; omega) H2.out)
  generalize w1.heap.size = eb at *
  clear H2
  generalize hPB : (if b1 = true then Res.bad r1 else pBl f0 r1) = PB at *
  have HPB := Lib.hid hPB
  clear hPB
  go_wp2_with fail
  refine KB.out.mono ?_
  rintro e w3 ⟨bl, B, mb, kb, rfl, hl, hg, hP⟩
  have X4 := Lib.hid (X3.out.gr hg (by have := HGL.out; omega))
  have E4 := Lib.hid (E2.out.gr hg (by have := HGL.out; have := HE.out; omega))
  have G4 := Lib.hid (World.grownBy.trans G3.out hg)
  have V4 := Lib.hid (V2.out.gr (S' := fun k => w.heap.size < k ∧ k ≠ eb) hg (fun k _ hk => ⟨by have := hk.1; have := HGL.out; omega, hk⟩))
  have HEW := Lib.hid (show eb < wd.heap.size from E2.out.lt)
  have L4 := Lib.hid (hl.more (S' := fun k => w.heap.size < k ∧ k ≠ eb) fun k _ (hk : wd.heap.size ≤ k) => ⟨by have := HEW.out; have := HE.out; omega, by have := HEW.out; omega⟩)
  obtain ⟨b3, r3, hps, hr3, hb3, ho3⟩ := Res.is_ex (x := bl) (P := PB) (Q := fun b r => PSx L A n c g w3 b r) hP
  have HB3 := Lib.hid hb3
  have HO3 := Lib.hid ho3
  have HR3 := Lib.hid hr3
  have E5 := Lib.hid (E4.out.set 9 (.slice B mb kb))
  have g5 := gr_put w3 eb 9 (.slice B mb kb)
  have X5 := Lib.hid (X4.out.gr g5 (by have := HE.out; omega))
  have G5 := Lib.hid (gr_step (B := 0) G4.out g5 (Nat.le_of_lt HE.out))
  have V5 := Lib.hid (V4.out.gr (S' := fun k => w.heap.size < k ∧ k ≠ eb) g5 (fun k _ hk => ⟨hk.2, hk⟩))
  have L5 := Lib.hid (L4.out.gr (S' := fun k => w.heap.size < k ∧ k ≠ eb) g5 (fun k _ hk => ⟨hk.2, hk⟩))
  have P5 := Lib.hid (hps.other TBs.out g5 (Nat.le_of_lt HE.out))
  have cE : w3.cell? ⟨eb, 9, none⟩ = some (.slice none 0 0) := by rw [cell_of_row _ _ _ _ _ _ E4.out]; rfl
  have fE : w3.frozen? ⟨eb, 9, none⟩ = false := by simp [World.frozen?, show w3.heap[eb]? = _ from E4.out]
  clear hl hg hP hps hr3 hb3 ho3 X3 E2 G3 V2 X4 E4 G4 V4 L4 KB g5
  go_upto_region 3 with fail
  clear cE fE
  generalize w3.setCell ⟨eb, 9, none⟩ (.slice B mb kb) = w4 at *
  have ZA := Lib.hid (show b3 = true → PZ = .bad r3 from fun e => by
    have hz := HZ.out
    have hp := HPB.out
    have h3 := HB3.out e
    cases b1 with
    | true =>
      rw [HB1.out rfl] at hz
      rw [if_pos rfl, h3] at hp
      exact hz.trans (by injection hp with hp; rw [hp])
    | false =>
      rw [HO1.out rfl] at hz
      rw [if_neg (by simp)] at hp
      dsimp only at hz
      rw [hp, h3] at hz
      exact hz)
  have ZB := Lib.hid (show b3 = false → PZ = (if isT tElse r3 = true then
          if isT tIf r3.tail = true then match pI f0 r3.tail.tail with
            | .bad q => .bad q
            | .ok s q => .ok (.mk 3 [] 0 xx bl [s]) q
          else match pBl f0 r3.tail with
            | .bad q => .bad q
            | .ok l q => .ok (.mk 3 [] 0 xx bl l) q
        else .ok (.mk 3 [] 0 xx bl []) r3) from fun e => by
    have hz := HZ.out
    have hp := HPB.out
    have h3 := HO3.out e
    cases b1 with
    | true =>
      rw [if_pos rfl, h3] at hp
      cases hp
    | false =>
      rw [HO1.out rfl, ← HXX.out] at hz
      rw [if_neg (by simp)] at hp
      dsimp only at hz
      rw [hp, h3] at hz
      exact hz)
  have LEN := Lib.hid (show b3 = false → r3.length ≤ R.length from fun e => by
    have hp := HPB.out
    have h3 := HO3.out e
    cases b1 with
    | true => rw [if_pos rfl, h3] at hp; cases hp
    | false =>
      rw [if_neg (by simp), h3] at hp
      have := suf_len ((suf_of ((suf_stmts f0).2.2.1 r1)).1 _ _ hp)
      have := HR1.out
      omega)
  clear HZ HPB HB3 HO3 HR3 HB1 HO1 HR1
  go_wp2_with fail
  refine (take_any L A n c g w4 b3 r3 P5.out [101, 108, 115, 101]).mono ?_
  rintro e w6 ⟨rfl, h6, hg⟩
  have X6 := Lib.hid (X5.out.gr hg (by have := HGL.out; omega))
  have E6 := Lib.hid (E5.out.gr hg (by have := HGL.out; have := HE.out; omega))
  have G6 := Lib.hid (World.grownBy.trans G5.out hg)
  have V6 := Lib.hid (V5.out.gr (S' := fun k => w.heap.size < k ∧ k ≠ eb) hg (fun k _ hk => ⟨by have := hk.1; have := HGL.out; omega, hk⟩))
  have L6 := Lib.hid (L5.out.gr (S' := fun k => w.heap.size < k ∧ k ≠ eb) hg (fun k _ hk => ⟨by have := hk.1; have := HGL.out; omega, hk⟩))
  clear X5 E5 G5 V5 L5 P5 hg
  by_cases ht : tk b3 [101, 108, 115, 101] r3 = true
  · obtain ⟨rfl, hel, htr⟩ := tk_true ht
    rw [ht]
    rw [htr] at h6
    have P6 := Lib.hid h6
    have zb := ZB.out rfl
    rw [if_pos (show isT tElse r3 = true from hel)] at zb
    have ZD := Lib.hid zb
    have HEL := Lib.hid (isT_len hel)
    clear h6 htr ht zb hel ZA ZB
    go_wp2_with fail
    refine (take_any L A n c g w6 false r3.tail P6.out [105, 102]).mono ?_
    rintro e w7 ⟨rfl, h7, hg⟩
    have X7 := Lib.hid (X6.out.gr hg (by have := HGL.out; omega))
    have E7 := Lib.hid (E6.out.gr hg (by have := HGL.out; have := HE.out; omega))
    have G7 := Lib.hid (World.grownBy.trans G6.out hg)
    have V7 := Lib.hid (V6.out.gr (S' := fun k => w.heap.size < k ∧ k ≠ eb) hg (fun k _ hk => ⟨by have := hk.1; have := HGL.out; omega, hk⟩))
    have L7 := Lib.hid (L6.out.gr (S' := fun k => w.heap.size < k ∧ k ≠ eb) hg (fun k _ hk => ⟨by have := hk.1; have := HGL.out; omega, hk⟩))
    clear X6 E6 G6 V6 L6
    clear hg P6
    by_cases hi : tk false [105, 102] r3.tail = true
    · obtain ⟨-, hif, htr⟩ := tk_true hi
      rw [hi]
      rw [htr] at h7
      have zd := ZD.out
      rw [if_pos (show isT tIf r3.tail = true from hif)] at zd
      have ZE := Lib.hid zd
      have hl2 := isT_len hif
      have KI := Lib.hid (HI.out f0 (by omega) w7 r3.tail.tail (by have := HM.out; have := HEL.out; have := LEN.out (by first | rfl | trivial); omega) h7)
      clear h7 htr hi hif hl2 zd ZD
      go_wp2_with fail
      refine KI.out.mono ?_
      rintro e w8 ⟨st2, cs2, rfl, hx2, hg, hP⟩
      have HW7 := Lib.hid (show eb < w7.heap.size from E7.out.lt)
      have X8 := Lib.hid (X7.out.gr hg (by have := HGL.out; omega))
      have E8 := Lib.hid (E7.out.gr hg (by have := HGL.out; have := HE.out; omega))
      have G8 := Lib.hid (World.grownBy.trans G7.out hg)
      have V8 := Lib.hid (V7.out.gr (S' := fun k => w.heap.size < k ∧ k ≠ eb) hg (fun k _ hk => ⟨by have := hk.1; have := HGL.out; omega, hk⟩))
      have L8 := Lib.hid (L7.out.gr (S' := fun k => w.heap.size < k ∧ k ≠ eb) hg (fun k _ hk => ⟨by have := hk.1; have := HGL.out; omega, hk⟩))
      clear X7 E7 G7 V7 L7
      have HWG := Lib.hid hg.size
      obtain ⟨b8, r8, hps, hr8, hb8, ho8⟩ := Res.is_ex (x := st2) (P := pI f0 r3.tail.tail) (Q := fun b r => PSx L A n c g w8 b r) hP
      have ZC := Lib.hid (show ∀ Q : Bool → List Tk → Prop, Q b8 r8 → PZ.is (.mk 3 [] 0 xx bl [st2]) Q from fun Q hq => by
        have ze := ZE.out
        cases b8 with
        | true => rw [hb8 rfl] at ze; rw [ze]; exact hq
        | false => rw [ho8 rfl] at ze; rw [ze]; exact ⟨rfl, hq⟩)
      have hx3 := hx2.more (S' := fun k => w.heap.size < k ∧ k ≠ eb) fun k _ (hk : w7.heap.size ≤ k) => ⟨by have := HW7.out; have := HE.out; omega, by have := HW7.out; omega⟩
      obtain ⟨ss, hss⟩ : ∃ z, z = st2 := ⟨_, rfl⟩
      rw [← hss] at ZC
      obtain ⟨j0, j1, j2, je, jb, jl⟩ := st2
      obtain ⟨ex2, B2, nb2, cb2, L2, nl2, cl2, rfl, hex, -, -⟩ := hx2.open_
      obtain ⟨q0, q1, q2, q3, qa, qo⟩ := je
      obtain ⟨A2, na2, ca2, O2, no2, co2, rfl, -, -⟩ := hex.open_
      obtain ⟨w9, hw9⟩ : ∃ W, W = w8.alloc (.cells #[.int .i64 j0, .string (bs j1), .int .i64 j2, .int .i64 q0, .int .i64 q1, .string (bs q2), .string (bs q3), .slice A2 na2 ca2, .slice O2 no2 co2, .slice B2 nb2 cb2, .slice L2 nl2 cl2] 74) := ⟨_, rfl⟩
      have hb9 : Below w8.heap.size w8 w9 := by rw [hw9]; exact (Below.refl _ _).alloc (Nat.le_refl _) _
      have hr9 : w9.heap[w8.heap.size]? = some (.cells #[.int .i64 j0, .string (bs j1), .int .i64 j2, .int .i64 q0, .int .i64 q1, .string (bs q2), .string (bs q3), .slice A2 na2 ca2, .slice O2 no2 co2, .slice B2 nb2 cb2, .slice L2 nl2 cl2] 74 (0, 0)) := by rw [hw9]; exact heap_alloc_new w8 _
      have M9 := Lib.hid (SL.one (S := fun k => w.heap.size < k ∧ k ≠ eb) (hx3.below hb9) hr9 ⟨by have := HW7.out; have := HE.out; have := HWG.out; omega, by have := HW7.out; have := HWG.out; omega⟩)
      rw [← hss] at M9
      have P9 := Lib.hid (hps.next hb9)
      have E9 := Lib.hid (E8.out.below hb9)
      have X9 := Lib.hid (X8.out.below hb9)
      have G9 := Lib.hid (gr_below G8.out hb9)
      have V9 := Lib.hid (V8.out.below hb9)
      have L9 := Lib.hid (L8.out.below hb9)
      clear hg hP hps hr8 hb8 ho8 KI ZE hx2 hx3 hex hb9 hr9 hss X8 E8 G8 V8 L8
      rw [show (stC j0 j1 j2 (exC q0 q1 q2 q3 A2 na2 ca2 O2 no2 co2) B2 nb2 cb2 L2 nl2 cl2).toArray = #[.int .i64 j0, .string (bs j1), .int .i64 j2, .int .i64 q0, .int .i64 q1, .string (bs q2), .string (bs q3), .slice A2 na2 ca2, .slice O2 no2 co2, .slice B2 nb2 cb2, .slice L2 nl2 cl2] from rfl]
      have cE : w9.cell? ⟨eb, 10, none⟩ = some (.slice none 0 0) := by rw [cell_of_row _ _ _ _ _ _ E9.out]; rfl
      have fE : w9.frozen? ⟨eb, 10, none⟩ = false := by simp [World.frozen?, show w9.heap[eb]? = _ from E9.out]
      have gs := gr_put w9 eb 10 (.slice (some ⟨w8.heap.size, 0, none⟩) 1 1)
      have ES := Lib.hid (E9.out.set 10 (.slice (some ⟨w8.heap.size, 0, none⟩) 1 1))
      have XS := Lib.hid (X9.out.gr gs (by have := HE.out; omega))
      have GS := Lib.hid (gr_step (B := 0) G9.out gs (Nat.le_of_lt HE.out))
      have VS := Lib.hid (V9.out.gr (S' := fun k => w.heap.size < k ∧ k ≠ eb) gs (fun k _ hk => ⟨hk.2, hk⟩))
      have LS := Lib.hid (L9.out.gr (S' := fun k => w.heap.size < k ∧ k ≠ eb) gs (fun k _ hk => ⟨hk.2, hk⟩))
      have MS := Lib.hid (M9.out.gr (S' := fun k => w.heap.size < k ∧ k ≠ eb) gs (fun k _ hk => ⟨hk.2, hk⟩))
      have PS := Lib.hid (P9.out.other TBs.out gs (Nat.le_of_lt HE.out))
      clear X9 E9 G9 V9 L9 M9 P9 gs
      rw [hw9] at cE fE
      go_wp2_with (with_reducible refine at_load_ (t := 74) ?_; refine Hid.out ?_)
      refine Lib.hid ?_
      rw [← hw9]
      clear hw9 cE fE
      generalize w9.setCell ⟨eb, 10, none⟩ (.slice (some ⟨w8.heap.size, 0, none⟩) 1 1) = wS at *
      refine sb_load rfl _ rfl eb rfl ES.out rfl ?_
      refine sb_put rfl _ _ rfl rfl w.heap.size rfl rfl (elv_of ..) XS.out rfl ?_
      intro wz hxz hgz hsz
      clear hsz
      have XZ := Lib.hid hxz
      have GZ := Lib.hid (gr_step (B := 0) GS.out hgz (Nat.le_refl _))
      have VZ := Lib.hid (VS.out.gr (S' := fun k => w.heap.size ≤ k) hgz (fun k _ hk => ⟨by have := hk.1; omega, by have := hk.1; omega⟩))
      have LZ := Lib.hid (LS.out.gr (S' := fun k => w.heap.size ≤ k) hgz (fun k _ hk => ⟨by have := hk.1; omega, by have := hk.1; omega⟩))
      have MZ := Lib.hid (MS.out.gr (S' := fun k => w.heap.size ≤ k) hgz (fun k _ hk => ⟨by have := hk.1; omega, by have := hk.1; omega⟩))
      have PZZ := Lib.hid (PS.out.other TBs.out hgz (Nat.le_refl _))
      clear hxz hgz XS ES GS VS LS PS MS
      go_wp2_with fail
      refine bodyPost_ret (sb_ret rfl _ _ w.heap.size _ rfl XZ.out rfl) rfl ?_
      exact ⟨.mk 3 [] 0 xx bl [ss], stC 3 [] 0 (exC k1 n1 s1 m1 A1 na1 ca1 O1 no1 co1) B mb kb (some ⟨w8.heap.size, 0, none⟩) 1 1, rfl, SV.shut (by unfold InR; omega) (by rw [HXX.out]; exact VZ.out) LZ.out MZ.out, GZ.out, ZC.out _ PZZ.out⟩
    · obtain ⟨e1, e2⟩ := tk_false hi
      rw [e1]
      rw [e2] at h7
      have zd := ZD.out
      rw [if_neg (show ¬ isT tIf r3.tail = true from fun h => hi (by unfold tk; rw [show isT [105, 102] r3.tail = true from h]; rfl))] at zd
      have ZE := Lib.hid zd
      have KB2 := Lib.hid (HBL.out f0 (by omega) w7 false r3.tail (fun _ => by have := HM.out; have := HEL.out; have := LEN.out (by first | rfl | trivial); omega) h7)
      clear h7 e1 e2 hi zd ZD
      go_wp2_with fail
      refine KB2.out.mono ?_
      rintro e w8 ⟨l2, B2, mb2, kb2, rfl, hl, hg, hP⟩
      have M8 := Lib.hid (hl.more (S' := fun k => w.heap.size < k ∧ k ≠ eb) fun k _ (hk : w7.heap.size ≤ k) => ⟨by have := E7.out.lt; have := HE.out; omega, by have := E7.out.lt; omega⟩)
      have X8 := Lib.hid (X7.out.gr hg (by have := HGL.out; omega))
      have E8 := Lib.hid (E7.out.gr hg (by have := HGL.out; have := HE.out; omega))
      have G8 := Lib.hid (World.grownBy.trans G7.out hg)
      have V8 := Lib.hid (V7.out.gr (S' := fun k => w.heap.size < k ∧ k ≠ eb) hg (fun k _ hk => ⟨by have := hk.1; have := HGL.out; omega, hk⟩))
      have L8 := Lib.hid (L7.out.gr (S' := fun k => w.heap.size < k ∧ k ≠ eb) hg (fun k _ hk => ⟨by have := hk.1; have := HGL.out; omega, hk⟩))
      clear X7 E7 G7 V7 L7
      obtain ⟨b8, r8, hps, hr8, hb8, ho8⟩ := Res.is_ex (x := l2) (P := pBl f0 r3.tail) (Q := fun b r => PSx L A n c g w8 b r) hP
      have P8 := Lib.hid hps
      have ZC := Lib.hid (show ∀ Q : Bool → List Tk → Prop, Q b8 r8 → PZ.is (.mk 3 [] 0 xx bl l2) Q from fun Q hq => by
        have ze := ZE.out
        cases b8 with
        | true => rw [hb8 rfl] at ze; rw [ze]; exact hq
        | false => rw [ho8 rfl] at ze; rw [ze]; exact ⟨rfl, hq⟩)
      clear hl hg hP hps hr8 hb8 ho8 KB2 ZE
      have cE : w8.cell? ⟨eb, 10, none⟩ = some (.slice none 0 0) := by rw [cell_of_row _ _ _ _ _ _ E8.out]; rfl
      have fE : w8.frozen? ⟨eb, 10, none⟩ = false := by simp [World.frozen?, show w8.heap[eb]? = _ from E8.out]
      have gs := gr_put w8 eb 10 (.slice B2 mb2 kb2)
      have ES := Lib.hid (E8.out.set 10 (.slice B2 mb2 kb2))
      have XS := Lib.hid (X8.out.gr gs (by have := HE.out; omega))
      have GS := Lib.hid (gr_step (B := 0) G8.out gs (Nat.le_of_lt HE.out))
      have VS := Lib.hid (V8.out.gr (S' := fun k => w.heap.size < k ∧ k ≠ eb) gs (fun k _ hk => ⟨hk.2, hk⟩))
      have LS := Lib.hid (L8.out.gr (S' := fun k => w.heap.size < k ∧ k ≠ eb) gs (fun k _ hk => ⟨hk.2, hk⟩))
      have MS := Lib.hid (M8.out.gr (S' := fun k => w.heap.size < k ∧ k ≠ eb) gs (fun k _ hk => ⟨hk.2, hk⟩))
      have PS := Lib.hid (P8.out.other TBs.out gs (Nat.le_of_lt HE.out))
      clear X8 E8 G8 V8 L8 M8 P8 gs
      go_wp2_with (with_reducible refine at_load_ (t := 74) ?_; refine Hid.out ?_)
      refine Lib.hid ?_
      clear cE fE
      generalize w8.setCell ⟨eb, 10, none⟩ (.slice B2 mb2 kb2) = wS at *
      refine sb_load rfl _ rfl eb rfl ES.out rfl ?_
      refine sb_put rfl _ _ rfl rfl w.heap.size rfl rfl (elv_of ..) XS.out rfl ?_
      intro wz hxz hgz hsz
      clear hsz
      have XZ := Lib.hid hxz
      have GZ := Lib.hid (gr_step (B := 0) GS.out hgz (Nat.le_refl _))
      have VZ := Lib.hid (VS.out.gr (S' := fun k => w.heap.size ≤ k) hgz (fun k _ hk => ⟨by have := hk.1; omega, by have := hk.1; omega⟩))
      have LZ := Lib.hid (LS.out.gr (S' := fun k => w.heap.size ≤ k) hgz (fun k _ hk => ⟨by have := hk.1; omega, by have := hk.1; omega⟩))
      have MZ := Lib.hid (MS.out.gr (S' := fun k => w.heap.size ≤ k) hgz (fun k _ hk => ⟨by have := hk.1; omega, by have := hk.1; omega⟩))
      have PZZ := Lib.hid (PS.out.other TBs.out hgz (Nat.le_refl _))
      clear hxz hgz XS ES GS VS LS PS MS
      go_wp2_with fail
      refine bodyPost_ret (sb_ret rfl _ _ w.heap.size _ rfl XZ.out rfl) rfl ?_
      exact ⟨.mk 3 [] 0 xx bl l2, stC 3 [] 0 (exC k1 n1 s1 m1 A1 na1 ca1 O1 no1 co1) B mb kb B2 mb2 kb2, rfl, SV.shut (by unfold InR; omega) (by rw [HXX.out]; exact VZ.out) LZ.out MZ.out, GZ.out, ZC.out _ PZZ.out⟩

  · obtain ⟨e1, e2⟩ := tk_false ht
    rw [e1]
    rw [e2] at h6
    have P6 := Lib.hid h6
    have ZC := Lib.hid (show ∀ Q : Bool → List Tk → Prop, Q b3 r3 → PZ.is (.mk 3 [] 0 xx bl []) Q from fun Q hq => by
      cases b3 with
      | true => rw [ZA.out rfl]; exact hq
      | false =>
        have hn : isT tElse r3 = false := by
          have e3 : isT [101, 108, 115, 101] r3 = false := by
            unfold tk at e1
            simpa using e1
          exact e3
        rw [ZB.out rfl, if_neg (by rw [hn]; simp)]
        exact ⟨rfl, hq⟩)
    clear h6 e1 e2 ht ZA ZB LEN
    go_wp2_with (with_reducible refine at_load_ (t := 74) ?_; refine Hid.out ?_)
    refine Lib.hid ?_
    refine sb_load rfl _ rfl eb rfl E6.out rfl ?_
    refine sb_put rfl _ _ rfl rfl w.heap.size rfl rfl (elv_of ..) X6.out rfl ?_
    intro wz hxz hgz hsz
    clear hsz
    have XZ := Lib.hid hxz
    have GZ := Lib.hid (gr_step (B := 0) G6.out hgz (Nat.le_refl _))
    have VZ := Lib.hid (V6.out.gr (S' := fun k => w.heap.size ≤ k) hgz (fun k _ hk => ⟨by have := hk.1; omega, by have := hk.1; omega⟩))
    have LZ := Lib.hid (L6.out.gr (S' := fun k => w.heap.size ≤ k) hgz (fun k _ hk => ⟨by have := hk.1; omega, by have := hk.1; omega⟩))
    have PZZ := Lib.hid (P6.out.other TBs.out hgz (Nat.le_refl _))
    clear hxz hgz X6 E6 G6 V6 L6 P6
    go_wp2_with fail
    refine bodyPost_ret (sb_ret rfl _ _ w.heap.size _ rfl XZ.out rfl) rfl ?_
    exact ⟨.mk 3 [] 0 xx bl [], stC 3 [] 0 (exC k1 n1 s1 m1 A1 na1 ca1 O1 no1 co1) B mb kb none 0 0, rfl, SV.shut (by unfold InR; omega) (by rw [HXX.out]; exact VZ.out) LZ.out (SL.nil_ _ _), GZ.out, ZC.out _ PZZ.out⟩
end Go.Proofs.YtkakbidllpjopaaGreatDoor
namespace Go.Proofs.YtkakbidllpjopaaGreatDoor
open Go.RowKit

/-- A result, and a semicolon behind it. -/
def sEnd (k : Ex → St) (P : Res Ex) : Res St := match P with
  | .bad r => .bad r
  | .ok e r => if isT [59] r = true then .ok (k e) r.tail else .bad r
theorem sEnd_is {k : Ex → St} {P : Res Ex} {x : Ex} {b : Bool} {r : List Tk} (hb : b = true → P = .bad r) (ho : b = false → P = .ok x r) (Q : Bool → List Tk → Prop) (q : Q (b || !isT [59] r) (tkR b [59] r)) : (sEnd k P).is (k x) Q := by
  cases b with
  | true => rw [hb rfl]; exact q
  | false =>
    rw [ho rfl]
    unfold sEnd tkR tk at *
    cases hi : isT [59] r with
    | true => simp only [hi] at q ⊢; exact ⟨rfl, by simpa using q⟩
    | false => simp only [hi] at q ⊢; simpa [Res.is] using q
/-- A name and an equality sign, then an expression. -/
def lEnd (k : Str → Ex → St) (R : List Tk) : Res St := if kindT R = 1 then if isT [61] R.tail = true then sEnd (k (textT R)) (pE R.tail.tail) else .bad R.tail else .bad R
theorem lEnd_eq (k : Str → Ex → St) (R : List Tk) : lEnd k R = sEnd (k (wdS false 1 R)) (if (wdB false 1 R || !isT [61] (wdR false 1 R)) = true then .bad (tkR (wdB false 1 R) [61] (wdR false 1 R)) else pE (tkR (wdB false 1 R) [61] (wdR false 1 R))) := by
  unfold lEnd
  by_cases hk : kindT R = 1
  · have e1 : wdB false 1 R = false := by simp [wdB, hk]
    obtain ⟨-, -, e2, e3⟩ := wd_false e1
    rw [e1, e2, e3, if_pos hk]
    cases h : isT [61] R.tail with
    | true =>
      have e : tkR false [61] R.tail = R.tail.tail := if_pos (by unfold tk; rw [h]; rfl)
      rw [e]; rfl
    | false =>
      have e : tkR false [61] R.tail = R.tail := if_neg (by unfold tk; rw [h]; simp)
      rw [e]; rfl
  · have e1 : wdB false 1 R = true := by simp [wdB, hk]
    obtain ⟨e2, e3⟩ := wd_true e1
    rw [e1, e2, e3, if_neg hk]
    rfl
/-- A number and a semicolon. -/
def aEnd (R : List Tk) : Res St := if kindT R = 2 then if isT [59] R.tail = true then .ok (.mk 6 [] (numT (textT R)) emE [] []) R.tail.tail else .bad R.tail else .bad R
theorem aEnd_is (R : List Tk) (Q : Bool → List Tk → Prop) (q : Q (wdB false 2 R || !isT [59] (wdR false 2 R)) (tkR (wdB false 2 R) [59] (wdR false 2 R))) : (aEnd R).is (.mk 6 [] (nbV false R) emE [] []) Q := by
  unfold aEnd
  by_cases hk : kindT R = 2
  · have e1 : wdB false 2 R = false := by simp [wdB, hk]
    obtain ⟨-, -, -, e3⟩ := wd_false e1
    have e4 : nbV false R = numT (textT R) := if_neg (by rintro (e | e); cases e; exact e hk)
    rw [e1, e3] at q
    rw [e4, if_pos hk]
    cases h : isT [59] R.tail with
    | true =>
      have e : tkR false [59] R.tail = R.tail.tail := if_pos (by unfold tk; rw [h]; rfl)
      rw [h, e] at q
      exact ⟨rfl, q⟩
    | false =>
      have e : tkR false [59] R.tail = R.tail := if_neg (by unfold tk; rw [h]; simp)
      rw [h, e] at q
      exact q
  · have e1 : wdB false 2 R = true := by simp [wdB, hk]
    obtain ⟨e2, e3⟩ := wd_true e1
    rw [e1, e3] at q
    rw [if_neg hk]
    exact q
/-- A number and a block. -/
def rEnd (f : Nat) (R : List Tk) : Res St := if kindT R = 2 then match pBl f R.tail with
        | .bad r => .bad r
        | .ok b r => .ok (.mk 4 [] (numT (textT R)) emE b []) r
      else .bad R
theorem rEnd_is {f : Nat} {R : List Tk} {l : List St} {b : Bool} {r : List Tk} (hb : b = true → (if wdB false 2 R = true then .bad (wdR false 2 R) else pBl f (wdR false 2 R)) = .bad r)
    (ho : b = false → (if wdB false 2 R = true then .bad (wdR false 2 R) else pBl f (wdR false 2 R)) = .ok l r) (Q : Bool → List Tk → Prop) (q : Q b r) : (rEnd f R).is (.mk 4 [] (nbV false R) emE l []) Q := by
  unfold rEnd
  by_cases hk : kindT R = 2
  · have e1 : wdB false 2 R = false := by simp [wdB, hk]
    obtain ⟨-, -, -, e3⟩ := wd_false e1
    have e4 : nbV false R = numT (textT R) := if_neg (by rintro (e | e); cases e; exact e hk)
    rw [e1, e3] at hb ho
    rw [e4, if_pos hk]
    cases b with
    | true =>
      have h := hb rfl
      rw [if_neg (by simp)] at h
      rw [h]; exact q
    | false =>
      have h := ho rfl
      rw [if_neg (by simp)] at h
      rw [h]; exact ⟨rfl, q⟩
  · have e1 : wdB false 2 R = true := by simp [wdB, hk]
    obtain ⟨e2, e3⟩ := wd_true e1
    rw [e1, e3] at hb ho
    rw [if_neg hk]
    cases b with
    | true =>
      have h := hb rfl
      rw [if_pos rfl] at h
      injection h with h
      subst h
      exact q
    | false =>
      have h := ho rfl
      rw [if_pos rfl] at h
      cases h
/-- What the default case answers: a call or an assignment. -/
def dEnd (P : Res Ex) (R : List Tk) : Res St := if kindT R = 1 then
      if isT [46] R.tail = true then sEnd (fun e => .mk 2 [] 0 e [] []) P
      else if isT [61] R.tail = true then sEnd (fun e => .mk 1 (textT R) 0 e [] []) (pE R.tail.tail) else .bad R.tail
    else .bad R
theorem dEnd_call {P : Res Ex} {R : List Tk} (h : tk (wdB false 1 R) [46] (wdR false 1 R) = true) : wdB false 1 R = false ∧ wdR false 1 R = R.tail ∧ wdS false 1 R = textT R ∧ dEnd P R = sEnd (fun e => .mk 2 [] 0 e [] []) P := by
  obtain ⟨h1, h2, h3⟩ := tk_true h
  obtain ⟨-, h4, h5, h6⟩ := wd_false h1
  rw [h6] at h2
  refine ⟨h1, h6, h5, ?_⟩
  unfold dEnd
  rw [if_pos h4, if_pos h2]
theorem dEnd_set {P : Res Ex} {R : List Tk} (h : ¬ tk (wdB false 1 R) [46] (wdR false 1 R) = true) : dEnd P R = lEnd (fun s e => .mk 1 s 0 e [] []) R := by
  unfold dEnd lEnd
  by_cases hk : kindT R = 1
  · have e1 : wdB false 1 R = false := by simp [wdB, hk]
    obtain ⟨-, -, -, e3⟩ := wd_false e1
    rw [e1, e3] at h
    rw [if_pos hk, if_pos hk, if_neg (fun e => h (by unfold tk; rw [e]; rfl))]
  · rw [if_neg hk, if_neg hk]
theorem pS_eq (f : Nat) (R : List Tk) : pS (f + 1) R =
    if isT tIf R = true then pI f R.tail
    else if isT tRep R = true then rEnd f R.tail
    else if isT tLet R = true then lEnd (fun s e => .mk 0 s 0 e [] []) R.tail
    else if isT tRet R = true then sEnd (fun e => .mk 5 [] 0 e [] []) (pE R.tail)
    else if isT tAbt R = true then aEnd R.tail
    else if isT tHost R = true then sEnd (fun e => .mk 2 [] 0 e [] []) (pH (8 * R.length + 7) R.tail)
    else dEnd (pK (8 * R.length + 7) (textT R) R.tail) R := by
  rw [pS]
  rfl
theorem nb_rng {L : List Lx.Tok} {A : Option Addr} {n c g : Nat} {w : World} {bad : Bool} {R : List Tk} (h : PSx L A n c g w bad R) (b : Bool) : InR (nbV b R) := by
  unfold nbV
  split
  · unfold InR; omega
  · rename_i e
    exact h.rng (Classical.not_not.1 fun k => e (.inr k))
section
variable {ops : Array Oper} {rest : List Oper} {a : Act} {w : World} {Q : Exit → Act → World → Prop} {o : Oper}
theorem sb_putx (hg : o.guard = none) (x y : Operand) (ho : o.op = .store 27 x y) (hd : o.dst = none) (r : Nat) (hx : a.eval x = .pointer (some ⟨r, 3, none⟩)) {a0 a1 a2 c0 c1 c2 c3 c4 c5 a9 a10 u0 u1 u2 u3 u4 u5 : Value} (hy : a.eval y = .agg #[u0, u1, u2, u3, u4, u5]) (h6 : Six #[u0, u1, u2, u3, u4, u5]) (hb : SB w r #[a0, a1, a2, c0, c1, c2, c3, c4, c5, a9, a10])
    (h : ∀ w', SB w' r #[a0, a1, a2, u0, u1, u2, u3, u4, u5, a9, a10] → w.grownBy w' (some r) → w'.heap.size = w.heap.size → wpList Tryz.prog ops Q rest a w') : wpList Tryz.prog ops Q (o :: rest) a w := by
  refine wpList_plain hg fun K hK => ?_
  refine wp_store_at 27 x y ho r 3 #[u0, u1, u2, u3, u4, u5] hx hy _ _ hb ex_size (show 3 + 6 ≤ 11 from by omega) h6.2 ?_
  rw [hd]
  exact hK _ _ (h _ (setRow_heap _ _ _ _ _ _ hb) ⟨rfl, rfl, rfl, Nat.le_of_eq (by simp [World.setRow]), fun k _ hk => setRow_other _ _ _ _ (fun e => hk (by rw [e]))⟩ (by simp [World.setRow]))
end
end Go.Proofs.YtkakbidllpjopaaGreatDoor
