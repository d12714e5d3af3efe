/- The walks of the parser's is, take, need, word, name, number. No condition beyond the state. The walk of the parser's number. No condition beyond the state. The frame of the parser's functions; the walks of its expression functions where the parse has failed already. No condition beyond the state. The walks of the parser's host, call, unary, left, each once for whatever its callees answer (printed by wip/genpre.py). No condition beyond the state. The walk of the parser's unary, once for whatever its callees answer (printed by wip/genprf.py). No condition beyond the state. The walk of the parser's left, once for whatever its operand answers (printed by wip/genprg.py). No condition beyond the state. -/
import Derived.Test.YtkakbidllpjopaaGreatDoorU02
set_option linter.unusedVariables false
set_option linter.unusedSimpArgs false
set_option maxRecDepth 100000
set_option maxHeartbeats 12800000
namespace Go.Proofs.YtkakbidllpjopaaGreatDoor
open Go.RowKit
/-- Whether a sign or keyword is taken. -/
def tk (bad : Bool) (s : Str) (R : List Tk) : Bool := !bad && isT s R
theorem isT_eq (s : Str) {R : List Tk} (h : R ≠ []) : isT s R = ((kindT R == 3 || kindT R == 4) && textT R == s) := by
 cases R with
 | nil => exact absurd rfl h
 | cons t r => rfl
theorem is_any (L : List Lx.Tok) (A : Option Addr) (n c g : Nat) (w : World) (bad : Bool) (R : List Tk) (h : PSx L A n c g w bad R) (s : Str) :
  Calls Tryz.prog 87 #[.pointer (some ⟨g, 0, none⟩), .string (bs s)] w fun e w' => e = .returned (.bool (tk bad s R)) /\ Below w.heap.size w w' := by
 have K := hI (now_any L A n c g w bad R h)
 have hne := h.ends.ne
 have HE := hI (show tk bad s R = (!bad && ((kindT R == 3 || kindT R == 4) && textT R == s)) by unfold tk; rw [isT_eq s hne])
 have HT := hI (bs_toList (textT R))
 have HS := hI (bs_toList s)
 obtain ⟨i, hi⟩ := h
 have HP := hI hi
 generalize tk bad s R = T at *
 generalize offAt L R = ofs at *
 have HBT := hI (show (bs (textT R)).toList = textT R from bs_toList _)
 generalize hkk : kindT R = kk at *
 generalize htt : textT R = tt at *
 clear hi hne
 go_enter Tryz.func87, Tryz.ntmps87
 go_wp2_with fail
 refine K.out.mono ?_
 rintro e w1 ⟨rfl, hb⟩
 have h1 := HP.out.next (hb.alloc hb.size (.cells #[.int .i64 kk, .string (bs tt), .int .i64 ofs] 63))
 have HB := hI (hb.alloc hb.size (.cells #[.int .i64 kk, .string (bs tt), .int .i64 ofs] 63))
 obtain ⟨c0, c1, c2⟩ := h1.cells
 clear K h1 hb hkk htt HP
 cases bad with
 | true =>
  obtain rfl : T = false := HE.out
  go_wp2
  go_ret
  exact ⟨rfl, HB.out⟩
 | false =>
  by_cases h3 : kk = 3
  ·subst h3
   by_cases ht : tt = s
   ·subst ht
    obtain rfl : T = true := HE.out.trans (by simp)
    have q : ((bs tt).toList == (bs tt).toList) = true := beq_self_eq_true _
    go_wp2
    go_ret
    exact ⟨rfl, HB.out⟩
   obtain rfl : T = false := HE.out.trans (by simp [ht])
   have q : ((bs tt).toList == (bs s).toList) = false := by rw [HBT.out, HS.out]; simp [ht]
   have q2 : ¬ (bs tt).toList = (bs s).toList := by rw [HBT.out, HS.out]; exact ht
   go_wp2
   go_ret
   exact ⟨rfl, HB.out⟩
  have h31 : (kk == 3) = false := by simp [h3]
  by_cases h4 : kk = 4
  ·subst h4
   by_cases ht : tt = s
   ·subst ht
    obtain rfl : T = true := HE.out.trans (by simp)
    have q : ((bs tt).toList == (bs tt).toList) = true := beq_self_eq_true _
    go_wp2
    go_ret
    exact ⟨rfl, HB.out⟩
   obtain rfl : T = false := HE.out.trans (by simp [ht])
   have q : ((bs tt).toList == (bs s).toList) = false := by rw [HBT.out, HS.out]; simp [ht]
   have q2 : ¬ (bs tt).toList = (bs s).toList := by rw [HBT.out, HS.out]; exact ht
   go_wp2
   go_ret
   exact ⟨rfl, HB.out⟩
  have h41 : (kk == 4) = false := by simp [h4]
  obtain rfl : T = false := HE.out.trans (by simp [h31, h41])
  go_wp2
  go_ret
  exact ⟨rfl, HB.out⟩
/-- The tokens behind a taking. -/
def tkR (bad : Bool) (s : Str) (R : List Tk) : List Tk := if tk bad s R = true then R.tail else R
theorem tk_kind {bad : Bool} {s : Str} {R : List Tk} (h : tk bad s R = true) : kindT R ≠ 0 := by
 unfold tk at h
 simp only [Bool.and_eq_true] at h
 rcases isT_kind h.2 with e | e <;> rw [e] <;> decide
theorem take_any (L : List Lx.Tok) (A : Option Addr) (n c g : Nat) (w : World) (bad : Bool) (R : List Tk) (h : PSx L A n c g w bad R) (s : Str) :
  Calls Tryz.prog 53 #[.pointer (some ⟨g, 0, none⟩), .string (bs s)] w fun e w' => e = .returned (.bool (tk bad s R)) /\ PSx L A n c g w' bad (tkR bad s R) /\ w.grownBy w' (some g) := by
 have K := hI (is_any L A n c g w bad R h s)
 have HK := hI (show tk bad s R = true -> kindT R ≠ 0 from tk_kind)
 obtain ⟨i, hi⟩ := h
 have HP := hI hi
 have HR := hI (show tkR bad s R = if tk bad s R = true then R.tail else R from rfl)
 have hl := hi.lim
 have hw1 : IntKind.i64.wrap ((i : Int) + 1) = (i : Int) + 1 := by simp [IntKind.wrap, IntKind.bits, IntKind.signed]; omega
 generalize tkR bad s R = R' at *
 generalize tk bad s R = T at *
 clear hi hl
 go_enter Tryz.func53, Tryz.ntmps53
 go_wp2_with fail
 refine K.out.mono ?_
 rintro e w1 ⟨rfl, hb⟩
 have HP1 := hI (HP.out.next hb)
 have HG := hI (Below.grown_ hb (some g))
 clear K hb HP
 cases T with
 | false =>
  obtain rfl : R' = R := HR.out
  go_wp2
  go_ret
  exact ⟨rfl, ⟨_, HP1.out⟩, HG.out⟩
 | true =>
  obtain rfl : R' = R.tail := HR.out
  obtain ⟨c0, c1, c2⟩ := HP1.out.cells
  have hf := HP1.out.free 1
  have H2 := hI (HP1.out.set1 (HK.out rfl))
  go_wp2
  go_ret
  exact ⟨rfl, ⟨_, H2.out⟩, World.grownBy.trans HG.out (gr_put _ _ _ _)⟩
theorem need_any (L : List Lx.Tok) (A : Option Addr) (n c g : Nat) (w : World) (bad : Bool) (R : List Tk) (h : PSx L A n c g w bad R) (s : Str) (q : Nat) (hq : q < w.heap.size) (hqg : q ≠ g) (hc : w.cell? ⟨q, 0, none⟩ = some (.string (bs s))) :
  Calls Tryz.prog 55 #[.pointer (some ⟨g, 0, none⟩), .slice (some ⟨q, 0, none⟩) 1 1] w fun e w' => e = .returned (.tuple #[]) /\ PSx L A n c g w' (bad || !isT s R) (tkR bad s R) /\ w.grownBy w' (some g) := by
 have K := hI (take_any L A n c g w bad R h s)
 have HB := hI (show tk bad s R = false -> (bad || !isT s R) = true from fun e => by
  unfold tk at e
  cases bad <;> simp_all)
 have HB2 := hI (show tk bad s R = true -> (bad || !isT s R) = bad from fun e => by
  unfold tk at e
  cases bad <;> simp_all)
 generalize (bad || !isT s R) = b2 at *
 generalize tkR bad s R = R' at *
 generalize tk bad s R = T at *
 have hb0 : w.grownBy w (some g) := World.grownBy.refl _ _
 clear h
 go_enter Tryz.func55, Tryz.ntmps55
 go_wp2_with fail
 go_loopw [8] (fun i wr => (i = .int .i64 0 /\ wr = w) ∨ (i = .int .i64 1 /\ T = true /\ PSx L A n c g wr b2 R' /\ w.grownBy wr (some g))) (fun i _ => 1 - (intOf i).toNat)
 case atStart => exact .inl ⟨rfl, rfl⟩
 case round =>
  rcases hrel with ⟨rfl, rfl⟩ | ⟨rfl, hT, hP, hg⟩
  ·go_wp2_with fail
   refine K.out.mono ?_
   rintro e w1 ⟨rfl, hP, hg⟩
   have HP := hI hP
   have HG := hI hg
   clear hc hP hg K
   cases T with
   | true =>
    obtain rfl : b2 = bad := HB2.out rfl
    go_wp2
    go_roundw
    case rel => exact .inr ⟨by first | rfl | trivial, by first | rfl | trivial, HP.out, HG.out⟩
    case measure => simp [intOf]
   | false =>
    obtain rfl : b2 = true := HB.out rfl
    obtain ⟨i, hP⟩ := HP.out
    have HP2 := hI hP.set2
    obtain ⟨c0, c1, c2⟩ := hP.cells
    have hf := hP.free 2
    clear hP HP
    go_wp2
    (try simp only [Exit.inBlock, Exit.then])
    refine bodyPost_ret (results_none rfl _ _ _) rfl ?_
    exact ⟨rfl, ⟨_, HP2.out⟩, World.grownBy.trans HG.out (gr_put _ _ _ _)⟩
  have HP := hI hP
  have HG := hI hg
  clear hP hg
  go_wp2
  go_end0
  exact ⟨rfl, HP.out, HG.out⟩
/-- What word answers: a text; whether it fails; the tokens behind. -/
def wdS (bad : Bool) (k : Int) (R : List Tk) : Str := if bad = true ∨ kindT R ≠ k then [] else textT R
def wdB (bad : Bool) (k : Int) (R : List Tk) : Bool := bad || !(kindT R == k)
def wdR (bad : Bool) (k : Int) (R : List Tk) : List Tk := if bad = true ∨ kindT R ≠ k then R else R.tail
theorem word_any (L : List Lx.Tok) (A : Option Addr) (n c g : Nat) (w : World) (bad : Bool) (R : List Tk) (h : PSx L A n c g w bad R) (k : Int) (hk0 : k ≠ 0) :
  Calls Tryz.prog 88 #[.pointer (some ⟨g, 0, none⟩), .int .i64 k] w fun e w' => e = .returned (.string (bs (wdS bad k R))) /\ PSx L A n c g w' (wdB bad k R) (wdR bad k R) /\ w.grownBy w' (some g) := by
 have K := hI (show ∀ W, Below w.heap.size w W -> _ from fun W hb => now_any L A n c g W bad R (h.next hb))
 obtain ⟨i, hi⟩ := h
 have HP := hI (show ∀ W, Below w.heap.size w W -> PS L A n c g W i bad R from fun W hb => hi.next hb)
 have hl := hi.lim
 have hw1 : IntKind.i64.wrap ((i : Int) + 1) = (i : Int) + 1 := by simp [IntKind.wrap, IntKind.bits, IntKind.signed]; omega
 obtain ⟨c0, c1, c2⟩ := hi.cells
 have hf := hi.free 2
 have HK0 := hI hk0
 clear hi hl hk0
 cases bad with
 | true =>
  have HP2 := hI (HP.out w (Below.refl _ _)).set2
  have e1 : wdS true k R = [] := if_pos (.inl rfl)
  have e2 : wdB true k R = true := rfl
  have e3 : wdR true k R = R := if_pos (.inl rfl)
  rw [e1, e2, e3]
  clear K HP e1 e2 e3
  go_enter Tryz.func88, Tryz.ntmps88
  go_wp2
  go_ret
  exact ⟨rfl, ⟨_, HP2.out⟩, gr_put _ _ _ _⟩
 | false =>
  generalize hofs : offAt L R = ofs at *
  by_cases hk : kindT R = k
  ·have e1 : wdS false k R = textT R := if_neg (by rintro (h | h); cases h; exact h hk)
   have e2 : wdB false k R = false := by simp [wdB, hk]
   have e3 : wdR false k R = R.tail := if_neg (by rintro (h | h); cases h; exact h hk)
   rw [e1, e2, e3]
   have HKR := hI (show kindT R ≠ 0 by rw [hk]; exact HK0.out)
   rw [hk] at K
   generalize textT R = tt at *
   have hkk : (k == k) = true := beq_self_eq_true k
   have hkk2 : (k != k) = false := by simp
   clear e1 e2 e3 hk hofs
   go_enter Tryz.func88, Tryz.ntmps88
   go_wp2_with fail
   refine (K.out w (Below.refl _ _)).mono ?_
   rintro e w1 ⟨rfl, hb⟩
   have HB1 := hI hb
   clear hb
   go_wp2_with fail
   refine (K.out w1 HB1.out).mono ?_
   rintro e w2 ⟨rfl, hb⟩
   have HB2 := hI (HB1.out.trans (hb.mono HB1.out.size))
   clear hb c0 c1 c2 hf
   have h2 := HP.out w2 HB2.out
   obtain ⟨c0, c1, c2⟩ := h2.cells
   have hf := h2.free 1
   have H3 := hI (h2.set1 HKR.out)
   clear h2 K HP
   go_wp2
   go_ret
   exact ⟨rfl, ⟨_, H3.out⟩, World.grownBy.trans (Below.grown_ HB2.out _) (gr_put _ _ _ _)⟩
  have e1 : wdS false k R = [] := if_pos (.inr hk)
  have e2 : wdB false k R = true := by simp [wdB, hk]
  have e3 : wdR false k R = R := if_pos (.inr hk)
  rw [e1, e2, e3]
  have hkk : (kindT R != k) = true := by simp [hk]
  generalize textT R = tt at *
  generalize kindT R = kk at *
  clear e1 e2 e3 hk hofs hf
  go_enter Tryz.func88, Tryz.ntmps88
  go_wp2_with fail
  refine (K.out w (Below.refl _ _)).mono ?_
  rintro e w1 ⟨rfl, hb⟩
  have h2 := HP.out w1 hb
  have HB2 := hI hb
  clear c0 c1 c2
  obtain ⟨c0, c1, c2⟩ := h2.cells
  have hf := h2.free 2
  have H3 := hI h2.set2
  clear h2 K HP hb
  go_wp2
  go_ret
  exact ⟨rfl, ⟨_, H3.out⟩, World.grownBy.trans (Below.grown_ HB2.out _) (gr_put _ _ _ _)⟩
theorem name_any (L : List Lx.Tok) (A : Option Addr) (n c g : Nat) (w : World) (bad : Bool) (R : List Tk) (h : PSx L A n c g w bad R) :
  Calls Tryz.prog 54 #[.pointer (some ⟨g, 0, none⟩)] w fun e w' => e = .returned (.string (bs (wdS bad 1 R))) /\ PSx L A n c g w' (wdB bad 1 R) (wdR bad 1 R) /\ w.grownBy w' (some g) := by
 have K := hI (word_any L A n c g w bad R h 1 (by decide))
 clear h
 generalize wdS bad 1 R = s at *
 generalize wdB bad 1 R = b at *
 generalize wdR bad 1 R = R' at *
 go_enter Tryz.func54, Tryz.ntmps54
 go_wp2_with fail
 refine K.out.mono ?_
 rintro e w1 ⟨rfl, hP, hg⟩
 go_wp2
 go_ret
 exact ⟨rfl, hP, hg⟩
open Go.RowKit
/-- What number answers. -/
def nbV (bad : Bool) (R : List Tk) : Int := if bad = true ∨ kindT R ≠ 2 then 0 else numT (textT R)
theorem num_text {l : Str} (h : Lx.numE l = 0) (hne : l ≠ []) : Lib.parseIntB 64 l = .ok (numT l) := by
 unfold Lx.numE at h
 split at h
 ·rename_i ha
  split at h
  ·cases h
  split at h
  ·rename_i hm
   rw [Lx.parse_i l ha hne, if_pos hm]
   rfl
  cases h
 cases h
theorem number_any (L : List Lx.Tok) (A : Option Addr) (n c g : Nat) (w : World) (bad : Bool) (R : List Tk) (h : PSx L A n c g w bad R) :
  Calls Tryz.prog 115 #[.pointer (some ⟨g, 0, none⟩)] w fun e w' => e = .returned (.int .i64 (nbV bad R)) /\ PSx L A n c g w' (wdB bad 2 R) (wdR bad 2 R) /\ w.grownBy w' (some g) := by
 have K := hI (word_any L A n c g w bad R h 2 (by decide))
 have hx : (wdS bad 2 R = [] /\ nbV bad R = 0) ∨ (Lib.parseIntB 64 (wdS bad 2 R) = .ok (nbV bad R) /\ (wdS bad 2 R).length <= 65536) := by
  unfold wdS nbV
  by_cases hb : bad = true ∨ kindT R ≠ 2
  ·rw [if_pos hb, if_pos hb]; exact .inl ⟨rfl, rfl⟩
  rw [if_neg hb, if_neg hb]
  right
  obtain ⟨i, hi⟩ := h
  obtain ⟨t, b, q, h1, h2, h3, h4, ⟨T, rfl⟩, _⟩ := hi.tok
  have hk : t.kind = 2 := Classical.not_not.1 fun e => hb (.inr e)
  obtain ⟨e1, e2⟩ := hi.ok.num t h4 hk
  exact ⟨num_text e1 e2, hi.ok.txt t h4⟩
 have hes : ∀ w' b R', PSx L A n c g w' b R' -> ES g w' := fun w' b R' h => by obtain ⟨i, h⟩ := h; exact h.es
 have HX := hI hx
 clear h hx
 generalize wdS bad 2 R = s at *
 generalize nbV bad R = v at *
 generalize wdB bad 2 R = b at *
 generalize wdR bad 2 R = R' at *
 go_enter Tryz.func115, Tryz.ntmps115
 go_wp2_with fail
 refine K.out.mono ?_
 rintro e w1 ⟨rfl, hP, hg⟩
 have HP := hI hP
 have HG := hI hg
 clear hP hg K
 rcases HX.out with ⟨rfl, rfl⟩ | ⟨hp, hl⟩
 ·obtain ⟨_, ev, he1, he2⟩ := hes _ _ _ HP.out
  have HE2 := hI he2
  clear hes HX he2
  go_wp2_with fail
  refine (Tryz.strconv_ParseInt_10_at64_syntax (bs []) (by rw [bs_size]; decide) (by rw [bs_list]; rfl) ev _ he1 HE2.out).mono ?_
  rintro e w2 ⟨N, rfl, _, _, hb⟩
  have HP2 := hI (HP.out.next hb)
  have HG2 := hI (World.grownBy.trans HG.out (Below.grown_ hb (some g)))
  clear hb he1
  go_wp2
  go_ret
  exact ⟨rfl, HP2.out, HG2.out⟩
 have HLN := hI (show (bs s).size <= 65536 by rw [bs_size]; exact hl)
 have HPI := hI (show Lib.parseIntB 64 (bs s).data.toList = .ok v by rw [bs_list]; exact hp)
 clear hes HX hp hl
 go_wp2_with fail
 refine (Tryz.strconv_ParseInt_10_at64_ok (bs s) (by have := HLN.out; omega) _ HPI.out _).mono ?_
 rintro e w2 ⟨rfl, hw⟩
 have hb : Below w1.heap.size w1 w2 := Lx.iter_or (Below.refl _ _) hw
 have HP2 := hI (HP.out.next hb)
 have HG2 := hI (World.grownBy.trans HG.out (Below.grown_ hb (some g)))
 clear hb hw
 go_wp2
 go_ret
 exact ⟨rfl, HP2.out, HG2.out⟩
open Go.RowKit
theorem gr_step {B g r : Nat} {w0 w w' : World} (h : w0.grownBy w (some g)) (k : w.grownBy w' (some r)) (hr : w0.heap.size <= r) : w0.grownBy w' (some g) :=
 ⟨k.os.trans h.os, k.tape.trans h.tape, k.output.trans h.output, Nat.le_trans h.size k.size, fun b hb hg => (k.block b (Nat.lt_of_lt_of_le hb h.size) (fun e => by have := Option.some.inj e; omega)).trans (h.block b hb hg)⟩
theorem gr_below {g : Nat} {w0 w w' : World} (h : w0.grownBy w (some g)) (hb : Below w.heap.size w w') : w0.grownBy w' (some g) := World.grownBy.trans h (Below.grown_ hb _)
/-- Where the tokens lie, below B. -/
def TB (A : Option Addr) (g B : Nat) : Prop := (∃ b q, A = some ⟨b, q, none⟩ /\ b < B) /\ g < B /\ 4 < B
theorem PSx.base {L : List Lx.Tok} {A : Option Addr} {n c g : Nat} {w : World} {bad : Bool} {R : List Tk} (h : PSx L A n c g w bad R) : TB A g w.heap.size := by
 obtain ⟨i, h⟩ := h
 obtain ⟨b, q, e, h1, _⟩ := h.row
 obtain ⟨_, ev, h2, _⟩ := h.es
 exact ⟨⟨b, q, e, h1⟩, h.lt, World.block_lt_of_cell? _ _ h2⟩
/-- A store into a box of the call's own. -/
theorem PSx.other {L : List Lx.Tok} {A : Option Addr} {n c g B r : Nat} {w w' : World} {bad : Bool} {R : List Tk} (tb : TB A g B) (h : PSx L A n c g w bad R) (hg : w.grownBy w' (some r)) (hr : B <= r) : PSx L A n c g w' bad R := by
 obtain ⟨i, h⟩ := h
 obtain ⟨⟨b, q, e, h0⟩, tg, te⟩ := tb
 have ne : ∀ k, k < B -> some k ≠ some r := fun k hk e => by have := Option.some.inj e; omega
 obtain ⟨b', q', e', h1, h2, h3⟩ := h.row
 obtain ⟨h5, ev, h6, h7⟩ := h.es
 have eb : b = b' := by
  rw [e] at e'
  injection e' with e'
  injection e'
 subst eb
 refine ⟨i, h.ok, h.len, h.cap, ⟨b, q', e', Nat.lt_of_lt_of_le h1 hg.size, h2, fun j t ht => rangeAt_keep (h3 j t ht) (hg.block b h1 (ne b h0))⟩, (hg.block g h.lt (ne g tg)).trans h.st, h.at_, h.ends, h5, ev, ?_, h7⟩
 exact (World.cell?_of_block (a := ⟨4, 0, none⟩) (hg.block _ (World.block_lt_of_cell? _ _ h6) (ne _ te))).trans h6
theorem XV.gr {w w' : World} {S S' : Nat -> Prop} {e : Ex} {cs : List Value} {r : Nat} (h : XV w S e cs) (hg : w.grownBy w' (some r)) (hS : ∀ b, b < w.heap.size -> S b -> b ≠ r /\ S' b) : XV w' S' e cs :=
 XV.keep hg.size (fun b hb hs => hg.block b hb fun e => (hS b hb hs).1 (Option.some.inj e)) (fun b hb hs => (hS b hb hs).2) h
theorem XL.gr {w w' : World} {S S' : Nat -> Prop} {A : Option Addr} {n c : Nat} {l : List Ex} {r : Nat} (h : XL w S A n c l) (hg : w.grownBy w' (some r)) (hS : ∀ b, b < w.heap.size -> S b -> b ≠ r /\ S' b) : XL w' S' A n c l :=
 XL.keep hg.size (fun b hb hs => hg.block b hb fun e => (hS b hb hs).1 (Option.some.inj e)) (fun b hb hs => (hS b hb hs).2) h
/-- Block r holds an expression's cells. -/
def XB (w : World) (r : Nat) (u : Array Value) : Prop := w.heap[r]? = some (.cells u 27 (0, 0))
theorem XB.gr {w w' : World} {r k : Nat} {u : Array Value} (h : XB w r u) (hg : w.grownBy w' (some k)) (hk : r ≠ k) : XB w' r u := (hg.block r (lt_of_block h) (fun e => hk (Option.some.inj e))).trans h
theorem XB.below {w w' : World} {r : Nat} {u : Array Value} (h : XB w r u) (hb : Below w.heap.size w w') : XB w' r u := (hb.block r (lt_of_block h)).trans h
theorem XB.lt {w : World} {r : Nat} {u : Array Value} (h : XB w r u) : r < w.heap.size := lt_of_block h
theorem ex_size : (Tryz.prog.info? 27).map (·.size) = some 6 := by kernel_rfl
/-- Six values of one cell each. -/
def Six (u : Array Value) : Prop := u.size = 6 /\ u.all (·.oneCell') = true
theorem XV.six {w : World} {S : Nat -> Prop} {e : Ex} {cs : List Value} (h : XV w S e cs) : Six cs.toArray := by
 refine ⟨by rw [List.size_toArray]; exact h.len, ?_⟩
 rw [List.all_toArray]
 exact List.all_eq_true.2 h.one
section
variable {ops : Array Oper} {rest : List Oper} {a : Act} {w : World} {Q : Exit -> Act -> World -> Prop} {o : Oper} {u old : Array Value}
theorem xb_put (hg : o.guard = none) (x y : Operand) (ho : o.op = .store 27 x y) (hd : o.dst = none) (r : Nat) (hx : a.eval x = .pointer (some ⟨r, 0, none⟩)) (hy : a.eval y = .agg u) (h6 : Six u) (hb : XB w r old) (h6' : old.size = 6)
  (h : ∀ w', XB w' r u -> w.grownBy w' (some r) -> w'.heap.size = w.heap.size -> wpList Tryz.prog ops Q rest a w') : wpList Tryz.prog ops Q (o :: rest) a w := by
 refine wpList_store_rowTo hg _ x y ho hd r u hx hy _ _ hb (by rw [h6.1]; exact ex_size) (by rw [h6.1, h6']) h6.2 ?_
 exact h _ (setRow_heap _ _ _ _ _ _ hb) ⟨rfl, rfl, rfl, Nat.le_of_eq (by simp [World.setRow]), fun k _ hk => setRow_other _ _ _ _ (fun e => hk (by rw [e]))⟩ (by simp [World.setRow])
end
/-- What a result says, of its value and the state behind. -/
def Res.is {α : Type} (P : Res α) (x : α) (Q : Bool -> List Tk -> Prop) : Prop := match P with
 | .ok a r => x = a /\ Q false r
 | .bad r => Q true r
/-- What a function that reads an expression answers. -/
def XP (L : List Lx.Tok) (A : Option Addr) (n c g : Nat) (w : World) (P : Res Ex) (e : Ending) (w' : World) : Prop :=
 ∃ (ex : Ex) (cs : List Value), e = .returned (.agg cs.toArray) /\ XV w' (fun b => w.heap.size <= b) ex cs /\ w.grownBy w' (some g) /\ P.is ex fun b r => PSx L A n c g w' b r
/-- .. a list of expressions. -/
def LP (L : List Lx.Tok) (A : Option Addr) (n c g : Nat) (w : World) (P : Res (List Ex)) (e : Ending) (w' : World) : Prop :=
 ∃ (l : List Ex) (B : Option Addr) (m k : Nat), e = .returned (.slice B m k) /\ XL w' (fun b => w.heap.size <= b) B m k l /\ w.grownBy w' (some g) /\ P.is l fun b r => PSx L A n c g w' b r
theorem XL.nil_ (w : World) (S : Nat -> Prop) : XL w S none 0 0 [] := ⟨⟨rfl, Nat.le_refl _, fun _ => rfl⟩, fun h => absurd h (by omega)⟩
theorem tk_bad (s : Str) (R : List Tk) : tk true s R = false /\ tkR true s R = R := ⟨rfl, rfl⟩
theorem wd_bad (k : Int) (R : List Tk) : wdS true k R = [] /\ wdB true k R = true /\ wdR true k R = R := ⟨if_pos (.inl rfl), rfl, if_pos (.inl rfl)⟩
section
variable (L : List Lx.Tok) (A : Option Addr) (n c g : Nat)
theorem take_bad (w : World) (R : List Tk) (h : PSx L A n c g w true R) (s : Str) : Calls Tryz.prog 53 #[.pointer (some ⟨g, 0, none⟩), .string (bs s)] w fun e w' => e = .returned (.bool false) /\ PSx L A n c g w' true R /\ w.grownBy w' (some g) :=
 take_any L A n c g w true R h s
theorem need_bad (w : World) (R : List Tk) (h : PSx L A n c g w true R) (s : Str) (q : Nat) (hq : q < w.heap.size) (hqg : q ≠ g) (hc : w.cell? ⟨q, 0, none⟩ = some (.string (bs s))) : Calls Tryz.prog 55 #[.pointer (some ⟨g, 0, none⟩), .slice (some ⟨q, 0, none⟩) 1 1] w fun e w' => e = .returned (.tuple #[]) /\ PSx L A n c g w' true R /\ w.grownBy w' (some g) :=
 need_any L A n c g w true R h s q hq hqg hc
end
/-- A list in parentheses: where the parse has failed nothing is read, whatever reads one. -/
theorem commas_bad (L : List Lx.Tok) (A : Option Addr) (n c g : Nat) (w : World) (R : List Tk) (h : PSx L A n c g w true R) (F : Value) :
  Calls Tryz.prog 56 #[.pointer (some ⟨g, 0, none⟩), F] w fun e w' => e = .returned (.tuple #[]) /\ PSx L A n c g w' true R /\ w.grownBy w' (some g) := by
 have hb := (Below.refl w.heap.size w).alloc (Nat.le_refl _) (.cells #[.string { data := #[40] }] 9)
 have hlt := h.lt
 have K := hI (need_bad L A n c g _ R (h.next hb) [40] w.heap.size (by simp) (by omega) (by rw [cell_of_row _ _ _ _ _ _ (heap_alloc_new w _)]; rfl))
 have HG0 := hI (Below.grown_ hb (some g))
 clear h hb hlt
 go_enter Tryz.func56, Tryz.ntmps56
 go_wp2_with fail
 refine K.out.mono ?_
 rintro e w1 ⟨rfl, h1, hg⟩
 have H1 := hI h1
 have HG1 := hI (World.grownBy.trans HG0.out hg)
 clear h1 hg K HG0
 go_wp2_with fail
 refine (take_bad L A n c g w1 R H1.out [41]).mono ?_
 rintro e w2 ⟨rfl, h2, hg⟩
 have H2 := hI h2
 have HG2 := hI (World.grownBy.trans HG1.out hg)
 clear h2 hg H1 HG1
 go_wp2_with fail
 obtain ⟨i, hi⟩ := H2.out
 obtain ⟨c0, c1, c2⟩ := hi.cells
 clear hi
 go_loopw [12] (fun _ wr => wr = w2) (fun _ _ => 0)
 case atStart => exact rfl
 case round =>
  obtain rfl := hrel
  go_wp2
  go_end0
  exact ⟨rfl, H2.out, HG2.out⟩
open Go.RowKit
def Res.map {α β : Type} (f : α -> β) : Res α -> Res β
 | .ok a r => .ok (f a) r
 | .bad r => .bad r
theorem Res.is_map {α β : Type} {P : Res α} {x : α} {Q : Bool -> List Tk -> Prop} (f : α -> β) (h : P.is x Q) : (P.map f).is (f x) Q := by
 cases P with
 | ok a r => exact ⟨congrArg f h.1, h.2⟩
 | bad r => exact h
theorem Res.is_imp {α : Type} {P : Res α} {x : α} {Q Q' : Bool -> List Tk -> Prop} (h : P.is x Q) (hq : ∀ b r, Q b r -> Q' b r) : P.is x Q' := by
 cases P with
 | ok a r => exact ⟨h.1, hq _ _ h.2⟩
 | bad r => exact hq _ _ h
theorem xb_ret {fnn : Func} {p : Tmp} (hf : fnn.results = #[.cell p 27]) (tmps : Array Value) (w : World) (r : Nat) (u : Array Value) (hp : tmps.getD p undef = .pointer (some ⟨r, 0, none⟩)) (hb : XB w r u) (h6 : u.size = 6) : (results fnn tmps).run Tryz.prog w = .ok (.agg u) w :=
 results_cell_row hf tmps w r _ u _ _ hp hb Tryz.underlying27 rfl (by rw [h6]; exact ex_size)
section
variable {ops : Array Oper} {rest : List Oper} {a : Act} {w : World} {Q : Exit -> Act -> World -> Prop} {o : Oper} {u : Array Value}
theorem xb_load (hg : o.guard = none) (x : Operand) (ho : o.op = .load 27 x) (r : Nat) (hx : a.eval x = .pointer (some ⟨r, 0, none⟩)) (hb : XB w r u) (h6 : u.size = 6)
  (h : wpList Tryz.prog ops Q rest (a.put o.dst (.agg u)) w) : wpList Tryz.prog ops Q (o :: rest) a w :=
 wpList_load_row hg _ x ho r hx _ _ _ _ hb Tryz.underlying27 rfl (by rw [h6]; exact ex_size) h
end
theorem XB.set {w : World} {r : Nat} {u : Array Value} (h : XB w r u) (j : Nat) (v : Value) : XB (w.setCell ⟨r, j, none⟩ v) r (u.setIfInBounds j v) := by
 unfold XB
 rw [setCell_eq_setRow w r j _ _ _ _ h]
 exact setRow_heap _ _ _ _ _ _ h
theorem six_of (k n : Int) (s m : ByteArray) (B : Option Addr) (p q : Nat) (O : Option Addr) (x y : Nat) : Six #[.int .i64 k, .int .i64 n, .string s, .string m, .slice B p q, .slice O x y] := ⟨rfl, by simp [Value.oneCell']⟩
theorem host_gen (L : List Lx.Tok) (A : Option Addr) (n c g : Nat) (w : World) (bad : Bool) (R : List Tk) (h : PSx L A n c g w bad R) (PA : Res (List Ex)) (hA : ∀ W, PSx L A n c g W (wdB (bad || !isT [46] R) 1 (tkR bad [46] R)) (wdR (bad || !isT [46] R) 1 (tkR bad [46] R)) -> Calls Tryz.prog 134 #[.pointer (some ⟨g, 0, none⟩)] W (LP L A n c g W PA)) :
  Calls Tryz.prog 116 #[.pointer (some ⟨g, 0, none⟩)] w (XP L A n c g w (PA.map fun l => .mk 7 0 (wdS (bad || !isT [46] R) 1 (tkR bad [46] R)) [] l [])) := by
 obtain ⟨w0, hw0⟩ : ∃ w0, w0 = w.alloc (.cells #[.int .i64 0, .int .i64 0, .string { data := #[] }, .string { data := #[] }, .slice none 0 0, .slice none 0 0] 27) := ⟨_, rfl⟩
 have hb0 : Below w.heap.size w w0 := by rw [hw0]; exact (Below.refl _ _).alloc (Nat.le_refl _) _
 have X0 := hI (show XB w0 w.heap.size #[.int .i64 0, .int .i64 0, .string { data := #[] }, .string { data := #[] }, .slice none 0 0, .slice none 0 0] from by rw [hw0]; exact heap_alloc_new w _)
 have TBs := hI h.base
 have G0 := hI (Below.grown_ hb0 (some g))
 have H0 := hI (h.next hb0)
 have HGL := hI h.lt
 have HA := hI hA
 have hb1 := (Below.refl w0.heap.size w0).alloc (Nat.le_refl _) (.cells #[.string { data := #[46] }] 9)
 have K1 := hI (need_any L A n c g _ bad R (H0.out.next hb1) [46] w0.heap.size (by simp) (by have := H0.out.lt; omega) (by rw [cell_of_row _ _ _ _ _ _ (heap_alloc_new w0 _)]; rfl))
 have Gn := hI (gr_below G0.out hb1)
 clear hb1
 obtain ⟨s, hs⟩ : ∃ s, s = wdS (bad || !isT [46] R) 1 (tkR bad [46] R) := ⟨_, rfl⟩
 rw [<- hs]
 have HS := hI hs
 clear h hA hb0 hs
 generalize (bad || !isT [46] R) = b1 at *
 generalize tkR bad [46] R = R1 at *
 go_enter Tryz.func116, Tryz.ntmps116
 go_upto_region 1 with fail
 rw [<- hw0]
 clear hw0
 go_wp2_with fail
 refine K1.out.mono ?_
 rintro e w1 ⟨rfl, h2, hg⟩
 have H1 := hI h2
 have X1 := hI (X0.out.below ((Below.refl w0.heap.size w0).alloc (Nat.le_refl _) (.cells #[.string { data := #[46] }] 9)) |>.gr hg (by have := HGL.out; omega))
 have G1 := hI (World.grownBy.trans Gn.out hg)
 clear h2 hg K1 Gn X0 G0 H0
 have k2 := name_any L A n c g w1 b1 R1 H1.out
 rw [<- HS.out] at k2
 have K2 := hI k2
 clear k2 HS
 generalize wdB b1 1 R1 = b2 at *
 generalize wdR b1 1 R1 = R2 at *
 go_wp2_with fail
 refine K2.out.mono ?_
 rintro e w2 ⟨rfl, h2, hg⟩
 have X2 := hI (X1.out.gr hg (by have := HGL.out; omega))
 have G2 := hI (World.grownBy.trans G1.out hg)
 obtain ⟨wd, hwd⟩ : ∃ wd, wd = w2.alloc (.cells #[.int .i64 7, .int .i64 0, .string (bs s), .string { data := #[] }, .slice none 0 0, .slice none 0 0] 27) := ⟨_, rfl⟩
 have hbd : Below w2.heap.size w2 wd := by rw [hwd]; exact (Below.refl _ _).alloc (Nat.le_refl _) _
 have H2 := hI (h2.next hbd)
 have E2 := hI (show XB wd w2.heap.size #[.int .i64 7, .int .i64 0, .string (bs s), .string { data := #[] }, .slice none 0 0, .slice none 0 0] from by rw [hwd]; exact heap_alloc_new w2 _)
 have X3 := hI (X2.out.below hbd)
 have G3 := hI (gr_below G2.out hbd)
 have HE := hI (show w.heap.size < w2.heap.size from X2.out.lt)
 clear h2 hg K2 X1 G1 H1 X2 G2 hbd
 go_upto_region 3 with fail
 rw [<- hwd]
 clear hwd
 generalize w2.heap.size = eb at *
 go_wp2_with fail
 refine (HA.out wd H2.out).mono ?_
 rintro e w3 ⟨l, B, m, k, rfl, hl, hg, hP⟩
 have X4 := hI (X3.out.gr hg (by have := HGL.out; omega))
 have E4 := hI (E2.out.gr hg (by have := HGL.out; have := HE.out; omega))
 have G4 := hI (World.grownBy.trans G3.out hg)
 have HL := hI hl
 have HP := hI hP
 have HE4 := hI E2.out.lt
 clear hl hg hP X3 E2 G3 H2 HA
 have cE : w3.cell? ⟨eb, 4, none⟩ = some (.slice none 0 0) := by rw [cell_of_row _ _ _ _ _ _ E4.out]; rfl
 have fE : w3.frozen? ⟨eb, 4, none⟩ = false := by simp [World.frozen?, show w3.heap[eb]? = _ from E4.out]
 go_wp2_with (with_reducible refine at_load_ (t := 27) ?_; refine Hid.out ?_)
 refine hI ?_
 have E5 := hI (E4.out.set 4 (.slice B m k))
 have g5 := gr_put w3 eb 4 (.slice B m k)
 have X5 := hI (X4.out.gr g5 (by have := HE.out; omega))
 have G5 := hI (gr_step (B := 0) G4.out g5 (Nat.le_of_lt HE.out))
 have HL5 := hI (HL.out.gr (S' := fun b => wd.heap.size <= b) g5 (fun b _ (hb : wd.heap.size <= b) => ⟨by have := HE4.out; omega, hb⟩))
 have HP5 := hI (Res.is_imp HP.out fun b r h => h.other TBs.out g5 (Nat.le_of_lt HE.out))
 clear cE fE g5 X4 E4 G4 HL HP
 generalize w3.setCell ⟨eb, 4, none⟩ (.slice B m k) = w4 at *
 refine xb_load rfl _ rfl eb rfl E5.out rfl ?_
 refine xb_put rfl _ _ rfl rfl w.heap.size rfl rfl (six_of ..) X5.out rfl ?_
 intro w5 hx5 hg5 _
 have X6 := hI hx5
 have G6 := hI (gr_step (B := 0) G5.out hg5 (Nat.le_refl _))
 have HL6 := hI (HL5.out.gr (S' := fun b => w.heap.size <= b) hg5 (fun b _ (hb : wd.heap.size <= b) => ⟨by have := HE.out; have := HE4.out; omega, by have := HE.out; have := HE4.out; omega⟩))
 have HP6 := hI (Res.is_imp HP5.out fun b r h => h.other TBs.out hg5 (Nat.le_refl _))
 clear hx5 hg5 X5 G5 HL5 HP5
 go_wp2_with fail
 refine bodyPost_ret (xb_ret rfl _ _ w.heap.size _ rfl X6.out rfl) rfl ?_
 exact ⟨.mk 7 0 s [] l [], exC 7 0 s [] B m k none 0 0, rfl, XV.shut (by unfold InR; omega) HL6.out (XL.nil_ _ _), G6.out, Res.is_map (fun l => Ex.mk 7 0 s [] l []) HP6.out⟩
theorem XL.one {w : World} {S : Nat -> Prop} {e : Ex} {cs : List Value} {b : Nat} {t : TypeId} {fr : Nat × Nat} (h : XV w S e cs) (hb : w.heap[b]? = some (.cells cs.toArray t fr)) (hS : S b) : XL w S (some ⟨b, 0, none⟩) 1 1 [e] := by
 refine ⟨⟨rfl, Nat.le_refl _, fun h => by cases h⟩, fun _ => ⟨b, 0, rfl, lt_of_block hb, hS, ?_⟩⟩
 rw [XLf]
 refine ⟨⟨cs, h, fun j v hv => ?_⟩, by rw [XLf]; trivial⟩
 rw [Nat.zero_mul, Nat.zero_add]
 try rw [Nat.zero_add]
 rw [cell_of_row _ _ _ _ _ _ hb, <- hv, <- Array.getElem?_toList]
/-- What a call answers, out of its arguments and what comes behind 'else'. -/
def kEnd (n0 s : Str) (PA : Res (List Ex)) (PU : List Tk -> Res Ex) : Res Ex := match PA with
 | .bad r => .bad r
 | .ok l r => if isT tElse r = true then match PU r.tail with
   | .bad r' => .bad r'
   | .ok x r' => .ok (.mk 6 0 n0 s l [x]) r'
  else .ok (.mk 6 0 n0 s l []) r
theorem call_gen (L : List Lx.Tok) (A : Option Addr) (n c g : Nat) (w : World) (bad : Bool) (R : List Tk) (h : PSx L A n c g w bad R) (n0 : Str) (PA : Res (List Ex)) (PU : List Tk -> Res Ex) (hA : ∀ W, PSx L A n c g W (wdB (bad || !isT [46] R) 1 (tkR bad [46] R)) (wdR (bad || !isT [46] R) 1 (tkR bad [46] R)) -> Calls Tryz.prog 134 #[.pointer (some ⟨g, 0, none⟩)] W (LP L A n c g W PA))
  (hU : ∀ l r, PA = .ok l r -> isT tElse r = true -> ∀ W, PSx L A n c g W false r.tail -> Calls Tryz.prog 135 #[.pointer (some ⟨g, 0, none⟩)] W (XP L A n c g W (PU r.tail))) :
  Calls Tryz.prog 117 #[.pointer (some ⟨g, 0, none⟩), .string (bs n0)] w (XP L A n c g w (kEnd n0 (wdS (bad || !isT [46] R) 1 (tkR bad [46] R)) PA PU)) := by
 obtain ⟨w0, hw0⟩ : ∃ w0, w0 = w.alloc (.cells #[.int .i64 0, .int .i64 0, .string { data := #[] }, .string { data := #[] }, .slice none 0 0, .slice none 0 0] 27) := ⟨_, rfl⟩
 have hb0 : Below w.heap.size w w0 := by rw [hw0]; exact (Below.refl _ _).alloc (Nat.le_refl _) _
 have X0 := hI (show XB w0 w.heap.size #[.int .i64 0, .int .i64 0, .string { data := #[] }, .string { data := #[] }, .slice none 0 0, .slice none 0 0] from by rw [hw0]; exact heap_alloc_new w _)
 have TBs := hI h.base
 have G0 := hI (Below.grown_ hb0 (some g))
 have H0 := hI (h.next hb0)
 have HGL := hI h.lt
 have HA := hI hA
 have HU := hI hU
 have hb1 := (Below.refl w0.heap.size w0).alloc (Nat.le_refl _) (.cells #[.string { data := #[46] }] 9)
 have K1 := hI (need_any L A n c g _ bad R (H0.out.next hb1) [46] w0.heap.size (by simp) (by have := H0.out.lt; omega) (by rw [cell_of_row _ _ _ _ _ _ (heap_alloc_new w0 _)]; rfl))
 have Gn := hI (gr_below G0.out hb1)
 clear hb1
 obtain ⟨s, hs⟩ : ∃ s, s = wdS (bad || !isT [46] R) 1 (tkR bad [46] R) := ⟨_, rfl⟩
 rw [<- hs]
 have HS := hI hs
 clear h hA hU hb0 hs
 generalize (bad || !isT [46] R) = b1 at *
 generalize tkR bad [46] R = R1 at *
 go_enter Tryz.func117, Tryz.ntmps117
 go_upto_region 1 with fail
 rw [<- hw0]
 clear hw0
 go_wp2_with fail
 refine K1.out.mono ?_
 rintro e w1 ⟨rfl, h2, hg⟩
 have H1 := hI h2
 have X1 := hI (X0.out.below ((Below.refl w0.heap.size w0).alloc (Nat.le_refl _) (.cells #[.string { data := #[46] }] 9)) |>.gr hg (by have := HGL.out; omega))
 have G1 := hI (World.grownBy.trans Gn.out hg)
 clear h2 hg K1 Gn X0 G0 H0
 have k2 := name_any L A n c g w1 b1 R1 H1.out
 rw [<- HS.out] at k2
 have K2 := hI k2
 clear k2 HS
 generalize wdB b1 1 R1 = b2 at *
 generalize wdR b1 1 R1 = R2 at *
 go_wp2_with fail
 refine K2.out.mono ?_
 rintro e w2 ⟨rfl, h2, hg⟩
 have X2 := hI (X1.out.gr hg (by have := HGL.out; omega))
 have G2 := hI (World.grownBy.trans G1.out hg)
 obtain ⟨wd, hwd⟩ : ∃ wd, wd = w2.alloc (.cells #[.int .i64 6, .int .i64 0, .string (bs n0), .string (bs s), .slice none 0 0, .slice none 0 0] 27) := ⟨_, rfl⟩
 have hbd : Below w2.heap.size w2 wd := by rw [hwd]; exact (Below.refl _ _).alloc (Nat.le_refl _) _
 have H2 := hI (h2.next hbd)
 have E2 := hI (show XB wd w2.heap.size #[.int .i64 6, .int .i64 0, .string (bs n0), .string (bs s), .slice none 0 0, .slice none 0 0] from by rw [hwd]; exact heap_alloc_new w2 _)
 have X3 := hI (X2.out.below hbd)
 have G3 := hI (gr_below G2.out hbd)
 have HE := hI (show w.heap.size < w2.heap.size from X2.out.lt)
 clear h2 hg K2 X1 G1 H1 X2 G2 hbd
 go_upto_region 3 with fail
 rw [<- hwd]
 clear hwd
 generalize w2.heap.size = eb at *
 go_wp2_with fail
 refine (HA.out wd H2.out).mono ?_
 rintro e w3 ⟨l, B, m, k, rfl, hl, hg, hP⟩
 have X4 := hI (X3.out.gr hg (by have := HGL.out; omega))
 have E4 := hI (E2.out.gr hg (by have := HGL.out; have := HE.out; omega))
 have G4 := hI (World.grownBy.trans G3.out hg)
 have HL := hI hl
 have HP := hI hP
 have HE4 := hI E2.out.lt
 have HG3 := hI hg.size
 clear hl hg hP X3 E2 G3 H2 HA
 have cE : w3.cell? ⟨eb, 4, none⟩ = some (.slice none 0 0) := by rw [cell_of_row _ _ _ _ _ _ E4.out]; rfl
 have fE : w3.frozen? ⟨eb, 4, none⟩ = false := by simp [World.frozen?, show w3.heap[eb]? = _ from E4.out]
 have E5 := hI (E4.out.set 4 (.slice B m k))
 have g5 := gr_put w3 eb 4 (.slice B m k)
 have X5 := hI (X4.out.gr g5 (by have := HE.out; omega))
 have G5 := hI (gr_step (B := 0) G4.out g5 (Nat.le_of_lt HE.out))
 have HL5 := hI (HL.out.gr (S' := fun b => wd.heap.size <= b) g5 (fun b _ (hb : wd.heap.size <= b) => ⟨by have := HE4.out; omega, hb⟩))
 have HP5 := hI (Res.is_imp HP.out fun b r h => h.other TBs.out g5 (Nat.le_of_lt HE.out))
 have HSZ := hI (show wd.heap.size <= (w3.setCell ⟨eb, 4, none⟩ (.slice B m k)).heap.size from Nat.le_trans HG3.out g5.size)
 clear g5 X4 E4 G4 HL HP HG3
 go_upto_region 4 with fail
 clear cE fE
 generalize w3.setCell ⟨eb, 4, none⟩ (.slice B m k) = w4 at *
 have TAKE := hI (show ∀ b r, PSx L A n c g w4 b r -> _ from fun b r h => take_any L A n c g w4 b r h tElse)
 unfold tElse at TAKE
 cases PA with
 | bad r =>
  have hps : PSx L A n c g w4 true r := HP5.out
  go_wp2_with fail
  refine (TAKE.out true r hps).mono ?_
  rintro e w6 ⟨rfl, h6, hg6⟩
  have H6 := hI (show PSx L A n c g w6 true r from h6)
  have X6 := hI (X5.out.gr hg6 (by have := HGL.out; omega))
  have E6 := hI (E5.out.gr hg6 (by have := HGL.out; have := HE.out; omega))
  have G6 := hI (World.grownBy.trans G5.out hg6)
  have HL6 := hI (HL5.out.gr (S' := fun b => wd.heap.size <= b) hg6 (fun b _ (hb : wd.heap.size <= b) => ⟨by have := HE4.out; have := HGL.out; have := HE.out; omega, hb⟩))
  clear h6 hg6 hps X5 E5 G5 HL5 HP5
  rw [(tk_bad _ _).1]
  go_wp2_with (with_reducible refine at_load_ (t := 27) ?_; refine Hid.out ?_)
  refine hI ?_
  refine xb_load rfl _ rfl eb rfl E6.out rfl ?_
  refine xb_put rfl _ _ rfl rfl w.heap.size rfl rfl (six_of ..) X6.out rfl ?_
  intro w7 hx7 hg7 _
  have X7 := hI hx7
  have G7 := hI (gr_step (B := 0) G6.out hg7 (Nat.le_refl _))
  have HL7 := hI (HL6.out.gr (S' := fun b => w.heap.size <= b) hg7 (fun b _ (hb : wd.heap.size <= b) => ⟨by have := HE.out; have := HE4.out; omega, by have := HE.out; have := HE4.out; omega⟩))
  have H7 := hI (H6.out.other TBs.out hg7 (Nat.le_refl _))
  clear hx7 hg7 X6 G6 HL6 H6
  go_wp2_with fail
  refine bodyPost_ret (xb_ret rfl _ _ w.heap.size _ rfl X7.out rfl) rfl ?_
  exact ⟨Ex.mk 6 0 n0 s l [], exC 6 0 n0 s B m k none 0 0, rfl, XV.shut (by unfold InR; omega) HL7.out (XL.nil_ _ _), G7.out, H7.out⟩
 | ok l' r =>
  obtain ⟨rfl, hps⟩ := HP5.out
  have HPS := hI hps
  clear hps HP5
  go_wp2_with fail
  refine (TAKE.out false r HPS.out).mono ?_
  rintro e w6 ⟨rfl, h6, hg6⟩
  have X6 := hI (X5.out.gr hg6 (by have := HGL.out; omega))
  have E6 := hI (E5.out.gr hg6 (by have := HGL.out; have := HE.out; omega))
  have G6 := hI (World.grownBy.trans G5.out hg6)
  have HL6 := hI (HL5.out.gr (S' := fun b => wd.heap.size <= b) hg6 (fun b _ (hb : wd.heap.size <= b) => ⟨by have := HE4.out; have := HGL.out; have := HE.out; omega, hb⟩))
  have HSZ6 := hI (Nat.le_trans HSZ.out hg6.size)
  by_cases hel : isT tElse r = true
  ·have H6 := hI (show PSx L A n c g w6 false r.tail from by
    have e : tkR false tElse r = r.tail := if_pos (by unfold tk; rw [hel]; rfl)
    rw [<- e]; exact h6)
   have et : tk false [101, 108, 115, 101] r = true := by unfold tk; rw [show isT [101, 108, 115, 101] r = true from hel]; rfl
   have ek : kEnd n0 s (.ok l r) PU = match PU r.tail with
     | .bad r' => .bad r'
     | .ok x r' => .ok (.mk 6 0 n0 s l [x]) r' := if_pos hel
   rw [et]
   have EK := hI ek
   have KU := hI (HU.out l r rfl hel w6 H6.out)
   clear h6 hg6 X5 E5 G5 HL5 HPS HU TAKE et ek
   go_wp2_with fail
   refine KU.out.mono ?_
   rintro e w7 ⟨x, cs, rfl, hx, hg7, hP7⟩
   have X7 := hI (X6.out.gr hg7 (by have := HGL.out; omega))
   have E7 := hI (E6.out.gr hg7 (by have := HGL.out; have := HE.out; omega))
   have G7 := hI (World.grownBy.trans G6.out hg7)
   have HL7 := hI (HL6.out.gr (S' := fun b => wd.heap.size <= b) hg7 (fun b _ (hb : wd.heap.size <= b) => ⟨by have := HE4.out; have := HGL.out; have := HE.out; omega, hb⟩))
   have HP7 := hI hP7
   have HX7 := hI hx
   have HSZ7 := hI hg7.size
   obtain ⟨xx, hxx⟩ : ∃ z, z = x := ⟨_, rfl⟩
   rw [<- hxx] at hx
   obtain ⟨k1, n1, s1, m1, a1, o1⟩ := xx
   obtain ⟨A1, na1, ca1, O1, no1, co1, rfl, -, -⟩ := hx.open_
   have HXX := hI hxx
   clear hx hg7 hP7 KU X6 E6 G6 HL6 H6 hxx
   unfold exC
   unfold exC at HX7
   obtain ⟨w8, hw8⟩ : ∃ w8, w8 = w7.alloc (.cells #[.int .i64 k1, .int .i64 n1, .string (bs s1), .string (bs m1), .slice A1 na1 ca1, .slice O1 no1 co1] 27) := ⟨_, rfl⟩
   have hb8 : Below w7.heap.size w7 w8 := by rw [hw8]; exact (Below.refl _ _).alloc (Nat.le_refl _) _
   have hr8 : w8.heap[w7.heap.size]? = some (.cells #[.int .i64 k1, .int .i64 n1, .string (bs s1), .string (bs m1), .slice A1 na1 ca1, .slice O1 no1 co1] 27 (0, 0)) := by rw [hw8]; exact heap_alloc_new w7 _
   have HO8 := hI (XL.one (S := fun b => wd.heap.size <= b) ((HX7.out.below hb8).more fun b _ (hb : w6.heap.size <= b) => by have := HSZ6.out; omega) hr8 (by have := HSZ7.out; have := HSZ6.out; omega))
   have E8 := hI (E7.out.below hb8)
   have X8 := hI (X7.out.below hb8)
   have G8 := hI (gr_below G7.out hb8)
   have HL8 := hI (HL7.out.below hb8)
   have HP8 := hI (Res.is_imp HP7.out fun b r h => h.next hb8)
   have cE : w8.cell? ⟨eb, 5, none⟩ = some (.slice none 0 0) := by rw [cell_of_row _ _ _ _ _ _ E8.out]; rfl
   have fE : w8.frozen? ⟨eb, 5, none⟩ = false := by simp [World.frozen?, show w8.heap[eb]? = _ from E8.out]
   have E9 := hI (E8.out.set 5 (.slice (some ⟨w7.heap.size, 0, none⟩) 1 1))
   have g9 := gr_put w8 eb 5 (.slice (some ⟨w7.heap.size, 0, none⟩) 1 1)
   have X9 := hI (X8.out.gr g9 (by have := HE.out; omega))
   have G9 := hI (gr_step (B := 0) G8.out g9 (Nat.le_of_lt HE.out))
   have HL9 := hI (HL8.out.gr (S' := fun b => wd.heap.size <= b) g9 (fun b _ (hb : wd.heap.size <= b) => ⟨by have := HE4.out; omega, hb⟩))
   have HO9 := hI (HO8.out.gr (S' := fun b => wd.heap.size <= b) g9 (fun b _ (hb : wd.heap.size <= b) => ⟨by have := HE4.out; omega, hb⟩))
   have HP9 := hI (Res.is_imp HP8.out fun b r h => h.other TBs.out g9 (Nat.le_of_lt HE.out))
   rw [hw8] at cE fE
   clear hb8 hr8 X7 E7 G7 HL7 HP7 HX7 E8 X8 G8 HL8 HP8 HO8 g9
   go_wp2_with (with_reducible refine at_load_ (t := 27) ?_; refine Hid.out ?_)
   refine hI ?_
   rw [<- hw8]
   clear hw8 cE fE
   generalize w8.setCell ⟨eb, 5, none⟩ (.slice (some ⟨w7.heap.size, 0, none⟩) 1 1) = w9 at *
   refine xb_load rfl _ rfl eb rfl E9.out rfl ?_
   refine xb_put rfl _ _ rfl rfl w.heap.size rfl rfl (six_of ..) X9.out rfl ?_
   intro wz hxz hgz _
   have XZ := hI hxz
   have GZ := hI (gr_step (B := 0) G9.out hgz (Nat.le_refl _))
   have HLZ := hI (HL9.out.gr (S' := fun b => w.heap.size <= b) hgz (fun b _ (hb : wd.heap.size <= b) => ⟨by have := HE.out; have := HE4.out; omega, by have := HE.out; have := HE4.out; omega⟩))
   have HOZ := hI (HO9.out.gr (S' := fun b => w.heap.size <= b) hgz (fun b _ (hb : wd.heap.size <= b) => ⟨by have := HE.out; have := HE4.out; omega, by have := HE.out; have := HE4.out; omega⟩))
   have HPZ := hI (Res.is_imp HP9.out fun b r h => h.other TBs.out hgz (Nat.le_refl _))
   clear hxz hgz X9 G9 HL9 HO9 HP9
   go_wp2_with fail
   refine bodyPost_ret (xb_ret rfl _ _ w.heap.size _ rfl XZ.out rfl) rfl ?_
   refine ⟨Ex.mk 6 0 n0 s l [Ex.mk k1 n1 s1 m1 a1 o1], exC 6 0 n0 s B m k (some ⟨w7.heap.size, 0, none⟩) 1 1, rfl, XV.shut (by unfold InR; omega) HLZ.out (by rw [HXX.out]; exact HOZ.out), GZ.out, ?_⟩
   have hz := HPZ.out
   rw [<- HXX.out] at hz
   rw [EK.out]
   cases hq : PU r.tail with
   | bad r' => rw [hq] at hz; exact hz
   | ok y r' => rw [hq] at hz; obtain ⟨e, hz⟩ := hz; subst e; exact ⟨rfl, hz⟩
  have hel2 : isT tElse r = false := by simpa using hel
  have H6 := hI (show PSx L A n c g w6 false r from by
   have e : tkR false tElse r = r := if_neg (by unfold tk; rw [hel2]; exact fun h => by cases h)
   rw [<- e]; exact h6)
  have et : tk false [101, 108, 115, 101] r = false := by unfold tk; rw [show isT [101, 108, 115, 101] r = false from hel2]; rfl
  have ek : kEnd n0 s (.ok l r) PU = .ok (.mk 6 0 n0 s l []) r := if_neg hel
  rw [et]
  have EK := hI ek
  clear h6 hg6 X5 E5 G5 HL5 HPS et ek TAKE HU
  go_wp2_with (with_reducible refine at_load_ (t := 27) ?_; refine Hid.out ?_)
  refine hI ?_
  refine xb_load rfl _ rfl eb rfl E6.out rfl ?_
  refine xb_put rfl _ _ rfl rfl w.heap.size rfl rfl (six_of ..) X6.out rfl ?_
  intro w7 hx7 hg7 _
  have X7 := hI hx7
  have G7 := hI (gr_step (B := 0) G6.out hg7 (Nat.le_refl _))
  have HL7 := hI (HL6.out.gr (S' := fun b => w.heap.size <= b) hg7 (fun b _ (hb : wd.heap.size <= b) => ⟨by have := HE.out; have := HE4.out; omega, by have := HE.out; have := HE4.out; omega⟩))
  have H7 := hI (H6.out.other TBs.out hg7 (Nat.le_refl _))
  clear hx7 hg7 X6 G6 HL6 H6
  go_wp2_with fail
  refine bodyPost_ret (xb_ret rfl _ _ w.heap.size _ rfl X7.out rfl) rfl ?_
  refine ⟨Ex.mk 6 0 n0 s l [], exC 6 0 n0 s B m k none 0 0, rfl, XV.shut (by unfold InR; omega) HL7.out (XL.nil_ _ _), G7.out, ?_⟩
  rw [EK.out]
  exact ⟨rfl, H7.out⟩
open Go.RowKit
theorem tk_true {bad : Bool} {s : Str} {R : List Tk} (h : tk bad s R = true) : bad = false /\ isT s R = true /\ tkR bad s R = R.tail := by
 refine ⟨?_, ?_, if_pos h⟩
 ·unfold tk at h
  cases bad
  ·rfl
  cases h
 unfold tk at h
 simp only [Bool.and_eq_true] at h
 exact h.2
theorem tk_false {bad : Bool} {s : Str} {R : List Tk} (h : ¬ tk bad s R = true) : tk bad s R = false /\ tkR bad s R = R := ⟨by simpa using h, if_neg h⟩
theorem wd_false {bad : Bool} {k : Int} {R : List Tk} (h : wdB bad k R = false) : bad = false /\ kindT R = k /\ wdS bad k R = textT R /\ wdR bad k R = R.tail := by
 unfold wdB at h
 simp only [Bool.or_eq_false_iff, Bool.not_eq_false', beq_iff_eq] at h
 have : ¬ (bad = true ∨ kindT R ≠ k) := by rintro (e | e); rw [h.1] at e; cases e; exact e h.2
 exact ⟨h.1, h.2, if_neg this, if_neg this⟩
theorem wd_true {bad : Bool} {k : Int} {R : List Tk} (h : wdB bad k R = true) : wdS bad k R = [] /\ wdR bad k R = R := by
 have : bad = true ∨ kindT R ≠ k := by
  unfold wdB at h
  simp only [Bool.or_eq_true, Bool.not_eq_true', beq_eq_false_iff_ne] at h
  exact h
 exact ⟨if_pos this, if_pos this⟩
theorem num_rng {l : Str} (h : Lx.numE l = 0) : InR (numT l) := by
 unfold Lx.numE at h
 split at h
 ·split at h
  ·cases h
  split at h
  ·rename_i hm
   have e : numT l = (Lx.numV l : Int) := rfl
   rw [e]
   unfold InR
   omega
  cases h
 cases h
theorem PSx.rng {L : List Lx.Tok} {A : Option Addr} {n c g : Nat} {w : World} {bad : Bool} {R : List Tk} (h : PSx L A n c g w bad R) (hk : kindT R = 2) : InR (numT (textT R)) := by
 obtain ⟨i, hi⟩ := h
 obtain ⟨t, b, q, h1, h2, h3, h4, ⟨T, rfl⟩, _⟩ := hi.tok
 exact num_rng (hi.ok.num t h4 hk).1
/-- An expression behind it, in parentheses. -/
def pEnd (PE : Res Ex) : Res Ex := match PE with
 | .bad r => .bad r
 | .ok e r => if isT [41] r = true then .ok e r.tail else .bad r
theorem pEnd_is {PE : Res Ex} {x : Ex} {Q : Bool -> List Tk -> Prop} (h : PE.is x Q) : ∃ b r, Q b r /\ ∀ Q' : Bool -> List Tk -> Prop, Q' (b || !isT [41] r) (tkR b [41] r) -> (pEnd PE).is x Q' := by
 cases PE with
 | bad r => exact ⟨true, r, h, fun Q' q => q⟩
 | ok e r =>
  obtain ⟨rfl, h⟩ := h
  refine ⟨false, r, h, fun Q' q => ?_⟩
  unfold pEnd tkR tk at *
  cases hi : isT [41] r with
  | true => simp only [hi] at q ⊢; exact ⟨rfl, by simpa using q⟩
  | false => simp only [hi] at q ⊢; simpa [Res.is] using q
/-- What unary answers, out of its callees' answers. -/
def uEnd (bad : Bool) (R : List Tk) (PU PE PH PK : Res Ex) : Res Ex :=
 if tk bad tNot R = true then PU.map fun e => .mk 3 0 [] [] [e] []
 else if tk bad [45] R = true then PU.map fun e => .mk 4 0 [] [] [e] []
 else if tk bad tTrue R = true then .ok (.mk 1 1 [] [] [] []) R.tail
 else if tk bad tFalse R = true then .ok (.mk 1 0 [] [] [] []) R.tail
 else if tk bad [40] R = true then pEnd PE
 else if tk bad tHost R = true then PH
 else if wdB bad 2 R = false then .ok (.mk 0 (numT (textT R)) [] [] [] []) R.tail
 else if wdB bad 1 R = false then if isT [46] R.tail = true then PK else .ok (.mk 2 0 (textT R) [] [] []) R.tail
 else .bad R
theorem unary_gen (L : List Lx.Tok) (A : Option Addr) (n c g : Nat) (w : World) (bad : Bool) (R : List Tk) (h : PSx L A n c g w bad R) (PU PE PH PK : Res Ex)
  (hU : tk bad tNot R = true ∨ tk bad [45] R = true -> ∀ W, PSx L A n c g W false R.tail -> Calls Tryz.prog 135 #[.pointer (some ⟨g, 0, none⟩)] W (XP L A n c g W PU))
  (hE : tk bad [40] R = true -> ∀ W, PSx L A n c g W false R.tail -> Calls Tryz.prog 23 #[.pointer (some ⟨g, 0, none⟩)] W (XP L A n c g W PE))
  (hH : tk bad tHost R = true -> ∀ W, PSx L A n c g W false R.tail -> Calls Tryz.prog 116 #[.pointer (some ⟨g, 0, none⟩)] W (XP L A n c g W PH))
  (hK : wdB bad 1 R = false -> isT [46] R.tail = true -> ∀ W, PSx L A n c g W false R.tail -> Calls Tryz.prog 117 #[.pointer (some ⟨g, 0, none⟩), .string (bs (textT R))] W (XP L A n c g W PK)) :
  Calls Tryz.prog 135 #[.pointer (some ⟨g, 0, none⟩)] w (XP L A n c g w (uEnd bad R PU PE PH PK)) := by
 obtain ⟨PZ, hPZ⟩ : ∃ z, z = uEnd bad R PU PE PH PK := ⟨_, rfl⟩
 rw [<- hPZ]
 unfold uEnd at hPZ
 have HZ := hI hPZ
 have HU := hI hU
 have HE := hI hE
 have HH := hI hH
 have HK := hI hK
 obtain ⟨w0, hw0⟩ : ∃ w0, w0 = w.alloc (.cells #[.int .i64 0, .int .i64 0, .string { data := #[] }, .string { data := #[] }, .slice none 0 0, .slice none 0 0] 27) := ⟨_, rfl⟩
 have hb0 : Below w.heap.size w w0 := by rw [hw0]; exact (Below.refl _ _).alloc (Nat.le_refl _) _
 have X0 := hI (show XB w0 w.heap.size #[.int .i64 0, .int .i64 0, .string { data := #[] }, .string { data := #[] }, .slice none 0 0, .slice none 0 0] from by rw [hw0]; exact heap_alloc_new w _)
 have TBs := hI h.base
 have G0 := hI (Below.grown_ hb0 (some g))
 have H0 := hI (h.next hb0)
 have HGL := hI h.lt
 have HENDS := hI h.ends
 clear h hU hE hH hK hPZ hb0
 go_enter Tryz.func135, Tryz.ntmps135
 go_upto_region 1 with fail
 rw [<- hw0]
 clear hw0
 go_wp2_with fail
 refine (take_any L A n c g w0 bad R H0.out [110, 111, 116]).mono ?_
 rintro e w1 ⟨rfl, h2, hg⟩
 have X1 := hI (X0.out.gr hg (by have := HGL.out; omega))
 have G1 := hI (World.grownBy.trans G0.out hg)
 clear X0 G0 hg
 by_cases ht1 : tk bad [110, 111, 116] R = true
 ·obtain ⟨rfl, hi, htr⟩ := tk_true ht1
  rw [htr] at h2
  have H1 := hI h2
  rw [ht1]
  have hz := HZ.out
  rw [if_pos (show tk false tNot R = true from ht1)] at hz
  have HZ2 := hI hz
  have KU := hI (HU.out (.inl ht1) w1 H1.out)
  clear hz HZ h2 htr ht1 hi HU HE HH HK HENDS H0
  go_wp2_with fail
  refine KU.out.mono ?_
  rintro e wa ⟨x, cs, rfl, hx, hg, hP⟩
  obtain ⟨xx, hxx⟩ : ∃ z, z = x := ⟨_, rfl⟩
  rw [<- hxx] at hx
  obtain ⟨k1, n1, s1, m1, a1, o1⟩ := xx
  obtain ⟨A1, na1, ca1, O1, no1, co1, rfl, -, -⟩ := hx.open_
  have HXX := hI hxx
  have HX := hI hx
  have HP := hI hP
  have XA := hI (X1.out.gr hg (by have := HGL.out; omega))
  have GA := hI (World.grownBy.trans G1.out hg)
  have HSZ := hI hg.size
  have HS0 := hI X1.out.lt
  clear hx hg hP KU hxx X1 G1
  unfold exC
  unfold exC at HX
  obtain ⟨wb, hwb⟩ : ∃ wb, wb = wa.alloc (.cells #[.int .i64 k1, .int .i64 n1, .string (bs s1), .string (bs m1), .slice A1 na1 ca1, .slice O1 no1 co1] 27) := ⟨_, rfl⟩
  have hb8 : Below wa.heap.size wa wb := by rw [hwb]; exact (Below.refl _ _).alloc (Nat.le_refl _) _
  have hr8 : wb.heap[wa.heap.size]? = some (.cells #[.int .i64 k1, .int .i64 n1, .string (bs s1), .string (bs m1), .slice A1 na1 ca1, .slice O1 no1 co1] 27 (0, 0)) := by rw [hwb]; exact heap_alloc_new wa _
  have HO := hI (XL.one (S := fun b => w.heap.size < b) ((HX.out.below hb8).more fun b _ (hb : w1.heap.size <= b) => by have := HS0.out; omega) hr8 (by have := HSZ.out; have := HS0.out; omega))
  have XB8 := hI (XA.out.below hb8)
  have GB := hI (gr_below GA.out hb8)
  have HPB := hI (Res.is_imp HP.out fun b r h => h.next hb8)
  clear hb8 hr8 XA GA HP HX
  go_wp2_with (with_reducible refine at_store_ (t := 27) ?_; refine Hid.out ?_)
  refine hI ?_
  rw [<- hwb]
  clear hwb
  refine xb_put rfl _ _ rfl rfl w.heap.size rfl rfl (six_of ..) XB8.out rfl ?_
  intro wz hxz hgz _
  have XZ := hI hxz
  have GZ := hI (gr_step (B := 0) GB.out hgz (Nat.le_refl _))
  have HOZ := hI (HO.out.gr (S' := fun b => w.heap.size <= b) hgz (fun b _ (hb : w.heap.size < b) => ⟨by omega, by omega⟩))
  have HPZ := hI (Res.is_imp HPB.out fun b r h => h.other TBs.out hgz (Nat.le_refl _))
  clear hxz hgz XB8 GB HO HPB
  go_wp2_with fail
  refine bodyPost_ret (xb_ret rfl _ _ w.heap.size _ rfl XZ.out rfl) rfl ?_
  refine ⟨Ex.mk 3 0 [] [] [Ex.mk k1 n1 s1 m1 a1 o1] [], exC 3 0 [] [] (some ⟨wa.heap.size, 0, none⟩) 1 1 none 0 0, rfl, XV.shut (by unfold InR; omega) HOZ.out (XL.nil_ _ _), GZ.out, ?_⟩
  rw [HZ2.out, HXX.out]
  exact Res.is_map (fun e => Ex.mk 3 0 [] [] [e] []) HPZ.out
 have HN1 := hI (show ¬ tk bad tNot R = true from ht1)
 obtain ⟨hf, htr⟩ := tk_false ht1
 rw [htr] at h2
 have H1 := hI h2
 rw [hf]
 clear h2 htr ht1 hf H0
 go_wp2_with fail
 refine (take_any L A n c g w1 bad R H1.out [45]).mono ?_
 rintro e w2 ⟨rfl, h2, hg⟩
 have X2 := hI (X1.out.gr hg (by have := HGL.out; omega))
 have G2 := hI (World.grownBy.trans G1.out hg)
 clear X1 G1 hg
 by_cases ht2 : tk bad [45] R = true
 ·obtain ⟨rfl, hi, htr⟩ := tk_true ht2
  rw [htr] at h2
  have H2 := hI h2
  rw [ht2]
  have hz := HZ.out
  rw [if_neg HN1.out] at hz
  rw [if_pos (show tk false [45] R = true from ht2)] at hz
  have HZ2 := hI hz
  have KU := hI (HU.out (.inr ht2) w2 H2.out)
  clear hz HZ h2 htr ht2 hi HU HE HH HK HENDS H1
  go_wp2_with fail
  refine KU.out.mono ?_
  rintro e wa ⟨x, cs, rfl, hx, hg, hP⟩
  obtain ⟨xx, hxx⟩ : ∃ z, z = x := ⟨_, rfl⟩
  rw [<- hxx] at hx
  obtain ⟨k1, n1, s1, m1, a1, o1⟩ := xx
  obtain ⟨A1, na1, ca1, O1, no1, co1, rfl, -, -⟩ := hx.open_
  have HXX := hI hxx
  have HX := hI hx
  have HP := hI hP
  have XA := hI (X2.out.gr hg (by have := HGL.out; omega))
  have GA := hI (World.grownBy.trans G2.out hg)
  have HSZ := hI hg.size
  have HS0 := hI X2.out.lt
  clear hx hg hP KU hxx X2 G2
  unfold exC
  unfold exC at HX
  obtain ⟨wb, hwb⟩ : ∃ wb, wb = wa.alloc (.cells #[.int .i64 k1, .int .i64 n1, .string (bs s1), .string (bs m1), .slice A1 na1 ca1, .slice O1 no1 co1] 27) := ⟨_, rfl⟩
  have hb8 : Below wa.heap.size wa wb := by rw [hwb]; exact (Below.refl _ _).alloc (Nat.le_refl _) _
  have hr8 : wb.heap[wa.heap.size]? = some (.cells #[.int .i64 k1, .int .i64 n1, .string (bs s1), .string (bs m1), .slice A1 na1 ca1, .slice O1 no1 co1] 27 (0, 0)) := by rw [hwb]; exact heap_alloc_new wa _
  have HO := hI (XL.one (S := fun b => w.heap.size < b) ((HX.out.below hb8).more fun b _ (hb : w2.heap.size <= b) => by have := HS0.out; omega) hr8 (by have := HSZ.out; have := HS0.out; omega))
  have XB8 := hI (XA.out.below hb8)
  have GB := hI (gr_below GA.out hb8)
  have HPB := hI (Res.is_imp HP.out fun b r h => h.next hb8)
  clear hb8 hr8 XA GA HP HX
  go_wp2_with (with_reducible refine at_store_ (t := 27) ?_; refine Hid.out ?_)
  refine hI ?_
  rw [<- hwb]
  clear hwb
  refine xb_put rfl _ _ rfl rfl w.heap.size rfl rfl (six_of ..) XB8.out rfl ?_
  intro wz hxz hgz _
  have XZ := hI hxz
  have GZ := hI (gr_step (B := 0) GB.out hgz (Nat.le_refl _))
  have HOZ := hI (HO.out.gr (S' := fun b => w.heap.size <= b) hgz (fun b _ (hb : w.heap.size < b) => ⟨by omega, by omega⟩))
  have HPZ := hI (Res.is_imp HPB.out fun b r h => h.other TBs.out hgz (Nat.le_refl _))
  clear hxz hgz XB8 GB HO HPB
  go_wp2_with fail
  refine bodyPost_ret (xb_ret rfl _ _ w.heap.size _ rfl XZ.out rfl) rfl ?_
  refine ⟨Ex.mk 4 0 [] [] [Ex.mk k1 n1 s1 m1 a1 o1] [], exC 4 0 [] [] (some ⟨wa.heap.size, 0, none⟩) 1 1 none 0 0, rfl, XV.shut (by unfold InR; omega) HOZ.out (XL.nil_ _ _), GZ.out, ?_⟩
  rw [HZ2.out, HXX.out]
  exact Res.is_map (fun e => Ex.mk 4 0 [] [] [e] []) HPZ.out
 have HN2 := hI (show ¬ tk bad [45] R = true from ht2)
 obtain ⟨hf, htr⟩ := tk_false ht2
 rw [htr] at h2
 have H2 := hI h2
 rw [hf]
 clear h2 htr ht2 hf H1
 go_wp2_with fail
 refine (take_any L A n c g w2 bad R H2.out [116, 114, 117, 101]).mono ?_
 rintro e w3 ⟨rfl, h2, hg⟩
 have X3 := hI (X2.out.gr hg (by have := HGL.out; omega))
 have G3 := hI (World.grownBy.trans G2.out hg)
 clear X2 G2 hg
 by_cases ht3 : tk bad [116, 114, 117, 101] R = true
 ·obtain ⟨rfl, hi, htr⟩ := tk_true ht3
  rw [htr] at h2
  have H3 := hI h2
  rw [ht3]
  have hz := HZ.out
  rw [if_neg HN1.out] at hz
  rw [if_neg HN2.out] at hz
  rw [if_pos (show tk false tTrue R = true from ht3)] at hz
  have HZ2 := hI hz
  clear hz HZ h2 htr ht3 hi HU HE HH HK HENDS H2
  go_wp2_with (with_reducible refine at_store_ (t := 27) ?_; refine Hid.out ?_)
  refine hI ?_
  refine xb_put rfl _ _ rfl rfl w.heap.size rfl rfl (six_of ..) X3.out rfl ?_
  intro wz hxz hgz _
  have XZ := hI hxz
  have GZ := hI (gr_step (B := 0) G3.out hgz (Nat.le_refl _))
  have HPZ := hI (H3.out.other TBs.out hgz (Nat.le_refl _))
  clear hxz hgz X3 G3 H3
  go_wp2_with fail
  refine bodyPost_ret (xb_ret rfl _ _ w.heap.size _ rfl XZ.out rfl) rfl ?_
  refine ⟨Ex.mk 1 1 [] [] [] [], exC 1 1 [] [] none 0 0 none 0 0, rfl, XV.shut (by unfold InR; omega) (XL.nil_ _ _) (XL.nil_ _ _), GZ.out, ?_⟩
  rw [HZ2.out]
  exact ⟨rfl, HPZ.out⟩
 have HN3 := hI (show ¬ tk bad tTrue R = true from ht3)
 obtain ⟨hf, htr⟩ := tk_false ht3
 rw [htr] at h2
 have H3 := hI h2
 rw [hf]
 clear h2 htr ht3 hf H2
 go_wp2_with fail
 refine (take_any L A n c g w3 bad R H3.out [102, 97, 108, 115, 101]).mono ?_
 rintro e w4 ⟨rfl, h2, hg⟩
 have X4 := hI (X3.out.gr hg (by have := HGL.out; omega))
 have G4 := hI (World.grownBy.trans G3.out hg)
 clear X3 G3 hg
 by_cases ht4 : tk bad [102, 97, 108, 115, 101] R = true
 ·obtain ⟨rfl, hi, htr⟩ := tk_true ht4
  rw [htr] at h2
  have H4 := hI h2
  rw [ht4]
  have hz := HZ.out
  rw [if_neg HN1.out] at hz
  rw [if_neg HN2.out] at hz
  rw [if_neg HN3.out] at hz
  rw [if_pos (show tk false tFalse R = true from ht4)] at hz
  have HZ2 := hI hz
  clear hz HZ h2 htr ht4 hi HU HE HH HK HENDS H3
  go_wp2_with (with_reducible refine at_store_ (t := 27) ?_; refine Hid.out ?_)
  refine hI ?_
  refine xb_put rfl _ _ rfl rfl w.heap.size rfl rfl (six_of ..) X4.out rfl ?_
  intro wz hxz hgz _
  have XZ := hI hxz
  have GZ := hI (gr_step (B := 0) G4.out hgz (Nat.le_refl _))
  have HPZ := hI (H4.out.other TBs.out hgz (Nat.le_refl _))
  clear hxz hgz X4 G4 H4
  go_wp2_with fail
  refine bodyPost_ret (xb_ret rfl _ _ w.heap.size _ rfl XZ.out rfl) rfl ?_
  refine ⟨Ex.mk 1 0 [] [] [] [], exC 1 0 [] [] none 0 0 none 0 0, rfl, XV.shut (by unfold InR; omega) (XL.nil_ _ _) (XL.nil_ _ _), GZ.out, ?_⟩
  rw [HZ2.out]
  exact ⟨rfl, HPZ.out⟩
 have HN4 := hI (show ¬ tk bad tFalse R = true from ht4)
 obtain ⟨hf, htr⟩ := tk_false ht4
 rw [htr] at h2
 have H4 := hI h2
 rw [hf]
 clear h2 htr ht4 hf H3
 go_wp2_with fail
 refine (take_any L A n c g w4 bad R H4.out [40]).mono ?_
 rintro e w5 ⟨rfl, h2, hg⟩
 have X5 := hI (X4.out.gr hg (by have := HGL.out; omega))
 have G5 := hI (World.grownBy.trans G4.out hg)
 clear X4 G4 hg
 by_cases ht5 : tk bad [40] R = true
 ·obtain ⟨rfl, hi, htr⟩ := tk_true ht5
  rw [htr] at h2
  have H5 := hI h2
  rw [ht5]
  have hz := HZ.out
  rw [if_neg HN1.out] at hz
  rw [if_neg HN2.out] at hz
  rw [if_neg HN3.out] at hz
  rw [if_neg HN4.out] at hz
  rw [if_pos (show tk false [40] R = true from ht5)] at hz
  have HZ2 := hI hz
  have KU := hI (HE.out ht5 w5 H5.out)
  clear hz HZ h2 htr ht5 hi HU HE HH HK HENDS H4
  go_wp2_with fail
  refine KU.out.mono ?_
  rintro e wa ⟨x, cs, rfl, hx, hg, hP⟩
  obtain ⟨b1, r1, hps, hpz⟩ := pEnd_is hP
  have HPZ := hI hpz
  have HS0 := hI X5.out.lt
  obtain ⟨wb, hwb⟩ : ∃ wb, wb = wa.alloc (.cells #[.int .i64 0, .int .i64 0, .string { data := #[] }, .string { data := #[] }, .slice none 0 0, .slice none 0 0] 27) := ⟨_, rfl⟩
  have hb8 : Below wa.heap.size wa wb := by rw [hwb]; exact (Below.refl _ _).alloc (Nat.le_refl _) _
  have E8 := hI (show XB wb wa.heap.size #[.int .i64 0, .int .i64 0, .string { data := #[] }, .string { data := #[] }, .slice none 0 0, .slice none 0 0] from by rw [hwb]; exact heap_alloc_new wa _)
  have X8 := hI ((X5.out.gr hg (by have := HGL.out; omega)).below hb8)
  have G8 := hI (gr_below (World.grownBy.trans G5.out hg) hb8)
  have HX8 := hI ((hx.more (S' := fun b => w.heap.size < b /\ b ≠ wa.heap.size) fun b hlt (hb : w5.heap.size <= b) => ⟨by have := HS0.out; omega, by omega⟩).below hb8)
  have H8 := hI (hps.next hb8)
  have HSZ := hI hg.size
  have HXA := hI hx
  clear hx hg hP KU X5 G5 hps hpz
  go_wp2_with (with_reducible refine at_store_ (t := 27) ?_; refine Hid.out ?_)
  refine hI ?_
  rw [<- hwb]
  have HWB := hI (show wb.heap.size = wa.heap.size + 1 from by rw [hwb]; exact World.size_alloc ..)
  clear hwb
  have H6S := hI HXA.out.six
  clear HXA hb8
  generalize heb : wa.heap.size = eb at *
  have HEB := hI heb
  clear heb
  refine xb_put rfl _ _ rfl rfl eb rfl rfl H6S.out E8.out rfl ?_
  intro wc hxc hgc hsc
  clear hsc
  have EC := hI hxc
  have XC := hI (X8.out.gr hgc (by have := HS0.out; have := HSZ.out; omega))
  have GC := hI (gr_step (B := 0) G8.out hgc (by have := HS0.out; have := HSZ.out; omega))
  have HXC := hI (HX8.out.gr (S' := fun b => w.heap.size < b /\ b ≠ eb) hgc (fun b _ hb => ⟨hb.2, hb⟩))
  have HC := H8.out.other TBs.out hgc (by have := HS0.out; have := HSZ.out; omega)
  have hb9 := (Below.refl wc.heap.size wc).alloc (Nat.le_refl _) (.cells #[.string { data := #[41] }] 9)
  have KN := hI (need_any L A n c g _ b1 r1 (HC.next hb9) [41] wc.heap.size (by simp) (by have := HC.lt; omega) (by rw [cell_of_row _ _ _ _ _ _ (heap_alloc_new wc _)]; rfl))
  have E9 := hI (EC.out.below hb9)
  have X9 := hI (XC.out.below hb9)
  have G9 := hI (gr_below GC.out hb9)
  have HX9 := hI (HXC.out.below hb9)
  clear hxc hgc X8 G8 H8 E8 HX8 EC XC GC HXC HC hb9
  go_wp2_with fail
  refine KN.out.mono ?_
  rintro e wd ⟨rfl, h3, hg⟩
  have H3 := hI h3
  have ED := hI (E9.out.gr hg (by have := HSZ.out; have := HS0.out; have := HGL.out; omega))
  have XD := hI (X9.out.gr hg (by have := HGL.out; omega))
  have GD := hI (World.grownBy.trans G9.out hg)
  have HXD := hI (HX9.out.gr (S' := fun b => w.heap.size < b) hg (fun b _ hb => ⟨by have := hb.1; have := HGL.out; omega, hb.1⟩))
  clear h3 hg KN E9 X9 G9 HX9
  go_wp2_with (with_reducible refine at_load_ (t := 27) ?_; refine Hid.out ?_)
  refine hI ?_
  refine xb_load rfl _ rfl eb rfl ED.out H6S.out.1 ?_
  refine xb_put rfl _ _ rfl rfl w.heap.size rfl rfl HXD.out.six XD.out rfl ?_
  intro wz hxz hgz _
  have XZ := hI hxz
  have GZ := hI (gr_step (B := 0) GD.out hgz (Nat.le_refl _))
  have HXZ := hI (HXD.out.gr (S' := fun b => w.heap.size <= b) hgz (fun b _ (hb : w.heap.size < b) => ⟨by omega, by omega⟩))
  have HPS := hI (H3.out.other TBs.out hgz (Nat.le_refl _))
  clear hxz hgz XD GD HXD H3
  go_wp2_with fail
  refine bodyPost_ret (xb_ret rfl _ _ w.heap.size _ rfl XZ.out (by first | rfl | exact HXZ.out.six.1)) rfl ?_
  refine ⟨_, _, rfl, HXZ.out, GZ.out, ?_⟩
  rw [HZ2.out]
  exact HPZ.out _ HPS.out
 have HN5 := hI (show ¬ tk bad [40] R = true from ht5)
 obtain ⟨hf, htr⟩ := tk_false ht5
 rw [htr] at h2
 have H5 := hI h2
 rw [hf]
 clear h2 htr ht5 hf H4
 go_wp2_with fail
 refine (take_any L A n c g w5 bad R H5.out [104, 111, 115, 116]).mono ?_
 rintro e w6 ⟨rfl, h2, hg⟩
 have X6 := hI (X5.out.gr hg (by have := HGL.out; omega))
 have G6 := hI (World.grownBy.trans G5.out hg)
 clear X5 G5 hg
 by_cases ht6 : tk bad [104, 111, 115, 116] R = true
 ·obtain ⟨rfl, hi, htr⟩ := tk_true ht6
  rw [htr] at h2
  have H6 := hI h2
  rw [ht6]
  have hz := HZ.out
  rw [if_neg HN1.out] at hz
  rw [if_neg HN2.out] at hz
  rw [if_neg HN3.out] at hz
  rw [if_neg HN4.out] at hz
  rw [if_neg HN5.out] at hz
  rw [if_pos (show tk false tHost R = true from ht6)] at hz
  have HZ2 := hI hz
  have KU := hI (HH.out ht6 w6 H6.out)
  clear hz HZ h2 htr ht6 hi HU HE HH HK HENDS H5
  go_wp2_with fail
  refine KU.out.mono ?_
  rintro e wa ⟨x, cs, rfl, hx, hg, hP⟩
  have HP := hI hP
  have HX := hI (hx.more (S' := fun b => w.heap.size < b) fun b _ (hb : w6.heap.size <= b) => by have := X6.out.lt; omega)
  have XA := hI (X6.out.gr hg (by have := HGL.out; omega))
  have GA := hI (World.grownBy.trans G6.out hg)
  clear hx hg hP KU X6 G6
  go_wp2_with (with_reducible refine at_store_ (t := 27) ?_; refine Hid.out ?_)
  refine hI ?_
  refine xb_put rfl _ _ rfl rfl w.heap.size rfl rfl HX.out.six XA.out rfl ?_
  intro wz hxz hgz _
  have XZ := hI hxz
  have GZ := hI (gr_step (B := 0) GA.out hgz (Nat.le_refl _))
  have HXZ := hI (HX.out.gr (S' := fun b => w.heap.size <= b) hgz (fun b _ (hb : w.heap.size < b) => ⟨by omega, by omega⟩))
  have HPZ := hI (Res.is_imp HP.out fun b r h => h.other TBs.out hgz (Nat.le_refl _))
  clear hxz hgz XA GA HP HX
  go_wp2_with fail
  refine bodyPost_ret (xb_ret rfl _ _ w.heap.size _ rfl XZ.out (by first | rfl | exact HXZ.out.six.1)) rfl ?_
  refine ⟨_, _, rfl, HXZ.out, GZ.out, ?_⟩
  rw [HZ2.out]
  exact HPZ.out
 have HN6 := hI (show ¬ tk bad tHost R = true from ht6)
 obtain ⟨hf, htr⟩ := tk_false ht6
 rw [htr] at h2
 have H6 := hI h2
 rw [hf]
 clear h2 htr ht6 hf H5
 have hz := HZ.out
 rw [if_neg HN1.out] at hz
 rw [if_neg HN2.out] at hz
 rw [if_neg HN3.out] at hz
 rw [if_neg HN4.out] at hz
 rw [if_neg HN5.out] at hz
 rw [if_neg HN6.out] at hz
 have HZ0 := hI hz
 obtain ⟨i6, hi6⟩ := H6.out
 obtain ⟨c0, c1, c2⟩ := hi6.cells
 clear hz HZ hi6 HN1 HN2 HN3 HN4 HN5 HN6
 cases bad with
 | true =>
  have hz := HZ0.out
  rw [if_neg (show ¬ wdB true 2 R = false from fun h => by cases h)] at hz
  have HZ3 := hI hz
  clear hz HZ0
  have hwd : wdB true 1 R = true := rfl
  have kn := name_any L A n c g w6 true R H6.out
  obtain ⟨es, er⟩ := wd_true hwd
  rw [es, er, hwd] at kn
  have KN := hI kn
  clear kn
  go_wp2_with fail
  refine KN.out.mono ?_
  rintro e wp ⟨rfl, hps, hg⟩
  have HP1 := hI hps
  have XP1 := hI (X6.out.gr hg (by have := HGL.out; omega))
  have GP1 := hI (World.grownBy.trans G6.out hg)
  clear hps hg KN X6 G6 H6
  go_wp2_with fail
  refine (is_any L A n c g wp true R HP1.out [46]).mono ?_
  rintro e wq ⟨rfl, hb⟩
  have HP2 := hI (HP1.out.next hb)
  have XP2 := hI (XP1.out.below hb)
  have GP2 := hI (gr_below GP1.out hb)
  clear hb XP1 GP1 HP1
  rw [show tk true [46] R = false from rfl]
  have hz := HZ3.out
  rw [if_neg (by rw [hwd]; exact fun h => by cases h)] at hz
  have HZ2 := hI hz
  clear hz HZ3 es er hwd HU HE HH HK HENDS
  go_wp2_with (with_reducible refine at_store_ (t := 27) ?_; refine Hid.out ?_)
  refine hI ?_
  refine xb_put rfl _ _ rfl rfl w.heap.size rfl rfl (six_of ..) XP2.out rfl ?_
  intro wz hxz hgz _
  have XZ := hI hxz
  have GZ := hI (gr_step (B := 0) GP2.out hgz (Nat.le_refl _))
  have HPZ := hI (HP2.out.other TBs.out hgz (Nat.le_refl _))
  clear hxz hgz XP2 GP2 HP2
  go_wp2_with fail
  refine bodyPost_ret (xb_ret rfl _ _ w.heap.size _ rfl XZ.out rfl) rfl ?_
  refine ⟨Ex.mk 2 0 [] [] [] [], exC 2 0 [] [] none 0 0 none 0 0, rfl, XV.shut (by unfold InR; omega) (XL.nil_ _ _) (XL.nil_ _ _), GZ.out, ?_⟩
  rw [HZ2.out]
  exact HPZ.out
 | false =>
  go_wp2_with fail
  refine (now_any L A n c g w6 false R H6.out).mono ?_
  rintro e w7 ⟨rfl, hb⟩
  have H7 := hI (H6.out.next hb)
  have X7 := hI (X6.out.below hb)
  have G7 := hI (gr_below G6.out hb)
  clear hb H6 X6 G6 c0 c1 c2
  cases hwd2 : wdB false 2 R with
  | false =>
   obtain ⟨-, hk2, -, er⟩ := wd_false hwd2
   have kn := number_any L A n c g w7 false R H7.out
   rw [er, hwd2, show nbV false R = numT (textT R) from if_neg (by rintro (e | e); cases e; exact e hk2)] at kn
   have KN := hI kn
   have HRN := hI (H7.out.rng hk2)
   have hz := HZ0.out
   rw [if_pos (show wdB false 2 R = false from hwd2)] at hz
   have HZ2 := hI hz
   clear hz HZ0 kn er hwd2 HU HE HH HK HENDS
   rw [hk2]
   clear hk2
   go_wp2_with fail
   refine KN.out.mono ?_
   rintro e wp ⟨rfl, hps, hg⟩
   have HP1 := hI hps
   have XP1 := hI (X7.out.gr hg (by have := HGL.out; omega))
   have GP1 := hI (World.grownBy.trans G7.out hg)
   clear hps hg KN X7 G7 H7
   go_wp2_with (with_reducible refine at_store_ (t := 27) ?_; refine Hid.out ?_)
   refine hI ?_
   refine xb_put rfl _ _ rfl rfl w.heap.size rfl rfl (six_of ..) XP1.out rfl ?_
   intro wz hxz hgz _
   have XZ := hI hxz
   have GZ := hI (gr_step (B := 0) GP1.out hgz (Nat.le_refl _))
   have HPZ := hI (HP1.out.other TBs.out hgz (Nat.le_refl _))
   clear hxz hgz XP1 GP1 HP1
   go_wp2_with fail
   refine bodyPost_ret (xb_ret rfl _ _ w.heap.size _ rfl XZ.out rfl) rfl ?_
   refine ⟨Ex.mk 0 (numT (textT R)) [] [] [] [], exC 0 (numT (textT R)) [] [] none 0 0 none 0 0, rfl, XV.shut HRN.out (XL.nil_ _ _) (XL.nil_ _ _), GZ.out, ?_⟩
   rw [HZ2.out]
   exact ⟨rfl, HPZ.out⟩
  | true =>
   have hk2 : kindT R ≠ 2 := by
    unfold wdB at hwd2
    simpa using hwd2
   have hkb : (kindT R == 2) = false := by simpa using hk2
   have hz := HZ0.out
   rw [if_neg (by rw [hwd2]; exact fun h => by cases h)] at hz
   have HZ3 := hI hz
   clear hz HZ0 hwd2
   have kn := name_any L A n c g w7 false R H7.out
   cases hwd : wdB false 1 R with
   | false =>
    obtain ⟨-, hk1, es, er⟩ := wd_false hwd
    rw [es, er, hwd] at kn
    have KN := hI kn
    clear kn
    go_wp2_with fail
    refine KN.out.mono ?_
    rintro e wp ⟨rfl, hps, hg⟩
    have HP1 := hI hps
    have XP1 := hI (X7.out.gr hg (by have := HGL.out; omega))
    have GP1 := hI (World.grownBy.trans G7.out hg)
    clear hps hg KN X7 G7 H7
    go_wp2_with fail
    refine (is_any L A n c g wp false R.tail HP1.out [46]).mono ?_
    rintro e wq ⟨rfl, hb⟩
    have HP2 := hI (HP1.out.next hb)
    have XP2 := hI (XP1.out.below hb)
    have GP2 := hI (gr_below GP1.out hb)
    clear hb XP1 GP1 HP1
    cases hd : isT [46] R.tail with
    | true =>
     rw [show tk false [46] R.tail = true from by unfold tk; rw [hd]; rfl]
     have hz := HZ3.out
     rw [if_pos (show wdB false 1 R = false from hwd), if_pos hd] at hz
     have HZ2 := hI hz
     have KU := hI (HK.out hwd hd wq HP2.out)
     clear hz HZ3 hd hk1 es er hwd HU HE HH HK HENDS
     go_wp2_with fail
     refine KU.out.mono ?_
     rintro e wa ⟨x, cs, rfl, hx, hg, hP⟩
     have HP := hI hP
     have HX := hI (hx.more (S' := fun b => w.heap.size < b) fun b _ (hb : wq.heap.size <= b) => by have := XP2.out.lt; omega)
     have XA := hI (XP2.out.gr hg (by have := HGL.out; omega))
     have GA := hI (World.grownBy.trans GP2.out hg)
     clear hx hg hP KU XP2 GP2
     go_wp2_with (with_reducible refine at_store_ (t := 27) ?_; refine Hid.out ?_)
     refine hI ?_
     refine xb_put rfl _ _ rfl rfl w.heap.size rfl rfl HX.out.six XA.out rfl ?_
     intro wz hxz hgz _
     have XZ := hI hxz
     have GZ := hI (gr_step (B := 0) GA.out hgz (Nat.le_refl _))
     have HXZ := hI (HX.out.gr (S' := fun b => w.heap.size <= b) hgz (fun b _ (hb : w.heap.size < b) => ⟨by omega, by omega⟩))
     have HPZ := hI (Res.is_imp HP.out fun b r h => h.other TBs.out hgz (Nat.le_refl _))
     clear hxz hgz XA GA HP HX
     go_wp2_with fail
     refine bodyPost_ret (xb_ret rfl _ _ w.heap.size _ rfl XZ.out (by first | rfl | exact HXZ.out.six.1)) rfl ?_
     refine ⟨_, _, rfl, HXZ.out, GZ.out, ?_⟩
     rw [HZ2.out]
     exact HPZ.out
    | false =>
     rw [show tk false [46] R.tail = false from by unfold tk; rw [hd]; rfl]
     have hz := HZ3.out
     rw [if_pos (show wdB false 1 R = false from hwd), if_neg (by rw [hd]; exact fun h => by cases h)] at hz
     have HZ2 := hI hz
     clear hz HZ3 hd hk1 es er hwd HU HE HH HK HENDS
     go_wp2_with (with_reducible refine at_store_ (t := 27) ?_; refine Hid.out ?_)
     refine hI ?_
     refine xb_put rfl _ _ rfl rfl w.heap.size rfl rfl (six_of ..) XP2.out rfl ?_
     intro wz hxz hgz _
     have XZ := hI hxz
     have GZ := hI (gr_step (B := 0) GP2.out hgz (Nat.le_refl _))
     have HPZ := hI (HP2.out.other TBs.out hgz (Nat.le_refl _))
     clear hxz hgz XP2 GP2 HP2
     go_wp2_with fail
     refine bodyPost_ret (xb_ret rfl _ _ w.heap.size _ rfl XZ.out rfl) rfl ?_
     refine ⟨Ex.mk 2 0 (textT R) [] [] [], exC 2 0 (textT R) [] none 0 0 none 0 0, rfl, XV.shut (by unfold InR; omega) (XL.nil_ _ _) (XL.nil_ _ _), GZ.out, ?_⟩
     rw [HZ2.out]
     exact ⟨rfl, HPZ.out⟩
   | true =>
    obtain ⟨es, er⟩ := wd_true hwd
    rw [es, er, hwd] at kn
    have KN := hI kn
    clear kn
    go_wp2_with fail
    refine KN.out.mono ?_
    rintro e wp ⟨rfl, hps, hg⟩
    have HP1 := hI hps
    have XP1 := hI (X7.out.gr hg (by have := HGL.out; omega))
    have GP1 := hI (World.grownBy.trans G7.out hg)
    clear hps hg KN X7 G7 H7
    go_wp2_with fail
    refine (is_any L A n c g wp true R HP1.out [46]).mono ?_
    rintro e wq ⟨rfl, hb⟩
    have HP2 := hI (HP1.out.next hb)
    have XP2 := hI (XP1.out.below hb)
    have GP2 := hI (gr_below GP1.out hb)
    clear hb XP1 GP1 HP1
    rw [show tk true [46] R = false from rfl]
    have hz := HZ3.out
    rw [if_neg (by rw [hwd]; exact fun h => by cases h)] at hz
    have HZ2 := hI hz
    clear hz HZ3 es er hwd HU HE HH HK HENDS
    go_wp2_with (with_reducible refine at_store_ (t := 27) ?_; refine Hid.out ?_)
    refine hI ?_
    refine xb_put rfl _ _ rfl rfl w.heap.size rfl rfl (six_of ..) XP2.out rfl ?_
    intro wz hxz hgz _
    have XZ := hI hxz
    have GZ := hI (gr_step (B := 0) GP2.out hgz (Nat.le_refl _))
    have HPZ := hI (HP2.out.other TBs.out hgz (Nat.le_refl _))
    clear hxz hgz XP2 GP2 HP2
    go_wp2_with fail
    refine bodyPost_ret (xb_ret rfl _ _ w.heap.size _ rfl XZ.out rfl) rfl ?_
    refine ⟨Ex.mk 2 0 [] [] [] [], exC 2 0 [] [] none 0 0 none 0 0, rfl, XV.shut (by unfold InR; omega) (XL.nil_ _ _) (XL.nil_ _ _), GZ.out, ?_⟩
    rw [HZ2.out]
    exact HPZ.out
open Go.RowKit
theorem opAt_false {lv : Nat} {R : List Tk} (h : ∀ s ∈ sgnsAt lv, isT s R = false) : opAt lv R = false := by
 cases R with
 | nil => rfl
 | cons t r =>
  show ((t.1 == 3 || t.1 == 4) && (sgnsAt lv).contains t.2) = false
  cases hk : (t.1 == 3 || t.1 == 4) with
  | false => rfl
  | true =>
   cases hc : (sgnsAt lv).contains t.2 with
   | false => rfl
   | true =>
    have : ((t.1 == 3 || t.1 == 4) && t.2 == t.2) = false := h t.2 (by simpa using hc)
    rw [hk] at this
    simp at this
theorem opAt_true {lv : Nat} {R : List Tk} {s : Str} (hs : s ∈ sgnsAt lv) (h : isT s R = true) : opAt lv R = true /\ textT R = s := by
 cases R with
 | nil => cases h
 | cons t r =>
  have h : ((t.1 == 3 || t.1 == 4) && t.2 == s) = true := h
  rw [Bool.and_eq_true] at h
  have h2 : t.2 = s := by simpa using h.2
  refine ⟨?_, h2⟩
  show ((t.1 == 3 || t.1 == 4) && (sgnsAt lv).contains t.2) = true
  rw [h.1, h2]
  simpa using hs
theorem sgns_len (lv : Nat) : (sgnsAt lv).length <= 6 := by
 match lv with
 | 0 => decide
 | 1 => decide
 | 2 => decide
 | 3 => decide
 | 4 => decide
 | n + 5 => exact Nat.zero_le _
theorem XL.two {w : World} {S : Nat -> Prop} {e1 e2 : Ex} {c1 c2 : List Value} {b : Nat} {t : TypeId} {fr : Nat × Nat} (h1 : XV w S e1 c1) (h2 : XV w S e2 c2) (hb : w.heap[b]? = some (.cells (c1 ++ c2).toArray t fr)) (hS : S b) : XL w S (some ⟨b, 0, none⟩) 2 2 [e1, e2] := by
 have hl := h1.len
 refine ⟨⟨rfl, Nat.le_refl _, fun h => by cases h⟩, fun _ => ⟨b, 0, rfl, lt_of_block hb, hS, ?_⟩⟩
 rw [XLf]
 refine ⟨⟨c1, h1, fun j v hv => ?_⟩, ?_⟩
 ·rw [Nat.zero_mul, Nat.zero_add]
  try rw [Nat.zero_add]
  rw [cell_of_row _ _ _ _ _ _ hb, <- hv, List.getElem?_toArray, List.getElem?_append_left]
  exact (List.getElem?_eq_some_iff.1 hv).1
 rw [XLf]
 refine ⟨⟨c2, h2, fun j v hv => ?_⟩, by rw [XLf]; trivial⟩
 rw [cell_of_row _ _ _ _ _ _ hb, <- hv, List.getElem?_toArray, List.getElem?_append_right (by omega)]
 congr 1
 omega
theorem Res.is_ex {α : Type} {P : Res α} {x : α} {Q : Bool -> List Tk -> Prop} (h : P.is x Q) : ∃ b r, Q b r /\ r = P.rest /\ (b = true -> P = .bad r) /\ (b = false -> P = .ok x r) := by
 cases P with
 | ok a r => exact ⟨false, r, h.2, rfl, (by intro e; cases e), fun _ => by rw [h.1]⟩
 | bad r => exact ⟨true, r, h, rfl, (fun _ => rfl), (by intro e; cases e)⟩
/-- Where the parser stands. -/
def idxOf (g : Nat) (w : World) : Nat := match w.cell? ⟨g, 1, none⟩ with
 | some (.int _ i) => i.toNat
 | _ => 0
theorem PSx.idx {L : List Lx.Tok} {A : Option Addr} {n c g : Nat} {w : World} {bad : Bool} {R : List Tk} (h : PSx L A n c g w bad R) : L.length - idxOf g w = R.length := by
 obtain ⟨i, hi⟩ := h
 unfold idxOf
 rw [hi.cells.2.1, <- hi.at_, List.length_drop, List.length_map]
 rfl
/-- The state of left's loops: the expression a so far in the box eb. -/
structure LS (L : List Lx.Tok) (A : Option Addr) (n c g : Nat) (w : World) (eb : Nat) (wr : World) (u : List Value) (a : Ex) (b : Bool) (R : List Tk) : Prop where
 ps : PSx L A n c g wr b R
 e : XB wr eb u.toArray
 v : XV wr (fun k => w.heap.size < k /\ k ≠ eb) a u
 res : XB wr w.heap.size #[.int .i64 0, .int .i64 0, .string { data := #[] }, .string { data := #[] }, .slice none 0 0, .slice none 0 0]
 gr : w.grownBy wr (some g)
 lt : w.heap.size < eb
 lg : g < w.heap.size
theorem LS.go {L : List Lx.Tok} {A : Option Addr} {n c g : Nat} {w : World} {eb : Nat} {wr wx : World} {u : List Value} {a : Ex} {b b' : Bool} {R R' : List Tk} (h : LS L A n c g w eb wr u a b R) (hg : wr.grownBy wx (some g)) (hp : PSx L A n c g wx b' R') : LS L A n c g w eb wx u a b' R' :=
 ⟨hp, h.e.gr hg (by have := h.lt; have := h.lg; omega), h.v.gr hg (fun k _ hk => ⟨by have := h.lg; omega, hk⟩), h.res.gr hg (by have := h.lg; omega), World.grownBy.trans h.gr hg, h.lt, h.lg⟩
theorem LS.below {L : List Lx.Tok} {A : Option Addr} {n c g : Nat} {w : World} {eb : Nat} {wr wx : World} {u : List Value} {a : Ex} {b : Bool} {R : List Tk} (h : LS L A n c g w eb wr u a b R) (hb : Below wr.heap.size wr wx) : LS L A n c g w eb wx u a b R := h.go (Below.grown_ hb _) (h.ps.next hb)
theorem LS.sgn {L : List Lx.Tok} {A : Option Addr} {n c g : Nat} {w : World} {eb : Nat} {wr : World} {u : List Value} {a : Ex} {b : Bool} {R : List Tk} (h : LS L A n c g w eb wr u a b R) {q : Nat} {l : List Str} (hqg : q ≠ g) (hq : w.heap[q]? = some (.cells (l.map fun s => Value.string (bs s)).toArray 9 (0, 0))) {j : Nat} {s : Str} (hs : l[j]? = some s) : wr.cell? ⟨q, j, none⟩ = some (.string (bs s)) := by
 have e := (h.gr.block q (lt_of_block hq) (fun e => hqg (Option.some.inj e))).trans hq
 rw [cell_of_row _ _ _ _ _ _ e]
 simp [hs]
theorem left_gen (L : List Lx.Tok) (A : Option Addr) (n c g : Nat) (w : World) (bad : Bool) (R : List Tk) (h : PSx L A n c g w bad R) (lv f fo q : Nat) (hlv : lv < 5) (hqg : q ≠ g) (hq : w.heap[q]? = some (.cells ((sgnsAt lv).map fun s => Value.string (bs s)).toArray 9 (0, 0)))
  (hB : ∀ W R', PSx L A n c g W true R' -> Calls Tryz.prog fo #[.pointer (some ⟨g, 0, none⟩)] W (XP L A n c g W (.bad R')))
  (hO : ∀ f', f' < f -> ∀ W R', 8 * R'.length + 2 + (4 - lv) <= f' -> PSx L A n c g W false R' -> Calls Tryz.prog fo #[.pointer (some ⟨g, 0, none⟩)] W (XP L A n c g W (pB f' (lv + 1) R')))
  (hm : bad = false -> 8 * R.length + 2 + (5 - lv) <= f) (hcf : ∀ args w, (callFunc fo args).run Tryz.prog w = .ok (.enter fo args) w) :
  Calls Tryz.prog 46 #[.pointer (some ⟨g, 0, none⟩), .func (.func fo) #[.pointer (some ⟨g, 0, none⟩)] #[], .slice (some ⟨q, 0, none⟩) (sgnsAt lv).length (sgnsAt lv).length] w (XP L A n c g w (if bad = true then .bad R else pB f lv R)) := by
 obtain ⟨PZ, hPZ⟩ : ∃ z, z = (if bad = true then .bad R else pB f lv R) := ⟨_, rfl⟩
 rw [<- hPZ]
 have HZ := hI hPZ
 have HB := hI hB
 have HO := hI hO
 have HM := hI hm
 have HLV := hI hlv
 clear hPZ hB hO hm hlv
 go_enter Tryz.func46, Tryz.ntmps46
 obtain ⟨w0, hw0⟩ : ∃ w0, w0 = w.alloc (.cells #[.int .i64 0, .int .i64 0, .string { data := #[] }, .string { data := #[] }, .slice none 0 0, .slice none 0 0] 27) := ⟨_, rfl⟩
 have hb0 : Below w.heap.size w w0 := by rw [hw0]; exact (Below.refl _ _).alloc (Nat.le_refl _) _
 have X0 := hI (show XB w0 w.heap.size #[.int .i64 0, .int .i64 0, .string { data := #[] }, .string { data := #[] }, .slice none 0 0, .slice none 0 0] from by rw [hw0]; exact heap_alloc_new w _)
 have TBs := hI h.base
 have HGL := hI h.lt
 have HS0 := hI (show w0.heap.size = w.heap.size + 1 from by rw [hw0]; exact World.size_alloc ..)
 have K1 : Calls Tryz.prog fo #[.pointer (some ⟨g, 0, none⟩)] w0 (XP L A n c g w0 (if bad = true then .bad R else pB (f - 1) (lv + 1) R)) := by
  cases bad with
  | true => exact HB.out w0 R (h.next hb0)
  | false => exact HO.out (f - 1) (by have := HM.out rfl; omega) w0 R (by have := HM.out rfl; have := HLV.out; omega) (h.next hb0)
 have HK1 := hI K1
 have HQ := hI hq
 have HQG := hI hqg
 have G0 := hI (Below.grown_ hb0 (some g))
 clear h hb0 K1 hq hqg
 generalize hsl : (sgnsAt lv).length = sl at *
 have HSL := hI hsl
 have HS6 := hI (show sl <= 6 from by rw [<- hsl]; exact sgns_len lv)
 clear hsl
 go_upto_region 1 with fail
 rw [<- hw0]
 clear hw0
 go_wp2_with fail
 refine HK1.out.mono ?_
 rintro e w1 ⟨x, cs, rfl, hx, hg, hP⟩
 obtain ⟨wb, hwb⟩ : ∃ wb, wb = w1.alloc (.cells #[.int .i64 0, .int .i64 0, .string { data := #[] }, .string { data := #[] }, .slice none 0 0, .slice none 0 0] 27) := ⟨_, rfl⟩
 have hb8 : Below w1.heap.size w1 wb := by rw [hwb]; exact (Below.refl _ _).alloc (Nat.le_refl _) _
 have E8 := hI (show XB wb w1.heap.size #[.int .i64 0, .int .i64 0, .string { data := #[] }, .string { data := #[] }, .slice none 0 0, .slice none 0 0] from by rw [hwb]; exact heap_alloc_new w1 _)
 have X8 := hI ((X0.out.gr hg (by have := HGL.out; omega)).below hb8)
 have G8 := hI (gr_below (World.grownBy.trans G0.out hg) hb8)
 have HX8 := hI ((hx.more (S' := fun b => w.heap.size < b /\ b ≠ w1.heap.size) fun b hlt (hb : w0.heap.size <= b) => ⟨by have := HS0.out; omega, by omega⟩).below hb8)
 have HP8 := hI (Res.is_imp hP fun b r h => h.next hb8)
 have HEB := hI (show w.heap.size < w1.heap.size from by have := hg.size; have := HS0.out; omega)
 have H6S := hI hx.six
 clear hx hg hP HK1 X0 G0 hb8
 go_wp2_with (with_reducible refine at_store_ (t := 27) ?_; refine Hid.out ?_)
 refine hI ?_
 rw [<- hwb]
 clear hwb
 generalize w1.heap.size = eb at *
 refine xb_put rfl _ _ rfl rfl eb rfl rfl H6S.out E8.out rfl ?_
 intro wc hxc hgc hsc
 clear hsc
 have HPC := Res.is_imp HP8.out fun b r h => h.other TBs.out hgc (Nat.le_of_lt HEB.out)
 obtain ⟨b1, r1, f1, hps, hf1, hz1, hln⟩ : ∃ b1 r1 f1, PSx L A n c g wc b1 r1 /\ (b1 = false -> 8 * r1.length + 1 <= f1 /\ f1 < f) /\ PZ = (if b1 = true then .bad r1 else pC f1 lv x r1) /\ True := by
  have hz := HZ.out
  cases bad with
  | true => exact ⟨true, R, 0, HPC, (by intro e; cases e), hz, trivial⟩
  | false =>
   have hm := HM.out rfl
   have hlv := HLV.out
   obtain ⟨f0, rfl⟩ : ∃ f0, f = f0 + 1 := ⟨f - 1, by omega⟩
   rw [if_neg (by simp), pB, if_neg (by omega)] at hz
   rw [if_neg (by simp), Nat.add_sub_cancel] at HPC
   cases hp : pB f0 (lv + 1) R with
   | bad r => rw [hp] at hz HPC; exact ⟨true, r, 0, HPC, (by intro e; cases e), hz, trivial⟩
   | ok y r =>
    rw [hp] at hz HPC
    obtain ⟨rfl, hps⟩ := HPC
    have hsf := suf_len ((suf_of ((suf_parts f0).1 (lv + 1) R)).1 _ _ hp)
    exact ⟨false, r, f0, hps, fun _ => ⟨by omega, by omega⟩, hz, trivial⟩
 have S0 := hI (LS.mk (w := w) (eb := eb) hps hxc (HX8.out.gr (S' := fun b => w.heap.size < b /\ b ≠ eb) hgc (fun b _ hb => ⟨hb.2, hb⟩)) (X8.out.gr hgc (by have := HEB.out; omega)) (gr_step (B := 0) G8.out hgc (Nat.le_of_lt HEB.out)) HEB.out HGL.out)
 have Z0 := hI hz1
 have F0 := hI hf1
 clear hxc hgc HPC hps hz1 hln X8 G8 HX8 HP8 E8 HM HZ hf1 H6S HS0
 go_wp2_with fail
 go_loopw [8] (fun _ wr => ∃ (u : List Value) (a : Ex) (b : Bool) (R' : List Tk) (f1 : Nat), LS L A n c g w eb wr u a b R' /\ (b = false -> 8 * R'.length + 1 <= f1 /\ f1 < f) /\ PZ = (if b = true then .bad R' else pC f1 lv a R')) (fun _ wr => L.length - idxOf g wr)
 case atStart => exact ⟨_, _, _, _, _, S0.out, F0.out, Z0.out⟩
 case round =>
  clear S0 F0 Z0
  obtain ⟨u, a, b, R', f1, hS, hF, hZ⟩ := hrel
  have S1 := hI hS
  have HM1 := hI hS.ps.idx
  obtain ⟨i1, hps⟩ := hS.ps
  obtain ⟨c0, c1, c2⟩ := hps.cells
  cases b with
  | true =>
   rw [if_pos rfl] at hZ
   have HZI := hI (show ∀ Q : Bool -> List Tk -> Prop, Q true R' -> PZ.is a Q from fun Q hq => by rw [hZ]; exact hq)
   clear hS hF hZ hps
   go_wp2_with (with_reducible refine at_load_ (t := 27) ?_; refine Hid.out ?_)
   refine hI ?_
   refine xb_load rfl _ rfl eb rfl S1.out.e S1.out.v.six.1 ?_
   refine xb_put rfl _ _ rfl rfl w.heap.size rfl rfl S1.out.v.six S1.out.res rfl ?_
   intro wz hxz hgz hsz
   clear hsz
   have XZ := hI hxz
   have GZ := hI (gr_step (B := 0) S1.out.gr hgz (Nat.le_refl _))
   have VZ := hI (S1.out.v.gr (S' := fun b => w.heap.size <= b) hgz (fun b _ hb => ⟨by have := hb.1; omega, by have := hb.1; omega⟩))
   have PZZ := hI (HZI.out _ (S1.out.ps.other TBs.out hgz (Nat.le_refl _)))
   clear hxz hgz
   go_wp2_with fail
   refine bodyPost_ret (xb_ret rfl _ _ w.heap.size _ rfl XZ.out VZ.out.six.1) rfl ?_
   exact ⟨_, _, rfl, VZ.out, GZ.out, PZZ.out⟩
  | false =>
   rw [if_neg (by simp)] at hZ
   obtain ⟨hfa, hfb⟩ := hF rfl
   have HFA := hI hfa
   have HFB := hI hfb
   have HZ1 := hI hZ
   have HC0 := hI c0
   clear hS hF hZ hps hfa hfb
   go_wp2_with fail
   clear c0 c1 c2
   go_loopw [8, 20] (fun v8 v20 wx => ∃ j : Nat, v8 = .bool false /\ v20 = .int .i64 (j : Int) /\ j <= sl /\ LS L A n c g w eb wx u a false R' /\ ∀ s ∈ (sgnsAt lv).take j, isT s R' = false) (fun _ v20 _ => sl - (intOf v20).toNat)
   case atStart => exact ⟨0, rfl, rfl, Nat.zero_le _, S1.out, by simp⟩
   case round =>
    obtain ⟨j, rfl, rfl, hj, hS, hno⟩ := hrel
    have S2 := hI hS
    have HNO := hI hno
    have HJ := hI hj
    clear S1 hS hno
    rcases Nat.lt_or_ge j sl with hlt | hge
    ·have HLT := hI hlt
     have h2 : (j : Int) < (sl : Int) := by omega
     have h3 : ¬ (j : Int) < 0 := by omega
     have hsj : (sgnsAt lv)[j]? = some ((sgnsAt lv)[j]'(by rw [HSL.out]; exact hlt)) := List.getElem?_eq_getElem _
     generalize (sgnsAt lv)[j]'(by rw [HSL.out]; exact hlt) = s at *
     have HSJ := hI hsj
     have cq := S2.out.sgn HQG.out HQ.out hsj
     clear hsj hj hlt
     go_wp2_with fail
     refine (take_any L A n c g wr false R' S2.out.ps s).mono ?_
     rintro e wy ⟨rfl, hpy, hgy⟩
     have S3 := hI (S2.out.go hgy hpy)
     have HS6b := hI (show sl <= 6 from HS6.out)
     clear hpy hgy S2 cq
     by_cases ht : isT s R' = true
     ·have e1 : tk false s R' = true := by unfold tk; rw [ht]; rfl
      have e2 : tkR false s R' = R'.tail := if_pos e1
      rw [e2] at S3
      rw [e1]
      clear e1 e2
      have hop := opAt_true (List.mem_of_getElem? HSJ.out) ht
      have HTS := hI hop.2
      obtain ⟨f2, hf2⟩ : ∃ f2, f1 = f2 + 1 := ⟨f1 - 1, by have := HFA.out; omega⟩
      have hz := HZ1.out
      rw [hf2, pC, if_pos hop.1, hop.2] at hz
      have HZ2 := hI hz
      have hne : R' ≠ [] := by rintro rfl; cases ht
      have hln : R'.tail.length + 1 = R'.length := by cases R' with | nil => exact absurd rfl hne | cons t r => rfl
      have HLN := hI hln
      have HF2 := hI (show 8 * R'.tail.length + 8 <= f2 /\ f2 < f from by have := HFA.out; have := HFB.out; omega)
      have HOK := hI (show ∀ W, PSx L A n c g W false R'.tail -> _ from fun W => HO.out f2 HF2.out.2 W R'.tail (by have := HF2.out.1; omega))
      clear hop hz hne hln HNO HZ1 hf2 HFA HFB
      obtain ⟨k0, n0, s0, m0, a0, o0⟩ := a
      obtain ⟨A0, na0, ca0, O0, no0, co0, hu, -, -⟩ := S3.out.v.open_
      subst hu
      go_upto_region 8 with fail
      go_cut [36] from 27 (fun v36 wz => v36 = undef /\ ∃ (u : List Value) (a : Ex) (b : Bool) (Rn : List Tk) (fn : Nat), LS L A n c g w eb wz u a b Rn /\ (b = false -> 8 * Rn.length + 1 <= fn /\ fn < f) /\ PZ = (if b = true then .bad Rn else pC fn lv a Rn) /\ Rn.length < R'.length)
      case first =>
       rename_i J0 K0 hR0 hK0
       refine wp_region_held_drew (S := fun W => True) (by kernel_rfl) trivial (fun hHeld => ?_)
       have S4 := hI (S3.out.below (Below.refl _ _).drew)
       generalize hwq : World.drew _ = wq at S4 ⊢
       clear hwq S3 hHeld
       refine wpAnyH_take (i := 0) (oi := ⟨some 27, _, _, _, _, _⟩) (v := .string (bs s)) rfl (by kernel_rfl) (by kernel_rfl) (by kernel_rfl) (fun _ _ _ h => h) (Or.inl ⟨by rfl, ?_⟩) trivial ?_
       ·intro W' hW
        go_simp
       try simp only [Act.put, sA, sB, sC]
       refine wpAnyH_take (i := 2) (oi := ⟨some 29, _, _, _, _, _⟩) (v := .func (.func fo) #[.pointer (some ⟨g, 0, none⟩)] #[]) rfl (by kernel_rfl) (by kernel_rfl) (by kernel_rfl) (fun _ _ _ h => h) (Or.inl ⟨by rfl, ?_⟩) trivial ?_
       ·intro W' hW
        go_simp
       try simp only [Act.put, sA, sB, sC]
       refine wpAnyH_ready (rs := [1, 3]) (by kernel_rfl) (by simp) ?_
       refine AllReadyH.cons (o := ⟨some 28, _, _, _, _, _⟩) rfl (fun K hK => ?_) (AllReadyH.cons (o := ⟨some 30, _, _, _, _, _⟩) rfl (fun K hK => ?_) AllReadyH.nil)
       ·refine Eq.mpr (if_pos (by kernel_rfl)) ?_
        refine wp_load_row 27 _ rfl eb rfl _ _ _ _ S4.out.e Tryz.underlying27 rfl ex_size ?_
        refine hK.out _ _ trivial (fun hHeld2 => ?_)
        clear hK
        try simp only [Act.put, sA, sB, sC]
        refine wpAnyH_ready (rs := [3]) (by kernel_rfl) (by simp) ?_
        refine AllReadyH.cons (o := ⟨some 30, _, _, _, _, _⟩) rfl (fun K hK => ?_) AllReadyH.nil
        go_simp
        refine (HOK.out _ S4.out.ps).mono ?_
        rintro e wk ⟨x2, cs2, rfl, hx2, hg2, hP2⟩
        refine hK.out _ _ trivial (fun hHeld2 => ?_)
        clear hK
        obtain ⟨b2, r2, hps2, hr2, hb2, ho2⟩ := Res.is_ex (x := x2) (P := pB f2 (lv + 1) R'.tail) (Q := fun b r => PSx L A n c g wk b r) hP2
        have hl2 := suf_len ((suf_parts f2).1 (lv + 1) R'.tail)
        rw [<- hr2] at hl2
        have S5 := hI (S4.out.go hg2 hps2)
        have HX2 := hI (hx2.more (S' := fun k => w.heap.size < k /\ k ≠ eb) fun k _ (hk : wq.heap.size <= k) => by have := S4.out.e.lt; have := S4.out.lt; exact ⟨by omega, by omega⟩)
        have HWQ := hI (show eb < wk.heap.size from S5.out.e.lt)
        obtain ⟨aa, haa⟩ : ∃ z, z = x2 := ⟨_, rfl⟩
        have HAA := hI haa
        obtain ⟨k2, n2, s2, m2, a2, o2⟩ := x2
        obtain ⟨A2, na2, ca2, O2, no2, co2, hu2, -, -⟩ := HX2.out.open_
        subst hu2
        unfold exC
        clear haa
        try simp only [Act.put, sA, sB, sC]
        refine wpAnyH_ready (rs := [4]) (by kernel_rfl) (by simp) ?_
        refine AllReadyH.cons (o := ⟨some 31, _, _, _, _, _⟩) rfl (fun K hK => ?_) AllReadyH.nil
        try unfold exC
        go_simp
        obtain ⟨w9, hw9⟩ : ∃ z, z = wk.alloc (.cells #[.int .i64 k0, .int .i64 n0, .string (bs s0), .string (bs m0), .slice A0 na0 ca0, .slice O0 no0 co0, .int .i64 k2, .int .i64 n2, .string (bs s2), .string (bs m2), .slice A2 na2 ca2, .slice O2 no2 co2] 27) := ⟨_, rfl⟩
        have hb9 : Below wk.heap.size wk w9 := by rw [hw9]; exact (Below.refl _ _).alloc (Nat.le_refl _) _
        have hr9 : w9.heap[wk.heap.size]? = some (.cells #[.int .i64 k0, .int .i64 n0, .string (bs s0), .string (bs m0), .slice A0 na0 ca0, .slice O0 no0 co0, .int .i64 k2, .int .i64 n2, .string (bs s2), .string (bs m2), .slice A2 na2 ca2, .slice O2 no2 co2] 27 (0, 0)) := by rw [hw9]; exact heap_alloc_new wk _
        rw [<- hw9]
        have S6 := hI (S5.out.below hb9)
        have HL9 := hI (XL.two (S := fun k => w.heap.size < k /\ k ≠ eb) S6.out.v (HX2.out.below hb9) hr9 ⟨by have := HWQ.out; have := S6.out.lt; omega, by have := HWQ.out; omega⟩)
        clear hw9 hb9 hr9 HX2
        refine hK.out _ _ trivial (fun hHeld9 => ?_)
        clear hK
        try simp only [Act.put, sA, sB, sC]
        refine wpAnyH_take (i := 5) (oi := ⟨some 32, _, _, _, _, _⟩) (v := .agg #[.int .i64 5, .int .i64 0, .string { data := #[] }, .string (bs s), .slice (some ⟨wk.heap.size, 0, none⟩) 2 2, .slice none 0 0]) rfl (by kernel_rfl) (by kernel_rfl) (by kernel_rfl) (fun _ _ _ h => h) (Or.inl ⟨by rfl, ?_⟩) trivial ?_
        ·intro W' hW
         go_simp
        try simp only [Act.put, sA, sB, sC]
        refine wpAnyH_ready (rs := [6]) (by kernel_rfl) (by simp) ?_
        refine AllReadyH.cons (o := ⟨none, _, _, _, _, _⟩) rfl (fun K hK => ?_) AllReadyH.nil
        refine Eq.mpr (if_pos (by kernel_rfl)) ?_
        refine wp_store_row 27 (.tmp 7) (.tmp 32) rfl eb #[.int .i64 5, .int .i64 0, .string { data := #[] }, .string (bs s), .slice (some ⟨wk.heap.size, 0, none⟩) 2 2, .slice none 0 0] rfl rfl 27 _ S6.out.e ex_size rfl (by simp [Value.oneCell']) ?_
        have gz : w9.grownBy (w9.setRow eb #[.int .i64 5, .int .i64 0, .string { data := #[] }, .string (bs s), .slice (some ⟨wk.heap.size, 0, none⟩) 2 2, .slice none 0 0]) (some eb) := ⟨rfl, rfl, rfl, Nat.le_of_eq (by simp [World.setRow]), fun k _ hk => setRow_other _ _ _ _ (fun e => hk (by rw [e]))⟩
        have hxz : XB (w9.setRow eb #[.int .i64 5, .int .i64 0, .string { data := #[] }, .string (bs s), .slice (some ⟨wk.heap.size, 0, none⟩) 2 2, .slice none 0 0]) eb #[.int .i64 5, .int .i64 0, .string { data := #[] }, .string (bs s), .slice (some ⟨wk.heap.size, 0, none⟩) 2 2, .slice none 0 0] := setRow_heap _ _ _ _ _ _ S6.out.e
        generalize w9.setRow eb #[.int .i64 5, .int .i64 0, .string { data := #[] }, .string (bs s), .slice (some ⟨wk.heap.size, 0, none⟩) 2 2, .slice none 0 0] = wz at *
        refine hK.out _ _ trivial (fun hHeld10 => ?_)
        clear hK
        try simp only [Act.put, sA, sB, sC]
        refine wpAnyH_done (by kernel_rfl) ?_ _
        refine hK0 _ _ (Met.intro (hR0 _ _ ?_))
        (repeat apply Exists.intro)
        refine ⟨?rel, rfl⟩
        case rel =>
         have hlz := HL9.out.gr (S' := fun k => w.heap.size < k /\ k ≠ eb) gz (fun k _ hk => ⟨hk.2, hk⟩)
         have hll := HLN.out
         have hff := HF2.out
         refine ⟨rfl, exC 5 0 [] s (some ⟨wk.heap.size, 0, none⟩) 2 2 none 0 0, .mk 5 0 [] s [.mk k0 n0 s0 m0 a0 o0, .mk k2 n2 s2 m2 a2 o2] [], b2, r2, f2, ⟨S6.out.ps.other TBs.out gz (Nat.le_of_lt S6.out.lt), hxz, XV.shut (by unfold InR; omega) hlz (XL.nil_ _ _), S6.out.res.gr gz (by have := S6.out.lt; omega), gr_step (B := 0) S6.out.gr gz (Nat.le_of_lt S6.out.lt), S6.out.lt, S6.out.lg⟩, fun _ => ⟨by omega, by omega⟩, ?_, by omega⟩
         rw [HZ2.out]
         cases b2 with
         | true => rw [hb2 rfl]; rfl
         | false => rw [ho2 rfl, <- HAA.out]; rfl
       go_simp
       refine (HOK.out _ S4.out.ps).mono ?_
       rintro e wk ⟨x2, cs2, rfl, hx2, hg2, hP2⟩
       refine hK.out _ _ trivial (fun hHeld2 => ?_)
       clear hK
       obtain ⟨b2, r2, hps2, hr2, hb2, ho2⟩ := Res.is_ex (x := x2) (P := pB f2 (lv + 1) R'.tail) (Q := fun b r => PSx L A n c g wk b r) hP2
       have hl2 := suf_len ((suf_parts f2).1 (lv + 1) R'.tail)
       rw [<- hr2] at hl2
       have S5 := hI (S4.out.go hg2 hps2)
       have HX2 := hI (hx2.more (S' := fun k => w.heap.size < k /\ k ≠ eb) fun k _ (hk : wq.heap.size <= k) => by have := S4.out.e.lt; have := S4.out.lt; exact ⟨by omega, by omega⟩)
       have HWQ := hI (show eb < wk.heap.size from S5.out.e.lt)
       obtain ⟨aa, haa⟩ : ∃ z, z = x2 := ⟨_, rfl⟩
       have HAA := hI haa
       obtain ⟨k2, n2, s2, m2, a2, o2⟩ := x2
       obtain ⟨A2, na2, ca2, O2, no2, co2, hu2, -, -⟩ := HX2.out.open_
       subst hu2
       unfold exC
       clear haa
       try simp only [Act.put, sA, sB, sC]
       refine wpAnyH_ready (rs := [1]) (by kernel_rfl) (by simp) ?_
       refine AllReadyH.cons (o := ⟨some 28, _, _, _, _, _⟩) rfl (fun K hK => ?_) AllReadyH.nil
       refine Eq.mpr (if_pos (by kernel_rfl)) ?_
       refine wp_load_row 27 _ rfl eb rfl _ _ _ _ S5.out.e Tryz.underlying27 rfl ex_size ?_
       refine hK.out _ _ trivial (fun hHeld2 => ?_)
       clear hK
       try simp only [Act.put, sA, sB, sC]
       refine wpAnyH_ready (rs := [4]) (by kernel_rfl) (by simp) ?_
       refine AllReadyH.cons (o := ⟨some 31, _, _, _, _, _⟩) rfl (fun K hK => ?_) AllReadyH.nil
       try unfold exC
       go_simp
       obtain ⟨w9, hw9⟩ : ∃ z, z = wk.alloc (.cells #[.int .i64 k0, .int .i64 n0, .string (bs s0), .string (bs m0), .slice A0 na0 ca0, .slice O0 no0 co0, .int .i64 k2, .int .i64 n2, .string (bs s2), .string (bs m2), .slice A2 na2 ca2, .slice O2 no2 co2] 27) := ⟨_, rfl⟩
       have hb9 : Below wk.heap.size wk w9 := by rw [hw9]; exact (Below.refl _ _).alloc (Nat.le_refl _) _
       have hr9 : w9.heap[wk.heap.size]? = some (.cells #[.int .i64 k0, .int .i64 n0, .string (bs s0), .string (bs m0), .slice A0 na0 ca0, .slice O0 no0 co0, .int .i64 k2, .int .i64 n2, .string (bs s2), .string (bs m2), .slice A2 na2 ca2, .slice O2 no2 co2] 27 (0, 0)) := by rw [hw9]; exact heap_alloc_new wk _
       rw [<- hw9]
       have S6 := hI (S5.out.below hb9)
       have HL9 := hI (XL.two (S := fun k => w.heap.size < k /\ k ≠ eb) S6.out.v (HX2.out.below hb9) hr9 ⟨by have := HWQ.out; have := S6.out.lt; omega, by have := HWQ.out; omega⟩)
       clear hw9 hb9 hr9 HX2
       refine hK.out _ _ trivial (fun hHeld9 => ?_)
       clear hK
       try simp only [Act.put, sA, sB, sC]
       refine wpAnyH_take (i := 5) (oi := ⟨some 32, _, _, _, _, _⟩) (v := .agg #[.int .i64 5, .int .i64 0, .string { data := #[] }, .string (bs s), .slice (some ⟨wk.heap.size, 0, none⟩) 2 2, .slice none 0 0]) rfl (by kernel_rfl) (by kernel_rfl) (by kernel_rfl) (fun _ _ _ h => h) (Or.inl ⟨by rfl, ?_⟩) trivial ?_
       ·intro W' hW
        go_simp
       try simp only [Act.put, sA, sB, sC]
       refine wpAnyH_ready (rs := [6]) (by kernel_rfl) (by simp) ?_
       refine AllReadyH.cons (o := ⟨none, _, _, _, _, _⟩) rfl (fun K hK => ?_) AllReadyH.nil
       refine Eq.mpr (if_pos (by kernel_rfl)) ?_
       refine wp_store_row 27 (.tmp 7) (.tmp 32) rfl eb #[.int .i64 5, .int .i64 0, .string { data := #[] }, .string (bs s), .slice (some ⟨wk.heap.size, 0, none⟩) 2 2, .slice none 0 0] rfl rfl 27 _ S6.out.e ex_size rfl (by simp [Value.oneCell']) ?_
       have gz : w9.grownBy (w9.setRow eb #[.int .i64 5, .int .i64 0, .string { data := #[] }, .string (bs s), .slice (some ⟨wk.heap.size, 0, none⟩) 2 2, .slice none 0 0]) (some eb) := ⟨rfl, rfl, rfl, Nat.le_of_eq (by simp [World.setRow]), fun k _ hk => setRow_other _ _ _ _ (fun e => hk (by rw [e]))⟩
       have hxz : XB (w9.setRow eb #[.int .i64 5, .int .i64 0, .string { data := #[] }, .string (bs s), .slice (some ⟨wk.heap.size, 0, none⟩) 2 2, .slice none 0 0]) eb #[.int .i64 5, .int .i64 0, .string { data := #[] }, .string (bs s), .slice (some ⟨wk.heap.size, 0, none⟩) 2 2, .slice none 0 0] := setRow_heap _ _ _ _ _ _ S6.out.e
       generalize w9.setRow eb #[.int .i64 5, .int .i64 0, .string { data := #[] }, .string (bs s), .slice (some ⟨wk.heap.size, 0, none⟩) 2 2, .slice none 0 0] = wz at *
       refine hK.out _ _ trivial (fun hHeld10 => ?_)
       clear hK
       try simp only [Act.put, sA, sB, sC]
       refine wpAnyH_done (by kernel_rfl) ?_ _
       refine hK0 _ _ (Met.intro (hR0 _ _ ?_))
       (repeat apply Exists.intro)
       refine ⟨?rel, rfl⟩
       case rel =>
        have hlz := HL9.out.gr (S' := fun k => w.heap.size < k /\ k ≠ eb) gz (fun k _ hk => ⟨hk.2, hk⟩)
        have hll := HLN.out
        have hff := HF2.out
        refine ⟨rfl, exC 5 0 [] s (some ⟨wk.heap.size, 0, none⟩) 2 2 none 0 0, .mk 5 0 [] s [.mk k0 n0 s0 m0 a0 o0, .mk k2 n2 s2 m2 a2 o2] [], b2, r2, f2, ⟨S6.out.ps.other TBs.out gz (Nat.le_of_lt S6.out.lt), hxz, XV.shut (by unfold InR; omega) hlz (XL.nil_ _ _), S6.out.res.gr gz (by have := S6.out.lt; omega), gr_step (B := 0) S6.out.gr gz (Nat.le_of_lt S6.out.lt), S6.out.lt, S6.out.lg⟩, fun _ => ⟨by omega, by omega⟩, ?_, by omega⟩
        rw [HZ2.out]
        cases b2 with
        | true => rw [hb2 rfl]; rfl
        | false => rw [ho2 rfl, <- HAA.out]; rfl
      case rest =>
       obtain ⟨rfl, un, an, bn, Rn, fn, hSn, hFn, hZn, hLn⟩ := hcut
       have SN := hI hSn
       have FN := hI hFn
       have ZN := hI hZn
       have LN := hI hLn
       clear hSn hFn hZn hLn S3 HZ2 HOK
       go_wp2
       go_roundw
       case rel => exact ⟨un, an, bn, Rn, fn, SN.out, FN.out, ZN.out⟩
       case measure =>
        have e1 := SN.out.ps.idx
        have e2 := HM1.out
        have e3 := LN.out
        omega
     have e0 : isT s R' = false := by simpa using ht
     have e1 : tk false s R' = false := by unfold tk; rw [e0]; rfl
     have e2 : tkR false s R' = R' := if_neg (by rw [e1]; simp)
     rw [e2] at S3
     rw [e1]
     have HE0 := hI e0
     clear e0 e1 e2 ht
     have hj6 := HS6.out
     have hjl := HLT.out
     have hwr : IntKind.i64.wrap ((j : Int) + 1) = ((j + 1 : Nat) : Int) := by simp [IntKind.wrap, IntKind.bits, IntKind.signed]; omega
     clear hj6 hjl
     go_wp2
     go_roundw
     case rel =>
      refine ⟨j + 1, by first | rfl | trivial, by first | rfl | trivial, HLT.out, S3.out, ?_⟩
      intro t ht
      rw [List.take_add_one, HSJ.out] at ht
      rcases List.mem_append.1 ht with h1 | h1
      ·exact HNO.out t h1
      simp at h1
      rw [h1]
      exact HE0.out
     case measure =>
      have := HLT.out
      simp [intOf]
      omega
    obtain rfl : j = sl := by omega
    have h2 : ¬ (j : Int) < (j : Int) := by omega
    have HZI := hI (show ∀ Q : Bool -> List Tk -> Prop, Q false R' -> PZ.is a Q from fun Q hq => by
     rw [HZ1.out]
     obtain ⟨f2, rfl⟩ : ∃ f2, f1 = f2 + 1 := ⟨f1 - 1, by have := HFA.out; omega⟩
     rw [pC, if_neg (by rw [opAt_false (fun s hs => HNO.out s (by rw [<- HSL.out, List.take_length]; exact hs))]; simp)]
     exact ⟨rfl, hq⟩)
    clear hj hge
    go_wp2_with (with_reducible refine at_load_ (t := 27) ?_; refine Hid.out ?_)
    refine hI ?_
    refine xb_load rfl _ rfl eb rfl S2.out.e S2.out.v.six.1 ?_
    refine xb_put rfl _ _ rfl rfl w.heap.size rfl rfl S2.out.v.six S2.out.res rfl ?_
    intro wz hxz hgz hsz
    clear hsz
    have XZ := hI hxz
    have GZ := hI (gr_step (B := 0) S2.out.gr hgz (Nat.le_refl _))
    have VZ := hI (S2.out.v.gr (S' := fun b => w.heap.size <= b) hgz (fun b _ hb => ⟨by have := hb.1; omega, by have := hb.1; omega⟩))
    have PZZ := hI (HZI.out _ (S2.out.ps.other TBs.out hgz (Nat.le_refl _)))
    clear hxz hgz
    go_wp2_with fail
    refine bodyPost_ret (xb_ret rfl _ _ w.heap.size _ rfl XZ.out VZ.out.six.1) rfl ?_
    exact ⟨_, _, rfl, VZ.out, GZ.out, PZZ.out⟩
end Go.Proofs.YtkakbidllpjopaaGreatDoor
