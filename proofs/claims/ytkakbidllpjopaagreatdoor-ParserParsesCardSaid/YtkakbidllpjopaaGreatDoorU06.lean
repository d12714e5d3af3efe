/- The walk of the parser's branch (printed by wip/genprp.py). No condition beyond the state. What a statement's walk needs: the pure answers in parts, a store of an expression into a statement's box. No condition beyond the state. The walk of the parser's statement (printed by wip/genprr.py). No condition beyond the state. The parser's statement functions answer what the pure parser answers. No condition beyond the state. The walk of the closure that program hands to commas; its list of parameters (printed by wip/genprt.py). No condition beyond the state. -/
import Derived.Test.YtkakbidllpjopaaGreatDoorU05
set_option linter.unusedVariables false
set_option linter.unusedSimpArgs false
set_option maxRecDepth 100000
set_option maxHeartbeats 12800000
namespace Go.Proofs.YtkakbidllpjopaaGreatDoor
open Go.RowKit
theorem elv_of (k n k1 n1 : Int) (s s1 m1 : ByteArray) (A B O Lb : Option Addr) (a b c d e f g h : Nat) : Elv #[.int .i64 k, .string s, .int .i64 n, .int .i64 k1, .int .i64 n1, .string s1, .string m1, .slice A a b, .slice O c d, .slice B e f, .slice Lb g h] := ⟨rfl, by simp [Value.oneCell']⟩
theorem branch_gen (L : List Lx.Tok) (A : Option Addr) (n c g : Nat) (w : World) (R : List Tk) (h : PSx L A n c g w false R) (f : Nat)
  (hBl : ∀ f', f' < f -> ∀ W b R', (b = false -> 4 * R'.length + 1 <= f') -> PSx L A n c g W b R' -> Calls Tryz.prog 58 #[.pointer (some ⟨g, 0, none⟩)] W (TP L A n c g W (if b = true then .bad R' else pBl f' R')))
  (hIq : ∀ f', f' < f -> ∀ W R', 4 * R'.length + 2 <= f' -> PSx L A n c g W false R' -> Calls Tryz.prog 114 #[.pointer (some ⟨g, 0, none⟩)] W (SP L A n c g W (pI f' R')))
  (hm : 4 * R.length + 2 <= f) :
  Calls Tryz.prog 114 #[.pointer (some ⟨g, 0, none⟩)] w (SP L A n c g w (pI f R)) := by
 obtain ⟨PZ, hPZ⟩ : ∃ z, z = pI f R := ⟨_, rfl⟩
 rw [<- hPZ]
 obtain ⟨f0, rfl⟩ : ∃ f0, f = f0 + 1 := ⟨f - 1, by omega⟩
 rw [pI] at hPZ
 have HZ := hI hPZ
 obtain ⟨w0, hw0⟩ : ∃ w0, w0 = w.alloc (.cells #[.int .i64 0, .string { data := #[] }, .int .i64 0, .int .i64 0, .int .i64 0, .string { data := #[] }, .string { data := #[] }, .slice none 0 0, .slice none 0 0, .slice none 0 0, .slice none 0 0] 74) := ⟨_, rfl⟩
 have hb0 : Below w.heap.size w w0 := by rw [hw0]; exact (Below.refl _ _).alloc (Nat.le_refl _) _
 have X0 := hI (show SB w0 w.heap.size #[.int .i64 0, .string { data := #[] }, .int .i64 0, .int .i64 0, .int .i64 0, .string { data := #[] }, .string { data := #[] }, .slice none 0 0, .slice none 0 0, .slice none 0 0, .slice none 0 0] from by rw [hw0]; exact heap_alloc_new w _)
 have TBs := hI h.base
 have G0 := hI (Below.grown_ hb0 (some g))
 have HGL := hI h.lt
 have HBL := hI hBl
 have HI := hI hIq
 have HM := hI hm
 have KE := hI (show Calls _ _ _ _ (XP L A n c g w0 (pE R)) from expr_any w0 false R (h.next hb0))
 clear h hBl hIq hm hPZ hb0
 go_enter Tryz.func114, Tryz.ntmps114
 go_upto_region 1 with fail
 rw [<- hw0]
 clear hw0
 go_wp2_with fail
 refine KE.out.mono ?_
 rintro e w1 ⟨x, cs, rfl, hx, hg, hP⟩
 have X1 := hI (X0.out.gr hg (by have := HGL.out; omega))
 have G1 := hI (World.grownBy.trans G0.out hg)
 have HXL := hI (show w.heap.size < w0.heap.size from X0.out.lt)
 obtain ⟨b1, r1, hps, hr1, hb1, ho1⟩ := Res.is_ex (x := x) (P := pE R) (Q := fun b r => PSx L A n c g w1 b r) hP
 have HB1 := hI hb1
 have HO1 := hI ho1
 have HR1 := hI (show r1.length <= R.length from by rw [hr1]; exact suf_len (suf_pE R))
 obtain ⟨xx, hxx⟩ : ∃ z, z = x := ⟨_, rfl⟩
 have HXX := hI hxx
 obtain ⟨k1, n1, s1, m1, a1, o1⟩ := x
 obtain ⟨A1, na1, ca1, O1, no1, co1, rfl, -, -⟩ := hx.open_
 obtain ⟨wd, hwd⟩ : ∃ wd, wd = w1.alloc (.cells #[.int .i64 3, .string { data := #[] }, .int .i64 0, .int .i64 k1, .int .i64 n1, .string (bs s1), .string (bs m1), .slice A1 na1 ca1, .slice O1 no1 co1, .slice none 0 0, .slice none 0 0] 74) := ⟨_, rfl⟩
 have hbd : Below w1.heap.size w1 wd := by rw [hwd]; exact (Below.refl _ _).alloc (Nat.le_refl _) _
 have H2 := hI (hps.next hbd)
 have E2 := hI (show SB wd w1.heap.size #[.int .i64 3, .string { data := #[] }, .int .i64 0, .int .i64 k1, .int .i64 n1, .string (bs s1), .string (bs m1), .slice A1 na1 ca1, .slice O1 no1 co1, .slice none 0 0, .slice none 0 0] from by rw [hwd]; exact heap_alloc_new w1 _)
 have X3 := hI (X1.out.below hbd)
 have G3 := hI (gr_below G1.out hbd)
 have HE := hI (show w.heap.size < w1.heap.size from X1.out.lt)
 have V2 := hI ((hx.more (S' := fun k => w.heap.size < k /\ k ≠ w1.heap.size) fun k hk (hb : w0.heap.size <= k) => ⟨by have := HXL.out; omega, by omega⟩).below hbd)
 clear hx hg hP hps hr1 hb1 ho1 hxx X0 G0 X1 G1 KE hbd
 unfold exC
 go_upto_region 2 with fail
 rw [<- hwd]
 clear hwd
 have KB := hI (HBL.out f0 (by omega) wd b1 r1 (fun _ => by have := HM.out; have := HR1.out; omega) H2.out)
 generalize w1.heap.size = eb at *
 clear H2
 generalize hPB : (if b1 = true then Res.bad r1 else pBl f0 r1) = PB at *
 have HPB := hI hPB
 clear hPB
 go_wp2_with fail
 refine KB.out.mono ?_
 rintro e w3 ⟨bl, B, mb, kb, rfl, hl, hg, hP⟩
 have X4 := hI (X3.out.gr hg (by have := HGL.out; omega))
 have E4 := hI (E2.out.gr hg (by have := HGL.out; have := HE.out; omega))
 have G4 := hI (World.grownBy.trans G3.out hg)
 have V4 := hI (V2.out.gr (S' := fun k => w.heap.size < k /\ k ≠ eb) hg (fun k _ hk => ⟨by have := hk.1; have := HGL.out; omega, hk⟩))
 have HEW := hI (show eb < wd.heap.size from E2.out.lt)
 have L4 := hI (hl.more (S' := fun k => w.heap.size < k /\ k ≠ eb) fun k _ (hk : wd.heap.size <= k) => ⟨by have := HEW.out; have := HE.out; omega, by have := HEW.out; omega⟩)
 obtain ⟨b3, r3, hps, hr3, hb3, ho3⟩ := Res.is_ex (x := bl) (P := PB) (Q := fun b r => PSx L A n c g w3 b r) hP
 have HB3 := hI hb3
 have HO3 := hI ho3
 have HR3 := hI hr3
 have E5 := hI (E4.out.set 9 (.slice B mb kb))
 have g5 := gr_put w3 eb 9 (.slice B mb kb)
 have X5 := hI (X4.out.gr g5 (by have := HE.out; omega))
 have G5 := hI (gr_step (B := 0) G4.out g5 (Nat.le_of_lt HE.out))
 have V5 := hI (V4.out.gr (S' := fun k => w.heap.size < k /\ k ≠ eb) g5 (fun k _ hk => ⟨hk.2, hk⟩))
 have L5 := hI (L4.out.gr (S' := fun k => w.heap.size < k /\ k ≠ eb) g5 (fun k _ hk => ⟨hk.2, hk⟩))
 have P5 := hI (hps.other TBs.out g5 (Nat.le_of_lt HE.out))
 have cE : w3.cell? ⟨eb, 9, none⟩ = some (.slice none 0 0) := by rw [cell_of_row _ _ _ _ _ _ E4.out]; rfl
 have fE : w3.frozen? ⟨eb, 9, none⟩ = false := by simp [World.frozen?, show w3.heap[eb]? = _ from E4.out]
 clear hl hg hP hps hr3 hb3 ho3 X3 E2 G3 V2 X4 E4 G4 V4 L4 KB g5
 go_upto_region 3 with fail
 clear cE fE
 generalize w3.setCell ⟨eb, 9, none⟩ (.slice B mb kb) = w4 at *
 have ZA := hI (show b3 = true -> PZ = .bad r3 from fun e => by
  have hz := HZ.out
  have hp := HPB.out
  have h3 := HB3.out e
  cases b1 with
  | true =>
   rw [HB1.out rfl] at hz
   rw [if_pos rfl, h3] at hp
   exact hz.trans (by injection hp with hp; rw [hp])
  | false =>
   rw [HO1.out rfl] at hz
   rw [if_neg (by simp)] at hp
   dsimp only at hz
   rw [hp, h3] at hz
   exact hz)
 have ZB := hI (show b3 = false -> PZ = (if isT tElse r3 = true then
     if isT tIf r3.tail = true then match pI f0 r3.tail.tail with
      | .bad q => .bad q
      | .ok s q => .ok (.mk 3 [] 0 xx bl [s]) q
     else match pBl f0 r3.tail with
      | .bad q => .bad q
      | .ok l q => .ok (.mk 3 [] 0 xx bl l) q
    else .ok (.mk 3 [] 0 xx bl []) r3) from fun e => by
  have hz := HZ.out
  have hp := HPB.out
  have h3 := HO3.out e
  cases b1 with
  | true =>
   rw [if_pos rfl, h3] at hp
   cases hp
  | false =>
   rw [HO1.out rfl, <- HXX.out] at hz
   rw [if_neg (by simp)] at hp
   dsimp only at hz
   rw [hp, h3] at hz
   exact hz)
 have LEN := hI (show b3 = false -> r3.length <= R.length from fun e => by
  have hp := HPB.out
  have h3 := HO3.out e
  cases b1 with
  | true => rw [if_pos rfl, h3] at hp; cases hp
  | false =>
   rw [if_neg (by simp), h3] at hp
   have := suf_len ((suf_of ((suf_stmts f0).2.2.1 r1)).1 _ _ hp)
   have := HR1.out
   omega)
 clear HZ HPB HB3 HO3 HR3 HB1 HO1 HR1
 go_wp2_with fail
 refine (take_any L A n c g w4 b3 r3 P5.out [101, 108, 115, 101]).mono ?_
 rintro e w6 ⟨rfl, h6, hg⟩
 have X6 := hI (X5.out.gr hg (by have := HGL.out; omega))
 have E6 := hI (E5.out.gr hg (by have := HGL.out; have := HE.out; omega))
 have G6 := hI (World.grownBy.trans G5.out hg)
 have V6 := hI (V5.out.gr (S' := fun k => w.heap.size < k /\ k ≠ eb) hg (fun k _ hk => ⟨by have := hk.1; have := HGL.out; omega, hk⟩))
 have L6 := hI (L5.out.gr (S' := fun k => w.heap.size < k /\ k ≠ eb) hg (fun k _ hk => ⟨by have := hk.1; have := HGL.out; omega, hk⟩))
 clear X5 E5 G5 V5 L5 P5 hg
 by_cases ht : tk b3 [101, 108, 115, 101] r3 = true
 ·obtain ⟨rfl, hel, htr⟩ := tk_true ht
  rw [ht]
  rw [htr] at h6
  have P6 := hI h6
  have zb := ZB.out rfl
  rw [if_pos (show isT tElse r3 = true from hel)] at zb
  have ZD := hI zb
  have HEL := hI (isT_len hel)
  clear h6 htr ht zb hel ZA ZB
  go_wp2_with fail
  refine (take_any L A n c g w6 false r3.tail P6.out [105, 102]).mono ?_
  rintro e w7 ⟨rfl, h7, hg⟩
  have X7 := hI (X6.out.gr hg (by have := HGL.out; omega))
  have E7 := hI (E6.out.gr hg (by have := HGL.out; have := HE.out; omega))
  have G7 := hI (World.grownBy.trans G6.out hg)
  have V7 := hI (V6.out.gr (S' := fun k => w.heap.size < k /\ k ≠ eb) hg (fun k _ hk => ⟨by have := hk.1; have := HGL.out; omega, hk⟩))
  have L7 := hI (L6.out.gr (S' := fun k => w.heap.size < k /\ k ≠ eb) hg (fun k _ hk => ⟨by have := hk.1; have := HGL.out; omega, hk⟩))
  clear X6 E6 G6 V6 L6
  clear hg P6
  by_cases hi : tk false [105, 102] r3.tail = true
  ·obtain ⟨-, hif, htr⟩ := tk_true hi
   rw [hi]
   rw [htr] at h7
   have zd := ZD.out
   rw [if_pos (show isT tIf r3.tail = true from hif)] at zd
   have ZE := hI zd
   have hl2 := isT_len hif
   have KI := hI (HI.out f0 (by omega) w7 r3.tail.tail (by have := HM.out; have := HEL.out; have := LEN.out (by first | rfl | trivial); omega) h7)
   clear h7 htr hi hif hl2 zd ZD
   go_wp2_with fail
   refine KI.out.mono ?_
   rintro e w8 ⟨st2, cs2, rfl, hx2, hg, hP⟩
   have HW7 := hI (show eb < w7.heap.size from E7.out.lt)
   have X8 := hI (X7.out.gr hg (by have := HGL.out; omega))
   have E8 := hI (E7.out.gr hg (by have := HGL.out; have := HE.out; omega))
   have G8 := hI (World.grownBy.trans G7.out hg)
   have V8 := hI (V7.out.gr (S' := fun k => w.heap.size < k /\ k ≠ eb) hg (fun k _ hk => ⟨by have := hk.1; have := HGL.out; omega, hk⟩))
   have L8 := hI (L7.out.gr (S' := fun k => w.heap.size < k /\ k ≠ eb) hg (fun k _ hk => ⟨by have := hk.1; have := HGL.out; omega, hk⟩))
   clear X7 E7 G7 V7 L7
   have HWG := hI hg.size
   obtain ⟨b8, r8, hps, hr8, hb8, ho8⟩ := Res.is_ex (x := st2) (P := pI f0 r3.tail.tail) (Q := fun b r => PSx L A n c g w8 b r) hP
   have ZC := hI (show ∀ Q : Bool -> List Tk -> Prop, Q b8 r8 -> PZ.is (.mk 3 [] 0 xx bl [st2]) Q from fun Q hq => by
    have ze := ZE.out
    cases b8 with
    | true => rw [hb8 rfl] at ze; rw [ze]; exact hq
    | false => rw [ho8 rfl] at ze; rw [ze]; exact ⟨rfl, hq⟩)
   have hx3 := hx2.more (S' := fun k => w.heap.size < k /\ k ≠ eb) fun k _ (hk : w7.heap.size <= k) => ⟨by have := HW7.out; have := HE.out; omega, by have := HW7.out; omega⟩
   obtain ⟨ss, hss⟩ : ∃ z, z = st2 := ⟨_, rfl⟩
   rw [<- hss] at ZC
   obtain ⟨j0, j1, j2, je, jb, jl⟩ := st2
   obtain ⟨ex2, B2, nb2, cb2, L2, nl2, cl2, rfl, hex, -, -⟩ := hx2.open_
   obtain ⟨q0, q1, q2, q3, qa, qo⟩ := je
   obtain ⟨A2, na2, ca2, O2, no2, co2, rfl, -, -⟩ := hex.open_
   obtain ⟨w9, hw9⟩ : ∃ W, W = w8.alloc (.cells #[.int .i64 j0, .string (bs j1), .int .i64 j2, .int .i64 q0, .int .i64 q1, .string (bs q2), .string (bs q3), .slice A2 na2 ca2, .slice O2 no2 co2, .slice B2 nb2 cb2, .slice L2 nl2 cl2] 74) := ⟨_, rfl⟩
   have hb9 : Below w8.heap.size w8 w9 := by rw [hw9]; exact (Below.refl _ _).alloc (Nat.le_refl _) _
   have hr9 : w9.heap[w8.heap.size]? = some (.cells #[.int .i64 j0, .string (bs j1), .int .i64 j2, .int .i64 q0, .int .i64 q1, .string (bs q2), .string (bs q3), .slice A2 na2 ca2, .slice O2 no2 co2, .slice B2 nb2 cb2, .slice L2 nl2 cl2] 74 (0, 0)) := by rw [hw9]; exact heap_alloc_new w8 _
   have M9 := hI (SL.one (S := fun k => w.heap.size < k /\ k ≠ eb) (hx3.below hb9) hr9 ⟨by have := HW7.out; have := HE.out; have := HWG.out; omega, by have := HW7.out; have := HWG.out; omega⟩)
   rw [<- hss] at M9
   have P9 := hI (hps.next hb9)
   have E9 := hI (E8.out.below hb9)
   have X9 := hI (X8.out.below hb9)
   have G9 := hI (gr_below G8.out hb9)
   have V9 := hI (V8.out.below hb9)
   have L9 := hI (L8.out.below hb9)
   clear hg hP hps hr8 hb8 ho8 KI ZE hx2 hx3 hex hb9 hr9 hss X8 E8 G8 V8 L8
   rw [show (stC j0 j1 j2 (exC q0 q1 q2 q3 A2 na2 ca2 O2 no2 co2) B2 nb2 cb2 L2 nl2 cl2).toArray = #[.int .i64 j0, .string (bs j1), .int .i64 j2, .int .i64 q0, .int .i64 q1, .string (bs q2), .string (bs q3), .slice A2 na2 ca2, .slice O2 no2 co2, .slice B2 nb2 cb2, .slice L2 nl2 cl2] from rfl]
   have cE : w9.cell? ⟨eb, 10, none⟩ = some (.slice none 0 0) := by rw [cell_of_row _ _ _ _ _ _ E9.out]; rfl
   have fE : w9.frozen? ⟨eb, 10, none⟩ = false := by simp [World.frozen?, show w9.heap[eb]? = _ from E9.out]
   have gs := gr_put w9 eb 10 (.slice (some ⟨w8.heap.size, 0, none⟩) 1 1)
   have ES := hI (E9.out.set 10 (.slice (some ⟨w8.heap.size, 0, none⟩) 1 1))
   have XS := hI (X9.out.gr gs (by have := HE.out; omega))
   have GS := hI (gr_step (B := 0) G9.out gs (Nat.le_of_lt HE.out))
   have VS := hI (V9.out.gr (S' := fun k => w.heap.size < k /\ k ≠ eb) gs (fun k _ hk => ⟨hk.2, hk⟩))
   have LS := hI (L9.out.gr (S' := fun k => w.heap.size < k /\ k ≠ eb) gs (fun k _ hk => ⟨hk.2, hk⟩))
   have MS := hI (M9.out.gr (S' := fun k => w.heap.size < k /\ k ≠ eb) gs (fun k _ hk => ⟨hk.2, hk⟩))
   have PS := hI (P9.out.other TBs.out gs (Nat.le_of_lt HE.out))
   clear X9 E9 G9 V9 L9 M9 P9 gs
   rw [hw9] at cE fE
   go_wp2_with (with_reducible refine at_load_ (t := 74) ?_; refine Hid.out ?_)
   refine hI ?_
   rw [<- hw9]
   clear hw9 cE fE
   generalize w9.setCell ⟨eb, 10, none⟩ (.slice (some ⟨w8.heap.size, 0, none⟩) 1 1) = wS at *
   refine sb_load rfl _ rfl eb rfl ES.out rfl ?_
   refine sb_put rfl _ _ rfl rfl w.heap.size rfl rfl (elv_of ..) XS.out rfl ?_
   intro wz hxz hgz hsz
   clear hsz
   have XZ := hI hxz
   have GZ := hI (gr_step (B := 0) GS.out hgz (Nat.le_refl _))
   have VZ := hI (VS.out.gr (S' := fun k => w.heap.size <= k) hgz (fun k _ hk => ⟨by have := hk.1; omega, by have := hk.1; omega⟩))
   have LZ := hI (LS.out.gr (S' := fun k => w.heap.size <= k) hgz (fun k _ hk => ⟨by have := hk.1; omega, by have := hk.1; omega⟩))
   have MZ := hI (MS.out.gr (S' := fun k => w.heap.size <= k) hgz (fun k _ hk => ⟨by have := hk.1; omega, by have := hk.1; omega⟩))
   have PZZ := hI (PS.out.other TBs.out hgz (Nat.le_refl _))
   clear hxz hgz XS ES GS VS LS PS MS
   go_wp2_with fail
   refine bodyPost_ret (sb_ret rfl _ _ w.heap.size _ rfl XZ.out rfl) rfl ?_
   exact ⟨.mk 3 [] 0 xx bl [ss], stC 3 [] 0 (exC k1 n1 s1 m1 A1 na1 ca1 O1 no1 co1) B mb kb (some ⟨w8.heap.size, 0, none⟩) 1 1, rfl, SV.shut (by unfold InR; omega) (by rw [HXX.out]; exact VZ.out) LZ.out MZ.out, GZ.out, ZC.out _ PZZ.out⟩
  obtain ⟨e1, e2⟩ := tk_false hi
  rw [e1]
  rw [e2] at h7
  have zd := ZD.out
  rw [if_neg (show ¬ isT tIf r3.tail = true from fun h => hi (by unfold tk; rw [show isT [105, 102] r3.tail = true from h]; rfl))] at zd
  have ZE := hI zd
  have KB2 := hI (HBL.out f0 (by omega) w7 false r3.tail (fun _ => by have := HM.out; have := HEL.out; have := LEN.out (by first | rfl | trivial); omega) h7)
  clear h7 e1 e2 hi zd ZD
  go_wp2_with fail
  refine KB2.out.mono ?_
  rintro e w8 ⟨l2, B2, mb2, kb2, rfl, hl, hg, hP⟩
  have M8 := hI (hl.more (S' := fun k => w.heap.size < k /\ k ≠ eb) fun k _ (hk : w7.heap.size <= k) => ⟨by have := E7.out.lt; have := HE.out; omega, by have := E7.out.lt; omega⟩)
  have X8 := hI (X7.out.gr hg (by have := HGL.out; omega))
  have E8 := hI (E7.out.gr hg (by have := HGL.out; have := HE.out; omega))
  have G8 := hI (World.grownBy.trans G7.out hg)
  have V8 := hI (V7.out.gr (S' := fun k => w.heap.size < k /\ k ≠ eb) hg (fun k _ hk => ⟨by have := hk.1; have := HGL.out; omega, hk⟩))
  have L8 := hI (L7.out.gr (S' := fun k => w.heap.size < k /\ k ≠ eb) hg (fun k _ hk => ⟨by have := hk.1; have := HGL.out; omega, hk⟩))
  clear X7 E7 G7 V7 L7
  obtain ⟨b8, r8, hps, hr8, hb8, ho8⟩ := Res.is_ex (x := l2) (P := pBl f0 r3.tail) (Q := fun b r => PSx L A n c g w8 b r) hP
  have P8 := hI hps
  have ZC := hI (show ∀ Q : Bool -> List Tk -> Prop, Q b8 r8 -> PZ.is (.mk 3 [] 0 xx bl l2) Q from fun Q hq => by
   have ze := ZE.out
   cases b8 with
   | true => rw [hb8 rfl] at ze; rw [ze]; exact hq
   | false => rw [ho8 rfl] at ze; rw [ze]; exact ⟨rfl, hq⟩)
  clear hl hg hP hps hr8 hb8 ho8 KB2 ZE
  have cE : w8.cell? ⟨eb, 10, none⟩ = some (.slice none 0 0) := by rw [cell_of_row _ _ _ _ _ _ E8.out]; rfl
  have fE : w8.frozen? ⟨eb, 10, none⟩ = false := by simp [World.frozen?, show w8.heap[eb]? = _ from E8.out]
  have gs := gr_put w8 eb 10 (.slice B2 mb2 kb2)
  have ES := hI (E8.out.set 10 (.slice B2 mb2 kb2))
  have XS := hI (X8.out.gr gs (by have := HE.out; omega))
  have GS := hI (gr_step (B := 0) G8.out gs (Nat.le_of_lt HE.out))
  have VS := hI (V8.out.gr (S' := fun k => w.heap.size < k /\ k ≠ eb) gs (fun k _ hk => ⟨hk.2, hk⟩))
  have LS := hI (L8.out.gr (S' := fun k => w.heap.size < k /\ k ≠ eb) gs (fun k _ hk => ⟨hk.2, hk⟩))
  have MS := hI (M8.out.gr (S' := fun k => w.heap.size < k /\ k ≠ eb) gs (fun k _ hk => ⟨hk.2, hk⟩))
  have PS := hI (P8.out.other TBs.out gs (Nat.le_of_lt HE.out))
  clear X8 E8 G8 V8 L8 M8 P8 gs
  go_wp2_with (with_reducible refine at_load_ (t := 74) ?_; refine Hid.out ?_)
  refine hI ?_
  clear cE fE
  generalize w8.setCell ⟨eb, 10, none⟩ (.slice B2 mb2 kb2) = wS at *
  refine sb_load rfl _ rfl eb rfl ES.out rfl ?_
  refine sb_put rfl _ _ rfl rfl w.heap.size rfl rfl (elv_of ..) XS.out rfl ?_
  intro wz hxz hgz hsz
  clear hsz
  have XZ := hI hxz
  have GZ := hI (gr_step (B := 0) GS.out hgz (Nat.le_refl _))
  have VZ := hI (VS.out.gr (S' := fun k => w.heap.size <= k) hgz (fun k _ hk => ⟨by have := hk.1; omega, by have := hk.1; omega⟩))
  have LZ := hI (LS.out.gr (S' := fun k => w.heap.size <= k) hgz (fun k _ hk => ⟨by have := hk.1; omega, by have := hk.1; omega⟩))
  have MZ := hI (MS.out.gr (S' := fun k => w.heap.size <= k) hgz (fun k _ hk => ⟨by have := hk.1; omega, by have := hk.1; omega⟩))
  have PZZ := hI (PS.out.other TBs.out hgz (Nat.le_refl _))
  clear hxz hgz XS ES GS VS LS PS MS
  go_wp2_with fail
  refine bodyPost_ret (sb_ret rfl _ _ w.heap.size _ rfl XZ.out rfl) rfl ?_
  exact ⟨.mk 3 [] 0 xx bl l2, stC 3 [] 0 (exC k1 n1 s1 m1 A1 na1 ca1 O1 no1 co1) B mb kb B2 mb2 kb2, rfl, SV.shut (by unfold InR; omega) (by rw [HXX.out]; exact VZ.out) LZ.out MZ.out, GZ.out, ZC.out _ PZZ.out⟩
 obtain ⟨e1, e2⟩ := tk_false ht
 rw [e1]
 rw [e2] at h6
 have P6 := hI h6
 have ZC := hI (show ∀ Q : Bool -> List Tk -> Prop, Q b3 r3 -> PZ.is (.mk 3 [] 0 xx bl []) Q from fun Q hq => by
  cases b3 with
  | true => rw [ZA.out rfl]; exact hq
  | false =>
   have hn : isT tElse r3 = false := by
    have e3 : isT [101, 108, 115, 101] r3 = false := by
     unfold tk at e1
     simpa using e1
    exact e3
   rw [ZB.out rfl, if_neg (by rw [hn]; simp)]
   exact ⟨rfl, hq⟩)
 clear h6 e1 e2 ht ZA ZB LEN
 go_wp2_with (with_reducible refine at_load_ (t := 74) ?_; refine Hid.out ?_)
 refine hI ?_
 refine sb_load rfl _ rfl eb rfl E6.out rfl ?_
 refine sb_put rfl _ _ rfl rfl w.heap.size rfl rfl (elv_of ..) X6.out rfl ?_
 intro wz hxz hgz hsz
 clear hsz
 have XZ := hI hxz
 have GZ := hI (gr_step (B := 0) G6.out hgz (Nat.le_refl _))
 have VZ := hI (V6.out.gr (S' := fun k => w.heap.size <= k) hgz (fun k _ hk => ⟨by have := hk.1; omega, by have := hk.1; omega⟩))
 have LZ := hI (L6.out.gr (S' := fun k => w.heap.size <= k) hgz (fun k _ hk => ⟨by have := hk.1; omega, by have := hk.1; omega⟩))
 have PZZ := hI (P6.out.other TBs.out hgz (Nat.le_refl _))
 clear hxz hgz X6 E6 G6 V6 L6 P6
 go_wp2_with fail
 refine bodyPost_ret (sb_ret rfl _ _ w.heap.size _ rfl XZ.out rfl) rfl ?_
 exact ⟨.mk 3 [] 0 xx bl [], stC 3 [] 0 (exC k1 n1 s1 m1 A1 na1 ca1 O1 no1 co1) B mb kb none 0 0, rfl, SV.shut (by unfold InR; omega) (by rw [HXX.out]; exact VZ.out) LZ.out (SL.nil_ _ _), GZ.out, ZC.out _ PZZ.out⟩
open Go.RowKit
/-- A result, and a semicolon behind it. -/
def sEnd (k : Ex -> St) (P : Res Ex) : Res St := match P with
 | .bad r => .bad r
 | .ok e r => if isT [59] r = true then .ok (k e) r.tail else .bad r
theorem sEnd_is {k : Ex -> St} {P : Res Ex} {x : Ex} {b : Bool} {r : List Tk} (hb : b = true -> P = .bad r) (ho : b = false -> P = .ok x r) (Q : Bool -> List Tk -> Prop) (q : Q (b || !isT [59] r) (tkR b [59] r)) : (sEnd k P).is (k x) Q := by
 cases b with
 | true => rw [hb rfl]; exact q
 | false =>
  rw [ho rfl]
  unfold sEnd tkR tk at *
  cases hi : isT [59] r with
  | true => simp only [hi] at q ⊢; exact ⟨rfl, by simpa using q⟩
  | false => simp only [hi] at q ⊢; simpa [Res.is] using q
/-- A name and an equality sign, then an expression. -/
def lEnd (k : Str -> Ex -> St) (R : List Tk) : Res St := if kindT R = 1 then if isT [61] R.tail = true then sEnd (k (textT R)) (pE R.tail.tail) else .bad R.tail else .bad R
theorem lEnd_eq (k : Str -> Ex -> St) (R : List Tk) : lEnd k R = sEnd (k (wdS false 1 R)) (if (wdB false 1 R || !isT [61] (wdR false 1 R)) = true then .bad (tkR (wdB false 1 R) [61] (wdR false 1 R)) else pE (tkR (wdB false 1 R) [61] (wdR false 1 R))) := by
 unfold lEnd
 by_cases hk : kindT R = 1
 ·have e1 : wdB false 1 R = false := by simp [wdB, hk]
  obtain ⟨-, -, e2, e3⟩ := wd_false e1
  rw [e1, e2, e3, if_pos hk]
  cases h : isT [61] R.tail with
  | true =>
   have e : tkR false [61] R.tail = R.tail.tail := if_pos (by unfold tk; rw [h]; rfl)
   rw [e]; rfl
  | false =>
   have e : tkR false [61] R.tail = R.tail := if_neg (by unfold tk; rw [h]; simp)
   rw [e]; rfl
 have e1 : wdB false 1 R = true := by simp [wdB, hk]
 obtain ⟨e2, e3⟩ := wd_true e1
 rw [e1, e2, e3, if_neg hk]
 rfl
/-- A number and a semicolon. -/
def aEnd (R : List Tk) : Res St := if kindT R = 2 then if isT [59] R.tail = true then .ok (.mk 6 [] (numT (textT R)) emE [] []) R.tail.tail else .bad R.tail else .bad R
theorem aEnd_is (R : List Tk) (Q : Bool -> List Tk -> Prop) (q : Q (wdB false 2 R || !isT [59] (wdR false 2 R)) (tkR (wdB false 2 R) [59] (wdR false 2 R))) : (aEnd R).is (.mk 6 [] (nbV false R) emE [] []) Q := by
 unfold aEnd
 by_cases hk : kindT R = 2
 ·have e1 : wdB false 2 R = false := by simp [wdB, hk]
  obtain ⟨-, -, -, e3⟩ := wd_false e1
  have e4 : nbV false R = numT (textT R) := if_neg (by rintro (e | e); cases e; exact e hk)
  rw [e1, e3] at q
  rw [e4, if_pos hk]
  cases h : isT [59] R.tail with
  | true =>
   have e : tkR false [59] R.tail = R.tail.tail := if_pos (by unfold tk; rw [h]; rfl)
   rw [h, e] at q
   exact ⟨rfl, q⟩
  | false =>
   have e : tkR false [59] R.tail = R.tail := if_neg (by unfold tk; rw [h]; simp)
   rw [h, e] at q
   exact q
 have e1 : wdB false 2 R = true := by simp [wdB, hk]
 obtain ⟨e2, e3⟩ := wd_true e1
 rw [e1, e3] at q
 rw [if_neg hk]
 exact q
/-- A number and a block. -/
def rEnd (f : Nat) (R : List Tk) : Res St := if kindT R = 2 then match pBl f R.tail with
    | .bad r => .bad r
    | .ok b r => .ok (.mk 4 [] (numT (textT R)) emE b []) r
   else .bad R
theorem rEnd_is {f : Nat} {R : List Tk} {l : List St} {b : Bool} {r : List Tk} (hb : b = true -> (if wdB false 2 R = true then .bad (wdR false 2 R) else pBl f (wdR false 2 R)) = .bad r)
  (ho : b = false -> (if wdB false 2 R = true then .bad (wdR false 2 R) else pBl f (wdR false 2 R)) = .ok l r) (Q : Bool -> List Tk -> Prop) (q : Q b r) : (rEnd f R).is (.mk 4 [] (nbV false R) emE l []) Q := by
 unfold rEnd
 by_cases hk : kindT R = 2
 ·have e1 : wdB false 2 R = false := by simp [wdB, hk]
  obtain ⟨-, -, -, e3⟩ := wd_false e1
  have e4 : nbV false R = numT (textT R) := if_neg (by rintro (e | e); cases e; exact e hk)
  rw [e1, e3] at hb ho
  rw [e4, if_pos hk]
  cases b with
  | true =>
   have h := hb rfl
   rw [if_neg (by simp)] at h
   rw [h]; exact q
  | false =>
   have h := ho rfl
   rw [if_neg (by simp)] at h
   rw [h]; exact ⟨rfl, q⟩
 have e1 : wdB false 2 R = true := by simp [wdB, hk]
 obtain ⟨e2, e3⟩ := wd_true e1
 rw [e1, e3] at hb ho
 rw [if_neg hk]
 cases b with
 | true =>
  have h := hb rfl
  rw [if_pos rfl] at h
  injection h with h
  subst h
  exact q
 | false =>
  have h := ho rfl
  rw [if_pos rfl] at h
  cases h
/-- What the default case answers: a call or an assignment. -/
def dEnd (P : Res Ex) (R : List Tk) : Res St := if kindT R = 1 then
   if isT [46] R.tail = true then sEnd (fun e => .mk 2 [] 0 e [] []) P
   else if isT [61] R.tail = true then sEnd (fun e => .mk 1 (textT R) 0 e [] []) (pE R.tail.tail) else .bad R.tail
  else .bad R
theorem dEnd_call {P : Res Ex} {R : List Tk} (h : tk (wdB false 1 R) [46] (wdR false 1 R) = true) : wdB false 1 R = false /\ wdR false 1 R = R.tail /\ wdS false 1 R = textT R /\ dEnd P R = sEnd (fun e => .mk 2 [] 0 e [] []) P := by
 obtain ⟨h1, h2, h3⟩ := tk_true h
 obtain ⟨-, h4, h5, h6⟩ := wd_false h1
 rw [h6] at h2
 refine ⟨h1, h6, h5, ?_⟩
 unfold dEnd
 rw [if_pos h4, if_pos h2]
theorem dEnd_set {P : Res Ex} {R : List Tk} (h : ¬ tk (wdB false 1 R) [46] (wdR false 1 R) = true) : dEnd P R = lEnd (fun s e => .mk 1 s 0 e [] []) R := by
 unfold dEnd lEnd
 by_cases hk : kindT R = 1
 ·have e1 : wdB false 1 R = false := by simp [wdB, hk]
  obtain ⟨-, -, -, e3⟩ := wd_false e1
  rw [e1, e3] at h
  rw [if_pos hk, if_pos hk, if_neg (fun e => h (by unfold tk; rw [e]; rfl))]
 rw [if_neg hk, if_neg hk]
theorem pS_eq (f : Nat) (R : List Tk) : pS (f + 1) R =
  if isT tIf R = true then pI f R.tail
  else if isT tRep R = true then rEnd f R.tail
  else if isT tLet R = true then lEnd (fun s e => .mk 0 s 0 e [] []) R.tail
  else if isT tRet R = true then sEnd (fun e => .mk 5 [] 0 e [] []) (pE R.tail)
  else if isT tAbt R = true then aEnd R.tail
  else if isT tHost R = true then sEnd (fun e => .mk 2 [] 0 e [] []) (pH (8 * R.length + 7) R.tail)
  else dEnd (pK (8 * R.length + 7) (textT R) R.tail) R := by
 rw [pS]
 rfl
theorem nb_rng {L : List Lx.Tok} {A : Option Addr} {n c g : Nat} {w : World} {bad : Bool} {R : List Tk} (h : PSx L A n c g w bad R) (b : Bool) : InR (nbV b R) := by
 unfold nbV
 split
 ·unfold InR; omega
 rename_i e
 exact h.rng (Classical.not_not.1 fun k => e (.inr k))
section
variable {ops : Array Oper} {rest : List Oper} {a : Act} {w : World} {Q : Exit -> Act -> World -> Prop} {o : Oper}
theorem sb_putx (hg : o.guard = none) (x y : Operand) (ho : o.op = .store 27 x y) (hd : o.dst = none) (r : Nat) (hx : a.eval x = .pointer (some ⟨r, 3, none⟩)) {a0 a1 a2 c0 c1 c2 c3 c4 c5 a9 a10 u0 u1 u2 u3 u4 u5 : Value} (hy : a.eval y = .agg #[u0, u1, u2, u3, u4, u5]) (h6 : Six #[u0, u1, u2, u3, u4, u5]) (hb : SB w r #[a0, a1, a2, c0, c1, c2, c3, c4, c5, a9, a10])
  (h : ∀ w', SB w' r #[a0, a1, a2, u0, u1, u2, u3, u4, u5, a9, a10] -> w.grownBy w' (some r) -> w'.heap.size = w.heap.size -> wpList Tryz.prog ops Q rest a w') : wpList Tryz.prog ops Q (o :: rest) a w := by
 refine wpList_plain hg fun K hK => ?_
 refine wp_store_at 27 x y ho r 3 #[u0, u1, u2, u3, u4, u5] hx hy _ _ hb ex_size (show 3 + 6 <= 11 from by omega) h6.2 ?_
 rw [hd]
 exact hK _ _ (h _ (setRow_heap _ _ _ _ _ _ hb) ⟨rfl, rfl, rfl, Nat.le_of_eq (by simp [World.setRow]), fun k _ hk => setRow_other _ _ _ _ (fun e => hk (by rw [e]))⟩ (by simp [World.setRow]))
end
open Go.RowKit
theorem statement_gen (L : List Lx.Tok) (A : Option Addr) (n c g : Nat) (w : World) (R : List Tk) (h : PSx L A n c g w false R) (f : Nat)
  (hBl : ∀ f', f' < f -> ∀ W b R', (b = false -> 4 * R'.length + 1 <= f') -> PSx L A n c g W b R' -> Calls Tryz.prog 58 #[.pointer (some ⟨g, 0, none⟩)] W (TP L A n c g W (if b = true then .bad R' else pBl f' R')))
  (hIq : ∀ f', f' < f -> ∀ W R', 4 * R'.length + 2 <= f' -> PSx L A n c g W false R' -> Calls Tryz.prog 114 #[.pointer (some ⟨g, 0, none⟩)] W (SP L A n c g W (pI f' R')))
  (hm : 4 * R.length + 3 <= f) :
  Calls Tryz.prog 89 #[.pointer (some ⟨g, 0, none⟩)] w (SP L A n c g w (pS f R)) := by
 obtain ⟨PZ, hPZ⟩ : ∃ z, z = pS f R := ⟨_, rfl⟩
 rw [<- hPZ]
 obtain ⟨f0, rfl⟩ : ∃ f0, f = f0 + 1 := ⟨f - 1, by omega⟩
 rw [pS_eq] at hPZ
 have HZ := hI hPZ
 obtain ⟨wa, hwa⟩ : ∃ wa, wa = w.alloc (.cells #[.int .i64 0, .string { data := #[] }, .int .i64 0, .int .i64 0, .int .i64 0, .string { data := #[] }, .string { data := #[] }, .slice none 0 0, .slice none 0 0, .slice none 0 0, .slice none 0 0] 74) := ⟨_, rfl⟩
 obtain ⟨w0, hwb⟩ : ∃ wb, wb = wa.alloc (.cells #[.int .i64 0, .string { data := #[] }, .int .i64 0, .int .i64 0, .int .i64 0, .string { data := #[] }, .string { data := #[] }, .slice none 0 0, .slice none 0 0, .slice none 0 0, .slice none 0 0] 74) := ⟨_, rfl⟩
 have hba : Below w.heap.size w wa := by rw [hwa]; exact (Below.refl _ _).alloc (Nat.le_refl _) _
 have hsa : wa.heap.size = w.heap.size + 1 := by rw [hwa]; exact World.size_alloc ..
 have hbb : Below wa.heap.size wa w0 := by rw [hwb]; exact (Below.refl _ _).alloc (Nat.le_refl _) _
 have X := hI (show SB w0 w.heap.size #[.int .i64 0, .string { data := #[] }, .int .i64 0, .int .i64 0, .int .i64 0, .string { data := #[] }, .string { data := #[] }, .slice none 0 0, .slice none 0 0, .slice none 0 0, .slice none 0 0] from SB.below (w := wa) (by rw [hwa]; exact heap_alloc_new w _) hbb)
 have E := hI (show SB w0 (w.heap.size + 1) #[.int .i64 0, .string { data := #[] }, .int .i64 0, .int .i64 0, .int .i64 0, .string { data := #[] }, .string { data := #[] }, .slice none 0 0, .slice none 0 0, .slice none 0 0, .slice none 0 0] from by rw [<- hsa, hwb]; exact heap_alloc_new wa _)
 have TBs := hI h.base
 have G := hI (gr_below (Below.grown_ hba (some g)) hbb)
 have HGL := hI h.lt
 have HBL := hI hBl
 have HI := hI hIq
 have HM := hI hm
 have P := hI ((h.next hba).next hbb)
 have HE := hI (show w.heap.size < w.heap.size + 1 from Nat.lt_succ_self _)
 clear h hBl hIq hm hPZ hba hbb hsa
 rw [hwa] at hwb
 go_enter Tryz.func89, Tryz.ntmps89
 go_upto_region 7 with fail
 rw [<- hwb]
 clear hwb hwa
 generalize w.heap.size + 1 = eb at *
 go_wp2_with fail
 refine (take_any L A n c g _ false R P.out [105, 102]).mono ?_
 rintro e w1 ⟨rfl, h2, hg⟩
 obtain hX := X.out
 obtain hE := E.out
 obtain hG := G.out
 clear X E G
 have X := hI (hX.gr hg (by have := HGL.out; omega))
 have E := hI (hE.gr hg (by have := HGL.out; have := HE.out; omega))
 have G := hI (World.grownBy.trans hG hg)
 clear hX hE hG
 clear P hg
 by_cases ht : tk false [105, 102] R = true
 ·obtain ⟨-, hi, htr⟩ := tk_true ht
  rw [htr] at h2
  have P := hI h2
  rw [ht]
  have hz := HZ.out
  rw [if_pos (show isT tIf R = true from hi)] at hz
  have HZ1 := hI hz
  have HTL := hI (isT_len hi)
  clear hz HZ h2 htr ht hi
  have KI := hI (HI.out f0 (by omega) w1 R.tail (by have := HM.out; have := HTL.out; omega) P.out)
  clear P HBL HI
  go_wp2_with fail
  refine KI.out.mono ?_
  rintro e wa ⟨st, cs, rfl, hx, hg, hP⟩
  have HV := hI (hx.more (S' := fun k => w.heap.size < k) fun k _ (hk : w1.heap.size <= k) => by have := X.out.lt; omega)
  have HP := hI hP
  obtain hX := X.out
  obtain hE := E.out
  obtain hG := G.out
  clear X E G
  have X := hI (hX.gr hg (by have := HGL.out; omega))
  have E := hI (hE.gr hg (by have := HGL.out; have := HE.out; omega))
  have G := hI (World.grownBy.trans hG hg)
  clear hX hE hG
  clear hx hg hP KI E
  go_wp2_with (with_reducible refine at_store_ (t := 74) ?_; refine Hid.out ?_)
  refine hI ?_
  refine sb_put rfl _ _ rfl rfl w.heap.size rfl rfl HV.out.elv X.out rfl ?_
  intro wz hxz hgz hsz
  clear hsz
  have XZ := hI hxz
  have GZ := hI (gr_step (B := 0) G.out hgz (Nat.le_refl _))
  have VZ := hI (HV.out.gr (S' := fun k => w.heap.size <= k) hgz (fun k _ (hk : w.heap.size < k) => ⟨by omega, by omega⟩))
  have PZZ := hI (Res.is_imp HP.out fun b r h => h.other TBs.out hgz (Nat.le_refl _))
  clear hxz hgz X G HP HV
  go_wp2_with fail
  refine bodyPost_ret (sb_ret rfl _ _ w.heap.size _ rfl XZ.out (by first | rfl | exact VZ.out.elv.1)) rfl ?_
  refine ⟨_, _, rfl, VZ.out, GZ.out, ?_⟩
  rw [HZ1.out]
  exact PZZ.out
 obtain ⟨hf, htr⟩ := tk_false ht
 rw [htr] at h2
 have P := hI h2
 have hz := HZ.out
 rw [if_neg (show ¬ isT tIf R = true from fun h => ht (by unfold tk; rw [show isT [105, 102] R = true from h]; rfl))] at hz
 clear HZ
 have HZ := hI hz
 rw [hf]
 clear hz h2 htr ht hf
 go_wp2_with fail
 refine (take_any L A n c g _ false R P.out [114, 101, 112, 101, 97, 116]).mono ?_
 rintro e w2 ⟨rfl, h2, hg⟩
 obtain hX := X.out
 obtain hE := E.out
 obtain hG := G.out
 clear X E G
 have X := hI (hX.gr hg (by have := HGL.out; omega))
 have E := hI (hE.gr hg (by have := HGL.out; have := HE.out; omega))
 have G := hI (World.grownBy.trans hG hg)
 clear hX hE hG
 clear P hg
 by_cases ht : tk false [114, 101, 112, 101, 97, 116] R = true
 ·obtain ⟨-, hi, htr⟩ := tk_true ht
  rw [htr] at h2
  have P := hI h2
  rw [ht]
  have hz := HZ.out
  rw [if_pos (show isT tRep R = true from hi)] at hz
  have HZ1 := hI hz
  have HTL := hI (isT_len hi)
  clear hz HZ h2 htr ht hi
  have ZR := hI (show ∀ (l : List St) (b : Bool) (r : List Tk), (b = true -> (if wdB false 2 R.tail = true then .bad (wdR false 2 R.tail) else pBl f0 (wdR false 2 R.tail)) = .bad r) -> (b = false -> (if wdB false 2 R.tail = true then .bad (wdR false 2 R.tail) else pBl f0 (wdR false 2 R.tail)) = .ok l r) -> ∀ Q : Bool -> List Tk -> Prop, Q b r -> PZ.is (.mk 4 [] (nbV false R.tail) emE l []) Q from fun l b r hb ho Q q => by rw [HZ1.out]; exact rEnd_is hb ho Q q)
  clear HZ1 HI
  have k2 := number_any L A n c g w2 false R.tail P.out
  have HVR := hI (nb_rng P.out false)
  have HLR := hI (wd_len false 2 R.tail)
  clear P
  generalize nbV false R.tail = v at *
  generalize wdB false 2 R.tail = b2 at *
  generalize wdR false 2 R.tail = R2 at *
  have K2 := hI k2
  clear k2
  go_wp2_with fail
  refine K2.out.mono ?_
  rintro e wa ⟨rfl, h2, hg⟩
  have P := hI h2
  obtain hX := X.out
  obtain hE := E.out
  obtain hG := G.out
  clear X E G
  have X := hI (hX.gr hg (by have := HGL.out; omega))
  have E := hI (hE.gr hg (by have := HGL.out; have := HE.out; omega))
  have G := hI (World.grownBy.trans hG hg)
  clear hX hE hG
  clear h2 hg K2
  go_wp2_with (with_reducible refine at_store_ (t := 74) ?_; refine Hid.out ?_)
  refine hI ?_
  refine sb_put rfl _ _ rfl rfl eb rfl rfl (elv_of ..) E.out rfl ?_
  intro wb hxz hgz hsz
  clear hsz
  obtain hX := X.out
  obtain hG := G.out
  obtain hP := P.out
  clear X E G P
  have E := hI hxz
  have X := hI (hX.gr hgz (by have := HE.out; omega))
  have G := hI (gr_step (B := 0) hG hgz (Nat.le_of_lt HE.out))
  have P := hI (hP.other TBs.out hgz (Nat.le_of_lt HE.out))
  clear hX hG hP
  clear hxz hgz
  have KB := hI (HBL.out f0 (by omega) wb b2 R2 (fun _ => by have := HM.out; have := HTL.out; have := HLR.out; omega) P.out)
  clear P HBL
  generalize hPB : (if b2 = true then Res.bad R2 else pBl f0 R2) = PB at *
  clear hPB
  go_wp2_with fail
  refine KB.out.mono ?_
  rintro e wc ⟨bl, B, mb, kb, rfl, hl, hg, hP⟩
  obtain ⟨b3, r3, hps, -, hb3, ho3⟩ := Res.is_ex (x := bl) (P := PB) (Q := fun b r => PSx L A n c g wc b r) hP
  have ZC := hI (ZR.out bl b3 r3 hb3 ho3)
  have hL := hl.more (S' := fun k => w.heap.size < k /\ k ≠ eb) fun k _ (hk : wb.heap.size <= k) => by have := HE.out; have := E.out.lt; exact ⟨by omega, by omega⟩
  obtain hX := X.out
  obtain hE := E.out
  obtain hG := G.out
  clear X E G
  have X := hI (hX.gr hg (by have := HGL.out; omega))
  have E := hI (hE.gr hg (by have := HGL.out; have := HE.out; omega))
  have G := hI (World.grownBy.trans hG hg)
  clear hX hE hG
  have g5 := gr_put wc eb 9 (.slice B mb kb)
  have cE : wc.cell? ⟨eb, 9, none⟩ = some (.slice none 0 0) := by rw [cell_of_row _ _ _ _ _ _ E.out]; rfl
  have fE : wc.frozen? ⟨eb, 9, none⟩ = false := by simp [World.frozen?, show wc.heap[eb]? = _ from E.out]
  obtain hX := X.out
  obtain hE := E.out
  obtain hG := G.out
  clear X E G
  have E := hI (hE.set 9 (.slice B mb kb))
  have X := hI (hX.gr g5 (by have := HE.out; omega))
  have G := hI (gr_step (B := 0) hG g5 (Nat.le_of_lt HE.out))
  have LB := hI (hL.gr (S' := fun k => w.heap.size < k /\ k ≠ eb) g5 (fun k _ hk => ⟨hk.2, hk⟩))
  have P := hI (hps.other TBs.out g5 (Nat.le_of_lt HE.out))
  clear hX hE hG hl hg hP hps hb3 ho3 hL KB ZR g5
  go_upto_region 12 with fail
  clear cE fE
  generalize wc.setCell ⟨eb, 9, none⟩ (.slice B mb kb) = wd at *
  go_wp2_with (with_reducible refine at_load_ (t := 74) ?_; refine Hid.out ?_)
  refine hI ?_
  refine sb_load rfl _ rfl eb rfl E.out rfl ?_
  refine sb_put rfl _ _ rfl rfl w.heap.size rfl rfl (elv_of ..) X.out rfl ?_
  intro wz hxz hgz hsz
  clear hsz
  have XZ := hI hxz
  have GZ := hI (gr_step (B := 0) G.out hgz (Nat.le_refl _))
  have LZ := hI (LB.out.gr (S' := fun k => w.heap.size <= k) hgz (fun k _ hk => ⟨by have := hk.1; omega, by have := hk.1; omega⟩))
  have PZZ := hI (P.out.other TBs.out hgz (Nat.le_refl _))
  clear hxz hgz X E G P
  go_wp2_with fail
  refine bodyPost_ret (sb_ret rfl _ _ w.heap.size _ rfl XZ.out rfl) rfl ?_
  exact ⟨.mk 4 [] v emE bl [], stC 4 [] v (exC 0 0 [] [] none 0 0 none 0 0) B mb kb none 0 0, rfl, SV.shut HVR.out (XV.shut (by unfold InR; omega) (XL.nil_ _ _) (XL.nil_ _ _)) LZ.out (SL.nil_ _ _), GZ.out, ZC.out _ PZZ.out⟩
 obtain ⟨hf, htr⟩ := tk_false ht
 rw [htr] at h2
 have P := hI h2
 have hz := HZ.out
 rw [if_neg (show ¬ isT tRep R = true from fun h => ht (by unfold tk; rw [show isT [114, 101, 112, 101, 97, 116] R = true from h]; rfl))] at hz
 clear HZ
 have HZ := hI hz
 rw [hf]
 clear hz h2 htr ht hf
 go_wp2_with fail
 refine (take_any L A n c g _ false R P.out [108, 101, 116]).mono ?_
 rintro e w3 ⟨rfl, h2, hg⟩
 obtain hX := X.out
 obtain hE := E.out
 obtain hG := G.out
 clear X E G
 have X := hI (hX.gr hg (by have := HGL.out; omega))
 have E := hI (hE.gr hg (by have := HGL.out; have := HE.out; omega))
 have G := hI (World.grownBy.trans hG hg)
 clear hX hE hG
 clear P hg
 by_cases ht : tk false [108, 101, 116] R = true
 ·obtain ⟨-, hi, htr⟩ := tk_true ht
  rw [htr] at h2
  have P := hI h2
  rw [ht]
  have hz := HZ.out
  rw [if_pos (show isT tLet R = true from hi)] at hz
  have HZ1 := hI hz
  have HTL := hI (isT_len hi)
  clear hz HZ h2 htr ht hi
  have hz := HZ1.out
  rw [lEnd_eq] at hz
  clear HZ1 HI HBL
  have k2 := name_any L A n c g w3 false R.tail P.out
  clear P
  generalize wdS false 1 R.tail = s at *
  generalize wdB false 1 R.tail = b2 at *
  generalize wdR false 1 R.tail = R2 at *
  have K2 := hI k2
  clear k2
  have HZ2 := hI hz
  clear hz
  go_wp2_with fail
  refine K2.out.mono ?_
  rintro e wa ⟨rfl, h2, hg⟩
  have P := hI h2
  obtain hX := X.out
  obtain hE := E.out
  obtain hG := G.out
  clear X E G
  have X := hI (hX.gr hg (by have := HGL.out; omega))
  have E := hI (hE.gr hg (by have := HGL.out; have := HE.out; omega))
  have G := hI (World.grownBy.trans hG hg)
  clear hX hE hG
  clear h2 hg K2
  go_wp2_with (with_reducible refine at_store_ (t := 74) ?_; refine Hid.out ?_)
  refine hI ?_
  refine sb_put rfl _ _ rfl rfl eb rfl rfl (elv_of ..) E.out rfl ?_
  intro wb hxz hgz hsz
  clear hsz
  obtain hX := X.out
  obtain hG := G.out
  obtain hP := P.out
  clear X E G P
  have E := hI hxz
  have X := hI (hX.gr hgz (by have := HE.out; omega))
  have G := hI (gr_step (B := 0) hG hgz (Nat.le_of_lt HE.out))
  have P := hI (hP.other TBs.out hgz (Nat.le_of_lt HE.out))
  clear hX hG hP
  clear hxz hgz
  have hb0 := (Below.refl wb.heap.size wb).alloc (Nat.le_refl _) (.cells #[.string { data := #[61] }] 9)
  have KT := hI (need_any L A n c g _ b2 R2 (P.out.next hb0) [61] wb.heap.size (by simp) (by have := P.out.lt; omega) (by rw [cell_of_row _ _ _ _ _ _ (heap_alloc_new wb _)]; rfl))
  obtain hX := X.out
  obtain hE := E.out
  obtain hG := G.out
  clear X E G
  have X := hI (hX.below hb0)
  have E := hI (hE.below hb0)
  have G := hI (gr_below hG hb0)
  clear hX hE hG
  clear hb0 P
  obtain hz := HZ2.out
  clear HZ2
  generalize (b2 || !isT [61] R2) = b3 at *
  generalize tkR b2 [61] R2 = R3 at *
  have HZ2 := hI hz
  clear hz
  go_wp2_with fail
  refine KT.out.mono ?_
  rintro e wc ⟨rfl, ht, hg⟩
  have P := hI ht
  obtain hX := X.out
  obtain hE := E.out
  obtain hG := G.out
  clear X E G
  have X := hI (hX.gr hg (by have := HGL.out; omega))
  have E := hI (hE.gr hg (by have := HGL.out; have := HE.out; omega))
  have G := hI (World.grownBy.trans hG hg)
  clear hX hE hG
  clear ht hg KT
  have KE := hI (expr_any wc b3 R3 P.out)
  go_wp2_with fail
  refine KE.out.mono ?_
  rintro e wd ⟨x, cs, rfl, hx, hg, hP⟩
  obtain ⟨b4, r4, hps, -, hb4, ho4⟩ := Res.is_ex (x := x) (P := (if b3 = true then .bad R3 else pE R3)) (Q := fun b r => PSx L A n c g wd b r) hP
  have ZC := hI (show ∀ Q : Bool -> List Tk -> Prop, Q (b4 || !isT [59] r4) (tkR b4 [59] r4) -> PZ.is (.mk 0 s 0 x [] []) Q from fun Q q => by rw [HZ2.out]; exact sEnd_is hb4 ho4 Q q)
  clear P
  have P := hI hps
  have hV := hx.more (S' := fun k => w.heap.size < k /\ k ≠ eb) fun k _ (hk : wc.heap.size <= k) => by have := HE.out; have := E.out.lt; exact ⟨by omega, by omega⟩
  obtain ⟨xx, hxx⟩ : ∃ z, z = x := ⟨_, rfl⟩
  have HXX := hI hxx
  rw [<- hxx] at ZC
  obtain ⟨k1, n1, s1, m1, a1, o1⟩ := x
  obtain ⟨A1, na1, ca1, O1, no1, co1, rfl, -, -⟩ := hx.open_
  have V := hI hV
  obtain hX := X.out
  obtain hE := E.out
  obtain hG := G.out
  clear X E G
  have X := hI (hX.gr hg (by have := HGL.out; omega))
  have E := hI (hE.gr hg (by have := HGL.out; have := HE.out; omega))
  have G := hI (World.grownBy.trans hG hg)
  clear hX hE hG
  clear hx hg hP hV hps hb4 ho4 hxx KE
  unfold exC
  go_wp2_with (with_reducible refine at_store_ (t := 27) ?_; refine Hid.out ?_)
  refine hI ?_
  refine sb_putx rfl _ _ rfl rfl eb rfl rfl (six_of ..) E.out ?_
  intro we hxz hgz hsz
  clear hsz
  obtain hX := X.out
  obtain hG := G.out
  obtain hP := P.out
  clear X E G P
  have E := hI hxz
  have X := hI (hX.gr hgz (by have := HE.out; omega))
  have G := hI (gr_step (B := 0) hG hgz (Nat.le_of_lt HE.out))
  have P := hI (hP.other TBs.out hgz (Nat.le_of_lt HE.out))
  clear hX hG hP
  have hV := hI (V.out.gr (S' := fun k => w.heap.size < k /\ k ≠ eb) hgz (fun k _ hk => ⟨hk.2, hk⟩))
  clear V
  have V := hV
  clear hV
  clear hxz hgz
  have hb0 := (Below.refl we.heap.size we).alloc (Nat.le_refl _) (.cells #[.string { data := #[59] }] 9)
  have KT := hI (need_any L A n c g _ b4 r4 (P.out.next hb0) [59] we.heap.size (by simp) (by have := P.out.lt; omega) (by rw [cell_of_row _ _ _ _ _ _ (heap_alloc_new we _)]; rfl))
  obtain hX := X.out
  obtain hE := E.out
  obtain hG := G.out
  clear X E G
  have X := hI (hX.below hb0)
  have E := hI (hE.below hb0)
  have G := hI (gr_below hG hb0)
  clear hX hE hG
  have hV := hI (V.out.below hb0)
  clear V
  have V := hV
  clear hV
  clear hb0 P
  go_wp2_with fail
  refine KT.out.mono ?_
  rintro e wt ⟨rfl, ht, hg⟩
  have P := hI ht
  obtain hX := X.out
  obtain hE := E.out
  obtain hG := G.out
  clear X E G
  have X := hI (hX.gr hg (by have := HGL.out; omega))
  have E := hI (hE.gr hg (by have := HGL.out; have := HE.out; omega))
  have G := hI (World.grownBy.trans hG hg)
  clear hX hE hG
  have hV := hI (V.out.gr (S' := fun k => w.heap.size < k /\ k ≠ eb) hg (fun k _ hk => ⟨by have := hk.1; have := HGL.out; omega, hk⟩))
  clear V
  have V := hV
  clear hV
  clear ht hg KT
  go_wp2_with (with_reducible refine at_load_ (t := 74) ?_; refine Hid.out ?_)
  refine hI ?_
  refine sb_load rfl _ rfl eb rfl E.out rfl ?_
  refine sb_put rfl _ _ rfl rfl w.heap.size rfl rfl (elv_of ..) X.out rfl ?_
  intro wz hxz hgz hsz
  clear hsz
  have XZ := hI hxz
  have GZ := hI (gr_step (B := 0) G.out hgz (Nat.le_refl _))
  have VZ := hI (V.out.gr (S' := fun k => w.heap.size <= k) hgz (fun k _ hk => ⟨by have := hk.1; omega, by have := hk.1; omega⟩))
  have PZZ := hI (P.out.other TBs.out hgz (Nat.le_refl _))
  clear hxz hgz X E G P
  go_wp2_with fail
  refine bodyPost_ret (sb_ret rfl _ _ w.heap.size _ rfl XZ.out rfl) rfl ?_
  exact ⟨.mk 0 s 0 xx [] [], stC 0 s 0 (exC k1 n1 s1 m1 A1 na1 ca1 O1 no1 co1) none 0 0 none 0 0, rfl, SV.shut (by unfold InR; omega) (by rw [HXX.out]; exact VZ.out) (SL.nil_ _ _) (SL.nil_ _ _), GZ.out, ZC.out _ PZZ.out⟩
 obtain ⟨hf, htr⟩ := tk_false ht
 rw [htr] at h2
 have P := hI h2
 have hz := HZ.out
 rw [if_neg (show ¬ isT tLet R = true from fun h => ht (by unfold tk; rw [show isT [108, 101, 116] R = true from h]; rfl))] at hz
 clear HZ
 have HZ := hI hz
 rw [hf]
 clear hz h2 htr ht hf
 go_wp2_with fail
 refine (take_any L A n c g _ false R P.out [114, 101, 116, 117, 114, 110]).mono ?_
 rintro e w4 ⟨rfl, h2, hg⟩
 obtain hX := X.out
 obtain hE := E.out
 obtain hG := G.out
 clear X E G
 have X := hI (hX.gr hg (by have := HGL.out; omega))
 have E := hI (hE.gr hg (by have := HGL.out; have := HE.out; omega))
 have G := hI (World.grownBy.trans hG hg)
 clear hX hE hG
 clear P hg
 by_cases ht : tk false [114, 101, 116, 117, 114, 110] R = true
 ·obtain ⟨-, hi, htr⟩ := tk_true ht
  rw [htr] at h2
  have P := hI h2
  rw [ht]
  have hz := HZ.out
  rw [if_pos (show isT tRet R = true from hi)] at hz
  have HZ1 := hI hz
  have HTL := hI (isT_len hi)
  clear hz HZ h2 htr ht hi
  clear HI HBL
  have HZ2 := hI HZ1.out
  clear HZ1
  have KE := hI (show Calls _ _ _ _ (XP L A n c g w4 (pE R.tail)) from expr_any w4 false R.tail P.out)
  go_wp2_with fail
  refine KE.out.mono ?_
  rintro e wd ⟨x, cs, rfl, hx, hg, hP⟩
  obtain ⟨b4, r4, hps, -, hb4, ho4⟩ := Res.is_ex (x := x) (P := pE R.tail) (Q := fun b r => PSx L A n c g wd b r) hP
  have ZC := hI (show ∀ Q : Bool -> List Tk -> Prop, Q (b4 || !isT [59] r4) (tkR b4 [59] r4) -> PZ.is (.mk 5 [] 0 x [] []) Q from fun Q q => by rw [HZ2.out]; exact sEnd_is hb4 ho4 Q q)
  clear P
  have P := hI hps
  have hV := hx.more (S' := fun k => w.heap.size < k /\ k ≠ eb) fun k _ (hk : w4.heap.size <= k) => by have := HE.out; have := E.out.lt; exact ⟨by omega, by omega⟩
  obtain ⟨xx, hxx⟩ : ∃ z, z = x := ⟨_, rfl⟩
  have HXX := hI hxx
  rw [<- hxx] at ZC
  obtain ⟨k1, n1, s1, m1, a1, o1⟩ := x
  obtain ⟨A1, na1, ca1, O1, no1, co1, rfl, -, -⟩ := hx.open_
  have V := hI hV
  obtain hX := X.out
  obtain hE := E.out
  obtain hG := G.out
  clear X E G
  have X := hI (hX.gr hg (by have := HGL.out; omega))
  have E := hI (hE.gr hg (by have := HGL.out; have := HE.out; omega))
  have G := hI (World.grownBy.trans hG hg)
  clear hX hE hG
  clear hx hg hP hV hps hb4 ho4 hxx KE
  unfold exC
  go_wp2_with (with_reducible refine at_store_ (t := 74) ?_; refine Hid.out ?_)
  refine hI ?_
  refine sb_put rfl _ _ rfl rfl eb rfl rfl (elv_of ..) E.out rfl ?_
  intro we hxz hgz hsz
  clear hsz
  obtain hX := X.out
  obtain hG := G.out
  obtain hP := P.out
  clear X E G P
  have E := hI hxz
  have X := hI (hX.gr hgz (by have := HE.out; omega))
  have G := hI (gr_step (B := 0) hG hgz (Nat.le_of_lt HE.out))
  have P := hI (hP.other TBs.out hgz (Nat.le_of_lt HE.out))
  clear hX hG hP
  have hV := hI (V.out.gr (S' := fun k => w.heap.size < k /\ k ≠ eb) hgz (fun k _ hk => ⟨hk.2, hk⟩))
  clear V
  have V := hV
  clear hV
  clear hxz hgz
  have hb0 := (Below.refl we.heap.size we).alloc (Nat.le_refl _) (.cells #[.string { data := #[59] }] 9)
  have KT := hI (need_any L A n c g _ b4 r4 (P.out.next hb0) [59] we.heap.size (by simp) (by have := P.out.lt; omega) (by rw [cell_of_row _ _ _ _ _ _ (heap_alloc_new we _)]; rfl))
  obtain hX := X.out
  obtain hE := E.out
  obtain hG := G.out
  clear X E G
  have X := hI (hX.below hb0)
  have E := hI (hE.below hb0)
  have G := hI (gr_below hG hb0)
  clear hX hE hG
  have hV := hI (V.out.below hb0)
  clear V
  have V := hV
  clear hV
  clear hb0 P
  go_wp2_with fail
  refine KT.out.mono ?_
  rintro e wt ⟨rfl, ht, hg⟩
  have P := hI ht
  obtain hX := X.out
  obtain hE := E.out
  obtain hG := G.out
  clear X E G
  have X := hI (hX.gr hg (by have := HGL.out; omega))
  have E := hI (hE.gr hg (by have := HGL.out; have := HE.out; omega))
  have G := hI (World.grownBy.trans hG hg)
  clear hX hE hG
  have hV := hI (V.out.gr (S' := fun k => w.heap.size < k /\ k ≠ eb) hg (fun k _ hk => ⟨by have := hk.1; have := HGL.out; omega, hk⟩))
  clear V
  have V := hV
  clear hV
  clear ht hg KT
  go_wp2_with (with_reducible refine at_load_ (t := 74) ?_; refine Hid.out ?_)
  refine hI ?_
  refine sb_load rfl _ rfl eb rfl E.out rfl ?_
  refine sb_put rfl _ _ rfl rfl w.heap.size rfl rfl (elv_of ..) X.out rfl ?_
  intro wz hxz hgz hsz
  clear hsz
  have XZ := hI hxz
  have GZ := hI (gr_step (B := 0) G.out hgz (Nat.le_refl _))
  have VZ := hI (V.out.gr (S' := fun k => w.heap.size <= k) hgz (fun k _ hk => ⟨by have := hk.1; omega, by have := hk.1; omega⟩))
  have PZZ := hI (P.out.other TBs.out hgz (Nat.le_refl _))
  clear hxz hgz X E G P
  go_wp2_with fail
  refine bodyPost_ret (sb_ret rfl _ _ w.heap.size _ rfl XZ.out rfl) rfl ?_
  exact ⟨.mk 5 [] 0 xx [] [], stC 5 [] 0 (exC k1 n1 s1 m1 A1 na1 ca1 O1 no1 co1) none 0 0 none 0 0, rfl, SV.shut (by unfold InR; omega) (by rw [HXX.out]; exact VZ.out) (SL.nil_ _ _) (SL.nil_ _ _), GZ.out, ZC.out _ PZZ.out⟩
 obtain ⟨hf, htr⟩ := tk_false ht
 rw [htr] at h2
 have P := hI h2
 have hz := HZ.out
 rw [if_neg (show ¬ isT tRet R = true from fun h => ht (by unfold tk; rw [show isT [114, 101, 116, 117, 114, 110] R = true from h]; rfl))] at hz
 clear HZ
 have HZ := hI hz
 rw [hf]
 clear hz h2 htr ht hf
 go_wp2_with fail
 refine (take_any L A n c g _ false R P.out [97, 98, 111, 114, 116]).mono ?_
 rintro e w5 ⟨rfl, h2, hg⟩
 obtain hX := X.out
 obtain hE := E.out
 obtain hG := G.out
 clear X E G
 have X := hI (hX.gr hg (by have := HGL.out; omega))
 have E := hI (hE.gr hg (by have := HGL.out; have := HE.out; omega))
 have G := hI (World.grownBy.trans hG hg)
 clear hX hE hG
 clear P hg
 by_cases ht : tk false [97, 98, 111, 114, 116] R = true
 ·obtain ⟨-, hi, htr⟩ := tk_true ht
  rw [htr] at h2
  have P := hI h2
  rw [ht]
  have hz := HZ.out
  rw [if_pos (show isT tAbt R = true from hi)] at hz
  have HZ1 := hI hz
  have HTL := hI (isT_len hi)
  clear hz HZ h2 htr ht hi
  have ZR := hI (show ∀ Q : Bool -> List Tk -> Prop, Q (wdB false 2 R.tail || !isT [59] (wdR false 2 R.tail)) (tkR (wdB false 2 R.tail) [59] (wdR false 2 R.tail)) -> PZ.is (.mk 6 [] (nbV false R.tail) emE [] []) Q from fun Q q => by rw [HZ1.out]; exact aEnd_is _ Q q)
  clear HZ1 HI HBL
  have k2 := number_any L A n c g w5 false R.tail P.out
  have HVR := hI (nb_rng P.out false)
  have HLR := hI (wd_len false 2 R.tail)
  clear P
  generalize nbV false R.tail = v at *
  generalize wdB false 2 R.tail = b2 at *
  generalize wdR false 2 R.tail = R2 at *
  have K2 := hI k2
  clear k2
  go_wp2_with fail
  refine K2.out.mono ?_
  rintro e wa ⟨rfl, h2, hg⟩
  have P := hI h2
  obtain hX := X.out
  obtain hE := E.out
  obtain hG := G.out
  clear X E G
  have X := hI (hX.gr hg (by have := HGL.out; omega))
  have E := hI (hE.gr hg (by have := HGL.out; have := HE.out; omega))
  have G := hI (World.grownBy.trans hG hg)
  clear hX hE hG
  clear h2 hg K2
  go_wp2_with (with_reducible refine at_store_ (t := 74) ?_; refine Hid.out ?_)
  refine hI ?_
  refine sb_put rfl _ _ rfl rfl eb rfl rfl (elv_of ..) E.out rfl ?_
  intro wb hxz hgz hsz
  clear hsz
  obtain hX := X.out
  obtain hG := G.out
  obtain hP := P.out
  clear X E G P
  have E := hI hxz
  have X := hI (hX.gr hgz (by have := HE.out; omega))
  have G := hI (gr_step (B := 0) hG hgz (Nat.le_of_lt HE.out))
  have P := hI (hP.other TBs.out hgz (Nat.le_of_lt HE.out))
  clear hX hG hP
  clear hxz hgz
  have hb0 := (Below.refl wb.heap.size wb).alloc (Nat.le_refl _) (.cells #[.string { data := #[59] }] 9)
  have KT := hI (need_any L A n c g _ b2 R2 (P.out.next hb0) [59] wb.heap.size (by simp) (by have := P.out.lt; omega) (by rw [cell_of_row _ _ _ _ _ _ (heap_alloc_new wb _)]; rfl))
  obtain hX := X.out
  obtain hE := E.out
  obtain hG := G.out
  clear X E G
  have X := hI (hX.below hb0)
  have E := hI (hE.below hb0)
  have G := hI (gr_below hG hb0)
  clear hX hE hG
  clear hb0 P
  go_wp2_with fail
  refine KT.out.mono ?_
  rintro e wt ⟨rfl, ht, hg⟩
  have P := hI ht
  obtain hX := X.out
  obtain hE := E.out
  obtain hG := G.out
  clear X E G
  have X := hI (hX.gr hg (by have := HGL.out; omega))
  have E := hI (hE.gr hg (by have := HGL.out; have := HE.out; omega))
  have G := hI (World.grownBy.trans hG hg)
  clear hX hE hG
  clear ht hg KT
  go_wp2_with (with_reducible refine at_load_ (t := 74) ?_; refine Hid.out ?_)
  refine hI ?_
  refine sb_load rfl _ rfl eb rfl E.out rfl ?_
  refine sb_put rfl _ _ rfl rfl w.heap.size rfl rfl (elv_of ..) X.out rfl ?_
  intro wz hxz hgz hsz
  clear hsz
  have XZ := hI hxz
  have GZ := hI (gr_step (B := 0) G.out hgz (Nat.le_refl _))
  have PZZ := hI (P.out.other TBs.out hgz (Nat.le_refl _))
  clear hxz hgz X E G P
  go_wp2_with fail
  refine bodyPost_ret (sb_ret rfl _ _ w.heap.size _ rfl XZ.out rfl) rfl ?_
  exact ⟨.mk 6 [] v emE [] [], stC 6 [] v (exC 0 0 [] [] none 0 0 none 0 0) none 0 0 none 0 0, rfl, SV.shut HVR.out (XV.shut (by unfold InR; omega) (XL.nil_ _ _) (XL.nil_ _ _)) (SL.nil_ _ _) (SL.nil_ _ _), GZ.out, ZR.out _ PZZ.out⟩
 obtain ⟨hf, htr⟩ := tk_false ht
 rw [htr] at h2
 have P := hI h2
 have hz := HZ.out
 rw [if_neg (show ¬ isT tAbt R = true from fun h => ht (by unfold tk; rw [show isT [97, 98, 111, 114, 116] R = true from h]; rfl))] at hz
 clear HZ
 have HZ := hI hz
 rw [hf]
 clear hz h2 htr ht hf
 go_wp2_with fail
 refine (take_any L A n c g _ false R P.out [104, 111, 115, 116]).mono ?_
 rintro e w6 ⟨rfl, h2, hg⟩
 obtain hX := X.out
 obtain hE := E.out
 obtain hG := G.out
 clear X E G
 have X := hI (hX.gr hg (by have := HGL.out; omega))
 have E := hI (hE.gr hg (by have := HGL.out; have := HE.out; omega))
 have G := hI (World.grownBy.trans hG hg)
 clear hX hE hG
 clear P hg
 by_cases ht : tk false [104, 111, 115, 116] R = true
 ·obtain ⟨-, hi, htr⟩ := tk_true ht
  rw [htr] at h2
  have P := hI h2
  rw [ht]
  have hz := HZ.out
  rw [if_pos (show isT tHost R = true from hi)] at hz
  have HZ1 := hI hz
  have HTL := hI (isT_len hi)
  clear hz HZ h2 htr ht hi
  clear HI HBL
  have HZ2 := hI HZ1.out
  clear HZ1
  have KE := hI (host_any w6 (8 * R.length + 7) R.tail (by have := HTL.out; omega) P.out)
  go_wp2_with fail
  refine KE.out.mono ?_
  rintro e wd ⟨x, cs, rfl, hx, hg, hP⟩
  obtain ⟨b4, r4, hps, -, hb4, ho4⟩ := Res.is_ex (x := x) (P := pH (8 * R.length + 7) R.tail) (Q := fun b r => PSx L A n c g wd b r) hP
  have ZC := hI (show ∀ Q : Bool -> List Tk -> Prop, Q (b4 || !isT [59] r4) (tkR b4 [59] r4) -> PZ.is (.mk 2 [] 0 x [] []) Q from fun Q q => by rw [HZ2.out]; exact sEnd_is hb4 ho4 Q q)
  clear P
  have P := hI hps
  have hV := hx.more (S' := fun k => w.heap.size < k /\ k ≠ eb) fun k _ (hk : w6.heap.size <= k) => by have := HE.out; have := E.out.lt; exact ⟨by omega, by omega⟩
  obtain ⟨xx, hxx⟩ : ∃ z, z = x := ⟨_, rfl⟩
  have HXX := hI hxx
  rw [<- hxx] at ZC
  obtain ⟨k1, n1, s1, m1, a1, o1⟩ := x
  obtain ⟨A1, na1, ca1, O1, no1, co1, rfl, -, -⟩ := hx.open_
  have V := hI hV
  obtain hX := X.out
  obtain hE := E.out
  obtain hG := G.out
  clear X E G
  have X := hI (hX.gr hg (by have := HGL.out; omega))
  have E := hI (hE.gr hg (by have := HGL.out; have := HE.out; omega))
  have G := hI (World.grownBy.trans hG hg)
  clear hX hE hG
  clear hx hg hP hV hps hb4 ho4 hxx KE
  unfold exC
  go_wp2_with (with_reducible refine at_store_ (t := 74) ?_; refine Hid.out ?_)
  refine hI ?_
  refine sb_put rfl _ _ rfl rfl eb rfl rfl (elv_of ..) E.out rfl ?_
  intro we hxz hgz hsz
  clear hsz
  obtain hX := X.out
  obtain hG := G.out
  obtain hP := P.out
  clear X E G P
  have E := hI hxz
  have X := hI (hX.gr hgz (by have := HE.out; omega))
  have G := hI (gr_step (B := 0) hG hgz (Nat.le_of_lt HE.out))
  have P := hI (hP.other TBs.out hgz (Nat.le_of_lt HE.out))
  clear hX hG hP
  have hV := hI (V.out.gr (S' := fun k => w.heap.size < k /\ k ≠ eb) hgz (fun k _ hk => ⟨hk.2, hk⟩))
  clear V
  have V := hV
  clear hV
  clear hxz hgz
  have hb0 := (Below.refl we.heap.size we).alloc (Nat.le_refl _) (.cells #[.string { data := #[59] }] 9)
  have KT := hI (need_any L A n c g _ b4 r4 (P.out.next hb0) [59] we.heap.size (by simp) (by have := P.out.lt; omega) (by rw [cell_of_row _ _ _ _ _ _ (heap_alloc_new we _)]; rfl))
  obtain hX := X.out
  obtain hE := E.out
  obtain hG := G.out
  clear X E G
  have X := hI (hX.below hb0)
  have E := hI (hE.below hb0)
  have G := hI (gr_below hG hb0)
  clear hX hE hG
  have hV := hI (V.out.below hb0)
  clear V
  have V := hV
  clear hV
  clear hb0 P
  go_wp2_with fail
  refine KT.out.mono ?_
  rintro e wt ⟨rfl, ht, hg⟩
  have P := hI ht
  obtain hX := X.out
  obtain hE := E.out
  obtain hG := G.out
  clear X E G
  have X := hI (hX.gr hg (by have := HGL.out; omega))
  have E := hI (hE.gr hg (by have := HGL.out; have := HE.out; omega))
  have G := hI (World.grownBy.trans hG hg)
  clear hX hE hG
  have hV := hI (V.out.gr (S' := fun k => w.heap.size < k /\ k ≠ eb) hg (fun k _ hk => ⟨by have := hk.1; have := HGL.out; omega, hk⟩))
  clear V
  have V := hV
  clear hV
  clear ht hg KT
  go_wp2_with (with_reducible refine at_load_ (t := 74) ?_; refine Hid.out ?_)
  refine hI ?_
  refine sb_load rfl _ rfl eb rfl E.out rfl ?_
  refine sb_put rfl _ _ rfl rfl w.heap.size rfl rfl (elv_of ..) X.out rfl ?_
  intro wz hxz hgz hsz
  clear hsz
  have XZ := hI hxz
  have GZ := hI (gr_step (B := 0) G.out hgz (Nat.le_refl _))
  have VZ := hI (V.out.gr (S' := fun k => w.heap.size <= k) hgz (fun k _ hk => ⟨by have := hk.1; omega, by have := hk.1; omega⟩))
  have PZZ := hI (P.out.other TBs.out hgz (Nat.le_refl _))
  clear hxz hgz X E G P
  go_wp2_with fail
  refine bodyPost_ret (sb_ret rfl _ _ w.heap.size _ rfl XZ.out rfl) rfl ?_
  exact ⟨.mk 2 [] 0 xx [] [], stC 2 [] 0 (exC k1 n1 s1 m1 A1 na1 ca1 O1 no1 co1) none 0 0 none 0 0, rfl, SV.shut (by unfold InR; omega) (by rw [HXX.out]; exact VZ.out) (SL.nil_ _ _) (SL.nil_ _ _), GZ.out, ZC.out _ PZZ.out⟩
 obtain ⟨hf, htr⟩ := tk_false ht
 rw [htr] at h2
 have P := hI h2
 have hz := HZ.out
 rw [if_neg (show ¬ isT tHost R = true from fun h => ht (by unfold tk; rw [show isT [104, 111, 115, 116] R = true from h]; rfl))] at hz
 clear HZ
 have HZ := hI hz
 rw [hf]
 clear hz h2 htr ht hf
 clear HI HBL
 have ZD := hI (show ¬ tk (wdB false 1 R) [46] (wdR false 1 R) = true -> PZ = sEnd (fun e => .mk 1 (wdS false 1 R) 0 e [] []) (if (wdB false 1 R || !isT [61] (wdR false 1 R)) = true then .bad (tkR (wdB false 1 R) [61] (wdR false 1 R)) else pE (tkR (wdB false 1 R) [61] (wdR false 1 R))) from fun h => by rw [HZ.out, dEnd_set h, lEnd_eq])
 have ZK := hI (show tk (wdB false 1 R) [46] (wdR false 1 R) = true -> wdB false 1 R = false /\ (wdR false 1 R).length + 1 = R.length /\ PZ = sEnd (fun e => .mk 2 [] 0 e [] []) (pK (8 * R.length + 7) (wdS false 1 R) (wdR false 1 R)) from fun h => by
  obtain ⟨e1, e2, e3, e4⟩ := dEnd_call (P := pK (8 * R.length + 7) (textT R) R.tail) h
  exact ⟨e1, by rw [e2]; exact kind_len (wd_false e1).2.1 (by decide), by rw [HZ.out, e4, e2, e3]⟩)
 clear HZ
 have k2 := name_any L A n c g w6 false R P.out
 clear P
 generalize wdS false 1 R = s at *
 generalize wdB false 1 R = b2 at *
 generalize wdR false 1 R = R2 at *
 have K2 := hI k2
 clear k2
 go_wp2_with fail
 refine K2.out.mono ?_
 rintro e wa ⟨rfl, h2, hg⟩
 have P := hI h2
 obtain hX := X.out
 obtain hE := E.out
 obtain hG := G.out
 clear X E G
 have X := hI (hX.gr hg (by have := HGL.out; omega))
 have E := hI (hE.gr hg (by have := HGL.out; have := HE.out; omega))
 have G := hI (World.grownBy.trans hG hg)
 clear hX hE hG
 clear h2 hg K2
 go_wp2_with fail
 refine (is_any L A n c g wa b2 R2 P.out [46]).mono ?_
 rintro e wb ⟨rfl, hb⟩
 obtain hP := P.out
 clear P
 have P := hI (hP.next hb)
 obtain hX := X.out
 obtain hE := E.out
 obtain hG := G.out
 clear X E G
 have X := hI (hX.below hb)
 have E := hI (hE.below hb)
 have G := hI (gr_below hG hb)
 clear hX hE hG
 clear hP hb
 by_cases ht : tk b2 [46] R2 = true
 ·obtain ⟨rfl, hl, hz⟩ := ZK.out ht
  have HZ2 := hI hz
  have HL2 := hI hl
  rw [ht]
  clear ht hl hz ZK ZD
  have KE := hI (call_any wb (8 * R.length + 7) R2 s (by have := HL2.out; omega) P.out)
  go_wp2_with fail
  refine KE.out.mono ?_
  rintro e wd ⟨x, cs, rfl, hx, hg, hP⟩
  obtain ⟨b4, r4, hps, -, hb4, ho4⟩ := Res.is_ex (x := x) (P := pK (8 * R.length + 7) s R2) (Q := fun b r => PSx L A n c g wd b r) hP
  have ZC := hI (show ∀ Q : Bool -> List Tk -> Prop, Q (b4 || !isT [59] r4) (tkR b4 [59] r4) -> PZ.is (.mk 2 [] 0 x [] []) Q from fun Q q => by rw [HZ2.out]; exact sEnd_is hb4 ho4 Q q)
  clear P
  have P := hI hps
  have hV := hx.more (S' := fun k => w.heap.size < k /\ k ≠ eb) fun k _ (hk : wb.heap.size <= k) => by have := HE.out; have := E.out.lt; exact ⟨by omega, by omega⟩
  obtain ⟨xx, hxx⟩ : ∃ z, z = x := ⟨_, rfl⟩
  have HXX := hI hxx
  rw [<- hxx] at ZC
  obtain ⟨k1, n1, s1, m1, a1, o1⟩ := x
  obtain ⟨A1, na1, ca1, O1, no1, co1, rfl, -, -⟩ := hx.open_
  have V := hI hV
  obtain hX := X.out
  obtain hE := E.out
  obtain hG := G.out
  clear X E G
  have X := hI (hX.gr hg (by have := HGL.out; omega))
  have E := hI (hE.gr hg (by have := HGL.out; have := HE.out; omega))
  have G := hI (World.grownBy.trans hG hg)
  clear hX hE hG
  clear hx hg hP hV hps hb4 ho4 hxx KE
  unfold exC
  go_wp2_with (with_reducible refine at_store_ (t := 74) ?_; refine Hid.out ?_)
  refine hI ?_
  refine sb_put rfl _ _ rfl rfl eb rfl rfl (elv_of ..) E.out rfl ?_
  intro we hxz hgz hsz
  clear hsz
  obtain hX := X.out
  obtain hG := G.out
  obtain hP := P.out
  clear X E G P
  have E := hI hxz
  have X := hI (hX.gr hgz (by have := HE.out; omega))
  have G := hI (gr_step (B := 0) hG hgz (Nat.le_of_lt HE.out))
  have P := hI (hP.other TBs.out hgz (Nat.le_of_lt HE.out))
  clear hX hG hP
  have hV := hI (V.out.gr (S' := fun k => w.heap.size < k /\ k ≠ eb) hgz (fun k _ hk => ⟨hk.2, hk⟩))
  clear V
  have V := hV
  clear hV
  clear hxz hgz
  have hb0 := (Below.refl we.heap.size we).alloc (Nat.le_refl _) (.cells #[.string { data := #[59] }] 9)
  have KT := hI (need_any L A n c g _ b4 r4 (P.out.next hb0) [59] we.heap.size (by simp) (by have := P.out.lt; omega) (by rw [cell_of_row _ _ _ _ _ _ (heap_alloc_new we _)]; rfl))
  obtain hX := X.out
  obtain hE := E.out
  obtain hG := G.out
  clear X E G
  have X := hI (hX.below hb0)
  have E := hI (hE.below hb0)
  have G := hI (gr_below hG hb0)
  clear hX hE hG
  have hV := hI (V.out.below hb0)
  clear V
  have V := hV
  clear hV
  clear hb0 P
  go_wp2_with fail
  refine KT.out.mono ?_
  rintro e wt ⟨rfl, ht, hg⟩
  have P := hI ht
  obtain hX := X.out
  obtain hE := E.out
  obtain hG := G.out
  clear X E G
  have X := hI (hX.gr hg (by have := HGL.out; omega))
  have E := hI (hE.gr hg (by have := HGL.out; have := HE.out; omega))
  have G := hI (World.grownBy.trans hG hg)
  clear hX hE hG
  have hV := hI (V.out.gr (S' := fun k => w.heap.size < k /\ k ≠ eb) hg (fun k _ hk => ⟨by have := hk.1; have := HGL.out; omega, hk⟩))
  clear V
  have V := hV
  clear hV
  clear ht hg KT
  go_wp2_with (with_reducible refine at_load_ (t := 74) ?_; refine Hid.out ?_)
  refine hI ?_
  refine sb_load rfl _ rfl eb rfl E.out rfl ?_
  refine sb_put rfl _ _ rfl rfl w.heap.size rfl rfl (elv_of ..) X.out rfl ?_
  intro wz hxz hgz hsz
  clear hsz
  have XZ := hI hxz
  have GZ := hI (gr_step (B := 0) G.out hgz (Nat.le_refl _))
  have VZ := hI (V.out.gr (S' := fun k => w.heap.size <= k) hgz (fun k _ hk => ⟨by have := hk.1; omega, by have := hk.1; omega⟩))
  have PZZ := hI (P.out.other TBs.out hgz (Nat.le_refl _))
  clear hxz hgz X E G P
  go_wp2_with fail
  refine bodyPost_ret (sb_ret rfl _ _ w.heap.size _ rfl XZ.out rfl) rfl ?_
  exact ⟨.mk 2 [] 0 xx [] [], stC 2 [] 0 (exC k1 n1 s1 m1 A1 na1 ca1 O1 no1 co1) none 0 0 none 0 0, rfl, SV.shut (by unfold InR; omega) (by rw [HXX.out]; exact VZ.out) (SL.nil_ _ _) (SL.nil_ _ _), GZ.out, ZC.out _ PZZ.out⟩
 have hz := ZD.out ht
 rw [show tk b2 [46] R2 = false from by simpa using ht]
 clear ht ZK ZD
 have HZ2 := hI hz
 clear hz
 have hb0 := (Below.refl wb.heap.size wb).alloc (Nat.le_refl _) (.cells #[.string { data := #[61] }] 9)
 have KT := hI (need_any L A n c g _ b2 R2 (P.out.next hb0) [61] wb.heap.size (by simp) (by have := P.out.lt; omega) (by rw [cell_of_row _ _ _ _ _ _ (heap_alloc_new wb _)]; rfl))
 obtain hX := X.out
 obtain hE := E.out
 obtain hG := G.out
 clear X E G
 have X := hI (hX.below hb0)
 have E := hI (hE.below hb0)
 have G := hI (gr_below hG hb0)
 clear hX hE hG
 clear hb0 P
 obtain hz := HZ2.out
 clear HZ2
 generalize (b2 || !isT [61] R2) = b3 at *
 generalize tkR b2 [61] R2 = R3 at *
 have HZ2 := hI hz
 clear hz
 go_wp2_with fail
 refine KT.out.mono ?_
 rintro e wc ⟨rfl, ht, hg⟩
 have P := hI ht
 obtain hX := X.out
 obtain hE := E.out
 obtain hG := G.out
 clear X E G
 have X := hI (hX.gr hg (by have := HGL.out; omega))
 have E := hI (hE.gr hg (by have := HGL.out; have := HE.out; omega))
 have G := hI (World.grownBy.trans hG hg)
 clear hX hE hG
 clear ht hg KT
 have KE := hI (expr_any wc b3 R3 P.out)
 go_wp2_with fail
 refine KE.out.mono ?_
 rintro e wd ⟨x, cs, rfl, hx, hg, hP⟩
 obtain ⟨b4, r4, hps, -, hb4, ho4⟩ := Res.is_ex (x := x) (P := (if b3 = true then .bad R3 else pE R3)) (Q := fun b r => PSx L A n c g wd b r) hP
 have ZC := hI (show ∀ Q : Bool -> List Tk -> Prop, Q (b4 || !isT [59] r4) (tkR b4 [59] r4) -> PZ.is (.mk 1 s 0 x [] []) Q from fun Q q => by rw [HZ2.out]; exact sEnd_is hb4 ho4 Q q)
 clear P
 have P := hI hps
 have hV := hx.more (S' := fun k => w.heap.size < k /\ k ≠ eb) fun k _ (hk : wc.heap.size <= k) => by have := HE.out; have := E.out.lt; exact ⟨by omega, by omega⟩
 obtain ⟨xx, hxx⟩ : ∃ z, z = x := ⟨_, rfl⟩
 have HXX := hI hxx
 rw [<- hxx] at ZC
 obtain ⟨k1, n1, s1, m1, a1, o1⟩ := x
 obtain ⟨A1, na1, ca1, O1, no1, co1, rfl, -, -⟩ := hx.open_
 have V := hI hV
 obtain hX := X.out
 obtain hE := E.out
 obtain hG := G.out
 clear X E G
 have X := hI (hX.gr hg (by have := HGL.out; omega))
 have E := hI (hE.gr hg (by have := HGL.out; have := HE.out; omega))
 have G := hI (World.grownBy.trans hG hg)
 clear hX hE hG
 clear hx hg hP hV hps hb4 ho4 hxx KE
 unfold exC
 go_wp2_with (with_reducible refine at_store_ (t := 74) ?_; refine Hid.out ?_)
 refine hI ?_
 refine sb_put rfl _ _ rfl rfl eb rfl rfl (elv_of ..) E.out rfl ?_
 intro we hxz hgz hsz
 clear hsz
 obtain hX := X.out
 obtain hG := G.out
 obtain hP := P.out
 clear X E G P
 have E := hI hxz
 have X := hI (hX.gr hgz (by have := HE.out; omega))
 have G := hI (gr_step (B := 0) hG hgz (Nat.le_of_lt HE.out))
 have P := hI (hP.other TBs.out hgz (Nat.le_of_lt HE.out))
 clear hX hG hP
 have hV := hI (V.out.gr (S' := fun k => w.heap.size < k /\ k ≠ eb) hgz (fun k _ hk => ⟨hk.2, hk⟩))
 clear V
 have V := hV
 clear hV
 clear hxz hgz
 have hb0 := (Below.refl we.heap.size we).alloc (Nat.le_refl _) (.cells #[.string { data := #[59] }] 9)
 have KT := hI (need_any L A n c g _ b4 r4 (P.out.next hb0) [59] we.heap.size (by simp) (by have := P.out.lt; omega) (by rw [cell_of_row _ _ _ _ _ _ (heap_alloc_new we _)]; rfl))
 obtain hX := X.out
 obtain hE := E.out
 obtain hG := G.out
 clear X E G
 have X := hI (hX.below hb0)
 have E := hI (hE.below hb0)
 have G := hI (gr_below hG hb0)
 clear hX hE hG
 have hV := hI (V.out.below hb0)
 clear V
 have V := hV
 clear hV
 clear hb0 P
 go_wp2_with fail
 refine KT.out.mono ?_
 rintro e wt ⟨rfl, ht, hg⟩
 have P := hI ht
 obtain hX := X.out
 obtain hE := E.out
 obtain hG := G.out
 clear X E G
 have X := hI (hX.gr hg (by have := HGL.out; omega))
 have E := hI (hE.gr hg (by have := HGL.out; have := HE.out; omega))
 have G := hI (World.grownBy.trans hG hg)
 clear hX hE hG
 have hV := hI (V.out.gr (S' := fun k => w.heap.size < k /\ k ≠ eb) hg (fun k _ hk => ⟨by have := hk.1; have := HGL.out; omega, hk⟩))
 clear V
 have V := hV
 clear hV
 clear ht hg KT
 go_wp2_with (with_reducible refine at_load_ (t := 74) ?_; refine Hid.out ?_)
 refine hI ?_
 refine sb_load rfl _ rfl eb rfl E.out rfl ?_
 refine sb_put rfl _ _ rfl rfl w.heap.size rfl rfl (elv_of ..) X.out rfl ?_
 intro wz hxz hgz hsz
 clear hsz
 have XZ := hI hxz
 have GZ := hI (gr_step (B := 0) G.out hgz (Nat.le_refl _))
 have VZ := hI (V.out.gr (S' := fun k => w.heap.size <= k) hgz (fun k _ hk => ⟨by have := hk.1; omega, by have := hk.1; omega⟩))
 have PZZ := hI (P.out.other TBs.out hgz (Nat.le_refl _))
 clear hxz hgz X E G P
 go_wp2_with fail
 refine bodyPost_ret (sb_ret rfl _ _ w.heap.size _ rfl XZ.out rfl) rfl ?_
 exact ⟨.mk 1 s 0 xx [] [], stC 1 s 0 (exC k1 n1 s1 m1 A1 na1 ca1 O1 no1 co1) none 0 0 none 0 0, rfl, SV.shut (by unfold InR; omega) (by rw [HXX.out]; exact VZ.out) (SL.nil_ _ _) (SL.nil_ _ _), GZ.out, ZC.out _ PZZ.out⟩
open Go.RowKit
/-- All the statement functions, with so much fuel. -/
structure Bt (L : List Lx.Tok) (A : Option Addr) (n c g f : Nat) : Prop where
 st : ∀ W R, 4 * R.length + 3 <= f -> PSx L A n c g W false R -> Calls Tryz.prog 89 #[.pointer (some ⟨g, 0, none⟩)] W (SP L A n c g W (pS f R))
 br : ∀ W R, 4 * R.length + 2 <= f -> PSx L A n c g W false R -> Calls Tryz.prog 114 #[.pointer (some ⟨g, 0, none⟩)] W (SP L A n c g W (pI f R))
 bl : ∀ W b R, (b = false -> 4 * R.length + 1 <= f) -> PSx L A n c g W b R -> Calls Tryz.prog 58 #[.pointer (some ⟨g, 0, none⟩)] W (TP L A n c g W (if b = true then .bad R else pBl f R))
theorem bt_all (L : List Lx.Tok) (A : Option Addr) (n c g : Nat) (f : Nat) : Bt L A n c g f := by
 induction f using Nat.strongRecOn with
 | ind f ih =>
  exact ⟨fun W R hl h => statement_gen L A n c g W R h f (fun f' hf => (ih f' hf).bl) (fun f' hf => (ih f' hf).br) hl,
   fun W R hl h => branch_gen L A n c g W R h f (fun f' hf => (ih f' hf).bl) (fun f' hf => (ih f' hf).br) hl,
   fun W b R hl h => block_gen L A n c g W b R h f (fun f' hf => (ih f' hf).st) pS_lt hl⟩
/-- block, whatever the state. -/
theorem block_any {L : List Lx.Tok} {A : Option Addr} {n c g : Nat} (W : World) (b : Bool) (R : List Tk) (h : PSx L A n c g W b R) : Calls Tryz.prog 58 #[.pointer (some ⟨g, 0, none⟩)] W (TP L A n c g W (if b = true then .bad R else pBk R)) :=
 (bt_all L A n c g (4 * R.length + 4)).bl W b R (fun _ => by omega) h
open Go.RowKit
/-- A name. -/
def pNm (R : List Tk) : Res Str := if kindT R = 1 then .ok (textT R) R.tail else .bad R
theorem pNm_is (R : List Tk) (Q : Bool -> List Tk -> Prop) (q : Q (wdB false 1 R) (wdR false 1 R)) : (pNm R).is (wdS false 1 R) Q := by
 unfold pNm
 by_cases hk : kindT R = 1
 ·have e1 : wdB false 1 R = false := by simp [wdB, hk]
  obtain ⟨-, -, e2, e3⟩ := wd_false e1
  rw [e1, e3] at q
  rw [e2, if_pos hk]
  exact ⟨rfl, q⟩
 have e1 : wdB false 1 R = true := by simp [wdB, hk]
 obtain ⟨e2, e3⟩ := wd_true e1
 rw [e1, e3] at q
 rw [if_neg hk]
 exact q
theorem pLg_pQ : ∀ (f : Nat) (acc : List Str) (R : List Tk), pLg (fun _ R => pNm R) f acc R = pQ f acc R
 | 0, _, _ => by rw [pLg, pQ]
 | f + 1, acc, R => by
  rw [pLg, pQ]
  by_cases hk : kindT R = 1
  ·have e : pNm R = .ok (textT R) R.tail := if_pos hk
   rw [e, if_pos hk]
   simp only [pLg_pQ f]
  have e : pNm R = .bad R := if_neg hk
  rw [e, if_neg hk]
theorem pPg_pPs (R : List Tk) : pPg (fun _ R => pNm R) (R.length + 1) R = pPs R := by
 unfold pPg pPs
 simp only [pLg_pQ]
/-- What stands while the region of the closure runs. -/
structure CO (g ob pb base : Nat) (nm : Str) (v : Value) (l : List Str) (w wr : World) : Prop where
 pc : wr.cell? ⟨pb, 0, none⟩ = some (.pointer (some ⟨g, 0, none⟩))
 box : wr.heap[ob]? = some (.cells #[.string (bs nm), v, .slice none 0 0] 76 (0, 0))
 own : OwnG StV 9 1 wr base v l
 kp : Kp base g ob w wr
 bs : base <= w.heap.size
section
variable {g ob pb base : Nat} {nm : Str} {v : Value} {l : List Str} {w wr wx : World}
theorem CO.gr (h : CO g ob pb base nm v l w wr) (hg : wr.grownBy wx (some g)) (hpg : pb ≠ g) (hog : ob ≠ g) (hgb : g < base) : CO g ob pb base nm v l w wx :=
 ⟨(World.cell?_of_block (a := ⟨pb, 0, none⟩) (hg.block _ (World.block_lt_of_cell? _ _ h.pc) (fun e => hpg (Option.some.inj e)))).trans h.pc, (hg.block _ (lt_of_block h.box) (fun e => hog (Option.some.inj e))).trans h.box, h.own.gr okStV hg (fun k e => by have := Option.some.inj e; omega), h.kp.trans (Kp.gr (Nat.le_trans h.bs h.kp.size) hg (fun k e => .inl (Option.some.inj e).symm)), h.bs⟩
theorem CO.cell (h : CO g ob pb base nm v l w wr) : wr.cell? ⟨ob, 1, none⟩ = some v := by rw [cell_of_row _ _ _ _ _ _ h.box]; rfl
end
theorem params1_gen (L : List Lx.Tok) (A : Option Addr) (n c g : Nat) (w : World) (bad : Bool) (R : List Tk) (h : PSx L A n c g w bad R) (ob pb base : Nat) (nm : Str) (v : Value) (l : List Str) (hp : w.cell? ⟨pb, 0, none⟩ = some (.pointer (some ⟨g, 0, none⟩))) (hpg : pb ≠ g) (hpo : pb ≠ ob) (hog : ob ≠ g) (hob : w.heap[ob]? = some (.cells #[.string (bs nm), v, .slice none 0 0] 76 (0, 0))) (hO : OwnG StV 9 1 w base v l)
  (hbo : ob < base) (hbp : pb < base) (hbs : base <= w.heap.size) (htb : TB A g ob) (hl : l.length < 100000) :
  Calls Tryz.prog 57 #[.pointer (some ⟨ob, 0, none⟩), .pointer (some ⟨pb, 0, none⟩)] w fun e w' => e = .returned (.tuple #[]) /\ ∃ v', PSx L A n c g w' (wdB bad 1 R) (wdR bad 1 R) /\ w'.heap[ob]? = some (.cells #[.string (bs nm), v', .slice none 0 0] 76 (0, 0)) /\ OwnG StV 9 1 w' base v' (l ++ [wdS bad 1 R]) /\ Kp base g ob w w' := by
 obtain ⟨A0, c0, rfl, -⟩ := hO.row okStV
 have hdw : Below w.heap.size w w.drew := (Below.refl _ _).drew
 have HGB := hI (show g < base from by have := htb.2.1; omega)
 have HPG := hI hpg
 have HOG := hI hog
 have HPO := hI hpo
 have HBS := hI hbs
 have HBO := hI hbo
 have HBP := hI hbp
 have HTB := hI htb
 have HL := hI hl
 have HLT := hI hO.lt
 have Cwq := hI ((CO.mk hp hob hO (Kp.refl _ _ _ _) hbs : CO g ob pb base nm _ l w w).gr (Below.grown_ hdw (some g)) hpg hog HGB.out)
 have Pwq := hI (h.next hdw)
 clear h hp hpg hpo hog hob hO hbo hbp hbs htb hl hdw
 go_enter Tryz.func57, Tryz.ntmps57
 refine wp_region_held_drew (S := fun W => W.cell? ⟨pb, 0, none⟩ = some (.pointer (some ⟨g, 0, none⟩))) (by kernel_rfl) Cwq.out.pc (fun hHeld => ?_)
 generalize w.drew = wq at *
 refine with_tail 3 #[true, true, true, true, true, false, false, false] (fun a W => ∃ (z : Nat), a = ⟨#[.pointer (some ⟨ob, 0, none⟩), .pointer (some ⟨pb, 0, none⟩), .pointer (some ⟨ob, 1, none⟩), .slice A0 l.length c0, .pointer (some ⟨g, 0, none⟩), .string (bs (wdS bad 1 R)), .slice (some ⟨z, 0, none⟩) 1 1, undef, undef], []⟩ /\ CO g ob pb base nm (.slice A0 l.length c0) l w W /\ PSx L A n c g W (wdB bad 1 R) (wdR bad 1 R) /\ W.heap[z]? = some (.cells #[.string (bs (wdS bad 1 R))] 9 (0, 0))) (fun TAIL => ?_) ?_
 ·have TL := hI TAIL
  clear TAIL
  refine wpAnyH_take (i := 0) (oi := ⟨some 2, _, _, _, _, _⟩) (v := .pointer (some ⟨ob, 1, none⟩)) rfl (by kernel_rfl) (by kernel_rfl) (by kernel_rfl) (fun _ _ _ h => h) (Or.inl ⟨by rfl, ?_⟩) hHeld ?_
  ·intro W' hW
   go_simp
  try simp only [Act.put, sA, sB, sC]
  refine wpAnyH_take (i := 2) (oi := ⟨some 4, _, _, _, _, _⟩) (v := .pointer (some ⟨g, 0, none⟩)) rfl (by kernel_rfl) (by kernel_rfl) (by kernel_rfl) (fun _ _ _ h => h) (Or.inl ⟨by rfl, ?_⟩) hHeld ?_
  ·intro W' hW
   go_simp
  try simp only [Act.put, sA, sB, sC]
  refine wpAnyH_ready (rs := [1, 3]) (by kernel_rfl) (by simp) ?_
  refine AllReadyH.cons (o := ⟨some 3, _, _, _, _, _⟩) rfl (fun K hK => ?_) (AllReadyH.cons (o := ⟨some 5, _, _, _, _, _⟩) rfl (fun K hK => ?_) AllReadyH.nil)
  ·have cob := Cwq.out.cell
   go_simp
   clear cob
   refine hK.out _ _ Cwq.out.pc (fun hHeld => ?_)
   clear hK
   try simp only [Act.put, sA, sB, sC]
   refine wpAnyH_ready (rs := [3]) (by kernel_rfl) (by simp) ?_
   refine AllReadyH.cons (o := ⟨some 5, _, _, _, _, _⟩) rfl (fun K hK => ?_) AllReadyH.nil
   ·go_simp
    refine (name_any L A n c g wq bad R Pwq.out).mono ?_
    rintro e wk2 ⟨rfl, hp, hg⟩
    have Cwk2 := hI (Cwq.out.gr hg HPG.out HOG.out HGB.out)
    have Pwk2 := hI hp
    clear hp hg
    refine hK.out _ _ Cwk2.out.pc (fun hHeld => ?_)
    clear hK
    try simp only [Act.put, sA, sB, sC]
    refine wpAnyH_ready (rs := [4]) (by kernel_rfl) (by simp) ?_
    refine AllReadyH.cons (o := ⟨some 6, _, _, _, _, _⟩) rfl (fun K hK => ?_) AllReadyH.nil
    ·go_simp
     obtain ⟨z, hz⟩ : ∃ z, z = wk2.heap.size := ⟨_, rfl⟩
     obtain ⟨wz3, hwz⟩ : ∃ W, W = wk2.alloc (.cells #[.string (bs (wdS bad 1 R))] 9) := ⟨_, rfl⟩
     have hb := (Below.refl wk2.heap.size wk2).alloc (Nat.le_refl _) (.cells #[.string (bs (wdS bad 1 R))] 9)
     rw [<- hwz] at hb
     have Zwz3 := hI (show wz3.heap[z]? = some (.cells #[.string (bs (wdS bad 1 R))] 9 (0, 0)) from by rw [hwz, hz]; exact heap_alloc_new wk2 _)
     have Cwz3 := hI (Cwk2.out.gr (Below.grown_ hb (some g)) HPG.out HOG.out HGB.out)
     have Pwz3 := hI (Pwk2.out.next hb)
     rw [<- hz, <- hwz]
     clear hb hz hwz
     refine hK.out _ _ Cwz3.out.pc (fun hHeld => ?_)
     clear hK
     try simp only [Act.put, sA, sB, sC]
     exact TL.out _ _ _ (by kernel_rfl) ⟨z, rfl, Cwz3.out, Pwz3.out, Zwz3.out⟩
  go_simp
  refine (name_any L A n c g wq bad R Pwq.out).mono ?_
  rintro e wk4 ⟨rfl, hp, hg⟩
  have Cwk4 := hI (Cwq.out.gr hg HPG.out HOG.out HGB.out)
  have Pwk4 := hI hp
  clear hp hg
  refine hK.out _ _ Cwk4.out.pc (fun hHeld => ?_)
  clear hK
  try simp only [Act.put, sA, sB, sC]
  refine wpAnyH_ready (rs := [1, 4]) (by kernel_rfl) (by simp) ?_
  refine AllReadyH.cons (o := ⟨some 3, _, _, _, _, _⟩) rfl (fun K hK => ?_) (AllReadyH.cons (o := ⟨some 6, _, _, _, _, _⟩) rfl (fun K hK => ?_) AllReadyH.nil)
  ·have cob := Cwk4.out.cell
   go_simp
   clear cob
   refine hK.out _ _ Cwk4.out.pc (fun hHeld => ?_)
   clear hK
   try simp only [Act.put, sA, sB, sC]
   refine wpAnyH_ready (rs := [4]) (by kernel_rfl) (by simp) ?_
   refine AllReadyH.cons (o := ⟨some 6, _, _, _, _, _⟩) rfl (fun K hK => ?_) AllReadyH.nil
   ·go_simp
    obtain ⟨z, hz⟩ : ∃ z, z = wk4.heap.size := ⟨_, rfl⟩
    obtain ⟨wz6, hwz⟩ : ∃ W, W = wk4.alloc (.cells #[.string (bs (wdS bad 1 R))] 9) := ⟨_, rfl⟩
    have hb := (Below.refl wk4.heap.size wk4).alloc (Nat.le_refl _) (.cells #[.string (bs (wdS bad 1 R))] 9)
    rw [<- hwz] at hb
    have Zwz6 := hI (show wz6.heap[z]? = some (.cells #[.string (bs (wdS bad 1 R))] 9 (0, 0)) from by rw [hwz, hz]; exact heap_alloc_new wk4 _)
    have Cwz6 := hI (Cwk4.out.gr (Below.grown_ hb (some g)) HPG.out HOG.out HGB.out)
    have Pwz6 := hI (Pwk4.out.next hb)
    rw [<- hz, <- hwz]
    clear hb hz hwz
    refine hK.out _ _ Cwz6.out.pc (fun hHeld => ?_)
    clear hK
    try simp only [Act.put, sA, sB, sC]
    exact TL.out _ _ _ (by kernel_rfl) ⟨z, rfl, Cwz6.out, Pwz6.out, Zwz6.out⟩
  go_simp
  obtain ⟨z, hz⟩ : ∃ z, z = wk4.heap.size := ⟨_, rfl⟩
  obtain ⟨wz7, hwz⟩ : ∃ W, W = wk4.alloc (.cells #[.string (bs (wdS bad 1 R))] 9) := ⟨_, rfl⟩
  have hb := (Below.refl wk4.heap.size wk4).alloc (Nat.le_refl _) (.cells #[.string (bs (wdS bad 1 R))] 9)
  rw [<- hwz] at hb
  have Zwz7 := hI (show wz7.heap[z]? = some (.cells #[.string (bs (wdS bad 1 R))] 9 (0, 0)) from by rw [hwz, hz]; exact heap_alloc_new wk4 _)
  have Cwz7 := hI (Cwk4.out.gr (Below.grown_ hb (some g)) HPG.out HOG.out HGB.out)
  have Pwz7 := hI (Pwk4.out.next hb)
  rw [<- hz, <- hwz]
  clear hb hz hwz
  refine hK.out _ _ Cwz7.out.pc (fun hHeld => ?_)
  clear hK
  try simp only [Act.put, sA, sB, sC]
  refine wpAnyH_ready (rs := [1]) (by kernel_rfl) (by simp) ?_
  refine AllReadyH.cons (o := ⟨some 3, _, _, _, _, _⟩) rfl (fun K hK => ?_) AllReadyH.nil
  ·have cob := Cwz7.out.cell
   go_simp
   clear cob
   refine hK.out _ _ Cwz7.out.pc (fun hHeld => ?_)
   clear hK
   try simp only [Act.put, sA, sB, sC]
   exact TL.out _ _ _ (by kernel_rfl) ⟨z, rfl, Cwz7.out, Pwz7.out, Zwz7.out⟩
 rintro a wx ⟨z, rfl, hC, hP, hZ⟩
 obtain ⟨v1, w1, hrun, own1, gr1, -⟩ := hC.own.app (t := 22) (ty := 22) okStV apk_t wx.heap.size z (wdS bad 1 R) [.string (bs (wdS bad 1 R))] (lt_of_block hZ) (fun j u hu => by rw [Nat.zero_add, cell_of_row _ _ _ _ _ _ hZ, <- hu, <- Array.getElem?_toList]) rfl (by have := HL.out; omega) (Nat.le_trans HBS.out hC.kp.size) (fun k e => Nat.lt_of_lt_of_le (HLT.out k e).2 hC.kp.size) (Nat.le_trans HBS.out hC.kp.size)
 have gq : ∀ k, (Value.slice A0 l.length c0).ownBlock = some k -> base <= k := fun k e => (HLT.out k e).1
 have PCw1 := hI ((World.cell?_of_block (a := ⟨pb, 0, none⟩) (gr1.block _ (World.block_lt_of_cell? _ _ hC.pc) (fun e => by have : base <= pb := gq _ e.symm; have := HBP.out; omega))).trans hC.pc)
 have HBw1 := hI ((gr1.block _ (lt_of_block hC.box) (fun e => by have := gq _ e.symm; have := HBO.out; omega)).trans hC.box)
 have KPw1 := hI (hC.kp.trans (Kp.gr (Nat.le_trans HBS.out hC.kp.size) gr1 (fun k e => .inr (.inr (gq k e)))))
 have ISw1 := hI (hP.othr HTB.out gr1 (fun k e => by have := gq k e; have := HBO.out; omega))
 obtain ⟨A1, c1, rfl, -⟩ := own1.row okStV
 have OWw1 := hI own1
 have HRUN := hI hrun
 clear hC hP hZ gr1 gq hrun own1
 refine wpAnyH_ready (rs := [5]) (by kernel_rfl) (by simp) ?_
 refine AllReadyH.cons (o := ⟨some 7, _, _, _, _, _⟩) rfl (fun K hK => ?_) AllReadyH.nil
 refine step_app rfl _ _ 22 rfl _ _ rfl rfl HRUN.out ?_
 clear HRUN
 refine hK.out _ _ PCw1.out (fun hHeld => ?_)
 clear hK
 try simp only [Act.put, sA, sB, sC]
 refine wpAnyH_take (i := 6) (oi := ⟨some 8, _, _, _, _, _⟩) (v := .pointer (some ⟨ob, 1, none⟩)) rfl (by kernel_rfl) (by kernel_rfl) (by kernel_rfl) (fun _ _ _ h => h) (Or.inl ⟨by rfl, ?_⟩) hHeld ?_
 ·intro W' hW
  go_simp
 try simp only [Act.put, sA, sB, sC]
 refine wpAnyH_ready (rs := [7]) (by kernel_rfl) (by simp) ?_
 refine AllReadyH.cons (o := ⟨none, _, _, _, _, _⟩) rfl (fun K hK => ?_) AllReadyH.nil
 have cob : w1.cell? ⟨ob, 1, none⟩ = some (.slice A0 l.length c0) := by rw [cell_of_row _ _ _ _ _ _ HBw1.out]; rfl
 have fob : w1.frozen? ⟨ob, 1, none⟩ = false := by simp [World.frozen?, show w1.heap[ob]? = _ from HBw1.out]
 obtain ⟨m1, hm1⟩ : ∃ m, m = (l ++ [wdS bad 1 R]).length := ⟨_, rfl⟩
 rw [<- hm1] at OWw1 ⊢
 clear hm1
 go_simp
 clear cob fob
 have gb := gr_put w1 ob 1 (.slice A1 m1 c1)
 have HBw2' : (w1.setCell ⟨ob, 1, none⟩ (.slice A1 m1 c1)).heap[ob]? = some (.cells #[.string (bs nm), .slice A1 m1 c1, .slice none 0 0] 76 (0, 0)) := by
  rw [setCell_eq_setRow w1 ob 1 _ _ _ _ HBw1.out]
  exact setRow_heap _ _ _ _ _ _ HBw1.out
 obtain ⟨w2, hw2⟩ : ∃ W, W = w1.setCell ⟨ob, 1, none⟩ (.slice A1 m1 c1) := ⟨_, rfl⟩
 rw [<- hw2] at gb HBw2'
 rw [<- hw2]
 clear hw2
 have HBw2 := hI HBw2'
 have PCw2 := hI ((World.cell?_of_block (a := ⟨pb, 0, none⟩) (gb.block _ (World.block_lt_of_cell? _ _ PCw1.out) (fun e => HPO.out (Option.some.inj e)))).trans PCw1.out)
 have KPw2 := hI (KPw1.out.trans (Kp.gr (Nat.le_trans HBS.out KPw1.out.size) gb (fun k e => .inr (.inl (Option.some.inj e).symm))))
 have ISw2 := hI (ISw1.out.other HTB.out gb (Nat.le_refl _))
 have OWw2 := hI (OWw1.out.gr okStV gb (fun k e => by have := Option.some.inj e; have := HBO.out; omega))
 refine hK.out _ _ PCw2.out (fun hHeld => ?_)
 clear hK
 try simp only [Act.put, sA, sB, sC]
 refine wpAnyH_done (by kernel_rfl) ?_ _
 go_end0
 exact ⟨rfl, _, ISw2.out, HBw2.out, OWw2.out, KPw2.out⟩
end Go.Proofs.YtkakbidllpjopaaGreatDoor
