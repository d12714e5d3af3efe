/- The walk of the reference parser's stmt. No condition beyond the state. The reference parser's statements, with fuel enough; the walk of its params. No condition beyond the state. The reference lexer's tables, in memory. No condition. The walks of the reference's digit, part, has, number and sign. Conditions: at most 65536 bytes. The walk of the reference's sign, and what the reference's Scan keeps (pure). No condition. -/
import Derived.Test.YtkakbidllpjopaaGreatDoorU09
import Derived.Test.YtkakbidllpjopaaGreatDoorU02
import Derived.BigQuiet
set_option linter.unusedVariables false
set_option linter.unusedSimpArgs false
set_option maxRecDepth 100000
set_option maxHeartbeats 12800000
namespace Go.Proofs.YtkakbidllpjopaaGreatDoor
open Go.RowKit
def emS : St := .mk 0 [] 0 emE [] []
theorem svz (w : World) (S : Nat -> Prop) : SV w S emS [.int .i64 0, .string { data := #[] }, .int .i64 0, .int .i64 0, .int .i64 0, .string { data := #[] }, .string { data := #[] }, .slice none 0 0, .slice none 0 0, .slice none 0 0, .slice none 0 0] := SV.shut (by unfold InR; omega) (xve _ _) (SL.nil_ _ _) (SL.nil_ _ _)
theorem pThen_ok {α : Type} {s : Str} {r : List Tk} {e : α} (h : isT s r = true) : pThen s (.ok e r) = .ok e r.tail := if_pos h
theorem pThen_no {α : Type} {s : Str} {r : List Tk} {e : α} (h : isT s r = false) : pThen s (.ok e r) = .bad r := if_neg (by rw [h]; decide)
/-- What stmt answers, out of what its parts answer. -/
def sRes (R : List Tk) (PI : Res St) (PB : Res (List St)) (PC : Res Ex) : Res St :=
 if isT [108, 101, 116] R = true then if kindT R.tail = 1 then if isT [61] R.tail.tail = true then (pThen [59] (pE R.tail.tail.tail)).map fun e => .mk 0 (textT R.tail) 0 e [] [] else .bad R.tail.tail else .bad R.tail
 else if kindT R = 1 then if isT [61] R.tail = true then (pThen [59] (pE R.tail.tail)).map fun e => .mk 1 (textT R) 0 e [] [] else (pThen [59] PC).map fun e => .mk 2 [] 0 e [] []
 else if isT [104, 111, 115, 116] R = true then (pThen [59] PC).map fun e => .mk 2 [] 0 e [] []
 else if isT [105, 102] R = true then PI
 else if isT [114, 101, 112, 101, 97, 116] R = true then if kindT R.tail = 2 then PB.map fun l => .mk 4 [] (numT (textT R.tail)) emE l [] else .bad R.tail
 else if isT [114, 101, 116, 117, 114, 110] R = true then (pThen [59] (pE R.tail)).map fun e => .mk 5 [] 0 e [] []
 else if isT [97, 98, 111, 114, 116] R = true then if kindT R.tail = 2 then if isT [59] R.tail.tail = true then .ok (.mk 6 [] (numT (textT R.tail)) emE [] []) R.tail.tail.tail else .bad R.tail.tail else .bad R.tail
 else .bad R
theorem rstmt_gen {L : List Lx.Tok} {tb tq n tc : Nat} (w : World) (i : Nat) (R : List Tk) (f : Nat) (PI : Res St) (PC : Res Ex) (hs : RS L tb tq n tc w) (ha : AtR L i R) (hPC : PC = pCl (8 * R.length + 7) R)
  (hL : ∀ W j r, r.length + 2 <= R.length -> RS L tb tq n tc W -> AtR L j r -> Calls Tryz.prog 35 #[.slice (some ⟨tb, tq, none⟩) n tc, .int .i64 j] W (RB L W (pBl f r)))
  (hR : ∀ W, RS L tb tq n tc W -> isT [105, 102] R = true -> Calls Tryz.prog 93 #[.slice (some ⟨tb, tq, none⟩) n tc, .int .i64 i] W (RT L W PI)) :
  Calls Tryz.prog 65 #[.slice (some ⟨tb, tq, none⟩) n tc, .int .i64 i] w (RT L w (sRes R PI (pBl f R.tail.tail) PC)) := by
 have HPC := hI hPC
 have HBL := hI hL
 have HBR := hI hR
 clear hPC hL hR
 have HTB := hI hs.lt
 obtain ⟨j1, hj1⟩ : ∃ j, j = i + 1 := ⟨_, rfl⟩
 have WR1 : IntKind.i64.wrap ((i : Int) + 1) = (j1 : Int) := by rw [hj1]; exact hs.wrap ha 1 (by omega)
 have J1 := hI hj1
 have TK1 := hI (show AtK L j1 _ from by rw [hj1]; exact ha.k1)
 clear hj1
 obtain ⟨j2, hj2⟩ : ∃ j, j = i + 2 := ⟨_, rfl⟩
 have WR2 : IntKind.i64.wrap ((i : Int) + 2) = (j2 : Int) := by rw [hj2]; exact hs.wrap ha 2 (by omega)
 have J2 := hI hj2
 have TK2 := hI (show AtK L j2 _ from by rw [hj2]; exact ha.k2)
 clear hj2
 obtain ⟨j3, hj3⟩ : ∃ j, j = i + 3 := ⟨_, rfl⟩
 have WR3 : IntKind.i64.wrap ((i : Int) + 3) = (j3 : Int) := by rw [hj3]; exact hs.wrap ha 3 (by omega)
 have J3 := hI hj3
 have TK3 := hI (show AtK L j3 _ from by rw [hj3]; exact ha.k3)
 clear hj3
 have TK0 := hI ha.k
 have A0 := hI ha
 have EN := hI hs.ends
 obtain ⟨w00, hw00⟩ : ∃ W, W = w.alloc (.cells #[.int .i64 0, .string { data := #[] }, .int .i64 0, .int .i64 0, .int .i64 0, .string { data := #[] }, .string { data := #[] }, .slice none 0 0, .slice none 0 0, .slice none 0 0, .slice none 0 0] 136) := ⟨_, rfl⟩
 have hba : Below w.heap.size w w00 := by rw [hw00]; exact (Below.refl _ _).alloc (Nat.le_refl _) _
 have hsa : w00.heap.size = w.heap.size + 1 := by rw [hw00]; exact World.size_alloc ..
 obtain ⟨b00, off0, c00, c01, c02⟩ := (hs.below hba).cells TK0.out
 obtain ⟨w0, hw0⟩ : ∃ W, W = w00.alloc (.cells #[.int .i64 (kindT R), .string (bs (textT R)), .int .i64 off0] 93) := ⟨_, rfl⟩
 have hbb : Below w00.heap.size w00 w0 := by rw [hw0]; exact (Below.refl _ _).alloc (Nat.le_refl _) _
 have HSZ := hI (show w.heap.size < w0.heap.size from by rw [hw0, World.size_alloc]; omega)
 have X0 := hI (show HB 136 w0 w.heap.size #[.int .i64 0, .string { data := #[] }, .int .i64 0, .int .i64 0, .int .i64 0, .string { data := #[] }, .string { data := #[] }, .slice none 0 0, .slice none 0 0, .slice none 0 0, .slice none 0 0] from HB.below (by rw [hw00]; exact heap_alloc_new w _) hbb)
 have T0 := hI (show HB 93 w0 (w.heap.size + 1) #[.int .i64 (kindT R), .string (bs (textT R)), .int .i64 off0] from by rw [hw0, <- hsa]; exact heap_alloc_new w00 _)
 have B00 := hI (hba.trans (hbb.mono hba.size))
 have S0 := hI ((hs.below hba).below hbb)
 have B := hI (Below.refl w0.heap.size w0)
 rw [hw00] at c00 c01 c02
 rw [hw00] at hw0
 clear hs ha hba hbb hsa
 go_enter Tryz.func65, Tryz.ntmps65
 go_upto_region 2 with fail
 rw [<- hw0]
 clear hw0 c00 c01 c02 b00 hw00
 generalize w.heap.size + 1 = tbx at *
 have t0 : _ = some (Value.int .i64 (kindT R)) := (T0.out.below B.out).cell 0
 have t1 : _ = some (Value.string (bs (textT R))) := (T0.out.below B.out).cell 1
 have t2 : _ = some (Value.int .i64 off0) := (T0.out.below B.out).cell 2
 go_wp2_with fail
 refine (ris_any R _ [108, 101, 116] _).mono ?_
 rintro e wi0 ⟨rfl, hb⟩
 replace B := hI (B.out.trans (hb.mono B.out.size))
 clear hb
 clear t0 t1 t2
 cases hq : isT [108, 101, 116] R with
 | true =>
  have Q0 := hI hq
  clear hq
  obtain ⟨b1, off1, c10, c11, c12⟩ := (S0.out.below B.out).cells TK1.out
  by_cases hk : kindT R.tail = 1
  ·have K1 := hI hk
   rw [hk] at c10
   clear hk
   obtain ⟨b2, off2, c20, c21, c22⟩ := (S0.out.below B.out).cells TK2.out
   go_wp2_with fail
   refine (ris_any R.tail.tail _ [61] _).mono ?_
   rintro e wi1 ⟨rfl, hb⟩
   replace B := hI (B.out.trans (hb.mono B.out.size))
   clear hb
   clear b1 c10 c11 c12
   clear b2 c20 c21 c22
   cases hq : isT [61] R.tail.tail with
   | true =>
    have Q1 := hI hq
    clear hq
    have KX := hI (rended_any wi1 j3 R.tail.tail.tail (S0.out.below B.out) (show AtR L j3 R.tail.tail.tail from by rw [J3.out]; exact isT_next Q1.out (kind_next K1.out (by decide) (isT_next Q0.out A0.out EN.out) EN.out) EN.out))
    go_wp2_with fail
    refine KX.out.mono ?_
    rintro e w1 ⟨x1, cs, nx1, bd1, rfl, hv, hb, hr⟩
    obtain ⟨k1, n1, s1, m1, A1, na1, ca1, O1, no1, co1, rfl⟩ := hv.cells6
    rw [show (exC k1 n1 s1 m1 A1 na1 ca1 O1 no1 co1).toArray = #[.int .i64 k1, .int .i64 n1, .string (bs s1), .string (bs m1), .slice A1 na1 ca1, .slice O1 no1 co1] from rfl]
    obtain ⟨v1, hv1⟩ : ∃ W, W = w1.alloc (.cells #[.int .i64 k1, .int .i64 n1, .string (bs s1), .string (bs m1), .slice A1 na1 ca1, .slice O1 no1 co1] 54) := ⟨_, rfl⟩
    have hb2 : Below w1.heap.size w1 v1 := by rw [hv1]; exact (Below.refl _ _).alloc (Nat.le_refl _) _
    have HR1 := hI hr
    have YB1 := hI (show HB 54 v1 w1.heap.size #[.int .i64 k1, .int .i64 n1, .string (bs s1), .string (bs m1), .slice A1 na1 ca1, .slice O1 no1 co1] from by rw [hv1]; exact heap_alloc_new w1 _)
    have HO1 := hI (show w0.heap.size <= w1.heap.size from Nat.le_trans B.out.size hb.size)
    have V1 := hI ((hv.more (S' := fun k => w0.heap.size <= k) fun k _ hk => Nat.le_trans B.out.size hk).below hb2)
    replace B := hI (B.out.trans (hb.mono B.out.size))
    replace B := hI (B.out.trans (hb2.mono B.out.size))
    clear hv hb hr hb2 KX
    go_upto_region 8 with fail
    rw [<- hv1]
    clear hv1
    generalize w1.heap.size = yb1 at *
    obtain ⟨sn, hsn⟩ : ∃ z, z = textT R.tail := ⟨_, rfl⟩
    have HSN := hI hsn
    obtain ⟨b1, off1', -, d1, -⟩ := (S0.out.below B.out.drew).cells TK1.out
    rw [<- hsn] at d1
    clear hsn
    refine wp_region_held_drew (S := fun W => HB 54 W yb1 #[.int .i64 k1, .int .i64 n1, .string (bs s1), .string (bs m1), .slice A1 na1 ca1, .slice O1 no1 co1] /\ W.cell? ⟨tb, tq + j1 * 3 + 1, none⟩ = some (.string (bs sn))) (by kernel_rfl) ⟨YB1.out, d1⟩ (fun hHeld => ?_)
    have HH := hI hHeld
    have BD := hI B.out.drew
    have VD := hI (V1.out.below (Below.refl _ _).drew)
    clear hHeld d1 B V1 YB1
    generalize v1.drew = wq at *
    refine wpAnyH_take (i := 0) (oi := ⟨some 63, _, _, _, _, _⟩) (v := .slice (some ⟨tb, tq, none⟩) n tc) rfl (by kernel_rfl) (by kernel_rfl) (by kernel_rfl) (fun _ _ _ h => h) (Or.inl ⟨by rfl, ?_⟩) HH.out ?_
    ·intro W' hW
     go_simp
    try simp only [Act.put, sA, sB, sC]
    refine wpAnyH_take (i := 1) (oi := ⟨some 64, _, _, _, _, _⟩) (v := .int .i64 i) rfl (by kernel_rfl) (by kernel_rfl) (by kernel_rfl) (fun _ _ _ h => h) (Or.inl ⟨by rfl, ?_⟩) HH.out ?_
    ·intro W' hW
     go_simp
    try simp only [Act.put, sA, sB, sC]
    refine wpAnyH_take (i := 2) (oi := ⟨some 65, _, _, _, _, _⟩) (v := .int .i64 j1) rfl (by kernel_rfl) (by kernel_rfl) (by kernel_rfl) (fun _ _ _ h => h) (Or.inl ⟨by rfl, ?_⟩) HH.out ?_
    ·intro W' hW
     go_simp
    try simp only [Act.put, sA, sB, sC]
    refine wpAnyH_take (i := 3) (oi := ⟨some 66, _, _, _, _, _⟩) (v := .pointer (some ⟨tb, tq + j1 * 3, none⟩)) rfl (by kernel_rfl) (by kernel_rfl) (by kernel_rfl) (fun _ _ _ h => h) (Or.inl ⟨by rfl, ?_⟩) HH.out ?_
    ·intro W' hW
     go_simp
    try simp only [Act.put, sA, sB, sC]
    refine wpAnyH_take (i := 4) (oi := ⟨some 67, _, _, _, _, _⟩) (v := .pointer (some ⟨tb, tq + j1 * 3 + 1, none⟩)) rfl (by kernel_rfl) (by kernel_rfl) (by kernel_rfl) (fun _ _ _ h => h) (Or.inl ⟨by rfl, ?_⟩) HH.out ?_
    ·intro W' hW
     go_simp
    try simp only [Act.put, sA, sB, sC]
    refine wpAnyH_take (i := 5) (oi := ⟨some 68, _, _, _, _, _⟩) (v := .string (bs sn)) rfl (by kernel_rfl) (by kernel_rfl) (by kernel_rfl) (fun _ _ _ h => h) (Or.inl ⟨by rfl, ?_⟩) HH.out ?_
    ·intro W' hW
     have c := hW.2
     go_simp
    try simp only [Act.put, sA, sB, sC]
    refine wpAnyH_take (i := 6) (oi := ⟨some 69, _, _, _, _, _⟩) (v := .agg #[.int .i64 k1, .int .i64 n1, .string (bs s1), .string (bs m1), .slice A1 na1 ca1, .slice O1 no1 co1]) rfl (by kernel_rfl) (by kernel_rfl) (by kernel_rfl) (fun _ _ _ h => h) (Or.inl ⟨by rfl, ?_⟩) HH.out ?_
    ·intro W' hW
     have c0 := HB.cell hW.1 0
     have c1 := HB.cell hW.1 1
     have c2 := HB.cell hW.1 2
     have c3 := HB.cell hW.1 3
     have c4 := HB.cell hW.1 4
     have c5 := HB.cell hW.1 5
     go_simp
    try simp only [Act.put, sA, sB, sC]
    refine wpAnyH_take (i := 7) (oi := ⟨some 70, _, _, _, _, _⟩) (v := .agg #[.int .i64 0, .string (bs sn), .int .i64 0, .int .i64 k1, .int .i64 n1, .string (bs s1), .string (bs m1), .slice A1 na1 ca1, .slice O1 no1 co1, .slice none 0 0, .slice none 0 0]) rfl (by kernel_rfl) (by kernel_rfl) (by kernel_rfl) (fun _ _ _ h => h) (Or.inl ⟨by rfl, ?_⟩) HH.out ?_
    ·intro W' hW
     go_simp
    try simp only [Act.put, sA, sB, sC]
    refine wpAnyH_take (i := 8) (oi := ⟨some 71, _, _, _, _, _⟩) (v := .int .i64 nx1) rfl (by kernel_rfl) (by kernel_rfl) (by kernel_rfl) (fun _ _ _ h => h) (Or.inl ⟨by rfl, ?_⟩) HH.out ?_
    ·intro W' hW
     go_simp
    try simp only [Act.put, sA, sB, sC]
    refine wpAnyH_take (i := 9) (oi := ⟨some 72, _, _, _, _, _⟩) (v := .int .i64 bd1) rfl (by kernel_rfl) (by kernel_rfl) (by kernel_rfl) (fun _ _ _ h => h) (Or.inl ⟨by rfl, ?_⟩) HH.out ?_
    ·intro W' hW
     go_simp
    try simp only [Act.put, sA, sB, sC]
    refine wpAnyH_ready (rs := [10]) (by kernel_rfl) (by simp) ?_
    refine AllReadyH.cons (o := ⟨none, _, _, _, _, _⟩) rfl (fun K hK => ?_) AllReadyH.nil
    refine Eq.mpr (if_pos (by kernel_rfl)) ?_
    refine wp_store_row 136 (.tmp 4) (.tmp 70) rfl w.heap.size #[.int .i64 0, .string (bs sn), .int .i64 0, .int .i64 k1, .int .i64 n1, .string (bs s1), .string (bs m1), .slice A1 na1 ca1, .slice O1 no1 co1, .slice none 0 0, .slice none 0 0] rfl rfl 136 _ (X0.out.below BD.out) rt_size rfl (by simp [Value.oneCell']) ?_
    have hxz : HB 136 (wq.setRow w.heap.size #[.int .i64 0, .string (bs sn), .int .i64 0, .int .i64 k1, .int .i64 n1, .string (bs s1), .string (bs m1), .slice A1 na1 ca1, .slice O1 no1 co1, .slice none 0 0, .slice none 0 0]) w.heap.size #[.int .i64 0, .string (bs sn), .int .i64 0, .int .i64 k1, .int .i64 n1, .string (bs s1), .string (bs m1), .slice A1 na1 ca1, .slice O1 no1 co1, .slice none 0 0, .slice none 0 0] := setRow_heap _ _ _ _ _ _ (X0.out.below BD.out)
    have hgz : wq.grownBy (wq.setRow w.heap.size #[.int .i64 0, .string (bs sn), .int .i64 0, .int .i64 k1, .int .i64 n1, .string (bs s1), .string (bs m1), .slice A1 na1 ca1, .slice O1 no1 co1, .slice none 0 0, .slice none 0 0]) (some w.heap.size) := ⟨rfl, rfl, rfl, Nat.le_of_eq (by simp [World.setRow]), fun k _ hk => setRow_other _ _ _ _ (fun e => hk (by rw [e]))⟩
    generalize wq.setRow w.heap.size #[.int .i64 0, .string (bs sn), .int .i64 0, .int .i64 k1, .int .i64 n1, .string (bs s1), .string (bs m1), .slice A1 na1 ca1, .slice O1 no1 co1, .slice none 0 0, .slice none 0 0] = wz at *
    have XZ := hI hxz
    have GZ := hI hgz
    have BZ := hI ((B00.out.trans (BD.out.mono B00.out.size)).trans (below_gr hgz (B := w.heap.size) (Nat.le_trans B00.out.size BD.out.size) (Nat.le_refl _)))
    have HH2 : HB 54 wz yb1 #[.int .i64 k1, .int .i64 n1, .string (bs s1), .string (bs m1), .slice A1 na1 ca1, .slice O1 no1 co1] /\ wz.cell? ⟨tb, tq + j1 * 3 + 1, none⟩ = some (.string (bs sn)) := ⟨HH.out.1.gr hgz (by have := HO1.out; have := HSZ.out; omega), (World.cell?_of_block (a := ⟨tb, tq + j1 * 3 + 1, none⟩) (hgz.block tb (World.block_lt_of_cell? _ _ HH.out.2) (fun e => by have := Option.some.inj e; have := HTB.out; omega))).trans HH.out.2⟩
    have HH3 := hI HH2
    clear hxz hgz HH HH2
    refine hK.out _ _ HH3.out (fun hHeld => ?_)
    clear hK hHeld
    try simp only [Act.put, sA, sB, sC]
    refine wpAnyH_take (i := 11) (oi := ⟨some 5, _, _, _, _, _⟩) (v := .int .i64 nx1) rfl (by kernel_rfl) (by kernel_rfl) (by kernel_rfl) (fun _ _ _ h => h) (Or.inl ⟨by rfl, ?_⟩) HH3.out ?_
    ·intro W' hW
     go_simp
    try simp only [Act.put, sA, sB, sC]
    refine wpAnyH_take (i := 12) (oi := ⟨some 6, _, _, _, _, _⟩) (v := .int .i64 bd1) rfl (by kernel_rfl) (by kernel_rfl) (by kernel_rfl) (fun _ _ _ h => h) (Or.inl ⟨by rfl, ?_⟩) HH3.out ?_
    ·intro W' hW
     go_simp
    try simp only [Act.put, sA, sB, sC]
    refine wpAnyH_done (by kernel_rfl) ?_ _
    go_wp2_with fail
    refine bodyPost_ret (results_row3 rfl _ _ w.heap.size _ _ _ _ rfl XZ.out Tryz.underlying136 rfl rt_size _ _ rfl rfl) rfl ?_
    exact ⟨.mk 0 sn 0 x1 [] [], _, nx1, bd1, rfl, SV.shut (by unfold InR; omega) (VD.out.gr (S' := fun b => w.heap.size <= b) GZ.out (fun b _ (hb : w0.heap.size <= b) => ⟨by have := HSZ.out; omega, by have := HSZ.out; omega⟩)) (SL.nil_ _ _) (SL.nil_ _ _), BZ.out, (by rw [HSN.out]; unfold sRes; rw [if_pos Q0.out, if_pos K1.out, if_pos Q1.out]; exact HR1.out.map fun e => St.mk 0 (textT R.tail) 0 e [] [])⟩
   | false =>
    have Q1 := hI hq
    clear hq
    have X := hI (X0.out.below B.out)
    go_wp2_with (with_reducible refine at_store_ (t := 136) ?_; refine Hid.out ?_)
    refine hI ?_
    refine hb_put rfl _ _ rfl rfl w.heap.size rfl rfl rt_size (by simp [Value.oneCell']) X.out rfl ?_
    intro wz hxz hgz hsz
    clear hsz
    have XZ := hI hxz
    have GZ := hI hgz
    have BZ := hI (bz_of B00.out B.out hgz)
    clear hxz hgz X
    go_wp2_with fail
    refine bodyPost_ret (results_row3 rfl _ _ w.heap.size _ _ _ _ rfl XZ.out Tryz.underlying136 rfl rt_size _ _ rfl rfl) rfl ?_
    exact ⟨emS, _, _, j2, rfl, svz _ _, BZ.out, RR.bad_ (by unfold sRes; rw [if_pos Q0.out, if_pos K1.out, if_neg (by rw [Q1.out]; decide)]) (show AtR L j2 R.tail.tail from by rw [J2.out]; exact kind_next K1.out (by decide) (isT_next Q0.out A0.out EN.out) EN.out)⟩
  have K1 := hI hk
  have e1 : (kindT R.tail != 1) = true := by simpa using hk
  have e1b : (kindT R.tail == 1) = false := by simpa using hk
  have e2 : decide (kindT R.tail = 1) = false := by simpa using hk
  clear hk
  have X := hI (X0.out.below B.out)
  go_wp2_with (with_reducible refine at_store_ (t := 136) ?_; refine Hid.out ?_)
  refine hI ?_
  refine hb_put rfl _ _ rfl rfl w.heap.size rfl rfl rt_size (by simp [Value.oneCell']) X.out rfl ?_
  intro wz hxz hgz hsz
  clear hsz
  have XZ := hI hxz
  have GZ := hI hgz
  have BZ := hI (bz_of B00.out B.out hgz)
  clear hxz hgz X
  go_wp2_with fail
  refine bodyPost_ret (results_row3 rfl _ _ w.heap.size _ _ _ _ rfl XZ.out Tryz.underlying136 rfl rt_size _ _ rfl rfl) rfl ?_
  exact ⟨emS, _, _, j1, rfl, svz _ _, BZ.out, RR.bad_ (by unfold sRes; rw [if_pos Q0.out, if_neg K1.out]) (show AtR L j1 R.tail from by rw [J1.out]; exact isT_next Q0.out A0.out EN.out)⟩
 | false =>
  have Q0 := hI hq
  clear hq
  have t0 : _ = some (Value.int .i64 (kindT R)) := (T0.out.below B.out).cell 0
  have t1 : _ = some (Value.string (bs (textT R))) := (T0.out.below B.out).cell 1
  have t2 : _ = some (Value.int .i64 off0) := (T0.out.below B.out).cell 2
  by_cases hk : kindT R = 1
  ·have K1 := hI hk
   rw [hk] at t0
   clear hk
   obtain ⟨b1, off1, c10, c11, c12⟩ := (S0.out.below B.out).cells TK1.out
   go_wp2_with fail
   refine (ris_any R.tail _ [61] _).mono ?_
   rintro e wi2 ⟨rfl, hb⟩
   replace B := hI (B.out.trans (hb.mono B.out.size))
   clear hb
   clear b1 c10 c11 c12
   clear t0 t1 t2
   cases hq : isT [61] R.tail with
   | true =>
    have Q2 := hI hq
    clear hq
    have KX := hI (rended_any wi2 j2 R.tail.tail (S0.out.below B.out) (show AtR L j2 R.tail.tail from by rw [J2.out]; exact isT_next Q2.out (kind_next K1.out (by decide) A0.out EN.out) EN.out))
    go_wp2_with fail
    refine KX.out.mono ?_
    rintro e w1 ⟨x1, cs, nx1, bd1, rfl, hv, hb, hr⟩
    obtain ⟨k1, n1, s1, m1, A1, na1, ca1, O1, no1, co1, rfl⟩ := hv.cells6
    rw [show (exC k1 n1 s1 m1 A1 na1 ca1 O1 no1 co1).toArray = #[.int .i64 k1, .int .i64 n1, .string (bs s1), .string (bs m1), .slice A1 na1 ca1, .slice O1 no1 co1] from rfl]
    obtain ⟨v1, hv1⟩ : ∃ W, W = w1.alloc (.cells #[.int .i64 k1, .int .i64 n1, .string (bs s1), .string (bs m1), .slice A1 na1 ca1, .slice O1 no1 co1] 54) := ⟨_, rfl⟩
    have hb2 : Below w1.heap.size w1 v1 := by rw [hv1]; exact (Below.refl _ _).alloc (Nat.le_refl _) _
    have HR1 := hI hr
    have YB1 := hI (show HB 54 v1 w1.heap.size #[.int .i64 k1, .int .i64 n1, .string (bs s1), .string (bs m1), .slice A1 na1 ca1, .slice O1 no1 co1] from by rw [hv1]; exact heap_alloc_new w1 _)
    have HO1 := hI (show w0.heap.size <= w1.heap.size from Nat.le_trans B.out.size hb.size)
    have V1 := hI ((hv.more (S' := fun k => w0.heap.size <= k) fun k _ hk => Nat.le_trans B.out.size hk).below hb2)
    replace B := hI (B.out.trans (hb.mono B.out.size))
    replace B := hI (B.out.trans (hb2.mono B.out.size))
    clear hv hb hr hb2 KX
    go_upto_region 11 with fail
    rw [<- hv1]
    clear hv1
    generalize w1.heap.size = yb1 at *
    have t0 : _ = some (Value.int .i64 (kindT R)) := (T0.out.below B.out).cell 0
    have t1 : _ = some (Value.string (bs (textT R))) := (T0.out.below B.out).cell 1
    have t2 : _ = some (Value.int .i64 off0) := (T0.out.below B.out).cell 2
    go_wp2_with (with_reducible refine at_load_ (t := 54) ?_; refine Hid.out ?_)
    refine hI ?_
    refine wpList_load_row rfl _ _ rfl yb1 rfl _ _ _ _ YB1.out Tryz.underlying54 rfl rx_size ?_
    have X := hI (X0.out.below B.out)
    go_wp2_with (with_reducible refine at_store_ (t := 136) ?_; refine Hid.out ?_)
    refine hI ?_
    refine hb_put rfl _ _ rfl rfl w.heap.size rfl rfl rt_size (by simp [Value.oneCell']) X.out rfl ?_
    intro wz hxz hgz hsz
    clear hsz
    have XZ := hI hxz
    have GZ := hI hgz
    have BZ := hI (bz_of B00.out B.out hgz)
    clear hxz hgz X
    go_wp2_with fail
    refine bodyPost_ret (results_row3 rfl _ _ w.heap.size _ _ _ _ rfl XZ.out Tryz.underlying136 rfl rt_size _ _ rfl rfl) rfl ?_
    exact ⟨.mk 1 (textT R) 0 x1 [] [], _, _, _, rfl, SV.shut (by unfold InR; omega) (V1.out.gr (S' := fun b => w.heap.size <= b) GZ.out (fun b _ (hb : w0.heap.size <= b) => ⟨by have := HSZ.out; omega, by have := HSZ.out; omega⟩)) (SL.nil_ _ _) (SL.nil_ _ _), BZ.out, (by unfold sRes; rw [if_neg (by rw [Q0.out]; decide), if_pos K1.out, if_pos Q2.out]; exact HR1.out.map fun e => St.mk 1 (textT R) 0 e [] [])⟩
   | false =>
    have Q2 := hI hq
    clear hq
    have t0 : _ = some (Value.int .i64 (kindT R)) := (T0.out.below B.out).cell 0
    have t1 : _ = some (Value.string (bs (textT R))) := (T0.out.below B.out).cell 1
    have t2 : _ = some (Value.int .i64 off0) := (T0.out.below B.out).cell 2
    rw [K1.out] at t0
    have KX := hI (rcall_any wi2 i R (.inr K1.out) (S0.out.below B.out) A0.out)
    go_wp2_with fail
    refine KX.out.mono ?_
    rintro e w1 ⟨x1, cs, nx1, bd1, rfl, hv, hb, hr⟩
    obtain ⟨k1, n1, s1, m1, A1, na1, ca1, O1, no1, co1, rfl⟩ := hv.cells6
    rw [show (exC k1 n1 s1 m1 A1 na1 ca1 O1 no1 co1).toArray = #[.int .i64 k1, .int .i64 n1, .string (bs s1), .string (bs m1), .slice A1 na1 ca1, .slice O1 no1 co1] from rfl]
    obtain ⟨v1, hv1⟩ : ∃ W, W = w1.alloc (.cells #[.int .i64 k1, .int .i64 n1, .string (bs s1), .string (bs m1), .slice A1 na1 ca1, .slice O1 no1 co1] 54) := ⟨_, rfl⟩
    have hb2 : Below w1.heap.size w1 v1 := by rw [hv1]; exact (Below.refl _ _).alloc (Nat.le_refl _) _
    have HR1 := hI hr
    have YB1 := hI (show HB 54 v1 w1.heap.size #[.int .i64 k1, .int .i64 n1, .string (bs s1), .string (bs m1), .slice A1 na1 ca1, .slice O1 no1 co1] from by rw [hv1]; exact heap_alloc_new w1 _)
    have HO1 := hI (show w0.heap.size <= w1.heap.size from Nat.le_trans B.out.size hb.size)
    have V1 := hI ((hv.more (S' := fun k => w0.heap.size <= k) fun k _ hk => Nat.le_trans B.out.size hk).below hb2)
    replace B := hI (B.out.trans (hb.mono B.out.size))
    replace B := hI (B.out.trans (hb2.mono B.out.size))
    clear hv hb hr hb2 KX
    go_upto_region 14 with fail
    rw [<- hv1]
    clear hv1
    generalize w1.heap.size = yb1 at *
    rcases HR1.out.cases with ⟨r, j, hP, rfl, rfl, hA⟩ | ⟨r, j, hP, rfl, hA⟩
    ·have AR := hI hA
     have HP := hI hP
     clear hP hA HR1
     obtain ⟨jn, hjn⟩ : ∃ k, k = j + 1 := ⟨_, rfl⟩
     have Wjn : IntKind.i64.wrap ((j : Int) + 1) = (jn : Int) := by rw [hjn]; exact S0.out.wrap AR.out 1 (by omega)
     have Hjn := hI hjn
     clear hjn
     obtain ⟨b0z, off0z, c0z0, c0z1, c0z2⟩ := (S0.out.below B.out).cells AR.out.k
     go_wp2_with fail
     refine (ris_any r _ [59] _).mono ?_
     rintro e wi6 ⟨rfl, hb⟩
     replace YB1 := hI (YB1.out.below hb)
     replace V1 := hI (V1.out.below hb)
     replace B := hI (B.out.trans (hb.mono B.out.size))
     clear hb
     clear b0z c0z0 c0z1 c0z2
     cases hq : isT [59] r with
     | true =>
      have Q6 := hI hq
      clear hq
      go_wp2_with (with_reducible refine at_load_ (t := 54) ?_; refine Hid.out ?_)
      refine hI ?_
      refine wpList_load_row rfl _ _ rfl yb1 rfl _ _ _ _ YB1.out Tryz.underlying54 rfl rx_size ?_
      have X := hI (X0.out.below B.out)
      go_wp2_with (with_reducible refine at_store_ (t := 136) ?_; refine Hid.out ?_)
      refine hI ?_
      refine hb_put rfl _ _ rfl rfl w.heap.size rfl rfl rt_size (by simp [Value.oneCell']) X.out rfl ?_
      intro wz hxz hgz hsz
      clear hsz
      have XZ := hI hxz
      have GZ := hI hgz
      have BZ := hI (bz_of B00.out B.out hgz)
      clear hxz hgz X
      go_wp2_with fail
      refine bodyPost_ret (results_row3 rfl _ _ w.heap.size _ _ _ _ rfl XZ.out Tryz.underlying136 rfl rt_size _ _ rfl rfl) rfl ?_
      exact ⟨.mk 2 [] 0 x1 [] [], _, jn, -1, rfl, SV.shut (by unfold InR; omega) (V1.out.gr (S' := fun b => w.heap.size <= b) GZ.out (fun b _ (hb : w0.heap.size <= b) => ⟨by have := HSZ.out; omega, by have := HSZ.out; omega⟩)) (SL.nil_ _ _) (SL.nil_ _ _), BZ.out, RR.ok_ (by unfold sRes; rw [if_neg (by rw [Q0.out]; decide), if_pos K1.out, if_neg (by rw [Q2.out]; decide), HPC.out, HP.out]; rw [pThen_ok Q6.out]; rfl) (by rw [Hjn.out]; exact isT_next Q6.out AR.out EN.out)⟩
     | false =>
      have Q6 := hI hq
      clear hq
      go_wp2_with (with_reducible refine at_load_ (t := 54) ?_; refine Hid.out ?_)
      refine hI ?_
      refine wpList_load_row rfl _ _ rfl yb1 rfl _ _ _ _ YB1.out Tryz.underlying54 rfl rx_size ?_
      have X := hI (X0.out.below B.out)
      go_wp2_with (with_reducible refine at_store_ (t := 136) ?_; refine Hid.out ?_)
      refine hI ?_
      refine hb_put rfl _ _ rfl rfl w.heap.size rfl rfl rt_size (by simp [Value.oneCell']) X.out rfl ?_
      intro wz hxz hgz hsz
      clear hsz
      have XZ := hI hxz
      have GZ := hI hgz
      have BZ := hI (bz_of B00.out B.out hgz)
      clear hxz hgz X
      go_wp2_with fail
      refine bodyPost_ret (results_row3 rfl _ _ w.heap.size _ _ _ _ rfl XZ.out Tryz.underlying136 rfl rt_size _ _ rfl rfl) rfl ?_
      exact ⟨.mk 2 [] 0 x1 [] [], _, _, j, rfl, SV.shut (by unfold InR; omega) (V1.out.gr (S' := fun b => w.heap.size <= b) GZ.out (fun b _ (hb : w0.heap.size <= b) => ⟨by have := HSZ.out; omega, by have := HSZ.out; omega⟩)) (SL.nil_ _ _) (SL.nil_ _ _), BZ.out, RR.bad_ (by unfold sRes; rw [if_neg (by rw [Q0.out]; decide), if_pos K1.out, if_neg (by rw [Q2.out]; decide), HPC.out, HP.out]; rw [pThen_no Q6.out]; rfl) AR.out⟩
    have AR := hI hA
    have HP := hI hP
    clear hP hA HR1
    have eb : ¬ ((j : Int) < 0) := by omega
    go_wp2_with (with_reducible refine at_load_ (t := 54) ?_; refine Hid.out ?_)
    refine hI ?_
    refine wpList_load_row rfl _ _ rfl yb1 rfl _ _ _ _ YB1.out Tryz.underlying54 rfl rx_size ?_
    have X := hI (X0.out.below B.out)
    go_wp2_with (with_reducible refine at_store_ (t := 136) ?_; refine Hid.out ?_)
    refine hI ?_
    refine hb_put rfl _ _ rfl rfl w.heap.size rfl rfl rt_size (by simp [Value.oneCell']) X.out rfl ?_
    intro wz hxz hgz hsz
    clear hsz
    have XZ := hI hxz
    have GZ := hI hgz
    have BZ := hI (bz_of B00.out B.out hgz)
    clear hxz hgz X
    go_wp2_with fail
    refine bodyPost_ret (results_row3 rfl _ _ w.heap.size _ _ _ _ rfl XZ.out Tryz.underlying136 rfl rt_size _ _ rfl rfl) rfl ?_
    exact ⟨.mk 2 [] 0 x1 [] [], _, _, j, rfl, SV.shut (by unfold InR; omega) (V1.out.gr (S' := fun b => w.heap.size <= b) GZ.out (fun b _ (hb : w0.heap.size <= b) => ⟨by have := HSZ.out; omega, by have := HSZ.out; omega⟩)) (SL.nil_ _ _) (SL.nil_ _ _), BZ.out, RR.bad_ (by unfold sRes; rw [if_neg (by rw [Q0.out]; decide), if_pos K1.out, if_neg (by rw [Q2.out]; decide), HPC.out, HP.out]; rfl) AR.out⟩
  have K1 := hI hk
  have e1 : (kindT R != 1) = true := by simpa using hk
  have e1b : (kindT R == 1) = false := by simpa using hk
  have e2 : decide (kindT R = 1) = false := by simpa using hk
  clear hk
  clear t0 t1 t2
  have t0 : _ = some (Value.int .i64 (kindT R)) := (T0.out.below B.out).cell 0
  have t1 : _ = some (Value.string (bs (textT R))) := (T0.out.below B.out).cell 1
  have t2 : _ = some (Value.int .i64 off0) := (T0.out.below B.out).cell 2
  go_wp2_with fail
  refine (ris_any R _ [104, 111, 115, 116] _).mono ?_
  rintro e wi3 ⟨rfl, hb⟩
  replace B := hI (B.out.trans (hb.mono B.out.size))
  clear hb
  clear t0 t1 t2 e1 e1b e2
  cases hq : isT [104, 111, 115, 116] R with
  | true =>
   have Q3 := hI hq
   clear hq
   have KX := hI (rcall_any wi3 i R (.inl Q3.out) (S0.out.below B.out) A0.out)
   go_wp2_with fail
   refine KX.out.mono ?_
   rintro e w1 ⟨x1, cs, nx1, bd1, rfl, hv, hb, hr⟩
   obtain ⟨k1, n1, s1, m1, A1, na1, ca1, O1, no1, co1, rfl⟩ := hv.cells6
   rw [show (exC k1 n1 s1 m1 A1 na1 ca1 O1 no1 co1).toArray = #[.int .i64 k1, .int .i64 n1, .string (bs s1), .string (bs m1), .slice A1 na1 ca1, .slice O1 no1 co1] from rfl]
   obtain ⟨v1, hv1⟩ : ∃ W, W = w1.alloc (.cells #[.int .i64 k1, .int .i64 n1, .string (bs s1), .string (bs m1), .slice A1 na1 ca1, .slice O1 no1 co1] 54) := ⟨_, rfl⟩
   have hb2 : Below w1.heap.size w1 v1 := by rw [hv1]; exact (Below.refl _ _).alloc (Nat.le_refl _) _
   have HR1 := hI hr
   have YB1 := hI (show HB 54 v1 w1.heap.size #[.int .i64 k1, .int .i64 n1, .string (bs s1), .string (bs m1), .slice A1 na1 ca1, .slice O1 no1 co1] from by rw [hv1]; exact heap_alloc_new w1 _)
   have HO1 := hI (show w0.heap.size <= w1.heap.size from Nat.le_trans B.out.size hb.size)
   have V1 := hI ((hv.more (S' := fun k => w0.heap.size <= k) fun k _ hk => Nat.le_trans B.out.size hk).below hb2)
   replace B := hI (B.out.trans (hb.mono B.out.size))
   replace B := hI (B.out.trans (hb2.mono B.out.size))
   clear hv hb hr hb2 KX
   go_upto_region 14 with fail
   rw [<- hv1]
   clear hv1
   generalize w1.heap.size = yb1 at *
   rcases HR1.out.cases with ⟨r, j, hP, rfl, rfl, hA⟩ | ⟨r, j, hP, rfl, hA⟩
   ·have AR := hI hA
    have HP := hI hP
    clear hP hA HR1
    obtain ⟨jn, hjn⟩ : ∃ k, k = j + 1 := ⟨_, rfl⟩
    have Wjn : IntKind.i64.wrap ((j : Int) + 1) = (jn : Int) := by rw [hjn]; exact S0.out.wrap AR.out 1 (by omega)
    have Hjn := hI hjn
    clear hjn
    obtain ⟨b0z, off0z, c0z0, c0z1, c0z2⟩ := (S0.out.below B.out).cells AR.out.k
    go_wp2_with fail
    refine (ris_any r _ [59] _).mono ?_
    rintro e wi6 ⟨rfl, hb⟩
    replace YB1 := hI (YB1.out.below hb)
    replace V1 := hI (V1.out.below hb)
    replace B := hI (B.out.trans (hb.mono B.out.size))
    clear hb
    clear b0z c0z0 c0z1 c0z2
    cases hq : isT [59] r with
    | true =>
     have Q6 := hI hq
     clear hq
     go_wp2_with (with_reducible refine at_load_ (t := 54) ?_; refine Hid.out ?_)
     refine hI ?_
     refine wpList_load_row rfl _ _ rfl yb1 rfl _ _ _ _ YB1.out Tryz.underlying54 rfl rx_size ?_
     have X := hI (X0.out.below B.out)
     go_wp2_with (with_reducible refine at_store_ (t := 136) ?_; refine Hid.out ?_)
     refine hI ?_
     refine hb_put rfl _ _ rfl rfl w.heap.size rfl rfl rt_size (by simp [Value.oneCell']) X.out rfl ?_
     intro wz hxz hgz hsz
     clear hsz
     have XZ := hI hxz
     have GZ := hI hgz
     have BZ := hI (bz_of B00.out B.out hgz)
     clear hxz hgz X
     go_wp2_with fail
     refine bodyPost_ret (results_row3 rfl _ _ w.heap.size _ _ _ _ rfl XZ.out Tryz.underlying136 rfl rt_size _ _ rfl rfl) rfl ?_
     exact ⟨.mk 2 [] 0 x1 [] [], _, jn, -1, rfl, SV.shut (by unfold InR; omega) (V1.out.gr (S' := fun b => w.heap.size <= b) GZ.out (fun b _ (hb : w0.heap.size <= b) => ⟨by have := HSZ.out; omega, by have := HSZ.out; omega⟩)) (SL.nil_ _ _) (SL.nil_ _ _), BZ.out, RR.ok_ (by unfold sRes; rw [if_neg (by rw [Q0.out]; decide), if_neg K1.out, if_pos Q3.out, HPC.out, HP.out]; rw [pThen_ok Q6.out]; rfl) (by rw [Hjn.out]; exact isT_next Q6.out AR.out EN.out)⟩
    | false =>
     have Q6 := hI hq
     clear hq
     go_wp2_with (with_reducible refine at_load_ (t := 54) ?_; refine Hid.out ?_)
     refine hI ?_
     refine wpList_load_row rfl _ _ rfl yb1 rfl _ _ _ _ YB1.out Tryz.underlying54 rfl rx_size ?_
     have X := hI (X0.out.below B.out)
     go_wp2_with (with_reducible refine at_store_ (t := 136) ?_; refine Hid.out ?_)
     refine hI ?_
     refine hb_put rfl _ _ rfl rfl w.heap.size rfl rfl rt_size (by simp [Value.oneCell']) X.out rfl ?_
     intro wz hxz hgz hsz
     clear hsz
     have XZ := hI hxz
     have GZ := hI hgz
     have BZ := hI (bz_of B00.out B.out hgz)
     clear hxz hgz X
     go_wp2_with fail
     refine bodyPost_ret (results_row3 rfl _ _ w.heap.size _ _ _ _ rfl XZ.out Tryz.underlying136 rfl rt_size _ _ rfl rfl) rfl ?_
     exact ⟨.mk 2 [] 0 x1 [] [], _, _, j, rfl, SV.shut (by unfold InR; omega) (V1.out.gr (S' := fun b => w.heap.size <= b) GZ.out (fun b _ (hb : w0.heap.size <= b) => ⟨by have := HSZ.out; omega, by have := HSZ.out; omega⟩)) (SL.nil_ _ _) (SL.nil_ _ _), BZ.out, RR.bad_ (by unfold sRes; rw [if_neg (by rw [Q0.out]; decide), if_neg K1.out, if_pos Q3.out, HPC.out, HP.out]; rw [pThen_no Q6.out]; rfl) AR.out⟩
   have AR := hI hA
   have HP := hI hP
   clear hP hA HR1
   have eb : ¬ ((j : Int) < 0) := by omega
   go_wp2_with (with_reducible refine at_load_ (t := 54) ?_; refine Hid.out ?_)
   refine hI ?_
   refine wpList_load_row rfl _ _ rfl yb1 rfl _ _ _ _ YB1.out Tryz.underlying54 rfl rx_size ?_
   have X := hI (X0.out.below B.out)
   go_wp2_with (with_reducible refine at_store_ (t := 136) ?_; refine Hid.out ?_)
   refine hI ?_
   refine hb_put rfl _ _ rfl rfl w.heap.size rfl rfl rt_size (by simp [Value.oneCell']) X.out rfl ?_
   intro wz hxz hgz hsz
   clear hsz
   have XZ := hI hxz
   have GZ := hI hgz
   have BZ := hI (bz_of B00.out B.out hgz)
   clear hxz hgz X
   go_wp2_with fail
   refine bodyPost_ret (results_row3 rfl _ _ w.heap.size _ _ _ _ rfl XZ.out Tryz.underlying136 rfl rt_size _ _ rfl rfl) rfl ?_
   exact ⟨.mk 2 [] 0 x1 [] [], _, _, j, rfl, SV.shut (by unfold InR; omega) (V1.out.gr (S' := fun b => w.heap.size <= b) GZ.out (fun b _ (hb : w0.heap.size <= b) => ⟨by have := HSZ.out; omega, by have := HSZ.out; omega⟩)) (SL.nil_ _ _) (SL.nil_ _ _), BZ.out, RR.bad_ (by unfold sRes; rw [if_neg (by rw [Q0.out]; decide), if_neg K1.out, if_pos Q3.out, HPC.out, HP.out]; rfl) AR.out⟩
  | false =>
   have Q3 := hI hq
   clear hq
   have t0 : _ = some (Value.int .i64 (kindT R)) := (T0.out.below B.out).cell 0
   have t1 : _ = some (Value.string (bs (textT R))) := (T0.out.below B.out).cell 1
   have t2 : _ = some (Value.int .i64 off0) := (T0.out.below B.out).cell 2
   go_wp2_with fail
   refine (ris_any R _ [105, 102] _).mono ?_
   rintro e wi4 ⟨rfl, hb⟩
   replace B := hI (B.out.trans (hb.mono B.out.size))
   clear hb
   clear t0 t1 t2
   cases hq : isT [105, 102] R with
   | true =>
    have Q4 := hI hq
    clear hq
    have KC := hI (HBR.out wi4 (S0.out.below B.out) Q4.out)
    go_wp2_with fail
    refine KC.out.mono ?_
    rintro e w5 ⟨x1, cs, nx1, bd1, rfl, hv, hb, hr⟩
    obtain ⟨k1, s1, n1, ek1, en1, es1, em1, eA1, ena1, eca1, eO1, eno1, eco1, Bb1, nb1, cb1, Ll1, nl1, cl1, rfl⟩ := hv.cells11
    rw [show (stC k1 s1 n1 (exC ek1 en1 es1 em1 eA1 ena1 eca1 eO1 eno1 eco1) Bb1 nb1 cb1 Ll1 nl1 cl1).toArray = #[.int .i64 k1, .string (bs s1), .int .i64 n1, .int .i64 ek1, .int .i64 en1, .string (bs es1), .string (bs em1), .slice eA1 ena1 eca1, .slice eO1 eno1 eco1, .slice Bb1 nb1 cb1, .slice Ll1 nl1 cl1] from rfl]
    have HR1 := hI hr
    have V1 := hI (hv.more (S' := fun k => w0.heap.size <= k) fun k _ hk => Nat.le_trans B.out.size hk)
    replace B := hI (B.out.trans (hb.mono B.out.size))
    clear hv hb hr KC
    have X := hI (X0.out.below B.out)
    go_wp2_with (with_reducible refine at_store_ (t := 136) ?_; refine Hid.out ?_)
    refine hI ?_
    refine hb_put rfl _ _ rfl rfl w.heap.size rfl rfl rt_size (by simp [Value.oneCell']) X.out rfl ?_
    intro wz hxz hgz hsz
    clear hsz
    have XZ := hI hxz
    have GZ := hI hgz
    have BZ := hI (bz_of B00.out B.out hgz)
    clear hxz hgz X
    go_wp2_with fail
    refine bodyPost_ret (results_row3 rfl _ _ w.heap.size _ _ _ _ rfl XZ.out Tryz.underlying136 rfl rt_size _ _ rfl rfl) rfl ?_
    exact ⟨x1, _, _, _, rfl, (V1.out.gr (S' := fun b => w.heap.size <= b) GZ.out (fun b _ (hb : w0.heap.size <= b) => ⟨by have := HSZ.out; omega, by have := HSZ.out; omega⟩)), BZ.out, (by unfold sRes; rw [if_neg (by rw [Q0.out]; decide), if_neg K1.out, if_neg (by rw [Q3.out]; decide), if_pos Q4.out]; exact HR1.out)⟩
   | false =>
    have Q4 := hI hq
    clear hq
    have t0 : _ = some (Value.int .i64 (kindT R)) := (T0.out.below B.out).cell 0
    have t1 : _ = some (Value.string (bs (textT R))) := (T0.out.below B.out).cell 1
    have t2 : _ = some (Value.int .i64 off0) := (T0.out.below B.out).cell 2
    go_wp2_with fail
    refine (ris_any R _ [114, 101, 112, 101, 97, 116] _).mono ?_
    rintro e wi5 ⟨rfl, hb⟩
    replace B := hI (B.out.trans (hb.mono B.out.size))
    clear hb
    clear t0 t1 t2
    cases hq : isT [114, 101, 112, 101, 97, 116] R with
    | true =>
     have Q5 := hI hq
     clear hq
     have A1Q := hI (show AtR L j1 R.tail from by rw [J1.out]; exact isT_next Q5.out A0.out EN.out)
     go_wp2_with fail
     refine (rcounted_any wi5 j1 R.tail (S0.out.below B.out) A1Q.out).mono ?_
     rintro e wc ⟨rfl, rfl⟩
     by_cases hk : kindT R.tail = 2
     ·have K2 := hI hk
      clear hk
      rw [if_pos K2.out, if_pos K2.out]
      have HIN := hI (numT_in (S0.out.ok.num_at A1Q.out K2.out).1)
      have KC := hI (HBL.out wc j2 R.tail.tail (by have := isT_len Q5.out; have := kind_len K2.out (by decide); omega) (S0.out.below B.out) (by rw [J2.out]; exact kind_next K2.out (by decide) (by have := A1Q.out; rw [J1.out] at this; exact this) EN.out))
      go_wp2_with fail
      refine KC.out.mono ?_
      rintro e w5 ⟨l, AA, am, ac, nx, bd, rfl, hv, hb, hr⟩
      have VL := hI (hv.more (S' := fun k => w0.heap.size <= k) fun k _ hk => Nat.le_trans B.out.size hk)
      have HR1 := hI hr
      replace B := hI (B.out.trans (hb.mono B.out.size))
      clear hv hb hr KC
      have X := hI (X0.out.below B.out)
      go_wp2_with (with_reducible refine at_store_ (t := 136) ?_; refine Hid.out ?_)
      refine hI ?_
      refine hb_put rfl _ _ rfl rfl w.heap.size rfl rfl rt_size (by simp [Value.oneCell']) X.out rfl ?_
      intro wz hxz hgz hsz
      clear hsz
      have XZ := hI hxz
      have GZ := hI hgz
      have BZ := hI (bz_of B00.out B.out hgz)
      clear hxz hgz X
      go_wp2_with fail
      refine bodyPost_ret (results_row3 rfl _ _ w.heap.size _ _ _ _ rfl XZ.out Tryz.underlying136 rfl rt_size _ _ rfl rfl) rfl ?_
      exact ⟨.mk 4 [] (numT (textT R.tail)) emE l [], _, _, _, rfl, SV.shut HIN.out (xve _ _) (VL.out.gr (S' := fun b => w.heap.size <= b) GZ.out (fun b _ (hb : w0.heap.size <= b) => ⟨by have := HSZ.out; omega, by have := HSZ.out; omega⟩)) (SL.nil_ _ _), BZ.out, (by unfold sRes; rw [if_neg (by rw [Q0.out]; decide), if_neg K1.out, if_neg (by rw [Q3.out]; decide), if_neg (by rw [Q4.out]; decide), if_pos Q5.out, if_pos K2.out]; exact HR1.out.map fun l => St.mk 4 [] (numT (textT R.tail)) emE l [])⟩
     have K2 := hI hk
     have e1 : (kindT R.tail != 2) = true := by simpa using hk
     have e1b : (kindT R.tail == 2) = false := by simpa using hk
     have e2 : decide (kindT R.tail = 2) = false := by simpa using hk
     clear hk
     clear e1 e1b e2
     rw [if_neg K2.out, if_neg K2.out]
     have eb : (0 : Int) <= (j1 : Int) := by omega
     have X := hI (X0.out.below B.out)
     go_wp2_with (with_reducible refine at_store_ (t := 136) ?_; refine Hid.out ?_)
     refine hI ?_
     refine hb_put rfl _ _ rfl rfl w.heap.size rfl rfl rt_size (by simp [Value.oneCell']) X.out rfl ?_
     intro wz hxz hgz hsz
     clear hsz
     have XZ := hI hxz
     have GZ := hI hgz
     have BZ := hI (bz_of B00.out B.out hgz)
     clear hxz hgz X
     go_wp2_with fail
     refine bodyPost_ret (results_row3 rfl _ _ w.heap.size _ _ _ _ rfl XZ.out Tryz.underlying136 rfl rt_size _ _ rfl rfl) rfl ?_
     exact ⟨emS, _, _, j1, rfl, svz _ _, BZ.out, RR.bad_ (by unfold sRes; rw [if_neg (by rw [Q0.out]; decide), if_neg K1.out, if_neg (by rw [Q3.out]; decide), if_neg (by rw [Q4.out]; decide), if_pos Q5.out, if_neg K2.out]) A1Q.out⟩
    | false =>
     have Q5 := hI hq
     clear hq
     have t0 : _ = some (Value.int .i64 (kindT R)) := (T0.out.below B.out).cell 0
     have t1 : _ = some (Value.string (bs (textT R))) := (T0.out.below B.out).cell 1
     have t2 : _ = some (Value.int .i64 off0) := (T0.out.below B.out).cell 2
     go_wp2_with fail
     refine (ris_any R _ [114, 101, 116, 117, 114, 110] _).mono ?_
     rintro e wi7 ⟨rfl, hb⟩
     replace B := hI (B.out.trans (hb.mono B.out.size))
     clear hb
     clear t0 t1 t2
     cases hq : isT [114, 101, 116, 117, 114, 110] R with
     | true =>
      have Q7 := hI hq
      clear hq
      have KX := hI (rended_any wi7 j1 R.tail (S0.out.below B.out) (show AtR L j1 R.tail from by rw [J1.out]; exact isT_next Q7.out A0.out EN.out))
      go_wp2_with fail
      refine KX.out.mono ?_
      rintro e w1 ⟨x1, cs, nx1, bd1, rfl, hv, hb, hr⟩
      obtain ⟨k1, n1, s1, m1, A1, na1, ca1, O1, no1, co1, rfl⟩ := hv.cells6
      rw [show (exC k1 n1 s1 m1 A1 na1 ca1 O1 no1 co1).toArray = #[.int .i64 k1, .int .i64 n1, .string (bs s1), .string (bs m1), .slice A1 na1 ca1, .slice O1 no1 co1] from rfl]
      obtain ⟨v1, hv1⟩ : ∃ W, W = w1.alloc (.cells #[.int .i64 k1, .int .i64 n1, .string (bs s1), .string (bs m1), .slice A1 na1 ca1, .slice O1 no1 co1] 54) := ⟨_, rfl⟩
      have hb2 : Below w1.heap.size w1 v1 := by rw [hv1]; exact (Below.refl _ _).alloc (Nat.le_refl _) _
      have HR1 := hI hr
      have YB1 := hI (show HB 54 v1 w1.heap.size #[.int .i64 k1, .int .i64 n1, .string (bs s1), .string (bs m1), .slice A1 na1 ca1, .slice O1 no1 co1] from by rw [hv1]; exact heap_alloc_new w1 _)
      have HO1 := hI (show w0.heap.size <= w1.heap.size from Nat.le_trans B.out.size hb.size)
      have V1 := hI ((hv.more (S' := fun k => w0.heap.size <= k) fun k _ hk => Nat.le_trans B.out.size hk).below hb2)
      replace B := hI (B.out.trans (hb.mono B.out.size))
      replace B := hI (B.out.trans (hb2.mono B.out.size))
      clear hv hb hr hb2 KX
      go_upto_region 27 with fail
      rw [<- hv1]
      clear hv1
      generalize w1.heap.size = yb1 at *
      go_wp2_with (with_reducible refine at_load_ (t := 54) ?_; refine Hid.out ?_)
      refine hI ?_
      refine wpList_load_row rfl _ _ rfl yb1 rfl _ _ _ _ YB1.out Tryz.underlying54 rfl rx_size ?_
      have X := hI (X0.out.below B.out)
      go_wp2_with (with_reducible refine at_store_ (t := 136) ?_; refine Hid.out ?_)
      refine hI ?_
      refine hb_put rfl _ _ rfl rfl w.heap.size rfl rfl rt_size (by simp [Value.oneCell']) X.out rfl ?_
      intro wz hxz hgz hsz
      clear hsz
      have XZ := hI hxz
      have GZ := hI hgz
      have BZ := hI (bz_of B00.out B.out hgz)
      clear hxz hgz X
      go_wp2_with fail
      refine bodyPost_ret (results_row3 rfl _ _ w.heap.size _ _ _ _ rfl XZ.out Tryz.underlying136 rfl rt_size _ _ rfl rfl) rfl ?_
      exact ⟨.mk 5 [] 0 x1 [] [], _, _, _, rfl, SV.shut (by unfold InR; omega) (V1.out.gr (S' := fun b => w.heap.size <= b) GZ.out (fun b _ (hb : w0.heap.size <= b) => ⟨by have := HSZ.out; omega, by have := HSZ.out; omega⟩)) (SL.nil_ _ _) (SL.nil_ _ _), BZ.out, (by unfold sRes; rw [if_neg (by rw [Q0.out]; decide), if_neg K1.out, if_neg (by rw [Q3.out]; decide), if_neg (by rw [Q4.out]; decide), if_neg (by rw [Q5.out]; decide), if_pos Q7.out]; exact HR1.out.map fun e => St.mk 5 [] 0 e [] [])⟩
     | false =>
      have Q7 := hI hq
      clear hq
      have t0 : _ = some (Value.int .i64 (kindT R)) := (T0.out.below B.out).cell 0
      have t1 : _ = some (Value.string (bs (textT R))) := (T0.out.below B.out).cell 1
      have t2 : _ = some (Value.int .i64 off0) := (T0.out.below B.out).cell 2
      go_wp2_with fail
      refine (ris_any R _ [97, 98, 111, 114, 116] _).mono ?_
      rintro e wi8 ⟨rfl, hb⟩
      replace B := hI (B.out.trans (hb.mono B.out.size))
      clear hb
      clear t0 t1 t2
      cases hq : isT [97, 98, 111, 114, 116] R with
      | true =>
       have Q8 := hI hq
       clear hq
       have A1Q := hI (show AtR L j1 R.tail from by rw [J1.out]; exact isT_next Q8.out A0.out EN.out)
       go_wp2_with fail
       refine (rcounted_any wi8 j1 R.tail (S0.out.below B.out) A1Q.out).mono ?_
       rintro e wc ⟨rfl, rfl⟩
       by_cases hk : kindT R.tail = 2
       ·have K2 := hI hk
        clear hk
        rw [if_pos K2.out, if_pos K2.out]
        have HIN := hI (numT_in (S0.out.ok.num_at A1Q.out K2.out).1)
        obtain ⟨b2, off2, c20, c21, c22⟩ := (S0.out.below B.out).cells TK2.out
        go_wp2_with fail
        refine (ris_any R.tail.tail _ [59] _).mono ?_
        rintro e wi9 ⟨rfl, hb⟩
        replace B := hI (B.out.trans (hb.mono B.out.size))
        clear hb
        clear b2 c20 c21 c22
        cases hq : isT [59] R.tail.tail with
        | true =>
         have Q9 := hI hq
         clear hq
         have X := hI (X0.out.below B.out)
         go_wp2_with (with_reducible refine at_store_ (t := 136) ?_; refine Hid.out ?_)
         refine hI ?_
         refine hb_put rfl _ _ rfl rfl w.heap.size rfl rfl rt_size (by simp [Value.oneCell']) X.out rfl ?_
         intro wz hxz hgz hsz
         clear hsz
         have XZ := hI hxz
         have GZ := hI hgz
         have BZ := hI (bz_of B00.out B.out hgz)
         clear hxz hgz X
         go_wp2_with fail
         refine bodyPost_ret (results_row3 rfl _ _ w.heap.size _ _ _ _ rfl XZ.out Tryz.underlying136 rfl rt_size _ _ rfl rfl) rfl ?_
         exact ⟨.mk 6 [] (numT (textT R.tail)) emE [] [], _, j3, -1, rfl, SV.shut HIN.out (xve _ _) (SL.nil_ _ _) (SL.nil_ _ _), BZ.out, RR.ok_ (by unfold sRes; rw [if_neg (by rw [Q0.out]; decide), if_neg K1.out, if_neg (by rw [Q3.out]; decide), if_neg (by rw [Q4.out]; decide), if_neg (by rw [Q5.out]; decide), if_neg (by rw [Q7.out]; decide), if_pos Q8.out, if_pos K2.out, if_pos Q9.out]) (show AtR L j3 R.tail.tail.tail from by rw [J3.out]; exact isT_next Q9.out (kind_next K2.out (by decide) (by have := A1Q.out; rw [J1.out] at this; exact this) EN.out) EN.out)⟩
        | false =>
         have Q9 := hI hq
         clear hq
         have X := hI (X0.out.below B.out)
         go_wp2_with (with_reducible refine at_store_ (t := 136) ?_; refine Hid.out ?_)
         refine hI ?_
         refine hb_put rfl _ _ rfl rfl w.heap.size rfl rfl rt_size (by simp [Value.oneCell']) X.out rfl ?_
         intro wz hxz hgz hsz
         clear hsz
         have XZ := hI hxz
         have GZ := hI hgz
         have BZ := hI (bz_of B00.out B.out hgz)
         clear hxz hgz X
         go_wp2_with fail
         refine bodyPost_ret (results_row3 rfl _ _ w.heap.size _ _ _ _ rfl XZ.out Tryz.underlying136 rfl rt_size _ _ rfl rfl) rfl ?_
         exact ⟨.mk 6 [] (numT (textT R.tail)) emE [] [], _, _, j2, rfl, SV.shut HIN.out (xve _ _) (SL.nil_ _ _) (SL.nil_ _ _), BZ.out, RR.bad_ (by unfold sRes; rw [if_neg (by rw [Q0.out]; decide), if_neg K1.out, if_neg (by rw [Q3.out]; decide), if_neg (by rw [Q4.out]; decide), if_neg (by rw [Q5.out]; decide), if_neg (by rw [Q7.out]; decide), if_pos Q8.out, if_pos K2.out, if_neg (by rw [Q9.out]; decide)]) (show AtR L j2 R.tail.tail from by rw [J2.out]; exact kind_next K2.out (by decide) (by have := A1Q.out; rw [J1.out] at this; exact this) EN.out)⟩
       have K2 := hI hk
       have e1 : (kindT R.tail != 2) = true := by simpa using hk
       have e1b : (kindT R.tail == 2) = false := by simpa using hk
       have e2 : decide (kindT R.tail = 2) = false := by simpa using hk
       clear hk
       clear e1 e1b e2
       rw [if_neg K2.out, if_neg K2.out]
       have eb : ¬ ((j1 : Int) < 0) := by omega
       have X := hI (X0.out.below B.out)
       go_wp2_with (with_reducible refine at_store_ (t := 136) ?_; refine Hid.out ?_)
       refine hI ?_
       refine hb_put rfl _ _ rfl rfl w.heap.size rfl rfl rt_size (by simp [Value.oneCell']) X.out rfl ?_
       intro wz hxz hgz hsz
       clear hsz
       have XZ := hI hxz
       have GZ := hI hgz
       have BZ := hI (bz_of B00.out B.out hgz)
       clear hxz hgz X
       go_wp2_with fail
       refine bodyPost_ret (results_row3 rfl _ _ w.heap.size _ _ _ _ rfl XZ.out Tryz.underlying136 rfl rt_size _ _ rfl rfl) rfl ?_
       exact ⟨.mk 6 [] 0 emE [] [], _, _, j1, rfl, SV.shut (by unfold InR; omega) (xve _ _) (SL.nil_ _ _) (SL.nil_ _ _), BZ.out, RR.bad_ (by unfold sRes; rw [if_neg (by rw [Q0.out]; decide), if_neg K1.out, if_neg (by rw [Q3.out]; decide), if_neg (by rw [Q4.out]; decide), if_neg (by rw [Q5.out]; decide), if_neg (by rw [Q7.out]; decide), if_pos Q8.out, if_neg K2.out]) A1Q.out⟩
      | false =>
       have Q8 := hI hq
       clear hq
       have X := hI (X0.out.below B.out)
       go_wp2_with (with_reducible refine at_store_ (t := 136) ?_; refine Hid.out ?_)
       refine hI ?_
       refine hb_put rfl _ _ rfl rfl w.heap.size rfl rfl rt_size (by simp [Value.oneCell']) X.out rfl ?_
       intro wz hxz hgz hsz
       clear hsz
       have XZ := hI hxz
       have GZ := hI hgz
       have BZ := hI (bz_of B00.out B.out hgz)
       clear hxz hgz X
       go_wp2_with fail
       refine bodyPost_ret (results_row3 rfl _ _ w.heap.size _ _ _ _ rfl XZ.out Tryz.underlying136 rfl rt_size _ _ rfl rfl) rfl ?_
       exact ⟨emS, _, _, i, rfl, svz _ _, BZ.out, RR.bad_ (by unfold sRes; rw [if_neg (by rw [Q0.out]; decide), if_neg K1.out, if_neg (by rw [Q3.out]; decide), if_neg (by rw [Q4.out]; decide), if_neg (by rw [Q5.out]; decide), if_neg (by rw [Q7.out]; decide), if_neg (by rw [Q8.out]; decide)]) A0.out⟩
open Go.RowKit
theorem pN_map (k : Ex -> St) (R : List Tk) : pN k R = (pThen [59] (pE R)).map k := by
 unfold pN
 cases pE R with
 | bad r => rfl
 | ok e r =>
  show (if isT [59] r = true then Res.ok (k e) r.tail else .bad r) = (if isT [59] r = true then Res.ok e r.tail else .bad r).map k
  split <;> rfl
theorem thenMap (k : Ex -> St) (P : Res Ex) : (match P with
  | .bad r => Res.bad r
  | .ok e r => if isT [59] r = true then .ok (k e) r.tail else .bad r) = (pThen [59] P).map k := by
 cases P with
 | bad r => rfl
 | ok e r =>
  show (if isT [59] r = true then Res.ok (k e) r.tail else .bad r) = (if isT [59] r = true then Res.ok e r.tail else .bad r).map k
  split <;> rfl
theorem isT_two {s t : Str} {R : List Tk} (h : isT s R = true) (e : s ≠ t) : ¬ isT t R = true := by rw [isT_ne h e]; decide
theorem sRes_pS (f : Nat) (R : List Tk) : sRes R (pI f R.tail) (pBl f R.tail.tail) (pCl (8 * R.length + 7) R) = pS (f + 1) R := by
 rw [pS]
 unfold sRes
 by_cases h1 : isT [108, 101, 116] R = true
 ·rw [if_pos h1, if_neg (isT_two h1 (show _ ≠ tIf by decide)), if_neg (isT_two h1 (show _ ≠ tRep by decide)), if_pos (show isT tLet R = true from h1), pN_map]
 rw [if_neg h1]
 by_cases hk : kindT R = 1
 ·have h0 : ∀ s, ¬ isT s R = true := fun s => by rw [isT_no hk (by decide) (by decide)]; decide
  rw [if_pos hk, if_neg (h0 _), if_neg (h0 _), if_neg (h0 _), if_neg (h0 _), if_neg (h0 _), if_neg (h0 _), if_pos hk]
  unfold pCl
  rw [if_neg (h0 _), pN_map]
  by_cases h2 : isT [46] R.tail = true
  ·rw [if_pos h2, if_neg (isT_two h2 (show _ ≠ [61] by decide))]
   symm
   exact thenMap _ _
  rw [if_neg h2]
  split
  ·rfl
  rw [pK, if_neg h2]
  rfl
 rw [if_neg hk]
 by_cases h3 : isT [104, 111, 115, 116] R = true
 ·rw [if_pos h3, if_neg (isT_two h3 (show _ ≠ tIf by decide)), if_neg (isT_two h3 (show _ ≠ tRep by decide)), if_neg (isT_two h3 (show _ ≠ tLet by decide)), if_neg (isT_two h3 (show _ ≠ tRet by decide)), if_neg (isT_two h3 (show _ ≠ tAbt by decide)), if_pos (show isT tHost R = true from h3)]
  unfold pCl
  rw [if_pos h3]
  symm
  exact thenMap _ _
 rw [if_neg h3]
 by_cases h4 : isT [105, 102] R = true
 ·rw [if_pos h4, if_pos (show isT tIf R = true from h4)]
 rw [if_neg h4, if_neg (show ¬ isT tIf R = true from h4)]
 by_cases h5 : isT [114, 101, 112, 101, 97, 116] R = true
 ·rw [if_pos h5, if_pos (show isT tRep R = true from h5)]
  split
  ·cases pBl f R.tail.tail <;> rfl
  rfl
 rw [if_neg h5, if_neg (show ¬ isT tRep R = true from h5), if_neg (show ¬ isT tLet R = true from h1)]
 by_cases h6 : isT [114, 101, 116, 117, 114, 110] R = true
 ·rw [if_pos h6, if_pos (show isT tRet R = true from h6), pN_map]
 rw [if_neg h6, if_neg (show ¬ isT tRet R = true from h6)]
 by_cases h7 : isT [97, 98, 111, 114, 116] R = true
 ·rw [if_pos h7, if_pos (show isT tAbt R = true from h7)]
 rw [if_neg h7, if_neg (show ¬ isT tAbt R = true from h7), if_neg (show ¬ isT tHost R = true from h3), if_neg hk]
/-- The walks of the three, with fuel f. -/
structure Ry (L : List Lx.Tok) (tb tq n tc f : Nat) : Prop where
 st : ∀ W i R, 4 * R.length + 3 <= f -> RS L tb tq n tc W -> AtR L i R -> Calls Tryz.prog 65 #[.slice (some ⟨tb, tq, none⟩) n tc, .int .i64 i] W (RT L W (pS f R))
 br : ∀ W i R, 4 * R.tail.length + 2 <= f -> isT [105, 102] R = true -> RS L tb tq n tc W -> AtR L i R -> Calls Tryz.prog 93 #[.slice (some ⟨tb, tq, none⟩) n tc, .int .i64 i] W (RT L W (pI f R.tail))
 bl : ∀ W i R, 4 * R.length + 1 <= f -> RS L tb tq n tc W -> AtR L i R -> Calls Tryz.prog 35 #[.slice (some ⟨tb, tq, none⟩) n tc, .int .i64 i] W (RB L W (pBl f R))
theorem ry_all (L : List Lx.Tok) (tb tq n tc f : Nat) : Ry L tb tq n tc f := by
 induction f using Nat.strongRecOn with
 | ind f ih =>
  refine ⟨fun W i R hl hs ha => ?_, fun W i R hl hq hs ha => ?_, fun W i R hl hs ha => ?_⟩
  ·obtain ⟨f0, rfl⟩ : ∃ f0, f = f0 + 1 := ⟨f - 1, by omega⟩
   rw [<- sRes_pS]
   exact rstmt_gen W i R f0 _ _ hs ha rfl (fun W j r hr h ht => (ih f0 (by omega)).bl W j r (by omega) h ht) (fun W h hq => (ih f0 (by omega)).br W i R (by have := isT_len hq; omega) hq h ha)
  ·obtain ⟨f0, rfl⟩ : ∃ f0, f = f0 + 1 := ⟨f - 1, by omega⟩
   exact rbranch_gen W i R f0 hs ha hq (fun W j r hr h ht => (ih f0 (by omega)).bl W j r (by omega) h ht) (fun W j r hq hr h ht => (ih f0 (by omega)).br W j r (by have := isT_len hq; omega) hq h ht)
  exact rblock_gen W i R f hs ha (fun f' hf W j R' hl h ht => (ih f' hf).st W j R' hl h ht) hl
theorem rblock_any {L : List Lx.Tok} {tb tq n tc : Nat} (W : World) (i : Nat) (R : List Tk) (hs : RS L tb tq n tc W) (ha : AtR L i R) : Calls Tryz.prog 35 #[.slice (some ⟨tb, tq, none⟩) n tc, .int .i64 i] W (RB L W (pBk R)) :=
 (ry_all L tb tq n tc (4 * R.length + 4)).bl W i R (by omega) hs ha
/-- The names of parameters behind the parenthesis. -/
def pPr (R : List Tk) : Res (List Str) := if isT [41] R = true then .ok [] R.tail else pQ (R.length + 2) [] R
def RN (L : List Lx.Tok) (w : World) (P : Res (List Str)) (e : Ending) (w' : World) : Prop :=
 ∃ (l : List Str) (A : Option Addr) (n c : Nat) (nx bd : Int), e = .returned (.tuple #[.slice A n c, .int .i64 nx, .int .i64 bd]) /\ SS w' (fun b => w.heap.size <= b) A n c l /\ Below w.heap.size w w' /\ RR L P l nx bd
theorem rparams_any {L : List Lx.Tok} {tb tq n tc : Nat} (w : World) (i : Nat) (R : List Tk) (hs : RS L tb tq n tc w) (ha : AtR L i R) :
  Calls Tryz.prog 34 #[.slice (some ⟨tb, tq, none⟩) n tc, .int .i64 i] w (RN L w (pPr R)) := by
 obtain ⟨PZ, hPZ⟩ : ∃ P, P = pPr R := ⟨_, rfl⟩
 rw [<- hPZ]
 have HPZ := hI hPZ
 have HRL := hI (show R.length <= 70000 from by have := ha.len; have := hs.ok.len; omega)
 clear hPZ
 obtain ⟨j1, hj1⟩ : ∃ j, j = i + 1 := ⟨_, rfl⟩
 have WR1 : IntKind.i64.wrap ((i : Int) + 1) = (j1 : Int) := by rw [hj1]; exact hs.wrap ha 1 (by omega)
 have J1 := hI hj1
 have TK1 := hI (show AtK L j1 _ from by rw [hj1]; exact ha.k1)
 clear hj1
 have TK0 := hI ha.k
 have A0 := hI ha
 have EN := hI hs.ends
 have S0 := hI hs
 have B := hI (Below.refl w.heap.size w)
 clear hs ha
 obtain ⟨b0, off0, c00, c01, c02⟩ := (S0.out.below B.out).cells TK0.out
 go_enter Tryz.func34, Tryz.ntmps34
 go_wp2_with fail
 refine (ris_any R _ [41] _).mono ?_
 rintro e wi0 ⟨rfl, hb⟩
 replace B := hI (B.out.trans (hb.mono B.out.size))
 clear hb
 clear b0 c00 c01 c02
 cases hq : isT [41] R with
 | true =>
  have Q0 := hI hq
  clear hq
  go_wp2
  go_ret3
  exact ⟨[], none, 0, 0, _, _, rfl, ⟨rfl, ⟨Nat.le_refl _, fun _ => rfl⟩, fun h => absurd h (by omega)⟩, B.out, RR.ok_ (by rw [HPZ.out]; exact if_pos Q0.out) (by rw [J1.out]; exact isT_next Q0.out A0.out EN.out)⟩
 | false =>
  have Q0 := hI hq
  clear hq
  have HZ := hI (show PZ = pQ (R.length + 2) [] R from by rw [HPZ.out]; exact if_neg (by rw [Q0.out]; decide))
  go_wp2_with fail
  go_loopw [1, 7] (fun v1 v7 wr => ∃ (j : Nat) (r : List Tk) (acc : List Str) (f1 : Nat), v1 = .int .i64 j /\ AtR L j r /\ OwnG StV 9 1 wr w.heap.size v7 acc /\ Below w.heap.size w wr /\ r.length + 2 <= f1 /\ acc.length + r.length <= R.length /\ PZ = pQ f1 acc r) (fun v1 _ _ => L.length - (intOf v1).toNat)
  case atStart => exact ⟨i, R, [], R.length + 2, rfl, A0.out, OwnG.nil _ _, B.out, Nat.le_refl _, by simp, HZ.out⟩
  case round =>
   clear B HZ TK0 TK1 WR1 A0
   obtain ⟨j, r, acc, f1, rfl, hA, hO, hb, hf, hl, hz⟩ := hrel
   obtain ⟨f2, hf2⟩ : ∃ f2, f1 = f2 + 1 := ⟨f1 - 1, by omega⟩
   rw [hf2, pQ] at hz
   have F2 := hI (show r.length + 1 <= f2 from by omega)
   obtain ⟨j1, hj1⟩ : ∃ k, k = j + 1 := ⟨_, rfl⟩
   obtain ⟨j2, hj2⟩ : ∃ k, k = j + 2 := ⟨_, rfl⟩
   have WR1 : IntKind.i64.wrap ((j : Int) + 1) = (j1 : Int) := by rw [hj1]; exact S0.out.wrap hA 1 (by omega)
   have WR2 : IntKind.i64.wrap ((j : Int) + 2) = (j2 : Int) := by rw [hj2]; exact S0.out.wrap hA 2 (by omega)
   have J1 := hI hj1
   have J2 := hI hj2
   have AR := hI hA
   have OW := hI hO
   have B := hI hb
   have HL := hI hl
   have HZ := hI hz
   have HW := hI hb.size
   have TK1 := hI (show AtK L j1 r.tail from by rw [hj1]; exact hA.k1)
   clear hA hO hb hf hl hz hf2 hj1 hj2
   obtain ⟨b0, off0, c00, c01, c02⟩ := (S0.out.below B.out).cells AR.out.k
   by_cases hk : kindT r = 1
   ·have K1 := hI hk
    have A1 := hI (show AtR L j1 r.tail from by rw [J1.out]; exact kind_next hk (by decide) AR.out EN.out)
    obtain ⟨s, hs⟩ : ∃ s, s = textT r := ⟨_, rfl⟩
    rw [<- hs] at c01
    have HSS := hI hs
    have HZ1 := hI (HZ.out.trans (if_pos hk))
    rw [hk] at c00
    obtain ⟨wv, hwv⟩ : ∃ W, W = wr.alloc (.cells #[.string (bs s)] 9) := ⟨_, rfl⟩
    have hbv : Below wr.heap.size wr wv := by rw [hwv]; exact (Below.refl _ _).alloc (Nat.le_refl _) _
    have hrv : wv.heap[wr.heap.size]? = some (.cells #[.string (bs s)] 9 (0, 0)) := by rw [hwv]; exact heap_alloc_new wr _
    have HQV := hI (lt_of_block hrv)
    have HRV := hI (range_new (cs := [.string (bs s)]) hrv)
    obtain h0 := OW.out
    have OL := hI fun k hk => (h0.lt k hk).2
    clear OW
    have OW := hI (h0.below okStV hbv)
    clear h0
    replace B := hI (B.out.trans (hbv.mono B.out.size))
    clear hbv hrv hk hs
    go_wp2_with (at_builtin; refine Hid.out ?_)
    refine hI ?_
    rw [<- hwv]
    clear hwv c00 c01 c02 b0
    refine apG rfl (.tmp 23) (.tmp 29) rfl okStV apk_t w.heap.size wr.heap.size _ acc rfl OW.out wr.heap.size s _ rfl HQV.out HRV.out rfl (by have := HL.out; have := HRL.out; omega) B.out.size (fun k hk => OL.out k hk) HW.out ?_
    intro v7 w4 ho hg
    have OW4 := hI ho
    have B4 := hI (B.out.grown hg B.out.size (fun q hq => (OW.out.lt q hq).1))
    clear ho hg OW HRV HQV OL B
    have B := hI B4.out
    clear B4
    obtain ⟨b1, off1, c10, c11, c12⟩ := (S0.out.below B.out).cells TK1.out
    go_wp2_with fail
    refine (ris_any r.tail _ [41] _).mono ?_
    rintro e wi5 ⟨rfl, hb⟩
    replace OW4 := hI (OW4.out.below okStV hb)
    replace B := hI (B.out.trans (hb.mono B.out.size))
    clear hb
    clear b1 c10 c11 c12
    cases hq : isT [41] r.tail with
    | true =>
     have Q5 := hI hq
     clear hq
     obtain ⟨AA, ac, rfl, hxl⟩ := OW4.out.ss
     have HXL := hI hxl
     clear hxl
     go_wp2
     go_ret3
     exact ⟨acc ++ [s], AA, _, ac, _, _, rfl, by have := HXL.out; rw [List.length_append, List.length_singleton] at this; exact this, B.out, RR.ok_ (by rw [HZ1.out, HSS.out]; exact if_pos Q5.out) (by rw [J2.out]; have := isT_next Q5.out A1.out EN.out; rw [J1.out] at this; exact this)⟩
    | false =>
     have Q5 := hI hq
     clear hq
     obtain ⟨b1, off1, c10, c11, c12⟩ := (S0.out.below B.out).cells TK1.out
     go_wp2_with fail
     refine (ris_any r.tail _ [44] _).mono ?_
     rintro e wi6 ⟨rfl, hb⟩
     replace OW4 := hI (OW4.out.below okStV hb)
     replace B := hI (B.out.trans (hb.mono B.out.size))
     clear hb
     clear b1 c10 c11 c12
     cases hq : isT [44] r.tail with
     | true =>
      have Q6 := hI hq
      clear hq
      go_wp2
      go_roundw
      case rel => exact ⟨j2, r.tail.tail, acc ++ [s], f2, rfl, by rw [J2.out]; have := isT_next Q6.out A1.out EN.out; rw [J1.out] at this; exact this, OW4.out, B.out, by have := isT_len Q6.out; have := F2.out; have := kind_len K1.out (by decide); omega, by have := isT_len Q6.out; have := HL.out; have := kind_len K1.out (by decide); rw [List.length_append, List.length_singleton]; omega, by rw [HZ1.out, HSS.out]; exact (if_neg (by rw [Q5.out]; decide)).trans (if_pos Q6.out)⟩
      case measure =>
       have e5 := AR.out.lt
       have e6 := J2.out
       show L.length - (j2 : Int).toNat < L.length - (j : Int).toNat
       omega
     | false =>
      have Q6 := hI hq
      clear hq
      go_wp2
      go_ret3
      exact ⟨[], none, 0, 0, _, _, rfl, ⟨rfl, ⟨Nat.le_refl _, fun _ => rfl⟩, fun h => absurd h (by omega)⟩, B.out, RR.bad_ (by rw [HZ1.out]; exact (if_neg (by rw [Q5.out]; decide)).trans (if_neg (by rw [Q6.out]; decide))) A1.out⟩
   have K1 := hI hk
   have e1 : (kindT r != 1) = true := by simpa using hk
   have e2 : decide (kindT r = 1) = false := by simpa using hk
   clear hk
   go_wp2
   go_ret3
   exact ⟨[], none, 0, 0, _, _, rfl, ⟨rfl, ⟨Nat.le_refl _, fun _ => rfl⟩, fun h => absurd h (by omega)⟩, B.out, RR.bad_ (by rw [HZ.out]; exact if_neg K1.out) AR.out⟩
end Go.Proofs.YtkakbidllpjopaaGreatDoor
namespace Go.Proofs.YtkakbidllpjopaaGreatDoor.Lx
open Go.RowKit
def strRow (xs : List (List UInt8)) : Array Value := (xs.map fun x => Value.string (bs x)).toArray
theorem row_strs {w : World} {xs : List (List UInt8)} {t : TypeId} {fr : Nat × Nat} {g : Nat} (h : w.heap[g]? = some (.cells (strRow xs) t fr)) (j : Nat) (hj : j < xs.length) : w.cell? ⟨g, j, none⟩ = some (.string (bs (xs.getD j []))) := by
 rw [cell_of_row _ _ _ _ _ _ h]
 unfold strRow
 rw [List.getElem?_toArray, List.getElem?_map, List.getElem?_eq_getElem hj, List.getD_eq_getElem?_getD, List.getElem?_eq_getElem hj]
 rfl
theorem rkeys_any (w : World) : Calls Tryz.prog 63 #[] w fun e w' => e = .returned (.slice (some ⟨w.heap.size, 0, none⟩) 14 14) /\ w' = w.alloc (.cells (strRow kws) 9) := by
 go_enter Tryz.func63, Tryz.ntmps63
 go_wp2
 go_ret
 exact ⟨rfl, rfl⟩
theorem rsigns_any (w : World) : Calls Tryz.prog 90 #[] w fun e w' => e = .returned (.slice (some ⟨w.heap.size, 0, none⟩) 19 19) /\ w' = w.alloc (.cells (strRow sgs) 9) := by
 go_enter Tryz.func90, Tryz.ntmps90
 go_wp2
 go_ret
 exact ⟨rfl, rfl⟩
open Go.RowKit
theorem rdigit_any (c : Nat) (w : World) : Calls Tryz.prog 60 #[.int .u8 c] w fun e w' => e = .returned (.bool (digN c)) /\ w' = w := by
 rw [<- digZ_nat]
 generalize (c : Int) = r
 unfold digZ
 by_cases h1 : 48 <= r
 ·by_cases h2 : r <= 57
  all_goals (
   go_enter Tryz.func60, Tryz.ntmps60
   go_wp2
   go_ret
   exact ⟨by first | (simp [h1, h2]; done) | (simp [h1, h2]; omega), rfl⟩)
 go_enter Tryz.func60, Tryz.ntmps60
 go_wp2
 go_ret
 exact ⟨by first | (simp [h1]; done) | (simp [h1]; omega), rfl⟩
theorem rpart_any (c : Nat) (w : World) : Calls Tryz.prog 59 #[.int .u8 c] w fun e w' => e = .returned (.bool (partN c)) /\ w' = w := by
 have HD := hI (rdigit_any c w)
 cases hd : digN c with
 | true =>
  rw [hd] at HD
  have hp : partN c = true := by unfold partN; rw [hd, Bool.or_true]
  rw [hp]
  go_enter Tryz.func59, Tryz.ntmps59
  go_wp2_with fail
  refine HD.out.mono ?_
  rintro e w1 ⟨rfl, rfl⟩
  go_wp2
  go_ret
  exact ⟨by first | rfl | simp, rfl⟩
 | false =>
  rw [hd] at HD
  have hp : partN c = letZ c := by unfold partN; rw [hd, Bool.or_false, letZ_nat]
  rw [hp]
  clear hp hd
  generalize (c : Int) = r at *
  unfold letZ
  by_cases h0 : r = 95
  ·subst h0
   go_enter Tryz.func59, Tryz.ntmps59
   go_wp2_with fail
   refine HD.out.mono ?_
   rintro e w1 ⟨rfl, rfl⟩
   go_wp2
   go_ret
   exact ⟨by first | rfl | simp, rfl⟩
  by_cases h1 : 97 <= r <;> by_cases h2 : r <= 122 <;> by_cases h3 : 65 <= r <;> by_cases h4 : r <= 90
  all_goals first
   | (exfalso; omega)
   | (go_enter Tryz.func59, Tryz.ntmps59
      go_wp2_with fail
      refine HD.out.mono ?_
      rintro e w1 ⟨rfl, rfl⟩
      go_wp2
      go_ret
      exact ⟨by first | (simp [h0, h1, h2, h3, h4]; done) | (simp [h0, h1, h2, h3, h4]; rw [decide_eq_false (by omega), decide_eq_false (by omega)]; simp [beq_eq_false_iff_ne.2 h0]) | (simp [h0, h1, h2, h3, h4]; rw [beq_eq_false_iff_ne.2 h0, decide_eq_false (by omega), decide_eq_false (by omega)]; rfl), rfl⟩)
theorem take_has (xs : List (List UInt8)) (s : List UInt8) (k : Nat) (hk : k < xs.length) (h : (xs.take k).contains s = false) : (xs.take (k + 1)).contains s = (xs.getD k [] == s) := by
 rw [List.take_succ_eq_append_getElem hk, List.contains_eq_any_beq, List.any_append, <- List.contains_eq_any_beq, h, Bool.false_or, List.any_cons, List.any_nil, Bool.or_false, List.getD_eq_getElem?_getD, List.getElem?_eq_getElem hk]
 have h2 : ∀ a b : List UInt8, (a == b) = (b == a) := fun a b => by
  by_cases h : a = b
  ·subst h; rfl
  rw [beq_eq_false_iff_ne.2 h, beq_eq_false_iff_ne.2 (Ne.symm h)]
 exact h2 _ _
theorem take_hit (xs : List (List UInt8)) (s : List UInt8) (k : Nat) (h : (xs.take k).contains s = true) : xs.contains s = true := by
 rw [List.contains_iff_mem] at *
 exact List.mem_of_mem_take h
theorem rhas_any (xs : List (List UInt8)) (s : List UInt8) (g n : Nat) (t : TypeId) (fr : Nat × Nat) (w : World) (hn : n = xs.length) (hn9 : xs.length <= 100) (hr : w.heap[g]? = some (.cells (strRow xs) t fr)) :
  Calls Tryz.prog 62 #[.slice (some ⟨g, 0, none⟩) n n, .string (bs s)] w fun e w' => e = .returned (.bool (xs.contains s)) /\ w' = w := by
 subst hn
 have HR := hI hr
 have hni : (xs.length : Int) <= 100 := by omega
 have hsl : (bs s).toList = s := bs_toList s
 clear hr hn9
 go_enter Tryz.func62, Tryz.ntmps62
 go_wp2
 go_loopw [5] (fun i wr => ∃ k : Nat, k <= xs.length /\ i = .int .i64 k /\ Hid ((xs.take k).contains s = false) /\ wr = w) (fun i _ => xs.length - (intOf i).toNat)
 case atStart => exact ⟨0, by omega, rfl, hI (by simp), rfl⟩
 case round =>
  obtain ⟨k, hk, rfl, HH, rfl⟩ := hrel
  by_cases hlt : k < xs.length
  ·skip
   have hki : (k : Int) < (xs.length : Int) := by omega
   have HK := hI hlt
   have c0 := row_strs HR.out k hlt
   have HT := hI (take_has xs s k hlt HH.out)
   have HM := hI (take_hit xs s (k + 1))
   generalize xs.getD k [] = x at *
   have hxl : (bs x).toList = x := bs_toList x
   clear hk hlt HH
   by_cases hx : x = s
   ·subst hx
    have HF := hI (HM.out (by rw [HT.out]; simp))
    clear HT HM
    go_wp2
    go_ret
    exact ⟨by rw [HF.out]; first | rfl | simp, rfl⟩
   have hxb : (x == s) = false := by simpa using hx
   have HT2 := hI (HT.out.trans hxb)
   clear HT HM
   go_wp2
   go_roundw
   case rel => exact ⟨k + 1, HK.out, by go_num, HT2, by first | rfl | trivial⟩
   case measure => exact meas_up _ _ HK.out
  skip
  obtain rfl : k = xs.length := by omega
  have HF := HH.out
  rw [List.take_length] at HF
  have HF2 := hI HF
  clear hk hlt HF HH
  go_wp2
  go_ret
  exact ⟨by rw [HF2.out]; rfl, rfl⟩
/-- What the reference's number keeps: n is the number so far, unless it was too big before. -/
def NumI (l : List UInt8) (k : Nat) (n : Int) (big : Bool) : Prop := (big = false /\ n = (numV (l.take k) : Int) /\ numV (l.take k) <= 9223372036854775809) ∨ (big = true /\ 9223372036854775807 < numV (l.take k))
theorem numV_step (l : List UInt8) (k : Nat) (hk : k < l.length) : numV (l.take (k + 1)) = 10 * numV (l.take k) + (l[k].toNat - 48) := by
 unfold numV
 rw [List.take_succ_eq_append_getElem hk, List.foldl_append]
 rfl
theorem num_end {l : List UInt8} {n : Int} {big : Bool} (h : NumI l l.length n big) (hd : l.all digB = true) (hz : ¬ (1 < l.length /\ l.head? = some 48)) : numE l = if big = true ∨ 9223372036854775807 < n then 3 else 0 := by
 unfold numE
 rw [if_pos hd, if_neg hz]
 rw [NumI, List.take_length] at h
 rcases h with ⟨rfl, rfl, h3⟩ | ⟨rfl, h2⟩
 ·by_cases hv : numV l <= 9223372036854775807
  ·rw [if_pos hv, if_neg (by simp; omega)]
  rw [if_neg hv, if_pos (.inr (by omega))]
 rw [if_neg (by omega), if_pos (.inl rfl)]
theorem rnumber_any (l : List UInt8) (w : World) (hl : l.length <= 65536) (hne : l ≠ []) : Calls Tryz.prog 61 #[.string (bs l)] w fun e w' => e = .returned (.int .i64 (numE l)) /\ w' = w := by
 have hsz := bs_size l
 have hli : (l.length : Int) <= 65536 := by omega
 have HNE := hI hne
 clear hl hne
 go_enter Tryz.func61, Tryz.ntmps61
 go_wp2
 go_loopw [3, 4, 5] (fun nn bb i wr => ∃ (k : Nat) (n : Int) (big : Bool), k <= l.length /\ i = .int .i64 k /\ nn = .int .u64 n /\ bb = .bool big /\ 0 <= n /\ n <= 18446744073709551615 /\ Hid ((l.take k).all digB = true) /\ Hid (NumI l k n big) /\ wr = w) (fun _ _ i _ => l.length - (intOf i).toNat)
 case atStart => exact ⟨0, 0, false, by omega, rfl, rfl, rfl, by omega, by omega, hI (by simp), hI (.inl ⟨rfl, by simp [numV], by simp [numV]⟩), rfl⟩
 case round =>
  obtain ⟨k, n, big, hk, rfl, rfl, rfl, hn0, hn1, HA, HI, rfl⟩ := hrel
  by_cases hlt : k < l.length
  ·skip
   have hki : (k : Int) < (l.length : Int) := by omega
   have hps : k < (bs l).size := hlt
   have HK := hI hlt
   obtain ⟨s1, s2⟩ := take_all l k hlt HA.out
   have hge : ((bs l)[k]'hps).toNat = (l[k]).toNat := rfl
   have HVS := hI (numV_step l k hlt)
   have hc256 := (l[k]).toNat_lt
   have HD := hI (rdigit_any (l[k]).toNat wr)
   by_cases h2 : digN (l[k]).toNat = true
   ·have S1 := hI (s1 h2)
    have hdg : 48 <= (l[k]).toNat /\ (l[k]).toNat <= 57 := by unfold digN at h2; simpa using h2
    rw [h2] at HD
    clear s1 s2 h2 HA hc256
    generalize (l[k]).toNat = c at *
    obtain ⟨g1, g2⟩ := hdg
    have w1 : IntKind.u8.wrap ((c : Int) - 48) = (c : Int) - 48 := by simp [IntKind.wrap, IntKind.bits, IntKind.signed]; omega
    have w2 : IntKind.u64.wrap ((c : Int) - 48) = (c : Int) - 48 := by simp [IntKind.wrap, IntKind.bits, IntKind.signed]; omega
    have HG := hI (And.intro g1 g2)
    clear hlt hk g1 g2
    by_cases hc : 922337203685477580 < n
    ·have HNI := hI (show NumI l (k + 1) (IntKind.u64.wrap (IntKind.u64.wrap (10 * n) + ((c : Int) - 48))) true from .inr ⟨rfl, by
      have h1 := HVS.out
      have h2 := HG.out
      rcases HI.out with ⟨_, h3, h4⟩ | ⟨_, h3⟩ <;> omega⟩)
     have hw64 : ∀ z, 0 <= IntKind.u64.wrap z /\ IntKind.u64.wrap z <= 18446744073709551615 := fun z => by simp only [IntKind.wrap, IntKind.bits, IntKind.signed]; simp; omega
     have HW4 := hI (hw64 (IntKind.u64.wrap (10 * n) + ((c : Int) - 48)))
     clear hw64
     go_wp2_with fail
     refine HD.out.mono ?_
     rintro e w1 ⟨rfl, rfl⟩
     go_wp2
     go_roundw
     case rel => exact ⟨k + 1, _, true, HK.out, by go_num, rfl, rfl, HW4.out.1, HW4.out.2, S1, HNI, by first | rfl | trivial⟩
     case measure => exact meas_up _ _ HK.out
    have w3 : IntKind.u64.wrap (10 * n) = 10 * n := by simp [IntKind.wrap, IntKind.bits, IntKind.signed]; omega
    have w4 : IntKind.u64.wrap (10 * n + ((c : Int) - 48)) = 10 * n + ((c : Int) - 48) := by have := HG.out; simp [IntKind.wrap, IntKind.bits, IntKind.signed]; omega
    have HNI := hI (show NumI l (k + 1) (10 * n + ((c : Int) - 48)) big by
     have h1 := HVS.out
     have h2 := HG.out
     rcases HI.out with ⟨h5, h3, h4⟩ | ⟨h5, h3⟩
     ·exact .inl ⟨h5, by omega, by omega⟩
     exact .inr ⟨h5, by omega⟩)
    have HW4 := hI (show 0 <= 10 * n + ((c : Int) - 48) /\ 10 * n + ((c : Int) - 48) <= 18446744073709551615 by have := HG.out; omega)
    go_wp2_with fail
    refine HD.out.mono ?_
    rintro e w1 ⟨rfl, rfl⟩
    go_wp2
    go_roundw
    case rel => exact ⟨k + 1, _, big, HK.out, by go_num, rfl, rfl, HW4.out.1, HW4.out.2, S1, HNI, by first | rfl | trivial⟩
    case measure => exact meas_up _ _ HK.out
   have h2f : digN (l[k]).toNat = false := by simpa using h2
   have S2 := hI (s2 h2f)
   rw [h2f] at HD
   clear s1 s2 h2 h2f HA HI hc256 HVS
   generalize (l[k]).toNat = c at *
   clear hlt hk
   go_wp2_with fail
   refine HD.out.mono ?_
   rintro e w1 ⟨rfl, rfl⟩
   go_wp2
   go_ret
   exact ⟨by unfold numE; rw [S2.out, if_neg (by decide)]; rfl, rfl⟩
  skip
  obtain rfl : k = l.length := by omega
  have ht := HA.out
  rw [List.take_length] at ht
  have HEN := hI (num_end HI.out ht)
  have HN5 := hI (show (1 < l.length /\ l.head? = some 48) -> numE l = 5 from fun h => by unfold numE; rw [if_pos ht, if_pos h])
  have hlen : 0 < l.length := List.length_pos_iff.2 HNE.out
  have h0s : 0 < (bs l).size := hlen
  have hhead : l.head? = some l[0] := head_get hlen
  have hc48 : l[0] = 48 ↔ (l[0]).toNat = 48 := by rw [<- UInt8.toNat_inj]; rfl
  have hge : ((bs l)[0]'h0s).toNat = (l[0]).toNat := rfl
  have hli1 : (1 : Int) <= (l.length : Int) := by omega
  clear hk hlt ht HA HI
  rw [hhead] at HN5 HEN
  by_cases h1 : 1 < l.length
  ·have h1i : (1 : Int) < (l.length : Int) := by omega
   by_cases hz : (l[0]).toNat = 48
   ·have HF := hI (HN5.out ⟨h1, by rw [hc48.2 hz]⟩)
    have hzi : ((l[0]).toNat : Int) = 48 := by omega
    clear HN5 HEN hc48 hhead
    generalize (l[0]).toNat = c at *
    subst hz
    clear h1
    go_wp2
    go_ret
    exact ⟨by rw [HF.out]; rfl, rfl⟩
   have HF := hI (HEN.out (fun h => hz (hc48.1 (by injection h.2))))
   clear HN5 HEN hc48 hhead
   generalize (l[0]).toNat = c at *
   clear h1
   have hzi : ¬ (c : Int) = 48 := by omega
   cases big
   ·by_cases hv : 9223372036854775807 < n
    ·have HF2 := hI (HF.out.trans (if_pos (.inr hv)))
     clear HF
     go_wp2
     go_ret
     exact ⟨by rw [HF2.out]; rfl, rfl⟩
    have HF2 := hI (HF.out.trans (if_neg (by simp; omega)))
    clear HF
    go_wp2
    go_ret
    exact ⟨by rw [HF2.out]; rfl, rfl⟩
   have HF2 := hI (HF.out.trans (if_pos (.inl rfl)))
   clear HF
   go_wp2
   go_ret
   exact ⟨by rw [HF2.out]; rfl, rfl⟩
  have HF := hI (HEN.out (fun h => h1 h.1))
  have h1i : (l.length : Int) = 1 := by omega
  clear HN5 HEN hc48 hhead h1 hge
  cases big
  ·by_cases hv : 9223372036854775807 < n
   ·have HF2 := hI (HF.out.trans (if_pos (.inr hv)))
    clear HF
    go_wp2
    go_ret
    exact ⟨by rw [HF2.out]; rfl, rfl⟩
   have HF2 := hI (HF.out.trans (if_neg (by simp; omega)))
   clear HF
   go_wp2
   go_ret
   exact ⟨by rw [HF2.out]; rfl, rfl⟩
  have HF2 := hI (HF.out.trans (if_pos (.inl rfl)))
  clear HF
  go_wp2
  go_ret
  exact ⟨by rw [HF2.out]; rfl, rfl⟩
open Go.RowKit
/-- The sign found among the first k. -/
def sgB (k : Nat) (l : List UInt8) : List UInt8 := ((sgs.take k).find? (fun x => x.isPrefixOf l)).getD []
theorem below_drewN' {B : Nat} {w W : World} (h : Below B w W) (n : Nat) : Below B w (W.drewN n) := ⟨h.os, h.tape, h.output, h.size, h.block⟩
theorem sgs_sorted : ∀ k, k < 19 -> (0 < (sgs.getD k []).length /\ (sgs.getD k []).length <= 2) /\ ∀ y ∈ sgs.take k, (sgs.getD k []).length <= y.length := by decide
theorem sgB_succ (k : Nat) (hk : k < 19) (l : List UInt8) : sgB (k + 1) l = if (sgs.getD k []).isPrefixOf l = true /\ (sgB k l).length < (sgs.getD k []).length then sgs.getD k [] else sgB k l := by
 obtain ⟨⟨h0, _⟩, hs⟩ := sgs_sorted k hk
 have hk' : k < sgs.length := hk
 have hg : sgs[k] = sgs.getD k [] := by rw [List.getD_eq_getElem?_getD, List.getElem?_eq_getElem hk']; rfl
 unfold sgB
 rw [List.take_succ_eq_append_getElem hk', List.find?_append, hg]
 generalize sgs.getD k [] = x at *
 cases hf : (sgs.take k).find? (fun x => x.isPrefixOf l) with
 | some y =>
  have := hs y (List.mem_of_find?_eq_some hf)
  rw [if_neg (by rintro ⟨_, h⟩; simp at h; omega)]
  rfl
 | none =>
  rw [Option.none_or]
  by_cases hp : x.isPrefixOf l = true
  ·rw [if_pos ⟨hp, by simpa using h0⟩]; simp [hp]
  rw [if_neg (fun h => hp h.1)]; simp [hp]
theorem sgB_all (l : List UInt8) : sgB 19 l = (sgs.find? (fun x => x.isPrefixOf l)).getD [] := rfl
theorem pre_take {x l : List UInt8} : x.isPrefixOf l = true ↔ x.length <= l.length /\ l.take x.length = x := by
 rw [List.isPrefixOf_iff_prefix]
 constructor
 ·intro h; exact ⟨h.length_le, (List.prefix_iff_eq_take.1 h).symm⟩
 intro h; rw [List.prefix_iff_eq_take]; exact h.2.symm
theorem sgB_len (k : Nat) (l : List UInt8) (hk : k <= 19) : (sgB k l).length <= 2 := by
 induction k with
 | zero => exact Nat.zero_le _
 | succ k ih =>
  rw [sgB_succ k hk]
  split
  ·exact (sgs_sorted k hk).1.2
  exact ih (by omega)
theorem rsign_any (l : List UInt8) (w : World) (hl : l.length <= 65536) :
  Calls Tryz.prog 64 #[.string (bs l)] w fun e w' => e = .returned (.string (bs (sgB 19 l))) /\ Below w.heap.size w w' := by
 have hsz := bs_size l
 have hli : (l.length : Int) <= 65536 := by omega
 clear hl
 go_enter Tryz.func64, Tryz.ntmps64
 go_wp2_with fail
 refine (rsigns_any w).mono ?_
 rintro e w1 ⟨rfl, hw1⟩
 have HR := hI (show w1.heap[w.heap.size]? = some (.cells (strRow sgs) 9 (0, 0)) by rw [hw1]; exact heap_alloc_new _ _)
 have HB := hI (show Below w.heap.size w w1 by rw [hw1]; exact (Below.refl _ _).alloc (Nat.le_refl _) _)
 clear hw1
 go_wp2
 go_loopw [4, 5] (fun b i wr => ∃ k : Nat, k <= 19 /\ i = .int .i64 k /\ b = .string (bs (sgB k l)) /\ Hid (wr.heap[w.heap.size]? = some (.cells (strRow sgs) 9 (0, 0))) /\ Hid (Below w.heap.size w wr)) (fun _ i _ => 19 - (intOf i).toNat)
 case atStart => exact ⟨0, by omega, rfl, rfl, HR, HB⟩
 case round =>
  clear HR HB
  obtain ⟨k, hk, rfl, rfl, HR, HB⟩ := hrel
  by_cases hlt : k < 19
  ·skip
   have hki : (k : Int) < 19 := by omega
   have HK := hI hlt
   have c0 := row_strs HR.out k hlt
   have HR2 := hI fun nn => (show (wr.drewN nn).heap[w.heap.size]? = some (.cells (strRow sgs) 9 (0, 0)) from HR.out)
   have HB2 := hI fun nn => below_drewN' HB.out nn
   have hsu := sgB_succ k hlt l
   obtain ⟨⟨hx0, hx2⟩, _⟩ := sgs_sorted k hlt
   have hb2 := sgB_len k l hk
   generalize sgB k l = b1 at *
   generalize sgs.getD k [] = x at *
   have hxl : (bs x).toList = x := bs_toList x
   have hxz : (bs x).size = x.length := bs_size x
   have hbz : (bs b1).size = b1.length := bs_size b1
   have hext : (bs l).extract 0 x.length = bs (l.take x.length) := bs_head l _
   have hx2i : (x.length : Int) <= 2 := by omega
   have hb2i : (b1.length : Int) <= 2 := by omega
   simp only [pre_take] at hsu
   clear hk hlt HR HB
   by_cases h1 : x.length <= l.length
   ·have h1i : (x.length : Int) <= (l.length : Int) := by omega
    by_cases h2 : l.take x.length = x
    ·rw [h2] at hext
     by_cases h3 : b1.length < x.length
     ·rw [if_pos ⟨⟨h1, h2⟩, h3⟩] at hsu
      have HSU := hI hsu
      clear hsu
      have h3i : (b1.length : Int) < (x.length : Int) := by omega
      clear h1 h2
      go_wp2_with fail
      go_quiet (fail)
      go_wp2
      go_roundw
      case rel => exact ⟨k + 1, HK.out, by go_num, by rw [HSU.out], HR2.out _, HB2.out _⟩
      case measure => exact meas_up _ _ HK.out
     rw [if_neg (fun h => h3 h.2)] at hsu
     have HSU := hI hsu
     clear hsu
     have h3i : ¬ (b1.length : Int) < (x.length : Int) := by omega
     clear h1 h2
     go_wp2_with fail
     go_quiet (fail)
     go_wp2
     go_roundw
     case rel => exact ⟨k + 1, HK.out, by go_num, by rw [HSU.out], HR2.out _, HB2.out _⟩
     case measure => exact meas_up _ _ HK.out
    rw [if_neg (fun h => h2 h.1.2)] at hsu
    have HSU := hI hsu
    clear hsu
    have htl : (bs (l.take x.length)).toList = l.take x.length := bs_toList _
    have h2b : (l.take x.length == x) = false := by simpa using h2
    generalize l.take x.length = y at *
    clear h1 h2
    go_wp2_with fail
    go_quiet (fail)
    go_wp2
    go_roundw
    case rel => exact ⟨k + 1, HK.out, by go_num, by rw [HSU.out], HR2.out _, HB2.out _⟩
    case measure => exact meas_up _ _ HK.out
   have h1i : ¬ (x.length : Int) <= (l.length : Int) := by omega
   rw [if_neg (fun h => h1 h.1.1)] at hsu
   have HSU := hI hsu
   clear hsu
   go_wp2_with fail
   go_quiet (fail)
   go_wp2
   go_roundw
   case rel => exact ⟨k + 1, HK.out, by go_num, by rw [HSU.out], HR2.out _, HB2.out _⟩
   case measure => exact meas_up _ _ HK.out
  skip
  obtain rfl : k = 19 := by omega
  have hki : ¬ ((19 : Nat) : Int) < 19 := by omega
  rw [show ((19 : Nat) : Int) = 19 from rfl]
  clear hk hlt HR
  go_wp2
  go_ret
  exact ⟨rfl, HB.out⟩
theorem ws_drop {l : List UInt8} {k : Nat} (hk : k < l.length) (h : wsB l[k] = true) : blankA false (l.drop k) = blankA false (l.drop (k + 1)) + 1 := by
 rw [List.drop_eq_getElem_cons hk]
 simp only [blankA, h, if_true]
theorem hash_drop {l : List UInt8} {k : Nat} (hk : k < l.length) (h : l[k] = 35) : blankA false (l.drop k) = blankA true (l.drop k) := by
 rw [List.drop_eq_getElem_cons hk, h]
 simp [blankA, wsB]
theorem in_drop {l : List UInt8} {k : Nat} (hk : k < l.length) (h : l[k] ≠ 10) : blankA true (l.drop k) = blankA true (l.drop (k + 1)) + 1 := by
 rw [List.drop_eq_getElem_cons hk]
 simp only [blankA, h, if_false]
theorem out_drop {l : List UInt8} {k : Nat} (hk : k < l.length) (h : l[k] = 10) : blankA true (l.drop k) = blankA false (l.drop k) := by
 rw [List.drop_eq_getElem_cons hk, h]
 simp [blankA, wsB]
theorem tok_drop {l : List UInt8} {k : Nat} (hk : k < l.length) (h : wsB l[k] = false) (h35 : l[k] ≠ 35) : blankA false (l.drop k) = 0 := by
 rw [List.drop_eq_getElem_cons hk]
 simp [blankA, h, h35]
theorem word_more {l : List UInt8} {k : Nat} (hk : k < l.length) (h : partN (l[k]).toNat = true) : (word (l.drop k)).length = (word (l.drop (k + 1))).length + 1 := by
 rw [List.drop_eq_getElem_cons hk]
 unfold word
 rw [List.takeWhile_cons, if_pos (by exact h), List.length_cons]
theorem word_none {l : List UInt8} {k : Nat} (hk : k < l.length) (h : partN (l[k]).toNat = false) : word (l.drop k) = [] := by
 rw [List.drop_eq_getElem_cons hk]
 unfold word
 rw [List.takeWhile_cons, if_neg (by show ¬ partN (l[k]).toNat = true; rw [h]; decide)]
theorem word_dig {l : List UInt8} {k : Nat} (hk : k < l.length) (h : partN (l[k]).toNat = true) : headDig (word (l.drop k)) = digN (l[k]).toNat := by
 rw [List.drop_eq_getElem_cons hk]
 unfold word
 rw [List.takeWhile_cons, if_pos (by exact h)]
 rfl
/-- The reference's Scan stands at i with the tokens acc (true: within a comment). -/
def RfI (c : Bool) (l : List UInt8) (i : Nat) (acc : List Tok) : Prop := ScI l (i + blankA c (l.drop i)) acc
theorem rf_start (l : List UInt8) : RfI false l 0 [] := by
 unfold RfI
 rw [List.drop_zero, Nat.zero_add]
 exact sc_start l
theorem rf_ws {l : List UInt8} {i : Nat} {acc : List Tok} (h : RfI false l i acc) (hk : i < l.length) (hw : wsB l[i] = true) : RfI false l (i + 1) acc := by
 unfold RfI at *
 rw [ws_drop hk hw, <- Nat.add_assoc, Nat.add_right_comm] at h
 exact h
theorem rf_hash {l : List UInt8} {i : Nat} {acc : List Tok} (h : RfI false l i acc) (hk : i < l.length) (hw : l[i] = 35) : RfI true l i acc := by
 unfold RfI at *
 rw [hash_drop hk hw] at h
 exact h
theorem rf_in {l : List UInt8} {i : Nat} {acc : List Tok} (h : RfI true l i acc) (hk : i < l.length) (hw : l[i] ≠ 10) : RfI true l (i + 1) acc := by
 unfold RfI at *
 rw [in_drop hk hw, <- Nat.add_assoc, Nat.add_right_comm] at h
 exact h
theorem rf_out {l : List UInt8} {i : Nat} {acc : List Tok} (h : RfI true l i acc) (hk : i < l.length) (hw : l[i] = 10) : RfI false l i acc := by
 unfold RfI at *
 rw [out_drop hk hw] at h
 exact h
theorem rf_over {l : List UInt8} {acc : List Tok} (h : RfI true l l.length acc) : RfI false l l.length acc := by
 unfold RfI at *
 rw [List.drop_length] at *
 exact h
theorem rf_tok {l : List UInt8} {i : Nat} {acc : List Tok} (h : RfI false l i acc) (hk : i < l.length) (hw : wsB l[i] = false) (h35 : l[i] ≠ 35) : ScI l i acc := by
 unfold RfI at h
 rw [tok_drop hk hw h35] at h
 exact h
theorem rf_step {l x : List UInt8} {i : Nat} {acc : List Tok} {kd : Int} (h : ScI l i acc) (hk : i < l.length) (hn : nextT (l.drop i) = (kd, x, 0)) : RfI false l (i + x.length) (acc ++ [⟨kd, x, i⟩]) := by
 have := sc_step h hk (by rw [hn])
 rw [hn] at this
 exact this
theorem rf_err {l x : List UInt8} {i : Nat} {acc : List Tok} {kd e : Int} (h : ScI l i acc) (hk : i < l.length) (hn : nextT (l.drop i) = (kd, x, e)) (he : e ≠ 0) (h6 : l.length <= 65536) : scanL l = ([], i, e) := by
 have := sc_err h hk (by rw [hn]; exact he) h6
 rw [hn] at this
 exact this
theorem rf_end {l : List UInt8} {acc : List Tok} (h : RfI false l l.length acc) (h6 : l.length <= 65536) : scanL l = (acc ++ [⟨0, [], l.length⟩], 0, 0) := by
 unfold RfI at h
 rw [List.drop_length] at h
 exact sc_end h h6
/-- What follows at a token that begins with a letter or a digit. -/
structure WordI (l : List UInt8) (i : Nat) (acc : List Tok) (W : List UInt8) (d : Bool) : Prop where
 pos : 0 < W.length
 le : i + W.length <= l.length
 ext : (bs l).extract i (i + W.length) = bs W
 num : d = true -> numE W = 0 -> RfI false l (i + W.length) (acc ++ [⟨2, W, i⟩])
 bad : d = true -> numE W ≠ 0 -> scanL l = ([], i, numE W)
 kw : d = false -> kws.contains W = true -> RfI false l (i + W.length) (acc ++ [⟨4, W, i⟩])
 name : d = false -> kws.contains W = false -> W.length <= 24 -> RfI false l (i + W.length) (acc ++ [⟨1, W, i⟩])
 long : d = false -> kws.contains W = false -> 24 < W.length -> scanL l = ([], i, 16)
theorem rf_word {l : List UInt8} {i : Nat} {acc : List Tok} (h : ScI l i acc) (hk : i < l.length) (h6 : l.length <= 65536) (hp : partN (l[i]).toNat = true) : WordI l i acc (word (l.drop i)) (digN (l[i]).toNat) := by
 have h1 := word_more hk hp
 have h2 := word_len (l.drop i)
 rw [List.length_drop] at h2
 have h3 := word_dig hk hp
 have hne : word (l.drop i) ≠ [] := by intro e; rw [e] at h1; simp at h1
 rw [<- h3]
 refine ⟨by omega, by omega, ?_, fun hd he => ?_, fun hd he => ?_, fun hd he => ?_, fun hd he hl => ?_, fun hd he hl => ?_⟩
 ·rw [bs_extract, Nat.add_sub_cancel_left, word_take]
 ·exact rf_step h hk (by unfold nextT; rw [if_pos hd, he])
 ·exact rf_err h hk (by unfold nextT; rw [if_pos hd]) he h6
 ·exact rf_step h hk (by unfold nextT; rw [if_neg (by rw [hd]; decide), if_pos he])
 ·exact rf_step h hk (by unfold nextT; rw [if_neg (by rw [hd]; decide), if_neg (by rw [he]; decide), if_neg (by omega), if_pos hne])
 exact rf_err h hk (by unfold nextT; rw [if_neg (by rw [hd]; decide), if_neg (by rw [he]; decide), if_pos hl]) (by decide) h6
/-- What follows at a token that begins with another byte. -/
structure SignI (l : List UInt8) (i : Nat) (acc : List Tok) (W : List UInt8) : Prop where
 le : i + W.length <= l.length
 two : W.length <= 2
 yes : W ≠ [] -> RfI false l (i + W.length) (acc ++ [⟨3, W, i⟩])
 no : W = [] -> scanL l = ([], i, 5)
theorem rf_sign {l : List UInt8} {i : Nat} {acc : List Tok} (h : ScI l i acc) (hk : i < l.length) (h6 : l.length <= 65536) (hp : partN (l[i]).toNat = false) : SignI l i acc (sgB 19 (l.drop i)) := by
 have hw := word_none hk hp
 have h2 := sgB_len 19 (l.drop i) (Nat.le_refl _)
 rw [sgB_all] at *
 have hn : nextT (l.drop i) = match sgs.find? (fun x => x.isPrefixOf (l.drop i)) with
  | some x => (3, x, 0)
  | none => (0, [], 5) := by
  unfold nextT
  rw [hw]
  rfl
 cases hf : sgs.find? (fun x => x.isPrefixOf (l.drop i)) with
 | none =>
  rw [hf] at hn
  exact ⟨by simp; omega, by simp, fun hne => absurd rfl hne, fun _ => rf_err h hk hn (by decide) h6⟩
 | some x =>
  rw [hf] at hn h2
  have hp := List.isPrefixOf_iff_prefix.1 (show x.isPrefixOf (l.drop i) = true from List.find?_some (p := fun y : List UInt8 => y.isPrefixOf (l.drop i)) hf)
  have hle := hp.length_le
  rw [List.length_drop] at hle
  exact ⟨by simp; omega, h2, fun _ => rf_step h hk hn, fun he => absurd he (sgs_ne (List.mem_of_find?_eq_some hf))⟩
end Go.Proofs.YtkakbidllpjopaaGreatDoor.Lx
