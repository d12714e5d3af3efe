/- The walk of the parser's program (printed by wip/genpru.py). No condition beyond the state. A parsed tree has no more parts than the tokens that were taken; what a program's parse leaves begins with an end token. No condition. The walks of the parser's begun and ended. Conditions: the laid tables and error variables (WW). The walk of syntax.Check. Conditions: the table of keywords is laid (SxW); at most 1000000 parts. -/
import Derived.Test.YtkakbidllpjopaaGreatDoorU06
import Derived.Test.YtkakbidllpjopaaGreatDoorU05
set_option linter.unusedVariables false
set_option linter.unusedSimpArgs false
set_option maxRecDepth 100000
set_option maxHeartbeats 12800000
namespace Go.Proofs.YtkakbidllpjopaaGreatDoor
open Go.RowKit
theorem Res.at_ {α : Type} {P : Res α} {x : α} {b0 : Bool} {r0 : List Tk} (h : P.is x fun b r => b = b0 /\ r = r0) : (b0 = true -> P = .bad r0) /\ (b0 = false -> P = .ok x r0) := by
 cases P with
 | ok a r =>
  obtain ⟨rfl, rfl, rfl⟩ := h
  exact ⟨(fun e => by cases e), fun _ => rfl⟩
 | bad r =>
  obtain ⟨rfl, rfl⟩ := h
  exact ⟨fun _ => rfl, fun e => by cases e⟩
theorem wd_cases (k : Int) (R : List Tk) : (kindT R = k /\ wdB false k R = false /\ wdR false k R = R.tail /\ wdS false k R = textT R) ∨ (kindT R ≠ k /\ wdB false k R = true /\ wdR false k R = R) := by
 by_cases hk : kindT R = k
 ·have e1 : wdB false k R = false := by simp [wdB, hk]
  obtain ⟨-, -, e2, e3⟩ := wd_false e1
  exact .inl ⟨hk, e1, e3, e2⟩
 have e1 : wdB false k R = true := by simp [wdB, hk]
 obtain ⟨e2, e3⟩ := wd_true e1
 exact .inr ⟨hk, e1, e3⟩
theorem pD_is (R : List Tk) : (pD R).is ⟨wdS false 1 R, wdS (wdB false 1 R) 1 (wdR false 1 R)⟩ fun b r =>
  b = (wdB (wdB false 1 R) 1 (wdR false 1 R) || !isT [59] (wdR (wdB false 1 R) 1 (wdR false 1 R))) /\ r = tkR (wdB (wdB false 1 R) 1 (wdR false 1 R)) [59] (wdR (wdB false 1 R) 1 (wdR false 1 R)) := by
 unfold pD
 rcases wd_cases 1 R with ⟨h1, e1, e2, e3⟩ | ⟨h1, e1, e2⟩
 ·rw [e1, e2, e3, if_pos h1]
  rcases wd_cases 1 R.tail with ⟨h2, e1, e2, e3⟩ | ⟨h2, e1, e2⟩
  ·rw [e1, e2, e3, if_pos h2]
   cases h : isT [59] R.tail.tail with
   | true =>
    have e : tkR false [59] R.tail.tail = R.tail.tail.tail := if_pos (by unfold tk; rw [h]; rfl)
    rw [e]
    exact ⟨rfl, rfl, rfl⟩
   | false =>
    have e : tkR false [59] R.tail.tail = R.tail.tail := if_neg (by unfold tk; rw [h]; simp)
    rw [e]
    exact ⟨rfl, rfl⟩
  rw [e1, e2, if_neg h2]
  exact ⟨rfl, rfl⟩
 rw [e1, e2, if_neg h1]
 obtain ⟨f1, f2, f3⟩ := wd_bad 1 R
 rw [f2, f3]
 exact ⟨rfl, rfl⟩
theorem pO_is {R : List Tk} {acc : List Str} {l : List St} {b3 b4 : Bool} {R3 R4 : List Tk} (h1 : b3 = true -> (if wdB false 1 R = true then .bad (wdR false 1 R) else pPs (wdR false 1 R)) = .bad R3) (h2 : b3 = false -> (if wdB false 1 R = true then .bad (wdR false 1 R) else pPs (wdR false 1 R)) = .ok acc R3)
  (h3 : b4 = true -> (if b3 = true then .bad R3 else pBk R3) = .bad R4) (h4 : b4 = false -> (if b3 = true then .bad R3 else pBk R3) = .ok l R4) : (pO R).is ⟨wdS false 1 R, acc, l⟩ fun b r => b = b4 /\ r = R4 := by
 unfold pO
 rcases wd_cases 1 R with ⟨k1, e1, e2, e3⟩ | ⟨k1, e1, e2⟩
 ·rw [e1, e2] at h1 h2
  rw [e3, if_pos k1]
  cases b3 with
  | true =>
   have h := h1 rfl
   rw [if_neg (by simp)] at h
   rw [h]
   cases b4 with
   | true =>
    have h := h3 rfl
    rw [if_pos rfl] at h
    injection h with h
    exact ⟨rfl, h⟩
   | false =>
    have h := h4 rfl
    rw [if_pos rfl] at h
    cases h
  | false =>
   have h := h2 rfl
   rw [if_neg (by simp)] at h
   rw [h]
   cases b4 with
   | true =>
    have h := h3 rfl
    rw [if_neg (by simp)] at h
    dsimp only
    rw [h]
    exact ⟨rfl, rfl⟩
   | false =>
    have h := h4 rfl
    rw [if_neg (by simp)] at h
    dsimp only
    rw [h]
    exact ⟨rfl, rfl, rfl⟩
 rw [e1, e2] at h1 h2
 rw [if_neg k1]
 cases b3 with
 | false =>
  have h := h2 rfl
  rw [if_pos rfl] at h
  cases h
 | true =>
  have h := h1 rfl
  rw [if_pos rfl] at h
  injection h with h
  subst h
  cases b4 with
  | true =>
   have h := h3 rfl
   rw [if_pos rfl] at h
   injection h with h
   exact ⟨rfl, h⟩
  | false =>
   have h := h4 rfl
   rw [if_pos rfl] at h
   cases h
/-- What program answers. -/
def PP (L : List Lx.Tok) (A : Option Addr) (n c g : Nat) (w : World) (P : Res Prog') (e : Ending) (w' : World) : Prop :=
 ∃ (p : Prog') (v : Value), e = .returned v /\ PV w' (fun b => w.heap.size <= b) p v /\ w.grownBy w' (some g) /\ P.is p fun b r => PSx L A n c g w' b r
theorem enter_program1 (args : Array Value) (w : World) : (callFunc 57 args).run Tryz.prog w = .ok (.enter 57 args) w := by
 kernel_rfl
theorem DL.gr {w w' : World} {S S' : Nat -> Prop} {A : Option Addr} {n c : Nat} {l : List Decl'} {r : Nat} (h : DL w S A n c l) (hg : w.grownBy w' (some r)) (hS : ∀ b, b < w.heap.size -> S b -> b ≠ r /\ S' b) : DL w' S' A n c l :=
 h.keep hg.size (fun b hb hs => hg.block b hb fun e => (hS b hb hs).1 (Option.some.inj e)) (fun b hb hs => (hS b hb hs).2)
theorem OL.gr {w w' : World} {S S' : Nat -> Prop} {A : Option Addr} {n c : Nat} {l : List Oper'} {r : Nat} (h : OL w S A n c l) (hg : w.grownBy w' (some r)) (hS : ∀ b, b < w.heap.size -> S b -> b ≠ r /\ S' b) : OL w' S' A n c l :=
 h.keep hg.size (fun b hb hs => hg.block b hb fun e => (hS b hb hs).1 (Option.some.inj e)) (fun b hb hs => (hS b hb hs).2)
/-- Block r holds a row of values of a type. -/
def HB (t : TypeId) (w : World) (r : Nat) (u : Array Value) : Prop := w.heap[r]? = some (.cells u t (0, 0))
section
variable {t : TypeId} {w w' : World} {r k : Nat} {u : Array Value}
theorem HB.gr (h : HB t w r u) (hg : w.grownBy w' (some k)) (hk : r ≠ k) : HB t w' r u := (hg.block r (lt_of_block h) (fun e => hk (Option.some.inj e))).trans h
theorem HB.below (h : HB t w r u) (hb : Below w.heap.size w w') : HB t w' r u := (hb.block r (lt_of_block h)).trans h
theorem HB.lt (h : HB t w r u) : r < w.heap.size := lt_of_block h
theorem HB.cell (h : HB t w r u) (j : Nat) : w.cell? ⟨r, j, none⟩ = u[j]? := by rw [cell_of_row _ _ _ _ _ _ h]
theorem HB.free (h : HB t w r u) (j : Nat) : w.frozen? ⟨r, j, none⟩ = false := by simp [World.frozen?, show w.heap[r]? = _ from h]
theorem HB.set (h : HB t w r u) (j : Nat) (v : Value) : HB t (w.setCell ⟨r, j, none⟩ v) r (u.setIfInBounds j v) := by
 unfold HB
 rw [setCell_eq_setRow w r j _ _ _ _ h]
 exact setRow_heap _ _ _ _ _ _ h
end
theorem pr_size : (Tryz.prog.info? 36).map (·.size) = some 2 := by kernel_rfl
/-- A way to stand in memory that keeps off some blocks. -/
def AV {α : Type} (V : World -> (Nat -> Prop) -> α -> List Value -> Prop) (X : Nat -> Prop) (w : World) (S : Nat -> Prop) (x : α) (cs : List Value) : Prop := V w (fun b => S b /\ ¬ X b) x cs
theorem okAV {α : Type} {V : World -> (Nat -> Prop) -> α -> List Value -> Prop} {size : Nat} {X : Nat -> Prop} (hV : VOk V size) : VOk (AV V X) size :=
 ⟨fun h1 h2 h3 h => hV.keep h1 (fun b hb hs => h2 b hb hs.1) (fun b hb hs => ⟨h3 b hb hs.1, hs.2⟩) h, fun h => hV.len h, fun h => hV.one h⟩
section
variable {α : Type} {V : World -> (Nat -> Prop) -> α -> List Value -> Prop} {e : TypeId} {size : Nat} {w w' : World} {base : Nat} {v : Value} {l : List α} {r : Option Nat} {X X' : Nat -> Prop}
theorem OwnG.av (hV : VOk V size) (h : OwnG (AV V X) e size w base v l) (hg : w.grownBy w' r) (hr : ∀ k, r = some k -> v.ownBlock ≠ some k /\ X k) (hX : ∀ b, b < w.heap.size -> X' b -> X b) : OwnG (AV V X') e size w' base v l := by
 have hlt := h.lt
 obtain ⟨css, h1, h2, h3, h4⟩ := h
 refine ⟨css, h1, World.ownsRow.kept h2 hg ?_, h3, fun i x hx => ?_⟩
 ·cases hv : v.ownBlock with
  | none => exact .inl rfl
  | some k => exact .inr fun e => (hr k e.symm).1 hv
 obtain ⟨cs, e1, e2⟩ := h4 i x hx
 exact ⟨cs, e1, hV.keep hg.size (fun b hb hS => hg.block b hb fun e => hS.2 (hr b e.symm).2) (fun b hb h => ⟨h.1, fun hx => h.2 (hX b hb hx)⟩) e2⟩
theorem OwnG.un (hV : VOk V size) (h : OwnG (AV V X) e size w base v l) : OwnG V e size w base v l := by
 obtain ⟨css, h1, h2, h3, h4⟩ := h
 exact ⟨css, h1, h2, h3, fun i x hx => by
  obtain ⟨cs, e1, e2⟩ := h4 i x hx
  exact ⟨cs, e1, hV.keep (Nat.le_refl _) (fun _ _ _ => rfl) (fun b _ h => h.1) e2⟩⟩
theorem OwnG.dc {l : List Decl'} (h : OwnG DcV e 2 w base v l) (hg : w.grownBy w' r) (hr : ∀ k, r = some k -> v.ownBlock ≠ some k) : OwnG DcV e 2 w' base v l := by
 obtain ⟨css, h1, h2, h3, h4⟩ := h
 refine ⟨css, h1, World.ownsRow.kept h2 hg ?_, h3, h4⟩
 cases hv : v.ownBlock with
 | none => exact .inl rfl
 | some k => exact .inr fun e => hr k e.symm hv
end
/-- The boxes of program's variables: p, the result, out; what has changed since the round began. -/
structure PF (g pb rb ob : Nat) (v1 v2 : Value) (wr w : World) : Prop where
 p : HB 66 w pb #[.pointer (some ⟨g, 0, none⟩)]
 r : HB 36 w rb #[.slice none 0 0, .slice none 0 0]
 o : HB 36 w ob #[v1, v2]
 gr : wr.grownBy w (some g)
 ne : (pb ≠ g /\ rb ≠ g /\ ob ≠ g) /\ pb < wr.heap.size /\ rb < wr.heap.size /\ ob < wr.heap.size
section
variable {g pb rb ob k : Nat} {v1 v2 : Value} {wr w w' : World}
theorem PF.call (h : PF g pb rb ob v1 v2 wr w) (hg : w.grownBy w' (some g)) : PF g pb rb ob v1 v2 wr w' := ⟨h.p.gr hg h.ne.1.1, h.r.gr hg h.ne.1.2.1, h.o.gr hg h.ne.1.2.2, World.grownBy.trans h.gr hg, h.ne⟩
theorem PF.below (h : PF g pb rb ob v1 v2 wr w) (hb : Below w.heap.size w w') : PF g pb rb ob v1 v2 wr w' := h.call (Below.grown_ hb _)
theorem PF.own (h : PF g pb rb ob v1 v2 wr w) (hg : w.grownBy w' (some k)) (hk : wr.heap.size <= k) : PF g pb rb ob v1 v2 wr w' := by
 obtain ⟨h1, h2, h3⟩ := h.ne.2
 exact ⟨h.p.gr hg (by omega), h.r.gr hg (by omega), h.o.gr hg (by omega), gr_step (B := 0) h.gr hg hk, h.ne⟩
theorem PF.kp {base db : Nat} (h : PF g pb rb ob v1 v2 wr w) (hk : Kp base g db w w') (hd : wr.heap.size <= db) (hb : db <= base) : PF g pb rb ob v1 v2 wr w' := by
 obtain ⟨h1, h2, h3⟩ := h.ne.2
 exact ⟨(hk.block _ (by omega) h.ne.1.1 (by omega)).trans h.p, (hk.block _ (by omega) h.ne.1.2.1 (by omega)).trans h.r, (hk.block _ (by omega) h.ne.1.2.2 (by omega)).trans h.o,
  ⟨hk.os.trans h.gr.os, hk.tape.trans h.gr.tape, hk.output.trans h.gr.output, Nat.le_trans h.gr.size hk.size, fun b hb2 hne => (hk.block b (by omega) (fun e => hne (by rw [e])) (by omega)).trans (h.gr.block b hb2 hne)⟩, h.ne⟩
theorem TB.mono {A : Option Addr} {g B C : Nat} (h : TB A g B) (hc : B <= C) : TB A g C := by
 obtain ⟨⟨b, q, e, h1⟩, h2, h3⟩ := h
 exact ⟨⟨b, q, e, by omega⟩, by omega, by omega⟩
theorem PF.pc (h : PF g pb rb ob v1 v2 wr w) : w.cell? ⟨pb, 0, none⟩ = some (.pointer (some ⟨g, 0, none⟩)) := h.p.cell 0
end
theorem program_any (L : List Lx.Tok) (A : Option Addr) (n c g : Nat) (w : World) (R : List Tk) (h : PSx L A n c g w false R) :
  Calls Tryz.prog 30 #[.pointer (some ⟨g, 0, none⟩)] w (PP L A n c g w (pP R)) := by
 obtain ⟨PZ, hPZ⟩ : ∃ z, z = pP R := ⟨_, rfl⟩
 rw [<- hPZ]
 have HZ := hI (show PZ = pG (R.length + 1) [] [] R from hPZ)
 have HRL := hI h.rlen
 obtain ⟨wa, hwa⟩ : ∃ wa, wa = w.alloc (.cells #[.pointer (some ⟨g, 0, none⟩)] 66) := ⟨_, rfl⟩
 obtain ⟨wb, hwb⟩ : ∃ wb, wb = wa.alloc (.cells #[.slice none 0 0, .slice none 0 0] 36) := ⟨_, rfl⟩
 obtain ⟨w0, hwc⟩ : ∃ wc, wc = wb.alloc (.cells #[.slice none 0 0, .slice none 0 0] 36) := ⟨_, rfl⟩
 have hba : Below w.heap.size w wa := by rw [hwa]; exact (Below.refl _ _).alloc (Nat.le_refl _) _
 have hbb : Below wa.heap.size wa wb := by rw [hwb]; exact (Below.refl _ _).alloc (Nat.le_refl _) _
 have hbc : Below wb.heap.size wb w0 := by rw [hwc]; exact (Below.refl _ _).alloc (Nat.le_refl _) _
 have hsa : wa.heap.size = w.heap.size + 1 := by rw [hwa]; exact World.size_alloc ..
 have hsb : wb.heap.size = w.heap.size + 2 := by rw [hwb, World.size_alloc, hsa]
 have hsc : w0.heap.size = w.heap.size + 3 := by rw [hwc, World.size_alloc, hsb]
 have hgl := h.lt
 have F := hI (PF.mk (g := g) (wr := w0) (HB.below (HB.below (w := wa) (by rw [hwa]; exact heap_alloc_new w _) hbb) hbc) (HB.below (w := wb) (r := w.heap.size + 1) (by rw [<- hsa, hwb]; exact heap_alloc_new wa _) hbc) (show HB 36 w0 (w.heap.size + 2) #[.slice none 0 0, .slice none 0 0] from by rw [<- hsb, hwc]; exact heap_alloc_new wb _) (World.grownBy.refl _ _) (by omega))
 have TBs := hI h.base
 have G := hI (gr_below (gr_below (Below.grown_ hba (some g)) hbb) hbc)
 have HGL := hI hgl
 have P := hI (((h.next hba).next hbb).next hbc)
 have HPB := hI (show w.heap.size < w.heap.size + 1 /\ w.heap.size + 1 < w.heap.size + 2 /\ w.heap.size + 2 < w.heap.size + 3 from by omega)
 have HBS := hI (show w.heap.size + 3 <= w0.heap.size from by omega)
 clear h hPZ hba hbb hbc hsa hsb hsc hgl
 rw [hwa] at hwb
 rw [hwb] at hwc
 go_enter Tryz.func30, Tryz.ntmps30
 go_upto_region 2 with fail
 rw [<- hwc]
 clear hwc hwb hwa
 generalize w.heap.size + 3 = l3 at *
 generalize w.heap.size + 2 = ob at *
 generalize w.heap.size + 1 = rb at *
 obtain ⟨pb, hpb⟩ : ∃ z, z = w.heap.size := ⟨_, rfl⟩
 rw [<- hpb] at F HPB HGL TBs ⊢
 have HPW := hI hpb
 clear hpb
 go_loopw [9] (fun _ wr => l3 <= wr.heap.size /\ ∃ (ds : List Decl') (os : List Oper') (v1 v2 : Value) (b : Bool) (R' : List Tk) (f1 : Nat), PSx L A n c g wr b R' /\ PF g pb rb ob v1 v2 wr wr /\ OwnG DcV 83 2 wr l3 v1 ds /\ OwnG (AV OV fun b => v1.ownBlock = some b) 76 3 wr l3 v2 os /\ (∀ k, v1.ownBlock = some k -> v2.ownBlock ≠ some k) /\ w.grownBy wr (some g) /\ PZ = (if b = true then .bad R' else pG f1 ds os R') /\ (b = false -> R'.length + 1 <= f1 /\ ds.length + os.length + R'.length <= R.length)) (fun _ wr => 2 * (L.length - idxOf g wr) + notBad g wr)
 case atStart => exact ⟨HBS.out, [], [], _, _, false, R, R.length + 1, P.out, F.out, OwnG.nil _ _, OwnG.nil _ _, (fun k e => by cases e), G.out, HZ.out, fun _ => ⟨Nat.le_refl _, by simp⟩⟩
 case round =>
  clear P F G HZ HBS
  obtain ⟨hbs, ds, os, v1, v2, b, R', f1, hP, hF0, hO1, hO2, hNE, hG, hZ, hF⟩ := hrel
  have HBS := hI hbs
  have HMU := hI (show 2 * (L.length - idxOf g wr) + notBad g wr = 2 * R'.length + if b = true then 0 else 1 from by rw [hP.idx, hP.nb])
  have P := hI hP
  have F := hI hF0
  have O1 := hI hO1
  have O2 := hI hO2
  have NE := hI hNE
  have G2 := hI hG
  obtain ⟨i2, hi2⟩ := hP
  obtain ⟨q0, q1, q2⟩ := hi2.cells
  have pc : wr.cell? ⟨pb, 0, none⟩ = some (.pointer (some ⟨g, 0, none⟩)) := hF0.pc
  clear hF0 hO1 hO2 hNE hG hi2 hbs
  cases b with
  | true =>
   rw [if_pos rfl] at hZ
   have HZ2 := hI hZ
   clear hZ hF
   obtain ⟨A1, c1, rfl, hd⟩ := O1.out.dl
   obtain ⟨A2, c2, rfl, ho⟩ := (O2.out.un okOV).ol
   have HD := hI (hd.gr (S' := fun k => l3 <= k) F.out.gr (fun k _ hk => ⟨by have := HGL.out; have := HPB.out; omega, hk⟩))
   have HO := hI (ho.gr (S' := fun k => l3 <= k) F.out.gr (fun k _ hk => ⟨by have := HGL.out; have := HPB.out; omega, hk⟩))
   have GW := hI (World.grownBy.trans G2.out F.out.gr)
   clear hd ho O1 O2 NE
   go_wp2_with (with_reducible refine at_load_ (t := 36) ?_; refine Hid.out ?_)
   refine hI ?_
   refine wpList_load_row rfl _ _ rfl ob rfl _ _ _ _ F.out.o Tryz.underlying36 rfl pr_size ?_
   refine wpList_store_rowTo rfl _ _ _ rfl rfl rb #[.slice A1 ds.length c1, .slice A2 os.length c2] rfl rfl _ _ F.out.r pr_size rfl (by simp [Value.oneCell']) ?_
   have gz : wr.grownBy (wr.setRow rb #[.slice A1 ds.length c1, .slice A2 os.length c2]) (some rb) := ⟨rfl, rfl, rfl, Nat.le_of_eq (by simp [World.setRow]), fun k _ hk => setRow_other _ _ _ _ (fun e => hk (by rw [e]))⟩
   have hz2 := setRow_heap wr rb _ #[Value.slice A1 ds.length c1, .slice A2 os.length c2] _ _ (show wr.heap[rb]? = _ from F.out.r)
   obtain ⟨wz, hwz⟩ : ∃ W, W = wr.setRow rb #[.slice A1 ds.length c1, .slice A2 os.length c2] := ⟨_, rfl⟩
   rw [<- hwz] at gz hz2
   rw [<- hwz]
   clear hwz
   have XZ := hI hz2
   have GZ := hI (gr_step (B := 0) GW.out gz (by have := HPB.out; have := HPW.out; omega))
   have HDZ := hI (HD.out.gr (S' := fun k => w.heap.size <= k) gz (fun k _ hk => ⟨by have := HPB.out; have := HPW.out; omega, by have := HPB.out; have := HPW.out; omega⟩))
   have HOZ := hI (HO.out.gr (S' := fun k => w.heap.size <= k) gz (fun k _ hk => ⟨by have := HPB.out; have := HPW.out; omega, by have := HPB.out; have := HPW.out; omega⟩))
   have PZZ := hI (P.out.other TBs.out gz (by have := HPB.out; omega))
   clear hz2 gz GW HD HO P F
   go_wp2_with fail
   refine bodyPost_ret (results_cell_row rfl _ _ rb _ _ _ _ rfl XZ.out Tryz.underlying36 rfl pr_size) rfl ?_
   refine ⟨⟨ds, os⟩, _, rfl, ⟨A1, ds.length, c1, A2, os.length, c2, rfl, HDZ.out, HOZ.out⟩, GZ.out, ?_⟩
   rw [HZ2.out]
   exact PZZ.out
  | false =>
   rw [if_neg (by simp)] at hZ
   obtain ⟨hf1, hla⟩ := hF rfl
   obtain ⟨f2, hf3⟩ : ∃ f2, f1 = f2 + 1 := ⟨f1 - 1, by omega⟩
   subst hf3
   rw [pG] at hZ
   have HF1 := hI hf1
   have HLA := hI hla
   have HZ := hI hZ
   clear hZ hF hf1 hla
   go_wp2_with fail
   refine (now_any L A n c g wr false R' P.out).mono ?_
   rintro e w3 ⟨rfl, hb⟩
   replace P := hI (P.out.next hb)
   replace F := hI (F.out.below hb)
   clear q0 q1 q2 pc hb
   by_cases hk0 : kindT R' = 0
   ·have hz := HZ.out
    rw [if_pos hk0] at hz
    have HZ2 := hI hz
    clear hz HZ
    rw [hk0]
    clear hk0
    obtain ⟨A1, c1, rfl, hd⟩ := O1.out.dl
    obtain ⟨A2, c2, rfl, ho⟩ := (O2.out.un okOV).ol
    have HD := hI (hd.gr (S' := fun k => l3 <= k) F.out.gr (fun k _ hk => ⟨by have := HGL.out; have := HPB.out; omega, hk⟩))
    have HO := hI (ho.gr (S' := fun k => l3 <= k) F.out.gr (fun k _ hk => ⟨by have := HGL.out; have := HPB.out; omega, hk⟩))
    have GW := hI (World.grownBy.trans G2.out F.out.gr)
    clear hd ho O1 O2 NE
    go_wp2_with (with_reducible refine at_load_ (t := 36) ?_; refine Hid.out ?_)
    refine hI ?_
    refine wpList_load_row rfl _ _ rfl ob rfl _ _ _ _ F.out.o Tryz.underlying36 rfl pr_size ?_
    refine wpList_store_rowTo rfl _ _ _ rfl rfl rb #[.slice A1 ds.length c1, .slice A2 os.length c2] rfl rfl _ _ F.out.r pr_size rfl (by simp [Value.oneCell']) ?_
    have gz : w3.grownBy (w3.setRow rb #[.slice A1 ds.length c1, .slice A2 os.length c2]) (some rb) := ⟨rfl, rfl, rfl, Nat.le_of_eq (by simp [World.setRow]), fun k _ hk => setRow_other _ _ _ _ (fun e => hk (by rw [e]))⟩
    have hz2 := setRow_heap w3 rb _ #[Value.slice A1 ds.length c1, .slice A2 os.length c2] _ _ (show w3.heap[rb]? = _ from F.out.r)
    obtain ⟨wz, hwz⟩ : ∃ W, W = w3.setRow rb #[.slice A1 ds.length c1, .slice A2 os.length c2] := ⟨_, rfl⟩
    rw [<- hwz] at gz hz2
    rw [<- hwz]
    clear hwz
    have XZ := hI hz2
    have GZ := hI (gr_step (B := 0) GW.out gz (by have := HPB.out; have := HPW.out; omega))
    have HDZ := hI (HD.out.gr (S' := fun k => w.heap.size <= k) gz (fun k _ hk => ⟨by have := HPB.out; have := HPW.out; omega, by have := HPB.out; have := HPW.out; omega⟩))
    have HOZ := hI (HO.out.gr (S' := fun k => w.heap.size <= k) gz (fun k _ hk => ⟨by have := HPB.out; have := HPW.out; omega, by have := HPB.out; have := HPW.out; omega⟩))
    have PZZ := hI (P.out.other TBs.out gz (by have := HPB.out; omega))
    clear hz2 gz GW HD HO P F
    go_wp2_with fail
    refine bodyPost_ret (results_cell_row rfl _ _ rb _ _ _ _ rfl XZ.out Tryz.underlying36 rfl pr_size) rfl ?_
    refine ⟨⟨ds, os⟩, _, rfl, ⟨A1, ds.length, c1, A2, os.length, c2, rfl, HDZ.out, HOZ.out⟩, GZ.out, ?_⟩
    rw [HZ2.out]
    exact ⟨rfl, PZZ.out⟩
   have hz := HZ.out
   rw [if_neg hk0] at hz
   clear HZ
   have HZ := hI hz
   clear hz
   have hkt : (kindT R' != 0) = true := by simpa using hk0
   have hkf : (kindT R' == 0) = false := by simpa using hk0
   have hkd : decide (kindT R' = 0) = false := by simpa using hk0
   have hkd2 : decide (kindT R' ≠ 0) = true := by simpa using hk0
   clear hk0
   have pc : w3.cell? ⟨pb, 0, none⟩ = some (.pointer (some ⟨g, 0, none⟩)) := F.out.pc
   go_wp2_with fail
   clear hkt hkf hkd hkd2
   refine (take_any L A n c g w3 false R' P.out [115, 116, 111, 114, 101]).mono ?_
   rintro e w4 ⟨rfl, h2, hg⟩
   clear pc P
   replace F := hI (F.out.call hg)
   clear hg
   by_cases ht : tk false [115, 116, 111, 114, 101] R' = true
   ·obtain ⟨-, hi, htr⟩ := tk_true ht
    rw [htr] at h2
    have P := hI h2
    rw [ht]
    have hz := HZ.out
    rw [if_pos (show isT tSto R' = true from hi)] at hz
    clear HZ
    have HTL := hI (isT_len hi)
    have HZ := hI hz
    clear h2 htr ht hi hz
    have HSF := hI (suf_len (suf_pD R'.tail))
    have HDD := hI (Res.at_ (pD_is R'.tail))
    have k2 := name_any L A n c g w4 false R'.tail P.out
    clear P
    obtain hD := HDD.out
    clear HDD
    generalize wdS false 1 R'.tail = s1 at *
    generalize wdB false 1 R'.tail = b2 at *
    generalize wdR false 1 R'.tail = R2 at *
    have K2 := hI k2
    have HDD := hI hD
    clear k2 hD
    have pc : w4.cell? ⟨pb, 0, none⟩ = some (.pointer (some ⟨g, 0, none⟩)) := F.out.pc
    go_wp2_with fail
    refine K2.out.mono ?_
    rintro e w5 ⟨rfl, h2, hg⟩
    have P := hI h2
    clear pc
    replace F := hI (F.out.call hg)
    clear h2 hg K2
    obtain ⟨w6, hwd⟩ : ∃ W, W = w5.alloc (.cells #[.string (bs s1), .string { data := #[] }] 83) := ⟨_, rfl⟩
    have hbd : Below w5.heap.size w5 w6 := by rw [hwd]; exact (Below.refl _ _).alloc (Nat.le_refl _) _
    have DB := hI (show HB 83 w6 w5.heap.size #[.string (bs s1), .string { data := #[] }] from by rw [hwd]; exact heap_alloc_new w5 _)
    have HEB := hI (show wr.heap.size <= w5.heap.size /\ l3 <= wr.heap.size from ⟨F.out.gr.size, HBS.out⟩)
    replace P := hI (P.out.next hbd)
    replace F := hI (F.out.below hbd)
    clear hbd
    go_upto_region 6 with fail
    rw [<- hwd]
    clear hwd
    generalize w5.heap.size = db at *
    have k2 := name_any L A n c g w6 b2 R2 P.out
    clear P
    obtain hD := HDD.out
    clear HDD
    generalize wdS b2 1 R2 = s2 at *
    generalize wdB b2 1 R2 = b3 at *
    generalize wdR b2 1 R2 = R3 at *
    have K2 := hI k2
    have HDD := hI hD
    clear k2 hD
    have pc : w6.cell? ⟨pb, 0, none⟩ = some (.pointer (some ⟨g, 0, none⟩)) := F.out.pc
    go_wp2_with fail
    refine K2.out.mono ?_
    rintro e w7 ⟨rfl, h2, hg⟩
    have P := hI h2
    clear pc
    replace F := hI (F.out.call hg)
    replace DB := hI (DB.out.gr hg (by have := HGL.out; have := HPB.out; have := HEB.out; omega))
    clear h2 hg K2
    have g5 := gr_put w7 db 1 (.string (bs s2))
    have cE : w7.cell? ⟨db, 1, none⟩ = some (.string { data := #[] }) := DB.out.cell 1
    have fE : w7.frozen? ⟨db, 1, none⟩ = false := DB.out.free 1
    replace DB := hI (show HB 83 (w7.setCell ⟨db, 1, none⟩ (.string (bs s2))) db #[.string (bs s1), .string (bs s2)] from DB.out.set 1 (.string (bs s2)))
    replace F := hI (F.out.own g5 HEB.out.1)
    replace P := hI (P.out.other TBs.out g5 (by have := HPB.out; have := HEB.out; omega))
    clear g5
    go_upto_region 7 with fail
    clear cE fE
    generalize w7.setCell ⟨db, 1, none⟩ (.string (bs s2)) = w8 at *
    have hb0 := (Below.refl w8.heap.size w8).alloc (Nat.le_refl _) (.cells #[.string { data := #[59] }] 9)
    have KT := hI (need_any L A n c g _ b3 R3 (P.out.next hb0) [59] w8.heap.size (by simp) (by have := P.out.lt; omega) (by rw [cell_of_row _ _ _ _ _ _ (heap_alloc_new w8 _)]; rfl))
    have pc : w8.cell? ⟨pb, 0, none⟩ = some (.pointer (some ⟨g, 0, none⟩)) := F.out.pc
    replace F := hI (F.out.below hb0)
    replace DB := hI (DB.out.below hb0)
    clear hb0 P
    obtain hD := HDD.out
    clear HDD
    generalize (b3 || !isT [59] R3) = b4 at *
    generalize tkR b3 [59] R3 = R4 at *
    have HDD := hI hD
    clear hD
    go_wp2_with fail
    refine KT.out.mono ?_
    rintro e w9 ⟨rfl, ht, hg⟩
    have P := hI ht
    clear pc
    replace F := hI (F.out.call hg)
    replace DB := hI (DB.out.gr hg (by have := HGL.out; have := HPB.out; have := HEB.out; omega))
    clear ht hg KT
    have ZN := hI (show PZ = (if b4 = true then .bad R4 else pG f2 (ds ++ [⟨s1, s2⟩]) (os) R4) from by
     have hz := HZ.out
     have hd := HDD.out
     cases b4 with
     | true => rw [hd.1 rfl] at hz; exact hz
     | false => rw [hd.2 rfl] at hz; exact hz)
    obtain h0 := HSF.out
    clear HSF
    have HSF := hI (show (b4 = false -> R4.length <= R'.tail.length) /\ R4.length <= R'.tail.length from by
     have hd := HDD.out
     have hl : R4.length <= R'.tail.length := by
      cases b4 with
      | true => rw [hd.1 rfl] at h0; exact h0
      | false => rw [hd.2 rfl] at h0; exact h0
     exact ⟨fun _ => hl, hl⟩)
    clear h0 HZ HDD
    obtain ⟨wA, hwA⟩ : ∃ W, W = w9.alloc (.cells #[.string (bs s1), .string (bs s2)] 83) := ⟨_, rfl⟩
    have hbA : Below w9.heap.size w9 wA := by rw [hwA]; exact (Below.refl _ _).alloc (Nat.le_refl _) _
    have hrA : wA.heap[w9.heap.size]? = some (.cells #[.string (bs s1), .string (bs s2)] 83 (0, 0)) := by rw [hwA]; exact heap_alloc_new w9 _
    have hFA := F.out.below hbA
    have hPA := P.out.next hbA
    have hgq : ∀ k, some g = some k -> k < l3 := fun k e => by have := Option.some.inj e; have := HGL.out; have := HPB.out; omega
    have own0 := O1.out.gr okDcV hFA.gr hgq
    have oth0 := O2.out.gr (okAV okOV) hFA.gr hgq
    have hxx : DcV wA (fun k => wr.heap.size <= k) ⟨s1, s2⟩ [.string (bs s1), .string (bs s2)] := rfl
    obtain ⟨vn, wB, hrun, own1, gr1, ow1⟩ := own0.app (t := 33) (ty := 33) okDcV apk_d wr.heap.size w9.heap.size (⟨s1, s2⟩ : Decl') _ (lt_of_block hrA) (fun j u hu => by rw [Nat.zero_add, cell_of_row _ _ _ _ _ _ hrA, <- hu, <- Array.getElem?_toList]) hxx (by have := HLA.out; have := HRL.out; omega) (Nat.le_trans HBS.out hFA.gr.size) (fun k e => (O1.out.lt k e).2) HBS.out
    have gq : ∀ k, v1.ownBlock = some k -> l3 <= k := fun k e => (O1.out.lt k e).1
    obtain ⟨An, cn, rfl, -⟩ := own1.row okDcV
    obtain ⟨mn, hmn⟩ : ∃ m, m = (ds ++ [(⟨s1, s2⟩ : Decl')]).length := ⟨_, rfl⟩
    rw [<- hmn] at own1 hrun ow1
    clear hmn
    have nb : ∀ k, k < l3 -> some k ≠ v1.ownBlock := fun k hk e => by have := gq k e.symm; omega
    have gx : w.grownBy wB (some g) := by
     have h0 := World.grownBy.trans G2.out hFA.gr
     exact ⟨gr1.os.trans h0.os, gr1.tape.trans h0.tape, gr1.output.trans h0.output, Nat.le_trans h0.size gr1.size, fun k hk hne => (gr1.block k (Nat.lt_of_lt_of_le hk h0.size) (nb k (by have := HPB.out; have := HPW.out; omega))).trans (h0.block k hk hne)⟩
    have hp1 : HB 66 wB pb #[.pointer (some ⟨g, 0, none⟩)] := (gr1.block _ (lt_of_block hFA.p) (nb _ (by have := HPB.out; omega))).trans hFA.p
    have hr1 : HB 36 wB rb #[.slice none 0 0, .slice none 0 0] := (gr1.block _ (lt_of_block hFA.r) (nb _ (by have := HPB.out; omega))).trans hFA.r
    have ho1 : HB 36 wB ob #[v1, v2] := (gr1.block _ (lt_of_block hFA.o) (nb _ (by have := HPB.out; omega))).trans hFA.o
    have hP1 := hPA.othr TBs.out gr1 (fun k e => by have := gq k e; have := HPB.out; omega)
    have hne1 : ∀ k, (Value.slice An mn cn).ownBlock = some k -> v2.ownBlock ≠ some k := fun k e e2 => by
     rcases ow1 with h | h
     ·rw [h] at e; exact NE.out k e e2
     rw [h] at e; have := Option.some.inj e; have := (O2.out.lt k e2).2; have := hFA.gr.size; omega
    have oth1 := oth0.av okOV (X' := fun b => (Value.slice An mn cn).ownBlock = some b) gr1 (fun k e => ⟨NE.out k e, e⟩) (fun b hb e => by
     rcases ow1 with h | h
     ·rw [h] at e; exact e
     rw [h] at e; have := Option.some.inj e; omega)
    have hcA : w9.cell? ⟨ob, 0, none⟩ = some v1 := F.out.o.cell 0
    have cB : wB.cell? ⟨ob, 0, none⟩ = some v1 := HB.cell ho1 0
    have fB : wB.frozen? ⟨ob, 0, none⟩ = false := HB.free ho1 0
    have gb := gr_put wB ob 0 (.slice An mn cn)
    have ho2 : HB 36 (wB.setCell ⟨ob, 0, none⟩ (.slice An mn cn)) ob #[(.slice An mn cn), v2] := HB.set ho1 0 (.slice An mn cn)
    have hob0 : ob < l3 := by have := HPB.out; omega
    have kb : ∀ k, some ob = some k -> k < l3 := fun k e => by have := Option.some.inj e; omega
    obtain ⟨wC, hwC⟩ : ∃ W, W = wB.setCell ⟨ob, 0, none⟩ (.slice An mn cn) := ⟨_, rfl⟩
    rw [<- hwC] at gb ho2
    have hsz : wr.heap.size <= wC.heap.size := Nat.le_trans (Nat.le_trans hFA.gr.size gr1.size) gb.size
    have FN := hI (show PF g pb rb ob (.slice An mn cn) v2 wC wC from ⟨HB.gr hp1 gb (by have := HPB.out; omega), HB.gr hr1 gb (by have := HPB.out; omega), ho2, World.grownBy.refl _ _, F.out.ne.1, by have := F.out.ne.2.1; omega, by have := F.out.ne.2.2.1; omega, by have := F.out.ne.2.2.2; omega⟩)
    have O1n := hI (own1.gr okDcV gb kb)
    have O2n := hI (oth1.gr (okAV okOV) gb kb)
    have NEn := hI hne1
    have G3 := hI (gr_step (B := 0) gx gb (by have := HPB.out; have := HPW.out; omega))
    have PN := hI (hP1.other TBs.out gb (by have := HPB.out; omega))
    have HBn := hI (Nat.le_trans HBS.out hsz)
    have HRUN := hI hrun
    have HWC := hI hwC
    have CB := hI (And.intro cB fB)
    have HWA := hI hwA
    have DBo := hI DB.out
    clear gr1 hFA hPA hgq own0 oth0 hxx hrA hbA nb hrun gb ho2 hob0 kb hsz oth1 own1 hne1 gx hp1 hr1 ho1 hP1 gq cB fB hwC hwA ow1 F O1 O2 NE G2 P DB HBS
    go_wp2_with (with_reducible refine at_load_ (t := 83) ?_; refine Hid.out ?_)
    refine hI ?_
    refine wpList_load_row rfl _ _ rfl db rfl _ _ _ _ DBo.out Tryz.underlying83 rfl (by kernel_rfl) ?_
    clear hcA
    go_wp2_with (at_builtin; rw [<- HWA.out]; refine wl_app rfl _ _ 33 rfl _ _ rfl rfl HRUN.out ?_; refine Hid.out ?_)
    refine hI ?_
    obtain ⟨cB, fB⟩ := CB.out
    clear HRUN HWA CB
    go_wp2
    rw [<- HWC.out]
    clear cB fB HWC
    go_roundw
    case rel => exact ⟨HBn.out, (ds ++ [(⟨s1, s2⟩ : Decl')]), os, (.slice An mn cn), v2, b4, R4, f2, PN.out, FN.out, O1n.out, O2n.out, NEn.out, G3.out, ZN.out, fun e => ⟨by have := HTL.out; have := HF1.out; have := HSF.out.1 e; omega, by have := HTL.out; have := HLA.out; have := HSF.out.1 e; simp only [List.length_append, List.length_singleton]; omega⟩⟩
    case measure =>
     rw [PN.out.idx, PN.out.nb, HMU.out]
     have := HTL.out
     have := HSF.out.2
     cases b4 <;> simp <;> omega
   obtain ⟨hf, htr⟩ := tk_false ht
   rw [htr] at h2
   have P := hI h2
   rw [hf]
   have hz := HZ.out
   rw [if_neg (show ¬ isT tSto R' = true from fun h => ht (by unfold tk; rw [show isT [115, 116, 111, 114, 101] R' = true from h]; rfl))] at hz
   clear HZ
   have HZ := hI hz
   clear hz h2 htr ht hf
   have pc : w4.cell? ⟨pb, 0, none⟩ = some (.pointer (some ⟨g, 0, none⟩)) := F.out.pc
   go_wp2_with fail
   refine (take_any L A n c g w4 false R' P.out [111, 112]).mono ?_
   rintro e w5 ⟨rfl, h2, hg⟩
   clear pc P
   replace F := hI (F.out.call hg)
   clear hg
   by_cases ht : tk false [111, 112] R' = true
   ·obtain ⟨-, hi, htr⟩ := tk_true ht
    rw [htr] at h2
    have P := hI h2
    rw [ht]
    have hz := HZ.out
    rw [if_pos (show isT tOp R' = true from hi)] at hz
    clear HZ
    have HTL := hI (isT_len hi)
    have HZ := hI hz
    clear h2 htr ht hi hz
    have HSF := hI (suf_len (suf_pO R'.tail))
    have HDO := hI (show ∀ (acc : List Str) (l : List St) (b3 b4 : Bool) (R3 R4 : List Tk), (b3 = true -> (if wdB false 1 R'.tail = true then .bad (wdR false 1 R'.tail) else pPs (wdR false 1 R'.tail)) = .bad R3) -> (b3 = false -> (if wdB false 1 R'.tail = true then .bad (wdR false 1 R'.tail) else pPs (wdR false 1 R'.tail)) = .ok acc R3) -> (b4 = true -> (if b3 = true then .bad R3 else pBk R3) = .bad R4) -> (b4 = false -> (if b3 = true then .bad R3 else pBk R3) = .ok l R4) -> (b4 = true -> pO R'.tail = .bad R4) /\ (b4 = false -> pO R'.tail = .ok ⟨wdS false 1 R'.tail, acc, l⟩ R4) from fun acc l b3 b4 R3 R4 h1 h2 h3 h4 => Res.at_ (pO_is h1 h2 h3 h4))
    have HLW := hI (wd_len false 1 R'.tail)
    have k2 := name_any L A n c g w5 false R'.tail P.out
    clear P
    obtain hD := HDO.out
    clear HDO
    generalize wdS false 1 R'.tail = s1 at *
    generalize wdB false 1 R'.tail = b2 at *
    generalize wdR false 1 R'.tail = R2 at *
    have K2 := hI k2
    have HDO := hI hD
    clear k2 hD
    have pc : w5.cell? ⟨pb, 0, none⟩ = some (.pointer (some ⟨g, 0, none⟩)) := F.out.pc
    go_wp2_with fail
    refine K2.out.mono ?_
    rintro e w6 ⟨rfl, h2, hg⟩
    have P := hI h2
    clear pc
    replace F := hI (F.out.call hg)
    clear h2 hg K2
    obtain ⟨w7, hwd⟩ : ∃ W, W = w6.alloc (.cells #[.string (bs s1), .slice none 0 0, .slice none 0 0] 76) := ⟨_, rfl⟩
    have hbd : Below w6.heap.size w6 w7 := by rw [hwd]; exact (Below.refl _ _).alloc (Nat.le_refl _) _
    have DB := hI (show HB 76 w7 w6.heap.size #[.string (bs s1), .slice none 0 0, .slice none 0 0] from by rw [hwd]; exact heap_alloc_new w6 _)
    have HEB := hI (show wr.heap.size <= w6.heap.size /\ l3 <= wr.heap.size from ⟨F.out.gr.size, HBS.out⟩)
    replace P := hI (P.out.next hbd)
    replace F := hI (F.out.below hbd)
    clear hbd
    go_upto_region 11 with fail
    rw [<- hwd]
    clear hwd
    have HDS := hI (show w7.heap.size ≥ w6.heap.size + 1 from DB.out.lt)
    generalize w6.heap.size = db at *
    have K := hI (by
     have hpb := HPB.out
     have heb := HEB.out
     have hgl := HGL.out
     have hne := F.out.ne
     have htb := TB.mono (C := db) TBs.out (by omega)
     have hla := HLA.out
     have hrl := HRL.out
     have htl := HTL.out
     have hlw := HLW.out
     have hds := HDS.out
     exact commas_gen (β := Str) L A n c g w7 b2 R2 57 #[] #[.pointer (some ⟨db, 0, none⟩), .pointer (some ⟨pb, 0, none⟩)]
      (fun W acc b R' => PSx L A n c g W b R' /\ ∃ v, W.cell? ⟨pb, 0, none⟩ = some (.pointer (some ⟨g, 0, none⟩)) /\ W.heap[db]? = some (.cells #[.string (bs s1), v, .slice none 0 0] 76 (0, 0)) /\ OwnG StV 9 1 W (db + 1) v acc /\ Kp (db + 1) g db w7 W)
      (fun _ R => pNm R) 1 1 (R2.length + 1) (by omega) (by omega)
      ⟨P.out, _, F.out.pc, DB.out, OwnG.nil _ _, Kp.refl _ _ _ _⟩ (fun W acc b R' h => h.1)
      (fun W W' acc b b' R' R'' ⟨h1, v, h2, h3, h4, h5⟩ hg hp => ⟨hp, v, (World.cell?_of_block (a := ⟨pb, 0, none⟩) (hg.block _ (World.block_lt_of_cell? _ _ h2) (fun e => by have e : pb = g := Option.some.inj e; omega))).trans h2, (hg.block _ (lt_of_block h3) (fun e => by have := Option.some.inj e; omega)).trans h3, h4.gr okStV hg (fun k e => by have := Option.some.inj e; omega), h5.trans (Kp.gr (by have := h5.size; omega) hg (fun k e => .inl (Option.some.inj e).symm))⟩)
      (fun f R' a r e => by
       unfold pNm at e
       split at e
       ·injection e with e1 e2
        rw [<- e2]; exact tail_le _
       ·cases e) (fun f R' r e => by
       unfold pNm at e
       split at e
       ·cases e
       injection e with e1
       rw [<- e1]; exact Nat.le_refl _)
      (fun f' W acc R' hf hl hal ⟨h1, v, h2, h3, h4, h5⟩ => by
       refine (params1_gen L A n c g W false R' h1 db pb (db + 1) s1 v acc h2 (by omega) (by omega) (by omega) h3 h4 (by omega) (by omega) (by have := h5.size; omega) htb (by omega)).mono ?_
       rintro e w' ⟨rfl, v', hP, hbx, hO, hK⟩
       exact ⟨rfl, wdS false 1 R', pNm_is R' _ ⟨hP, v', (World.cell?_of_block (a := ⟨pb, 0, none⟩) (hK.block _ (show pb < db + 1 by omega) (show pb ≠ g by omega) (show pb ≠ db by omega))).trans h2, hbx, hO, h5.trans hK⟩⟩)
      (fun hb h40 => by have := isT_len h40; omega) enter_program1)
    rw [pPg_pPs] at K
    clear P HLW
    obtain hD := HDO.out
    clear HDO
    generalize hPA : (if b2 = true then Res.bad R2 else pPs R2) = PA at *
    have HDO := hI hD
    clear hPA hD
    have pc : w7.cell? ⟨pb, 0, none⟩ = some (.pointer (some ⟨g, 0, none⟩)) := F.out.pc
    go_wp2_with fail
    refine K.out.mono ?_
    rintro e w8 ⟨rfl, acc, hacc⟩
    obtain ⟨b3, R3, ⟨hps, v, hpc, hbx, hO, hK⟩, -, hb3, ho3⟩ := Res.is_ex (x := acc) (P := PA) (Q := fun b r => PSx L A n c g w8 b r /\ ∃ v, w8.cell? ⟨pb, 0, none⟩ = some (.pointer (some ⟨g, 0, none⟩)) /\ w8.heap[db]? = some (.cells #[.string (bs s1), v, .slice none 0 0] 76 (0, 0)) /\ OwnG StV 9 1 w8 (db + 1) v acc /\ Kp (db + 1) g db w7 w8) hacc
    have P := hI hps
    obtain hD := HDO.out
    clear HDO
    have HDO := hI (fun l b4 R4 => hD acc l b3 b4 R3 R4 hb3 ho3)
    obtain ⟨A1, c1, rfl, hss⟩ := hO.ss
    obtain ⟨m1, hm1⟩ : ∃ m, m = acc.length := ⟨_, rfl⟩
    rw [<- hm1] at hss hbx
    clear DB hm1
    have DB := hI (show HB 76 w8 db #[.string (bs s1), .slice A1 m1 c1, .slice none 0 0] from hbx)
    have HSS := hI hss
    replace F := hI (F.out.kp hK HEB.out.1 (Nat.le_succ _))
    clear hacc hps hpc hbx hO hK hb3 ho3 hD hss pc K
    have KB := hI (block_any w8 b3 R3 P.out)
    obtain hD := HDO.out
    clear HDO P
    generalize hPB : (if b3 = true then Res.bad R3 else pBk R3) = PB at *
    have HDO := hI hD
    clear hPB hD
    have pc : w8.cell? ⟨pb, 0, none⟩ = some (.pointer (some ⟨g, 0, none⟩)) := F.out.pc
    go_wp2_with fail
    refine KB.out.mono ?_
    rintro e w9 ⟨l, B, mb, kb, rfl, hl, hg, hP⟩
    obtain ⟨b4, R4, hps, -, hb4, ho4⟩ := Res.is_ex (x := l) (P := PB) (Q := fun b r => PSx L A n c g w9 b r) hP
    have HDD := hI (HDO.out l b4 R4 hb4 ho4)
    have P := hI hps
    have HD8 := hI DB.out.lt
    have hsl := hl.more (S' := fun k => db + 1 <= k) fun k _ (hk : w8.heap.size <= k) => by have := HD8.out; omega
    have hss := HSS.out.keep (S' := fun k => db + 1 <= k) hg.size (fun k hk (hs : db + 1 <= k) => hg.block k hk (fun e => by have := Option.some.inj e; have := HGL.out; have := HPB.out; have := HEB.out; omega)) (fun _ _ h => h)
    replace F := hI (F.out.call hg)
    replace DB := hI (DB.out.gr hg (by have := HGL.out; have := HPB.out; have := HEB.out; omega))
    have g5 := gr_put w9 db 2 (.slice B mb kb)
    have cE : w9.cell? ⟨db, 2, none⟩ = some (.slice none 0 0) := DB.out.cell 2
    have fE : w9.frozen? ⟨db, 2, none⟩ = false := DB.out.free 2
    replace DB := hI (show HB 76 (w9.setCell ⟨db, 2, none⟩ (.slice B mb kb)) db #[.string (bs s1), .slice A1 m1 c1, .slice B mb kb] from DB.out.set 2 (.slice B mb kb))
    have OV9 := hI (show OV (w9.setCell ⟨db, 2, none⟩ (.slice B mb kb)) (fun k => db + 1 <= k) ⟨s1, acc, l⟩ [.string (bs s1), .slice A1 m1 c1, .slice B mb kb] from ⟨A1, m1, c1, B, mb, kb, rfl, hss.keep g5.size (fun k hk (hs : db + 1 <= k) => g5.block k hk (fun e => by have := Option.some.inj e; omega)) (fun _ _ h => h), hsl.gr g5 (fun k _ (hs : db + 1 <= k) => ⟨by omega, hs⟩)⟩)
    replace F := hI (F.out.own g5 HEB.out.1)
    replace P := hI (P.out.other TBs.out g5 (by have := HPB.out; have := HEB.out; omega))
    clear g5 hl hg hP hps hb4 ho4 hsl hss pc KB HSS HDO HD8
    go_upto_region 13 with fail
    clear cE fE
    generalize w9.setCell ⟨db, 2, none⟩ (.slice B mb kb) = w10 at *
    have ZN := hI (show PZ = (if b4 = true then .bad R4 else pG f2 (ds) (os ++ [⟨s1, acc, l⟩]) R4) from by
     have hz := HZ.out
     have hd := HDD.out
     cases b4 with
     | true => rw [hd.1 rfl] at hz; exact hz
     | false => rw [hd.2 rfl] at hz; exact hz)
    obtain h0 := HSF.out
    clear HSF
    have HSF := hI (show (b4 = false -> R4.length <= R'.tail.length) /\ R4.length <= R'.tail.length from by
     have hd := HDD.out
     have hl : R4.length <= R'.tail.length := by
      cases b4 with
      | true => rw [hd.1 rfl] at h0; exact h0
      | false => rw [hd.2 rfl] at h0; exact h0
     exact ⟨fun _ => hl, hl⟩)
    clear h0 HZ HDD
    obtain ⟨wA, hwA⟩ : ∃ W, W = w10.alloc (.cells #[.string (bs s1), .slice A1 m1 c1, .slice B mb kb] 76) := ⟨_, rfl⟩
    have hbA : Below w10.heap.size w10 wA := by rw [hwA]; exact (Below.refl _ _).alloc (Nat.le_refl _) _
    have hrA : wA.heap[w10.heap.size]? = some (.cells #[.string (bs s1), .slice A1 m1 c1, .slice B mb kb] 76 (0, 0)) := by rw [hwA]; exact heap_alloc_new w10 _
    have hFA := F.out.below hbA
    have hPA := P.out.next hbA
    have hgq : ∀ k, some g = some k -> k < l3 := fun k e => by have := Option.some.inj e; have := HGL.out; have := HPB.out; omega
    have own0 := O2.out.gr (okAV okOV) hFA.gr hgq
    have oth0 := O1.out.gr okDcV hFA.gr hgq
    have hxx : AV OV (fun b => v1.ownBlock = some b) wA (fun k => wr.heap.size <= k) ⟨s1, acc, l⟩ [.string (bs s1), .slice A1 m1 c1, .slice B mb kb] := OV9.out.keep hbA.size (fun k hk _ => hbA.block k hk) (fun k _ (hk : db + 1 <= k) => ⟨by have := HEB.out; omega, fun e => by have := (O1.out.lt k e).2; have := HEB.out; omega⟩)
    obtain ⟨vn, wB, hrun, own1, gr1, ow1⟩ := own0.app (t := 34) (ty := 34) (okAV okOV) apk_o wr.heap.size w10.heap.size (⟨s1, acc, l⟩ : Oper') _ (lt_of_block hrA) (fun j u hu => by rw [Nat.zero_add, cell_of_row _ _ _ _ _ _ hrA, <- hu, <- Array.getElem?_toList]) hxx (by have := HLA.out; have := HRL.out; omega) (Nat.le_trans HBS.out hFA.gr.size) (fun k e => (O2.out.lt k e).2) HBS.out
    have gq : ∀ k, v2.ownBlock = some k -> l3 <= k := fun k e => (O2.out.lt k e).1
    obtain ⟨An, cn, rfl, -⟩ := own1.row (okAV okOV)
    obtain ⟨mn, hmn⟩ : ∃ m, m = (os ++ [(⟨s1, acc, l⟩ : Oper')]).length := ⟨_, rfl⟩
    rw [<- hmn] at own1 hrun ow1
    clear hmn
    have nb : ∀ k, k < l3 -> some k ≠ v2.ownBlock := fun k hk e => by have := gq k e.symm; omega
    have gx : w.grownBy wB (some g) := by
     have h0 := World.grownBy.trans G2.out hFA.gr
     exact ⟨gr1.os.trans h0.os, gr1.tape.trans h0.tape, gr1.output.trans h0.output, Nat.le_trans h0.size gr1.size, fun k hk hne => (gr1.block k (Nat.lt_of_lt_of_le hk h0.size) (nb k (by have := HPB.out; have := HPW.out; omega))).trans (h0.block k hk hne)⟩
    have hp1 : HB 66 wB pb #[.pointer (some ⟨g, 0, none⟩)] := (gr1.block _ (lt_of_block hFA.p) (nb _ (by have := HPB.out; omega))).trans hFA.p
    have hr1 : HB 36 wB rb #[.slice none 0 0, .slice none 0 0] := (gr1.block _ (lt_of_block hFA.r) (nb _ (by have := HPB.out; omega))).trans hFA.r
    have ho1 : HB 36 wB ob #[v1, v2] := (gr1.block _ (lt_of_block hFA.o) (nb _ (by have := HPB.out; omega))).trans hFA.o
    have hP1 := hPA.othr TBs.out gr1 (fun k e => by have := gq k e; have := HPB.out; omega)
    have hne1 : ∀ k, v1.ownBlock = some k -> (Value.slice An mn cn).ownBlock ≠ some k := fun k e e2 => by
     rcases ow1 with h | h
     ·rw [h] at e2; exact NE.out k e e2
     rw [h] at e2; have := Option.some.inj e2; have := (O1.out.lt k e).2; have := hFA.gr.size; omega
    have oth1 := oth0.dc gr1 (fun k e e2 => NE.out k e2 e)
    have hcA : w10.cell? ⟨ob, 1, none⟩ = some v2 := F.out.o.cell 1
    have cB : wB.cell? ⟨ob, 1, none⟩ = some v2 := HB.cell ho1 1
    have fB : wB.frozen? ⟨ob, 1, none⟩ = false := HB.free ho1 1
    have gb := gr_put wB ob 1 (.slice An mn cn)
    have ho2 : HB 36 (wB.setCell ⟨ob, 1, none⟩ (.slice An mn cn)) ob #[v1, (.slice An mn cn)] := HB.set ho1 1 (.slice An mn cn)
    have hob0 : ob < l3 := by have := HPB.out; omega
    have kb : ∀ k, some ob = some k -> k < l3 := fun k e => by have := Option.some.inj e; omega
    obtain ⟨wC, hwC⟩ : ∃ W, W = wB.setCell ⟨ob, 1, none⟩ (.slice An mn cn) := ⟨_, rfl⟩
    rw [<- hwC] at gb ho2
    have hsz : wr.heap.size <= wC.heap.size := Nat.le_trans (Nat.le_trans hFA.gr.size gr1.size) gb.size
    have FN := hI (show PF g pb rb ob v1 (.slice An mn cn) wC wC from ⟨HB.gr hp1 gb (by have := HPB.out; omega), HB.gr hr1 gb (by have := HPB.out; omega), ho2, World.grownBy.refl _ _, F.out.ne.1, by have := F.out.ne.2.1; omega, by have := F.out.ne.2.2.1; omega, by have := F.out.ne.2.2.2; omega⟩)
    have O2n := hI (own1.gr (okAV okOV) gb kb)
    have O1n := hI (oth1.gr okDcV gb kb)
    have NEn := hI hne1
    have G3 := hI (gr_step (B := 0) gx gb (by have := HPB.out; have := HPW.out; omega))
    have PN := hI (hP1.other TBs.out gb (by have := HPB.out; omega))
    have HBn := hI (Nat.le_trans HBS.out hsz)
    have HRUN := hI hrun
    have HWC := hI hwC
    have CB := hI (And.intro cB fB)
    have HWA := hI hwA
    have DBo := hI DB.out
    clear gr1 hFA hPA hgq own0 oth0 hxx hrA hbA nb hrun gb ho2 hob0 kb hsz oth1 own1 hne1 gx hp1 hr1 ho1 hP1 gq cB fB hwC hwA ow1 F O1 O2 NE G2 P DB HBS
    go_wp2_with (with_reducible refine at_load_ (t := 76) ?_; refine Hid.out ?_)
    refine hI ?_
    refine wpList_load_row rfl _ _ rfl db rfl _ _ _ _ DBo.out Tryz.underlying76 rfl (by kernel_rfl) ?_
    clear hcA
    go_wp2_with (at_builtin; rw [<- HWA.out]; refine wl_app rfl _ _ 34 rfl _ _ rfl rfl HRUN.out ?_; refine Hid.out ?_)
    refine hI ?_
    obtain ⟨cB, fB⟩ := CB.out
    clear HRUN HWA CB
    go_wp2
    rw [<- HWC.out]
    clear cB fB HWC
    go_roundw
    case rel => exact ⟨HBn.out, ds, (os ++ [(⟨s1, acc, l⟩ : Oper')]), v1, (.slice An mn cn), b4, R4, f2, PN.out, FN.out, O1n.out, O2n.out, NEn.out, G3.out, ZN.out, fun e => ⟨by have := HTL.out; have := HF1.out; have := HSF.out.1 e; omega, by have := HTL.out; have := HLA.out; have := HSF.out.1 e; simp only [List.length_append, List.length_singleton]; omega⟩⟩
    case measure =>
     rw [PN.out.idx, PN.out.nb, HMU.out]
     have := HTL.out
     have := HSF.out.2
     cases b4 <;> simp <;> omega
   obtain ⟨hf, htr⟩ := tk_false ht
   rw [htr] at h2
   have P := hI h2
   rw [hf]
   have hz := HZ.out
   rw [if_neg (show ¬ isT tOp R' = true from fun h => ht (by unfold tk; rw [show isT [111, 112] R' = true from h]; rfl))] at hz
   clear HZ
   have HZ := hI hz
   clear hz h2 htr ht hf
   obtain ⟨i5, hi5⟩ := P.out
   obtain ⟨q0, q1, q2⟩ := hi5.cells
   have fg := hi5.free 2
   have g2 := gr_put w5 g 2 (.bool true)
   have PN := hI (show PSx L A n c g (w5.setCell ⟨g, 2, none⟩ (.bool true)) true R' from ⟨i5, hi5.set2⟩)
   have pc : w5.cell? ⟨pb, 0, none⟩ = some (.pointer (some ⟨g, 0, none⟩)) := F.out.pc
   obtain ⟨wC, hwC⟩ : ∃ W, W = w5.setCell ⟨g, 2, none⟩ (.bool true) := ⟨_, rfl⟩
   rw [<- hwC] at g2 PN
   have hF2 := F.out.call g2
   have hgq : ∀ k, some g = some k -> k < l3 := fun k e => by have := Option.some.inj e; have := HGL.out; have := HPB.out; omega
   have O1n := hI (O1.out.gr okDcV hF2.gr hgq)
   have O2n := hI (O2.out.gr (okAV okOV) hF2.gr hgq)
   have G3 := hI (World.grownBy.trans G2.out hF2.gr)
   have HBn := hI (Nat.le_trans HBS.out hF2.gr.size)
   have FN := hI (show PF g pb rb ob v1 v2 wC wC from ⟨hF2.p, hF2.r, hF2.o, World.grownBy.refl _ _, hF2.ne.1, by have := hF2.ne.2.1; have := hF2.gr.size; omega, by have := hF2.ne.2.2.1; have := hF2.gr.size; omega, by have := hF2.ne.2.2.2; have := hF2.gr.size; omega⟩)
   have HWC := hI hwC
   clear hF2 hgq hwC g2 hi5
   go_wp2
   rw [<- HWC.out]
   clear fg q0 q1 q2 pc HWC
   go_roundw
   case rel => exact ⟨HBn.out, ds, os, v1, v2, true, R', f2, PN.out, FN.out, O1n.out, O2n.out, NE.out, G3.out, HZ.out, fun e => by cases e⟩
   case measure =>
    rw [PN.out.idx, PN.out.nb, HMU.out]
    simp
theorem opAt_len {lv : Nat} {R : List Tk} (h : opAt lv R = true) : R.tail.length + 1 = R.length := by cases R with | nil => cases h | cons t r => rfl
theorem sizes_app : ∀ (l m : List Ex), Ex.sizes (l ++ m) = Ex.sizes l + Ex.sizes m
 | [], m => by rw [List.nil_append, Ex.sizes]; omega
 | x :: t, m => by rw [List.cons_append, Ex.sizes, Ex.sizes, sizes_app t m]; omega
theorem ssizes_app : ∀ (l m : List St), St.sizes (l ++ m) = St.sizes l + St.sizes m
 | [], m => by rw [List.nil_append, St.sizes]; omega
 | x :: t, m => by rw [List.cons_append, St.sizes, St.sizes, ssizes_app t m]; omega
theorem size_ex (f : Nat) : (∀ lv R e r, pB f lv R = .ok e r -> e.size + r.length <= R.length) /\ (∀ lv a R e r, pC f lv a R = .ok e r -> e.size + r.length <= a.size + R.length) /\ (∀ R e r, pU f R = .ok e r -> e.size + r.length <= R.length) /\ (∀ R e r, pH f R = .ok e r -> e.size + r.length <= R.length) /\ (∀ n R e r, pK f n R = .ok e r -> e.size + r.length <= R.length) /\ (∀ R l r, pA f R = .ok l r -> Ex.sizes l + r.length + 2 <= R.length) /\ (∀ acc R l r, pL f acc R = .ok l r -> Ex.sizes l + r.length + 1 <= Ex.sizes acc + R.length) := by
 induction f with
 | zero =>
  refine ⟨?_, ?_, ?_, ?_, ?_, ?_, ?_⟩
  ·intro lv R e r h; rw [pB] at h; cases h
  ·intro lv a R e r h; rw [pC] at h; cases h
  ·intro R e r h; rw [pU] at h; cases h
  ·intro R e r h; rw [pH] at h; cases h
  ·intro n R e r h; rw [pK] at h; cases h
  ·intro R e r h; rw [pA] at h; cases h
  intro acc R e r h; rw [pL] at h; cases h
 | succ f ih =>
  obtain ⟨iB, iC, iU, iH, iK, iA, iL⟩ := ih
  refine ⟨?_, ?_, ?_, ?_, ?_, ?_, ?_⟩
  ·intro lv R e r h
   rw [pB] at h
   split at h
   ·exact iU _ _ _ h
   cases hb : pB f (lv + 1) R with
   | bad q => rw [hb] at h; cases h
   | ok a q =>
    rw [hb] at h
    have h1 := iB _ _ _ _ hb
    have h2 := iC _ _ _ _ _ h
    omega
  ·intro lv a R e r h
   rw [pC] at h
   split at h
   ·rename_i ho
    have hl := opAt_len ho
    cases hb : pB f (lv + 1) R.tail with
    | bad q => rw [hb] at h; cases h
    | ok b q =>
     rw [hb] at h
     have h1 := iB _ _ _ _ hb
     have h2 := iC _ _ _ _ _ h
     simp only [Ex.size, Ex.sizes] at h2
     omega
   injection h with h1 h2
   subst h1 h2
   exact Nat.le_refl _
  ·intro R e r h
   rw [pU] at h
   split at h
   ·rename_i hi
    have hl := isT_len hi
    cases hb : pU f R.tail with
    | bad q => rw [hb] at h; cases h
    | ok b q =>
     rw [hb] at h
     injection h with h1 h2
     subst h1 h2
     have h1 := iU _ _ _ hb
     simp only [Ex.size, Ex.sizes]
     omega
   split at h
   ·rename_i hi
    have hl := isT_len hi
    cases hb : pU f R.tail with
    | bad q => rw [hb] at h; cases h
    | ok b q =>
     rw [hb] at h
     injection h with h1 h2
     subst h1 h2
     have h1 := iU _ _ _ hb
     simp only [Ex.size, Ex.sizes]
     omega
   split at h
   ·rename_i hi
    have hl := isT_len hi
    injection h with h1 h2
    subst h1 h2
    simp only [Ex.size, Ex.sizes]
    omega
   split at h
   ·rename_i hi
    have hl := isT_len hi
    injection h with h1 h2
    subst h1 h2
    simp only [Ex.size, Ex.sizes]
    omega
   split at h
   ·rename_i hi
    have hl := isT_len hi
    cases hb : pB f 0 R.tail with
    | bad q => rw [hb] at h; cases h
    | ok b q =>
     rw [hb] at h
     dsimp only at h
     split at h
     ·rename_i h4
      have hl2 := isT_len h4
      injection h with h1 h2
      subst h1 h2
      have h1 := iB _ _ _ _ hb
      omega
     cases h
   split at h
   ·rename_i hi
    have hl := isT_len hi
    have h1 := iH _ _ _ h
    omega
   split at h
   ·rename_i hi
    have hl := kind_len hi (by decide)
    injection h with h1 h2
    subst h1 h2
    simp only [Ex.size, Ex.sizes]
    omega
   split at h
   ·rename_i hi
    have hl := kind_len hi (by decide)
    split at h
    ·have h1 := iK _ _ _ _ h
     omega
    injection h with h1 h2
    subst h1 h2
    simp only [Ex.size, Ex.sizes]
    omega
   cases h
  ·intro R e r h
   rw [pH] at h
   split at h
   ·rename_i hi
    have hl := isT_len hi
    split at h
    ·rename_i hk
     have hl2 := kind_len hk (by decide)
     cases hb : pA f R.tail.tail with
     | bad q => rw [hb] at h; cases h
     | ok b q =>
      rw [hb] at h
      injection h with h1 h2
      subst h1 h2
      have h1 := iA _ _ _ hb
      simp only [Ex.size, Ex.sizes]
      omega
    cases h
   cases h
  ·intro n R e r h
   rw [pK] at h
   split at h
   ·rename_i hi
    have hl := isT_len hi
    split at h
    ·rename_i hk
     have hl2 := kind_len hk (by decide)
     cases hb : pA f R.tail.tail with
     | bad q => rw [hb] at h; cases h
     | ok b q =>
      rw [hb] at h
      have h3 := iA _ _ _ hb
      dsimp only at h
      split at h
      ·rename_i h4
       have hl4 := isT_len h4
       cases hc : pU f q.tail with
       | bad q2 => rw [hc] at h; cases h
       | ok o q2 =>
        rw [hc] at h
        injection h with h1 h2
        subst h1 h2
        have h5 := iU _ _ _ hc
        simp only [Ex.size, Ex.sizes]
        omega
      injection h with h1 h2
      subst h1 h2
      simp only [Ex.size, Ex.sizes]
      omega
    cases h
   cases h
  ·intro R l r h
   rw [pA] at h
   split at h
   ·rename_i hi
    have hl := isT_len hi
    split at h
    ·rename_i h4
     have hl2 := isT_len h4
     injection h with h1 h2
     subst h1 h2
     rw [Ex.sizes]
     omega
    have h1 := iL _ _ _ _ h
    rw [Ex.sizes] at h1
    omega
   cases h
  intro acc R l r h
  rw [pL] at h
  cases hb : pB f 0 R with
  | bad q => rw [hb] at h; cases h
  | ok b q =>
   rw [hb] at h
   have h3 := iB _ _ _ _ hb
   dsimp only at h
   split at h
   ·rename_i h4
    have hl := isT_len h4
    injection h with h1 h2
    subst h1 h2
    rw [sizes_app, Ex.sizes, Ex.sizes]
    omega
   split at h
   ·rename_i h4
    have hl := isT_len h4
    have h5 := iL _ _ _ _ h
    rw [sizes_app, Ex.sizes, Ex.sizes] at h5
    omega
   cases h
theorem size_pE {R : List Tk} {e : Ex} {r : List Tk} (h : pE R = .ok e r) : e.size + r.length <= R.length := (size_ex _).1 0 R e r h
theorem size_pN {k : Ex -> St} {R : List Tk} {s : St} {r : List Tk} (hk : ∀ e, (k e).size = 1 + e.size) (h : pN k R = .ok s r) : s.size + r.length <= R.length := by
 unfold pN at h
 cases hb : pE R with
 | bad q => rw [hb] at h; cases h
 | ok b q =>
  rw [hb] at h
  have h3 := size_pE hb
  dsimp only at h
  split at h
  ·rename_i h4
   have hl := isT_len h4
   injection h with h1 h2
   subst h1 h2
   rw [hk]
   omega
  cases h
theorem size_st (f : Nat) : (∀ R s r, pS f R = .ok s r -> s.size + r.length <= R.length) /\ (∀ R s r, pI f R = .ok s r -> s.size + r.length <= R.length + 1) /\ (∀ R l r, pBl f R = .ok l r -> St.sizes l + r.length + 2 <= R.length) /\ (∀ acc R l r, pM f acc R = .ok l r -> St.sizes l + r.length + 1 <= St.sizes acc + R.length) := by
 induction f with
 | zero =>
  refine ⟨?_, ?_, ?_, ?_⟩
  ·intro R e r h; rw [pS] at h; cases h
  ·intro R e r h; rw [pI] at h; cases h
  ·intro R e r h; rw [pBl] at h; cases h
  intro acc R e r h; rw [pM] at h; cases h
 | succ f ih =>
  obtain ⟨iS, iI, iB, iM⟩ := ih
  refine ⟨?_, ?_, ?_, ?_⟩
  ·intro R s r h
   rw [pS] at h
   split at h
   ·rename_i hi
    have hl := isT_len hi
    have h1 := iI _ _ _ h
    omega
   split at h
   ·rename_i hi
    have hl := isT_len hi
    split at h
    ·rename_i hk
     have hl2 := kind_len hk (by decide)
     cases hb : pBl f R.tail.tail with
     | bad q => rw [hb] at h; cases h
     | ok b q =>
      rw [hb] at h
      injection h with h1 h2
      subst h1 h2
      have h1 := iB _ _ _ hb
      simp only [St.size, St.sizes, emE, Ex.size, Ex.sizes]
      omega
    cases h
   split at h
   ·rename_i hi
    have hl := isT_len hi
    split at h
    ·rename_i hk
     have hl2 := kind_len hk (by decide)
     split at h
     ·rename_i h4
      have hl3 := isT_len h4
      have h1 := size_pN (fun e => by simp only [St.size, St.sizes]; omega) h
      omega
     cases h
    cases h
   split at h
   ·rename_i hi
    have hl := isT_len hi
    have h1 := size_pN (fun e => by simp only [St.size, St.sizes]; omega) h
    omega
   split at h
   ·rename_i hi
    have hl := isT_len hi
    split at h
    ·rename_i hk
     have hl2 := kind_len hk (by decide)
     split at h
     ·rename_i h4
      have hl3 := isT_len h4
      injection h with h1 h2
      subst h1 h2
      simp only [St.size, St.sizes, emE, Ex.size, Ex.sizes]
      omega
     cases h
    cases h
   split at h
   ·rename_i hi
    have hl := isT_len hi
    cases hb : pH (8 * R.length + 7) R.tail with
    | bad q => rw [hb] at h; cases h
    | ok b q =>
     rw [hb] at h
     dsimp only at h
     split at h
     ·rename_i h4
      have hl3 := isT_len h4
      injection h with h1 h2
      subst h1 h2
      have h1 := (size_ex _).2.2.2.1 _ _ _ hb
      simp only [St.size, St.sizes]
      omega
     cases h
   split at h
   ·rename_i hi
    have hl := kind_len hi (by decide)
    split at h
    ·cases hb : pK (8 * R.length + 7) (textT R) R.tail with
     | bad q => rw [hb] at h; cases h
     | ok b q =>
      rw [hb] at h
      dsimp only at h
      split at h
      ·rename_i h4
       have hl3 := isT_len h4
       injection h with h1 h2
       subst h1 h2
       have h1 := (size_ex _).2.2.2.2.1 _ _ _ _ hb
       simp only [St.size, St.sizes]
       omega
      cases h
    split at h
    ·rename_i h4
     have hl3 := isT_len h4
     have h1 := size_pN (fun e => by simp only [St.size, St.sizes]; omega) h
     omega
    cases h
   cases h
  ·intro R s r h
   rw [pI] at h
   cases hb : pE R with
   | bad q => rw [hb] at h; cases h
   | ok e q =>
    rw [hb] at h
    have h1 := size_pE hb
    dsimp only at h
    cases hc : pBl f q with
    | bad q2 => rw [hc] at h; cases h
    | ok b q2 =>
     rw [hc] at h
     have h2 := iB _ _ _ hc
     dsimp only at h
     split at h
     ·rename_i hi
      have hl := isT_len hi
      split at h
      ·rename_i hi2
       have hl2 := isT_len hi2
       cases hd : pI f q2.tail.tail with
       | bad q3 => rw [hd] at h; cases h
       | ok s q3 =>
        rw [hd] at h
        have h3 := iI _ _ _ hd
        injection h with h4 h5
        subst h4 h5
        simp only [St.size, St.sizes]
        omega
      cases hd : pBl f q2.tail with
      | bad q3 => rw [hd] at h; cases h
      | ok l q3 =>
       rw [hd] at h
       have h3 := iB _ _ _ hd
       injection h with h4 h5
       subst h4 h5
       simp only [St.size, St.sizes]
       omega
     injection h with h4 h5
     subst h4 h5
     simp only [St.size, St.sizes]
     omega
  ·intro R l r h
   rw [pBl] at h
   split at h
   ·rename_i hi
    have hl := isT_len hi
    have h1 := iM _ _ _ _ h
    rw [St.sizes] at h1
    omega
   cases h
  intro acc R l r h
  rw [pM] at h
  split at h
  ·rename_i hi
   have hl := isT_len hi
   injection h with h1 h2
   subst h1 h2
   omega
  cases hb : pS f R with
  | bad q => rw [hb] at h; cases h
  | ok s q =>
   rw [hb] at h
   have h1 := iS _ _ _ hb
   have h2 := iM _ _ _ _ h
   rw [ssizes_app, St.sizes, St.sizes] at h2
   omega
theorem size_pQ : ∀ (f : Nat) (acc : List Str) (R : List Tk) (l : List Str) (r : List Tk), pQ f acc R = .ok l r -> l.length + r.length <= acc.length + R.length
 | 0, acc, R, l, r, h => by rw [pQ] at h; cases h
 | f + 1, acc, R, l, r, h => by
  rw [pQ] at h
  split at h
  ·rename_i hk
   have hl := kind_len hk (by decide)
   split at h
   ·rename_i h4
    have hl2 := isT_len h4
    injection h with h1 h2
    subst h1 h2
    rw [List.length_append, List.length_singleton]
    omega
   split at h
   ·rename_i h4
    have hl2 := isT_len h4
    have h1 := size_pQ f _ _ _ _ h
    rw [List.length_append, List.length_singleton] at h1
    omega
   cases h
  cases h
theorem size_pPs {R : List Tk} {l : List Str} {r : List Tk} (h : pPs R = .ok l r) : l.length + r.length <= R.length := by
 unfold pPs at h
 split at h
 ·rename_i hi
  have hl := isT_len hi
  split at h
  ·rename_i h4
   have hl2 := isT_len h4
   injection h with h1 h2
   subst h1 h2
   rw [List.length_nil]
   omega
  have h1 := size_pQ _ _ _ _ _ h
  rw [List.length_nil] at h1
  omega
 cases h
/-- No part of the program has more than so many parts. -/
def Prog'.Lim (n : Nat) (p : Prog') : Prop := p.stores.length <= n /\ p.opers.length <= n /\ ∀ o ∈ p.opers, o.params.length <= n /\ St.sizes o.body <= n
theorem size_pO {R : List Tk} {o : Oper'} {r : List Tk} (h : pO R = .ok o r) : o.params.length <= R.length /\ St.sizes o.body <= R.length /\ r.length + 1 <= R.length := by
 unfold pO at h
 split at h
 ·rename_i hk
  have hl := kind_len hk (by decide)
  cases hb : pPs R.tail with
  | bad q => rw [hb] at h; cases h
  | ok ps q =>
   rw [hb] at h
   have h1 := size_pPs hb
   dsimp only at h
   cases hc : pBk q with
   | bad q2 => rw [hc] at h; cases h
   | ok b q2 =>
    rw [hc] at h
    have h2 := (size_st _).2.2.1 _ _ _ hc
    injection h with h3 h4
    subst h3 h4
    dsimp only
    omega
 cases h
theorem size_pD {R : List Tk} {d : Decl'} {r : List Tk} (h : pD R = .ok d r) : r.length + 1 <= R.length := by
 unfold pD at h
 split at h
 ·rename_i hk
  have hl := kind_len hk (by decide)
  split at h
  ·rename_i hk2
   have hl2 := kind_len hk2 (by decide)
   split at h
   ·rename_i h4
    have hl3 := isT_len h4
    injection h with h1 h2
    subst h2
    omega
   cases h
  cases h
 cases h
theorem size_pG {N : Nat} : ∀ (f : Nat) (ds : List Decl') (os : List Oper') (R : List Tk) (p : Prog') (r : List Tk), R.length + ds.length <= N -> R.length + os.length <= N -> (∀ o ∈ os, o.params.length <= N /\ St.sizes o.body <= N) -> pG f ds os R = .ok p r -> p.Lim N /\ kindT r = 0
 | 0, ds, os, R, p, r, _, _, _, h => by rw [pG] at h; cases h
 | f + 1, ds, os, R, p, r, h1, h2, h3, h => by
  rw [pG] at h
  split at h
  ·rename_i hk
   injection h with h4 h5
   subst h4 h5
   exact ⟨⟨by dsimp only; omega, by dsimp only; omega, h3⟩, hk⟩
  split at h
  ·rename_i hi
   have hl := isT_len hi
   cases hb : pD R.tail with
   | bad q => rw [hb] at h; cases h
   | ok d q =>
    rw [hb] at h
    have h4 := size_pD hb
    exact size_pG f _ _ _ _ _ (by rw [List.length_append, List.length_singleton]; omega) (by omega) h3 h
  split at h
  ·rename_i hi
   have hl := isT_len hi
   cases hb : pO R.tail with
   | bad q => rw [hb] at h; cases h
   | ok o q =>
    rw [hb] at h
    have h4 := size_pO hb
    refine size_pG f _ _ _ _ _ (by omega) (by rw [List.length_append, List.length_singleton]; omega) (fun x hx => ?_) h
    rcases List.mem_append.1 hx with hx | hx
    ·exact h3 x hx
    rw [List.mem_singleton.1 hx]
    omega
  cases h
theorem size_pP {R : List Tk} {p : Prog'} {r : List Tk} (h : pP R = .ok p r) : p.Lim R.length /\ kindT r = 0 :=
 size_pG _ _ _ _ _ _ (by simp) (by simp) (fun o ho => by cases ho) h
open Go.RowKit
theorem scanG_ok : ∀ (f k : Nat) (l : List UInt8) (ts : List Lx.Tok), Lx.scanG f k l = .ok ts -> ts.length <= l.length /\ ∀ t ∈ ts, t.kind ≠ 0 /\ (t.kind = 2 -> Lx.numE t.text = 0 /\ t.text ≠ []) /\ t.text.length <= l.length
 | 0, k, l, ts, h => by
  rw [Lx.scanG] at h
  injection h with h
  subst h
  exact ⟨Nat.zero_le _, fun t ht => by cases ht⟩
 | f + 1, k, l, ts, h => by
  rw [Lx.scanG] at h
  split at h
  ·injection h with h
   subst h
   exact ⟨Nat.zero_le _, fun t ht => by cases ht⟩
  split at h
  ·cases h
  rename_i hn
  have h0 : (Lx.nextT l).2.2 = 0 := Classical.not_not.1 hn
  obtain ⟨hp, hne⟩ := Lx.next_text h0
  have hpl := hp.length_le
  have hpos : 0 < (Lx.nextT l).2.1.length := List.length_pos_iff.2 hne
  split at h
  ·cases h
  rename_i us hu
  injection h with h
  subst h
  have ih := scanG_ok f _ _ _ hu
  rw [List.length_drop, List.length_drop] at ih
  refine ⟨by rw [List.length_cons]; omega, fun t ht => ?_⟩
  rcases List.mem_cons.1 ht with rfl | ht
  ·refine ⟨?_, ?_, hpl⟩
   ·intro e
    dsimp only at e
    revert e h0
    unfold Lx.nextT
    repeat' split
    all_goals simp
   intro e
   dsimp only at e ⊢
   refine ⟨?_, hne⟩
   revert e h0
   unfold Lx.nextT
   repeat' split
   all_goals simp
  obtain ⟨h1, h2, h3⟩ := ih.2 t ht
  exact ⟨h1, h2, by omega⟩
theorem ends_snoc : ∀ (R : List Tk) (t : Tk), t.1 = 0 -> Ends (R ++ [t])
 | [], t, h => h
 | [a], t, h => h
 | a :: b :: r, t, h => ends_snoc (b :: r) t h
/-- What the lexer's tokens are. -/
theorem scan_ok {s : Str} (h : (Lx.scanL s).2.2 = 0) : Lok (Lx.scanL s).1 /\ Ends ((Lx.scanL s).1.map tkq) /\ (Lx.scanL s).2.1 = 0 /\ (Lx.scanL s).1.length <= s.length + 1 /\ s.length <= 65536 /\ ∀ t ∈ (Lx.scanL s).1, t.kind = 0 -> t.text = [] := by
 unfold Lx.scanL at *
 split at h
 ·cases h
 rename_i hl
 rw [if_neg hl]
 cases hs : Lx.scanR s with
 | error e =>
  obtain ⟨k, er⟩ := e
  rw [hs] at h
  exfalso
  dsimp only at h
  subst h
  unfold Lx.scanR at hs
  have key : ∀ (f k : Nat) (l : List UInt8) (j : Nat), Lx.scanG f k l ≠ .error (j, 0) := by
   intro f
   induction f with
   | zero => intro k l j e; rw [Lx.scanG] at e; cases e
   | succ f ih =>
    intro k l j e
    rw [Lx.scanG] at e
    split at e
    ·cases e
    split at e
    ·rename_i hn
     injection e with e
     injection e with e1 e2
     exact hn e2
    split at e
    ·rename_i e2 h2
     injection e with e
     subst e
     exact ih _ _ _ h2
    cases e
  exact key _ _ _ _ hs
 | ok ts =>
  have hg : Lx.scanG (s.length + 1) (Lx.blankA false s) (s.drop (Lx.blankA false s)) = .ok ts := hs
  obtain ⟨h1, h2⟩ := scanG_ok _ _ _ _ hg
  have hd : (s.drop (Lx.blankA false s)).length <= s.length := by rw [List.length_drop]; omega
  dsimp only
  refine ⟨⟨fun t ht hk => ?_, by rw [List.length_append, List.length_singleton]; omega, fun t ht => ?_⟩, by rw [List.map_append]; exact ends_snoc _ _ rfl, rfl, by rw [List.length_append, List.length_singleton]; omega, by omega, fun t ht hk => ?_⟩
  ·rcases List.mem_append.1 ht with ht | ht
   ·exact (h2 t ht).2.1 hk
   rw [List.mem_singleton.1 ht] at hk; cases hk
  ·rcases List.mem_append.1 ht with ht | ht
   ·have := (h2 t ht).2.2; omega
   rw [List.mem_singleton.1 ht]; exact Nat.zero_le _
  rcases List.mem_append.1 ht with ht | ht
  ·exact absurd hk (h2 t ht).1
  rw [List.mem_singleton.1 ht]
/-- What the package variables hold that a parse reads. -/
structure WW (w : World) : Prop where
 lx : Lx.LxW w
 sx : SxW w
 es : ∃ ev, w.cell? ⟨4, 0, none⟩ = some ev /\ (ev = .nilIface ∨ ∃ te pe, ev = .iface te pe)
theorem WW.below {w w' : World} (h : WW w) (hb : Below w.heap.size w w') : WW w' := by
 obtain ⟨ev, h1, h2⟩ := h.es
 exact ⟨h.lx.below hb, h.sx.below hb, ev, (hb.cell (p := ⟨4, 0, none⟩) (World.block_lt_of_cell? _ _ h1)).trans h1, h2⟩
/-- The tokens L lie at A, above base. -/
def TR (w : World) (base : Nat) (L : List Lx.Tok) (A : Option Addr) (n c : Nat) : Prop :=
 n = L.length /\ n <= c /\ ∃ b q, A = some ⟨b, q, none⟩ /\ base <= b /\ b < w.heap.size /\ ∀ (j : Nat) (t : Lx.Tok), L[j]? = some t -> w.rangeAt b (q + j * 3) [.int .i64 t.kind, .string (bs t.text), .int .i64 t.off]
theorem tr_of {w : World} {base : Nat} {v : Value} {L : List Lx.Tok} (h : w.ownsRow base 63 3 v L.length (L.flatMap Lx.tokC)) (hn : 0 < L.length) : ∃ A c, v = .slice A L.length c /\ TR w base L A L.length c := by
 obtain ⟨A, c, rfl, hc, hA, hR⟩ := own_reads (S := fun b => base <= b) h (fun _ h => h)
 obtain ⟨b, o, rfl, hb, hS, hcell⟩ := hR.2 hn
 refine ⟨_, c, rfl, rfl, hc, b, o, rfl, hS, hb, fun j t ht r u hu => ?_⟩
 have hf := flatG 3 (L.map Lx.tokC) (fun cs hcs => by obtain ⟨t, _, rfl⟩ := List.mem_map.1 hcs; rfl) j (Lx.tokC t) (by rw [List.getElem?_map, ht]; rfl) r u hu
 rw [List.flatMap_def] at hcell
 have := hcell _ _ hf
 rw [show o + j * 3 + r = o + (j * 3 + r) by omega]
 exact this
theorem ps_of {w : World} {base n c g : Nat} {L : List Lx.Tok} {A : Option Addr} (h : TR w base L A n c) (hl : Lok L) (he : Ends (L.map tkq)) (hw : WW w) (hg : w.heap.size = g) :
  PSx L A n c g (w.alloc (.cells #[.slice A n c, .int .i64 0, .bool false] 117)) false (L.map tkq) := by
 obtain ⟨h1, h2, b, q, e, h3, h4, h5⟩ := h
 have hb := (Below.refl w.heap.size w).alloc (Nat.le_refl _) (.cells #[.slice A n c, .int .i64 0, .bool false] 117)
 obtain ⟨ev, k1, k2⟩ := hw.es
 have klt := World.block_lt_of_cell? _ _ k1
 refine ⟨0, hl, h1, h2, ⟨b, q, e, Nat.lt_of_lt_of_le h4 hb.size, by omega, fun j t ht => rangeAt_keep (h5 j t ht) (hb.block b h4)⟩, by rw [<- hg]; exact heap_alloc_new w _, rfl, he, ?_, ev, (hb.cell (p := ⟨4, 0, none⟩) klt).trans k1, k2⟩
 have : 4 < w.heap.size := klt
 omega
theorem begun_any (s : Str) (w : World) (hw : WW w) (hmax : s.length <= 9223372036854775807) :
  Calls Tryz.prog 22 #[.string (bs s)] w fun e w' => Below w.heap.size w w' /\ (((Lx.scanL s).2.2 ≠ 0 /\ e = .returned (.tuple #[.pointer none, .int .i64 ((Lx.scanL s).2.1 : Int), .int .i64 (Lx.scanL s).2.2])) ∨
   ((Lx.scanL s).2.2 = 0 /\ ∃ A n c g, e = .returned (.tuple #[.pointer (some ⟨g, 0, none⟩), .int .i64 0, .int .i64 0]) /\ w.heap.size <= g /\ PSx (Lx.scanL s).1 A n c g w' false ((Lx.scanL s).1.map tkq))) := by
 have K := hI (Lx.scan_any s w hw.lx hmax)
 have HW := hI hw
 have HOK := hI (@scan_ok s)
 generalize Lx.scanL s = T at *
 obtain ⟨L, k0, er⟩ := T
 dsimp only at *
 clear hw hmax
 go_enter Tryz.func22, Tryz.ntmps22
 go_wp2_with fail
 refine K.out.mono ?_
 rintro e w1 ⟨v, rfl, ho, hb⟩
 have HO := hI ho
 have HB := hI hb
 clear ho hb K
 by_cases he : er = 0
 ·subst he
  obtain ⟨hl, hends, hk0, -⟩ := HOK.out rfl
  dsimp only at *
  obtain ⟨A, c, rfl, htr⟩ := tr_of HO.out (by have := hends.ne; cases L with | nil => exact absurd rfl this | cons t r => exact Nat.succ_pos _)
  have HP := hI (ps_of htr hl hends (HW.out.below HB.out) rfl)
  clear hl hends htr HO HOK
  subst hk0
  go_wp2
  go_ret3
  exact ⟨HB.out.alloc HB.out.size _, A, _, c, _, rfl, HB.out.size, HP.out⟩
 have e1 : (er != 0) = true := by simpa using he
 have e2 : decide (er = 0) = false := by simpa using he
 clear HO HOK HW
 go_wp2
 go_ret3
 exact ⟨HB.out, .inl ⟨he, rfl⟩⟩
/-- What ended answers. -/
def enA (L : List Lx.Tok) (b : Bool) (R : List Tk) : Int := if b = true ∨ kindT R ≠ 0 then offAt L R else 0
def enE (b : Bool) (R : List Tk) : Int := if b = true ∨ kindT R ≠ 0 then 5 else 0
theorem ended_any (L : List Lx.Tok) (A : Option Addr) (n c g : Nat) (w : World) (bad : Bool) (R : List Tk) (h : PSx L A n c g w bad R) :
  Calls Tryz.prog 24 #[.pointer (some ⟨g, 0, none⟩)] w fun e w' => e = .returned (.tuple #[.int .i64 (enA L bad R), .int .i64 (enE bad R)]) /\ Below w.heap.size w w' := by
 have K := hI (show ∀ W, Below w.heap.size w W -> _ from fun W hb => now_any L A n c g W bad R (h.next hb))
 have HA := hI (show (bad = true ∨ kindT R ≠ 0) -> enA L bad R = offAt L R /\ enE bad R = 5 from fun h => ⟨if_pos h, if_pos h⟩)
 have HN := hI (show ¬ (bad = true ∨ kindT R ≠ 0) -> enA L bad R = 0 /\ enE bad R = 0 from fun h => ⟨if_neg h, if_neg h⟩)
 obtain ⟨i, hi⟩ := h
 obtain ⟨q0, q1, q2⟩ := hi.cells
 generalize enA L bad R = za at *
 generalize enE bad R = ze at *
 generalize kindT R = kk at *
 generalize offAt L R = oo at *
 clear hi
 cases bad with
 | true =>
  obtain ⟨ha, hb⟩ := HA.out (.inl rfl)
  subst ha hb
  clear HA HN
  go_enter Tryz.func24, Tryz.ntmps24
  go_wp2_with fail
  refine (K.out w (Below.refl _ _)).mono ?_
  rintro e w1 ⟨rfl, hb⟩
  have HB := hI hb
  clear hb q0 q1 q2
  go_wp2
  go_ret2
  exact ⟨rfl, HB.out⟩
 | false =>
  go_enter Tryz.func24, Tryz.ntmps24
  go_wp2_with fail
  refine (K.out w (Below.refl _ _)).mono ?_
  rintro e w1 ⟨rfl, hb⟩
  have HB := hI hb
  clear hb q0 q1 q2
  by_cases hk : kk = 0
  ·subst hk
   obtain ⟨ha, hb⟩ := HN.out (by simp)
   subst ha hb
   clear HA HN
   go_wp2
   go_ret2
   exact ⟨rfl, HB.out⟩
  obtain ⟨ha, hb⟩ := HA.out (.inr hk)
  subst ha hb
  clear HA HN
  have e1 : (kk != 0) = true := by simpa using hk
  have e2 : decide (kk = 0) = false := by simpa using hk
  go_wp2_with fail
  refine (K.out w1 HB.out).mono ?_
  rintro e w2 ⟨rfl, hb⟩
  have HB2 := hI (HB.out.trans (hb.mono HB.out.size))
  clear hb
  go_wp2
  go_ret2
  exact ⟨rfl, HB2.out⟩
open Go.RowKit
section
variable {α : Type} {c : List Str -> α -> Int} {nm : α -> Str}
/-- One after another, with the names met so far. -/
def runC (c : List Str -> α -> Int) (nm : α -> Str) : List Str -> List α -> Int
 | _, [] => 0
 | met, x :: t => if c met x ≠ 0 then c met x else runC c nm (met ++ [nm x]) t
theorem runC_take_ok : ∀ {l : List α} {met : List Str} {q : Nat} {x : α}, l[q]? = some x -> runC c nm met (l.take q) = 0 -> c (met ++ (l.take q).map nm) x = 0 -> runC c nm met (l.take (q + 1)) = 0
 | [], met, q, x, h, _, _ => by simp at h
 | e :: t, met, 0, x, h, _, h2 => by
  obtain rfl : e = x := by simpa using h
  simp only [List.take_zero, List.map_nil, List.append_nil] at h2
  simp only [List.take_succ_cons, List.take_zero, runC]
  rw [if_neg (by simp [h2])]
 | e :: t, met, q + 1, x, h, h1, h2 => by
  rw [List.take_succ_cons, runC] at h1 ⊢
  split at h1
  ·exact absurd h1 (by assumption)
  rename_i h3
  rw [if_neg h3]
  rw [List.take_succ_cons, List.map_cons, show met ++ nm e :: (t.take q).map nm = (met ++ [nm e]) ++ (t.take q).map nm by simp] at h2
  exact runC_take_ok (by simpa using h) h1 h2
theorem runC_take_bad : ∀ {l : List α} {met : List Str} {q : Nat} {x : α}, l[q]? = some x -> runC c nm met (l.take q) = 0 -> c (met ++ (l.take q).map nm) x ≠ 0 -> runC c nm met l = c (met ++ (l.take q).map nm) x
 | [], met, q, x, h, _, _ => by simp at h
 | e :: t, met, 0, x, h, _, h2 => by
  obtain rfl : e = x := by simpa using h
  simp only [List.take_zero, List.map_nil, List.append_nil] at h2 ⊢
  rw [runC, if_pos h2]
 | e :: t, met, q + 1, x, h, h1, h2 => by
  rw [List.take_succ_cons, runC] at h1
  rw [runC]
  split at h1
  ·exact absurd h1 (by assumption)
  rename_i h3
  rw [if_neg h3]
  rw [List.take_succ_cons, List.map_cons, show met ++ nm e :: (t.take q).map nm = (met ++ [nm e]) ++ (t.take q).map nm by simp] at h2 ⊢
  exact runC_take_bad (by simpa using h) h1 h2
end
def declC (met : List Str) (d : Decl') : Int := freshC met d.name (!nameOk d.kind)
theorem storesL_run : ∀ (l : List Decl') (met : List Str), storesL met l = runC declC Decl'.name met l
 | [], met => by rw [storesL, runC]
 | d :: t, met => by
  rw [storesL, runC, storesL_run t, declC, freshC]
  by_cases h1 : nameOk d.name = false
  ·simp [h1]
  by_cases h2 : nameOk d.kind = false
  ·simp [h2]
  by_cases h3 : met.contains d.name = true
  ·simp at h1 h2 h3; simp [h1, h2, h3]
  simp at h1 h2 h3; simp [h1, h2, h3]
theorem opersL_run : ∀ (l : List Oper') (met : List Str), opersL met l = runC operC Oper'.name met l
 | [], met => by rw [opersL, runC]
 | o :: t, met => by
  rw [opersL, runC, opersL_run t]
  have e : operC met o = (if nameOk o.name = false then 16 else if met.contains o.name = true then 11 else if 4 < o.params.length then 15 else if freshL [] o.params ≠ 0 then freshL [] o.params else chkSs 1 o.body) := by
   rw [operC, freshC]
   by_cases h1 : nameOk o.name = false
   ·simp [h1]
   by_cases h3 : met.contains o.name = true
   ·simp at h1 h3; simp [h1, h3]
   simp at h1 h3; simp [h1, h3]
  rw [e]
  split
  ·simp
  split
  ·simp
  split
  ·simp
  split
  ·rfl
  rfl
theorem cells2 {w1 : World} {b : Nat} {t : TypeId} {v0 v1 : Value} (h : w1.heap[b]? = some (.cells #[v0, v1] t (0, 0))) : w1.cell? ⟨b, 0, none⟩ = some v0 /\ w1.cell? ⟨b, 1, none⟩ = some v1 := by
 refine ⟨?_, ?_⟩ <;> (rw [cell_of_row _ _ _ _ _ _ h]; rfl)
/-- Few parts. -/
def Prog'.Few (p : Prog') : Prop := p.stores.length <= 1000000 /\ p.opers.length <= 1000000 /\ ∀ o ∈ p.opers, St.sizes o.body <= 1000000
theorem check_any (p : Prog') (v : Value) (S : Nat -> Prop) (w : World) (hw : SxW w) (hp : PV w S p v) (hf : p.Few) :
  Calls Tryz.prog 18 #[v] w fun e w' => e = .returned (.int .i64 (chkP p)) /\ Below w.heap.size w w' := by
 have hmm := @run_makeMap Tryz.prog
 obtain ⟨ds, os⟩ := p
 obtain ⟨D, nd, cd, O, no, co, rfl, hd, ho⟩ := hp
 dsimp only at hd ho
 have HWS := hI hw
 have HD := hI hd
 have HO := hI ho
 have HND := hI hd.1
 have HNO := hI ho.1
 have HFW := hI hf
 obtain ⟨E, hE⟩ : ∃ E, E = chkP ⟨ds, os⟩ := ⟨_, rfl⟩
 rw [<- hE]
 rw [chkP, storesL_run, opersL_run] at hE
 have HE := hI hE
 clear hw hd ho hf hE
 dsimp only at HE
 have HB0 := hI (fun X => (Below.refl w.heap.size w).alloc (Nat.le_refl _) X)
 by_cases h12 : 12 < (nd : Int)
 ·have HR := hI (show E = 15 by rw [HE.out, if_pos (.inl (by have := HND.out; omega))])
  go_enter Tryz.func18, Tryz.ntmps18
  go_wp2
  go_ret
  exact ⟨congrArg (fun v => Ending.returned (.int .i64 v)) HR.out.symm, HB0.out _⟩
 by_cases h32 : 32 < (no : Int)
 ·have HR := hI (show E = 15 by rw [HE.out, if_pos (.inr (by have := HNO.out; omega))])
  go_enter Tryz.func18, Tryz.ntmps18
  go_wp2
  go_ret
  exact ⟨congrArg (fun v => Ending.returned (.int .i64 v)) HR.out.symm, HB0.out _⟩
 have HE2 := hI (show E = if runC declC Decl'.name [] ds ≠ 0 then runC declC Decl'.name [] ds else runC operC Oper'.name [] os by rw [HE.out, if_neg (by have := HND.out; have := HNO.out; omega)])
 clear HE
 go_enter Tryz.func18, Tryz.ntmps18
 go_wp2_with fail
 obtain ⟨w2, hw2⟩ : ∃ w2 : World, w2 = (w.alloc (.cells #[.slice D nd cd, .slice O no co] 36)).alloc (.map #[] 0) := ⟨_, rfl⟩
 have HXW := hI (show ∀ W, w2.grownBy W (some (w.heap.size + 1)) -> (W.heap[w.heap.size]? = some (.cells #[.slice D nd cd, .slice O no co] 36 (0, 0))) /\ Below w.heap.size w W /\ w.heap.size + 2 <= W.heap.size from fun W h => by
  subst hw2
  have hz : ((w.alloc (.cells #[.slice D nd cd, .slice O no co] 36)).alloc (.map #[] 0)).heap.size = w.heap.size + 2 := by simp
  have h0 : ((w.alloc (.cells #[.slice D nd cd, .slice O no co] 36)).alloc (.map #[] 0)).heap[w.heap.size]? = some (.cells #[.slice D nd cd, .slice O no co] 36 (0, 0)) := (heap_alloc_old _ _ (by simp)).trans (heap_alloc_new _ _)
  have hb : Below w.heap.size w ((w.alloc (.cells #[.slice D nd cd, .slice O no co] 36)).alloc (.map #[] 0)) := (HB0.out _).alloc (by simp) _
  refine ⟨(h.block _ (by rw [hz]; omega) (by intro e; injection e with e; omega)).trans h0, hb.trans (grownBy.below h (Nat.le_succ _) (by rw [hz]; omega)), ?_⟩
  have := h.size
  omega)
 have HMN := hI (show NMap w2 (w.heap.size + 1) [] from by rw [hw2]; have := NMap.made (w.alloc (.cells #[.slice D nd cd, .slice O no co] 36)); rwa [show (w.alloc (.cells #[.slice D nd cd, .slice O no co] 36)).heap.size = w.heap.size + 1 by simp] at this)
 have HGR := hI (show w2.grownBy w2 (some (w.heap.size + 1)) from Below.grown_ (Below.refl _ _) _)
 rw [<- hw2]
 clear hw2 HB0
 go_loopw [24] (fun i wr => ∃ q : Nat, q <= ds.length /\ i = .int .i64 q /\ Hid (runC declC Decl'.name [] (ds.take q) = 0) /\ Hid (NMap wr (w.heap.size + 1) ((ds.take q).map Decl'.name)) /\ Hid (w2.grownBy wr (some (w.heap.size + 1)))) (fun i _ => ds.length - (intOf i).toNat)
 case atStart => exact ⟨0, Nat.zero_le _, rfl, hI (by rw [List.take_zero, runC]), HMN, HGR⟩
 case round =>
  clear HMN HGR
  obtain ⟨q, hq, rfl, n1, n2, zr⟩ := hrel
  by_cases hl : q < ds.length
  ·have hi2 : (q : Int) < (nd : Int) := by have := HND.out; omega
   obtain ⟨b, off, cs, rfl, hb, hS, ⟨x, hx, rfl⟩, hrow⟩ := HD.out.2.at q (by have := HND.out; omega)
   have HQL := hI hl
   have HXQ := hI hx
   have hrow2 := rangeAt_keep hrow ((HXW.out _ zr.out).2.1.block b hb)
   have e0 := hrow2 0 _ rfl
   have e1 := hrow2 1 _ rfl
   simp only [Nat.add_zero] at e0
   obtain ⟨vx, hv⟩ : ∃ v, v = declC ((ds.take q).map Decl'.name) x := ⟨_, rfl⟩
   have HV := hI hv
   obtain ⟨xn, xk⟩ := x
   clear hx hb hS hrow hrow2 hl hq hv
   dsimp only at e0 e1
   go_wp2_with fail
   obtain ⟨W3, hW3⟩ : ∃ W3 : World, W3 = (wr.alloc (.cells #[.string (bs xn), .string (bs xk)] 83)).alloc (.cells #[.string (bs xk)] 9) := ⟨_, rfl⟩
   have HGA := hI (show w2.grownBy W3 (some (w.heap.size + 1)) from by rw [hW3]; exact (zr.out.trans (grown_alloc _ _ _)).trans (grown_alloc _ _ _))
   have HMA := hI (show NMap W3 (w.heap.size + 1) ((ds.take q).map Decl'.name) from by
    rw [hW3]
    exact n2.out.keep ((heap_alloc_old _ _ (by have := (HXW.out _ zr.out).2.2; simp; omega)).trans (heap_alloc_old _ _ (by have := (HXW.out _ zr.out).2.2; omega))))
   have HKC := hI (show W3.cell? ⟨wr.heap.size + 1, 0, none⟩ = some (.string (bs xk)) /\ wr.heap.size + 1 < W3.heap.size from by
    rw [hW3]
    have h := heap_alloc2_new wr (.cells #[.string (bs xn), .string (bs xk)] 83) (.cells #[.string (bs xk)] 9)
    exact ⟨by rw [cell_of_row _ _ _ _ _ _ h]; rfl, lt_of_block h⟩)
   rw [<- hW3]
   clear hW3
   have HC2 := fresh_one (w.heap.size + 1) ((ds.take q).map Decl'.name) xn xk (wr.heap.size + 1) 0 1 W3 (HWS.out.below (HXW.out _ HGA.out).2.1) HMA.out HKC.out.2 HKC.out.1
   rw [show freshC ((ds.take q).map Decl'.name) xn (!nameOk xk) = vx from HV.out.symm] at HC2
   refine HC2.mono ?_
   rintro e w4 ⟨rfl, hm4, hg4⟩
   have HM4 := hI hm4
   have HG4 := hI (HGA.out.trans hg4)
   clear hm4 hg4 HC2 e0 e1 zr n2 HGA HMA HKC
   by_cases hv0 : vx = 0
   ·subst hv0
    have HM5 := hI (show NMap w4 (w.heap.size + 1) ((ds.take (q + 1)).map Decl'.name) by
     have e : (ds.take (q + 1)).map Decl'.name = (ds.take q).map Decl'.name ++ [xn] := by rw [List.take_add_one, HXQ.out]; simp
     rw [e]; exact HM4.out)
    clear HM4
    go_wp2
    go_roundw
    case rel => exact ⟨q + 1, HQL.out, by go_num, hI (runC_take_ok HXQ.out n1.out (by rw [List.nil_append]; exact HV.out.symm)), HM5, HG4⟩
    case measure => exact meas_up _ _ HQL.out
   have hv1 : (vx != 0) = true := by simp [hv0]
   have HR := hI (show E = vx by
    have h := runC_take_bad HXQ.out n1.out (by rw [List.nil_append, <- HV.out]; exact hv0)
    rw [List.nil_append, <- HV.out] at h
    rw [HE2.out, h, if_pos hv0])
   go_wp2
   go_ret
   exact ⟨congrArg (fun v => Ending.returned (.int .i64 v)) HR.out.symm, (HXW.out _ HG4.out).2.1⟩
  have hi2 : ¬ (q : Int) < (nd : Int) := by have := HND.out; omega
  have HE3 := hI (show E = runC operC Oper'.name [] os by
   have h : runC declC Decl'.name [] ds = 0 := by rw [<- n1.out, List.take_of_length_le (by omega)]
   rw [HE2.out, h, if_neg (by simp)])
  obtain ⟨wa, hwa⟩ : ∃ wa, wa = wr := ⟨_, rfl⟩
  subst hwa
  have HBX := hI (HXW.out _ zr.out)
  clear hl hq n1 n2 HE2 HXW zr HND
  obtain ⟨d0, d1⟩ := cells2 ((heap_alloc_old wa (.map #[] 0) (lt_of_block HBX.out.1)).trans HBX.out.1)
  go_wp2_with fail
  obtain ⟨w3, hw3⟩ : ∃ w3 : World, w3 = wa.alloc (.map #[] 0) := ⟨_, rfl⟩
  have HYW := hI (show ∀ W, w3.grownBy W (some wa.heap.size) -> Below w.heap.size w W /\ wa.heap.size + 1 <= W.heap.size from fun W h => by
   subst hw3
   have hz : (wa.alloc (.map #[] 0)).heap.size = wa.heap.size + 1 := by simp
   have h1 := h.size
   exact ⟨(HBX.out.2.1.alloc HBX.out.2.1.size _).trans (grownBy.below h HBX.out.2.1.size (by rw [hz]; omega)), by omega⟩)
  have HMN := hI (show NMap w3 wa.heap.size [] from by rw [hw3]; exact NMap.made wa)
  have HGR := hI (show w3.grownBy w3 (some wa.heap.size) from Below.grown_ (Below.refl _ _) _)
  rw [<- hw3]
  clear hw3 d0 d1 hmm
  go_loopw [43] (fun i WQ => ∃ q : Nat, q <= os.length /\ i = .int .i64 q /\ Hid (runC operC Oper'.name [] (os.take q) = 0) /\ Hid (NMap WQ wa.heap.size ((os.take q).map Oper'.name)) /\ Hid (w3.grownBy WQ (some wa.heap.size))) (fun i _ => os.length - (intOf i).toNat)
  case atStart => exact ⟨0, Nat.zero_le _, rfl, hI (by rw [List.take_zero, runC]), HMN, HGR⟩
  case round =>
   clear HMN HGR
   obtain ⟨q, hq, rfl, n1, n2, zr⟩ := hrel
   by_cases hl : q < os.length
   ·have hi2 : (q : Int) < (no : Int) := by have := HNO.out; omega
    obtain ⟨b, off, cs, rfl, hb, hS, ⟨x, hx, hov⟩, hrow⟩ := HO.out.2.at q (by have := HNO.out; omega)
    have HQL := hI hl
    have HXQ := hI hx
    have HOV := hI hov
    have HFX := hI (HFW.out.2.2 x (List.mem_of_getElem? hx))
    have hrow2 := rangeAt_keep hrow ((HYW.out _ zr.out).1.block b hb)
    obtain ⟨vx, hv⟩ : ∃ v, v = operC ((os.take q).map Oper'.name) x := ⟨_, rfl⟩
    have HV := hI hv
    obtain ⟨xn, xp, xb⟩ := x
    obtain ⟨P2, np2, cp2, B2, nb2, cb2, rfl, -, -⟩ := hov
    have e0 := hrow2 0 _ rfl
    have e1 := hrow2 1 _ rfl
    have e2 := hrow2 2 _ rfl
    simp only [Nat.add_zero] at e0
    dsimp only at e0 HOV
    clear hx hb hS hrow hrow2 hl hq hv
    go_wp2_with fail
    obtain ⟨W3, hW3⟩ : ∃ W3 : World, W3 = wr.alloc (.cells #[.string (bs xn), .slice P2 np2 cp2, .slice B2 nb2 cb2] 76) := ⟨_, rfl⟩
    have HGA := hI (show w3.grownBy W3 (some wa.heap.size) from by rw [hW3]; exact zr.out.trans (grown_alloc _ _ _))
    have HMA := hI (show NMap W3 wa.heap.size ((os.take q).map Oper'.name) from by
     rw [hW3]
     exact n2.out.keep (heap_alloc_old _ _ (by have := (HYW.out _ zr.out).2; omega)))
    rw [<- hW3]
    clear hW3
    have HC2 := operWrong_any w S wa.heap.size ((os.take q).map Oper'.name) ⟨xn, xp, xb⟩ _ W3 HWS.out (HYW.out _ HGA.out).1 HBX.out.2.1.size HMA.out HOV.out HFX.out
    rw [<- HV.out] at HC2
    refine HC2.mono ?_
    rintro e w4 ⟨rfl, hm4, -, hg4⟩
    have HM4 := hI hm4
    have HG4 := hI (HGA.out.trans hg4)
    clear hm4 hg4 HC2 e0 e1 e2 zr n2 HGA HMA
    by_cases hv0 : vx = 0
    ·subst hv0
     have HM5 := hI (show NMap w4 wa.heap.size ((os.take (q + 1)).map Oper'.name) by
      have e : (os.take (q + 1)).map Oper'.name = (os.take q).map Oper'.name ++ [xn] := by rw [List.take_add_one, HXQ.out]; simp
      have h0 : freshC ((os.take q).map Oper'.name) xn false = 0 := by
       have h := HV.out.symm
       rw [operC] at h
       split at h
       ·exact absurd h (by assumption)
       rename_i h5; exact Classical.not_not.1 h5
      have h6 := HM4.out
      dsimp only at h6
      rw [h0] at h6
      rw [e]; exact h6)
     clear HM4
     go_wp2
     go_roundw
     case rel => exact ⟨q + 1, HQL.out, by go_num, hI (runC_take_ok HXQ.out n1.out (by rw [List.nil_append]; exact HV.out.symm)), HM5, HG4⟩
     case measure => exact meas_up _ _ HQL.out
    have hv1 : (vx != 0) = true := by simp [hv0]
    have HR := hI (show E = vx by
     have h := runC_take_bad HXQ.out n1.out (by rw [List.nil_append, <- HV.out]; exact hv0)
     rw [List.nil_append, <- HV.out] at h
     rw [HE3.out, h])
    go_wp2
    go_ret
    exact ⟨congrArg (fun v => Ending.returned (.int .i64 v)) HR.out.symm, (HYW.out _ HG4.out).1⟩
   have hi2 : ¬ (q : Int) < (no : Int) := by have := HNO.out; omega
   have HR := hI (show E = 0 by rw [HE3.out, <- n1.out, List.take_of_length_le (by omega)])
   clear hl hq n1 n2
   go_wp2
   go_ret
   exact ⟨congrArg (fun v => Ending.returned (.int .i64 v)) HR.out.symm, (HYW.out _ zr.out).1⟩
end Go.Proofs.YtkakbidllpjopaaGreatDoor
