/- The walks of parser.Parse and parser.Expr, each in one contract. Conditions: the laid tables and error variables (WW). The reference parser's tokens in memory; the walks of its is, number, level, counted, at. No condition beyond the state. The walks of the reference parser's at, counted, ended, call. No condition beyond the state. The walk of the reference parser's ended. No condition beyond the state. The walk of the reference parser's call. No condition beyond the state. -/
import Derived.Test.YtkakbidllpjopaaGreatDoorU07
set_option linter.unusedVariables false
set_option linter.unusedSimpArgs false
set_option maxRecDepth 100000
set_option maxHeartbeats 12800000
namespace Go.Proofs.YtkakbidllpjopaaGreatDoor
open Go.RowKit
/-- A program with one operation that returns e. -/
def aloneP (e : Ex) : Prog' := ⟨[], [⟨[120], [], [.mk 5 [] 0 e [] []]⟩]⟩
def emP : Prog' := ⟨[], []⟩
/-- What Parse answers. -/
def prP (s : Str) : Prog' × Int × Int :=
 if (Lx.scanL s).2.2 ≠ 0 then (emP, ((Lx.scanL s).2.1 : Int), (Lx.scanL s).2.2)
 else match pP ((Lx.scanL s).1.map tkq) with
  | .bad r => (emP, offAt (Lx.scanL s).1 r, 5)
  | .ok p _ => if chkP p = 0 then (p, 0, 0) else (emP, 0, chkP p)
/-- What Expr answers. -/
def prE (s : Str) : Ex × Int × Int :=
 if (Lx.scanL s).2.2 ≠ 0 then (emE, ((Lx.scanL s).2.1 : Int), (Lx.scanL s).2.2)
 else match pX ((Lx.scanL s).1.map tkq) with
  | .bad r => (emE, offAt (Lx.scanL s).1 r, 5)
  | .ok e _ => if chkP (aloneP e) = 0 then (e, 0, 0) else (emE, 0, chkP (aloneP e))
theorem prP_err {s : Str} (h : (Lx.scanL s).2.2 ≠ 0) : prP s = (emP, ((Lx.scanL s).2.1 : Int), (Lx.scanL s).2.2) := if_pos h
theorem prP_bad {s : Str} {r : List Tk} (h : (Lx.scanL s).2.2 = 0) (hp : pP ((Lx.scanL s).1.map tkq) = .bad r) : prP s = (emP, offAt (Lx.scanL s).1 r, 5) := by
 unfold prP
 rw [if_neg (by rw [h]; simp), hp]
theorem prP_ok {s : Str} {p : Prog'} {r : List Tk} (h : (Lx.scanL s).2.2 = 0) (hp : pP ((Lx.scanL s).1.map tkq) = .ok p r) : prP s = if chkP p = 0 then (p, 0, 0) else (emP, 0, chkP p) := by
 unfold prP
 rw [if_neg (by rw [h]; simp), hp]
theorem prE_err {s : Str} (h : (Lx.scanL s).2.2 ≠ 0) : prE s = (emE, ((Lx.scanL s).2.1 : Int), (Lx.scanL s).2.2) := if_pos h
theorem prE_bad {s : Str} {r : List Tk} (h : (Lx.scanL s).2.2 = 0) (hp : pX ((Lx.scanL s).1.map tkq) = .bad r) : prE s = (emE, offAt (Lx.scanL s).1 r, 5) := by
 unfold prE
 rw [if_neg (by rw [h]; simp), hp]
theorem prE_ok {s : Str} {e : Ex} {r : List Tk} (h : (Lx.scanL s).2.2 = 0) (hp : pX ((Lx.scanL s).1.map tkq) = .ok e r) : prE s = if chkP (aloneP e) = 0 then (e, 0, 0) else (emE, 0, chkP (aloneP e)) := by
 unfold prE
 rw [if_neg (by rw [h]; simp), hp]
theorem Lim.few {n : Nat} {p : Prog'} (h : p.Lim n) (hn : n <= 1000000) : p.Few := ⟨by have := h.1; omega, by have := h.2.1; omega, fun o ho => by have := (h.2.2 o ho).2; omega⟩
theorem alone_few {e : Ex} (h : e.size <= 900000) : (aloneP e).Few := by
 refine ⟨Nat.zero_le _, show 1 <= 1000000 from by omega, fun o ho => ?_⟩
 rw [List.mem_singleton.1 ho]
 simp only [St.sizes, St.size]
 omega
theorem results_row3 {P : Program} {fn : Func} {p u v : Tmp} {ty : TypeId} (h : fn.results = #[.cell p ty, .tmp u, .tmp v]) (tmps : Array Value) (w : World) (g : Nat) (t : TypeId) (cs : Array Value) (fr : Nat × Nat) (d : TypeDesc)
  (hp : tmps.getD p undef = .pointer (some ⟨g, 0, none⟩)) (hg : w.heap[g]? = some (.cells cs t fr))
  (hu : P.underlying ty = some d) (hd : (match d with | .struct _ | .array _ _ => true | _ => false) = true) (hi : (P.info? ty).map (·.size) = some cs.size) (x y : Value) (hx : tmps.getD u undef = x) (hy : tmps.getD v undef = y) :
  (results fn tmps).run P w = .ok (.tuple #[.agg cs, x, y]) w := by
 have hp' : tmps[p]?.getD undef = .pointer (some ⟨g, 0, none⟩) := by simpa using hp
 have hx' : tmps[u]?.getD undef = x := by simpa using hx
 have hy' : tmps[v]?.getD undef = y := by simpa using hy
 simp [results, h, hp', hx', hy', asAddr, run_loadVar_row w g t ty cs fr d hg hu hd hi]
section
variable {ops : Array Oper} {rest : List Oper} {a : Act} {w : World} {Q : Exit -> Act -> World -> Prop} {o : Oper} {u old : Array Value} {t : TypeId}
theorem hb_put (hg : o.guard = none) (x y : Operand) (ho : o.op = .store t x y) (hd : o.dst = none) (r : Nat) (hx : a.eval x = .pointer (some ⟨r, 0, none⟩)) (hy : a.eval y = .agg u) (hs : (Tryz.prog.info? t).map (·.size) = some u.size) (h1 : u.all (·.oneCell') = true) (hb : HB t w r old) (h6 : old.size = u.size)
  (h : ∀ w', HB t w' r u -> w.grownBy w' (some r) -> w'.heap.size = w.heap.size -> wpList Tryz.prog ops Q rest a w') : wpList Tryz.prog ops Q (o :: rest) a w := by
 refine wpList_store_rowTo hg _ x y ho hd r u hx hy _ _ hb hs h6 h1 ?_
 exact h _ (setRow_heap _ _ _ _ _ _ hb) ⟨rfl, rfl, rfl, Nat.le_of_eq (by simp [World.setRow]), fun k _ hk => setRow_other _ _ _ _ (fun e => hk (by rw [e]))⟩ (by simp [World.setRow])
end
theorem below_gr {B g : Nat} {w w' : World} (h : w.grownBy w' (some g)) (hb : B <= w.heap.size) (hg : B <= g) : Below B w w' := ⟨h.os, h.tape, h.output, h.size, fun k hk => h.block k (by omega) (fun e => by have := Option.some.inj e; omega)⟩
theorem PV.gr {w w' : World} {S S' : Nat -> Prop} {p : Prog'} {v : Value} {r : Nat} (h : PV w S p v) (hg : w.grownBy w' (some r)) (hS : ∀ b, b < w.heap.size -> S b -> b ≠ r /\ S' b) : PV w' S' p v :=
 h.keep hg.size (fun b hb hs => hg.block b hb fun e => (hS b hb hs).1 (Option.some.inj e)) (fun b hb hs => (hS b hb hs).2)
theorem PV.more {w : World} {S S' : Nat -> Prop} {p : Prog'} {v : Value} (h : PV w S p v) (hS : ∀ b, b < w.heap.size -> S b -> S' b) : PV w S' p v := h.keep (Nat.le_refl _) (fun _ _ _ => rfl) hS
theorem pv_empty (w : World) (S : Nat -> Prop) : PV w S emP (.agg #[.slice none 0 0, .slice none 0 0]) := ⟨none, 0, 0, none, 0, 0, rfl, ⟨rfl, ⟨Nat.le_refl _, fun _ => rfl⟩, fun h => absurd h (by omega)⟩, ⟨rfl, ⟨Nat.le_refl _, fun _ => rfl⟩, fun h => absurd h (by omega)⟩⟩
theorem OL.one {w : World} {S : Nat -> Prop} {e : Oper'} {cs : List Value} {b : Nat} {t : TypeId} {fr : Nat × Nat} (h : OV w S e cs) (hb : w.heap[b]? = some (.cells cs.toArray t fr)) (hS : S b) : OL w S (some ⟨b, 0, none⟩) 1 1 [e] := by
 refine ⟨rfl, ⟨Nat.le_refl _, fun h => by cases h⟩, fun _ => ⟨b, 0, rfl, lt_of_block hb, hS, fun i hi => ?_⟩⟩
 obtain rfl : i = 0 := by omega
 refine ⟨cs, ⟨e, rfl, h⟩, fun j v hv => ?_⟩
 rw [Nat.zero_mul, Nat.zero_add]
 try rw [Nat.zero_add]
 rw [cell_of_row _ _ _ _ _ _ hb, <- hv, <- Array.getElem?_toList]
theorem parse_any (s : Str) (w : World) (hw : WW w) (hmax : s.length <= 9223372036854775807) :
  Calls Tryz.prog 14 #[.string (bs s)] w fun e w' => ∃ v, e = .returned (.tuple #[v, .int .i64 (prP s).2.1, .int .i64 (prP s).2.2]) /\ PV w' (fun b => w.heap.size <= b) (prP s).1 v /\ Below w.heap.size w w' := by
 obtain ⟨T, hT⟩ : ∃ T, T = prP s := ⟨_, rfl⟩
 rw [<- hT]
 have HT := hI hT
 obtain ⟨w0, hw0⟩ : ∃ w0, w0 = w.alloc (.cells #[.slice none 0 0, .slice none 0 0] 36) := ⟨_, rfl⟩
 have hb0 : Below w.heap.size w w0 := by rw [hw0]; exact (Below.refl _ _).alloc (Nat.le_refl _) _
 have X0 := hI (show HB 36 w0 w.heap.size #[.slice none 0 0, .slice none 0 0] from by rw [hw0]; exact heap_alloc_new w _)
 have W0 := hI (hw.below hb0)
 have K := hI (begun_any s w0 W0.out hmax)
 have HOK := hI (@scan_ok s)
 have BW := hI hb0
 clear hw hmax hT hb0
 go_enter Tryz.func14, Tryz.ntmps14
 go_upto_region 1 with fail
 rw [<- hw0]
 clear hw0
 go_wp2_with fail
 refine K.out.mono ?_
 rintro e w1 ⟨hb, hcase⟩
 have B0 := hI hb
 clear hb K
 rcases hcase with ⟨he, rfl⟩ | ⟨he, A, n, c, g, rfl, hg, hP⟩
 ·have ht := HT.out
  rw [prP_err he] at ht
  generalize ((Lx.scanL s).2.1 : Int) = k0 at *
  generalize (Lx.scanL s).2.2 = er at *
  subst ht
  have e1 : (er != 0) = true := by simpa using he
  have e2 : decide (er = 0) = false := by simpa using he
  clear HOK W0 HT
  have X := hI (HB.below X0.out B0.out)
  go_wp2_with (with_reducible refine at_store_ (t := 36) ?_; refine Hid.out ?_)
  refine hI ?_
  refine hb_put rfl _ _ rfl rfl w.heap.size rfl rfl pr_size (by simp [Value.oneCell']) X.out rfl ?_
  intro wz hxz hgz hsz
  clear hsz
  have XZ := hI hxz
  have BZ := hI ((BW.out.trans (B0.out.mono BW.out.size)).trans (below_gr hgz (B := w.heap.size) (Nat.le_trans BW.out.size B0.out.size) (Nat.le_refl _)))
  clear hxz hgz X
  go_wp2_with fail
  refine bodyPost_ret (results_row3 rfl _ _ w.heap.size _ _ _ _ rfl XZ.out Tryz.underlying36 rfl pr_size _ _ rfl rfl) rfl ?_
  exact ⟨_, rfl, pv_empty _ _, BZ.out⟩
 obtain ⟨hlok, -, -, hlen, hsl, -⟩ := HOK.out he
 have HE := hI he
 have HLEN := hI (show ((Lx.scanL s).1.map tkq).length <= 65537 from by rw [List.length_map]; omega)
 have HG := hI hg
 have HGL := hI hP.lt
 have KP := hI (program_any (Lx.scanL s).1 A n c g w1 ((Lx.scanL s).1.map tkq) hP)
 clear hlok hlen hsl he hg hP HOK
 go_wp2_with fail
 refine KP.out.mono ?_
 rintro e w2 ⟨p, v, rfl, hv, hg, hP⟩
 obtain ⟨b, r, hps, -, hb, ho⟩ := Res.is_ex (x := p) (P := pP ((Lx.scanL s).1.map tkq)) (Q := fun b r => PSx (Lx.scanL s).1 A n c g w2 b r) hP
 obtain ⟨D, nd, cd, O, no, co, rfl, -, -⟩ := id hv
 obtain ⟨w3, hw3⟩ : ∃ W, W = w2.alloc (.cells #[.slice D nd cd, .slice O no co] 36) := ⟨_, rfl⟩
 have hb3 : Below w2.heap.size w2 w3 := by rw [hw3]; exact (Below.refl _ _).alloc (Nat.le_refl _) _
 have YB := hI (show HB 36 w3 w2.heap.size #[.slice D nd cd, .slice O no co] from by rw [hw3]; exact heap_alloc_new w2 _)
 obtain h0 := B0.out
 clear B0
 have B0 := hI (h0.trans ((below_gr hg (B := w0.heap.size) h0.size HG.out).trans (hb3.mono (Nat.le_trans h0.size hg.size))))
 have HV := hI ((hv.more (S' := fun k => w0.heap.size <= k) fun k _ (hk : w1.heap.size <= k) => Nat.le_trans h0.size hk).below hb3)
 have P := hI (hps.next hb3)
 have HB_ := hI hb
 have HO_ := hI ho
 clear hv hg hP hps hb ho hb3 h0 KP HGL
 go_upto_region 5 with fail
 rw [<- hw3]
 clear hw3
 generalize w2.heap.size = yb at *
 have KN := hI (ended_any _ _ _ _ _ w3 b r P.out)
 clear P
 obtain ⟨za, hza⟩ : ∃ z, z = enA (Lx.scanL s).1 b r := ⟨_, rfl⟩
 obtain ⟨ze, hze⟩ : ∃ z, z = enE b r := ⟨_, rfl⟩
 rw [<- hza, <- hze] at KN
 have HZA := hI hza
 have HZE := hI hze
 clear hza hze
 go_wp2_with fail
 refine KN.out.mono ?_
 rintro e w4 ⟨rfl, hb⟩
 have B4 := hI hb
 obtain h0 := B0.out
 clear B0
 have B0 := hI (h0.trans (hb.mono h0.size))
 clear hb h0 KN
 have YB4 := hI (YB.out.below B4.out)
 have HV4 := hI (HV.out.below B4.out)
 clear YB HV B4
 cases b with
 | true =>
  have hb := HB_.out rfl
  have ht := HT.out
  rw [prP_bad HE.out hb] at ht
  have hz1 : enA (Lx.scanL s).1 true r = offAt (Lx.scanL s).1 r := if_pos (.inl rfl)
  have hz2 : ze = 5 := HZE.out.trans (if_pos (.inl rfl))
  rw [<- hz1, <- HZA.out] at ht
  subst hz2
  subst ht
  clear hb hz1 HB_ HO_ HT HZA HZE W0 YB4 HV4 HE HLEN HG
  have X := hI (HB.below X0.out B0.out)
  go_wp2_with (with_reducible refine at_store_ (t := 36) ?_; refine Hid.out ?_)
  refine hI ?_
  refine hb_put rfl _ _ rfl rfl w.heap.size rfl rfl pr_size (by simp [Value.oneCell']) X.out rfl ?_
  intro wz hxz hgz hsz
  clear hsz
  have XZ := hI hxz
  have BZ := hI ((BW.out.trans (B0.out.mono BW.out.size)).trans (below_gr hgz (B := w.heap.size) (Nat.le_trans BW.out.size B0.out.size) (Nat.le_refl _)))
  clear hxz hgz X
  go_wp2_with fail
  refine bodyPost_ret (results_row3 rfl _ _ w.heap.size _ _ _ _ rfl XZ.out Tryz.underlying36 rfl pr_size _ _ rfl rfl) rfl ?_
  exact ⟨_, rfl, pv_empty _ _, BZ.out⟩
 | false =>
  have hok := HO_.out rfl
  obtain ⟨hlim, hk0⟩ := size_pP hok
  have ht := HT.out
  rw [prP_ok HE.out hok] at ht
  have hz2 : ze = 0 := HZE.out.trans (if_neg (by rintro (e | e); cases e; exact e hk0))
  subst hz2
  have KC := hI (check_any p _ _ w4 (W0.out.below B0.out).sx HV4.out (Lim.few hlim (by have := HLEN.out; omega)))
  have HT2 := hI ht
  clear hok hlim hk0 ht HB_ HO_ HT HZA HZE HE HLEN HG
  generalize chkP p = ck at *
  go_wp2_with (with_reducible refine at_load_ (t := 36) ?_; refine Hid.out ?_)
  refine hI ?_
  refine wpList_load_row rfl _ _ rfl yb rfl _ _ _ _ YB4.out Tryz.underlying36 rfl pr_size ?_
  go_wp2_with fail
  refine KC.out.mono ?_
  rintro e w5 ⟨rfl, hb⟩
  obtain h0 := B0.out
  clear B0
  have B0 := hI (h0.trans (hb.mono h0.size))
  have YB5 := hI (YB4.out.below hb)
  have HV5 := hI (HV4.out.below hb)
  clear hb h0 KC YB4 HV4
  by_cases hc : ck = 0
  ·have ht := HT2.out
   rw [if_pos hc] at ht
   subst hc
   subst ht
   clear HT2
   go_wp2_with (with_reducible refine at_load_ (t := 36) ?_; refine Hid.out ?_)
   refine hI ?_
   refine wpList_load_row rfl _ _ rfl yb rfl _ _ _ _ YB5.out Tryz.underlying36 rfl pr_size ?_
   have X := hI (HB.below X0.out B0.out)
   refine hb_put rfl _ _ rfl rfl w.heap.size rfl rfl pr_size (by simp [Value.oneCell']) X.out rfl ?_
   intro wz hxz hgz hsz
   clear hsz
   have XZ := hI hxz
   have BZ := hI ((BW.out.trans (B0.out.mono BW.out.size)).trans (below_gr hgz (B := w.heap.size) (Nat.le_trans BW.out.size B0.out.size) (Nat.le_refl _)))
   have HVZ := hI (HV5.out.gr (S' := fun k => w.heap.size <= k) hgz (fun k _ (hk : w0.heap.size <= k) => by have := HB.lt X0.out; exact ⟨by omega, by omega⟩))
   clear hxz hgz X YB5 HV5
   go_wp2_with fail
   refine bodyPost_ret (results_row3 rfl _ _ w.heap.size _ _ _ _ rfl XZ.out Tryz.underlying36 rfl pr_size _ _ rfl rfl) rfl ?_
   exact ⟨_, rfl, HVZ.out, BZ.out⟩
  have ht := HT2.out
  rw [if_neg hc] at ht
  subst ht
  have e1 : (ck != 0) = true := by simpa using hc
  have e2 : decide (ck = 0) = false := by simpa using hc
  clear HT2 YB5 HV5 W0
  have X := hI (HB.below X0.out B0.out)
  go_wp2_with (with_reducible refine at_store_ (t := 36) ?_; refine Hid.out ?_)
  refine hI ?_
  refine hb_put rfl _ _ rfl rfl w.heap.size rfl rfl pr_size (by simp [Value.oneCell']) X.out rfl ?_
  intro wz hxz hgz hsz
  clear hsz
  have XZ := hI hxz
  have BZ := hI ((BW.out.trans (B0.out.mono BW.out.size)).trans (below_gr hgz (B := w.heap.size) (Nat.le_trans BW.out.size B0.out.size) (Nat.le_refl _)))
  clear hxz hgz X
  go_wp2_with fail
  refine bodyPost_ret (results_row3 rfl _ _ w.heap.size _ _ _ _ rfl XZ.out Tryz.underlying36 rfl pr_size _ _ rfl rfl) rfl ?_
  exact ⟨_, rfl, pv_empty _ _, BZ.out⟩
theorem pX_bad {R r : List Tk} (h : pE R = .bad r) : pX R = .bad r := by unfold pX; rw [h]
theorem pX_end {R r : List Tk} {e : Ex} (h : pE R = .ok e r) (hk : kindT r ≠ 0) : pX R = .bad r := by unfold pX; rw [h]; exact if_neg hk
theorem pX_ok {R r : List Tk} {e : Ex} (h : pE R = .ok e r) (hk : kindT r = 0) : pX R = .ok e r := by unfold pX; rw [h]; exact if_pos hk
theorem xve (w : World) (S : Nat -> Prop) : XV w S emE [.int .i64 0, .int .i64 0, .string { data := #[] }, .string { data := #[] }, .slice none 0 0, .slice none 0 0] := XV.shut (by unfold InR; omega) (XL.nil_ _ _) (XL.nil_ _ _)
/-- A program with one operation that returns an expression, in memory. -/
theorem alone_pv {w : World} {S : Nat -> Prop} {e : Ex} {cs : List Value} {sb ob : Nat} {fr fr' : Nat × Nat} {t t' : TypeId} (hv : XV w S e cs) (hs : w.heap[sb]? = some (.cells (stC 5 [] 0 cs none 0 0 none 0 0).toArray t fr)) (ho : w.heap[ob]? = some (.cells #[.string (bs [120]), .slice none 0 0, .slice (some ⟨sb, 0, none⟩) 1 1] t' fr')) (h1 : S sb) (h2 : S ob) :
  PV w S (aloneP e) (.agg #[.slice none 0 0, .slice (some ⟨ob, 0, none⟩) 1 1]) := by
 have hst : SV w S (.mk 5 [] 0 e [] []) (stC 5 [] 0 cs none 0 0 none 0 0) := SV.shut (by unfold InR; omega) hv (SL.nil_ _ _) (SL.nil_ _ _)
 have hov : OV w S ⟨[120], [], [.mk 5 [] 0 e [] []]⟩ [.string (bs [120]), .slice none 0 0, .slice (some ⟨sb, 0, none⟩) 1 1] :=
  ⟨none, 0, 0, _, 1, 1, rfl, ⟨rfl, ⟨Nat.le_refl _, fun _ => rfl⟩, fun h => absurd h (by omega)⟩, SL.one hst hs h1⟩
 exact ⟨none, 0, 0, _, 1, 1, rfl, ⟨rfl, ⟨Nat.le_refl _, fun _ => rfl⟩, fun h => absurd h (by omega)⟩, OL.one hov ho h2⟩
theorem pexpr_any (s : Str) (w : World) (hw : WW w) (hmax : s.length <= 9223372036854775807) :
  Calls Tryz.prog 10 #[.string (bs s)] w fun e w' => ∃ cs : List Value, e = .returned (.tuple #[.agg cs.toArray, .int .i64 (prE s).2.1, .int .i64 (prE s).2.2]) /\ XV w' (fun b => w.heap.size <= b) (prE s).1 cs /\ Below w.heap.size w w' := by
 obtain ⟨T, hT⟩ : ∃ T, T = prE s := ⟨_, rfl⟩
 rw [<- hT]
 have HT := hI hT
 obtain ⟨w0, hw0⟩ : ∃ w0, w0 = w.alloc (.cells #[.int .i64 0, .int .i64 0, .string { data := #[] }, .string { data := #[] }, .slice none 0 0, .slice none 0 0] 27) := ⟨_, rfl⟩
 have hb0 : Below w.heap.size w w0 := by rw [hw0]; exact (Below.refl _ _).alloc (Nat.le_refl _) _
 have X0 := hI (show HB 27 w0 w.heap.size #[.int .i64 0, .int .i64 0, .string { data := #[] }, .string { data := #[] }, .slice none 0 0, .slice none 0 0] from by rw [hw0]; exact heap_alloc_new w _)
 have W0 := hI (hw.below hb0)
 have K := hI (begun_any s w0 W0.out hmax)
 have HOK := hI (@scan_ok s)
 have BW := hI hb0
 clear hw hmax hT hb0
 go_enter Tryz.func10, Tryz.ntmps10
 go_upto_region 1 with fail
 rw [<- hw0]
 clear hw0
 go_wp2_with fail
 refine K.out.mono ?_
 rintro e w1 ⟨hb, hcase⟩
 have B0 := hI hb
 clear hb K
 rcases hcase with ⟨he, rfl⟩ | ⟨he, A, n, c, g, rfl, hg, hP⟩
 ·have ht := HT.out
  rw [prE_err he] at ht
  generalize ((Lx.scanL s).2.1 : Int) = k0 at *
  generalize (Lx.scanL s).2.2 = er at *
  subst ht
  have e1 : (er != 0) = true := by simpa using he
  have e2 : decide (er = 0) = false := by simpa using he
  clear HOK W0 HT
  have X := hI (HB.below X0.out B0.out)
  go_wp2_with (with_reducible refine at_store_ (t := 27) ?_; refine Hid.out ?_)
  refine hI ?_
  refine hb_put rfl _ _ rfl rfl w.heap.size rfl rfl ex_size (by simp [Value.oneCell']) X.out rfl ?_
  intro wz hxz hgz hsz
  clear hsz
  have XZ := hI hxz
  have BZ := hI ((BW.out.trans (B0.out.mono BW.out.size)).trans (below_gr hgz (B := w.heap.size) (Nat.le_trans BW.out.size B0.out.size) (Nat.le_refl _)))
  clear hxz hgz X
  go_wp2_with fail
  refine bodyPost_ret (results_row3 rfl _ _ w.heap.size _ _ _ _ rfl XZ.out Tryz.underlying27 rfl ex_size _ _ rfl rfl) rfl ?_
  exact ⟨_, rfl, xve _ _, BZ.out⟩
 obtain ⟨hlok, -, -, hlen, hsl, -⟩ := HOK.out he
 have HE := hI he
 have HLEN := hI (show ((Lx.scanL s).1.map tkq).length <= 65537 from by rw [List.length_map]; omega)
 have HG := hI hg
 have HGL := hI hP.lt
 have KP := hI (show Calls _ _ _ _ (XP (Lx.scanL s).1 A n c g w1 (pE ((Lx.scanL s).1.map tkq))) from expr_any w1 false ((Lx.scanL s).1.map tkq) hP)
 clear hlok hlen hsl he hg hP HOK
 go_wp2_with fail
 refine KP.out.mono ?_
 rintro e w2 ⟨x, cs, rfl, hv, hg, hP⟩
 obtain ⟨b, r, hps, -, hb, ho⟩ := Res.is_ex (x := x) (P := pE ((Lx.scanL s).1.map tkq)) (Q := fun b r => PSx (Lx.scanL s).1 A n c g w2 b r) hP
 obtain ⟨xx, hxx⟩ : ∃ z, z = x := ⟨_, rfl⟩
 rw [<- hxx] at ho
 have HXX := hI hxx
 obtain ⟨k1, n1, s1, m1, a1, o1⟩ := x
 obtain ⟨A1, na1, ca1, O1, no1, co1, rfl, -, -⟩ := hv.open_
 rw [show (exC k1 n1 s1 m1 A1 na1 ca1 O1 no1 co1).toArray = #[.int .i64 k1, .int .i64 n1, .string (bs s1), .string (bs m1), .slice A1 na1 ca1, .slice O1 no1 co1] from rfl]
 obtain ⟨w3, hw3⟩ : ∃ W, W = w2.alloc (.cells #[.int .i64 k1, .int .i64 n1, .string (bs s1), .string (bs m1), .slice A1 na1 ca1, .slice O1 no1 co1] 27) := ⟨_, rfl⟩
 have hb3 : Below w2.heap.size w2 w3 := by rw [hw3]; exact (Below.refl _ _).alloc (Nat.le_refl _) _
 have YB := hI (show HB 27 w3 w2.heap.size #[.int .i64 k1, .int .i64 n1, .string (bs s1), .string (bs m1), .slice A1 na1 ca1, .slice O1 no1 co1] from by rw [hw3]; exact heap_alloc_new w2 _)
 obtain h0 := B0.out
 clear B0
 have B0 := hI (h0.trans ((below_gr hg (B := w0.heap.size) h0.size HG.out).trans (hb3.mono (Nat.le_trans h0.size hg.size))))
 have HV := hI ((hv.more (S' := fun k => w0.heap.size <= k) fun k _ (hk : w1.heap.size <= k) => Nat.le_trans h0.size hk).below hb3)
 have P := hI (hps.next hb3)
 have HB_ := hI hb
 have HO_ := hI ho
 clear hv hg hP hps hb ho hb3 h0 KP HGL hxx
 go_upto_region 5 with fail
 rw [<- hw3]
 clear hw3
 generalize w2.heap.size = yb at *
 have KN := hI (ended_any _ _ _ _ _ w3 b r P.out)
 clear P
 obtain ⟨za, hza⟩ : ∃ z, z = enA (Lx.scanL s).1 b r := ⟨_, rfl⟩
 obtain ⟨ze, hze⟩ : ∃ z, z = enE b r := ⟨_, rfl⟩
 rw [<- hza, <- hze] at KN
 have HZA := hI hza
 have HZE := hI hze
 clear hza hze
 go_wp2_with fail
 refine KN.out.mono ?_
 rintro e w4 ⟨rfl, hb⟩
 have B4 := hI hb
 obtain h0 := B0.out
 clear B0
 have B0 := hI (h0.trans (hb.mono h0.size))
 clear hb h0 KN
 have YB4 := hI (YB.out.below B4.out)
 have HV4 := hI (HV.out.below B4.out)
 clear YB HV B4
 by_cases hbad : b = true ∨ kindT r ≠ 0
 ·have ht := HT.out
  have hx : pX ((Lx.scanL s).1.map tkq) = .bad r := by
   cases b with
   | true => exact pX_bad (HB_.out rfl)
   | false => exact pX_end (HO_.out rfl) (hbad.resolve_left (by simp))
  rw [prE_bad HE.out hx] at ht
  have hz1 : enA (Lx.scanL s).1 b r = offAt (Lx.scanL s).1 r := if_pos hbad
  have hz2 : ze = 5 := HZE.out.trans (if_pos hbad)
  rw [<- hz1, <- HZA.out] at ht
  subst hz2
  subst ht
  clear hx hz1 HB_ HO_ HT HZA HZE W0 YB4 HV4 HE HLEN HG hbad
  have X := hI (HB.below X0.out B0.out)
  go_wp2_with (with_reducible refine at_store_ (t := 27) ?_; refine Hid.out ?_)
  refine hI ?_
  refine hb_put rfl _ _ rfl rfl w.heap.size rfl rfl ex_size (by simp [Value.oneCell']) X.out rfl ?_
  intro wz hxz hgz hsz
  clear hsz
  have XZ := hI hxz
  have BZ := hI ((BW.out.trans (B0.out.mono BW.out.size)).trans (below_gr hgz (B := w.heap.size) (Nat.le_trans BW.out.size B0.out.size) (Nat.le_refl _)))
  clear hxz hgz X
  go_wp2_with fail
  refine bodyPost_ret (results_row3 rfl _ _ w.heap.size _ _ _ _ rfl XZ.out Tryz.underlying27 rfl ex_size _ _ rfl rfl) rfl ?_
  exact ⟨_, rfl, xve _ _, BZ.out⟩
 obtain rfl : b = false := by cases b with | true => exact absurd (.inl rfl) hbad | false => rfl
 have hk0 : kindT r = 0 := Classical.not_not.1 fun e => hbad (.inr e)
 have hok := HO_.out rfl
 have hsz := size_pE hok
 have ht := HT.out
 rw [prE_ok HE.out (pX_ok hok hk0)] at ht
 have hz2 : ze = 0 := HZE.out.trans (if_neg hbad)
 subst hz2
 have HFEW := hI (alone_few (e := xx) (by have := HLEN.out; omega))
 have HT2 := hI ht
 clear hok hk0 ht HB_ HO_ HT HZA HZE HE HLEN HG hbad hsz
 go_wp2_with (with_reducible refine at_load_ (t := 27) ?_; refine Hid.out ?_)
 refine hI ?_
 refine xb_load rfl _ rfl yb rfl YB4.out rfl ?_
 obtain ⟨wS, hwS⟩ : ∃ W, W = w4.alloc (.cells #[.int .i64 5, .string { data := #[] }, .int .i64 0, .int .i64 k1, .int .i64 n1, .string (bs s1), .string (bs m1), .slice A1 na1 ca1, .slice O1 no1 co1, .slice none 0 0, .slice none 0 0] 74) := ⟨_, rfl⟩
 obtain ⟨wO, hwO⟩ : ∃ W, W = wS.alloc (.cells #[.string { data := #[120] }, .slice none 0 0, .slice (some ⟨w4.heap.size, 0, none⟩) 1 1] 76) := ⟨_, rfl⟩
 obtain ⟨wA, hwA⟩ : ∃ W, W = wO.alloc (.cells #[.slice none 0 0, .slice (some ⟨w4.heap.size + 1, 0, none⟩) 1 1] 36) := ⟨_, rfl⟩
 have hbS : Below w4.heap.size w4 wS := by rw [hwS]; exact (Below.refl _ _).alloc (Nat.le_refl _) _
 have hbO : Below wS.heap.size wS wO := by rw [hwO]; exact (Below.refl _ _).alloc (Nat.le_refl _) _
 have hbA : Below wO.heap.size wO wA := by rw [hwA]; exact (Below.refl _ _).alloc (Nat.le_refl _) _
 have hsS : wS.heap.size = w4.heap.size + 1 := by rw [hwS]; exact World.size_alloc ..
 have hsO : wO.heap.size = w4.heap.size + 2 := by rw [hwO, World.size_alloc, hsS]
 have hb4 : Below w4.heap.size w4 wA := hbS.trans ((hbO.mono hbS.size).trans (hbA.mono (by omega)))
 have hqS : wA.heap[w4.heap.size]? = some (.cells #[.int .i64 5, .string { data := #[] }, .int .i64 0, .int .i64 k1, .int .i64 n1, .string (bs s1), .string (bs m1), .slice A1 na1 ca1, .slice O1 no1 co1, .slice none 0 0, .slice none 0 0] 74 (0, 0)) := by rw [hbA.block _ (by omega), hbO.block _ (by omega), hwS]; exact heap_alloc_new w4 _
 have hqO : wA.heap[w4.heap.size + 1]? = some (.cells #[.string { data := #[120] }, .slice none 0 0, .slice (some ⟨w4.heap.size, 0, none⟩) 1 1] 76 (0, 0)) := by rw [hbA.block _ (by omega), hwO, <- hsS]; exact heap_alloc_new wS _
 have hqA : HB 36 wA (w4.heap.size + 2) #[.slice none 0 0, .slice (some ⟨w4.heap.size + 1, 0, none⟩) 1 1] := by rw [<- hsO, hwA]; exact heap_alloc_new wO _
 have AB := hI hqA
 have hsz4 := B0.out.size
 have PVA := hI (alone_pv (S := fun k => w0.heap.size <= k) (by rw [HXX.out]; exact HV4.out.below hb4) hqS hqO hsz4 (Nat.le_trans hsz4 (Nat.le_succ _)) : PV wA (fun k => w0.heap.size <= k) (aloneP xx) _)
 have YB5 := hI (YB4.out.below hb4)
 have HV5 := hI (HV4.out.below hb4)
 obtain h0 := B0.out
 clear B0
 have B0 := hI (h0.trans (hb4.mono h0.size))
 have KC := hI (check_any (aloneP xx) _ _ wA (W0.out.below B0.out).sx PVA.out HFEW.out)
 clear hbS hbO hbA hsS hsO hb4 hqS hqO hqA hsz4 h0 YB4 HV4 PVA HFEW
 rw [hwS] at hwO
 rw [hwO] at hwA
 go_upto_region 9 with fail
 rw [<- hwA]
 clear hwA hwO hwS
 generalize w4.heap.size + 2 = ab at *
 generalize w4.heap.size + 1 = ob at *
 generalize chkP (aloneP xx) = ck at *
 go_wp2_with (with_reducible refine at_load_ (t := 36) ?_; refine Hid.out ?_)
 refine hI ?_
 refine wpList_load_row rfl _ _ rfl ab rfl _ _ _ _ AB.out Tryz.underlying36 rfl pr_size ?_
 go_wp2_with fail
 refine KC.out.mono ?_
 rintro e w5 ⟨rfl, hb⟩
 obtain h0 := B0.out
 clear B0
 have B0 := hI (h0.trans (hb.mono h0.size))
 have YB6 := hI (YB5.out.below hb)
 have HV6 := hI (HV5.out.below hb)
 clear hb h0 KC YB5 HV5 AB
 by_cases hc : ck = 0
 ·have ht := HT2.out
  rw [if_pos hc] at ht
  subst hc
  subst ht
  clear HT2
  go_wp2_with (with_reducible refine at_load_ (t := 27) ?_; refine Hid.out ?_)
  refine hI ?_
  refine xb_load rfl _ rfl yb rfl YB6.out rfl ?_
  have X := hI (HB.below X0.out B0.out)
  refine hb_put rfl _ _ rfl rfl w.heap.size rfl rfl ex_size (by simp [Value.oneCell']) X.out rfl ?_
  intro wz hxz hgz hsz
  clear hsz
  have XZ := hI hxz
  have BZ := hI ((BW.out.trans (B0.out.mono BW.out.size)).trans (below_gr hgz (B := w.heap.size) (Nat.le_trans BW.out.size B0.out.size) (Nat.le_refl _)))
  have HVZ := hI (HV6.out.gr (S' := fun k => w.heap.size <= k) hgz (fun k _ (hk : w0.heap.size <= k) => by have := HB.lt X0.out; exact ⟨by omega, by omega⟩))
  clear hxz hgz X YB6 HV6
  go_wp2_with fail
  refine bodyPost_ret (results_row3 rfl _ _ w.heap.size _ _ _ _ rfl XZ.out Tryz.underlying27 rfl ex_size _ _ rfl rfl) rfl ?_
  exact ⟨exC k1 n1 s1 m1 A1 na1 ca1 O1 no1 co1, rfl, by rw [HXX.out]; exact HVZ.out, BZ.out⟩
 have ht := HT2.out
 rw [if_neg hc] at ht
 subst ht
 have e1 : (ck != 0) = true := by simpa using hc
 have e2 : decide (ck = 0) = false := by simpa using hc
 clear HT2 YB6 HV6 W0
 have X := hI (HB.below X0.out B0.out)
 go_wp2_with (with_reducible refine at_store_ (t := 27) ?_; refine Hid.out ?_)
 refine hI ?_
 refine hb_put rfl _ _ rfl rfl w.heap.size rfl rfl ex_size (by simp [Value.oneCell']) X.out rfl ?_
 intro wz hxz hgz hsz
 clear hsz
 have XZ := hI hxz
 have BZ := hI ((BW.out.trans (B0.out.mono BW.out.size)).trans (below_gr hgz (B := w.heap.size) (Nat.le_trans BW.out.size B0.out.size) (Nat.le_refl _)))
 clear hxz hgz X
 go_wp2_with fail
 refine bodyPost_ret (results_row3 rfl _ _ w.heap.size _ _ _ _ rfl XZ.out Tryz.underlying27 rfl ex_size _ _ rfl rfl) rfl ?_
 exact ⟨_, rfl, xve _ _, BZ.out⟩
open Go.RowKit
/-- The reference's tokens: L and three end tokens. -/
structure RS (L : List Lx.Tok) (tb tq n tc : Nat) (w : World) : Prop where
 ok : Lok L
 len : n = L.length + 3
 ends : Ends (L.map tkq)
 lt : tb < w.heap.size
 row : ∀ j, j < L.length + 3 -> ∃ off : Int, w.rangeAt tb (tq + j * 3) [.int .i64 (kindT ((L.map tkq).drop j)), .string (bs (textT ((L.map tkq).drop j))), .int .i64 off] /\ (j < L.length -> off = ((L.getD j ⟨0, [], 0⟩).off : Int))
theorem RS.below {L : List Lx.Tok} {tb tq n tc : Nat} {w w' : World} (h : RS L tb tq n tc w) (hb : Below w.heap.size w w') : RS L tb tq n tc w' :=
 ⟨h.ok, h.len, h.ends, Nat.lt_of_lt_of_le h.lt hb.size, fun j hj => by
  obtain ⟨off, h1, h2⟩ := h.row j hj
  exact ⟨off, rangeAt_keep h1 (hb.block tb h.lt), h2⟩⟩
/-- The tokens R stand at i. -/
def AtR (L : List Lx.Tok) (i : Nat) (R : List Tk) : Prop := (L.map tkq).drop i = R /\ R ≠ []
theorem AtR.lt {L : List Lx.Tok} {i : Nat} {R : List Tk} (h : AtR L i R) : i < L.length := by
 rcases Nat.lt_or_ge i L.length with h0 | h0
 ·exact h0
 exact absurd (by rw [<- h.1]; exact List.drop_of_length_le (by rw [List.length_map]; exact h0)) h.2
theorem AtR.drop {L : List Lx.Tok} {i : Nat} {R : List Tk} (h : AtR L i R) (k : Nat) : (L.map tkq).drop (i + k) = R.drop k := by rw [<- h.1, List.drop_drop]
theorem AtR.len {L : List Lx.Tok} {i : Nat} {R : List Tk} (h : AtR L i R) : R.length = L.length - i := by rw [<- h.1, List.length_drop, List.length_map]
/-- Behind a token that is not the end. -/
theorem AtR.next {L : List Lx.Tok} {i : Nat} {R : List Tk} (h : AtR L i R) (he : Ends (L.map tkq)) (hk : kindT R ≠ 0) : AtR L (i + 1) R.tail := by
 have hd : ∀ (i : Nat) (l : List Tk), Ends l -> l.drop i ≠ [] -> Ends (l.drop i) := by
  intro i
  induction i with
  | zero => intro l hl _; exact hl
  | succ i ih =>
   intro l hl hn
   match l, hl with
   | [t], hl => simp at hn
   | _ :: u :: r, hl => exact ih (u :: r) hl hn
 have hr : Ends R := by
  rw [<- h.1]
  exact hd i _ he (by rw [h.1]; exact h.2)
 exact ⟨by rw [h.drop 1, List.drop_one], (hr.tail hk).ne⟩
theorem isT_val2 (s : Str) (R : List Tk) : isT s R = ((kindT R == 3 || kindT R == 4) && textT R == s) := by
 cases R with
 | nil => rfl
 | cons t r => rfl
/-- What a function of the reference says of where it stopped. -/
def RR {α : Type} (L : List Lx.Tok) (P : Res α) (x : α) (nx bd : Int) : Prop := match P with
 | .ok a r => x = a /\ bd = -1 /\ ∃ j : Nat, nx = j /\ AtR L j r
 | .bad r => ∃ j : Nat, bd = j /\ AtR L j r
theorem RR.cases {α : Type} {L : List Lx.Tok} {P : Res α} {x : α} {nx bd : Int} (h : RR L P x nx bd) : (∃ r, ∃ j : Nat, P = .ok x r /\ bd = -1 /\ nx = j /\ AtR L j r) ∨ (∃ r, ∃ j : Nat, P = .bad r /\ bd = j /\ AtR L j r) := by
 cases P with
 | ok a r =>
  obtain ⟨rfl, h1, j, h2, h3⟩ := h
  exact .inl ⟨r, j, rfl, h1, h2, h3⟩
 | bad r =>
  obtain ⟨j, h1, h2⟩ := h
  exact .inr ⟨r, j, rfl, h1, h2⟩
/-- A function that reads an expression. -/
def RX (L : List Lx.Tok) (w : World) (P : Res Ex) (e : Ending) (w' : World) : Prop :=
 ∃ (ex : Ex) (cs : List Value) (nx bd : Int), e = .returned (.tuple #[.agg cs.toArray, .int .i64 nx, .int .i64 bd]) /\ XV w' (fun b => w.heap.size <= b) ex cs /\ Below w.heap.size w w' /\ RR L P ex nx bd
/-- .. a list of expressions. -/
def RL (L : List Lx.Tok) (w : World) (P : Res (List Ex)) (e : Ending) (w' : World) : Prop :=
 ∃ (l : List Ex) (A : Option Addr) (n c : Nat) (nx bd : Int), e = .returned (.tuple #[.slice A n c, .int .i64 nx, .int .i64 bd]) /\ XL w' (fun b => w.heap.size <= b) A n c l /\ Below w.heap.size w w' /\ RR L P l nx bd
/-- .. a statement. -/
def RT (L : List Lx.Tok) (w : World) (P : Res St) (e : Ending) (w' : World) : Prop :=
 ∃ (st : St) (cs : List Value) (nx bd : Int), e = .returned (.tuple #[.agg cs.toArray, .int .i64 nx, .int .i64 bd]) /\ SV w' (fun b => w.heap.size <= b) st cs /\ Below w.heap.size w w' /\ RR L P st nx bd
/-- .. a list of statements. -/
def RB (L : List Lx.Tok) (w : World) (P : Res (List St)) (e : Ending) (w' : World) : Prop :=
 ∃ (l : List St) (A : Option Addr) (n c : Nat) (nx bd : Int), e = .returned (.tuple #[.slice A n c, .int .i64 nx, .int .i64 bd]) /\ SL w' (fun b => w.heap.size <= b) A n c l /\ Below w.heap.size w w' /\ RR L P l nx bd
theorem ris_any (R : List Tk) (o : Int) (s : Str) (w : World) : Calls Tryz.prog 32 #[.agg #[.int .i64 (kindT R), .string (bs (textT R)), .int .i64 o], .string (bs s)] w fun e w' => e = .returned (.bool (isT s R)) /\ Below w.heap.size w w' := by
 have HT := hI (isT_val2 s R)
 generalize isT s R = T at *
 generalize textT R = tx at *
 generalize kindT R = k at *
 have HB := hI ((Below.refl w.heap.size w).alloc (Nat.le_refl _) (.cells #[.int .i64 k, .string (bs tx), .int .i64 o] 93))
 have hq := heap_alloc_new w (.cells #[.int .i64 k, .string (bs tx), .int .i64 o] 93)
 have c0 : (w.alloc (.cells #[.int .i64 k, .string (bs tx), .int .i64 o] 93)).cell? ⟨w.heap.size, 0, none⟩ = some (.int .i64 k) := by rw [cell_of_row _ _ _ _ _ _ hq]; rfl
 have c1 : (w.alloc (.cells #[.int .i64 k, .string (bs tx), .int .i64 o] 93)).cell? ⟨w.heap.size, 1, none⟩ = some (.string (bs tx)) := by rw [cell_of_row _ _ _ _ _ _ hq]; rfl
 clear hq
 by_cases h3 : k = 3
 ·subst h3
  go_enter Tryz.func32, Tryz.ntmps32
  go_wp2
  go_ret
  exact ⟨by rw [HT.out]; simp [bs_toList], HB.out⟩
 by_cases h4 : k = 4
 ·subst h4
  go_enter Tryz.func32, Tryz.ntmps32
  go_wp2
  go_ret
  exact ⟨by rw [HT.out]; simp [bs_toList], HB.out⟩
 have e3 : (k == 3) = false := by simpa using h3
 have e4 : (k == 4) = false := by simpa using h4
 have d3 : decide (k = 3) = false := by simpa using h3
 have d4 : decide (k = 4) = false := by simpa using h4
 go_enter Tryz.func32, Tryz.ntmps32
 go_wp2
 go_ret
 exact ⟨by rw [HT.out, e3, e4]; simp, HB.out⟩
theorem numV_take (l : List UInt8) (k : Nat) : Lx.numV (l.take k) <= Lx.numV l := by
 have key : ∀ (l : List UInt8) (n : Nat), n <= l.foldl (fun n b => 10 * n + (b.toNat - 48)) n := by
  intro l
  induction l with
  | nil => intro n; exact Nat.le_refl _
  | cons b t ih => intro n; rw [List.foldl_cons]; exact Nat.le_trans (by omega) (ih _)
 unfold Lx.numV
 conv => rhs; rw [<- List.take_append_drop k l, List.foldl_append]
 exact key _ _
theorem numV_st (l : List UInt8) (k : Nat) (hk : k < l.length) : Lx.numV (l.take (k + 1)) = 10 * Lx.numV (l.take k) + (l[k].toNat - 48) := by
 unfold Lx.numV
 rw [List.take_succ_eq_append_getElem hk, List.foldl_append]
 rfl
theorem num_parts {l : Str} (h : Lx.numE l = 0) : l.all Lx.digB = true /\ Lx.numV l <= 9223372036854775807 /\ numT l = (Lx.numV l : Int) := by
 unfold Lx.numE at h
 split at h
 ·rename_i ha
  split at h
  ·cases h
  split at h
  ·rename_i hm
   exact ⟨ha, hm, rfl⟩
  cases h
 cases h
theorem rnum_any (l : Str) (h : Lx.numE l = 0) (w : World) (hl : l.length <= 65536) : Calls Tryz.prog 99 #[.string (bs l)] w fun e w' => e = .returned (.int .i64 (numT l)) /\ w' = w := by
 obtain ⟨hd, hm, ht⟩ := num_parts h
 rw [ht]
 have hsz := bs_size l
 have hli : (l.length : Int) <= 65536 := by omega
 have HD := hI hd
 have HM := hI hm
 clear h ht hl hd hm
 go_enter Tryz.func99, Tryz.ntmps99
 go_wp2
 go_loopw [3, 4] (fun nn i wr => ∃ (k : Nat), k <= l.length /\ i = .int .i64 k /\ nn = .int .i64 (Lx.numV (l.take k) : Int) /\ wr = w) (fun _ i _ => l.length - (intOf i).toNat)
 case atStart => exact ⟨0, by omega, rfl, rfl, rfl⟩
 case round =>
  obtain ⟨k, hk, rfl, rfl, rfl⟩ := hrel
  by_cases hlt : k < l.length
  ·have hki : (k : Int) < (l.length : Int) := by omega
   have hps : k < (bs l).size := hlt
   have HK := hI hlt
   have hge : ((bs l)[k]'hps).toNat = (l[k]).toNat := rfl
   have HVS := hI (numV_st l k hlt)
   have hb := List.all_eq_true.1 HD.out l[k] (List.getElem_mem hlt)
   have hdg : 48 <= (l[k]).toNat /\ (l[k]).toNat <= 57 := by unfold Lx.digB Lx.digN at hb; simpa using hb
   have hle := numV_take l (k + 1)
   rw [HVS.out] at hle
   clear hb
   generalize (l[k]).toNat = c at *
   obtain ⟨g1, g2⟩ := hdg
   generalize Lx.numV (l.take k) = n at *
   have hm := HM.out
   have w1 : IntKind.u8.wrap ((c : Int) - 48) = (c : Int) - 48 := by simp [IntKind.wrap, IntKind.bits, IntKind.signed]; omega
   have w2 : IntKind.i64.wrap ((c : Int) - 48) = (c : Int) - 48 := by simp [IntKind.wrap, IntKind.bits, IntKind.signed]; omega
   have w3 : IntKind.i64.wrap (10 * (n : Int)) = 10 * (n : Int) := by simp [IntKind.wrap, IntKind.bits, IntKind.signed]; omega
   have w4 : IntKind.i64.wrap (10 * (n : Int) + ((c : Int) - 48)) = 10 * (n : Int) + ((c : Int) - 48) := by simp [IntKind.wrap, IntKind.bits, IntKind.signed]; omega
   have HE := hI (show 10 * (n : Int) + ((c : Int) - 48) = (Lx.numV (l.take (k + 1)) : Int) from by rw [HVS.out]; omega)
   clear hlt hk g1 g2 hle hm
   go_wp2
   go_roundw
   case rel => exact ⟨k + 1, HK.out, by go_num, by rw [<- HE.out], by first | rfl | trivial⟩
   case measure => exact meas_up _ _ HK.out
  obtain rfl : k = l.length := by omega
  have hki : ¬ ((l.length : Int) < (l.length : Int)) := by omega
  clear hk hlt
  go_wp2
  go_ret
  exact ⟨by first | rfl | rw [List.take_length], rfl⟩
/-- The level of an operator, or -1. -/
def lvT (R : List Tk) : Int := if opAt 0 R = true then 0 else if opAt 1 R = true then 1 else if opAt 2 R = true then 2 else if opAt 3 R = true then 3 else if opAt 4 R = true then 4 else -1
theorem opAt_or (lv : Nat) (R : List Tk) : opAt lv R = (sgnsAt lv).any (fun s => isT s R) := by
 cases R with
 | nil =>
  unfold opAt
  symm
  rw [List.any_eq_false]
  intro s _
  simp [isT]
 | cons t r =>
  show ((t.1 == 3 || t.1 == 4) && (sgnsAt lv).contains t.2) = (sgnsAt lv).any fun s => (t.1 == 3 || t.1 == 4) && t.2 == s
  cases h : (t.1 == 3 || t.1 == 4) with
  | false => rw [Bool.false_and]; symm; rw [List.any_eq_false]; intro s _; simp
  | true => simp only [Bool.true_and]; rw [List.contains_eq_any_beq]
theorem lvT_eq (lv : Nat) (hl : lv < 5) (R : List Tk) : (lvT R = (lv : Int)) ↔ opAt lv R = true := by
 have hex : ∀ i j, i < 5 -> j < 5 -> opAt i R = true -> opAt j R = true -> i = j := by
  intro i j hi hj h1 h2
  cases R with
  | nil => unfold opAt at h1; cases h1
  | cons t r =>
   unfold opAt at h1 h2
   simp only [Bool.and_eq_true, List.contains_iff_mem] at h1 h2
   have k1 := h1.2
   have k2 := h2.2
   revert k1 k2
   generalize t.2 = x
   match i, hi with
   | 0, _ | 1, _ | 2, _ | 3, _ | 4, _ =>
    match j, hj with
    | 0, _ | 1, _ | 2, _ | 3, _ | 4, _ =>
     intro k1 k2
     simp only [sgnsAt, tOr, tAnd, List.mem_cons, List.not_mem_nil, or_false] at k1 k2
     first
      | rfl
      | (exfalso; rcases k1 with rfl | rfl | rfl | rfl | rfl | rfl <;> simp at k2)
      | (exfalso; rcases k1 with rfl | rfl | rfl <;> simp at k2)
      | (exfalso; rcases k1 with rfl | rfl <;> simp at k2)
      | (exfalso; subst k1; simp at k2)
 unfold lvT
 constructor
 ·intro h
  split at h
  ·rename_i h0; obtain rfl : lv = 0 := by omega
   exact h0
  split at h
  ·rename_i h0; obtain rfl : lv = 1 := by omega
   exact h0
  split at h
  ·rename_i h0; obtain rfl : lv = 2 := by omega
   exact h0
  split at h
  ·rename_i h0; obtain rfl : lv = 3 := by omega
   exact h0
  split at h
  ·rename_i h0; obtain rfl : lv = 4 := by omega
   exact h0
  omega
 intro h
 split
 ·rename_i h0; have := hex 0 lv (by omega) hl h0 h; omega
 split
 ·rename_i h0; have := hex 1 lv (by omega) hl h0 h; omega
 split
 ·rename_i h0; have := hex 2 lv (by omega) hl h0 h; omega
 split
 ·rename_i h0; have := hex 3 lv (by omega) hl h0 h; omega
 split
 ·rename_i h0; have := hex 4 lv (by omega) hl h0 h; omega
 rename_i h0 h1 h2 h3 h4
 match lv, hl with
 | 0, _ => exact absurd h h0
 | 1, _ => exact absurd h h1
 | 2, _ => exact absurd h h2
 | 3, _ => exact absurd h h3
 | 4, _ => exact absurd h h4
theorem lvT_of {s : Str} {R : List Tk} (k : Nat) (hk : k < 5) (hm : s ∈ sgnsAt k) (h : isT s R = true) : lvT R = (k : Int) := (lvT_eq k hk R).2 (by rw [opAt_or]; exact List.any_eq_true.2 ⟨s, hm, h⟩)
theorem lvT_no {R : List Tk} (h : ∀ k, k < 5 -> ∀ s ∈ sgnsAt k, isT s R = false) : lvT R = -1 := by
 have hn : ∀ k, k < 5 -> ¬ opAt k R = true := fun k hk e => by
  rw [opAt_or] at e
  obtain ⟨s, h1, h2⟩ := List.any_eq_true.1 e
  rw [h k hk s h1] at h2
  cases h2
 unfold lvT
 rw [if_neg (hn 0 (by omega)), if_neg (hn 1 (by omega)), if_neg (hn 2 (by omega)), if_neg (hn 3 (by omega)), if_neg (hn 4 (by omega))]
theorem rlevel_any (R : List Tk) (off : Int) (w : World) : Calls Tryz.prog 74 #[.agg #[.int .i64 (kindT R), .string (bs (textT R)), .int .i64 off]] w fun e w' => e = .returned (.int .i64 (lvT R)) /\ Below w.heap.size w w' := by
 obtain ⟨w0, hw0⟩ : ∃ W, W = w.alloc (.cells #[.int .i64 (kindT R), .string (bs (textT R)), .int .i64 off] 93) := ⟨_, rfl⟩
 have hb : Below w.heap.size w w0 := by rw [hw0]; exact (Below.refl _ _).alloc (Nat.le_refl _) _
 have TB_ := hI (show HB 93 w0 w.heap.size #[.int .i64 (kindT R), .string (bs (textT R)), .int .i64 off] from by rw [hw0]; exact heap_alloc_new w _)
 have B := hI hb
 clear hb
 go_enter Tryz.func74, Tryz.ntmps74
 go_upto_region 1 with fail
 rw [<- hw0]
 clear hw0
 have c0 : _ = some (Value.int .i64 (kindT R)) := HB.cell TB_.out 0
 have c1 : _ = some (Value.string (bs (textT R))) := HB.cell TB_.out 1
 have c2 : _ = some (Value.int .i64 off) := HB.cell TB_.out 2
 go_wp2_with fail
 refine (ris_any R off [111, 114] _).mono ?_
 rintro e w0 ⟨rfl, hb⟩
 clear c0 c1 c2
 replace TB_ := hI (TB_.out.below hb)
 replace B := hI (B.out.trans (hb.mono B.out.size))
 clear hb
 cases hq0 : isT [111, 114] R with
 | true =>
  have HQ := hI (lvT_of 0 (by omega) (by decide) hq0)
  clear hq0
  have c0 : _ = some (Value.int .i64 (kindT R)) := HB.cell TB_.out 0
  have c1 : _ = some (Value.string (bs (textT R))) := HB.cell TB_.out 1
  have c2 : _ = some (Value.int .i64 off) := HB.cell TB_.out 2
  go_wp2
  go_ret
  exact ⟨by rw [HQ.out]; rfl, B.out⟩
 | false =>
  have N0 := hI hq0
  clear hq0
  have c0 : _ = some (Value.int .i64 (kindT R)) := HB.cell TB_.out 0
  have c1 : _ = some (Value.string (bs (textT R))) := HB.cell TB_.out 1
  have c2 : _ = some (Value.int .i64 off) := HB.cell TB_.out 2
  go_wp2_with fail
  refine (ris_any R off [97, 110, 100] _).mono ?_
  rintro e w1 ⟨rfl, hb⟩
  clear c0 c1 c2
  replace TB_ := hI (TB_.out.below hb)
  replace B := hI (B.out.trans (hb.mono B.out.size))
  clear hb
  cases hq1 : isT [97, 110, 100] R with
  | true =>
   have HQ := hI (lvT_of 1 (by omega) (by decide) hq1)
   clear hq1
   have c0 : _ = some (Value.int .i64 (kindT R)) := HB.cell TB_.out 0
   have c1 : _ = some (Value.string (bs (textT R))) := HB.cell TB_.out 1
   have c2 : _ = some (Value.int .i64 off) := HB.cell TB_.out 2
   go_wp2
   go_ret
   exact ⟨by rw [HQ.out]; rfl, B.out⟩
  | false =>
   have N1 := hI hq1
   clear hq1
   have c0 : _ = some (Value.int .i64 (kindT R)) := HB.cell TB_.out 0
   have c1 : _ = some (Value.string (bs (textT R))) := HB.cell TB_.out 1
   have c2 : _ = some (Value.int .i64 off) := HB.cell TB_.out 2
   go_wp2_with fail
   refine (ris_any R off [61, 61] _).mono ?_
   rintro e w2 ⟨rfl, hb⟩
   clear c0 c1 c2
   replace TB_ := hI (TB_.out.below hb)
   replace B := hI (B.out.trans (hb.mono B.out.size))
   clear hb
   cases hq2 : isT [61, 61] R with
   | true =>
    have HQ := hI (lvT_of 2 (by omega) (by decide) hq2)
    clear hq2
    have c0 : _ = some (Value.int .i64 (kindT R)) := HB.cell TB_.out 0
    have c1 : _ = some (Value.string (bs (textT R))) := HB.cell TB_.out 1
    have c2 : _ = some (Value.int .i64 off) := HB.cell TB_.out 2
    go_wp2
    go_ret
    exact ⟨by rw [HQ.out]; rfl, B.out⟩
   | false =>
    have N2 := hI hq2
    clear hq2
    have c0 : _ = some (Value.int .i64 (kindT R)) := HB.cell TB_.out 0
    have c1 : _ = some (Value.string (bs (textT R))) := HB.cell TB_.out 1
    have c2 : _ = some (Value.int .i64 off) := HB.cell TB_.out 2
    go_wp2_with fail
    refine (ris_any R off [33, 61] _).mono ?_
    rintro e w3 ⟨rfl, hb⟩
    clear c0 c1 c2
    replace TB_ := hI (TB_.out.below hb)
    replace B := hI (B.out.trans (hb.mono B.out.size))
    clear hb
    cases hq3 : isT [33, 61] R with
    | true =>
     have HQ := hI (lvT_of 2 (by omega) (by decide) hq3)
     clear hq3
     have c0 : _ = some (Value.int .i64 (kindT R)) := HB.cell TB_.out 0
     have c1 : _ = some (Value.string (bs (textT R))) := HB.cell TB_.out 1
     have c2 : _ = some (Value.int .i64 off) := HB.cell TB_.out 2
     go_wp2
     go_ret
     exact ⟨by rw [HQ.out]; rfl, B.out⟩
    | false =>
     have N3 := hI hq3
     clear hq3
     have c0 : _ = some (Value.int .i64 (kindT R)) := HB.cell TB_.out 0
     have c1 : _ = some (Value.string (bs (textT R))) := HB.cell TB_.out 1
     have c2 : _ = some (Value.int .i64 off) := HB.cell TB_.out 2
     go_wp2_with fail
     refine (ris_any R off [60] _).mono ?_
     rintro e w4 ⟨rfl, hb⟩
     clear c0 c1 c2
     replace TB_ := hI (TB_.out.below hb)
     replace B := hI (B.out.trans (hb.mono B.out.size))
     clear hb
     cases hq4 : isT [60] R with
     | true =>
      have HQ := hI (lvT_of 2 (by omega) (by decide) hq4)
      clear hq4
      have c0 : _ = some (Value.int .i64 (kindT R)) := HB.cell TB_.out 0
      have c1 : _ = some (Value.string (bs (textT R))) := HB.cell TB_.out 1
      have c2 : _ = some (Value.int .i64 off) := HB.cell TB_.out 2
      go_wp2
      go_ret
      exact ⟨by rw [HQ.out]; rfl, B.out⟩
     | false =>
      have N4 := hI hq4
      clear hq4
      have c0 : _ = some (Value.int .i64 (kindT R)) := HB.cell TB_.out 0
      have c1 : _ = some (Value.string (bs (textT R))) := HB.cell TB_.out 1
      have c2 : _ = some (Value.int .i64 off) := HB.cell TB_.out 2
      go_wp2_with fail
      refine (ris_any R off [60, 61] _).mono ?_
      rintro e w5 ⟨rfl, hb⟩
      clear c0 c1 c2
      replace TB_ := hI (TB_.out.below hb)
      replace B := hI (B.out.trans (hb.mono B.out.size))
      clear hb
      cases hq5 : isT [60, 61] R with
      | true =>
       have HQ := hI (lvT_of 2 (by omega) (by decide) hq5)
       clear hq5
       have c0 : _ = some (Value.int .i64 (kindT R)) := HB.cell TB_.out 0
       have c1 : _ = some (Value.string (bs (textT R))) := HB.cell TB_.out 1
       have c2 : _ = some (Value.int .i64 off) := HB.cell TB_.out 2
       go_wp2
       go_ret
       exact ⟨by rw [HQ.out]; rfl, B.out⟩
      | false =>
       have N5 := hI hq5
       clear hq5
       have c0 : _ = some (Value.int .i64 (kindT R)) := HB.cell TB_.out 0
       have c1 : _ = some (Value.string (bs (textT R))) := HB.cell TB_.out 1
       have c2 : _ = some (Value.int .i64 off) := HB.cell TB_.out 2
       go_wp2_with fail
       refine (ris_any R off [62] _).mono ?_
       rintro e w6 ⟨rfl, hb⟩
       clear c0 c1 c2
       replace TB_ := hI (TB_.out.below hb)
       replace B := hI (B.out.trans (hb.mono B.out.size))
       clear hb
       cases hq6 : isT [62] R with
       | true =>
        have HQ := hI (lvT_of 2 (by omega) (by decide) hq6)
        clear hq6
        have c0 : _ = some (Value.int .i64 (kindT R)) := HB.cell TB_.out 0
        have c1 : _ = some (Value.string (bs (textT R))) := HB.cell TB_.out 1
        have c2 : _ = some (Value.int .i64 off) := HB.cell TB_.out 2
        go_wp2
        go_ret
        exact ⟨by rw [HQ.out]; rfl, B.out⟩
       | false =>
        have N6 := hI hq6
        clear hq6
        have c0 : _ = some (Value.int .i64 (kindT R)) := HB.cell TB_.out 0
        have c1 : _ = some (Value.string (bs (textT R))) := HB.cell TB_.out 1
        have c2 : _ = some (Value.int .i64 off) := HB.cell TB_.out 2
        go_wp2_with fail
        refine (ris_any R off [62, 61] _).mono ?_
        rintro e w7 ⟨rfl, hb⟩
        clear c0 c1 c2
        replace TB_ := hI (TB_.out.below hb)
        replace B := hI (B.out.trans (hb.mono B.out.size))
        clear hb
        cases hq7 : isT [62, 61] R with
        | true =>
         have HQ := hI (lvT_of 2 (by omega) (by decide) hq7)
         clear hq7
         have c0 : _ = some (Value.int .i64 (kindT R)) := HB.cell TB_.out 0
         have c1 : _ = some (Value.string (bs (textT R))) := HB.cell TB_.out 1
         have c2 : _ = some (Value.int .i64 off) := HB.cell TB_.out 2
         go_wp2
         go_ret
         exact ⟨by rw [HQ.out]; rfl, B.out⟩
        | false =>
         have N7 := hI hq7
         clear hq7
         have c0 : _ = some (Value.int .i64 (kindT R)) := HB.cell TB_.out 0
         have c1 : _ = some (Value.string (bs (textT R))) := HB.cell TB_.out 1
         have c2 : _ = some (Value.int .i64 off) := HB.cell TB_.out 2
         go_wp2_with fail
         refine (ris_any R off [43] _).mono ?_
         rintro e w8 ⟨rfl, hb⟩
         clear c0 c1 c2
         replace TB_ := hI (TB_.out.below hb)
         replace B := hI (B.out.trans (hb.mono B.out.size))
         clear hb
         cases hq8 : isT [43] R with
         | true =>
          have HQ := hI (lvT_of 3 (by omega) (by decide) hq8)
          clear hq8
          have c0 : _ = some (Value.int .i64 (kindT R)) := HB.cell TB_.out 0
          have c1 : _ = some (Value.string (bs (textT R))) := HB.cell TB_.out 1
          have c2 : _ = some (Value.int .i64 off) := HB.cell TB_.out 2
          go_wp2
          go_ret
          exact ⟨by rw [HQ.out]; rfl, B.out⟩
         | false =>
          have N8 := hI hq8
          clear hq8
          have c0 : _ = some (Value.int .i64 (kindT R)) := HB.cell TB_.out 0
          have c1 : _ = some (Value.string (bs (textT R))) := HB.cell TB_.out 1
          have c2 : _ = some (Value.int .i64 off) := HB.cell TB_.out 2
          go_wp2_with fail
          refine (ris_any R off [45] _).mono ?_
          rintro e w9 ⟨rfl, hb⟩
          clear c0 c1 c2
          replace TB_ := hI (TB_.out.below hb)
          replace B := hI (B.out.trans (hb.mono B.out.size))
          clear hb
          cases hq9 : isT [45] R with
          | true =>
           have HQ := hI (lvT_of 3 (by omega) (by decide) hq9)
           clear hq9
           have c0 : _ = some (Value.int .i64 (kindT R)) := HB.cell TB_.out 0
           have c1 : _ = some (Value.string (bs (textT R))) := HB.cell TB_.out 1
           have c2 : _ = some (Value.int .i64 off) := HB.cell TB_.out 2
           go_wp2
           go_ret
           exact ⟨by rw [HQ.out]; rfl, B.out⟩
          | false =>
           have N9 := hI hq9
           clear hq9
           have c0 : _ = some (Value.int .i64 (kindT R)) := HB.cell TB_.out 0
           have c1 : _ = some (Value.string (bs (textT R))) := HB.cell TB_.out 1
           have c2 : _ = some (Value.int .i64 off) := HB.cell TB_.out 2
           go_wp2_with fail
           refine (ris_any R off [42] _).mono ?_
           rintro e w10 ⟨rfl, hb⟩
           clear c0 c1 c2
           replace TB_ := hI (TB_.out.below hb)
           replace B := hI (B.out.trans (hb.mono B.out.size))
           clear hb
           cases hq10 : isT [42] R with
           | true =>
            have HQ := hI (lvT_of 4 (by omega) (by decide) hq10)
            clear hq10
            have c0 : _ = some (Value.int .i64 (kindT R)) := HB.cell TB_.out 0
            have c1 : _ = some (Value.string (bs (textT R))) := HB.cell TB_.out 1
            have c2 : _ = some (Value.int .i64 off) := HB.cell TB_.out 2
            go_wp2
            go_ret
            exact ⟨by rw [HQ.out]; rfl, B.out⟩
           | false =>
            have N10 := hI hq10
            clear hq10
            have c0 : _ = some (Value.int .i64 (kindT R)) := HB.cell TB_.out 0
            have c1 : _ = some (Value.string (bs (textT R))) := HB.cell TB_.out 1
            have c2 : _ = some (Value.int .i64 off) := HB.cell TB_.out 2
            go_wp2_with fail
            refine (ris_any R off [47] _).mono ?_
            rintro e w11 ⟨rfl, hb⟩
            clear c0 c1 c2
            replace TB_ := hI (TB_.out.below hb)
            replace B := hI (B.out.trans (hb.mono B.out.size))
            clear hb
            cases hq11 : isT [47] R with
            | true =>
             have HQ := hI (lvT_of 4 (by omega) (by decide) hq11)
             clear hq11
             have c0 : _ = some (Value.int .i64 (kindT R)) := HB.cell TB_.out 0
             have c1 : _ = some (Value.string (bs (textT R))) := HB.cell TB_.out 1
             have c2 : _ = some (Value.int .i64 off) := HB.cell TB_.out 2
             go_wp2
             go_ret
             exact ⟨by rw [HQ.out]; rfl, B.out⟩
            | false =>
             have N11 := hI hq11
             clear hq11
             have c0 : _ = some (Value.int .i64 (kindT R)) := HB.cell TB_.out 0
             have c1 : _ = some (Value.string (bs (textT R))) := HB.cell TB_.out 1
             have c2 : _ = some (Value.int .i64 off) := HB.cell TB_.out 2
             go_wp2_with fail
             refine (ris_any R off [37] _).mono ?_
             rintro e w12 ⟨rfl, hb⟩
             clear c0 c1 c2
             replace TB_ := hI (TB_.out.below hb)
             replace B := hI (B.out.trans (hb.mono B.out.size))
             clear hb
             cases hq12 : isT [37] R with
             | true =>
              have HQ := hI (lvT_of 4 (by omega) (by decide) hq12)
              clear hq12
              have c0 : _ = some (Value.int .i64 (kindT R)) := HB.cell TB_.out 0
              have c1 : _ = some (Value.string (bs (textT R))) := HB.cell TB_.out 1
              have c2 : _ = some (Value.int .i64 off) := HB.cell TB_.out 2
              go_wp2
              go_ret
              exact ⟨by rw [HQ.out]; rfl, B.out⟩
             | false =>
              have N12 := hI hq12
              clear hq12
              have hz : lvT R = -1 := by
               apply lvT_no
               intro k hk s hs
               match k, hk with
               | 0, _ => simp only [sgnsAt, tOr, List.mem_cons, List.not_mem_nil, or_false] at hs; subst hs; exact N0.out
               | 1, _ => simp only [sgnsAt, tAnd, List.mem_cons, List.not_mem_nil, or_false] at hs; subst hs; exact N1.out
               | 2, _ =>
                simp only [sgnsAt, List.mem_cons, List.not_mem_nil, or_false] at hs
                rcases hs with rfl | rfl | rfl | rfl | rfl | rfl
                ·exact N2.out
                ·exact N3.out
                ·exact N4.out
                ·exact N5.out
                ·exact N6.out
                exact N7.out
               | 3, _ =>
                simp only [sgnsAt, List.mem_cons, List.not_mem_nil, or_false] at hs
                rcases hs with rfl | rfl
                ·exact N8.out
                exact N9.out
               | 4, _ =>
                simp only [sgnsAt, List.mem_cons, List.not_mem_nil, or_false] at hs
                rcases hs with rfl | rfl | rfl
                ·exact N10.out
                ·exact N11.out
                exact N12.out
              go_wp2
              go_ret
              exact ⟨by rw [hz]; rfl, B.out⟩
open Go.RowKit
theorem wrap_nat (i k : Nat) (h : i + k < 9223372036854775808) : IntKind.i64.wrap ((i : Int) + (k : Int)) = ((i + k : Nat) : Int) := by
 simp [IntKind.wrap, IntKind.bits, IntKind.signed]; omega
/-- What lies at j: the tokens R, or an end. -/
def AtK (L : List Lx.Tok) (j : Nat) (R : List Tk) : Prop := (L.map tkq).drop j = R /\ j < L.length + 3
theorem AtR.k {L : List Lx.Tok} {i : Nat} {R : List Tk} (h : AtR L i R) : AtK L i R := ⟨h.1, by have := h.lt; omega⟩
theorem AtR.k1 {L : List Lx.Tok} {i : Nat} {R : List Tk} (h : AtR L i R) : AtK L (i + 1) R.tail := ⟨by rw [h.drop, List.drop_one], by have := h.lt; omega⟩
theorem AtR.k2 {L : List Lx.Tok} {i : Nat} {R : List Tk} (h : AtR L i R) : AtK L (i + 2) R.tail.tail := ⟨by rw [h.drop, <- List.drop_one, <- List.drop_one, List.drop_drop], by have := h.lt; omega⟩
theorem AtR.k3 {L : List Lx.Tok} {i : Nat} {R : List Tk} (h : AtR L i R) : AtK L (i + 3) R.tail.tail.tail := ⟨by rw [h.drop, <- List.drop_one, <- List.drop_one, <- List.drop_one, List.drop_drop, List.drop_drop], by have := h.lt; omega⟩
theorem RS.cells {L : List Lx.Tok} {tb tq n tc : Nat} {w : World} {j : Nat} {R : List Tk} (h : RS L tb tq n tc w) (a : AtK L j R) : (j : Int) < (n : Int) /\ ∃ off : Int, w.cell? ⟨tb, tq + j * 3, none⟩ = some (.int .i64 (kindT R)) /\ w.cell? ⟨tb, tq + j * 3 + 1, none⟩ = some (.string (bs (textT R))) /\ w.cell? ⟨tb, tq + j * 3 + 2, none⟩ = some (.int .i64 off) := by
 obtain ⟨off, hr, -⟩ := h.row j a.2
 rw [a.1] at hr
 exact ⟨by have := a.2; have := h.len; omega, off, hr 0 _ rfl, hr 1 _ rfl, hr 2 _ rfl⟩
theorem RS.wrap {L : List Lx.Tok} {tb tq n tc : Nat} {w : World} {i : Nat} {R : List Tk} (h : RS L tb tq n tc w) (a : AtR L i R) (k : Nat) (hk : k <= 4) : IntKind.i64.wrap ((i : Int) + (k : Int)) = ((i + k : Nat) : Int) := wrap_nat i k (by have := h.ok.len; have := a.lt; omega)
theorem isT_next {L : List Lx.Tok} {i : Nat} {R : List Tk} {s : Str} (h : isT s R = true) (a : AtR L i R) (he : Ends (L.map tkq)) : AtR L (i + 1) R.tail := a.next he (by rcases isT_kind h with e | e <;> rw [e] <;> decide)
theorem kind_next {L : List Lx.Tok} {i : Nat} {R : List Tk} {k : Int} (h : kindT R = k) (hk : k ≠ 0) (a : AtR L i R) (he : Ends (L.map tkq)) : AtR L (i + 1) R.tail := a.next he (by rw [h]; exact hk)
theorem rx_size : (Tryz.prog.info? 54).map (·.size) = some 6 := by kernel_rfl
theorem rt_size : (Tryz.prog.info? 136).map (·.size) = some 11 := by kernel_rfl
theorem rat_any {L : List Lx.Tok} {tb tq n tc : Nat} (w : World) (i : Nat) (hs : RS L tb tq n tc w) (hi : i < L.length) : Calls Tryz.prog 33 #[.slice (some ⟨tb, tq, none⟩) n tc, .int .i64 i] w fun e w' => e = .returned (.int .i64 ((L.getD i ⟨0, [], 0⟩).off : Int)) /\ w' = w := by
 obtain ⟨off, hr, ho⟩ := hs.row i (by omega)
 have c2 : w.cell? ⟨tb, tq + i * 3 + 2, none⟩ = some (.int .i64 off) := hr 2 _ rfl
 rw [<- ho hi]
 have hb : (i : Int) < (n : Int) := by have := hs.len; omega
 clear hr ho hs hi
 go_enter Tryz.func33, Tryz.ntmps33
 go_wp2
 go_ret
 exact ⟨rfl, rfl⟩
theorem Lok.num_at {L : List Lx.Tok} {i : Nat} {R : List Tk} (h : Lok L) (a : AtR L i R) (hk : kindT R = 2) : Lx.numE (textT R) = 0 /\ (textT R).length <= 65536 := by
 have hl := a.lt
 have e : R = tkq L[i] :: (L.map tkq).drop (i + 1) := by
  rw [<- a.1, List.drop_eq_getElem_cons (by rw [List.length_map]; exact hl), List.getElem_map]
 rw [e] at hk ⊢
 exact ⟨(h.num _ (List.getElem_mem hl) hk).1, h.txt _ (List.getElem_mem hl)⟩
theorem rcounted_any {L : List Lx.Tok} {tb tq n tc : Nat} (w : World) (i : Nat) (R : List Tk) (hs : RS L tb tq n tc w) (ha : AtR L i R) : Calls Tryz.prog 94 #[.slice (some ⟨tb, tq, none⟩) n tc, .int .i64 i] w fun e w' => e = .returned (.tuple #[.int .i64 (if kindT R = 2 then numT (textT R) else 0), .int .i64 (if kindT R = 2 then -1 else (i : Int))]) /\ w' = w := by
 obtain ⟨hb, off, c0, c1, -⟩ := hs.cells ha.k
 have HN := hI (hs.ok.num_at ha)
 clear hs ha
 by_cases hk : kindT R = 2
 ·obtain ⟨n1, n2⟩ := HN.out hk
  rw [if_pos hk, if_pos hk]
  have KN := hI (rnum_any (textT R) n1 w n2)
  rw [hk] at c0
  clear HN n1 n2 hk
  go_enter Tryz.func94, Tryz.ntmps94
  go_wp2_with fail
  refine KN.out.mono ?_
  rintro e w' ⟨rfl, rfl⟩
  clear KN
  go_wp2
  go_ret2
  exact ⟨rfl, rfl⟩
 rw [if_neg hk, if_neg hk]
 have e1 : (kindT R != 2) = true := by simpa using hk
 have e2 : decide (kindT R = 2) = false := by simpa using hk
 clear HN
 go_enter Tryz.func94, Tryz.ntmps94
 go_wp2
 go_ret2
 exact ⟨rfl, rfl⟩
open Go.RowKit
theorem XV.cells6 {w : World} {S : Nat -> Prop} {e : Ex} {cs : List Value} (h : XV w S e cs) : ∃ (k n : Int) (s m : Str) (A : Option Addr) (na ca : Nat) (O : Option Addr) (no co : Nat), cs = exC k n s m A na ca O no co := by
 obtain ⟨k, n, s, m, a, o⟩ := e
 obtain ⟨A, na, ca, O, no, co, rfl, -, -⟩ := h.open_
 exact ⟨k, n, s, m, A, na, ca, O, no, co, rfl⟩
/-- An expression and a sign behind it. -/
def pThen {α : Type} (s : Str) (P : Res α) : Res α := match P with
 | .bad r => .bad r
 | .ok e r => if isT s r = true then .ok e r.tail else .bad r
theorem RR.bad_ {α : Type} {L : List Lx.Tok} {P : Res α} {x : α} {nx : Int} {r : List Tk} {j : Nat} (h : P = .bad r) (a : AtR L j r) : RR L P x nx (j : Int) := by subst h; exact ⟨j, rfl, a⟩
theorem RR.ok_ {α : Type} {L : List Lx.Tok} {P : Res α} {x : α} {r : List Tk} {j : Nat} (h : P = .ok x r) (a : AtR L j r) : RR L P x (j : Int) (-1) := by subst h; exact ⟨rfl, rfl, j, rfl, a⟩
theorem rended_gen {L : List Lx.Tok} {tb tq n tc : Nat} (w : World) (i : Nat) (R : List Tk) (P : Res Ex) (hs : RS L tb tq n tc w) (ha : AtR L i R) (hB : ∀ W, RS L tb tq n tc W -> Calls Tryz.prog 42 #[.slice (some ⟨tb, tq, none⟩) n tc, .int .i64 i, .int .i64 0] W (RX L W P)) :
  Calls Tryz.prog 91 #[.slice (some ⟨tb, tq, none⟩) n tc, .int .i64 i] w (RX L w (pThen [59] P)) := by
 have KB := hI hB
 clear hB
 have TK0 := hI ha.k
 have A0 := hI ha
 have EN := hI hs.ends
 obtain ⟨w0, hw0⟩ : ∃ W, W = w.alloc (.cells #[.int .i64 0, .int .i64 0, .string { data := #[] }, .string { data := #[] }, .slice none 0 0, .slice none 0 0] 54) := ⟨_, rfl⟩
 have hb : Below w.heap.size w w0 := by rw [hw0]; exact (Below.refl _ _).alloc (Nat.le_refl _) _
 have HSZ := hI (show w.heap.size < w0.heap.size from by rw [hw0, World.size_alloc]; omega)
 have X0 := hI (show HB 54 w0 w.heap.size #[.int .i64 0, .int .i64 0, .string { data := #[] }, .string { data := #[] }, .slice none 0 0, .slice none 0 0] from by rw [hw0]; exact heap_alloc_new w _)
 have B00 := hI hb
 have S0 := hI (hs.below hb)
 have B := hI (Below.refl w0.heap.size w0)
 clear hb hs ha
 go_enter Tryz.func91, Tryz.ntmps91
 go_upto_region 1 with fail
 rw [<- hw0]
 clear hw0
 have KX := hI (KB.out w0 S0.out)
 go_wp2_with fail
 refine KX.out.mono ?_
 rintro e w1 ⟨x1, cs, nx1, bd1, rfl, hv, hb, hr⟩
 obtain ⟨k1, n1, s1, m1, A1, na1, ca1, O1, no1, co1, rfl⟩ := hv.cells6
 rw [show (exC k1 n1 s1 m1 A1 na1 ca1 O1 no1 co1).toArray = #[.int .i64 k1, .int .i64 n1, .string (bs s1), .string (bs m1), .slice A1 na1 ca1, .slice O1 no1 co1] from rfl]
 obtain ⟨v1, hv1⟩ : ∃ W, W = w1.alloc (.cells #[.int .i64 k1, .int .i64 n1, .string (bs s1), .string (bs m1), .slice A1 na1 ca1, .slice O1 no1 co1] 54) := ⟨_, rfl⟩
 have hb2 : Below w1.heap.size w1 v1 := by rw [hv1]; exact (Below.refl _ _).alloc (Nat.le_refl _) _
 have HR1 := hI hr
 have YB1 := hI (show HB 54 v1 w1.heap.size #[.int .i64 k1, .int .i64 n1, .string (bs s1), .string (bs m1), .slice A1 na1 ca1, .slice O1 no1 co1] from by rw [hv1]; exact heap_alloc_new w1 _)
 have HO1 := hI (show w0.heap.size <= w1.heap.size from Nat.le_trans B.out.size hb.size)
 have V1 := hI ((hv.more (S' := fun k => w0.heap.size <= k) fun k _ hk => Nat.le_trans B.out.size hk).below hb2)
 replace B := hI (B.out.trans (hb.mono B.out.size))
 replace B := hI (B.out.trans (hb2.mono B.out.size))
 clear hv hb hr hb2 KX
 go_upto_region 2 with fail
 rw [<- hv1]
 clear hv1
 generalize w1.heap.size = yb1 at *
 rcases HR1.out.cases with ⟨r, j, hP, rfl, rfl, hA⟩ | ⟨r, j, hP, rfl, hA⟩
 ·have AR := hI hA
  have HP := hI hP
  clear hP hA HR1
  obtain ⟨jn, hjn⟩ : ∃ k, k = j + 1 := ⟨_, rfl⟩
  have WJ : IntKind.i64.wrap ((j : Int) + 1) = (jn : Int) := by rw [hjn]; exact S0.out.wrap AR.out 1 (by omega)
  have JN := hI hjn
  clear hjn
  obtain ⟨b0, off0, c00, c01, c02⟩ := (S0.out.below B.out).cells AR.out.k
  go_wp2_with fail
  refine (ris_any r _ [59] _).mono ?_
  rintro e wi0 ⟨rfl, hb⟩
  replace YB1 := hI (YB1.out.below hb)
  replace V1 := hI (V1.out.below hb)
  replace B := hI (B.out.trans (hb.mono B.out.size))
  clear hb
  clear b0 c00 c01 c02
  cases hq : isT [59] r with
  | true =>
   have HQ := hI hq
   clear hq
   go_wp2_with (with_reducible refine at_load_ (t := 54) ?_; refine Hid.out ?_)
   refine hI ?_
   refine wpList_load_row rfl _ _ rfl yb1 rfl _ _ _ _ YB1.out Tryz.underlying54 rfl rx_size ?_
   have X := hI (X0.out.below B.out)
   go_wp2_with (with_reducible refine at_store_ (t := 54) ?_; refine Hid.out ?_)
   refine hI ?_
   refine hb_put rfl _ _ rfl rfl w.heap.size rfl rfl rx_size (by simp [Value.oneCell']) X.out rfl ?_
   intro wz hxz hgz hsz
   clear hsz
   have XZ := hI hxz
   have GZ := hI hgz
   have BZ := hI (bz_of B00.out B.out hgz)
   clear hxz hgz X
   go_wp2_with fail
   refine bodyPost_ret (results_row3 rfl _ _ w.heap.size _ _ _ _ rfl XZ.out Tryz.underlying54 rfl rx_size _ _ rfl rfl) rfl ?_
   exact ⟨x1, _, jn, -1, rfl, (V1.out.gr (S' := fun b => w.heap.size <= b) GZ.out (fun b _ (hb : w0.heap.size <= b) => ⟨by have := HSZ.out; omega, by have := HSZ.out; omega⟩)), BZ.out, RR.ok_ (by rw [HP.out]; exact if_pos HQ.out) (by rw [JN.out]; exact isT_next HQ.out AR.out EN.out)⟩
  | false =>
   have HQ := hI hq
   clear hq
   go_wp2_with (with_reducible refine at_load_ (t := 54) ?_; refine Hid.out ?_)
   refine hI ?_
   refine wpList_load_row rfl _ _ rfl yb1 rfl _ _ _ _ YB1.out Tryz.underlying54 rfl rx_size ?_
   have X := hI (X0.out.below B.out)
   go_wp2_with (with_reducible refine at_store_ (t := 54) ?_; refine Hid.out ?_)
   refine hI ?_
   refine hb_put rfl _ _ rfl rfl w.heap.size rfl rfl rx_size (by simp [Value.oneCell']) X.out rfl ?_
   intro wz hxz hgz hsz
   clear hsz
   have XZ := hI hxz
   have GZ := hI hgz
   have BZ := hI (bz_of B00.out B.out hgz)
   clear hxz hgz X
   go_wp2_with fail
   refine bodyPost_ret (results_row3 rfl _ _ w.heap.size _ _ _ _ rfl XZ.out Tryz.underlying54 rfl rx_size _ _ rfl rfl) rfl ?_
   exact ⟨x1, _, _, j, rfl, (V1.out.gr (S' := fun b => w.heap.size <= b) GZ.out (fun b _ (hb : w0.heap.size <= b) => ⟨by have := HSZ.out; omega, by have := HSZ.out; omega⟩)), BZ.out, RR.bad_ (by rw [HP.out]; exact if_neg (by rw [HQ.out]; decide)) AR.out⟩
 have AR := hI hA
 have HP := hI hP
 clear hP hA HR1
 have eb : ¬ ((j : Int) < 0) := by omega
 go_wp2_with (with_reducible refine at_load_ (t := 54) ?_; refine Hid.out ?_)
 refine hI ?_
 refine wpList_load_row rfl _ _ rfl yb1 rfl _ _ _ _ YB1.out Tryz.underlying54 rfl rx_size ?_
 have X := hI (X0.out.below B.out)
 go_wp2_with (with_reducible refine at_store_ (t := 54) ?_; refine Hid.out ?_)
 refine hI ?_
 refine hb_put rfl _ _ rfl rfl w.heap.size rfl rfl rx_size (by simp [Value.oneCell']) X.out rfl ?_
 intro wz hxz hgz hsz
 clear hsz
 have XZ := hI hxz
 have GZ := hI hgz
 have BZ := hI (bz_of B00.out B.out hgz)
 clear hxz hgz X
 go_wp2_with fail
 refine bodyPost_ret (results_row3 rfl _ _ w.heap.size _ _ _ _ rfl XZ.out Tryz.underlying54 rfl rx_size _ _ rfl rfl) rfl ?_
 exact ⟨x1, _, _, j, rfl, (V1.out.gr (S' := fun b => w.heap.size <= b) GZ.out (fun b _ (hb : w0.heap.size <= b) => ⟨by have := HSZ.out; omega, by have := HSZ.out; omega⟩)), BZ.out, RR.bad_ (by rw [HP.out]; rfl) AR.out⟩
open Go.RowKit
/-- What a call answers, from its first token on. -/
def cEnd (R : List Tk) (PA : Res (List Ex)) (PU : List Tk -> Res Ex) : Res Ex := if isT [46] R.tail = true then if kindT R.tail.tail = 1 then if isT [40] R.tail.tail.tail = true then if isT [104, 111, 115, 116] R = true then PA.map fun l => .mk 7 0 (textT R.tail.tail) [] l [] else kEnd (textT R) (textT R.tail.tail) PA PU else .bad R.tail.tail.tail else .bad R.tail.tail else .bad R.tail
theorem rcall_gen {L : List Lx.Tok} {tb tq n tc : Nat} (w : World) (i : Nat) (R : List Tk) (PA : Res (List Ex)) (PU : List Tk -> Res Ex) (hs : RS L tb tq n tc w) (ha : AtR L i R) (hk : kindT R ≠ 0)
  (hL : ∀ W j, j = i + 4 -> RS L tb tq n tc W -> isT [46] R.tail = true -> kindT R.tail.tail = 1 -> isT [40] R.tail.tail.tail = true -> Calls Tryz.prog 118 #[.slice (some ⟨tb, tq, none⟩) n tc, .int .i64 j] W (RL L W PA))
  (hU : ∀ W j r l, PA = .ok l r -> isT [101, 108, 115, 101] r = true -> RS L tb tq n tc W -> AtR L j r.tail -> Calls Tryz.prog 73 #[.slice (some ⟨tb, tq, none⟩) n tc, .int .i64 j] W (RX L W (PU r.tail))) :
  Calls Tryz.prog 92 #[.slice (some ⟨tb, tq, none⟩) n tc, .int .i64 i] w (RX L w (cEnd R PA PU)) := by
 have HK := hI hk
 have HA := hI hL
 have HU := hI hU
 clear hk hL hU
 obtain ⟨j1, hj1⟩ : ∃ j, j = i + 1 := ⟨_, rfl⟩
 have WR1 : IntKind.i64.wrap ((i : Int) + 1) = (j1 : Int) := by rw [hj1]; exact hs.wrap ha 1 (by omega)
 have J1 := hI hj1
 have TK1 := hI (show AtK L j1 _ from by rw [hj1]; exact ha.k1)
 clear hj1
 obtain ⟨j2, hj2⟩ : ∃ j, j = i + 2 := ⟨_, rfl⟩
 have WR2 : IntKind.i64.wrap ((i : Int) + 2) = (j2 : Int) := by rw [hj2]; exact hs.wrap ha 2 (by omega)
 have J2 := hI hj2
 have TK2 := hI (show AtK L j2 _ from by rw [hj2]; exact ha.k2)
 clear hj2
 obtain ⟨j3, hj3⟩ : ∃ j, j = i + 3 := ⟨_, rfl⟩
 have WR3 : IntKind.i64.wrap ((i : Int) + 3) = (j3 : Int) := by rw [hj3]; exact hs.wrap ha 3 (by omega)
 have J3 := hI hj3
 have TK3 := hI (show AtK L j3 _ from by rw [hj3]; exact ha.k3)
 clear hj3
 obtain ⟨j4, hj4⟩ : ∃ j, j = i + 4 := ⟨_, rfl⟩
 have WR4 : IntKind.i64.wrap ((i : Int) + 4) = (j4 : Int) := by rw [hj4]; exact hs.wrap ha 4 (by omega)
 have J4 := hI hj4
 clear hj4
 have TK0 := hI ha.k
 have A0 := hI ha
 have EN := hI hs.ends
 obtain ⟨w0, hw0⟩ : ∃ W, W = w.alloc (.cells #[.int .i64 0, .int .i64 0, .string { data := #[] }, .string { data := #[] }, .slice none 0 0, .slice none 0 0] 54) := ⟨_, rfl⟩
 have hb : Below w.heap.size w w0 := by rw [hw0]; exact (Below.refl _ _).alloc (Nat.le_refl _) _
 have HSZ := hI (show w.heap.size < w0.heap.size from by rw [hw0, World.size_alloc]; omega)
 have X0 := hI (show HB 54 w0 w.heap.size #[.int .i64 0, .int .i64 0, .string { data := #[] }, .string { data := #[] }, .slice none 0 0, .slice none 0 0] from by rw [hw0]; exact heap_alloc_new w _)
 have B00 := hI hb
 have S0 := hI (hs.below hb)
 have B := hI (Below.refl w0.heap.size w0)
 clear hb hs ha
 go_enter Tryz.func92, Tryz.ntmps92
 go_upto_region 1 with fail
 rw [<- hw0]
 clear hw0
 obtain ⟨b0, off0, c00, c01, c02⟩ := (S0.out.below B.out).cells TK0.out
 go_wp2_with fail
 refine (ris_any R _ [104, 111, 115, 116] _).mono ?_
 rintro e wi0 ⟨rfl, hb⟩
 replace B := hI (B.out.trans (hb.mono B.out.size))
 clear hb
 clear b0 c00 c01 c02
 obtain ⟨hT, hhT⟩ : ∃ t, t = isT [104, 111, 115, 116] R := ⟨_, rfl⟩
 rw [<- hhT]
 have HT := hI hhT
 clear hhT
 obtain ⟨b1, off1, c10, c11, c12⟩ := (S0.out.below B.out).cells TK1.out
 go_wp2_with fail
 refine (ris_any R.tail _ [46] _).mono ?_
 rintro e wi1 ⟨rfl, hb⟩
 replace B := hI (B.out.trans (hb.mono B.out.size))
 clear hb
 clear b1 c10 c11 c12
 cases hq : isT [46] R.tail with
 | false =>
  have Q1 := hI hq
  clear hq
  have X := hI (X0.out.below B.out)
  go_wp2_with (with_reducible refine at_store_ (t := 54) ?_; refine Hid.out ?_)
  refine hI ?_
  refine hb_put rfl _ _ rfl rfl w.heap.size rfl rfl rx_size (by simp [Value.oneCell']) X.out rfl ?_
  intro wz hxz hgz hsz
  clear hsz
  have XZ := hI hxz
  have GZ := hI hgz
  have BZ := hI (bz_of B00.out B.out hgz)
  clear hxz hgz X
  go_wp2_with fail
  refine bodyPost_ret (results_row3 rfl _ _ w.heap.size _ _ _ _ rfl XZ.out Tryz.underlying54 rfl rx_size _ _ rfl rfl) rfl ?_
  exact ⟨emE, _, _, j1, rfl, xve _ _, BZ.out, RR.bad_ (by unfold cEnd; rw [if_neg (by rw [Q1.out]; decide)]) (show AtR L j1 R.tail from by rw [J1.out]; exact A0.out.next EN.out HK.out)⟩
 | true =>
  have Q1 := hI hq
  clear hq
  obtain ⟨b2, off2, c20, c21, c22⟩ := (S0.out.below B.out).cells TK2.out
  by_cases hk2 : kindT R.tail.tail = 1
  ·have K2 := hI hk2
   rw [hk2] at c20
   clear hk2
   obtain ⟨b3, off3, c30, c31, c32⟩ := (S0.out.below B.out).cells TK3.out
   go_wp2_with fail
   refine (ris_any R.tail.tail.tail _ [40] _).mono ?_
   rintro e wi2 ⟨rfl, hb⟩
   replace B := hI (B.out.trans (hb.mono B.out.size))
   clear hb
   clear b2 c20 c21 c22
   clear b3 c30 c31 c32
   cases hq : isT [40] R.tail.tail.tail with
   | false =>
    have Q3 := hI hq
    clear hq
    have X := hI (X0.out.below B.out)
    go_wp2_with (with_reducible refine at_store_ (t := 54) ?_; refine Hid.out ?_)
    refine hI ?_
    refine hb_put rfl _ _ rfl rfl w.heap.size rfl rfl rx_size (by simp [Value.oneCell']) X.out rfl ?_
    intro wz hxz hgz hsz
    clear hsz
    have XZ := hI hxz
    have GZ := hI hgz
    have BZ := hI (bz_of B00.out B.out hgz)
    clear hxz hgz X
    go_wp2_with fail
    refine bodyPost_ret (results_row3 rfl _ _ w.heap.size _ _ _ _ rfl XZ.out Tryz.underlying54 rfl rx_size _ _ rfl rfl) rfl ?_
    exact ⟨emE, _, _, j3, rfl, xve _ _, BZ.out, RR.bad_ (by unfold cEnd; rw [if_pos Q1.out, if_pos K2.out, if_neg (by rw [Q3.out]; decide)]) (show AtR L j3 R.tail.tail.tail from by rw [J3.out]; exact kind_next K2.out (by decide) (isT_next Q1.out (A0.out.next EN.out HK.out) EN.out) EN.out)⟩
   | true =>
    have Q3 := hI hq
    clear hq
    have KA := hI (HA.out wi2 j4 J4.out (S0.out.below B.out) Q1.out K2.out Q3.out)
    go_wp2_with fail
    refine KA.out.mono ?_
    rintro e w2 ⟨l, AA, am, ac, nx, bd, rfl, hv, hb, hr⟩
    have VL := hI (hv.more (S' := fun k => w0.heap.size <= k) fun k _ hk => Nat.le_trans B.out.size hk)
    have HR := hI hr
    replace B := hI (B.out.trans (hb.mono B.out.size))
    clear hv hb hr KA
    rcases HR.out.cases with ⟨r, j, hP, rfl, rfl, hA⟩ | ⟨r, j, hP, rfl, hA⟩
    ·have AR := hI hA
     have HP := hI hP
     clear hP hA HR
     cases hT with
     | true =>
      obtain ⟨b2, off2, c20, c21, c22⟩ := (S0.out.below B.out).cells TK2.out
      have X := hI (X0.out.below B.out)
      go_wp2_with (with_reducible refine at_store_ (t := 54) ?_; refine Hid.out ?_)
      refine hI ?_
      refine hb_put rfl _ _ rfl rfl w.heap.size rfl rfl rx_size (by simp [Value.oneCell']) X.out rfl ?_
      intro wz hxz hgz hsz
      clear hsz
      have XZ := hI hxz
      have GZ := hI hgz
      have BZ := hI (bz_of B00.out B.out hgz)
      clear hxz hgz X
      go_wp2_with fail
      refine bodyPost_ret (results_row3 rfl _ _ w.heap.size _ _ _ _ rfl XZ.out Tryz.underlying54 rfl rx_size _ _ rfl rfl) rfl ?_
      exact ⟨.mk 7 0 (textT R.tail.tail) [] l [], _, j, -1, rfl, XV.shut (by unfold InR; omega) (VL.out.gr (S' := fun b => w.heap.size <= b) GZ.out (fun b _ (hb : w0.heap.size <= b) => ⟨by have := HSZ.out; omega, by have := HSZ.out; omega⟩)) (XL.nil_ _ _), BZ.out, RR.ok_ (by unfold cEnd; rw [if_pos Q1.out, if_pos K2.out, if_pos Q3.out, if_pos HT.out.symm, HP.out]; rfl) AR.out⟩
     | false =>
      obtain ⟨sn, hsn⟩ : ∃ z, z = textT R := ⟨_, rfl⟩
      obtain ⟨sm, hsm⟩ : ∃ z, z = textT R.tail.tail := ⟨_, rfl⟩
      have HSN := hI hsn
      have HSM := hI hsm
      obtain ⟨b0, off0, -, d0, -⟩ := (S0.out.below B.out.drew).cells TK0.out
      obtain ⟨b2, off2, -, d2, -⟩ := (S0.out.below B.out.drew).cells TK2.out
      obtain ⟨wa, hwa⟩ : ∃ W, W = w2.alloc (.cells #[.int .i64 0, .int .i64 0, .string { data := #[] }, .string { data := #[] }, .slice none 0 0, .slice none 0 0] 54) := ⟨_, rfl⟩
      have hba : Below w2.heap.size w2 wa := by rw [hwa]; exact (Below.refl _ _).alloc (Nat.le_refl _) _
      obtain ⟨-, off0', -, e0, -⟩ := (S0.out.below (B.out.trans (hba.mono B.out.size)).drew).cells TK0.out
      obtain ⟨-, off2', -, e2, -⟩ := (S0.out.below (B.out.trans (hba.mono B.out.size)).drew).cells TK2.out
      rw [<- hsn] at d0 e0
      rw [<- hsm] at d2 e2
      rw [hwa] at e0 e2
      obtain ⟨we, hwe⟩ : ∃ W, W = w2.alloc (.cells #[.int .i64 6, .int .i64 0, .string (bs sn), .string (bs sm), .slice AA am ac, .slice none 0 0] 54) := ⟨_, rfl⟩
      have hbe : Below w2.heap.size w2 we := by rw [hwe]; exact (Below.refl _ _).alloc (Nat.le_refl _) _
      have E0 := hI (show HB 54 we.drew w2.heap.size #[.int .i64 6, .int .i64 0, .string (bs sn), .string (bs sm), .slice AA am ac, .slice none 0 0] from by rw [hwe]; exact heap_alloc_new w2 _)
      have HOE := hI B.out.size
      replace VL := hI ((VL.out.more (S' := fun k => w0.heap.size <= k /\ k ≠ w2.heap.size) fun k hk hk2 => ⟨hk2, by omega⟩).below hbe.drew)
      replace B := hI (B.out.trans (hbe.drew.mono B.out.size))
      clear hsn hsm hwa hba hbe
      go_upto_region 13 with fail
      go_region
      rw [<- hwe]
      clear hwe d0 e0 d2 e2 b0 b2
      generalize w2.heap.size = eb at *
      generalize we.drew = wf at *
      obtain ⟨b0, off0, c00, c01, c02⟩ := (S0.out.below B.out).cells AR.out.k
      go_wp2_with fail
      refine (ris_any r _ [101, 108, 115, 101] _).mono ?_
      rintro e wi3 ⟨rfl, hb⟩
      replace VL := hI (VL.out.below hb)
      replace E0 := hI (E0.out.below hb)
      replace B := hI (B.out.trans (hb.mono B.out.size))
      clear hb
      clear b0 c00 c01 c02
      cases hq : isT [101, 108, 115, 101] r with
      | false =>
       have Q4 := hI hq
       clear hq
       go_wp2_with (with_reducible refine at_load_ (t := 54) ?_; refine Hid.out ?_)
       refine hI ?_
       refine wpList_load_row rfl _ _ rfl eb rfl _ _ _ _ E0.out Tryz.underlying54 rfl rx_size ?_
       have X := hI (X0.out.below B.out)
       go_wp2_with (with_reducible refine at_store_ (t := 54) ?_; refine Hid.out ?_)
       refine hI ?_
       refine hb_put rfl _ _ rfl rfl w.heap.size rfl rfl rx_size (by simp [Value.oneCell']) X.out rfl ?_
       intro wz hxz hgz hsz
       clear hsz
       have XZ := hI hxz
       have GZ := hI hgz
       have BZ := hI (bz_of B00.out B.out hgz)
       clear hxz hgz X
       go_wp2_with fail
       refine bodyPost_ret (results_row3 rfl _ _ w.heap.size _ _ _ _ rfl XZ.out Tryz.underlying54 rfl rx_size _ _ rfl rfl) rfl ?_
       exact ⟨.mk 6 0 sn sm l [], _, j, -1, rfl, XV.shut (by unfold InR; omega) (VL.out.gr (S' := fun b => w.heap.size <= b) GZ.out (fun b _ (hb : w0.heap.size <= b /\ b ≠ eb) => ⟨by have := HSZ.out; omega, by have := HSZ.out; omega⟩)) (XL.nil_ _ _), BZ.out, RR.ok_ (by unfold cEnd kEnd; rw [if_pos Q1.out, if_pos K2.out, if_pos Q3.out, if_neg (by rw [<- HT.out]; decide), HP.out, <- HSN.out, <- HSM.out]; dsimp only; rw [if_neg (by rw [show isT tElse r = false from Q4.out]; decide)]) AR.out⟩
      | true =>
       have Q4 := hI hq
       clear hq
       obtain ⟨jn, hjn⟩ : ∃ k, k = j + 1 := ⟨_, rfl⟩
       have Wjn : IntKind.i64.wrap ((j : Int) + 1) = (jn : Int) := by rw [hjn]; exact S0.out.wrap AR.out 1 (by omega)
       have Hjn := hI hjn
       clear hjn
       have KX := hI (HU.out wi3 jn r l HP.out Q4.out (S0.out.below B.out) (by rw [Hjn.out]; exact isT_next Q4.out AR.out EN.out))
       go_wp2_with fail
       refine KX.out.mono ?_
       rintro e w4 ⟨x2, cs, nx2, bd2, rfl, hv, hb, hr⟩
       obtain ⟨k2, n2, s2, m2, A2, na2, ca2, O2, no2, co2, rfl⟩ := hv.cells6
       rw [show (exC k2 n2 s2 m2 A2 na2 ca2 O2 no2 co2).toArray = #[.int .i64 k2, .int .i64 n2, .string (bs s2), .string (bs m2), .slice A2 na2 ca2, .slice O2 no2 co2] from rfl]
       obtain ⟨v4, hv4⟩ : ∃ W, W = w4.alloc (.cells #[.int .i64 k2, .int .i64 n2, .string (bs s2), .string (bs m2), .slice A2 na2 ca2, .slice O2 no2 co2] 54) := ⟨_, rfl⟩
       have hb2 : Below w4.heap.size w4 v4 := by rw [hv4]; exact (Below.refl _ _).alloc (Nat.le_refl _) _
       have HR2 := hI hr
       have YB2 := hI (show HB 54 v4 w4.heap.size #[.int .i64 k2, .int .i64 n2, .string (bs s2), .string (bs m2), .slice A2 na2 ca2, .slice O2 no2 co2] from by rw [hv4]; exact heap_alloc_new w4 _)
       have HO2 := hI (show w0.heap.size <= w4.heap.size from Nat.le_trans B.out.size hb.size)
       have V2 := hI ((hv.more (S' := fun k => w0.heap.size <= k /\ k ≠ eb) fun k _ hk => ⟨Nat.le_trans B.out.size hk, fun e => by have := E0.out.lt; omega⟩).below hb2)
       replace VL := hI (VL.out.below hb)
       replace E0 := hI (E0.out.below hb)
       replace B := hI (B.out.trans (hb.mono B.out.size))
       replace VL := hI (VL.out.below hb2)
       replace E0 := hI (E0.out.below hb2)
       replace B := hI (B.out.trans (hb2.mono B.out.size))
       clear hv hb hr hb2 KX
       go_upto_region 16 with fail
       rw [<- hv4]
       clear hv4
       generalize w4.heap.size = yb2 at *
       rcases HR2.out.cases with ⟨r', j', hP', rfl, rfl, hA'⟩ | ⟨r', j', hP', rfl, hA'⟩
       ·have AR2 := hI hA'
        have HP2 := hI hP'
        clear hP' hA' HR2
        go_wp2_with (with_reducible refine at_load_ (t := 54) ?_; refine Hid.out ?_)
        refine hI ?_
        refine wpList_load_row rfl _ _ rfl yb2 rfl _ _ _ _ YB2.out Tryz.underlying54 rfl rx_size ?_
        obtain ⟨wv, hwv⟩ : ∃ W, W = v4.alloc (.cells #[.int .i64 k2, .int .i64 n2, .string (bs s2), .string (bs m2), .slice A2 na2 ca2, .slice O2 no2 co2] 54) := ⟨_, rfl⟩
        have hbv : Below v4.heap.size v4 wv := by rw [hwv]; exact (Below.refl _ _).alloc (Nat.le_refl _) _
        have hrv : HB 54 wv v4.heap.size #[.int .i64 k2, .int .i64 n2, .string (bs s2), .string (bs m2), .slice A2 na2 ca2, .slice O2 no2 co2] := by rw [hwv]; exact heap_alloc_new v4 _
        have VO := hI (XL.one (S := fun k => w0.heap.size <= k /\ k ≠ eb) (V2.out.below hbv) hrv ⟨B.out.size, fun e => by have := E0.out.lt; omega⟩)
        replace VL := hI (VL.out.below hbv)
        replace E0 := hI (E0.out.below hbv)
        replace B := hI (B.out.trans (hbv.mono B.out.size))
        have cE : wv.cell? ⟨eb, 5, none⟩ = some (.slice none 0 0) := by rw [cell_of_row _ _ _ _ _ _ E0.out]; rfl
        have fE : wv.frozen? ⟨eb, 5, none⟩ = false := by simp [World.frozen?, show wv.heap[eb]? = _ from E0.out]
        have E5 := hI (E0.out.set 5 (.slice (some ⟨v4.heap.size, 0, none⟩) 1 1))
        have g9 := gr_put wv eb 5 (.slice (some ⟨v4.heap.size, 0, none⟩) 1 1)
        obtain h0 := B.out
        clear B
        have B := hI (h0.trans (below_gr g9 h0.size HOE.out))
        have VL5 := hI (VL.out.gr (S' := fun b => w0.heap.size <= b) g9 (fun b _ (hb : w0.heap.size <= b /\ b ≠ eb) => ⟨hb.2, hb.1⟩))
        have VO5 := hI (VO.out.gr (S' := fun b => w0.heap.size <= b) g9 (fun b _ (hb : w0.heap.size <= b /\ b ≠ eb) => ⟨hb.2, hb.1⟩))
        rw [hwv] at cE fE
        clear h0 hbv hrv VL VO V2 E0 g9
        go_wp2_with (with_reducible refine at_load_ (t := 54) ?_; refine Hid.out ?_)
        refine hI ?_
        rw [<- hwv]
        clear hwv cE fE
        generalize v4.heap.size = ob at *
        generalize wv.setCell ⟨eb, 5, none⟩ (.slice (some ⟨ob, 0, none⟩) 1 1) = w9 at *
        refine wpList_load_row rfl _ _ rfl eb rfl _ _ _ _ E5.out Tryz.underlying54 rfl rx_size ?_
        have X := hI (X0.out.below B.out)
        go_wp2_with (with_reducible refine at_store_ (t := 54) ?_; refine Hid.out ?_)
        refine hI ?_
        refine hb_put rfl _ _ rfl rfl w.heap.size rfl rfl rx_size (by simp [Value.oneCell']) X.out rfl ?_
        intro wz hxz hgz hsz
        clear hsz
        have XZ := hI hxz
        have GZ := hI hgz
        have BZ := hI (bz_of B00.out B.out hgz)
        clear hxz hgz X
        go_wp2_with fail
        refine bodyPost_ret (results_row3 rfl _ _ w.heap.size _ _ _ _ rfl XZ.out Tryz.underlying54 rfl rx_size _ _ rfl rfl) rfl ?_
        exact ⟨.mk 6 0 sn sm l [x2], _, j', -1, rfl, XV.shut (by unfold InR; omega) (VL5.out.gr (S' := fun b => w.heap.size <= b) GZ.out (fun b _ (hb : w0.heap.size <= b) => ⟨by have := HSZ.out; omega, by have := HSZ.out; omega⟩)) (VO5.out.gr (S' := fun b => w.heap.size <= b) GZ.out (fun b _ (hb : w0.heap.size <= b) => ⟨by have := HSZ.out; omega, by have := HSZ.out; omega⟩)), BZ.out, RR.ok_ (by unfold cEnd kEnd; rw [if_pos Q1.out, if_pos K2.out, if_pos Q3.out, if_neg (by rw [<- HT.out]; decide), HP.out, <- HSN.out, <- HSM.out]; dsimp only; rw [if_pos (show isT tElse r = true from Q4.out), HP2.out]) AR2.out⟩
       have AR2 := hI hA'
       have HP2 := hI hP'
       clear hP' hA' HR2
       have eb2 : (0 : Int) <= (j' : Int) := by omega
       go_wp2_with (with_reducible refine at_load_ (t := 54) ?_; refine Hid.out ?_)
       refine hI ?_
       refine wpList_load_row rfl _ _ rfl eb rfl _ _ _ _ E0.out Tryz.underlying54 rfl rx_size ?_
       have X := hI (X0.out.below B.out)
       go_wp2_with (with_reducible refine at_store_ (t := 54) ?_; refine Hid.out ?_)
       refine hI ?_
       refine hb_put rfl _ _ rfl rfl w.heap.size rfl rfl rx_size (by simp [Value.oneCell']) X.out rfl ?_
       intro wz hxz hgz hsz
       clear hsz
       have XZ := hI hxz
       have GZ := hI hgz
       have BZ := hI (bz_of B00.out B.out hgz)
       clear hxz hgz X
       go_wp2_with fail
       refine bodyPost_ret (results_row3 rfl _ _ w.heap.size _ _ _ _ rfl XZ.out Tryz.underlying54 rfl rx_size _ _ rfl rfl) rfl ?_
       exact ⟨.mk 6 0 sn sm l [], _, _, j', rfl, XV.shut (by unfold InR; omega) (VL.out.gr (S' := fun b => w.heap.size <= b) GZ.out (fun b _ (hb : w0.heap.size <= b /\ b ≠ eb) => ⟨by have := HSZ.out; omega, by have := HSZ.out; omega⟩)) (XL.nil_ _ _), BZ.out, RR.bad_ (by unfold cEnd kEnd; rw [if_pos Q1.out, if_pos K2.out, if_pos Q3.out, if_neg (by rw [<- HT.out]; decide), HP.out, <- HSN.out, <- HSM.out]; dsimp only; rw [if_pos (show isT tElse r = true from Q4.out), HP2.out]) AR2.out⟩
    have AR := hI hA
    have HP := hI hP
    clear hP hA HR
    have eb : (0 : Int) <= (j : Int) := by omega
    have X := hI (X0.out.below B.out)
    go_wp2_with (with_reducible refine at_store_ (t := 54) ?_; refine Hid.out ?_)
    refine hI ?_
    refine hb_put rfl _ _ rfl rfl w.heap.size rfl rfl rx_size (by simp [Value.oneCell']) X.out rfl ?_
    intro wz hxz hgz hsz
    clear hsz
    have XZ := hI hxz
    have GZ := hI hgz
    have BZ := hI (bz_of B00.out B.out hgz)
    clear hxz hgz X
    go_wp2_with fail
    refine bodyPost_ret (results_row3 rfl _ _ w.heap.size _ _ _ _ rfl XZ.out Tryz.underlying54 rfl rx_size _ _ rfl rfl) rfl ?_
    exact ⟨emE, _, _, j, rfl, xve _ _, BZ.out, RR.bad_ (by unfold cEnd; rw [if_pos Q1.out, if_pos K2.out, if_pos Q3.out, HP.out]; split <;> rfl) AR.out⟩
  have e1 : (kindT R.tail.tail != 1) = true := by simpa using hk2
  have e2 : decide (kindT R.tail.tail = 1) = false := by simpa using hk2
  have K2 := hI hk2
  clear hk2
  have X := hI (X0.out.below B.out)
  go_wp2_with (with_reducible refine at_store_ (t := 54) ?_; refine Hid.out ?_)
  refine hI ?_
  refine hb_put rfl _ _ rfl rfl w.heap.size rfl rfl rx_size (by simp [Value.oneCell']) X.out rfl ?_
  intro wz hxz hgz hsz
  clear hsz
  have XZ := hI hxz
  have GZ := hI hgz
  have BZ := hI (bz_of B00.out B.out hgz)
  clear hxz hgz X
  go_wp2_with fail
  refine bodyPost_ret (results_row3 rfl _ _ w.heap.size _ _ _ _ rfl XZ.out Tryz.underlying54 rfl rx_size _ _ rfl rfl) rfl ?_
  exact ⟨emE, _, _, j2, rfl, xve _ _, BZ.out, RR.bad_ (by unfold cEnd; rw [if_pos Q1.out, if_neg K2.out]) (show AtR L j2 R.tail.tail from by rw [J2.out]; exact isT_next Q1.out (A0.out.next EN.out HK.out) EN.out)⟩
end Go.Proofs.YtkakbidllpjopaaGreatDoor
