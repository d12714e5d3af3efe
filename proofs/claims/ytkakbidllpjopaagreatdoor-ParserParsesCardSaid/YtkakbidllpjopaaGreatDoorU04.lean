/- The walks of the parser's levels, each once for whatever the next level answers (printed by wip/genprh.py). No condition beyond the state. The walk of syntax.Expr.wrong. Conditions: the table of keywords is laid (SxW). The walk of syntax.Stmt.form (printed by wip/gensxi.py). No condition. The walks of syntax.wrong and Stmt.wrong. Conditions: the table of keywords is laid (SxW); at most 1000000 parts. The walk of Stmt.wrong (printed by wip/gensxk.py). Conditions: the table of keywords is laid (SxW); at most 1000000 parts. The walk of syntax.fresh. Conditions: the table of keywords is laid (SxW). -/
import Derived.Test.YtkakbidllpjopaaGreatDoorU03
import Derived.Test.YtkakbidllpjopaaGreatDoorU02
import Derived.Deep.CutRange
import Derived.Deep.CutBlock
import Derived.Laws.CopyOwn
set_option linter.unusedVariables false
set_option linter.unusedSimpArgs false
set_option maxRecDepth 100000
set_option maxHeartbeats 12800000
namespace Go.Proofs.YtkakbidllpjopaaGreatDoor
open Go.RowKit
theorem enter_and (args : Array Value) (w : World) : (callFunc 47 args).run Tryz.prog w = .ok (.enter 47 args) w := by
 kernel_rfl
theorem lvl_expr (L : List Lx.Tok) (A : Option Addr) (n c g : Nat) (w : World) (bad : Bool) (R : List Tk) (h : PSx L A n c g w bad R) (f : Nat)
  (hB : ∀ W R', PSx L A n c g W true R' -> Calls Tryz.prog 47 #[.pointer (some ⟨g, 0, none⟩)] W (XP L A n c g W (.bad R')))
  (hO : ∀ f', f' < f -> ∀ W R', 8 * R'.length + 2 + (4 - 0) <= f' -> PSx L A n c g W false R' -> Calls Tryz.prog 47 #[.pointer (some ⟨g, 0, none⟩)] W (XP L A n c g W (pB f' (0 + 1) R')))
  (hm : bad = false -> 8 * R.length + 2 + (5 - 0) <= f) :
  Calls Tryz.prog 23 #[.pointer (some ⟨g, 0, none⟩)] w (XP L A n c g w (if bad = true then .bad R else pB f 0 R)) := by
 obtain ⟨w0, hw0⟩ : ∃ w0, w0 = w.alloc (.cells #[.int .i64 0, .int .i64 0, .string { data := #[] }, .string { data := #[] }, .slice none 0 0, .slice none 0 0] 27) := ⟨_, rfl⟩
 have hb0 : Below w.heap.size w w0 := by rw [hw0]; exact (Below.refl _ _).alloc (Nat.le_refl _) _
 have X0 := hI (show XB w0 w.heap.size #[.int .i64 0, .int .i64 0, .string { data := #[] }, .string { data := #[] }, .slice none 0 0, .slice none 0 0] from by rw [hw0]; exact heap_alloc_new w _)
 obtain ⟨w1, hw1⟩ : ∃ w1, w1 = w0.alloc (.cells #[.string { data := #[111, 114] }] 9) := ⟨_, rfl⟩
 have hb1 : Below w0.heap.size w0 w1 := by rw [hw1]; exact (Below.refl _ _).alloc (Nat.le_refl _) _
 have hq : w1.heap[w0.heap.size]? = some (.cells ((sgnsAt 0).map fun s => Value.string (bs s)).toArray 9 (0, 0)) := by rw [hw1]; exact heap_alloc_new w0 _
 have hs0 : w0.heap.size = w.heap.size + 1 := by rw [hw0]; exact World.size_alloc ..
 have K := hI (left_gen L A n c g w1 bad R ((h.next hb0).next hb1) 0 f 47 w0.heap.size (by decide) (by have := h.lt; omega) hq hB hO hm (enter_and))
 have X1 := hI (X0.out.below hb1)
 have G1 := hI (gr_below (Below.grown_ hb0 (some g)) hb1)
 have TBs := hI h.base
 have HGL := hI h.lt
 have HS1 := hI (show w.heap.size < w1.heap.size from X1.out.lt)
 generalize hPZ : (if bad = true then Res.bad R else pB f 0 R) = PZ at *
 clear h hB hO hm hb0 hb1 hq hs0 X0 hPZ
 go_enter Tryz.func23, Tryz.ntmps23
 go_upto_region 1 with fail
 rw [<- hw0]
 clear hw0
 go_wp2_with (with_reducible refine at_store_ (t := 27) ?_; refine Hid.out ?_)
 rw [<- hw1]
 clear hw1
 refine K.out.mono ?_
 rintro e w2 ⟨x, cs, rfl, hx, hg, hP⟩
 have XA := hI (X1.out.gr hg (by have := HGL.out; omega))
 have GA := hI (World.grownBy.trans G1.out hg)
 have HX := hI (hx.more (S' := fun b => w.heap.size < b) fun b _ (hb : w1.heap.size <= b) => by have := HS1.out; omega)
 have HP := hI hP
 clear hx hg hP K X1 G1
 go_wp2_with (with_reducible refine at_store_ (t := 27) ?_; refine Hid.out ?_)
 refine hI ?_
 refine xb_put rfl _ _ rfl rfl w.heap.size rfl rfl HX.out.six XA.out rfl ?_
 intro wz hxz hgz hsz
 clear hsz
 have XZ := hI hxz
 have GZ := hI (gr_step (B := 0) GA.out hgz (Nat.le_refl _))
 have HXZ := hI (HX.out.gr (S' := fun b => w.heap.size <= b) hgz (fun b _ (hb : w.heap.size < b) => ⟨by omega, by omega⟩))
 have HPZ := hI (Res.is_imp (x := x) (P := PZ) (Q := fun b r => PSx L A n c g w2 b r) HP.out fun b r h => h.other TBs.out hgz (Nat.le_refl _))
 clear hxz hgz XA GA HX HP
 go_wp2_with fail
 refine bodyPost_ret (xb_ret rfl _ _ w.heap.size _ rfl XZ.out HXZ.out.six.1) rfl ?_
 exact ⟨_, _, rfl, HXZ.out, GZ.out, HPZ.out⟩
theorem enter_comparison (args : Array Value) (w : World) : (callFunc 81 args).run Tryz.prog w = .ok (.enter 81 args) w := by
 kernel_rfl
theorem lvl_and (L : List Lx.Tok) (A : Option Addr) (n c g : Nat) (w : World) (bad : Bool) (R : List Tk) (h : PSx L A n c g w bad R) (f : Nat)
  (hB : ∀ W R', PSx L A n c g W true R' -> Calls Tryz.prog 81 #[.pointer (some ⟨g, 0, none⟩)] W (XP L A n c g W (.bad R')))
  (hO : ∀ f', f' < f -> ∀ W R', 8 * R'.length + 2 + (4 - 1) <= f' -> PSx L A n c g W false R' -> Calls Tryz.prog 81 #[.pointer (some ⟨g, 0, none⟩)] W (XP L A n c g W (pB f' (1 + 1) R')))
  (hm : bad = false -> 8 * R.length + 2 + (5 - 1) <= f) :
  Calls Tryz.prog 47 #[.pointer (some ⟨g, 0, none⟩)] w (XP L A n c g w (if bad = true then .bad R else pB f 1 R)) := by
 obtain ⟨w0, hw0⟩ : ∃ w0, w0 = w.alloc (.cells #[.int .i64 0, .int .i64 0, .string { data := #[] }, .string { data := #[] }, .slice none 0 0, .slice none 0 0] 27) := ⟨_, rfl⟩
 have hb0 : Below w.heap.size w w0 := by rw [hw0]; exact (Below.refl _ _).alloc (Nat.le_refl _) _
 have X0 := hI (show XB w0 w.heap.size #[.int .i64 0, .int .i64 0, .string { data := #[] }, .string { data := #[] }, .slice none 0 0, .slice none 0 0] from by rw [hw0]; exact heap_alloc_new w _)
 obtain ⟨w1, hw1⟩ : ∃ w1, w1 = w0.alloc (.cells #[.string { data := #[97, 110, 100] }] 9) := ⟨_, rfl⟩
 have hb1 : Below w0.heap.size w0 w1 := by rw [hw1]; exact (Below.refl _ _).alloc (Nat.le_refl _) _
 have hq : w1.heap[w0.heap.size]? = some (.cells ((sgnsAt 1).map fun s => Value.string (bs s)).toArray 9 (0, 0)) := by rw [hw1]; exact heap_alloc_new w0 _
 have hs0 : w0.heap.size = w.heap.size + 1 := by rw [hw0]; exact World.size_alloc ..
 have K := hI (left_gen L A n c g w1 bad R ((h.next hb0).next hb1) 1 f 81 w0.heap.size (by decide) (by have := h.lt; omega) hq hB hO hm (enter_comparison))
 have X1 := hI (X0.out.below hb1)
 have G1 := hI (gr_below (Below.grown_ hb0 (some g)) hb1)
 have TBs := hI h.base
 have HGL := hI h.lt
 have HS1 := hI (show w.heap.size < w1.heap.size from X1.out.lt)
 generalize hPZ : (if bad = true then Res.bad R else pB f 1 R) = PZ at *
 clear h hB hO hm hb0 hb1 hq hs0 X0 hPZ
 go_enter Tryz.func47, Tryz.ntmps47
 go_upto_region 1 with fail
 rw [<- hw0]
 clear hw0
 go_wp2_with (with_reducible refine at_store_ (t := 27) ?_; refine Hid.out ?_)
 rw [<- hw1]
 clear hw1
 refine K.out.mono ?_
 rintro e w2 ⟨x, cs, rfl, hx, hg, hP⟩
 have XA := hI (X1.out.gr hg (by have := HGL.out; omega))
 have GA := hI (World.grownBy.trans G1.out hg)
 have HX := hI (hx.more (S' := fun b => w.heap.size < b) fun b _ (hb : w1.heap.size <= b) => by have := HS1.out; omega)
 have HP := hI hP
 clear hx hg hP K X1 G1
 go_wp2_with (with_reducible refine at_store_ (t := 27) ?_; refine Hid.out ?_)
 refine hI ?_
 refine xb_put rfl _ _ rfl rfl w.heap.size rfl rfl HX.out.six XA.out rfl ?_
 intro wz hxz hgz hsz
 clear hsz
 have XZ := hI hxz
 have GZ := hI (gr_step (B := 0) GA.out hgz (Nat.le_refl _))
 have HXZ := hI (HX.out.gr (S' := fun b => w.heap.size <= b) hgz (fun b _ (hb : w.heap.size < b) => ⟨by omega, by omega⟩))
 have HPZ := hI (Res.is_imp (x := x) (P := PZ) (Q := fun b r => PSx L A n c g w2 b r) HP.out fun b r h => h.other TBs.out hgz (Nat.le_refl _))
 clear hxz hgz XA GA HX HP
 go_wp2_with fail
 refine bodyPost_ret (xb_ret rfl _ _ w.heap.size _ rfl XZ.out HXZ.out.six.1) rfl ?_
 exact ⟨_, _, rfl, HXZ.out, GZ.out, HPZ.out⟩
theorem enter_sum (args : Array Value) (w : World) : (callFunc 105 args).run Tryz.prog w = .ok (.enter 105 args) w := by
 kernel_rfl
theorem lvl_comparison (L : List Lx.Tok) (A : Option Addr) (n c g : Nat) (w : World) (bad : Bool) (R : List Tk) (h : PSx L A n c g w bad R) (f : Nat)
  (hB : ∀ W R', PSx L A n c g W true R' -> Calls Tryz.prog 105 #[.pointer (some ⟨g, 0, none⟩)] W (XP L A n c g W (.bad R')))
  (hO : ∀ f', f' < f -> ∀ W R', 8 * R'.length + 2 + (4 - 2) <= f' -> PSx L A n c g W false R' -> Calls Tryz.prog 105 #[.pointer (some ⟨g, 0, none⟩)] W (XP L A n c g W (pB f' (2 + 1) R')))
  (hm : bad = false -> 8 * R.length + 2 + (5 - 2) <= f) :
  Calls Tryz.prog 81 #[.pointer (some ⟨g, 0, none⟩)] w (XP L A n c g w (if bad = true then .bad R else pB f 2 R)) := by
 obtain ⟨w0, hw0⟩ : ∃ w0, w0 = w.alloc (.cells #[.int .i64 0, .int .i64 0, .string { data := #[] }, .string { data := #[] }, .slice none 0 0, .slice none 0 0] 27) := ⟨_, rfl⟩
 have hb0 : Below w.heap.size w w0 := by rw [hw0]; exact (Below.refl _ _).alloc (Nat.le_refl _) _
 have X0 := hI (show XB w0 w.heap.size #[.int .i64 0, .int .i64 0, .string { data := #[] }, .string { data := #[] }, .slice none 0 0, .slice none 0 0] from by rw [hw0]; exact heap_alloc_new w _)
 obtain ⟨w1, hw1⟩ : ∃ w1, w1 = w0.alloc (.cells #[.string { data := #[61, 61] }, .string { data := #[33, 61] }, .string { data := #[60] }, .string { data := #[60, 61] }, .string { data := #[62] }, .string { data := #[62, 61] }] 9) := ⟨_, rfl⟩
 have hb1 : Below w0.heap.size w0 w1 := by rw [hw1]; exact (Below.refl _ _).alloc (Nat.le_refl _) _
 have hq : w1.heap[w0.heap.size]? = some (.cells ((sgnsAt 2).map fun s => Value.string (bs s)).toArray 9 (0, 0)) := by rw [hw1]; exact heap_alloc_new w0 _
 have hs0 : w0.heap.size = w.heap.size + 1 := by rw [hw0]; exact World.size_alloc ..
 have K := hI (left_gen L A n c g w1 bad R ((h.next hb0).next hb1) 2 f 105 w0.heap.size (by decide) (by have := h.lt; omega) hq hB hO hm (enter_sum))
 have X1 := hI (X0.out.below hb1)
 have G1 := hI (gr_below (Below.grown_ hb0 (some g)) hb1)
 have TBs := hI h.base
 have HGL := hI h.lt
 have HS1 := hI (show w.heap.size < w1.heap.size from X1.out.lt)
 generalize hPZ : (if bad = true then Res.bad R else pB f 2 R) = PZ at *
 clear h hB hO hm hb0 hb1 hq hs0 X0 hPZ
 go_enter Tryz.func81, Tryz.ntmps81
 go_upto_region 1 with fail
 rw [<- hw0]
 clear hw0
 go_wp2_with (with_reducible refine at_store_ (t := 27) ?_; refine Hid.out ?_)
 rw [<- hw1]
 clear hw1
 refine K.out.mono ?_
 rintro e w2 ⟨x, cs, rfl, hx, hg, hP⟩
 have XA := hI (X1.out.gr hg (by have := HGL.out; omega))
 have GA := hI (World.grownBy.trans G1.out hg)
 have HX := hI (hx.more (S' := fun b => w.heap.size < b) fun b _ (hb : w1.heap.size <= b) => by have := HS1.out; omega)
 have HP := hI hP
 clear hx hg hP K X1 G1
 go_wp2_with (with_reducible refine at_store_ (t := 27) ?_; refine Hid.out ?_)
 refine hI ?_
 refine xb_put rfl _ _ rfl rfl w.heap.size rfl rfl HX.out.six XA.out rfl ?_
 intro wz hxz hgz hsz
 clear hsz
 have XZ := hI hxz
 have GZ := hI (gr_step (B := 0) GA.out hgz (Nat.le_refl _))
 have HXZ := hI (HX.out.gr (S' := fun b => w.heap.size <= b) hgz (fun b _ (hb : w.heap.size < b) => ⟨by omega, by omega⟩))
 have HPZ := hI (Res.is_imp (x := x) (P := PZ) (Q := fun b r => PSx L A n c g w2 b r) HP.out fun b r h => h.other TBs.out hgz (Nat.le_refl _))
 clear hxz hgz XA GA HX HP
 go_wp2_with fail
 refine bodyPost_ret (xb_ret rfl _ _ w.heap.size _ rfl XZ.out HXZ.out.six.1) rfl ?_
 exact ⟨_, _, rfl, HXZ.out, GZ.out, HPZ.out⟩
theorem enter_product (args : Array Value) (w : World) : (callFunc 128 args).run Tryz.prog w = .ok (.enter 128 args) w := by
 kernel_rfl
theorem lvl_sum (L : List Lx.Tok) (A : Option Addr) (n c g : Nat) (w : World) (bad : Bool) (R : List Tk) (h : PSx L A n c g w bad R) (f : Nat)
  (hB : ∀ W R', PSx L A n c g W true R' -> Calls Tryz.prog 128 #[.pointer (some ⟨g, 0, none⟩)] W (XP L A n c g W (.bad R')))
  (hO : ∀ f', f' < f -> ∀ W R', 8 * R'.length + 2 + (4 - 3) <= f' -> PSx L A n c g W false R' -> Calls Tryz.prog 128 #[.pointer (some ⟨g, 0, none⟩)] W (XP L A n c g W (pB f' (3 + 1) R')))
  (hm : bad = false -> 8 * R.length + 2 + (5 - 3) <= f) :
  Calls Tryz.prog 105 #[.pointer (some ⟨g, 0, none⟩)] w (XP L A n c g w (if bad = true then .bad R else pB f 3 R)) := by
 obtain ⟨w0, hw0⟩ : ∃ w0, w0 = w.alloc (.cells #[.int .i64 0, .int .i64 0, .string { data := #[] }, .string { data := #[] }, .slice none 0 0, .slice none 0 0] 27) := ⟨_, rfl⟩
 have hb0 : Below w.heap.size w w0 := by rw [hw0]; exact (Below.refl _ _).alloc (Nat.le_refl _) _
 have X0 := hI (show XB w0 w.heap.size #[.int .i64 0, .int .i64 0, .string { data := #[] }, .string { data := #[] }, .slice none 0 0, .slice none 0 0] from by rw [hw0]; exact heap_alloc_new w _)
 obtain ⟨w1, hw1⟩ : ∃ w1, w1 = w0.alloc (.cells #[.string { data := #[43] }, .string { data := #[45] }] 9) := ⟨_, rfl⟩
 have hb1 : Below w0.heap.size w0 w1 := by rw [hw1]; exact (Below.refl _ _).alloc (Nat.le_refl _) _
 have hq : w1.heap[w0.heap.size]? = some (.cells ((sgnsAt 3).map fun s => Value.string (bs s)).toArray 9 (0, 0)) := by rw [hw1]; exact heap_alloc_new w0 _
 have hs0 : w0.heap.size = w.heap.size + 1 := by rw [hw0]; exact World.size_alloc ..
 have K := hI (left_gen L A n c g w1 bad R ((h.next hb0).next hb1) 3 f 128 w0.heap.size (by decide) (by have := h.lt; omega) hq hB hO hm (enter_product))
 have X1 := hI (X0.out.below hb1)
 have G1 := hI (gr_below (Below.grown_ hb0 (some g)) hb1)
 have TBs := hI h.base
 have HGL := hI h.lt
 have HS1 := hI (show w.heap.size < w1.heap.size from X1.out.lt)
 generalize hPZ : (if bad = true then Res.bad R else pB f 3 R) = PZ at *
 clear h hB hO hm hb0 hb1 hq hs0 X0 hPZ
 go_enter Tryz.func105, Tryz.ntmps105
 go_upto_region 1 with fail
 rw [<- hw0]
 clear hw0
 go_wp2_with (with_reducible refine at_store_ (t := 27) ?_; refine Hid.out ?_)
 rw [<- hw1]
 clear hw1
 refine K.out.mono ?_
 rintro e w2 ⟨x, cs, rfl, hx, hg, hP⟩
 have XA := hI (X1.out.gr hg (by have := HGL.out; omega))
 have GA := hI (World.grownBy.trans G1.out hg)
 have HX := hI (hx.more (S' := fun b => w.heap.size < b) fun b _ (hb : w1.heap.size <= b) => by have := HS1.out; omega)
 have HP := hI hP
 clear hx hg hP K X1 G1
 go_wp2_with (with_reducible refine at_store_ (t := 27) ?_; refine Hid.out ?_)
 refine hI ?_
 refine xb_put rfl _ _ rfl rfl w.heap.size rfl rfl HX.out.six XA.out rfl ?_
 intro wz hxz hgz hsz
 clear hsz
 have XZ := hI hxz
 have GZ := hI (gr_step (B := 0) GA.out hgz (Nat.le_refl _))
 have HXZ := hI (HX.out.gr (S' := fun b => w.heap.size <= b) hgz (fun b _ (hb : w.heap.size < b) => ⟨by omega, by omega⟩))
 have HPZ := hI (Res.is_imp (x := x) (P := PZ) (Q := fun b r => PSx L A n c g w2 b r) HP.out fun b r h => h.other TBs.out hgz (Nat.le_refl _))
 clear hxz hgz XA GA HX HP
 go_wp2_with fail
 refine bodyPost_ret (xb_ret rfl _ _ w.heap.size _ rfl XZ.out HXZ.out.six.1) rfl ?_
 exact ⟨_, _, rfl, HXZ.out, GZ.out, HPZ.out⟩
theorem enter_unary (args : Array Value) (w : World) : (callFunc 135 args).run Tryz.prog w = .ok (.enter 135 args) w := by
 kernel_rfl
theorem lvl_product (L : List Lx.Tok) (A : Option Addr) (n c g : Nat) (w : World) (bad : Bool) (R : List Tk) (h : PSx L A n c g w bad R) (f : Nat)
  (hB : ∀ W R', PSx L A n c g W true R' -> Calls Tryz.prog 135 #[.pointer (some ⟨g, 0, none⟩)] W (XP L A n c g W (.bad R')))
  (hO : ∀ f', f' < f -> ∀ W R', 8 * R'.length + 2 + (4 - 4) <= f' -> PSx L A n c g W false R' -> Calls Tryz.prog 135 #[.pointer (some ⟨g, 0, none⟩)] W (XP L A n c g W (pB f' (4 + 1) R')))
  (hm : bad = false -> 8 * R.length + 2 + (5 - 4) <= f) :
  Calls Tryz.prog 128 #[.pointer (some ⟨g, 0, none⟩)] w (XP L A n c g w (if bad = true then .bad R else pB f 4 R)) := by
 obtain ⟨w0, hw0⟩ : ∃ w0, w0 = w.alloc (.cells #[.int .i64 0, .int .i64 0, .string { data := #[] }, .string { data := #[] }, .slice none 0 0, .slice none 0 0] 27) := ⟨_, rfl⟩
 have hb0 : Below w.heap.size w w0 := by rw [hw0]; exact (Below.refl _ _).alloc (Nat.le_refl _) _
 have X0 := hI (show XB w0 w.heap.size #[.int .i64 0, .int .i64 0, .string { data := #[] }, .string { data := #[] }, .slice none 0 0, .slice none 0 0] from by rw [hw0]; exact heap_alloc_new w _)
 obtain ⟨w1, hw1⟩ : ∃ w1, w1 = w0.alloc (.cells #[.string { data := #[42] }, .string { data := #[47] }, .string { data := #[37] }] 9) := ⟨_, rfl⟩
 have hb1 : Below w0.heap.size w0 w1 := by rw [hw1]; exact (Below.refl _ _).alloc (Nat.le_refl _) _
 have hq : w1.heap[w0.heap.size]? = some (.cells ((sgnsAt 4).map fun s => Value.string (bs s)).toArray 9 (0, 0)) := by rw [hw1]; exact heap_alloc_new w0 _
 have hs0 : w0.heap.size = w.heap.size + 1 := by rw [hw0]; exact World.size_alloc ..
 have K := hI (left_gen L A n c g w1 bad R ((h.next hb0).next hb1) 4 f 135 w0.heap.size (by decide) (by have := h.lt; omega) hq hB hO hm (enter_unary))
 have X1 := hI (X0.out.below hb1)
 have G1 := hI (gr_below (Below.grown_ hb0 (some g)) hb1)
 have TBs := hI h.base
 have HGL := hI h.lt
 have HS1 := hI (show w.heap.size < w1.heap.size from X1.out.lt)
 generalize hPZ : (if bad = true then Res.bad R else pB f 4 R) = PZ at *
 clear h hB hO hm hb0 hb1 hq hs0 X0 hPZ
 go_enter Tryz.func128, Tryz.ntmps128
 go_upto_region 1 with fail
 rw [<- hw0]
 clear hw0
 go_wp2_with (with_reducible refine at_store_ (t := 27) ?_; refine Hid.out ?_)
 rw [<- hw1]
 clear hw1
 refine K.out.mono ?_
 rintro e w2 ⟨x, cs, rfl, hx, hg, hP⟩
 have XA := hI (X1.out.gr hg (by have := HGL.out; omega))
 have GA := hI (World.grownBy.trans G1.out hg)
 have HX := hI (hx.more (S' := fun b => w.heap.size < b) fun b _ (hb : w1.heap.size <= b) => by have := HS1.out; omega)
 have HP := hI hP
 clear hx hg hP K X1 G1
 go_wp2_with (with_reducible refine at_store_ (t := 27) ?_; refine Hid.out ?_)
 refine hI ?_
 refine xb_put rfl _ _ rfl rfl w.heap.size rfl rfl HX.out.six XA.out rfl ?_
 intro wz hxz hgz hsz
 clear hsz
 have XZ := hI hxz
 have GZ := hI (gr_step (B := 0) GA.out hgz (Nat.le_refl _))
 have HXZ := hI (HX.out.gr (S' := fun b => w.heap.size <= b) hgz (fun b _ (hb : w.heap.size < b) => ⟨by omega, by omega⟩))
 have HPZ := hI (Res.is_imp (x := x) (P := PZ) (Q := fun b r => PSx L A n c g w2 b r) HP.out fun b r h => h.other TBs.out hgz (Nat.le_refl _))
 clear hxz hgz XA GA HX HP
 go_wp2_with fail
 refine bodyPost_ret (xb_ret rfl _ _ w.heap.size _ rfl XZ.out HXZ.out.six.1) rfl ?_
 exact ⟨_, _, rfl, HXZ.out, GZ.out, HPZ.out⟩
open Go.RowKit
theorem cells8 {w : World} {g : Nat} {t : TypeId} {fr : Nat × Nat} {a0 a1 a2 a3 a4 a5 a6 a7 : Value} (h : w.heap[g]? = some (.cells #[a0, a1, a2, a3, a4, a5, a6, a7] t fr)) :
  w.cell? ⟨g, 0, none⟩ = some a0 /\ w.cell? ⟨g, 1, none⟩ = some a1 /\ w.cell? ⟨g, 2, none⟩ = some a2 /\ w.cell? ⟨g, 3, none⟩ = some a3 /\ w.cell? ⟨g, 4, none⟩ = some a4 /\ w.cell? ⟨g, 5, none⟩ = some a5 /\ w.cell? ⟨g, 6, none⟩ = some a6 /\ w.cell? ⟨g, 7, none⟩ = some a7 := by
 refine ⟨?_, ?_, ?_, ?_, ?_, ?_, ?_, ?_⟩ <;> (rw [cell_of_row _ _ _ _ _ _ h]; rfl)
theorem lt_alloc (w : World) (X : Obj) : w.heap.size < (w.alloc X).heap.size := by show _ < (w.heap.push X).size; rw [Array.size_push]; exact Nat.lt_succ_self _
theorem Bz.alloc {w0 w : World} (h : Bz w0 w) (X : Obj) : Bz w0 (w.alloc X) := ⟨h.b.alloc h.b.size X⟩
def ruleZ : Array Value := #[.bool false, .bool false, .bool false, .bool false, .bool false, .int .i64 0, .int .i64 0, .int .i64 0]
section
variable {a : Act} {w : World} {K : Act -> World -> Prop} {Q : Exit -> Act -> World -> Prop} {o : Oper}
theorem wp_alloc_rule (ho : o.op = .alloc 193) (k : K (a.put o.dst (.pointer (some ⟨w.heap.size, 0, none⟩))) (w.alloc (.cells ruleZ 193))) : o.wp Tryz.prog a w K Q := by
 unfold Oper.wp execOp
 simp only [ho]
 simp [Instr.alloc, Result.andThen]
 exact k
theorem rule_size : (Tryz.prog.info? 193).map (·.size) = some 8 := by kernel_rfl
theorem wp_put_rule {p0 p1 p2 b3 b4 : Bool} {g lo hi : Int} (x y : Operand) (ho : o.op = .store 193 x y) (b : Nat) (hx : a.eval x = .pointer (some ⟨b, 0, none⟩)) (hy : a.eval y = .agg #[.bool p0, .bool p1, .bool p2, .bool b3, .bool b4, .int .i64 g, .int .i64 lo, .int .i64 hi])
  (h0 : w.heap[b]? = some (.cells ruleZ 193 (0, 0))) (k : ∀ w', w'.heap[b]? = some (.cells #[.bool p0, .bool p1, .bool p2, .bool b3, .bool b4, .int .i64 g, .int .i64 lo, .int .i64 hi] 193 (0, 0)) -> (∀ w0, w0.heap.size <= b -> Bz w0 w -> Bz w0 w') -> K (a.put o.dst undef) w') : o.wp Tryz.prog a w K Q :=
 wp_store_row 193 x y ho b _ hx hy 193 _ h0 rule_size rfl (by simp [Value.oneCell']) (k _ (setRow_heap _ _ _ _ _ _ h0) (fun w0 h1 h2 => ⟨below_setRow h2.b h1 _⟩))
end
/-- One expression's error, as a call: what Expr.wrong's walk shows. -/
def WrongAt (e : Ex) : Prop := ∀ (d : Int) (w : World) (S : Nat -> Prop) (cs : List Value), 0 <= d -> d <= 4611686018427387904 -> SxW w -> XV w S e cs ->
 Calls Tryz.prog 124 #[.agg cs.toArray, .int .i64 d] w fun e' w' => e' = .returned (.int .i64 (chkE d e)) /\ Below w.heap.size w w'
theorem exprWrong_head (e : Ex) (d : Int) (w : World) (S : Nat -> Prop) (cs : List Value) (hd : 12 < d) (hx : XV w S e cs) :
  Calls Tryz.prog 124 #[.agg cs.toArray, .int .i64 d] w fun e' w' => e' = .returned (.int .i64 18) /\ Below w.heap.size w w' := by
 obtain ⟨k, n, s, m, a, o⟩ := e
 obtain ⟨A, na, ca, O, no, co, rfl, hA, hO⟩ := hx.open_
 clear hx hA hO
 unfold exC
 go_enter Tryz.func124, Tryz.ntmps124
 go_wp2
 go_ret
 exact ⟨rfl, (Below.refl _ _).alloc (Nat.le_refl _) _⟩
theorem exprWrong_kind (k n : Int) (s m : Str) (a o : List Ex) (d : Int) (w : World) (S : Nat -> Prop) (cs : List Value) (hd : ¬ 12 < d) (hk : k < 0 ∨ 7 < k) (hx : XV w S (.mk k n s m a o) cs) :
  Calls Tryz.prog 124 #[.agg cs.toArray, .int .i64 d] w fun e' w' => e' = .returned (.int .i64 2) /\ Below w.heap.size w w' := by
 obtain ⟨A, na, ca, O, no, co, rfl, hA, hO⟩ := hx.open_
 clear hx hA hO
 unfold exC
 rcases Classical.em (k < 0) with h0 | h0
 ·clear hk
  go_enter Tryz.func124, Tryz.ntmps124
  go_wp2
  go_ret
  exact ⟨rfl, (Below.refl _ _).alloc (Nat.le_refl _) _⟩
 have h7 : 7 < k := by omega
 clear hk
 go_enter Tryz.func124, Tryz.ntmps124
 go_wp2
 go_ret
 exact ⟨rfl, (Below.refl _ _).alloc (Nat.le_refl _) _⟩
theorem meas_up (q n : Nat) (h : q < n) : n - (intOf (.int .i64 ((q + 1 : Nat) : Int))).toNat < n - (intOf (.int .i64 (q : Int))).toNat := by simp [intOf]; omega
theorem chkEs_take_ok {d : Int} : ∀ {l : List Ex} {q : Nat} {x : Ex}, l[q]? = some x -> chkEs d (l.take q) = 0 -> chkE d x = 0 -> chkEs d (l.take (q + 1)) = 0
 | [], q, x, h, _, _ => by simp at h
 | e :: t, 0, x, h, _, h2 => by
  obtain rfl : e = x := by simpa using h
  simp [chkEs, h2]
 | e :: t, q + 1, x, h, h1, h2 => by
  rw [List.take_succ_cons, chkEs] at h1 ⊢
  split at h1
  ·exact absurd h1 (by assumption)
  rename_i h3
  rw [if_neg h3]
  exact chkEs_take_ok (by simpa using h) h1 h2
theorem chkEs_take_bad {d : Int} : ∀ {l : List Ex} {q : Nat} {x : Ex}, l[q]? = some x -> chkEs d (l.take q) = 0 -> chkE d x ≠ 0 -> chkEs d l = chkE d x
 | [], q, x, h, _, _ => by simp at h
 | e :: t, 0, x, h, _, h2 => by
  obtain rfl : e = x := by simpa using h
  simp [chkEs, h2]
 | e :: t, q + 1, x, h, h1, h2 => by
  rw [List.take_succ_cons, chkEs] at h1
  rw [chkEs]
  split at h1
  ·exact absurd h1 (by assumption)
  rename_i h3
  rw [if_neg h3]
  exact chkEs_take_bad (by simpa using h) h1 h2
theorem chkE_head {d : Int} {e : Ex} (h : headE d e ≠ 0) : chkE d e = headE d e := by
 obtain ⟨k, n, s, m, a, o⟩ := e
 rw [chkE, if_pos h]
theorem chkE_parts {d : Int} {k n : Int} {s m : Str} {a o : List Ex} (h : headE d (.mk k n s m a o) = 0) : chkE d (.mk k n s m a o) = if chkEs (d + 1) a ≠ 0 then chkEs (d + 1) a else chkEs (d + 1) o := by
 rw [chkE, if_neg (by simp [h])]
theorem formE_mk (k n : Int) (s m : Str) (a o : List Ex) : formE (.mk k n s m a o) = (if k = 0 ∨ k = 1 then s == [] && m == [] && decide (a.length = 0) && decide (o.length = 0)
 else if k = 2 then decide (n = 0) && m == [] && decide (a.length = 0) && decide (o.length = 0)
 else if k = 3 ∨ k = 4 then decide (n = 0) && s == [] && m == [] && decide (a.length = 1) && decide (o.length = 0)
 else if k = 5 then decide (n = 0) && s == [] && sgns.contains m && decide (a.length = 2) && decide (o.length = 0)
 else if k = 6 then decide (n = 0) && decide (a.length <= 4) && decide (o.length <= 1)
 else decide (n = 0) && m == [] && decide (a.length <= 4) && decide (o.length = 0)) := rfl
theorem formE_len {k n : Int} {s m : Str} {a o : List Ex} (h : formE (.mk k n s m a o) = true) : a.length <= 4 /\ o.length <= 4 := by
 rw [formE_mk] at h
 by_cases h0 : k = 0 ∨ k = 1
 ·rw [if_pos h0] at h; simp only [Bool.and_eq_true, decide_eq_true_eq] at h; omega
 rw [if_neg h0] at h
 by_cases h2 : k = 2
 ·rw [if_pos h2] at h; simp only [Bool.and_eq_true, decide_eq_true_eq] at h; omega
 rw [if_neg h2] at h
 by_cases h3 : k = 3 ∨ k = 4
 ·rw [if_pos h3] at h; simp only [Bool.and_eq_true, decide_eq_true_eq] at h; omega
 rw [if_neg h3] at h
 by_cases h5 : k = 5
 ·rw [if_pos h5] at h; simp only [Bool.and_eq_true, decide_eq_true_eq] at h; omega
 rw [if_neg h5] at h
 by_cases h6 : k = 6
 ·rw [if_pos h6] at h; simp only [Bool.and_eq_true, decide_eq_true_eq] at h; omega
 rw [if_neg h6] at h; simp only [Bool.and_eq_true, decide_eq_true_eq] at h; omega
theorem headE_len {d k n : Int} {s m : Str} {a o : List Ex} (h : headE d (.mk k n s m a o) = 0) : a.length <= 4 /\ o.length <= 4 := by
 unfold headE at h
 by_cases h1 : 12 < d
 ·rw [if_pos h1] at h; cases h
 rw [if_neg h1] at h
 by_cases h2 : (Ex.mk k n s m a o).kind < 0 ∨ 7 < (Ex.mk k n s m a o).kind
 ·rw [if_pos h2] at h; cases h
 rw [if_neg h2] at h
 cases hf : formE (.mk k n s m a o) with
 | false => rw [if_pos hf] at h; cases h
 | true => exact formE_len hf
theorem headE_cases (j : Nat) (hj : j < 8) (n : Int) (s m : Str) (a o : List Ex) (d g : Int) (hd : ¬ 12 < d) (hn : InR n) (hg0 : j = 0 -> g = 9223372036854775807) (hg1 : j = 1 -> g = 1) {f : Bool} (hf : f = formE (.mk (j : Int) n s m a o)) :
  (f = false -> headE d (.mk (j : Int) n s m a o) = 5) /\ (f = true -> decide (j = 2 ∨ 6 <= j) = true -> nameOk s = false -> headE d (.mk (j : Int) n s m a o) = 16) /\ (f = true -> decide (j = 6) = true -> nameOk m = false -> headE d (.mk (j : Int) n s m a o) = 16) /\
  (f = true -> (decide (j = 2 ∨ 6 <= j) = true -> nameOk s = true) -> (decide (j = 6) = true -> nameOk m = true) -> decide (j <= 1) = true -> (n < 0 ∨ g < n) -> headE d (.mk (j : Int) n s m a o) = 3) /\
  (f = true -> (decide (j = 2 ∨ 6 <= j) = true -> nameOk s = true) -> (decide (j = 6) = true -> nameOk m = true) -> (decide (j <= 1) = true -> ¬ n < 0 /\ ¬ g < n) -> headE d (.mk (j : Int) n s m a o) = 0) := by
 unfold InR at hn
 have h0 : ¬ ((j : Int) < 0 ∨ 7 < (j : Int)) := by omega
 simp only [decide_eq_true_eq]
 have hh : headE d (.mk (j : Int) n s m a o) = if 12 < d then 18 else if (j : Int) < 0 ∨ 7 < (j : Int) then 2 else if f = false then 5 else if (((j : Int) = 2 ∨ 6 <= (j : Int)) /\ nameOk s = false) ∨ ((j : Int) = 6 /\ nameOk m = false) then 16 else if (j : Int) <= 1 /\ (n < 0 ∨ ((j : Int) = 1 /\ 1 < n)) then 3 else 0 := by
  rw [hf]; rfl
 rw [hh, if_neg hd, if_neg h0]
 clear hh hf
 refine ⟨fun h => by rw [if_pos h], fun h h1 h2 => ?_, fun h h1 h2 => ?_, fun h h1 h2 h3 h4 => ?_, fun h h1 h2 h3 => ?_⟩
 ·rw [if_neg (by simp [h]), if_pos (.inl ⟨by omega, h2⟩)]
 ·rw [if_neg (by simp [h]), if_pos (.inr ⟨by omega, h2⟩)]
 ·rw [if_neg (by simp [h]), if_neg, if_pos]
  ·refine ⟨by omega, ?_⟩
   rcases h4 with h4 | h4
   ·exact .inl h4
   right
   have hj1 : j = 0 ∨ j = 1 := by omega
   rcases hj1 with rfl | rfl
   ·rw [hg0 rfl] at h4; omega
   rw [hg1 rfl] at h4; exact ⟨by omega, h4⟩
  rintro (⟨h5, h6⟩ | ⟨h5, h6⟩)
  ·rw [h1 (by omega)] at h6; cases h6
  rw [h2 (by omega)] at h6; cases h6
 rw [if_neg (by simp [h]), if_neg, if_neg]
 ·rintro ⟨h5, h6⟩
  obtain ⟨h7, h8⟩ := h3 (by omega)
  rcases h6 with h6 | ⟨h6, h9⟩
  ·exact h7 h6
  rw [hg1 (by omega)] at h8; exact h8 h9
 rintro (⟨h5, h6⟩ | ⟨h5, h6⟩)
 ·rw [h1 (by omega)] at h6; cases h6
 rw [h2 (by omega)] at h6; cases h6
/-- One step: the parts' errors are known. -/
theorem exprWrong_mid (j : Nat) (hj : j < 8) (n : Int) (s m : Str) (a o : List Ex) (ih : ∀ e ∈ a ++ o, WrongAt e) (d : Int) (w : World) (S : Nat -> Prop) (cs : List Value) (hd0 : 0 <= d) (hd : ¬ 12 < d) (hw : SxW w) (hx : XV w S (.mk (j : Int) n s m a o) cs) :
  Calls Tryz.prog 124 #[.agg cs.toArray, .int .i64 d] w fun e' w' => e' = .returned (.int .i64 (chkE d (.mk (j : Int) n s m a o))) /\ Below w.heap.size w w' := by
 obtain ⟨A, na, ca, O, no, co, rfl, hA, hO⟩ := hx.open_
 have KF := hI (fun W => form_any j hj n s m A na ca O no co a o W hA.1.1 hO.1.1)
 have hn := hx.num
 have KR := hI rules_any
 obtain ⟨b3, b4, g, lo, hi, hr, hg0, hg1⟩ := rule_fields j hj
 have kx : ∀ W, (Instr.index 194 (.agg rulesC) (.int .i64 (j : Int))).run Tryz.prog W = .ok (.agg (ruleC j)) W := fun W => rule_at j hj W
 rw [hr] at kx KF
 clear hr
 obtain ⟨F, hf⟩ : ∃ F, F = formE (.mk (j : Int) n s m a o) := ⟨_, rfl⟩
 rw [<- hf] at KF
 obtain ⟨E, hE⟩ : ∃ E, E = chkE d (.mk (j : Int) n s m a o) := ⟨_, rfl⟩
 rw [<- hE]
 have HE := hI hE
 have HG := hI (And.intro hg0 hg1)
 have HJ := hI hj
 have HA := hI hA
 have HO := hI hO
 have HI := hI ih
 have HWS := hI hw
 have HH := headE_cases j hj n s m a o d g hd hn hg0 hg1 hf
 have HP1 : (decide (j = 2 ∨ 6 <= j) = true -> decide (j <= 1) = false) /\ (decide (j = 2 ∨ 6 <= j) = false -> decide (j = 6) = false) := by
  simp
  omega
 have KS := hI (fun W h => isName_any s W h)
 have KM := hI (fun W h => isName_any m W h)
 clear hf
 generalize decide (j <= 1) = P0 at *
 generalize decide (j = 2 ∨ 6 <= j) = P1 at *
 generalize decide (j = 6) = P2 at *
 generalize nameOk s = QS at *
 generalize nameOk m = QM at *
 obtain ⟨p0, e0⟩ : ∃ p, P0 = p := ⟨_, rfl⟩
 obtain ⟨p1, e1⟩ : ∃ p, P1 = p := ⟨_, rfl⟩
 obtain ⟨p2, e2⟩ : ∃ p, P2 = p := ⟨_, rfl⟩
 obtain ⟨f, ef⟩ : ∃ p, F = p := ⟨_, rfl⟩
 obtain ⟨qs, es⟩ : ∃ p, QS = p := ⟨_, rfl⟩
 obtain ⟨qm, em⟩ : ∃ p, QM = p := ⟨_, rfl⟩
 rw [e0, e1, e2] at kx
 rw [e0, e1, e2, ef] at KF
 rw [es] at KS
 rw [em] at KM
 have HH2 := hI HH
 have HP2 := hI HP1
 clear HH HP1
 have E0 := hI e0
 have E1 := hI e1
 have E2 := hI e2
 have EF := hI ef
 have ES := hI es
 have EM := hI em
 clear e0 e1 e2 ef es em
 have HW := hI (fun X (W : World) (h : Bz (w.alloc (.cells X 27)) W) => (show (∀ j v, X[j]? = some v -> W.cell? ⟨w.heap.size, j, none⟩ = some v) from by
  exact fun j v hv => cell_of_Bz h (by rw [cell_of_row _ _ _ _ _ _ (heap_alloc_new w _)]; exact hv) (lt_of_block (heap_alloc_new w _))))
 have hk0 : ¬ (j : Int) < 0 := by omega
 have hk7 : ¬ 7 < (j : Int) := by omega
 have HX := hI (show ∀ v, v ≠ 0 -> headE d (.mk (j : Int) n s m a o) = v -> E = v from fun v h1 h2 => by rw [hE, chkE_head (by rw [h2]; exact h1), h2])
 clear hn hx hA hO hj hE hg0 hg1 hw ih
 unfold exC at KF ⊢
 go_enter Tryz.func124, Tryz.ntmps124
 go_upto_region 5 with fail
 obtain ⟨W0, hW0⟩ : ∃ W0 : World, W0 = w.alloc (.cells #[.int .i64 (j : Int), .int .i64 n, .string (bs s), .string (bs m), .slice A na ca, .slice O no co] 27) := ⟨_, rfl⟩
 have HF := hI (show ∀ W, Bz W0 W -> (W.cell? ⟨w.heap.size, 0, none⟩ = some (.int .i64 (j : Int)) /\ W.cell? ⟨w.heap.size, 1, none⟩ = some (.int .i64 n) /\ W.cell? ⟨w.heap.size, 2, none⟩ = some (.string (bs s)) /\ W.cell? ⟨w.heap.size, 3, none⟩ = some (.string (bs m)) /\ W.cell? ⟨w.heap.size, 4, none⟩ = some (.slice A na ca) /\ W.cell? ⟨w.heap.size, 5, none⟩ = some (.slice O no co)) from fun W h => by
  subst hW0
  have h2 := HW.out _ W h
  exact ⟨h2 0 _ rfl, h2 1 _ rfl, h2 2 _ rfl, h2 3 _ rfl, h2 4 _ rfl, h2 5 _ rfl⟩)
 have HG0 := hI (show ∀ W, Bz W0 W -> Below w.heap.size w W from fun W h => by
  subst hW0
  have hb := (Below.refl w.heap.size w).alloc (Nat.le_refl _) (.cells #[.int .i64 (j : Int), .int .i64 n, .string (bs s), .string (bs m), .slice A na ca, .slice O no co] 27)
  exact hb.trans (h.b.mono hb.size))
 rw [<- hW0]
 clear hW0 HW
 have z0 : Bz W0 W0 := ⟨Below.refl _ _⟩
 have z1 := z0.drew
 go_cut [5] from 23 (fun v5 wx => ∃ rb, v5 = .pointer (some ⟨rb, 0, none⟩) /\ W0.heap.size <= rb /\ Bz W0 wx /\ wx.heap[rb]? = some (.cells #[.bool p0, .bool p1, .bool p2, .bool b3, .bool b4, .int .i64 g, .int .i64 lo, .int .i64 hi] 193 (0, 0)))
 case first =>
  rename_i J0 K0 hR0 hK0
  refine wp_region_held_drew (S := fun W => W.cell? ⟨w.heap.size, 0, none⟩ = some (.int .i64 (j : Int))) (by kernel_rfl) ((HF.out _ z1).1) (fun hHeld => ?_)
  refine wpAnyH_take (i := 1) (oi := ⟨some 24, _, _, _, _, _⟩) (v := .pointer (some ⟨w.heap.size, 0, none⟩)) rfl (by kernel_rfl) (by kernel_rfl) (by kernel_rfl) (fun _ _ _ h => h) (Or.inl ⟨by rfl, ?_⟩) hHeld ?_
  ·intro W hW
   go_simp
  try simp only [Act.put, sA, sB, sC]
  refine wpAnyH_take (i := 2) (oi := ⟨some 25, _, _, _, _, _⟩) (v := .int .i64 (j : Int)) rfl (by kernel_rfl) (by kernel_rfl) (by kernel_rfl) (fun _ _ _ h => h) (Or.inl ⟨by rfl, ?_⟩) hHeld ?_
  ·intro W hW
   go_simp
  try simp only [Act.put, sA, sB, sC]
  refine wpAnyH_ready (rs := [0, 4]) (by kernel_rfl) (by simp) ?_
  refine AllReadyH.cons rfl (fun K hK => ?_) (AllReadyH.cons rfl (fun K hK => ?_) AllReadyH.nil)
  ·-- the call first
   go_simp
   refine (KR.out _).mono ?_
   rintro e w1 ⟨rfl, hb⟩
   have z2 := Bz.next z1 hb
   refine hK.out _ _ ((HF.out _ z2).1) (fun hHeld2 => ?_)
   clear hK
   try simp only [Act.put, sA, sB, sC]
   refine wpAnyH_take (i := 3) (oi := ⟨some 26, _, _, _, _, _⟩) (v := .agg #[.bool p0, .bool p1, .bool p2, .bool b3, .bool b4, .int .i64 g, .int .i64 lo, .int .i64 hi]) rfl (by kernel_rfl) (by kernel_rfl) (by kernel_rfl) (fun _ _ _ h => h) (Or.inl ⟨by rfl, ?_⟩) hHeld2 ?_
   ·intro W hW
    go_simp
   try simp only [Act.put, sA, sB, sC]
   refine wpAnyH_ready (rs := [4]) (by kernel_rfl) (by simp) ?_
   refine AllReadyH.cons (o := ⟨some 5, _, _, _, _, _⟩) rfl (fun K hK => ?_) AllReadyH.nil
   refine Eq.mpr (if_pos (by kernel_rfl)) ?_
   refine wp_alloc_rule rfl ?_
   have z3 := Bz.alloc z2 (.cells ruleZ 193)
   have HQ := hI (heap_alloc_new w1 (.cells ruleZ 193))
   refine hK.out _ _ ((HF.out _ z3).1) (fun hHeld3 => ?_)
   clear hK
   try simp only [Act.put, sA, sB, sC]
   refine wpAnyH_ready (rs := [5]) (by kernel_rfl) (by simp) ?_
   refine AllReadyH.cons (o := ⟨none, _, _, _, _, _⟩) rfl (fun K hK => ?_) AllReadyH.nil
   refine Eq.mpr (if_pos (by kernel_rfl)) ?_
   refine wp_put_rule (.tmp 5) (.tmp 26) rfl w1.heap.size rfl rfl HQ.out ?_
   intro w9 hq9 hb9
   have z9 := hb9 W0 z2.b.size z3
   refine hK.out _ _ ((HF.out _ z9).1) (fun hHeld9 => ?_)
   clear hK
   try simp only [Act.put, sA, sB, sC]
   refine wpAnyH_done (by kernel_rfl) ?_ _
   refine hK0 _ _ (Met.intro (hR0 _ _ ?_))
   (repeat apply Exists.intro)
   refine ⟨?rel, rfl⟩
   case rel => exact ⟨w1.heap.size, rfl, z2.b.size, z9, hq9⟩
  -- the variable first
  refine Eq.mpr (if_pos (by kernel_rfl)) ?_
  refine wp_alloc_rule rfl ?_
  have z2 := Bz.alloc z1 (.cells ruleZ 193)
  refine hK.out _ _ ((HF.out _ z2).1) (fun hHeld2 => ?_)
  clear hK
  try simp only [Act.put, sA, sB, sC]
  refine wpAnyH_ready (rs := [0]) (by kernel_rfl) (by simp) ?_
  refine AllReadyH.cons (o := ⟨some 23, _, _, _, _, _⟩) rfl (fun K hK => ?_) AllReadyH.nil
  go_simp
  refine (KR.out _).mono ?_
  rintro e w1 ⟨rfl, hb⟩
  have z3 := Bz.next z2 hb
  have HQ := hI ((hb.block W0.heap.size (lt_alloc W0.drew _)).trans (heap_alloc_new W0.drew (.cells ruleZ 193)))
  refine hK.out _ _ ((HF.out _ z3).1) (fun hHeld3 => ?_)
  clear hK
  try simp only [Act.put, sA, sB, sC]
  refine wpAnyH_take (i := 3) (oi := ⟨some 26, _, _, _, _, _⟩) (v := .agg #[.bool p0, .bool p1, .bool p2, .bool b3, .bool b4, .int .i64 g, .int .i64 lo, .int .i64 hi]) rfl (by kernel_rfl) (by kernel_rfl) (by kernel_rfl) (fun _ _ _ h => h) (Or.inl ⟨by rfl, ?_⟩) hHeld3 ?_
  ·intro W hW
   go_simp
  try simp only [Act.put, sA, sB, sC]
  refine wpAnyH_ready (rs := [5]) (by kernel_rfl) (by simp) ?_
  refine AllReadyH.cons (o := ⟨none, _, _, _, _, _⟩) rfl (fun K hK => ?_) AllReadyH.nil
  refine Eq.mpr (if_pos (by kernel_rfl)) ?_
  refine wp_put_rule (.tmp 5) (.tmp 26) rfl W0.heap.size rfl rfl HQ.out ?_
  intro w9 hq9 hb9
  have z9 := hb9 W0 (Nat.le_refl _) z3
  refine hK.out _ _ ((HF.out _ z9).1) (fun hHeld9 => ?_)
  clear hK
  try simp only [Act.put, sA, sB, sC]
  refine wpAnyH_done (by kernel_rfl) ?_ _
  refine hK0 _ _ (Met.intro (hR0 _ _ ?_))
  (repeat apply Exists.intro)
  refine ⟨?rel, rfl⟩
  case rel => exact ⟨W0.heap.size, rfl, (Nat.le_refl _), z9, hq9⟩
 case rest =>
  obtain ⟨rb, rfl, hrb, zc, hcc⟩ := hcut
  have HK := hI (show ∀ W, Bz wc W -> _ from fun W h => cells8 ((h.b.block rb (lt_of_block hcc)).trans hcc))
  have HB := hI (show ∀ W, Bz wc W -> Bz W0 W from fun W h => zc.next h.b)
  clear hcc hrb kx KR z0 z1 zc
  have y0 : Bz wc wc := ⟨Below.refl _ _⟩
  go_upto_block 1 with fail
  go_cut [] from 23 (fun wx => Bz wc wx /\ headE d (.mk (j : Int) n s m a o) = 0)
  case first =>
   obtain ⟨q0, q1, q2, q3, q4, q5, q6, q7⟩ := HK.out _ y0
   obtain ⟨c0, c1, c2, c3, c4, c5⟩ := HF.out _ (HB.out _ y0)
   go_wp2_with fail
   refine (KF.out _).mono ?_
   rintro e w1 ⟨rfl, hb1⟩
   have y1 := Bz.next y0 hb1
   clear q0 q1 q2 q3 q4 q5 q6 q7 c0 c1 c2 c3 c4 c5 hb1 KF
   cases f with
   | false =>
    go_wp2
    go_ret
    exact ⟨congrArg (fun v => Ending.returned (.int .i64 v)) (HX.out 5 (by decide) (HH2.out.1 EF.out)).symm, HG0.out _ (HB.out _ y1)⟩
   | true =>
    obtain ⟨q0, q1, q2, q3, q4, q5, q6, q7⟩ := HK.out _ y1
    obtain ⟨c0, c1, c2, c3, c4, c5⟩ := HF.out _ (HB.out _ y1)
    cases p1 with
    | false =>
     obtain rfl : p2 = false := E2.out.symm.trans (HP2.out.2 E1.out)
     cases p0 with
     | false =>
      go_wp2
      go_meet
      case rel => exact ⟨y1, HH2.out.2.2.2.2 EF.out (fun h => by rw [E1.out] at h; cases h) (fun h => by rw [E2.out] at h; cases h) (fun h => by rw [E0.out] at h; cases h)⟩
     | true =>
      by_cases hn0 : n < 0
      ·have HN0 := hI hn0
       go_wp2
       go_ret
       exact ⟨congrArg (fun v => Ending.returned (.int .i64 v)) (HX.out 3 (by decide) (HH2.out.2.2.2.1 EF.out (fun h => by rw [E1.out] at h; cases h) (fun h => by rw [E2.out] at h; cases h) E0.out (.inl HN0.out))).symm, HG0.out _ (HB.out _ y1)⟩
      have HN0 := hI hn0
      by_cases hg : g < n
      ·have HGN := hI hg
       go_wp2
       go_ret
       exact ⟨congrArg (fun v => Ending.returned (.int .i64 v)) (HX.out 3 (by decide) (HH2.out.2.2.2.1 EF.out (fun h => by rw [E1.out] at h; cases h) (fun h => by rw [E2.out] at h; cases h) E0.out (.inr HGN.out))).symm, HG0.out _ (HB.out _ y1)⟩
      have HGN := hI hg
      go_wp2
      go_meet
      case rel => exact ⟨y1, HH2.out.2.2.2.2 EF.out (fun h => by rw [E1.out] at h; cases h) (fun h => by rw [E2.out] at h; cases h) (fun _ => ⟨HN0.out, HGN.out⟩)⟩
    | true =>
     obtain rfl : p0 = false := E0.out.symm.trans (HP2.out.1 E1.out)
     go_wp2_with fail
     refine (KS.out _ (HWS.out.below (HG0.out _ (HB.out _ y1)))).mono ?_
     rintro e w2 ⟨rfl, hb2⟩
     have y2 := Bz.next y1 hb2
     clear q0 q1 q2 q3 q4 q5 q6 q7 c0 c1 c2 c3 c4 c5 hb2
     obtain ⟨q0, q1, q2, q3, q4, q5, q6, q7⟩ := HK.out _ y2
     obtain ⟨c0, c1, c2, c3, c4, c5⟩ := HF.out _ (HB.out _ y2)
     cases qs with
     | false =>
      go_wp2
      go_ret
      exact ⟨congrArg (fun v => Ending.returned (.int .i64 v)) (HX.out 16 (by decide) (HH2.out.2.1 EF.out E1.out ES.out)).symm, HG0.out _ (HB.out _ y2)⟩
     | true =>
      cases p2 with
      | false =>
       go_wp2
       go_meet
       case rel => exact ⟨y2, HH2.out.2.2.2.2 EF.out (fun _ => ES.out) (fun h => by rw [E2.out] at h; cases h) (fun h => by rw [E0.out] at h; cases h)⟩
      | true =>
       go_wp2_with fail
       refine (KM.out _ (HWS.out.below (HG0.out _ (HB.out _ y2)))).mono ?_
       rintro e w3 ⟨rfl, hb2⟩
       have y3 := Bz.next y2 hb2
       clear q0 q1 q2 q3 q4 q5 q6 q7 c0 c1 c2 c3 c4 c5 hb2
       obtain ⟨q0, q1, q2, q3, q4, q5, q6, q7⟩ := HK.out _ y3
       obtain ⟨c0, c1, c2, c3, c4, c5⟩ := HF.out _ (HB.out _ y3)
       cases qm with
       | false =>
        go_wp2
        go_ret
        exact ⟨congrArg (fun v => Ending.returned (.int .i64 v)) (HX.out 16 (by decide) (HH2.out.2.2.1 EF.out E2.out EM.out)).symm, HG0.out _ (HB.out _ y3)⟩
       | true =>
        go_wp2
        go_meet
        case rel => exact ⟨y3, HH2.out.2.2.2.2 EF.out (fun _ => ES.out) (fun _ => EM.out) (fun h => by rw [E0.out] at h; cases h)⟩
  case rest =>
   obtain ⟨zx, hh0⟩ := hcut
   have zW := HB.out _ zx
   have HEP := hI (show E = if chkEs (d + 1) a ≠ 0 then chkEs (d + 1) a else chkEs (d + 1) o from HE.out.trans (chkE_parts hh0))
   have HLL := hI (headE_len hh0)
   clear HK HB zx hh0 HX KF HE HH2 HP2 E0 E1 E2 EF ES EM KS KM
   obtain ⟨-, -, -, -, c4, c5⟩ := HF.out _ zW
   have HG1 := hI (HG0.out _ zW)
   clear HF HG0 zW
   go_wp2_with fail
   obtain ⟨W1, hW1⟩ : ∃ W1 : World, W1 = wc.alloc (.cells #[.slice A na ca, .slice O no co] 25) := ⟨_, rfl⟩
   have HC := hI (show ∀ W, Bz W1 W -> W.cell? ⟨wc.heap.size, 0, none⟩ = some (.slice A na ca) /\ W.cell? ⟨wc.heap.size, 1, none⟩ = some (.slice O no co) from fun W h => by
    subst hW1
    exact ⟨cell_of_Bz h (by rw [cell_of_row _ _ _ _ _ _ (heap_alloc_new wc _)]; rfl) (lt_of_block (heap_alloc_new wc _)), cell_of_Bz h (by rw [cell_of_row _ _ _ _ _ _ (heap_alloc_new wc _)]; rfl) (lt_of_block (heap_alloc_new wc _))⟩)
   have HB1 := hI (show ∀ W, Bz W1 W -> Below w.heap.size w W from fun W h => by
    subst hW1
    have hb := HG1.out.alloc HG1.out.size (.cells #[.slice A na ca, .slice O no co] 25)
    exact hb.trans (h.b.mono hb.size))
   rw [<- hW1]
   clear hW1 HG1 c4 c5
   have v0 : Bz W1 W1 := ⟨Below.refl _ _⟩
   go_loopw [70] (fun i wr => ∃ k : Nat, k <= 2 /\ i = .int .i64 k /\ Hid (1 <= k -> chkEs (d + 1) a = 0) /\ Hid (2 <= k -> chkEs (d + 1) o = 0) /\ Bz W1 wr) (fun i _ => 2 - (intOf i).toNat)
   case atStart => exact ⟨0, by omega, rfl, hI (fun h => absurd h (by omega)), hI (fun h => absurd h (by omega)), v0⟩
   case round =>
    clear v0
    obtain ⟨k, hk, rfl, n1, n2, zr⟩ := hrel
    by_cases hlt : k < 2
    ·obtain ⟨A', n', c', l', hc, hX, hin, hl4, hbad, hnext⟩ : ∃ (A' : Option Addr) (n' c' : Nat) (l' : List Ex), (∀ W, Bz W1 W -> W.cell? ⟨wc.heap.size, k, none⟩ = some (.slice A' n' c')) /\ XL w S A' n' c' l' /\ (∀ e ∈ l', WrongAt e) /\ l'.length <= 4 /\ (∀ v, v ≠ 0 -> chkEs (d + 1) l' = v -> E = v) /\ (chkEs (d + 1) l' = 0 -> (1 <= k + 1 -> chkEs (d + 1) a = 0) /\ (2 <= k + 1 -> chkEs (d + 1) o = 0)) := by
      rcases (by omega : k = 0 ∨ k = 1) with rfl | rfl
      ·refine ⟨A, na, ca, a, fun W h => (HC.out W h).1, HA.out, fun e he => HI.out e (List.mem_append_left _ he), HLL.out.1, fun v h1 h2 => ?_, fun h => ⟨fun _ => h, fun h => absurd h (by omega)⟩⟩
       rw [HEP.out, h2, if_pos h1]
      refine ⟨O, no, co, o, fun W h => (HC.out W h).2, HO.out, fun e he => HI.out e (List.mem_append_right _ he), HLL.out.2, fun v h1 h2 => ?_, fun h => ⟨fun _ => n1.out (by omega), fun _ => h⟩⟩
      rw [HEP.out, if_neg (by simp [n1.out (by omega)]), h2]
     have HL := hI hX
     have HIN := hI hin
     have HBAD := hI hbad
     have HNEXT := hI hnext
     have HLEN := hI hX.1.1
     have HLT := hI hlt
     have hn4 : (n' : Int) <= 4 := by have := hX.1.1; omega
     have hi : (k : Int) < 2 := by omega
     have hcell := hc _ zr
     clear hc hX hin hbad hnext hlt hk n1 n2 hl4
     go_wp2_with fail
     go_loopw [76] (fun i wx => ∃ q : Nat, q <= l'.length /\ i = .int .i64 q /\ Hid (chkEs (d + 1) (l'.take q) = 0) /\ Bz W1 wx) (fun i _ => l'.length - (intOf i).toNat)
     case atStart => exact ⟨0, Nat.zero_le _, rfl, hI (by rw [List.take_zero, chkEs]), zr⟩
     case round =>
      clear zr
      obtain ⟨q, hq, rfl, n3, zq⟩ := hrel
      by_cases hl : q < l'.length
      ·have hi2 : (q : Int) < (n' : Int) := by have := HLEN.out; omega
       obtain ⟨x, b, off, cs, hx, rfl, hb, hS, hxv, hrow⟩ := HL.out.at q (by have := HLEN.out; omega)
       have HXV := hI hxv
       have HQL := hI hl
       have HXQ := hI hx
       have HIH := hI (HIN.out x (List.mem_of_getElem? hx))
       obtain ⟨v, hv⟩ : ∃ v, v = chkE (d + 1) x := ⟨_, rfl⟩
       have HV := hI hv
       have hrow2 := rangeAt_keep hrow ((HB1.out _ zq).block b hb)
       obtain ⟨xk, xn, xs, xm, xa, xo⟩ := x
       obtain ⟨A2, na2, ca2, O2, no2, co2, rfl, -, -⟩ := hxv.open_
       obtain ⟨e0, e1, e2, e3, e4, e5⟩ := exC_at hrow2
       clear hx hb hS hxv hrow hrow2 hl hq hv
       unfold exC at HXV
       go_wp2_with fail
       have zq1 := Bz.alloc zq (.cells #[.int .i64 xk, .int .i64 xn, .string (bs xs), .string (bs xm), .slice A2 na2 ca2, .slice O2 no2 co2] 27)
       have HC2 := HIH.out (d + 1) _ S _ (by omega) (by omega) (HWS.out.below (HB1.out _ zq1)) (HXV.out.below (HB1.out _ zq1))
       rw [<- HV.out] at HC2
       refine HC2.mono ?_
       rintro e' w2 ⟨rfl, hb2⟩
       have zq2 := zq1.next hb2
       clear HC2 hb2 e0 e1 e2 e3 e4 e5 zq zq1 HIH HXV
       by_cases hv0 : v = 0
       ·subst hv0
        go_wp2
        go_roundw
        case rel => exact ⟨q + 1, HQL.out, by go_num, hI (chkEs_take_ok HXQ.out n3.out HV.out.symm), zq2⟩
        case measure => exact meas_up _ _ HQL.out
       have HV0 := hI hv0
       have hv1 : (v != 0) = true := by simp [hv0]
       go_wp2
       go_ret
       exact ⟨congrArg (fun v => Ending.returned (.int .i64 v)) (HBAD.out v HV0.out ((chkEs_take_bad HXQ.out n3.out (by rw [<- HV.out]; exact HV0.out)).trans HV.out.symm)).symm, HB1.out _ zq2⟩
      have hi2 : ¬ (q : Int) < (n' : Int) := by have := HLEN.out; omega
      have HQ2 := hI (show chkEs (d + 1) l' = 0 by rw [<- n3.out, List.take_of_length_le (by omega)])
      clear hl hq n3
      go_wp2
      go_roundw
      case rel => exact ⟨k + 1, HLT.out, by go_num, hI (HNEXT.out HQ2.out).1, hI (HNEXT.out HQ2.out).2, zq⟩
      case measure => exact meas_up _ _ HLT.out
    have hi : ¬ (k : Int) < 2 := by omega
    have HK2 := hI (show 1 <= k /\ 2 <= k by omega)
    go_wp2
    go_ret
    refine ⟨congrArg (fun v => Ending.returned (.int .i64 v)) ?_, HB1.out _ zr⟩
    rw [HEP.out, if_neg (by simp [n1.out HK2.out.1]), n2.out HK2.out.2]
theorem exprWrong_any (e : Ex) : WrongAt e := by
 obtain ⟨N, hN⟩ : ∃ N, N = e.size := ⟨_, rfl⟩
 induction N using Nat.strongRecOn generalizing e with
 | _ N ih =>
  intro d w S cs hd0 hdb hw hx
  by_cases hd : 12 < d
  ·have h1 : headE d e = 18 := by unfold headE; rw [if_pos hd]
   rw [chkE_head (by rw [h1]; decide), h1]
   exact exprWrong_head e d w S cs hd hx
  obtain ⟨k, n, s, m, a, o⟩ := e
  by_cases hk : k < 0 ∨ 7 < k
  ·have h1 : headE d (.mk k n s m a o) = 2 := by
    unfold headE
    rw [if_neg hd]
    exact if_pos hk
   rw [chkE_head (by rw [h1]; decide), h1]
   exact exprWrong_kind k n s m a o d w S cs hd hk hx
  obtain ⟨j, rfl⟩ : ∃ j : Nat, k = j := ⟨k.toNat, by omega⟩
  refine exprWrong_mid j (by omega) n s m a o (fun x hx => ih x.size ?_ x rfl) d w S cs hd0 hd hw hx
  rw [hN, Ex.size]
  rcases List.mem_append.1 hx with h | h
  ·have := Ex.sizes_mem h; omega
  have := Ex.sizes_mem h; omega
open Go.RowKit
/-- A statement has exactly the fields of its kind. -/
def formS (k : Int) (s : Str) (n : Int) (e : Ex) (nb nl : Nat) : Bool := decide (¬ ((¬ k <= 1 /\ s ≠ []) ∨ (¬ (k = 4 ∨ k = 6) /\ n ≠ 0) ∨ (k ≠ 3 /\ 0 < nl) ∨ (k ≠ 3 /\ k ≠ 4 /\ 0 < nb) ∨ (hasX k = false /\ emptyE e = false) ∨ (k = 2 /\ e.kind ≠ 6 /\ e.kind ≠ 7)))
theorem st_cells {w w1 : World} {t : TypeId} {v0 v1 v2 v3 v4 v5 v6 v7 v8 v9 v10 : Value} (h : w1.heap[w.heap.size]? = some (.cells #[v0, v1, v2, v3, v4, v5, v6, v7, v8, v9, v10] t (0, 0))) :
  w1.cell? ⟨w.heap.size, 0, none⟩ = some v0 /\ w1.cell? ⟨w.heap.size, 1, none⟩ = some v1 /\ w1.cell? ⟨w.heap.size, 2, none⟩ = some v2 /\ w1.cell? ⟨w.heap.size, 3, none⟩ = some v3 /\ w1.cell? ⟨w.heap.size, 4, none⟩ = some v4 /\ w1.cell? ⟨w.heap.size, 5, none⟩ = some v5 /\ w1.cell? ⟨w.heap.size, 6, none⟩ = some v6 /\ w1.cell? ⟨w.heap.size, 7, none⟩ = some v7 /\ w1.cell? ⟨w.heap.size, 8, none⟩ = some v8 /\ w1.cell? ⟨w.heap.size, 9, none⟩ = some v9 /\ w1.cell? ⟨w.heap.size, 10, none⟩ = some v10 := by
 refine ⟨?_, ?_, ?_, ?_, ?_, ?_, ?_, ?_, ?_, ?_, ?_⟩ <;> (rw [cell_of_row _ _ _ _ _ _ h]; rfl)
theorem formS0_any (s : Str) (n ek en : Int) (es em : Str) (A : Option Addr) (na ca : Nat) (O : Option Addr) (no co : Nat) (B : Option Addr) (nb cb : Nat) (L : Option Addr) (nl cl : Nat) (a o : List Ex) (w : World) (ha : na = a.length) (ho : no = o.length) :
  Calls Tryz.prog 121 #[.agg #[.int .i64 0, .string (bs s), .int .i64 n, .int .i64 ek, .int .i64 en, .string (bs es), .string (bs em), .slice A na ca, .slice O no co, .slice B nb cb, .slice L nl cl]] w fun e w' => e = .returned (.bool (formS 0 s n (.mk ek en es em a o) nb nl)) /\ Below w.heap.size w w' := by
 have HB := hI (fun X => (Below.refl w.heap.size w).alloc (Nat.le_refl _) X)
 obtain ⟨f, hf⟩ : ∃ f, f = formS 0 s n (.mk ek en es em a o) nb nl := ⟨_, rfl⟩
 rw [<- hf]
 have KN := hI (show ∀ W, Calls Tryz.prog 122 #[.int .i64 0] W fun e w' => e = .returned (.bool true) /\ w' = W from fun W => hasName_any 0 W)
 have KM := hI (show ∀ W, Calls Tryz.prog 136 #[.int .i64 0] W fun e w' => e = .returned (.bool false) /\ w' = W from fun W => hasNum_any 0 W)
 have KX := hI (show ∀ W, Calls Tryz.prog 123 #[.int .i64 0] W fun e w' => e = .returned (.bool true) /\ w' = W from fun W => hasExpr_any 0 W)
 have KE := hI (fun W => empty_any ek en es em A na ca O no co a o W ha ho)
 obtain ⟨q, hq⟩ : ∃ q, q = emptyE (.mk ek en es em a o) := ⟨_, rfl⟩
 rw [<- hq] at KE
 unfold formS hasX at hf
 rw [<- hq] at hf
 simp only [Ex.kind] at hf
 clear hq ha ho
 by_cases qn : n = 0
 rotate_left
 ·have qn1 : (n != 0) = true := by simp [qn]
  obtain rfl : f = false := by rw [hf]; simp [qn]
  clear hf
  go_enter Tryz.func121, Tryz.ntmps121
  go_wp2_with (first | (go_at_call 122; refine (KN.out _).mono ?_; rintro e w1 ⟨rfl, rfl⟩) | (go_at_call 136; refine (KM.out _).mono ?_; rintro e w1 ⟨rfl, rfl⟩) | (go_at_call 123; refine (KX.out _).mono ?_; rintro e w1 ⟨rfl, rfl⟩))
  go_ret
  exact ⟨rfl, HB.out _⟩
 subst qn
 by_cases ql : nl = 0
 rotate_left
 ·have ql1 : 0 < (nl : Int) := by omega
  have ql2 : 0 < nl := by omega
  obtain rfl : f = false := by rw [hf]; simp [ql, ql2]
  clear hf
  go_enter Tryz.func121, Tryz.ntmps121
  go_wp2_with (first | (go_at_call 122; refine (KN.out _).mono ?_; rintro e w1 ⟨rfl, rfl⟩) | (go_at_call 136; refine (KM.out _).mono ?_; rintro e w1 ⟨rfl, rfl⟩) | (go_at_call 123; refine (KX.out _).mono ?_; rintro e w1 ⟨rfl, rfl⟩))
  go_ret
  exact ⟨rfl, HB.out _⟩
 subst ql
 by_cases qb : nb = 0
 rotate_left
 ·have qb1 : 0 < (nb : Int) := by omega
  have qb2 : 0 < nb := by omega
  obtain rfl : f = false := by rw [hf]; simp [qb, qb2]
  clear hf
  go_enter Tryz.func121, Tryz.ntmps121
  go_wp2_with (first | (go_at_call 122; refine (KN.out _).mono ?_; rintro e w1 ⟨rfl, rfl⟩) | (go_at_call 136; refine (KM.out _).mono ?_; rintro e w1 ⟨rfl, rfl⟩) | (go_at_call 123; refine (KX.out _).mono ?_; rintro e w1 ⟨rfl, rfl⟩))
  go_ret
  exact ⟨rfl, HB.out _⟩
 subst qb
 obtain rfl : f = true := by rw [hf]; simp []
 clear hf
 go_enter Tryz.func121, Tryz.ntmps121
 go_wp2_with (first | (go_at_call 122; refine (KN.out _).mono ?_; rintro e w1 ⟨rfl, rfl⟩) | (go_at_call 136; refine (KM.out _).mono ?_; rintro e w1 ⟨rfl, rfl⟩) | (go_at_call 123; refine (KX.out _).mono ?_; rintro e w1 ⟨rfl, rfl⟩))
 go_ret
 exact ⟨rfl, HB.out _⟩
theorem formS1_any (s : Str) (n ek en : Int) (es em : Str) (A : Option Addr) (na ca : Nat) (O : Option Addr) (no co : Nat) (B : Option Addr) (nb cb : Nat) (L : Option Addr) (nl cl : Nat) (a o : List Ex) (w : World) (ha : na = a.length) (ho : no = o.length) :
  Calls Tryz.prog 121 #[.agg #[.int .i64 1, .string (bs s), .int .i64 n, .int .i64 ek, .int .i64 en, .string (bs es), .string (bs em), .slice A na ca, .slice O no co, .slice B nb cb, .slice L nl cl]] w fun e w' => e = .returned (.bool (formS 1 s n (.mk ek en es em a o) nb nl)) /\ Below w.heap.size w w' := by
 have HB := hI (fun X => (Below.refl w.heap.size w).alloc (Nat.le_refl _) X)
 obtain ⟨f, hf⟩ : ∃ f, f = formS 1 s n (.mk ek en es em a o) nb nl := ⟨_, rfl⟩
 rw [<- hf]
 have KN := hI (show ∀ W, Calls Tryz.prog 122 #[.int .i64 1] W fun e w' => e = .returned (.bool true) /\ w' = W from fun W => hasName_any 1 W)
 have KM := hI (show ∀ W, Calls Tryz.prog 136 #[.int .i64 1] W fun e w' => e = .returned (.bool false) /\ w' = W from fun W => hasNum_any 1 W)
 have KX := hI (show ∀ W, Calls Tryz.prog 123 #[.int .i64 1] W fun e w' => e = .returned (.bool true) /\ w' = W from fun W => hasExpr_any 1 W)
 have KE := hI (fun W => empty_any ek en es em A na ca O no co a o W ha ho)
 obtain ⟨q, hq⟩ : ∃ q, q = emptyE (.mk ek en es em a o) := ⟨_, rfl⟩
 rw [<- hq] at KE
 unfold formS hasX at hf
 rw [<- hq] at hf
 simp only [Ex.kind] at hf
 clear hq ha ho
 by_cases qn : n = 0
 rotate_left
 ·have qn1 : (n != 0) = true := by simp [qn]
  obtain rfl : f = false := by rw [hf]; simp [qn]
  clear hf
  go_enter Tryz.func121, Tryz.ntmps121
  go_wp2_with (first | (go_at_call 122; refine (KN.out _).mono ?_; rintro e w1 ⟨rfl, rfl⟩) | (go_at_call 136; refine (KM.out _).mono ?_; rintro e w1 ⟨rfl, rfl⟩) | (go_at_call 123; refine (KX.out _).mono ?_; rintro e w1 ⟨rfl, rfl⟩))
  go_ret
  exact ⟨rfl, HB.out _⟩
 subst qn
 by_cases ql : nl = 0
 rotate_left
 ·have ql1 : 0 < (nl : Int) := by omega
  have ql2 : 0 < nl := by omega
  obtain rfl : f = false := by rw [hf]; simp [ql, ql2]
  clear hf
  go_enter Tryz.func121, Tryz.ntmps121
  go_wp2_with (first | (go_at_call 122; refine (KN.out _).mono ?_; rintro e w1 ⟨rfl, rfl⟩) | (go_at_call 136; refine (KM.out _).mono ?_; rintro e w1 ⟨rfl, rfl⟩) | (go_at_call 123; refine (KX.out _).mono ?_; rintro e w1 ⟨rfl, rfl⟩))
  go_ret
  exact ⟨rfl, HB.out _⟩
 subst ql
 by_cases qb : nb = 0
 rotate_left
 ·have qb1 : 0 < (nb : Int) := by omega
  have qb2 : 0 < nb := by omega
  obtain rfl : f = false := by rw [hf]; simp [qb, qb2]
  clear hf
  go_enter Tryz.func121, Tryz.ntmps121
  go_wp2_with (first | (go_at_call 122; refine (KN.out _).mono ?_; rintro e w1 ⟨rfl, rfl⟩) | (go_at_call 136; refine (KM.out _).mono ?_; rintro e w1 ⟨rfl, rfl⟩) | (go_at_call 123; refine (KX.out _).mono ?_; rintro e w1 ⟨rfl, rfl⟩))
  go_ret
  exact ⟨rfl, HB.out _⟩
 subst qb
 obtain rfl : f = true := by rw [hf]; simp []
 clear hf
 go_enter Tryz.func121, Tryz.ntmps121
 go_wp2_with (first | (go_at_call 122; refine (KN.out _).mono ?_; rintro e w1 ⟨rfl, rfl⟩) | (go_at_call 136; refine (KM.out _).mono ?_; rintro e w1 ⟨rfl, rfl⟩) | (go_at_call 123; refine (KX.out _).mono ?_; rintro e w1 ⟨rfl, rfl⟩))
 go_ret
 exact ⟨rfl, HB.out _⟩
theorem formS2_any (s : Str) (n ek en : Int) (es em : Str) (A : Option Addr) (na ca : Nat) (O : Option Addr) (no co : Nat) (B : Option Addr) (nb cb : Nat) (L : Option Addr) (nl cl : Nat) (a o : List Ex) (w : World) (ha : na = a.length) (ho : no = o.length) :
  Calls Tryz.prog 121 #[.agg #[.int .i64 2, .string (bs s), .int .i64 n, .int .i64 ek, .int .i64 en, .string (bs es), .string (bs em), .slice A na ca, .slice O no co, .slice B nb cb, .slice L nl cl]] w fun e w' => e = .returned (.bool (formS 2 s n (.mk ek en es em a o) nb nl)) /\ Below w.heap.size w w' := by
 have HB := hI (fun X => (Below.refl w.heap.size w).alloc (Nat.le_refl _) X)
 obtain ⟨f, hf⟩ : ∃ f, f = formS 2 s n (.mk ek en es em a o) nb nl := ⟨_, rfl⟩
 rw [<- hf]
 have KN := hI (show ∀ W, Calls Tryz.prog 122 #[.int .i64 2] W fun e w' => e = .returned (.bool false) /\ w' = W from fun W => hasName_any 2 W)
 have KM := hI (show ∀ W, Calls Tryz.prog 136 #[.int .i64 2] W fun e w' => e = .returned (.bool false) /\ w' = W from fun W => hasNum_any 2 W)
 have KX := hI (show ∀ W, Calls Tryz.prog 123 #[.int .i64 2] W fun e w' => e = .returned (.bool true) /\ w' = W from fun W => hasExpr_any 2 W)
 have KE := hI (fun W => empty_any ek en es em A na ca O no co a o W ha ho)
 obtain ⟨q, hq⟩ : ∃ q, q = emptyE (.mk ek en es em a o) := ⟨_, rfl⟩
 rw [<- hq] at KE
 unfold formS hasX at hf
 rw [<- hq] at hf
 simp only [Ex.kind] at hf
 clear hq ha ho
 by_cases qs : s = []
 rotate_left
 ·obtain ⟨qs1, qs2⟩ := cons_facts qs
  have qs3 := beq_nil qs
  obtain rfl : f = false := by rw [hf]; simp [qs]
  clear hf
  go_enter Tryz.func121, Tryz.ntmps121
  go_wp2_with (first | (go_at_call 122; refine (KN.out _).mono ?_; rintro e w1 ⟨rfl, rfl⟩) | (go_at_call 136; refine (KM.out _).mono ?_; rintro e w1 ⟨rfl, rfl⟩) | (go_at_call 123; refine (KX.out _).mono ?_; rintro e w1 ⟨rfl, rfl⟩))
  go_ret
  exact ⟨rfl, HB.out _⟩
 obtain ⟨qs1, qs2⟩ := nil_facts qs
 subst qs
 by_cases qn : n = 0
 rotate_left
 ·have qn1 : (n != 0) = true := by simp [qn]
  obtain rfl : f = false := by rw [hf]; simp [qn]
  clear hf
  go_enter Tryz.func121, Tryz.ntmps121
  go_wp2_with (first | (go_at_call 122; refine (KN.out _).mono ?_; rintro e w1 ⟨rfl, rfl⟩) | (go_at_call 136; refine (KM.out _).mono ?_; rintro e w1 ⟨rfl, rfl⟩) | (go_at_call 123; refine (KX.out _).mono ?_; rintro e w1 ⟨rfl, rfl⟩))
  go_ret
  exact ⟨rfl, HB.out _⟩
 subst qn
 by_cases ql : nl = 0
 rotate_left
 ·have ql1 : 0 < (nl : Int) := by omega
  have ql2 : 0 < nl := by omega
  obtain rfl : f = false := by rw [hf]; simp [ql, ql2]
  clear hf
  go_enter Tryz.func121, Tryz.ntmps121
  go_wp2_with (first | (go_at_call 122; refine (KN.out _).mono ?_; rintro e w1 ⟨rfl, rfl⟩) | (go_at_call 136; refine (KM.out _).mono ?_; rintro e w1 ⟨rfl, rfl⟩) | (go_at_call 123; refine (KX.out _).mono ?_; rintro e w1 ⟨rfl, rfl⟩))
  go_ret
  exact ⟨rfl, HB.out _⟩
 subst ql
 by_cases qb : nb = 0
 rotate_left
 ·have qb1 : 0 < (nb : Int) := by omega
  have qb2 : 0 < nb := by omega
  obtain rfl : f = false := by rw [hf]; simp [qb, qb2]
  clear hf
  go_enter Tryz.func121, Tryz.ntmps121
  go_wp2_with (first | (go_at_call 122; refine (KN.out _).mono ?_; rintro e w1 ⟨rfl, rfl⟩) | (go_at_call 136; refine (KM.out _).mono ?_; rintro e w1 ⟨rfl, rfl⟩) | (go_at_call 123; refine (KX.out _).mono ?_; rintro e w1 ⟨rfl, rfl⟩))
  go_ret
  exact ⟨rfl, HB.out _⟩
 subst qb
 by_cases q6 : ek = 6
 ·subst q6
  obtain rfl : f = true := by rw [hf]; simp []
  clear hf
  go_enter Tryz.func121, Tryz.ntmps121
  go_wp2_with (first | (go_at_call 122; refine (KN.out _).mono ?_; rintro e w1 ⟨rfl, rfl⟩) | (go_at_call 136; refine (KM.out _).mono ?_; rintro e w1 ⟨rfl, rfl⟩) | (go_at_call 123; refine (KX.out _).mono ?_; rintro e w1 ⟨rfl, rfl⟩))
  go_ret
  exact ⟨rfl, HB.out _⟩
 have q61 : (ek == 6) = false := by simp [q6]
 by_cases q7 : ek = 7
 ·subst q7
  obtain rfl : f = true := by rw [hf]; simp []
  clear hf
  go_enter Tryz.func121, Tryz.ntmps121
  go_wp2_with (first | (go_at_call 122; refine (KN.out _).mono ?_; rintro e w1 ⟨rfl, rfl⟩) | (go_at_call 136; refine (KM.out _).mono ?_; rintro e w1 ⟨rfl, rfl⟩) | (go_at_call 123; refine (KX.out _).mono ?_; rintro e w1 ⟨rfl, rfl⟩))
  go_ret
  exact ⟨rfl, HB.out _⟩
 have q71 : (ek == 7) = false := by simp [q7]
 obtain rfl : f = false := by rw [hf]; simp [q6, q7]
 clear hf
 go_enter Tryz.func121, Tryz.ntmps121
 go_wp2_with (first | (go_at_call 122; refine (KN.out _).mono ?_; rintro e w1 ⟨rfl, rfl⟩) | (go_at_call 136; refine (KM.out _).mono ?_; rintro e w1 ⟨rfl, rfl⟩) | (go_at_call 123; refine (KX.out _).mono ?_; rintro e w1 ⟨rfl, rfl⟩))
 go_ret
 exact ⟨rfl, HB.out _⟩
theorem formS3_any (s : Str) (n ek en : Int) (es em : Str) (A : Option Addr) (na ca : Nat) (O : Option Addr) (no co : Nat) (B : Option Addr) (nb cb : Nat) (L : Option Addr) (nl cl : Nat) (a o : List Ex) (w : World) (ha : na = a.length) (ho : no = o.length) :
  Calls Tryz.prog 121 #[.agg #[.int .i64 3, .string (bs s), .int .i64 n, .int .i64 ek, .int .i64 en, .string (bs es), .string (bs em), .slice A na ca, .slice O no co, .slice B nb cb, .slice L nl cl]] w fun e w' => e = .returned (.bool (formS 3 s n (.mk ek en es em a o) nb nl)) /\ Below w.heap.size w w' := by
 have HB := hI (fun X => (Below.refl w.heap.size w).alloc (Nat.le_refl _) X)
 obtain ⟨f, hf⟩ : ∃ f, f = formS 3 s n (.mk ek en es em a o) nb nl := ⟨_, rfl⟩
 rw [<- hf]
 have KN := hI (show ∀ W, Calls Tryz.prog 122 #[.int .i64 3] W fun e w' => e = .returned (.bool false) /\ w' = W from fun W => hasName_any 3 W)
 have KM := hI (show ∀ W, Calls Tryz.prog 136 #[.int .i64 3] W fun e w' => e = .returned (.bool false) /\ w' = W from fun W => hasNum_any 3 W)
 have KX := hI (show ∀ W, Calls Tryz.prog 123 #[.int .i64 3] W fun e w' => e = .returned (.bool true) /\ w' = W from fun W => hasExpr_any 3 W)
 have KE := hI (fun W => empty_any ek en es em A na ca O no co a o W ha ho)
 obtain ⟨q, hq⟩ : ∃ q, q = emptyE (.mk ek en es em a o) := ⟨_, rfl⟩
 rw [<- hq] at KE
 unfold formS hasX at hf
 rw [<- hq] at hf
 simp only [Ex.kind] at hf
 clear hq ha ho
 by_cases qs : s = []
 rotate_left
 ·obtain ⟨qs1, qs2⟩ := cons_facts qs
  have qs3 := beq_nil qs
  obtain rfl : f = false := by rw [hf]; simp [qs]
  clear hf
  go_enter Tryz.func121, Tryz.ntmps121
  go_wp2_with (first | (go_at_call 122; refine (KN.out _).mono ?_; rintro e w1 ⟨rfl, rfl⟩) | (go_at_call 136; refine (KM.out _).mono ?_; rintro e w1 ⟨rfl, rfl⟩) | (go_at_call 123; refine (KX.out _).mono ?_; rintro e w1 ⟨rfl, rfl⟩))
  go_ret
  exact ⟨rfl, HB.out _⟩
 obtain ⟨qs1, qs2⟩ := nil_facts qs
 subst qs
 by_cases qn : n = 0
 rotate_left
 ·have qn1 : (n != 0) = true := by simp [qn]
  obtain rfl : f = false := by rw [hf]; simp [qn]
  clear hf
  go_enter Tryz.func121, Tryz.ntmps121
  go_wp2_with (first | (go_at_call 122; refine (KN.out _).mono ?_; rintro e w1 ⟨rfl, rfl⟩) | (go_at_call 136; refine (KM.out _).mono ?_; rintro e w1 ⟨rfl, rfl⟩) | (go_at_call 123; refine (KX.out _).mono ?_; rintro e w1 ⟨rfl, rfl⟩))
  go_ret
  exact ⟨rfl, HB.out _⟩
 subst qn
 obtain rfl : f = true := by rw [hf]; simp []
 clear hf
 go_enter Tryz.func121, Tryz.ntmps121
 go_wp2_with (first | (go_at_call 122; refine (KN.out _).mono ?_; rintro e w1 ⟨rfl, rfl⟩) | (go_at_call 136; refine (KM.out _).mono ?_; rintro e w1 ⟨rfl, rfl⟩) | (go_at_call 123; refine (KX.out _).mono ?_; rintro e w1 ⟨rfl, rfl⟩))
 go_ret
 exact ⟨rfl, HB.out _⟩
theorem formS4_any (s : Str) (n ek en : Int) (es em : Str) (A : Option Addr) (na ca : Nat) (O : Option Addr) (no co : Nat) (B : Option Addr) (nb cb : Nat) (L : Option Addr) (nl cl : Nat) (a o : List Ex) (w : World) (ha : na = a.length) (ho : no = o.length) :
  Calls Tryz.prog 121 #[.agg #[.int .i64 4, .string (bs s), .int .i64 n, .int .i64 ek, .int .i64 en, .string (bs es), .string (bs em), .slice A na ca, .slice O no co, .slice B nb cb, .slice L nl cl]] w fun e w' => e = .returned (.bool (formS 4 s n (.mk ek en es em a o) nb nl)) /\ Below w.heap.size w w' := by
 have HB := hI (fun X => (Below.refl w.heap.size w).alloc (Nat.le_refl _) X)
 obtain ⟨f, hf⟩ : ∃ f, f = formS 4 s n (.mk ek en es em a o) nb nl := ⟨_, rfl⟩
 rw [<- hf]
 have KN := hI (show ∀ W, Calls Tryz.prog 122 #[.int .i64 4] W fun e w' => e = .returned (.bool false) /\ w' = W from fun W => hasName_any 4 W)
 have KM := hI (show ∀ W, Calls Tryz.prog 136 #[.int .i64 4] W fun e w' => e = .returned (.bool true) /\ w' = W from fun W => hasNum_any 4 W)
 have KX := hI (show ∀ W, Calls Tryz.prog 123 #[.int .i64 4] W fun e w' => e = .returned (.bool false) /\ w' = W from fun W => hasExpr_any 4 W)
 have KE := hI (fun W => empty_any ek en es em A na ca O no co a o W ha ho)
 obtain ⟨q, hq⟩ : ∃ q, q = emptyE (.mk ek en es em a o) := ⟨_, rfl⟩
 rw [<- hq] at KE
 unfold formS hasX at hf
 rw [<- hq] at hf
 simp only [Ex.kind] at hf
 clear hq ha ho
 by_cases qs : s = []
 rotate_left
 ·obtain ⟨qs1, qs2⟩ := cons_facts qs
  have qs3 := beq_nil qs
  obtain rfl : f = false := by rw [hf]; simp [qs]
  clear hf
  go_enter Tryz.func121, Tryz.ntmps121
  go_wp2_with (first | (go_at_call 122; refine (KN.out _).mono ?_; rintro e w1 ⟨rfl, rfl⟩) | (go_at_call 136; refine (KM.out _).mono ?_; rintro e w1 ⟨rfl, rfl⟩) | (go_at_call 123; refine (KX.out _).mono ?_; rintro e w1 ⟨rfl, rfl⟩))
  go_ret
  exact ⟨rfl, HB.out _⟩
 obtain ⟨qs1, qs2⟩ := nil_facts qs
 subst qs
 cases q with
 | false =>
  obtain rfl : f = false := by rw [hf]; simp []
  clear hf
  go_enter Tryz.func121, Tryz.ntmps121
  go_wp2_with (first | (go_at_call 122; refine (KN.out _).mono ?_; rintro e w1 ⟨rfl, rfl⟩) | (go_at_call 136; refine (KM.out _).mono ?_; rintro e w1 ⟨rfl, rfl⟩) | (go_at_call 123; refine (KX.out _).mono ?_; rintro e w1 ⟨rfl, rfl⟩))
  refine (KE.out _).mono ?_
  rintro e w1 ⟨rfl, hb⟩
  obtain ⟨c0, c1, c2, c3, c4, c5, c6, c7, c8, c9, c10⟩ := st_cells ((hb.block w.heap.size (lt_alloc w _)).trans (heap_alloc_new w _))
  have HZ := hI (below_new hb)
  clear hb
  go_wp2_with (first | (go_at_call 122; refine (KN.out _).mono ?_; rintro e w1 ⟨rfl, rfl⟩) | (go_at_call 136; refine (KM.out _).mono ?_; rintro e w1 ⟨rfl, rfl⟩) | (go_at_call 123; refine (KX.out _).mono ?_; rintro e w1 ⟨rfl, rfl⟩))
  go_ret
  exact ⟨rfl, HZ.out⟩
 | true =>
  by_cases ql : nl = 0
  rotate_left
  ·have ql1 : 0 < (nl : Int) := by omega
   have ql2 : 0 < nl := by omega
   obtain rfl : f = false := by rw [hf]; simp [ql, ql2]
   clear hf
   go_enter Tryz.func121, Tryz.ntmps121
   go_wp2_with (first | (go_at_call 122; refine (KN.out _).mono ?_; rintro e w1 ⟨rfl, rfl⟩) | (go_at_call 136; refine (KM.out _).mono ?_; rintro e w1 ⟨rfl, rfl⟩) | (go_at_call 123; refine (KX.out _).mono ?_; rintro e w1 ⟨rfl, rfl⟩))
   refine (KE.out _).mono ?_
   rintro e w1 ⟨rfl, hb⟩
   obtain ⟨c0, c1, c2, c3, c4, c5, c6, c7, c8, c9, c10⟩ := st_cells ((hb.block w.heap.size (lt_alloc w _)).trans (heap_alloc_new w _))
   have HZ := hI (below_new hb)
   clear hb
   go_wp2_with (first | (go_at_call 122; refine (KN.out _).mono ?_; rintro e w1 ⟨rfl, rfl⟩) | (go_at_call 136; refine (KM.out _).mono ?_; rintro e w1 ⟨rfl, rfl⟩) | (go_at_call 123; refine (KX.out _).mono ?_; rintro e w1 ⟨rfl, rfl⟩))
   go_ret
   exact ⟨rfl, HZ.out⟩
  subst ql
  obtain rfl : f = true := by rw [hf]; simp []
  clear hf
  go_enter Tryz.func121, Tryz.ntmps121
  go_wp2_with (first | (go_at_call 122; refine (KN.out _).mono ?_; rintro e w1 ⟨rfl, rfl⟩) | (go_at_call 136; refine (KM.out _).mono ?_; rintro e w1 ⟨rfl, rfl⟩) | (go_at_call 123; refine (KX.out _).mono ?_; rintro e w1 ⟨rfl, rfl⟩))
  refine (KE.out _).mono ?_
  rintro e w1 ⟨rfl, hb⟩
  obtain ⟨c0, c1, c2, c3, c4, c5, c6, c7, c8, c9, c10⟩ := st_cells ((hb.block w.heap.size (lt_alloc w _)).trans (heap_alloc_new w _))
  have HZ := hI (below_new hb)
  clear hb
  go_wp2_with (first | (go_at_call 122; refine (KN.out _).mono ?_; rintro e w1 ⟨rfl, rfl⟩) | (go_at_call 136; refine (KM.out _).mono ?_; rintro e w1 ⟨rfl, rfl⟩) | (go_at_call 123; refine (KX.out _).mono ?_; rintro e w1 ⟨rfl, rfl⟩))
  go_ret
  exact ⟨rfl, HZ.out⟩
theorem formS5_any (s : Str) (n ek en : Int) (es em : Str) (A : Option Addr) (na ca : Nat) (O : Option Addr) (no co : Nat) (B : Option Addr) (nb cb : Nat) (L : Option Addr) (nl cl : Nat) (a o : List Ex) (w : World) (ha : na = a.length) (ho : no = o.length) :
  Calls Tryz.prog 121 #[.agg #[.int .i64 5, .string (bs s), .int .i64 n, .int .i64 ek, .int .i64 en, .string (bs es), .string (bs em), .slice A na ca, .slice O no co, .slice B nb cb, .slice L nl cl]] w fun e w' => e = .returned (.bool (formS 5 s n (.mk ek en es em a o) nb nl)) /\ Below w.heap.size w w' := by
 have HB := hI (fun X => (Below.refl w.heap.size w).alloc (Nat.le_refl _) X)
 obtain ⟨f, hf⟩ : ∃ f, f = formS 5 s n (.mk ek en es em a o) nb nl := ⟨_, rfl⟩
 rw [<- hf]
 have KN := hI (show ∀ W, Calls Tryz.prog 122 #[.int .i64 5] W fun e w' => e = .returned (.bool false) /\ w' = W from fun W => hasName_any 5 W)
 have KM := hI (show ∀ W, Calls Tryz.prog 136 #[.int .i64 5] W fun e w' => e = .returned (.bool false) /\ w' = W from fun W => hasNum_any 5 W)
 have KX := hI (show ∀ W, Calls Tryz.prog 123 #[.int .i64 5] W fun e w' => e = .returned (.bool true) /\ w' = W from fun W => hasExpr_any 5 W)
 have KE := hI (fun W => empty_any ek en es em A na ca O no co a o W ha ho)
 obtain ⟨q, hq⟩ : ∃ q, q = emptyE (.mk ek en es em a o) := ⟨_, rfl⟩
 rw [<- hq] at KE
 unfold formS hasX at hf
 rw [<- hq] at hf
 simp only [Ex.kind] at hf
 clear hq ha ho
 by_cases qs : s = []
 rotate_left
 ·obtain ⟨qs1, qs2⟩ := cons_facts qs
  have qs3 := beq_nil qs
  obtain rfl : f = false := by rw [hf]; simp [qs]
  clear hf
  go_enter Tryz.func121, Tryz.ntmps121
  go_wp2_with (first | (go_at_call 122; refine (KN.out _).mono ?_; rintro e w1 ⟨rfl, rfl⟩) | (go_at_call 136; refine (KM.out _).mono ?_; rintro e w1 ⟨rfl, rfl⟩) | (go_at_call 123; refine (KX.out _).mono ?_; rintro e w1 ⟨rfl, rfl⟩))
  go_ret
  exact ⟨rfl, HB.out _⟩
 obtain ⟨qs1, qs2⟩ := nil_facts qs
 subst qs
 by_cases qn : n = 0
 rotate_left
 ·have qn1 : (n != 0) = true := by simp [qn]
  obtain rfl : f = false := by rw [hf]; simp [qn]
  clear hf
  go_enter Tryz.func121, Tryz.ntmps121
  go_wp2_with (first | (go_at_call 122; refine (KN.out _).mono ?_; rintro e w1 ⟨rfl, rfl⟩) | (go_at_call 136; refine (KM.out _).mono ?_; rintro e w1 ⟨rfl, rfl⟩) | (go_at_call 123; refine (KX.out _).mono ?_; rintro e w1 ⟨rfl, rfl⟩))
  go_ret
  exact ⟨rfl, HB.out _⟩
 subst qn
 by_cases ql : nl = 0
 rotate_left
 ·have ql1 : 0 < (nl : Int) := by omega
  have ql2 : 0 < nl := by omega
  obtain rfl : f = false := by rw [hf]; simp [ql, ql2]
  clear hf
  go_enter Tryz.func121, Tryz.ntmps121
  go_wp2_with (first | (go_at_call 122; refine (KN.out _).mono ?_; rintro e w1 ⟨rfl, rfl⟩) | (go_at_call 136; refine (KM.out _).mono ?_; rintro e w1 ⟨rfl, rfl⟩) | (go_at_call 123; refine (KX.out _).mono ?_; rintro e w1 ⟨rfl, rfl⟩))
  go_ret
  exact ⟨rfl, HB.out _⟩
 subst ql
 by_cases qb : nb = 0
 rotate_left
 ·have qb1 : 0 < (nb : Int) := by omega
  have qb2 : 0 < nb := by omega
  obtain rfl : f = false := by rw [hf]; simp [qb, qb2]
  clear hf
  go_enter Tryz.func121, Tryz.ntmps121
  go_wp2_with (first | (go_at_call 122; refine (KN.out _).mono ?_; rintro e w1 ⟨rfl, rfl⟩) | (go_at_call 136; refine (KM.out _).mono ?_; rintro e w1 ⟨rfl, rfl⟩) | (go_at_call 123; refine (KX.out _).mono ?_; rintro e w1 ⟨rfl, rfl⟩))
  go_ret
  exact ⟨rfl, HB.out _⟩
 subst qb
 obtain rfl : f = true := by rw [hf]; simp []
 clear hf
 go_enter Tryz.func121, Tryz.ntmps121
 go_wp2_with (first | (go_at_call 122; refine (KN.out _).mono ?_; rintro e w1 ⟨rfl, rfl⟩) | (go_at_call 136; refine (KM.out _).mono ?_; rintro e w1 ⟨rfl, rfl⟩) | (go_at_call 123; refine (KX.out _).mono ?_; rintro e w1 ⟨rfl, rfl⟩))
 go_ret
 exact ⟨rfl, HB.out _⟩
theorem formS6_any (s : Str) (n ek en : Int) (es em : Str) (A : Option Addr) (na ca : Nat) (O : Option Addr) (no co : Nat) (B : Option Addr) (nb cb : Nat) (L : Option Addr) (nl cl : Nat) (a o : List Ex) (w : World) (ha : na = a.length) (ho : no = o.length) :
  Calls Tryz.prog 121 #[.agg #[.int .i64 6, .string (bs s), .int .i64 n, .int .i64 ek, .int .i64 en, .string (bs es), .string (bs em), .slice A na ca, .slice O no co, .slice B nb cb, .slice L nl cl]] w fun e w' => e = .returned (.bool (formS 6 s n (.mk ek en es em a o) nb nl)) /\ Below w.heap.size w w' := by
 have HB := hI (fun X => (Below.refl w.heap.size w).alloc (Nat.le_refl _) X)
 obtain ⟨f, hf⟩ : ∃ f, f = formS 6 s n (.mk ek en es em a o) nb nl := ⟨_, rfl⟩
 rw [<- hf]
 have KN := hI (show ∀ W, Calls Tryz.prog 122 #[.int .i64 6] W fun e w' => e = .returned (.bool false) /\ w' = W from fun W => hasName_any 6 W)
 have KM := hI (show ∀ W, Calls Tryz.prog 136 #[.int .i64 6] W fun e w' => e = .returned (.bool true) /\ w' = W from fun W => hasNum_any 6 W)
 have KX := hI (show ∀ W, Calls Tryz.prog 123 #[.int .i64 6] W fun e w' => e = .returned (.bool false) /\ w' = W from fun W => hasExpr_any 6 W)
 have KE := hI (fun W => empty_any ek en es em A na ca O no co a o W ha ho)
 obtain ⟨q, hq⟩ : ∃ q, q = emptyE (.mk ek en es em a o) := ⟨_, rfl⟩
 rw [<- hq] at KE
 unfold formS hasX at hf
 rw [<- hq] at hf
 simp only [Ex.kind] at hf
 clear hq ha ho
 by_cases qs : s = []
 rotate_left
 ·obtain ⟨qs1, qs2⟩ := cons_facts qs
  have qs3 := beq_nil qs
  obtain rfl : f = false := by rw [hf]; simp [qs]
  clear hf
  go_enter Tryz.func121, Tryz.ntmps121
  go_wp2_with (first | (go_at_call 122; refine (KN.out _).mono ?_; rintro e w1 ⟨rfl, rfl⟩) | (go_at_call 136; refine (KM.out _).mono ?_; rintro e w1 ⟨rfl, rfl⟩) | (go_at_call 123; refine (KX.out _).mono ?_; rintro e w1 ⟨rfl, rfl⟩))
  go_ret
  exact ⟨rfl, HB.out _⟩
 obtain ⟨qs1, qs2⟩ := nil_facts qs
 subst qs
 cases q with
 | false =>
  obtain rfl : f = false := by rw [hf]; simp []
  clear hf
  go_enter Tryz.func121, Tryz.ntmps121
  go_wp2_with (first | (go_at_call 122; refine (KN.out _).mono ?_; rintro e w1 ⟨rfl, rfl⟩) | (go_at_call 136; refine (KM.out _).mono ?_; rintro e w1 ⟨rfl, rfl⟩) | (go_at_call 123; refine (KX.out _).mono ?_; rintro e w1 ⟨rfl, rfl⟩))
  refine (KE.out _).mono ?_
  rintro e w1 ⟨rfl, hb⟩
  obtain ⟨c0, c1, c2, c3, c4, c5, c6, c7, c8, c9, c10⟩ := st_cells ((hb.block w.heap.size (lt_alloc w _)).trans (heap_alloc_new w _))
  have HZ := hI (below_new hb)
  clear hb
  go_wp2_with (first | (go_at_call 122; refine (KN.out _).mono ?_; rintro e w1 ⟨rfl, rfl⟩) | (go_at_call 136; refine (KM.out _).mono ?_; rintro e w1 ⟨rfl, rfl⟩) | (go_at_call 123; refine (KX.out _).mono ?_; rintro e w1 ⟨rfl, rfl⟩))
  go_ret
  exact ⟨rfl, HZ.out⟩
 | true =>
  by_cases ql : nl = 0
  rotate_left
  ·have ql1 : 0 < (nl : Int) := by omega
   have ql2 : 0 < nl := by omega
   obtain rfl : f = false := by rw [hf]; simp [ql, ql2]
   clear hf
   go_enter Tryz.func121, Tryz.ntmps121
   go_wp2_with (first | (go_at_call 122; refine (KN.out _).mono ?_; rintro e w1 ⟨rfl, rfl⟩) | (go_at_call 136; refine (KM.out _).mono ?_; rintro e w1 ⟨rfl, rfl⟩) | (go_at_call 123; refine (KX.out _).mono ?_; rintro e w1 ⟨rfl, rfl⟩))
   refine (KE.out _).mono ?_
   rintro e w1 ⟨rfl, hb⟩
   obtain ⟨c0, c1, c2, c3, c4, c5, c6, c7, c8, c9, c10⟩ := st_cells ((hb.block w.heap.size (lt_alloc w _)).trans (heap_alloc_new w _))
   have HZ := hI (below_new hb)
   clear hb
   go_wp2_with (first | (go_at_call 122; refine (KN.out _).mono ?_; rintro e w1 ⟨rfl, rfl⟩) | (go_at_call 136; refine (KM.out _).mono ?_; rintro e w1 ⟨rfl, rfl⟩) | (go_at_call 123; refine (KX.out _).mono ?_; rintro e w1 ⟨rfl, rfl⟩))
   go_ret
   exact ⟨rfl, HZ.out⟩
  subst ql
  by_cases qb : nb = 0
  rotate_left
  ·have qb1 : 0 < (nb : Int) := by omega
   have qb2 : 0 < nb := by omega
   obtain rfl : f = false := by rw [hf]; simp [qb, qb2]
   clear hf
   go_enter Tryz.func121, Tryz.ntmps121
   go_wp2_with (first | (go_at_call 122; refine (KN.out _).mono ?_; rintro e w1 ⟨rfl, rfl⟩) | (go_at_call 136; refine (KM.out _).mono ?_; rintro e w1 ⟨rfl, rfl⟩) | (go_at_call 123; refine (KX.out _).mono ?_; rintro e w1 ⟨rfl, rfl⟩))
   refine (KE.out _).mono ?_
   rintro e w1 ⟨rfl, hb⟩
   obtain ⟨c0, c1, c2, c3, c4, c5, c6, c7, c8, c9, c10⟩ := st_cells ((hb.block w.heap.size (lt_alloc w _)).trans (heap_alloc_new w _))
   have HZ := hI (below_new hb)
   clear hb
   go_wp2_with (first | (go_at_call 122; refine (KN.out _).mono ?_; rintro e w1 ⟨rfl, rfl⟩) | (go_at_call 136; refine (KM.out _).mono ?_; rintro e w1 ⟨rfl, rfl⟩) | (go_at_call 123; refine (KX.out _).mono ?_; rintro e w1 ⟨rfl, rfl⟩))
   go_ret
   exact ⟨rfl, HZ.out⟩
  subst qb
  obtain rfl : f = true := by rw [hf]; simp []
  clear hf
  go_enter Tryz.func121, Tryz.ntmps121
  go_wp2_with (first | (go_at_call 122; refine (KN.out _).mono ?_; rintro e w1 ⟨rfl, rfl⟩) | (go_at_call 136; refine (KM.out _).mono ?_; rintro e w1 ⟨rfl, rfl⟩) | (go_at_call 123; refine (KX.out _).mono ?_; rintro e w1 ⟨rfl, rfl⟩))
  refine (KE.out _).mono ?_
  rintro e w1 ⟨rfl, hb⟩
  obtain ⟨c0, c1, c2, c3, c4, c5, c6, c7, c8, c9, c10⟩ := st_cells ((hb.block w.heap.size (lt_alloc w _)).trans (heap_alloc_new w _))
  have HZ := hI (below_new hb)
  clear hb
  go_wp2_with (first | (go_at_call 122; refine (KN.out _).mono ?_; rintro e w1 ⟨rfl, rfl⟩) | (go_at_call 136; refine (KM.out _).mono ?_; rintro e w1 ⟨rfl, rfl⟩) | (go_at_call 123; refine (KX.out _).mono ?_; rintro e w1 ⟨rfl, rfl⟩))
  go_ret
  exact ⟨rfl, HZ.out⟩
theorem formS_any (j : Nat) (hj : j < 7) (s : Str) (n ek en : Int) (es em : Str) (A : Option Addr) (na ca : Nat) (O : Option Addr) (no co : Nat) (B : Option Addr) (nb cb : Nat) (L : Option Addr) (nl cl : Nat) (a o : List Ex) (w : World) (ha : na = a.length) (ho : no = o.length) :
  Calls Tryz.prog 121 #[.agg #[.int .i64 (j : Int), .string (bs s), .int .i64 n, .int .i64 ek, .int .i64 en, .string (bs es), .string (bs em), .slice A na ca, .slice O no co, .slice B nb cb, .slice L nl cl]] w fun e w' => e = .returned (.bool (formS j s n (.mk ek en es em a o) nb nl)) /\ Below w.heap.size w w' := by
 match j, hj with
 | 0, _ => exact formS0_any s n ek en es em A na ca O no co B nb cb L nl cl a o w ha ho
 | 1, _ => exact formS1_any s n ek en es em A na ca O no co B nb cb L nl cl a o w ha ho
 | 2, _ => exact formS2_any s n ek en es em A na ca O no co B nb cb L nl cl a o w ha ho
 | 3, _ => exact formS3_any s n ek en es em A na ca O no co B nb cb L nl cl a o w ha ho
 | 4, _ => exact formS4_any s n ek en es em A na ca O no co B nb cb L nl cl a o w ha ho
 | 5, _ => exact formS5_any s n ek en es em A na ca O no co B nb cb L nl cl a o w ha ho
 | 6, _ => exact formS6_any s n ek en es em A na ca O no co B nb cb L nl cl a o w ha ho
open Go.RowKit
/-- One statement's error, as a call. -/
def WrongS (e : St) : Prop := ∀ (d : Int) (w : World) (S : Nat -> Prop) (cs : List Value), 0 <= d -> d <= 4611686018427387904 -> SxW w -> e.size <= 1000000 -> SV w S e cs ->
 Calls Tryz.prog 98 #[.agg cs.toArray, .int .i64 d] w fun e' w' => e' = .returned (.int .i64 (chkS d e)) /\ Below w.heap.size w w'
/-- A list's error, as a call. -/
def WrongL (l : List St) : Prop := ∀ (d : Int) (w : World) (S : Nat -> Prop) (A : Option Addr) (n c : Nat), 0 <= d -> d <= 4611686018427387904 -> SxW w -> St.sizes l <= 1000000 -> SL w S A n c l ->
 Calls Tryz.prog 72 #[.slice A n c, .int .i64 d] w fun e' w' => e' = .returned (.int .i64 (chkSs d l)) /\ Below w.heap.size w w'
theorem St.len_sizes : ∀ (l : List St), l.length <= St.sizes l
 | [] => Nat.zero_le _
 | e :: t => by
  have := St.len_sizes t
  obtain ⟨k, s, n, x, b, l⟩ := e
  rw [St.sizes, St.size, List.length_cons]
  omega
theorem chkSs_take_ok {d : Int} : ∀ {l : List St} {q : Nat} {x : St}, l[q]? = some x -> chkSs d (l.take q) = 0 -> chkS d x = 0 -> chkSs d (l.take (q + 1)) = 0
 | [], q, x, h, _, _ => by simp at h
 | e :: t, 0, x, h, _, h2 => by
  obtain rfl : e = x := by simpa using h
  simp [chkSs, h2]
 | e :: t, q + 1, x, h, h1, h2 => by
  rw [List.take_succ_cons, chkSs] at h1 ⊢
  split at h1
  ·exact absurd h1 (by assumption)
  rename_i h3
  rw [if_neg h3]
  exact chkSs_take_ok (by simpa using h) h1 h2
theorem chkSs_take_bad {d : Int} : ∀ {l : List St} {q : Nat} {x : St}, l[q]? = some x -> chkSs d (l.take q) = 0 -> chkS d x ≠ 0 -> chkSs d l = chkS d x
 | [], q, x, h, _, _ => by simp at h
 | e :: t, 0, x, h, _, h2 => by
  obtain rfl : e = x := by simpa using h
  simp [chkSs, h2]
 | e :: t, q + 1, x, h, h1, h2 => by
  rw [List.take_succ_cons, chkSs] at h1
  rw [chkSs]
  split at h1
  ·exact absurd h1 (by assumption)
  rename_i h3
  rw [if_neg h3]
  exact chkSs_take_bad (by simpa using h) h1 h2
theorem stC_at {w : World} {b o : Nat} {k n ek en : Int} {s es em : Str} {A O B L : Option Addr} {na ca no co nb cb nl cl : Nat} (h : w.rangeAt b o (stC k s n (exC ek en es em A na ca O no co) B nb cb L nl cl)) :
  w.cell? ⟨b, o, none⟩ = some (.int .i64 k) /\ w.cell? ⟨b, o + 1, none⟩ = some (.string (bs s)) /\ w.cell? ⟨b, o + 2, none⟩ = some (.int .i64 n) /\ w.cell? ⟨b, o + 3, none⟩ = some (.int .i64 ek) /\ w.cell? ⟨b, o + 4, none⟩ = some (.int .i64 en) /\ w.cell? ⟨b, o + 5, none⟩ = some (.string (bs es)) /\ w.cell? ⟨b, o + 6, none⟩ = some (.string (bs em)) /\ w.cell? ⟨b, o + 7, none⟩ = some (.slice A na ca) /\ w.cell? ⟨b, o + 8, none⟩ = some (.slice O no co) /\ w.cell? ⟨b, o + 9, none⟩ = some (.slice B nb cb) /\ w.cell? ⟨b, o + 10, none⟩ = some (.slice L nl cl) :=
 ⟨h 0 _ rfl, h 1 _ rfl, h 2 _ rfl, h 3 _ rfl, h 4 _ rfl, h 5 _ rfl, h 6 _ rfl, h 7 _ rfl, h 8 _ rfl, h 9 _ rfl, h 10 _ rfl⟩
theorem wrongL_of (l : List St) (h : ∀ e ∈ l, WrongS e) : WrongL l := by
 intro d w S A n c hd0 hd hw hsz hl
 have HIN := hI h
 have HL := hI hl
 have HLEN := hI hl.1.1
 have HWS := hI hw
 have HSZ := hI hsz
 have hn6 : (n : Int) <= 1000000 := by have := hl.1.1; have := St.len_sizes l; omega
 obtain ⟨E, hE⟩ : ∃ E, E = chkSs d l := ⟨_, rfl⟩
 rw [<- hE]
 have HE := hI hE
 have hb0 : Below w.heap.size w w := Below.refl _ _
 clear h hl hw hsz hE
 go_enter Tryz.func72, Tryz.ntmps72
 go_wp2_with fail
 go_loopw [10] (fun i wx => ∃ q : Nat, q <= l.length /\ i = .int .i64 q /\ Hid (chkSs d (l.take q) = 0) /\ Below w.heap.size w wx) (fun i _ => l.length - (intOf i).toNat)
 case atStart => exact ⟨0, Nat.zero_le _, rfl, hI (by rw [List.take_zero, chkSs]), hb0⟩
 case round =>
  clear hb0
  obtain ⟨q, hq, rfl, n3, zq⟩ := hrel
  by_cases hlq : q < l.length
  ·have hi2 : (q : Int) < (n : Int) := by have := HLEN.out; omega
   obtain ⟨x, b, off, cs, hx, rfl, hb, hS, hxv, hrow⟩ := HL.out.at q (by have := HLEN.out; omega)
   have HXV := hI hxv
   have HQL := hI hlq
   have HXQ := hI hx
   have HXS := hI (show x.size <= 1000000 from by have := St.sizes_mem (List.mem_of_getElem? hx); have := HSZ.out; omega)
   have HIH := hI (HIN.out x (List.mem_of_getElem? hx))
   obtain ⟨v, hv⟩ : ∃ v, v = chkS d x := ⟨_, rfl⟩
   have HV := hI hv
   have hrow2 := rangeAt_keep hrow (zq.block b hb)
   obtain ⟨xk, xs, xn, xe, xb, xl⟩ := x
   obtain ⟨ex, B2, nb2, cb2, L2, nl2, cl2, rfl, hex, -, -⟩ := hxv.open_
   obtain ⟨ek, en, es, em, ea, eo⟩ := xe
   obtain ⟨A2, na2, ca2, O2, no2, co2, rfl, -, -⟩ := hex.open_
   obtain ⟨e0, e1, e2, e3, e4, e5, e6, e7, e8, e9, e10⟩ := stC_at hrow2
   clear hx hb hS hxv hrow hrow2 hlq hq hv hex
   unfold stC exC at HXV
   simp only [List.cons_append, List.nil_append] at HXV
   go_wp2_with fail
   have zq1 := zq.alloc zq.size (.cells #[.int .i64 xk, .string (bs xs), .int .i64 xn, .int .i64 ek, .int .i64 en, .string (bs es), .string (bs em), .slice A2 na2 ca2, .slice O2 no2 co2, .slice B2 nb2 cb2, .slice L2 nl2 cl2] 74)
   have HC2 := HIH.out d _ S _ hd0 hd (HWS.out.below zq1) HXS.out (HXV.out.below zq1)
   rw [<- HV.out] at HC2
   refine HC2.mono ?_
   rintro e' w2 ⟨rfl, hb2⟩
   have zq2 := zq1.trans (hb2.mono zq1.size)
   clear HC2 hb2 e0 e1 e2 e3 e4 e5 e6 e7 e8 e9 e10 zq zq1 HIH HXV
   by_cases hv0 : v = 0
   ·subst hv0
    go_wp2
    go_roundw
    case rel => exact ⟨q + 1, HQL.out, by go_num, hI (chkSs_take_ok HXQ.out n3.out HV.out.symm), zq2⟩
    case measure => exact meas_up _ _ HQL.out
   have HV0 := hI hv0
   have hv1 : (v != 0) = true := by simp [hv0]
   have HR := hI (show E = v from HE.out.trans ((chkSs_take_bad HXQ.out n3.out (by rw [<- HV.out]; exact hv0)).trans HV.out.symm))
   go_wp2
   go_ret
   exact ⟨congrArg (fun v => Ending.returned (.int .i64 v)) HR.out.symm, zq2⟩
  have hi2 : ¬ (q : Int) < (n : Int) := by have := HLEN.out; omega
  have HR := hI (show E = 0 from HE.out.trans (by rw [<- n3.out, List.take_of_length_le (by omega)]))
  clear hlq hq n3
  go_wp2
  go_ret
  exact ⟨congrArg (fun v => Ending.returned (.int .i64 v)) HR.out.symm, zq⟩
open Go.RowKit
theorem chkS_head {d k : Int} {s : Str} {n : Int} {e : Ex} {b l : List St} (h : headS d k s n e b.length l.length ≠ 0) : chkS d (.mk k s n e b l) = headS d k s n e b.length l.length := by
 rw [chkS, if_pos h]
theorem chkS_parts {d k : Int} {s : Str} {n : Int} {e : Ex} {b l : List St} (h : headS d k s n e b.length l.length = 0) : chkS d (.mk k s n e b l) = if hasX k = true /\ chkE 1 e ≠ 0 then chkE 1 e else if chkSs (d + 1) b ≠ 0 then chkSs (d + 1) b else chkSs (d + 1) l := by
 rw [chkS, if_neg (by simp [h])]
theorem headS_cases (j : Nat) (hj : j < 7) (s : Str) (n : Int) (e : Ex) (nb nl : Nat) (d : Int) (hd : ¬ 12 < d) {f : Bool} (hf : f = formS (j : Int) s n e nb nl) :
  (f = false -> headS d (j : Int) s n e nb nl = 5) /\ (f = true -> decide ((j : Int) <= 1 /\ 0 <= (j : Int)) = true -> nameOk s = false -> headS d (j : Int) s n e nb nl = 16) /\
  (f = true -> (decide ((j : Int) <= 1 /\ 0 <= (j : Int)) = true -> nameOk s = true) -> (n < 0 ∨ ((j : Int) = 4 /\ 64 < n)) -> headS d (j : Int) s n e nb nl = 3) /\
  (f = true -> (decide ((j : Int) <= 1 /\ 0 <= (j : Int)) = true -> nameOk s = true) -> ¬ n < 0 -> ¬ ((j : Int) = 4 /\ 64 < n) -> headS d (j : Int) s n e nb nl = 0) := by
 have h0 : ¬ ((j : Int) < 0 ∨ 6 < (j : Int)) := by omega
 have hf2 : f = true ↔ ¬ ((¬ (j : Int) <= 1 /\ s ≠ []) ∨ (¬ ((j : Int) = 4 ∨ (j : Int) = 6) /\ n ≠ 0) ∨ ((j : Int) ≠ 3 /\ 0 < nl) ∨ ((j : Int) ≠ 3 /\ (j : Int) ≠ 4 /\ 0 < nb) ∨ (hasX (j : Int) = false /\ emptyE e = false) ∨ ((j : Int) = 2 /\ e.kind ≠ 6 /\ e.kind ≠ 7)) := by
  rw [hf, formS]; exact decide_eq_true_iff
 simp only [decide_eq_true_eq]
 unfold headS
 rw [if_neg hd, if_neg h0]
 refine ⟨fun h => ?_, fun h h1 h2 => ?_, fun h h1 h2 => ?_, fun h h1 h2 h3 => ?_⟩
 ·rw [if_pos]
  exact Classical.byContradiction fun hc => by rw [hf2.2 hc] at h; cases h
 ·rw [if_neg (hf2.1 h), if_pos ⟨h1.1, h2⟩]
 ·rw [if_neg (hf2.1 h), if_neg, if_pos h2]
  rintro ⟨h5, h6⟩
  rw [h1 ⟨h5, by omega⟩] at h6; cases h6
 rw [if_neg (hf2.1 h), if_neg, if_neg]
 ·rintro (h5 | h5)
  ·exact h2 h5
  exact h3 h5
 rintro ⟨h5, h6⟩
 rw [h1 ⟨h5, by omega⟩] at h6; cases h6
theorem stmtWrong_head (e : St) (d : Int) (w : World) (S : Nat -> Prop) (cs : List Value) (hd : 12 < d) (hx : SV w S e cs) :
  Calls Tryz.prog 98 #[.agg cs.toArray, .int .i64 d] w fun e' w' => e' = .returned (.int .i64 18) /\ Below w.heap.size w w' := by
 obtain ⟨k, s, n, x, b, l⟩ := e
 obtain ⟨ex, B, nb, cb, L, nl, cl, rfl, hex, -, -⟩ := hx.open_
 obtain ⟨ek, en, es, em, a, o⟩ := x
 obtain ⟨A, na, ca, O, no, co, rfl, -, -⟩ := hex.open_
 clear hx hex
 unfold stC exC
 simp only [List.cons_append, List.nil_append]
 go_enter Tryz.func98, Tryz.ntmps98
 go_wp2
 go_ret
 exact ⟨rfl, (Below.refl _ _).alloc (Nat.le_refl _) _⟩
theorem stmtWrong_kind (k : Int) (s : Str) (n : Int) (x : Ex) (b l : List St) (d : Int) (w : World) (S : Nat -> Prop) (cs : List Value) (hd : ¬ 12 < d) (hk : k < 0 ∨ 6 < k) (hx : SV w S (.mk k s n x b l) cs) :
  Calls Tryz.prog 98 #[.agg cs.toArray, .int .i64 d] w fun e' w' => e' = .returned (.int .i64 2) /\ Below w.heap.size w w' := by
 obtain ⟨ex, B, nb, cb, L, nl, cl, rfl, hex, -, -⟩ := hx.open_
 obtain ⟨ek, en, es, em, a, o⟩ := x
 obtain ⟨A, na, ca, O, no, co, rfl, -, -⟩ := hex.open_
 clear hx hex
 unfold stC exC
 simp only [List.cons_append, List.nil_append]
 rcases Classical.em (k < 0) with h0 | h0
 ·clear hk
  go_enter Tryz.func98, Tryz.ntmps98
  go_wp2
  go_ret
  exact ⟨rfl, (Below.refl _ _).alloc (Nat.le_refl _) _⟩
 have h7 : 6 < k := by omega
 clear hk
 go_enter Tryz.func98, Tryz.ntmps98
 go_wp2
 go_ret
 exact ⟨rfl, (Below.refl _ _).alloc (Nat.le_refl _) _⟩
theorem stmtWrong_mid (j : Nat) (hj : j < 7) (s : Str) (n : Int) (x : Ex) (b l : List St) (ihb : WrongL b) (ihl : WrongL l) (d : Int) (w : World) (S : Nat -> Prop) (cs : List Value) (hd0 : 0 <= d) (hd : ¬ 12 < d) (hw : SxW w) (hsz : (St.mk (j : Int) s n x b l).size <= 1000000) (hx : SV w S (.mk (j : Int) s n x b l) cs) :
  Calls Tryz.prog 98 #[.agg cs.toArray, .int .i64 d] w fun e' w' => e' = .returned (.int .i64 (chkS d (.mk (j : Int) s n x b l))) /\ Below w.heap.size w w' := by
 obtain ⟨ex, B, nb, cb, L, nl, cl, rfl, hex, hB, hL⟩ := hx.open_
 have HEX := hI hex
 have HIX := hI (exprWrong_any x)
 obtain ⟨V, hV⟩ : ∃ V, V = chkE 1 x := ⟨_, rfl⟩
 have HV := hI hV
 obtain ⟨E, hE⟩ : ∃ E, E = chkS d (.mk (j : Int) s n x b l) := ⟨_, rfl⟩
 rw [<- hE]
 have HE := hI hE
 obtain ⟨F, hf⟩ : ∃ F, F = formS (j : Int) s n x nb nl := ⟨_, rfl⟩
 have HH := headS_cases j hj s n x nb nl d hd hf
 rw [hB.1.1, hL.1.1] at HH
 have KS := hI (fun W h => isName_any s W h)
 have KN := hI (fun W => hasName_any (j : Int) W)
 have KX := hI (fun W => hasExpr_any (j : Int) W)
 have HXX := hI (show ∀ v, v ≠ 0 -> headS d (j : Int) s n x b.length l.length = v -> E = v from fun v h1 h2 => by rw [hE, chkS_head (by rw [h2]; exact h1), h2])
 have HJ := hI hj
 have HIB := hI ihb
 have HIL := hI ihl
 have HB2 := hI hB
 have HL2 := hI hL
 have HWS := hI hw
 rw [St.size] at hsz
 have HSZ := hI (show St.sizes b <= 1000000 /\ St.sizes l <= 1000000 by omega)
 clear hV
 obtain ⟨ek, en, es, em, a, o⟩ := x
 obtain ⟨A, na, ca, O, no, co, rfl, hA, hO⟩ := hex.open_
 have KF := hI (fun W => formS_any j hj s n ek en es em A na ca O no co B nb cb L nl cl a o W hA.1.1 hO.1.1)
 rw [<- hf] at KF
 clear hf
 generalize decide ((j : Int) <= 1 /\ 0 <= (j : Int)) = P at *
 generalize nameOk s = QS at *
 obtain ⟨qx, hqx⟩ : ∃ q, q = hasX (j : Int) := ⟨_, rfl⟩
 rw [<- hqx] at KX
 have HQX := hI hqx
 obtain ⟨p, e0⟩ : ∃ p, P = p := ⟨_, rfl⟩
 obtain ⟨f, ef⟩ : ∃ p, F = p := ⟨_, rfl⟩
 obtain ⟨qs, es'⟩ : ∃ p, QS = p := ⟨_, rfl⟩
 rw [e0] at KN
 rw [ef] at KF
 rw [es'] at KS
 have HH2 := hI HH
 have E0 := hI e0
 have EF := hI ef
 have ES := hI es'
 clear HH e0 ef es' hqx
 have HX := HXX
 clear HXX
 have HW := hI (fun X (W : World) (h : Bz (w.alloc (.cells X 74)) W) => (show (∀ j v, X[j]? = some v -> W.cell? ⟨w.heap.size, j, none⟩ = some v) from by
  exact fun j v hv => cell_of_Bz h (by rw [cell_of_row _ _ _ _ _ _ (heap_alloc_new w _)]; exact hv) (lt_of_block (heap_alloc_new w _))))
 have hk0 : ¬ (j : Int) < 0 := by omega
 have hk7 : ¬ 6 < (j : Int) := by omega
 clear hx hex hA hO hB hL hj hE hw ihb ihl hsz
 unfold stC exC
 simp only [List.cons_append, List.nil_append]
 unfold exC at HEX
 go_enter Tryz.func98, Tryz.ntmps98
 go_upto_block 0 with fail
 obtain ⟨W0, hW0⟩ : ∃ W0 : World, W0 = w.alloc (.cells #[.int .i64 (j : Int), .string (bs s), .int .i64 n, .int .i64 ek, .int .i64 en, .string (bs es), .string (bs em), .slice A na ca, .slice O no co, .slice B nb cb, .slice L nl cl] 74) := ⟨_, rfl⟩
 have HF := hI (show ∀ W, Bz W0 W -> (W.cell? ⟨w.heap.size, 0, none⟩ = some (.int .i64 (j : Int)) /\ W.cell? ⟨w.heap.size, 1, none⟩ = some (.string (bs s)) /\ W.cell? ⟨w.heap.size, 2, none⟩ = some (.int .i64 n) /\ W.cell? ⟨w.heap.size, 3, none⟩ = some (.int .i64 ek) /\ W.cell? ⟨w.heap.size, 4, none⟩ = some (.int .i64 en) /\ W.cell? ⟨w.heap.size, 5, none⟩ = some (.string (bs es)) /\ W.cell? ⟨w.heap.size, 6, none⟩ = some (.string (bs em)) /\ W.cell? ⟨w.heap.size, 7, none⟩ = some (.slice A na ca) /\ W.cell? ⟨w.heap.size, 8, none⟩ = some (.slice O no co) /\ W.cell? ⟨w.heap.size, 9, none⟩ = some (.slice B nb cb) /\ W.cell? ⟨w.heap.size, 10, none⟩ = some (.slice L nl cl)) from fun W h => by
  subst hW0
  have h2 := HW.out _ W h
  exact ⟨h2 0 _ rfl, h2 1 _ rfl, h2 2 _ rfl, h2 3 _ rfl, h2 4 _ rfl, h2 5 _ rfl, h2 6 _ rfl, h2 7 _ rfl, h2 8 _ rfl, h2 9 _ rfl, h2 10 _ rfl⟩)
 have HG0 := hI (show ∀ W, Bz W0 W -> Below w.heap.size w W from fun W h => by
  subst hW0
  have hb := (Below.refl w.heap.size w).alloc (Nat.le_refl _) (.cells #[.int .i64 (j : Int), .string (bs s), .int .i64 n, .int .i64 ek, .int .i64 en, .string (bs es), .string (bs em), .slice A na ca, .slice O no co, .slice B nb cb, .slice L nl cl] 74)
  exact hb.trans (h.b.mono hb.size))
 rw [<- hW0]
 clear hW0 HW
 have z0 : Bz W0 W0 := ⟨Below.refl _ _⟩
 go_cut [] from 9 (fun wx => Bz W0 wx /\ headS d (j : Int) s n (.mk ek en es em a o) b.length l.length = 0)
 case first =>
  obtain ⟨c0, c1, c2, c3, c4, c5, c6, c7, c8, c9, c10⟩ := HF.out _ z0
  go_wp2_with fail
  refine (KF.out _).mono ?_
  rintro e w1 ⟨rfl, hb1⟩
  have y1 := Bz.next z0 hb1
  clear c0 c1 c2 c3 c4 c5 c6 c7 c8 c9 c10 hb1 KF
  cases f with
  | false =>
   go_wp2
   go_ret
   exact ⟨congrArg (fun v => Ending.returned (.int .i64 v)) (HX.out 5 (by decide) (HH2.out.1 EF.out)).symm, HG0.out _ y1⟩
  | true =>
   obtain ⟨c0, c1, c2, c3, c4, c5, c6, c7, c8, c9, c10⟩ := HF.out _ y1
   go_wp2_with fail
   refine (KN.out _).mono ?_
   rintro e w2 ⟨rfl, rfl⟩
   cases p with
   | false =>
    have HNM := hI (show P = true -> QS = true from fun h => by rw [E0.out] at h; cases h)
    by_cases hn0 : n < 0
    ·have HN0 := hI hn0
     go_wp2
     go_ret
     exact ⟨congrArg (fun v => Ending.returned (.int .i64 v)) (HX.out 3 (by decide) (HH2.out.2.2.1 EF.out HNM.out (by have := HN0.out; omega))).symm, HG0.out _ y1⟩
    have HN0 := hI hn0
    by_cases hj4 : (j : Int) = 4
    ·have HJ4 := hI hj4
     have hj5 : ((j : Int) == 4) = true := by simp [hj4]
     clear hj4
     by_cases h64 : 64 < n
     ·have H64 := hI h64
      go_wp2
      go_ret
      exact ⟨congrArg (fun v => Ending.returned (.int .i64 v)) (HX.out 3 (by decide) (HH2.out.2.2.1 EF.out HNM.out (by have := HJ4.out; have := H64.out; omega))).symm, HG0.out _ y1⟩
     have H64 := hI h64
     go_wp2
     go_meet
     case rel => exact ⟨y1, HH2.out.2.2.2 EF.out HNM.out (by have := HN0.out; omega) (by have := H64.out; omega)⟩
    have HJ4 := hI hj4
    have hj5 : ((j : Int) == 4) = false := by simp [hj4]
    clear hj4
    go_wp2
    go_meet
    case rel => exact ⟨y1, HH2.out.2.2.2 EF.out HNM.out (by have := HN0.out; omega) (by have := HJ4.out; omega)⟩
   | true =>
    go_wp2_with fail
    refine (KS.out _ (HWS.out.below (HG0.out _ y1))).mono ?_
    rintro e w3 ⟨rfl, hb3⟩
    have y3 := Bz.next y1 hb3
    clear c0 c1 c2 c3 c4 c5 c6 c7 c8 c9 c10 hb3
    cases qs with
    | false =>
     go_wp2
     go_ret
     exact ⟨congrArg (fun v => Ending.returned (.int .i64 v)) (HX.out 16 (by decide) (HH2.out.2.1 EF.out E0.out ES.out)).symm, HG0.out _ y3⟩
    | true =>
     obtain ⟨c0, c1, c2, c3, c4, c5, c6, c7, c8, c9, c10⟩ := HF.out _ y3
     have HNM := hI (show P = true -> QS = true from fun _ => ES.out)
     by_cases hn0 : n < 0
     ·have HN0 := hI hn0
      go_wp2
      go_ret
      exact ⟨congrArg (fun v => Ending.returned (.int .i64 v)) (HX.out 3 (by decide) (HH2.out.2.2.1 EF.out HNM.out (by have := HN0.out; omega))).symm, HG0.out _ y3⟩
     have HN0 := hI hn0
     by_cases hj4 : (j : Int) = 4
     ·have HJ4 := hI hj4
      have hj5 : ((j : Int) == 4) = true := by simp [hj4]
      clear hj4
      by_cases h64 : 64 < n
      ·have H64 := hI h64
       go_wp2
       go_ret
       exact ⟨congrArg (fun v => Ending.returned (.int .i64 v)) (HX.out 3 (by decide) (HH2.out.2.2.1 EF.out HNM.out (by have := HJ4.out; have := H64.out; omega))).symm, HG0.out _ y3⟩
      have H64 := hI h64
      go_wp2
      go_meet
      case rel => exact ⟨y3, HH2.out.2.2.2 EF.out HNM.out (by have := HN0.out; omega) (by have := H64.out; omega)⟩
     have HJ4 := hI hj4
     have hj5 : ((j : Int) == 4) = false := by simp [hj4]
     clear hj4
     go_wp2
     go_meet
     case rel => exact ⟨y3, HH2.out.2.2.2 EF.out HNM.out (by have := HN0.out; omega) (by have := HJ4.out; omega)⟩
 case rest =>
  obtain ⟨zx, hh0⟩ := hcut
  have HEP := hI (show E = if hasX (j : Int) = true /\ V ≠ 0 then V else if chkSs (d + 1) b ≠ 0 then chkSs (d + 1) b else chkSs (d + 1) l from HE.out.trans (by rw [chkS_parts hh0, <- HV.out]))
  clear HX KF HE HH2 E0 EF ES KS KN hh0 z0
  obtain ⟨c0, c1, c2, c3, c4, c5, c6, c7, c8, c9, c10⟩ := HF.out _ zx
  go_upto_if 51 with (go_at_call 123; refine (KX.out _).mono ?_; rintro e w2 ⟨rfl, rfl⟩)
  go_cut [] from 5 (fun wx => Bz W0 wx /\ (hasX (j : Int) = true -> V = 0))
  case first =>
   cases qx with
   | false =>
    go_wp2
    go_meet
    case rel => exact ⟨zx, fun h => by rw [<- HQX.out] at h; cases h⟩
   | true =>
    go_wp2_with fail
    have HC2 := HIX.out 1 _ S _ (by decide) (by decide) (HWS.out.below (HG0.out _ zx)) (HEX.out.below (HG0.out _ zx))
    rw [<- HV.out] at HC2
    refine HC2.mono ?_
    rintro e' w2 ⟨rfl, hb2⟩
    have z2 := zx.next hb2
    clear HC2 hb2 c0 c1 c2 c3 c4 c5 c6 c7 c8 c9 c10 zx
    by_cases hv0 : V = 0
    ·have HV0 := hI hv0
     have hv1 : (V != 0) = false := by simp [hv0]
     go_wp2
     go_meet
     case rel => exact ⟨z2, fun _ => HV0.out⟩
    have hv1 : (V != 0) = true := by simp [hv0]
    have HR := hI (show E = V by rw [HEP.out, if_pos ⟨HQX.out.symm, hv0⟩])
    go_wp2
    go_ret
    exact ⟨congrArg (fun v => Ending.returned (.int .i64 v)) HR.out.symm, HG0.out _ z2⟩
  case rest =>
   obtain ⟨zy, hvx⟩ := hcut
   have HEQ := hI (show E = if chkSs (d + 1) b ≠ 0 then chkSs (d + 1) b else chkSs (d + 1) l by rw [HEP.out, if_neg (fun h => h.2 (hvx h.1))])
   clear c0 c1 c2 c3 c4 c5 c6 c7 c8 c9 c10 zx hvx HEP HIX HEX KX
   obtain ⟨-, -, -, -, -, -, -, -, -, c9, c10⟩ := HF.out _ zy
   have HG1 := hI (HG0.out _ zy)
   clear HF HG0 zy
   go_wp2_with fail
   obtain ⟨W1, hW1⟩ : ∃ W1 : World, W1 = wc.alloc (.cells #[.slice B nb cb, .slice L nl cl] 72) := ⟨_, rfl⟩
   have HC := hI (show ∀ W, Bz W1 W -> W.cell? ⟨wc.heap.size, 0, none⟩ = some (.slice B nb cb) /\ W.cell? ⟨wc.heap.size, 1, none⟩ = some (.slice L nl cl) from fun W h => by
    subst hW1
    exact ⟨cell_of_Bz h (by rw [cell_of_row _ _ _ _ _ _ (heap_alloc_new wc _)]; rfl) (lt_of_block (heap_alloc_new wc _)), cell_of_Bz h (by rw [cell_of_row _ _ _ _ _ _ (heap_alloc_new wc _)]; rfl) (lt_of_block (heap_alloc_new wc _))⟩)
   have HB1 := hI (show ∀ W, Bz W1 W -> Below w.heap.size w W from fun W h => by
    subst hW1
    have hb := HG1.out.alloc HG1.out.size (.cells #[.slice B nb cb, .slice L nl cl] 72)
    exact hb.trans (h.b.mono hb.size))
   rw [<- hW1]
   clear hW1 HG1 c9 c10
   have v0 : Bz W1 W1 := ⟨Below.refl _ _⟩
   go_loopw [64] (fun i wr => ∃ k : Nat, k <= 2 /\ i = .int .i64 k /\ Hid (1 <= k -> chkSs (d + 1) b = 0) /\ Hid (2 <= k -> chkSs (d + 1) l = 0) /\ Bz W1 wr) (fun i _ => 2 - (intOf i).toNat)
   case atStart => exact ⟨0, by omega, rfl, hI (fun h => absurd h (by omega)), hI (fun h => absurd h (by omega)), v0⟩
   case round =>
    clear v0
    obtain ⟨k, hk, rfl, n1, n2, zr⟩ := hrel
    by_cases hlt : k < 2
    ·obtain ⟨A', n', c', l', hc, hX, hin, hl4, hbad, hnext⟩ : ∃ (A' : Option Addr) (n' c' : Nat) (l' : List St), (∀ W, Bz W1 W -> W.cell? ⟨wc.heap.size, k, none⟩ = some (.slice A' n' c')) /\ SL w S A' n' c' l' /\ WrongL l' /\ St.sizes l' <= 1000000 /\ (∀ v, v ≠ 0 -> chkSs (d + 1) l' = v -> E = v) /\ (chkSs (d + 1) l' = 0 -> (1 <= k + 1 -> chkSs (d + 1) b = 0) /\ (2 <= k + 1 -> chkSs (d + 1) l = 0)) := by
      rcases (by omega : k = 0 ∨ k = 1) with rfl | rfl
      ·refine ⟨B, nb, cb, b, fun W h => (HC.out W h).1, HB2.out, HIB.out, HSZ.out.1, fun v h1 h2 => ?_, fun h => ⟨fun _ => h, fun h => absurd h (by omega)⟩⟩
       rw [HEQ.out, h2, if_pos h1]
      refine ⟨L, nl, cl, l, fun W h => (HC.out W h).2, HL2.out, HIL.out, HSZ.out.2, fun v h1 h2 => ?_, fun h => ⟨fun _ => n1.out (by omega), fun _ => h⟩⟩
      rw [HEQ.out, if_neg (by simp [n1.out (by omega)]), h2]
     have HL := hI hX
     have HIN := hI hin
     have HBAD := hI hbad
     have HNEXT := hI hnext
     have HS4 := hI hl4
     have HLT := hI hlt
     have hi : (k : Int) < 2 := by omega
     have hcell := hc _ zr
     obtain ⟨v, hv⟩ : ∃ v, v = chkSs (d + 1) l' := ⟨_, rfl⟩
     have HVL := hI hv
     clear hc hX hin hbad hnext hlt hk n1 n2 hl4 hv
     go_wp2_with fail
     have HC2 := HIN.out (d + 1) _ S A' n' c' (by omega) (by omega) (HWS.out.below (HB1.out _ zr)) HS4.out (HL.out.below (HB1.out _ zr))
     rw [<- HVL.out] at HC2
     refine HC2.mono ?_
     rintro e' w2 ⟨rfl, hb2⟩
     have zq2 := zr.next hb2
     clear HC2 hb2 hcell zr
     by_cases hv0 : v = 0
     ·have HR := hI (show chkSs (d + 1) l' = 0 by rw [<- HVL.out]; exact hv0)
      have hv1 : (v != 0) = false := by simp [hv0]
      go_wp2
      go_roundw
      case rel => exact ⟨k + 1, HLT.out, by go_num, hI (HNEXT.out HR.out).1, hI (HNEXT.out HR.out).2, zq2⟩
      case measure => exact meas_up _ _ HLT.out
     have hv1 : (v != 0) = true := by simp [hv0]
     have HR := hI (show E = v from HBAD.out v hv0 HVL.out.symm)
     go_wp2
     go_ret
     exact ⟨congrArg (fun v => Ending.returned (.int .i64 v)) HR.out.symm, HB1.out _ zq2⟩
    have hi : ¬ (k : Int) < 2 := by omega
    have HK2 := hI (show 1 <= k /\ 2 <= k by omega)
    go_wp2
    go_ret
    refine ⟨congrArg (fun v => Ending.returned (.int .i64 v)) ?_, HB1.out _ zr⟩
    rw [HEQ.out, if_neg (by simp [n1.out HK2.out.1]), n2.out HK2.out.2]
theorem stmtWrong_any (e : St) : WrongS e := by
 obtain ⟨N, hN⟩ : ∃ N, N = e.size := ⟨_, rfl⟩
 induction N using Nat.strongRecOn generalizing e with
 | _ N ih =>
  intro d w S cs hd0 hdb hw hsz hx
  obtain ⟨k, s, n, x, b, l⟩ := e
  by_cases hd : 12 < d
  ·have h1 : headS d k s n x b.length l.length = 18 := by unfold headS; rw [if_pos hd]
   rw [chkS_head (by rw [h1]; decide), h1]
   exact stmtWrong_head _ d w S cs hd hx
  by_cases hk : k < 0 ∨ 6 < k
  ·have h1 : headS d k s n x b.length l.length = 2 := by
    unfold headS
    rw [if_neg hd, if_pos hk]
   rw [chkS_head (by rw [h1]; decide), h1]
   exact stmtWrong_kind k s n x b l d w S cs hd hk hx
  obtain ⟨j, rfl⟩ : ∃ j : Nat, k = j := ⟨k.toNat, by omega⟩
  refine stmtWrong_mid j (by omega) s n x b l (wrongL_of b fun y hy => ih y.size ?_ y rfl) (wrongL_of l fun y hy => ih y.size ?_ y rfl) d w S cs hd0 hd hw hsz hx
  ·have h1 := St.sizes_mem hy
   rw [hN, St.size]; omega
  have h1 := St.sizes_mem hy
  rw [hN, St.size]; omega
theorem stmtsWrong_any (l : List St) : WrongL l := wrongL_of l fun e _ => stmtWrong_any e
open Go.RowKit
theorem freshF_any (s : Str) (w : World) (hw : SxW w) : Calls Tryz.prog 71 #[.string (bs s)] w fun e w' => e = .returned (.bool (!nameOk s)) /\ Below w.heap.size w w' := by
 have K := hI (isName_any s w hw)
 generalize nameOk s = q at *
 go_enter Tryz.func71, Tryz.ntmps71
 go_wp2_with fail
 refine K.out.mono ?_
 rintro e w1 ⟨rfl, hb⟩
 go_wp2
 go_ret
 exact ⟨rfl, hb⟩
theorem indexFunc_none (w : World) : Calls Tryz.prog 97 #[.slice none 0 0, .func (.func 71) #[] #[]] w fun e w' => e = .returned (.int .i64 (-1)) /\ w' = w := by
 go_enter Tryz.func97, Tryz.ntmps97
 go_wp2_with fail
 go_loopw [8] (fun i wr => i = .int .i64 0 /\ wr = w) (fun i _ => 0)
 case atStart => exact ⟨rfl, rfl⟩
 case round =>
  obtain ⟨rfl, rfl⟩ := hrel
  go_wp2
  go_ret
  exact ⟨rfl, rfl⟩
theorem containsFunc_none (w : World) : Calls Tryz.prog 70 #[.slice none 0 0, .func (.func 71) #[] #[]] w fun e w' => e = .returned (.bool false) /\ w' = w := by
 have K := hI (indexFunc_none w)
 go_enter Tryz.func70, Tryz.ntmps70
 go_wp2_with fail
 refine K.out.mono ?_
 rintro e w1 ⟨rfl, h⟩
 subst w1
 go_wp2
 go_ret
 exact ⟨rfl, rfl⟩
theorem indexFunc_one (b o c : Nat) (k : Str) (w : World) (hw : SxW w) (hc : w.cell? ⟨b, o, none⟩ = some (.string (bs k))) : Calls Tryz.prog 97 #[.slice (some ⟨b, o, none⟩) 1 c, .func (.func 71) #[] #[]] w fun e w' => e = .returned (.int .i64 (if nameOk k = false then 0 else -1)) /\ Below w.heap.size w w' := by
 have K := hI (freshF_any k w hw)
 have hb0 : Below w.heap.size w w := Below.refl _ _
 generalize nameOk k = q at *
 go_enter Tryz.func97, Tryz.ntmps97
 go_wp2_with fail
 go_loopw [8] (fun i wr => (i = .int .i64 0 /\ wr = w) ∨ (i = .int .i64 1 /\ q = true /\ Below w.heap.size w wr)) (fun i _ => 1 - (intOf i).toNat)
 case atStart => exact .inl ⟨rfl, rfl⟩
 case round =>
  rcases hrel with ⟨rfl, rfl⟩ | ⟨rfl, rfl, hb⟩
  ·go_wp2_with fail
   refine K.out.mono ?_
   rintro e w1 ⟨rfl, hb⟩
   clear hc
   cases q with
   | false =>
    go_wp2
    go_ret
    exact ⟨rfl, hb⟩
   | true =>
    go_wp2
    go_roundw
    case rel =>
     refine .inr ⟨?_, ?_, hb⟩
     ·first | rfl | trivial
     first | rfl | trivial
    case measure => simp [intOf]
  go_wp2
  go_ret
  exact ⟨rfl, hb⟩
theorem containsFunc_one (b o c : Nat) (k : Str) (w : World) (hw : SxW w) (hc : w.cell? ⟨b, o, none⟩ = some (.string (bs k))) : Calls Tryz.prog 70 #[.slice (some ⟨b, o, none⟩) 1 c, .func (.func 71) #[] #[]] w fun e w' => e = .returned (.bool (!nameOk k)) /\ Below w.heap.size w w' := by
 have K := hI (indexFunc_one b o c k w hw hc)
 generalize nameOk k = q at *
 clear hc
 go_enter Tryz.func70, Tryz.ntmps70
 go_wp2_with fail
 refine K.out.mono ?_
 rintro e w1 ⟨rfl, hb⟩
 cases q with
 | false =>
  simp only [if_true]
  go_wp2
  go_ret
  exact ⟨rfl, hb⟩
 | true =>
  simp only [Bool.true_eq_false, if_false]
  go_wp2
  go_ret
  exact ⟨rfl, hb⟩
theorem bool_zero (w : World) : (zeroValue 4).run Tryz.prog w = .ok (.bool false) w := by
 have h : (Tryz.prog.info? 4).bind (·.zero) = some (.bool false) := by kernel_rfl
 unfold zeroValue typeInfo
 cases hi : Tryz.prog.info? 4 with
 | none => rw [hi] at h; cases h
 | some i =>
  rw [hi] at h
  have h2 : i.zero = some (.bool false) := h
  simp [hi, h2]
/-- The names behind a call with this error. -/
def metN (met : List Str) (s : Str) (c : Int) : List Str := if c = 0 then met ++ [s] else met
/-- The error of a name and of further names, of which one is wrong where r is true. -/
def freshC (met : List Str) (s : Str) (r : Bool) : Int := if nameOk s = false ∨ r = true then 16 else if met.contains s = true then 11 else 0
theorem fresh_gen (g : Nat) (met : List Str) (s : Str) (v : Value) (r : Bool) (w : World) (hw : SxW w) (hm : NMap w g met)
  (hv : ∀ W, SxW W -> Below w.heap.size w W -> Calls Tryz.prog 70 #[v, .func (.func 71) #[] #[]] W fun e w' => e = .returned (.bool r) /\ Below W.heap.size W w') :
  Calls Tryz.prog 40 #[.map (some g), .string (bs s), v] w fun e w' => e = .returned (.int .i64 (freshC met s r)) /\ NMap w' g (metN met s (freshC met s r)) /\ w.grownBy w' (some g) := by
 have K := hI (isName_any s w hw)
 have HV := hI hv
 have HM := hI hm
 have HWS := hI hw
 obtain ⟨C, hC⟩ : ∃ C, C = freshC met s r := ⟨_, rfl⟩
 rw [<- hC]
 unfold freshC at hC
 clear hw hm hv
 generalize nameOk s = q at *
 cases q with
 | false =>
  obtain rfl : C = 16 := by rw [hC, if_pos (.inl rfl)]
  clear hC
  go_enter Tryz.func40, Tryz.ntmps40
  go_wp2_with fail
  refine K.out.mono ?_
  rintro e w1 ⟨rfl, hb⟩
  go_wp2
  go_ret
  exact ⟨rfl, HM.out.keep (hb.block _ HM.out.lt), Below.grown_ hb _⟩
 | true =>
  have hC2 := hI hC
  clear hC
  go_enter Tryz.func40, Tryz.ntmps40
  go_wp2_with fail
  refine K.out.mono ?_
  rintro e w1 ⟨rfl, hb⟩
  have HB := hI hb
  clear hb
  go_wp2_with fail
  refine (HV.out w1 (HWS.out.below HB.out) HB.out).mono ?_
  rintro e w2 ⟨rfl, hb⟩
  have HB2 := hI (HB.out.trans (hb.mono HB.out.size))
  have HM2 := hI (HM.out.keep (HB2.out.block _ HM.out.lt))
  have HLT := hI HM.out.lt
  clear hb HB HV K HWS HM
  cases r with
  | true =>
   obtain rfl : C = 16 := by rw [hC2.out, if_pos (.inr rfl)]
   go_wp2
   go_ret
   exact ⟨rfl, HM2.out, Below.grown_ HB2.out _⟩
  | false =>
   obtain ⟨m, hm⟩ : ∃ m, m = met.contains s := ⟨_, rfl⟩
   have HMM := hI hm
   clear hm
   have HL := hI (show (if met.contains (bs s).data.toList = true then some (Value.bool true) else none).getD (.bool false) = .bool m by rw [bs_list, <- HMM.out]; cases m <;> rfl)
   cases m with
   | true =>
    obtain rfl : C = 11 := by rw [hC2.out, if_neg (by simp), if_pos HMM.out.symm]
    go_wp2_with (at_lookup; refine wpList_lookup_str rfl _ _ 108 false rfl 9 4 Tryz.underlying108 Tryz.underlying9 (.bool false) bool_zero g _ HM2.out rfl (bs s) rfl ?_; rw [HL.out]; simp only [if_false, Bool.false_eq_true])
    go_ret
    exact ⟨rfl, HM2.out, Below.grown_ HB2.out _⟩
   | false =>
    obtain rfl : C = 0 := by rw [hC2.out, if_neg (by simp), if_neg (by rw [<- HMM.out]; decide)]
    go_wp2_with (first | (at_lookup; refine wpList_lookup_str rfl _ _ 108 false rfl 9 4 Tryz.underlying108 Tryz.underlying9 (.bool false) bool_zero g _ HM2.out rfl (bs s) rfl ?_; rw [HL.out]; simp only [if_false, Bool.false_eq_true]) | (at_mapUpdate; refine Hid.out ?_))
    refine hI ?_
    refine wpList_mapUpdate_str rfl (.tmp 17) (.tmp 18) (.const (.bool true)) 108 rfl 9 4 Tryz.underlying108 Tryz.underlying9 g _ HM2.out rfl (bs s) rfl (.bool true) rfl (fun w3 hm3 hg3 hs3 => ?_)
    have HM3 := hI hm3
    have HG3 := hI (World.grownBy.trans (Below.grown_ HB2.out (some g)) hg3)
    clear hm3 hg3 hs3
    go_wp2
    go_ret
    refine ⟨rfl, ?_, HG3.out⟩
    have := HM3.out
    rw [NMap.upd_] at this
    exact this
theorem fresh_none (g : Nat) (met : List Str) (s : Str) (w : World) (hw : SxW w) (hm : NMap w g met) :
  Calls Tryz.prog 40 #[.map (some g), .string (bs s), .slice none 0 0] w fun e w' => e = .returned (.int .i64 (freshC met s false)) /\ NMap w' g (metN met s (freshC met s false)) /\ w.grownBy w' (some g) :=
 fresh_gen g met s _ false w hw hm fun W _ _ => (containsFunc_none W).mono (by rintro e w' ⟨rfl, rfl⟩; exact ⟨rfl, Below.refl _ _⟩)
theorem fresh_one (g : Nat) (met : List Str) (s k : Str) (b o c : Nat) (w : World) (hw : SxW w) (hm : NMap w g met) (hb : b < w.heap.size) (hc : w.cell? ⟨b, o, none⟩ = some (.string (bs k))) :
  Calls Tryz.prog 40 #[.map (some g), .string (bs s), .slice (some ⟨b, o, none⟩) 1 c] w fun e w' => e = .returned (.int .i64 (freshC met s (!nameOk k))) /\ NMap w' g (metN met s (freshC met s (!nameOk k))) /\ w.grownBy w' (some g) :=
 fresh_gen g met s _ _ w hw hm fun W hW hB => containsFunc_one b o c k W hW (by rw [World.cell?_of_block (a := ⟨b, o, none⟩) (hB.block b hb)]; exact hc)
end Go.Proofs.YtkakbidllpjopaaGreatDoor
