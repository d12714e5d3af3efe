/- The walk of the reference parser's Parse. No condition beyond 65536 bytes. The text form of syntax trees, in plain Lean; the shape of a valid expression. No condition. Contracts of Go's library at this translation, out of the kit's shelf. No condition beyond the contracts' own. -/
import Derived.Test.YtkakbidllpjopaaGreatDoorU11
import Derived.Test.YtkakbidllpjopaaGreatDoorU07
import Derived.Test.YtkakbidllpjopaaGreatDoorU01
import Derived.Lib.ItoaLen
import Derived.Shelf.Strings.Builder1
import Derived.Shelf.Strings.Builder2
import Derived.Shelf.Strings.OnBuilder
import Derived.Shelf.Small.Wraps
import Derived.Shelf.Strings.BuilderF
import Derived.Shelf.Strings.BuilderK
import Derived.Shelf.Strings.Builder2Cap
import Derived.Shelf.Strconv.Itoa0
import Derived.Shelf.Strconv.Itoa1
import Derived.Shelf.LaysM
import Derived.Shelf.Strconv.Itoa2
import Derived.Shelf.Strconv.Itoa3
import Derived.Shelf.Strconv.Itoa4
import Derived.Shelf.Strings.Prefix
import Derived.Shelf.Bits.Mul64
import Derived.Shelf.Strings.Repeat
import Derived.Shelf.Strings.BuilderCap
import Derived.Shelf.Slices.Turned
import Derived.Shelf.Slices.Equal
import Derived.Ground.Names2Prog
import Derived.Shelf.Slices.Clone
import Derived.Shelf.Slices.Empties2
import Derived.Ground.SlgnProg
import Derived.Shelf.SlicesE.Clone
import Derived.Test.YtkakbidllpjopaaGreatDoorProg
set_option linter.unusedVariables false
set_option linter.unusedSimpArgs false
set_option maxRecDepth 100000
set_option maxHeartbeats 12800000
namespace Go.Proofs.YtkakbidllpjopaaGreatDoor
open Go.RowKit
theorem rParse_any (s : Str) (w : World) (hl : s.length <= 65536) : Calls Tryz.prog 15 #[.string (bs s)] w fun e w' => ∃ v : Value, e = .returned (.tuple #[v, .int .i64 (rpP s).2.1, .int .i64 (rpP s).2.2]) /\ PV w' (fun b => w.heap.size <= b) (rpP s).1 v /\ Below w.heap.size w w' := by
 obtain ⟨wA, hwA⟩ : ∃ W, W = w.alloc (.cells #[.slice none 0 0, .slice none 0 0] 45) := ⟨_, rfl⟩
 have hb : Below w.heap.size w wA := by rw [hwA]; exact (Below.refl _ _).alloc (Nat.le_refl _) _
 have HSA := hI (show w.heap.size < wA.heap.size from by rw [hwA, World.size_alloc]; omega)
 have XA := hI (show HB 45 wA w.heap.size #[.slice none 0 0, .slice none 0 0] from by rw [hwA]; exact heap_alloc_new w _)
 have BA0 := hI hb
 obtain ⟨k0, hk0⟩ : ∃ z : Int, z = ((Lx.scanL s).2.1 : Int) := ⟨_, rfl⟩
 obtain ⟨er, her⟩ : ∃ z : Int, z = (Lx.scanL s).2.2 := ⟨_, rfl⟩
 have KS := hI (show Calls Tryz.prog 31 #[.string (bs s)] wA fun e w' => ∃ v, e = .returned (.tuple #[v, .int .i64 k0, .int .i64 er]) /\ w'.ownsRow wA.heap.size 93 3 v (Lx.scanL s).1.length ((Lx.scanL s).1.flatMap Lx.tokC) /\ Below wA.heap.size wA w' from by rw [hk0, her]; exact Lx.rscan_any s wA hl)
 have HK0 := hI hk0
 have HER := hI her
 clear hb hk0 her hl
 go_enter Tryz.func15, Tryz.ntmps15
 go_upto_region 1 with fail
 rw [<- hwA]
 clear hwA
 go_wp2_with fail
 refine KS.out.mono ?_
 rintro e w1 ⟨v, rfl, ho, hb⟩
 have B := hI hb
 clear hb KS
 by_cases he : er = 0
 ·subst he
  have HE := hI HER.out.symm
  obtain ⟨us, ⟨zk, zt, zo⟩, hL, hz1, hz2⟩ := last_tok HER.out.symm
  obtain rfl : zk = 0 := hz1
  obtain rfl : zt = [] := hz2
  obtain ⟨hlok, hends, -, -, -, -⟩ := scan_ok HER.out.symm
  have LOK := hI hlok
  have ENDS := hI hends
  obtain ⟨nl, hnl⟩ : ∃ k, k = (Lx.scanL s).1.length := ⟨_, rfl⟩
  obtain ⟨nn, hnn⟩ : ∃ k, k = (Lx.scanL s).1.length + 3 := ⟨_, rfl⟩
  obtain ⟨m, hm⟩ : ∃ k, k = us.length := ⟨_, rfl⟩
  have hlm : nl = us.length + 1 := by rw [hnl, hL]; simp
  have NL := hI hnl
  have NN := hI hnn
  rw [<- hnl] at ho
  obtain ⟨g, cap, rfl, hg⟩ : ∃ g cap, v = .slice (some ⟨g, 0, none⟩) nl cap /\ wA.heap.size <= g := by
   rcases ho.2 with ⟨-, h0⟩ | ⟨g, cap, cur, h1, h2, -⟩
   ·omega
   exact ⟨g, cap, h1, h2⟩
  have HG := hI hg
  have OW := hI ho
  rw [hL] at ho
  have hz := last_cells hlm ho
  rw [<- hm] at hz
  have HZ := hI hz
  have hlen := hlok.len
  have bm : (m : Int) < (nl : Int) := by omega
  have WM : IntKind.i64.wrap ((nl : Int) - 1) = (m : Int) := by simp [IntKind.wrap, IntKind.bits, IntKind.signed]; omega
  clear ho hz hg hlm hnl hnn hL hlok hends hm hlen
  go_upto_region 4 with fail
  go_cut [5] from 28 (fun v5 wz => True /\ ∃ tb tq tc, v5 = .slice (some ⟨tb, tq, none⟩) nn tc /\ RS (Lx.scanL s).1 tb tq nn tc wz /\ Below wA.heap.size wA wz)
  case first =>
   rename_i J0 K0 hR0 hK0
   refine wp_region_held_drew (S := fun W => True) (by kernel_rfl) trivial (fun hHeld => ?_)
   have OQ := hI (World.ownsRow.kept OW.out (Below.grown_ (Below.refl w1.heap.size w1).drew none) (.inr (by simp [Value.ownBlock])))
   have B1 := hI (B.out.trans ((Below.refl w1.heap.size w1).drew.mono B.out.size))
   have HZQ := hI (show w1.drew.cell? ⟨g, m * 3, none⟩ = some (.int .i64 0) /\ w1.drew.cell? ⟨g, m * 3 + 1, none⟩ = some (.string (bs [])) /\ w1.drew.cell? ⟨g, m * 3 + 2, none⟩ = some (.int .i64 zo) from HZ.out)
   generalize w1.drew = wq at *
   clear OW B HZ hHeld
   refine wpAnyH_take (i := 0) (oi := ⟨some 28, _, _, _, _, _⟩) (v := .slice (some ⟨g, 0, none⟩) nl cap) rfl (by kernel_rfl) (by kernel_rfl) (by kernel_rfl) (fun _ _ _ h => h) (Or.inl ⟨by rfl, ?_⟩) trivial ?_
   ·intro W' hW
    go_simp
   try simp only [Act.put, sA, sB, sC]
   refine wpAnyH_take (i := 1) (oi := ⟨some 29, _, _, _, _, _⟩) (v := .slice (some ⟨g, 0, none⟩) nl cap) rfl (by kernel_rfl) (by kernel_rfl) (by kernel_rfl) (fun _ _ _ h => h) (Or.inl ⟨by rfl, ?_⟩) trivial ?_
   ·intro W' hW
    go_simp
   try simp only [Act.put, sA, sB, sC]
   refine wpAnyH_take (i := 2) (oi := ⟨some 30, _, _, _, _, _⟩) (v := .slice (some ⟨g, 0, none⟩) nl cap) rfl (by kernel_rfl) (by kernel_rfl) (by kernel_rfl) (fun _ _ _ h => h) (Or.inl ⟨by rfl, ?_⟩) trivial ?_
   ·intro W' hW
    go_simp
   try simp only [Act.put, sA, sB, sC]
   refine wpAnyH_take (i := 3) (oi := ⟨some 31, _, _, _, _, _⟩) (v := .int .i64 nl) rfl (by kernel_rfl) (by kernel_rfl) (by kernel_rfl) (fun _ _ _ h => h) (Or.inl ⟨by rfl, ?_⟩) trivial ?_
   ·intro W' hW
    go_simp
   try simp only [Act.put, sA, sB, sC]
   refine wpAnyH_take (i := 4) (oi := ⟨some 32, _, _, _, _, _⟩) (v := .int .i64 m) rfl (by kernel_rfl) (by kernel_rfl) (by kernel_rfl) (fun _ _ _ h => h) (Or.inl ⟨by rfl, ?_⟩) trivial ?_
   ·intro W' hW
    go_simp
   try simp only [Act.put, sA, sB, sC]
   refine wpAnyH_take (i := 5) (oi := ⟨some 33, _, _, _, _, _⟩) (v := .pointer (some ⟨g, m * 3, none⟩)) rfl (by kernel_rfl) (by kernel_rfl) (by kernel_rfl) (fun _ _ _ h => h) (Or.inl ⟨by rfl, ?_⟩) trivial ?_
   ·intro W' hW
    go_simp
   try simp only [Act.put, sA, sB, sC]
   refine wpAnyH_take (i := 7) (oi := ⟨some 35, _, _, _, _, _⟩) (v := .slice (some ⟨g, 0, none⟩) nl cap) rfl (by kernel_rfl) (by kernel_rfl) (by kernel_rfl) (fun _ _ _ h => h) (Or.inl ⟨by rfl, ?_⟩) trivial ?_
   ·intro W' hW
    go_simp
   try simp only [Act.put, sA, sB, sC]
   refine wpAnyH_take (i := 8) (oi := ⟨some 36, _, _, _, _, _⟩) (v := .slice (some ⟨g, 0, none⟩) nl cap) rfl (by kernel_rfl) (by kernel_rfl) (by kernel_rfl) (fun _ _ _ h => h) (Or.inl ⟨by rfl, ?_⟩) trivial ?_
   ·intro W' hW
    go_simp
   try simp only [Act.put, sA, sB, sC]
   refine wpAnyH_take (i := 9) (oi := ⟨some 37, _, _, _, _, _⟩) (v := .int .i64 nl) rfl (by kernel_rfl) (by kernel_rfl) (by kernel_rfl) (fun _ _ _ h => h) (Or.inl ⟨by rfl, ?_⟩) trivial ?_
   ·intro W' hW
    go_simp
   try simp only [Act.put, sA, sB, sC]
   refine wpAnyH_take (i := 10) (oi := ⟨some 38, _, _, _, _, _⟩) (v := .int .i64 m) rfl (by kernel_rfl) (by kernel_rfl) (by kernel_rfl) (fun _ _ _ h => h) (Or.inl ⟨by rfl, ?_⟩) trivial ?_
   ·intro W' hW
    go_simp
   try simp only [Act.put, sA, sB, sC]
   refine wpAnyH_take (i := 11) (oi := ⟨some 39, _, _, _, _, _⟩) (v := .pointer (some ⟨g, m * 3, none⟩)) rfl (by kernel_rfl) (by kernel_rfl) (by kernel_rfl) (fun _ _ _ h => h) (Or.inl ⟨by rfl, ?_⟩) trivial ?_
   ·intro W' hW
    go_simp
   try simp only [Act.put, sA, sB, sC]
   refine wpAnyH_take (i := 13) (oi := ⟨some 41, _, _, _, _, _⟩) (v := .slice (some ⟨g, 0, none⟩) nl cap) rfl (by kernel_rfl) (by kernel_rfl) (by kernel_rfl) (fun _ _ _ h => h) (Or.inl ⟨by rfl, ?_⟩) trivial ?_
   ·intro W' hW
    go_simp
   try simp only [Act.put, sA, sB, sC]
   refine wpAnyH_take (i := 14) (oi := ⟨some 42, _, _, _, _, _⟩) (v := .slice (some ⟨g, 0, none⟩) nl cap) rfl (by kernel_rfl) (by kernel_rfl) (by kernel_rfl) (fun _ _ _ h => h) (Or.inl ⟨by rfl, ?_⟩) trivial ?_
   ·intro W' hW
    go_simp
   try simp only [Act.put, sA, sB, sC]
   refine wpAnyH_take (i := 15) (oi := ⟨some 43, _, _, _, _, _⟩) (v := .int .i64 nl) rfl (by kernel_rfl) (by kernel_rfl) (by kernel_rfl) (fun _ _ _ h => h) (Or.inl ⟨by rfl, ?_⟩) trivial ?_
   ·intro W' hW
    go_simp
   try simp only [Act.put, sA, sB, sC]
   refine wpAnyH_take (i := 16) (oi := ⟨some 44, _, _, _, _, _⟩) (v := .int .i64 m) rfl (by kernel_rfl) (by kernel_rfl) (by kernel_rfl) (fun _ _ _ h => h) (Or.inl ⟨by rfl, ?_⟩) trivial ?_
   ·intro W' hW
    go_simp
   try simp only [Act.put, sA, sB, sC]
   refine wpAnyH_take (i := 17) (oi := ⟨some 45, _, _, _, _, _⟩) (v := .pointer (some ⟨g, m * 3, none⟩)) rfl (by kernel_rfl) (by kernel_rfl) (by kernel_rfl) (fun _ _ _ h => h) (Or.inl ⟨by rfl, ?_⟩) trivial ?_
   ·intro W' hW
    go_simp
   try simp only [Act.put, sA, sB, sC]
   refine wpAnyH_ready (rs := [6, 12, 18]) (by kernel_rfl) (by simp) ?_
   refine AllReadyH.cons (o := ⟨some 34, _, _, _, _, _⟩) rfl (fun K hK => ?_) (AllReadyH.cons (o := ⟨some 40, _, _, _, _, _⟩) rfl (fun K hK => ?_) (AllReadyH.cons (o := ⟨some 46, _, _, _, _, _⟩) rfl (fun K hK => ?_) (AllReadyH.nil)))
   ·obtain ⟨z0, z1, z2⟩ := HZQ.out
    go_simp
    clear z0 z1 z2
    refine hK.out _ _ trivial (fun hHeld => ?_)
    clear hK hHeld
    try simp only [Act.put, sA, sB, sC]
    refine wpAnyH_ready (rs := [12, 18]) (by kernel_rfl) (by simp) ?_
    refine AllReadyH.cons (o := ⟨some 40, _, _, _, _, _⟩) rfl (fun K hK => ?_) (AllReadyH.cons (o := ⟨some 46, _, _, _, _, _⟩) rfl (fun K hK => ?_) (AllReadyH.nil))
    ·obtain ⟨z0, z1, z2⟩ := HZQ.out
     go_simp
     clear z0 z1 z2
     refine hK.out _ _ trivial (fun hHeld => ?_)
     clear hK hHeld
     try simp only [Act.put, sA, sB, sC]
     refine wpAnyH_ready (rs := [18]) (by kernel_rfl) (by simp) ?_
     refine AllReadyH.cons (o := ⟨some 46, _, _, _, _, _⟩) rfl (fun K hK => ?_) (AllReadyH.nil)
     ·obtain ⟨z0, z1, z2⟩ := HZQ.out
      go_simp
      clear z0 z1 z2
      refine hK.out _ _ trivial (fun hHeld => ?_)
      clear hK hHeld
      try simp only [Act.put, sA, sB, sC]
      refine wpAnyH_ready (rs := [19]) (by kernel_rfl) (by simp) ?_
      refine AllReadyH.cons (o := ⟨some 47, _, _, _, _, _⟩) rfl (fun K hK => ?_) AllReadyH.nil
      go_simp
      obtain ⟨wv, hwv⟩ : ∃ W, W = wq.alloc (.cells #[.int .i64 0, .string (bs []), .int .i64 zo, .int .i64 0, .string (bs []), .int .i64 zo, .int .i64 0, .string (bs []), .int .i64 zo] 93) := ⟨_, rfl⟩
      have hbv : Below wq.heap.size wq wv := by rw [hwv]; exact (Below.refl _ _).alloc (Nat.le_refl _) _
      have hrv : wv.heap[wq.heap.size]? = some (.cells #[.int .i64 0, .string (bs []), .int .i64 zo, .int .i64 0, .string (bs []), .int .i64 zo, .int .i64 0, .string (bs []), .int .i64 zo] 93 (0, 0)) := by rw [hwv]; exact heap_alloc_new wq _
      obtain ⟨v', w', e1, e2, e3⟩ := app3 (z := ⟨0, [], zo⟩) (ty := 90) (v := .slice (some ⟨g, 0, none⟩) nl cap) LOK.out.len (by rw [<- NL.out]; exact World.ownsRow.kept OQ.out (Below.grown_ hbv none) (.inr (by simp [Value.ownBlock]))) wq.heap.size (lt_of_block hrv) (range_new (cs := Lx.tokC ⟨0, [], zo⟩ ++ (Lx.tokC ⟨0, [], zo⟩ ++ Lx.tokC ⟨0, [], zo⟩)) hrv) (Nat.le_trans B1.out.size hbv.size)
      have hbB := (B1.out.trans (hbv.mono B1.out.size)).grown e3 (Nat.le_trans B1.out.size hbv.size) (fun q hq => by obtain rfl : g = q := Option.some.inj hq; exact HG.out)
      rw [<- hwv]
      clear hwv
      refine hK.out _ _ trivial (fun hHeld => ?_)
      clear hK hHeld
      try simp only [Act.put, sA, sB, sC]
      refine wpAnyH_ready (rs := [20]) (by kernel_rfl) (by simp) ?_
      refine AllReadyH.cons (o := ⟨some 48, _, _, _, _, _⟩) rfl (fun K hK => ?_) AllReadyH.nil
      refine step_app rfl (.tmp 28) (.tmp 47) 90 rfl _ _ rfl rfl e1 ?_
      refine hK.out _ _ trivial (fun hHeld => ?_)
      clear hK hHeld
      try simp only [Act.put, sA, sB, sC]
      refine wpAnyH_take (i := 21) (oi := ⟨some 5, _, _, _, _, _⟩) (v := v') rfl (by kernel_rfl) (by kernel_rfl) (by kernel_rfl) (fun _ _ _ h => h) (Or.inl ⟨by rfl, ?_⟩) trivial ?_
      ·intro W' hW
       go_simp
      try simp only [Act.put, sA, sB, sC]
      refine wpAnyH_done (by kernel_rfl) ?_ _
      refine hK0 _ _ (Met.intro (hR0 _ _ ?_))
      (repeat apply Exists.intro)
      refine ⟨?rel, rfl⟩
      case rel =>
       refine ⟨trivial, ?_⟩
       obtain ⟨tb, tq, tc, a1, a2, -⟩ := rs_of LOK.out ENDS.out rfl rfl e2
       rw [NN.out]
       exact ⟨tb, tq, tc, a1, a2, hbB⟩
    obtain ⟨z0, z1, z2⟩ := HZQ.out
    go_simp
    clear z0 z1 z2
    refine hK.out _ _ trivial (fun hHeld => ?_)
    clear hK hHeld
    try simp only [Act.put, sA, sB, sC]
    refine wpAnyH_ready (rs := [12]) (by kernel_rfl) (by simp) ?_
    refine AllReadyH.cons (o := ⟨some 40, _, _, _, _, _⟩) rfl (fun K hK => ?_) (AllReadyH.nil)
    ·obtain ⟨z0, z1, z2⟩ := HZQ.out
     go_simp
     clear z0 z1 z2
     refine hK.out _ _ trivial (fun hHeld => ?_)
     clear hK hHeld
     try simp only [Act.put, sA, sB, sC]
     refine wpAnyH_ready (rs := [19]) (by kernel_rfl) (by simp) ?_
     refine AllReadyH.cons (o := ⟨some 47, _, _, _, _, _⟩) rfl (fun K hK => ?_) AllReadyH.nil
     go_simp
     obtain ⟨wv, hwv⟩ : ∃ W, W = wq.alloc (.cells #[.int .i64 0, .string (bs []), .int .i64 zo, .int .i64 0, .string (bs []), .int .i64 zo, .int .i64 0, .string (bs []), .int .i64 zo] 93) := ⟨_, rfl⟩
     have hbv : Below wq.heap.size wq wv := by rw [hwv]; exact (Below.refl _ _).alloc (Nat.le_refl _) _
     have hrv : wv.heap[wq.heap.size]? = some (.cells #[.int .i64 0, .string (bs []), .int .i64 zo, .int .i64 0, .string (bs []), .int .i64 zo, .int .i64 0, .string (bs []), .int .i64 zo] 93 (0, 0)) := by rw [hwv]; exact heap_alloc_new wq _
     obtain ⟨v', w', e1, e2, e3⟩ := app3 (z := ⟨0, [], zo⟩) (ty := 90) (v := .slice (some ⟨g, 0, none⟩) nl cap) LOK.out.len (by rw [<- NL.out]; exact World.ownsRow.kept OQ.out (Below.grown_ hbv none) (.inr (by simp [Value.ownBlock]))) wq.heap.size (lt_of_block hrv) (range_new (cs := Lx.tokC ⟨0, [], zo⟩ ++ (Lx.tokC ⟨0, [], zo⟩ ++ Lx.tokC ⟨0, [], zo⟩)) hrv) (Nat.le_trans B1.out.size hbv.size)
     have hbB := (B1.out.trans (hbv.mono B1.out.size)).grown e3 (Nat.le_trans B1.out.size hbv.size) (fun q hq => by obtain rfl : g = q := Option.some.inj hq; exact HG.out)
     rw [<- hwv]
     clear hwv
     refine hK.out _ _ trivial (fun hHeld => ?_)
     clear hK hHeld
     try simp only [Act.put, sA, sB, sC]
     refine wpAnyH_ready (rs := [20]) (by kernel_rfl) (by simp) ?_
     refine AllReadyH.cons (o := ⟨some 48, _, _, _, _, _⟩) rfl (fun K hK => ?_) AllReadyH.nil
     refine step_app rfl (.tmp 28) (.tmp 47) 90 rfl _ _ rfl rfl e1 ?_
     refine hK.out _ _ trivial (fun hHeld => ?_)
     clear hK hHeld
     try simp only [Act.put, sA, sB, sC]
     refine wpAnyH_take (i := 21) (oi := ⟨some 5, _, _, _, _, _⟩) (v := v') rfl (by kernel_rfl) (by kernel_rfl) (by kernel_rfl) (fun _ _ _ h => h) (Or.inl ⟨by rfl, ?_⟩) trivial ?_
     ·intro W' hW
      go_simp
     try simp only [Act.put, sA, sB, sC]
     refine wpAnyH_done (by kernel_rfl) ?_ _
     refine hK0 _ _ (Met.intro (hR0 _ _ ?_))
     (repeat apply Exists.intro)
     refine ⟨?rel, rfl⟩
     case rel =>
      refine ⟨trivial, ?_⟩
      obtain ⟨tb, tq, tc, a1, a2, -⟩ := rs_of LOK.out ENDS.out rfl rfl e2
      rw [NN.out]
      exact ⟨tb, tq, tc, a1, a2, hbB⟩
   ·obtain ⟨z0, z1, z2⟩ := HZQ.out
    go_simp
    clear z0 z1 z2
    refine hK.out _ _ trivial (fun hHeld => ?_)
    clear hK hHeld
    try simp only [Act.put, sA, sB, sC]
    refine wpAnyH_ready (rs := [6, 18]) (by kernel_rfl) (by simp) ?_
    refine AllReadyH.cons (o := ⟨some 34, _, _, _, _, _⟩) rfl (fun K hK => ?_) (AllReadyH.cons (o := ⟨some 46, _, _, _, _, _⟩) rfl (fun K hK => ?_) (AllReadyH.nil))
    ·obtain ⟨z0, z1, z2⟩ := HZQ.out
     go_simp
     clear z0 z1 z2
     refine hK.out _ _ trivial (fun hHeld => ?_)
     clear hK hHeld
     try simp only [Act.put, sA, sB, sC]
     refine wpAnyH_ready (rs := [18]) (by kernel_rfl) (by simp) ?_
     refine AllReadyH.cons (o := ⟨some 46, _, _, _, _, _⟩) rfl (fun K hK => ?_) (AllReadyH.nil)
     ·obtain ⟨z0, z1, z2⟩ := HZQ.out
      go_simp
      clear z0 z1 z2
      refine hK.out _ _ trivial (fun hHeld => ?_)
      clear hK hHeld
      try simp only [Act.put, sA, sB, sC]
      refine wpAnyH_ready (rs := [19]) (by kernel_rfl) (by simp) ?_
      refine AllReadyH.cons (o := ⟨some 47, _, _, _, _, _⟩) rfl (fun K hK => ?_) AllReadyH.nil
      go_simp
      obtain ⟨wv, hwv⟩ : ∃ W, W = wq.alloc (.cells #[.int .i64 0, .string (bs []), .int .i64 zo, .int .i64 0, .string (bs []), .int .i64 zo, .int .i64 0, .string (bs []), .int .i64 zo] 93) := ⟨_, rfl⟩
      have hbv : Below wq.heap.size wq wv := by rw [hwv]; exact (Below.refl _ _).alloc (Nat.le_refl _) _
      have hrv : wv.heap[wq.heap.size]? = some (.cells #[.int .i64 0, .string (bs []), .int .i64 zo, .int .i64 0, .string (bs []), .int .i64 zo, .int .i64 0, .string (bs []), .int .i64 zo] 93 (0, 0)) := by rw [hwv]; exact heap_alloc_new wq _
      obtain ⟨v', w', e1, e2, e3⟩ := app3 (z := ⟨0, [], zo⟩) (ty := 90) (v := .slice (some ⟨g, 0, none⟩) nl cap) LOK.out.len (by rw [<- NL.out]; exact World.ownsRow.kept OQ.out (Below.grown_ hbv none) (.inr (by simp [Value.ownBlock]))) wq.heap.size (lt_of_block hrv) (range_new (cs := Lx.tokC ⟨0, [], zo⟩ ++ (Lx.tokC ⟨0, [], zo⟩ ++ Lx.tokC ⟨0, [], zo⟩)) hrv) (Nat.le_trans B1.out.size hbv.size)
      have hbB := (B1.out.trans (hbv.mono B1.out.size)).grown e3 (Nat.le_trans B1.out.size hbv.size) (fun q hq => by obtain rfl : g = q := Option.some.inj hq; exact HG.out)
      rw [<- hwv]
      clear hwv
      refine hK.out _ _ trivial (fun hHeld => ?_)
      clear hK hHeld
      try simp only [Act.put, sA, sB, sC]
      refine wpAnyH_ready (rs := [20]) (by kernel_rfl) (by simp) ?_
      refine AllReadyH.cons (o := ⟨some 48, _, _, _, _, _⟩) rfl (fun K hK => ?_) AllReadyH.nil
      refine step_app rfl (.tmp 28) (.tmp 47) 90 rfl _ _ rfl rfl e1 ?_
      refine hK.out _ _ trivial (fun hHeld => ?_)
      clear hK hHeld
      try simp only [Act.put, sA, sB, sC]
      refine wpAnyH_take (i := 21) (oi := ⟨some 5, _, _, _, _, _⟩) (v := v') rfl (by kernel_rfl) (by kernel_rfl) (by kernel_rfl) (fun _ _ _ h => h) (Or.inl ⟨by rfl, ?_⟩) trivial ?_
      ·intro W' hW
       go_simp
      try simp only [Act.put, sA, sB, sC]
      refine wpAnyH_done (by kernel_rfl) ?_ _
      refine hK0 _ _ (Met.intro (hR0 _ _ ?_))
      (repeat apply Exists.intro)
      refine ⟨?rel, rfl⟩
      case rel =>
       refine ⟨trivial, ?_⟩
       obtain ⟨tb, tq, tc, a1, a2, -⟩ := rs_of LOK.out ENDS.out rfl rfl e2
       rw [NN.out]
       exact ⟨tb, tq, tc, a1, a2, hbB⟩
    obtain ⟨z0, z1, z2⟩ := HZQ.out
    go_simp
    clear z0 z1 z2
    refine hK.out _ _ trivial (fun hHeld => ?_)
    clear hK hHeld
    try simp only [Act.put, sA, sB, sC]
    refine wpAnyH_ready (rs := [6]) (by kernel_rfl) (by simp) ?_
    refine AllReadyH.cons (o := ⟨some 34, _, _, _, _, _⟩) rfl (fun K hK => ?_) (AllReadyH.nil)
    ·obtain ⟨z0, z1, z2⟩ := HZQ.out
     go_simp
     clear z0 z1 z2
     refine hK.out _ _ trivial (fun hHeld => ?_)
     clear hK hHeld
     try simp only [Act.put, sA, sB, sC]
     refine wpAnyH_ready (rs := [19]) (by kernel_rfl) (by simp) ?_
     refine AllReadyH.cons (o := ⟨some 47, _, _, _, _, _⟩) rfl (fun K hK => ?_) AllReadyH.nil
     go_simp
     obtain ⟨wv, hwv⟩ : ∃ W, W = wq.alloc (.cells #[.int .i64 0, .string (bs []), .int .i64 zo, .int .i64 0, .string (bs []), .int .i64 zo, .int .i64 0, .string (bs []), .int .i64 zo] 93) := ⟨_, rfl⟩
     have hbv : Below wq.heap.size wq wv := by rw [hwv]; exact (Below.refl _ _).alloc (Nat.le_refl _) _
     have hrv : wv.heap[wq.heap.size]? = some (.cells #[.int .i64 0, .string (bs []), .int .i64 zo, .int .i64 0, .string (bs []), .int .i64 zo, .int .i64 0, .string (bs []), .int .i64 zo] 93 (0, 0)) := by rw [hwv]; exact heap_alloc_new wq _
     obtain ⟨v', w', e1, e2, e3⟩ := app3 (z := ⟨0, [], zo⟩) (ty := 90) (v := .slice (some ⟨g, 0, none⟩) nl cap) LOK.out.len (by rw [<- NL.out]; exact World.ownsRow.kept OQ.out (Below.grown_ hbv none) (.inr (by simp [Value.ownBlock]))) wq.heap.size (lt_of_block hrv) (range_new (cs := Lx.tokC ⟨0, [], zo⟩ ++ (Lx.tokC ⟨0, [], zo⟩ ++ Lx.tokC ⟨0, [], zo⟩)) hrv) (Nat.le_trans B1.out.size hbv.size)
     have hbB := (B1.out.trans (hbv.mono B1.out.size)).grown e3 (Nat.le_trans B1.out.size hbv.size) (fun q hq => by obtain rfl : g = q := Option.some.inj hq; exact HG.out)
     rw [<- hwv]
     clear hwv
     refine hK.out _ _ trivial (fun hHeld => ?_)
     clear hK hHeld
     try simp only [Act.put, sA, sB, sC]
     refine wpAnyH_ready (rs := [20]) (by kernel_rfl) (by simp) ?_
     refine AllReadyH.cons (o := ⟨some 48, _, _, _, _, _⟩) rfl (fun K hK => ?_) AllReadyH.nil
     refine step_app rfl (.tmp 28) (.tmp 47) 90 rfl _ _ rfl rfl e1 ?_
     refine hK.out _ _ trivial (fun hHeld => ?_)
     clear hK hHeld
     try simp only [Act.put, sA, sB, sC]
     refine wpAnyH_take (i := 21) (oi := ⟨some 5, _, _, _, _, _⟩) (v := v') rfl (by kernel_rfl) (by kernel_rfl) (by kernel_rfl) (fun _ _ _ h => h) (Or.inl ⟨by rfl, ?_⟩) trivial ?_
     ·intro W' hW
      go_simp
     try simp only [Act.put, sA, sB, sC]
     refine wpAnyH_done (by kernel_rfl) ?_ _
     refine hK0 _ _ (Met.intro (hR0 _ _ ?_))
     (repeat apply Exists.intro)
     refine ⟨?rel, rfl⟩
     case rel =>
      refine ⟨trivial, ?_⟩
      obtain ⟨tb, tq, tc, a1, a2, -⟩ := rs_of LOK.out ENDS.out rfl rfl e2
      rw [NN.out]
      exact ⟨tb, tq, tc, a1, a2, hbB⟩
   obtain ⟨z0, z1, z2⟩ := HZQ.out
   go_simp
   clear z0 z1 z2
   refine hK.out _ _ trivial (fun hHeld => ?_)
   clear hK hHeld
   try simp only [Act.put, sA, sB, sC]
   refine wpAnyH_ready (rs := [6, 12]) (by kernel_rfl) (by simp) ?_
   refine AllReadyH.cons (o := ⟨some 34, _, _, _, _, _⟩) rfl (fun K hK => ?_) (AllReadyH.cons (o := ⟨some 40, _, _, _, _, _⟩) rfl (fun K hK => ?_) (AllReadyH.nil))
   ·obtain ⟨z0, z1, z2⟩ := HZQ.out
    go_simp
    clear z0 z1 z2
    refine hK.out _ _ trivial (fun hHeld => ?_)
    clear hK hHeld
    try simp only [Act.put, sA, sB, sC]
    refine wpAnyH_ready (rs := [12]) (by kernel_rfl) (by simp) ?_
    refine AllReadyH.cons (o := ⟨some 40, _, _, _, _, _⟩) rfl (fun K hK => ?_) (AllReadyH.nil)
    ·obtain ⟨z0, z1, z2⟩ := HZQ.out
     go_simp
     clear z0 z1 z2
     refine hK.out _ _ trivial (fun hHeld => ?_)
     clear hK hHeld
     try simp only [Act.put, sA, sB, sC]
     refine wpAnyH_ready (rs := [19]) (by kernel_rfl) (by simp) ?_
     refine AllReadyH.cons (o := ⟨some 47, _, _, _, _, _⟩) rfl (fun K hK => ?_) AllReadyH.nil
     go_simp
     obtain ⟨wv, hwv⟩ : ∃ W, W = wq.alloc (.cells #[.int .i64 0, .string (bs []), .int .i64 zo, .int .i64 0, .string (bs []), .int .i64 zo, .int .i64 0, .string (bs []), .int .i64 zo] 93) := ⟨_, rfl⟩
     have hbv : Below wq.heap.size wq wv := by rw [hwv]; exact (Below.refl _ _).alloc (Nat.le_refl _) _
     have hrv : wv.heap[wq.heap.size]? = some (.cells #[.int .i64 0, .string (bs []), .int .i64 zo, .int .i64 0, .string (bs []), .int .i64 zo, .int .i64 0, .string (bs []), .int .i64 zo] 93 (0, 0)) := by rw [hwv]; exact heap_alloc_new wq _
     obtain ⟨v', w', e1, e2, e3⟩ := app3 (z := ⟨0, [], zo⟩) (ty := 90) (v := .slice (some ⟨g, 0, none⟩) nl cap) LOK.out.len (by rw [<- NL.out]; exact World.ownsRow.kept OQ.out (Below.grown_ hbv none) (.inr (by simp [Value.ownBlock]))) wq.heap.size (lt_of_block hrv) (range_new (cs := Lx.tokC ⟨0, [], zo⟩ ++ (Lx.tokC ⟨0, [], zo⟩ ++ Lx.tokC ⟨0, [], zo⟩)) hrv) (Nat.le_trans B1.out.size hbv.size)
     have hbB := (B1.out.trans (hbv.mono B1.out.size)).grown e3 (Nat.le_trans B1.out.size hbv.size) (fun q hq => by obtain rfl : g = q := Option.some.inj hq; exact HG.out)
     rw [<- hwv]
     clear hwv
     refine hK.out _ _ trivial (fun hHeld => ?_)
     clear hK hHeld
     try simp only [Act.put, sA, sB, sC]
     refine wpAnyH_ready (rs := [20]) (by kernel_rfl) (by simp) ?_
     refine AllReadyH.cons (o := ⟨some 48, _, _, _, _, _⟩) rfl (fun K hK => ?_) AllReadyH.nil
     refine step_app rfl (.tmp 28) (.tmp 47) 90 rfl _ _ rfl rfl e1 ?_
     refine hK.out _ _ trivial (fun hHeld => ?_)
     clear hK hHeld
     try simp only [Act.put, sA, sB, sC]
     refine wpAnyH_take (i := 21) (oi := ⟨some 5, _, _, _, _, _⟩) (v := v') rfl (by kernel_rfl) (by kernel_rfl) (by kernel_rfl) (fun _ _ _ h => h) (Or.inl ⟨by rfl, ?_⟩) trivial ?_
     ·intro W' hW
      go_simp
     try simp only [Act.put, sA, sB, sC]
     refine wpAnyH_done (by kernel_rfl) ?_ _
     refine hK0 _ _ (Met.intro (hR0 _ _ ?_))
     (repeat apply Exists.intro)
     refine ⟨?rel, rfl⟩
     case rel =>
      refine ⟨trivial, ?_⟩
      obtain ⟨tb, tq, tc, a1, a2, -⟩ := rs_of LOK.out ENDS.out rfl rfl e2
      rw [NN.out]
      exact ⟨tb, tq, tc, a1, a2, hbB⟩
   obtain ⟨z0, z1, z2⟩ := HZQ.out
   go_simp
   clear z0 z1 z2
   refine hK.out _ _ trivial (fun hHeld => ?_)
   clear hK hHeld
   try simp only [Act.put, sA, sB, sC]
   refine wpAnyH_ready (rs := [6]) (by kernel_rfl) (by simp) ?_
   refine AllReadyH.cons (o := ⟨some 34, _, _, _, _, _⟩) rfl (fun K hK => ?_) (AllReadyH.nil)
   ·obtain ⟨z0, z1, z2⟩ := HZQ.out
    go_simp
    clear z0 z1 z2
    refine hK.out _ _ trivial (fun hHeld => ?_)
    clear hK hHeld
    try simp only [Act.put, sA, sB, sC]
    refine wpAnyH_ready (rs := [19]) (by kernel_rfl) (by simp) ?_
    refine AllReadyH.cons (o := ⟨some 47, _, _, _, _, _⟩) rfl (fun K hK => ?_) AllReadyH.nil
    go_simp
    obtain ⟨wv, hwv⟩ : ∃ W, W = wq.alloc (.cells #[.int .i64 0, .string (bs []), .int .i64 zo, .int .i64 0, .string (bs []), .int .i64 zo, .int .i64 0, .string (bs []), .int .i64 zo] 93) := ⟨_, rfl⟩
    have hbv : Below wq.heap.size wq wv := by rw [hwv]; exact (Below.refl _ _).alloc (Nat.le_refl _) _
    have hrv : wv.heap[wq.heap.size]? = some (.cells #[.int .i64 0, .string (bs []), .int .i64 zo, .int .i64 0, .string (bs []), .int .i64 zo, .int .i64 0, .string (bs []), .int .i64 zo] 93 (0, 0)) := by rw [hwv]; exact heap_alloc_new wq _
    obtain ⟨v', w', e1, e2, e3⟩ := app3 (z := ⟨0, [], zo⟩) (ty := 90) (v := .slice (some ⟨g, 0, none⟩) nl cap) LOK.out.len (by rw [<- NL.out]; exact World.ownsRow.kept OQ.out (Below.grown_ hbv none) (.inr (by simp [Value.ownBlock]))) wq.heap.size (lt_of_block hrv) (range_new (cs := Lx.tokC ⟨0, [], zo⟩ ++ (Lx.tokC ⟨0, [], zo⟩ ++ Lx.tokC ⟨0, [], zo⟩)) hrv) (Nat.le_trans B1.out.size hbv.size)
    have hbB := (B1.out.trans (hbv.mono B1.out.size)).grown e3 (Nat.le_trans B1.out.size hbv.size) (fun q hq => by obtain rfl : g = q := Option.some.inj hq; exact HG.out)
    rw [<- hwv]
    clear hwv
    refine hK.out _ _ trivial (fun hHeld => ?_)
    clear hK hHeld
    try simp only [Act.put, sA, sB, sC]
    refine wpAnyH_ready (rs := [20]) (by kernel_rfl) (by simp) ?_
    refine AllReadyH.cons (o := ⟨some 48, _, _, _, _, _⟩) rfl (fun K hK => ?_) AllReadyH.nil
    refine step_app rfl (.tmp 28) (.tmp 47) 90 rfl _ _ rfl rfl e1 ?_
    refine hK.out _ _ trivial (fun hHeld => ?_)
    clear hK hHeld
    try simp only [Act.put, sA, sB, sC]
    refine wpAnyH_take (i := 21) (oi := ⟨some 5, _, _, _, _, _⟩) (v := v') rfl (by kernel_rfl) (by kernel_rfl) (by kernel_rfl) (fun _ _ _ h => h) (Or.inl ⟨by rfl, ?_⟩) trivial ?_
    ·intro W' hW
     go_simp
    try simp only [Act.put, sA, sB, sC]
    refine wpAnyH_done (by kernel_rfl) ?_ _
    refine hK0 _ _ (Met.intro (hR0 _ _ ?_))
    (repeat apply Exists.intro)
    refine ⟨?rel, rfl⟩
    case rel =>
     refine ⟨trivial, ?_⟩
     obtain ⟨tb, tq, tc, a1, a2, -⟩ := rs_of LOK.out ENDS.out rfl rfl e2
     rw [NN.out]
     exact ⟨tb, tq, tc, a1, a2, hbB⟩
  case rest =>
   obtain ⟨-, tb, tq, tc, rfl, hs, hb⟩ := hcut
   have SC := hI hs
   have BC := hI hb
   clear hs hb
   obtain ⟨w0, rfl⟩ : ∃ W, W = wc := ⟨_, rfl⟩
   have A0 := hI (show AtR (Lx.scanL s).1 0 ((Lx.scanL s).1.map tkq) from ⟨List.drop_zero, ENDS.out.ne⟩)
   have EN := hI SC.out.ends
   obtain ⟨wp, hwp⟩ : ∃ W, W = w0.alloc (.cells #[.slice none 0 0, .slice none 0 0] 45) := ⟨_, rfl⟩
   have hbp : Below w0.heap.size w0 wp := by rw [hwp]; exact (Below.refl _ _).alloc (Nat.le_refl _) _
   have PBX := hI (QB.mk (base := w0.heap.size + 1) (show HB 45 wp w0.heap.size #[.slice none 0 0, .slice none 0 0] from by rw [hwp]; exact heap_alloc_new w0 _) (OwnG.nil _ _) (OwnG.nil _ _) (fun k e => by cases e))
   have S0 := SC
   have B00 := hI (BA0.out.trans (BC.out.mono BA0.out.size))
   have HSZ := hI (show w.heap.size < w0.heap.size from Nat.lt_of_lt_of_le HSA.out BC.out.size)
   have X0 := hI (XA.out.below BC.out)
   have B := hI hbp
   clear hbp XA BC BA0 HSA SC
   go_upto_region 6 with fail
   rw [<- hwp]
   clear hwp
   obtain ⟨PZ, hPZ⟩ : ∃ P, P = pP ((Lx.scanL s).1.map tkq) := ⟨_, rfl⟩
   have HPZ := hI hPZ
   have HZ := hI (show PZ = pG (((Lx.scanL s).1.map tkq).length + 1) [] [] ((Lx.scanL s).1.map tkq) from hPZ)
   have HLL := hI (show ((Lx.scanL s).1.map tkq).length <= 70000 from by rw [List.length_map]; exact LOK.out.len)
   clear hPZ
   generalize hpbq : w0.heap.size = pb at PBX
   have HPB := hI hpbq
   clear hpbq
   go_wp2_with fail
   try rw [HPB.out]
   go_loopw [9] (fun v9 wr => ∃ (j : Nat) (r : List Tk) (ds : List Decl') (os : List Oper') (f1 : Nat) (vD vO : Value), v9 = .int .i64 j /\ AtR (Lx.scanL s).1 j r /\ QB (pb + 1) pb wr vD vO ds os /\ Below w0.heap.size w0 wr /\ r.length + 1 <= f1 /\ ds.length + os.length + r.length <= 70000 /\ PZ = pG f1 ds os r) (fun v9 _ => (Lx.scanL s).1.length - (intOf v9).toNat)
   case atStart => exact ⟨0, (Lx.scanL s).1.map tkq, [], [], _, _, _, rfl, A0.out, PBX.out, B.out, Nat.le_refl _, by have := HLL.out; simpa using this, HZ.out⟩
   case round =>
    clear PBX B HZ A0 HLL
    obtain ⟨j, r, ds, os, f1, vD, vO, rfl, hA, hP, hb, hf, hl, hz⟩ := hrel
    obtain ⟨f2, hf2⟩ : ∃ f2, f1 = f2 + 1 := ⟨f1 - 1, by omega⟩
    rw [hf2, pG] at hz
    have HZ := hI hz
    have F2 := hI (show r.length <= f2 from by omega)
    have HLR := hI hl
    obtain ⟨j1, hj1⟩ : ∃ k, k = j + 1 := ⟨_, rfl⟩
    have WR1 : IntKind.i64.wrap ((j : Int) + 1) = (j1 : Int) := by rw [hj1]; exact S0.out.wrap hA 1 (by omega)
    have J1 := hI hj1
    have TK1 := hI (show AtK (Lx.scanL s).1 j1 _ from by rw [hj1]; exact hA.k1)
    clear hj1
    obtain ⟨j2, hj2⟩ : ∃ k, k = j + 2 := ⟨_, rfl⟩
    have WR2 : IntKind.i64.wrap ((j : Int) + 2) = (j2 : Int) := by rw [hj2]; exact S0.out.wrap hA 2 (by omega)
    have J2 := hI hj2
    have TK2 := hI (show AtK (Lx.scanL s).1 j2 _ from by rw [hj2]; exact hA.k2)
    clear hj2
    obtain ⟨j3, hj3⟩ : ∃ k, k = j + 3 := ⟨_, rfl⟩
    have WR3 : IntKind.i64.wrap ((j : Int) + 3) = (j3 : Int) := by rw [hj3]; exact S0.out.wrap hA 3 (by omega)
    have J3 := hI hj3
    have TK3 := hI (show AtK (Lx.scanL s).1 j3 _ from by rw [hj3]; exact hA.k3)
    clear hj3
    obtain ⟨j4, hj4⟩ : ∃ k, k = j + 4 := ⟨_, rfl⟩
    have WR4 : IntKind.i64.wrap ((j : Int) + 4) = (j4 : Int) := by rw [hj4]; exact S0.out.wrap hA 4 (by omega)
    have J4 := hI hj4
    clear hj4
    have AR := hI hA
    have PBX := hI hP
    have B := hI hb
    clear hA hP hb hf hl hz hf2
    obtain ⟨b0, off0, c00, c01, c02⟩ := (S0.out.below B.out).cells AR.out.k
    by_cases hk : kindT r = 0
    ·rw [hk] at c00
     obtain ⟨A1, e1, h1, -⟩ := PBX.out.d.dl
     obtain ⟨A2, e2, h2, -⟩ := (PBX.out.o.un okOV).ol
     subst h1
     subst h2
     have HT := hI (rpP_ok HE.out (show pP ((Lx.scanL s).1.map tkq) = .ok _ r from HPZ.out.symm.trans (HZ.out.trans (if_pos hk))))
     have HPV := hI PBX.out.pv
     clear hk
     go_wp2_with (with_reducible refine at_load_ (t := 45) ?_; refine Hid.out ?_)
     refine hI ?_
     refine wpList_load_row rfl _ _ rfl pb rfl _ _ _ _ PBX.out.box Tryz.underlying45 rfl rp_size ?_
     have X := hI (X0.out.below B.out)
     go_wp2_with (with_reducible refine at_store_ (t := 45) ?_; refine Hid.out ?_)
     refine hI ?_
     refine hb_put rfl _ _ rfl rfl w.heap.size rfl rfl rp_size (by simp [Value.oneCell']) X.out rfl ?_
     intro wz hxz hgz hsz
     clear hsz
     have XZ := hI hxz
     have GZ := hI hgz
     have BZ := hI (bz_of B00.out B.out hgz)
     clear hxz hgz X
     go_wp2_with fail
     refine bodyPost_ret (results_row3 rfl _ _ w.heap.size _ _ _ _ rfl XZ.out Tryz.underlying45 rfl rp_size _ _ rfl rfl) rfl ?_
     rw [HT.out]
     exact ⟨_, rfl, HPV.out.gr GZ.out (fun b _ (hb : pb + 1 <= b) => ⟨by have := HSZ.out; have := HPB.out; omega, by have := HSZ.out; have := HPB.out; omega⟩), BZ.out⟩
    have K0 := hI hk
    have e1 : (kindT r != 0) = true := by simpa using hk
    have e2 : decide (kindT r = 0) = false := by simpa using hk
    clear hk
    go_wp2_with fail
    refine (ris_any r _ [115, 116, 111, 114, 101] _).mono ?_
    rintro e wi0 ⟨rfl, hb⟩
    replace PBX := hI (PBX.out.below hb)
    replace B := hI (B.out.trans (hb.mono B.out.size))
    clear hb
    clear b0 c00 c01 c02
    clear e1 e2
    have HZ1 := hI (HZ.out.trans (if_neg K0.out))
    clear HZ
    cases hq : isT [115, 116, 111, 114, 101] r with
    | true =>
     have Q0 := hI hq
     clear hq
     have HZ2 := hI (HZ1.out.trans (if_pos Q0.out))
     clear HZ1
     go_wp2_with fail
     go_loopw [10] (fun v10 wx => ∃ k : Nat, v10 = .int .i64 k /\ 1 <= k /\ k <= 4 /\ QB (pb + 1) pb wx vD vO ds os /\ Below w0.heap.size w0 wx /\ (2 <= k -> kindT r.tail = 1) /\ (3 <= k -> kindT r.tail.tail = 1) /\ (4 <= k -> isT [59] r.tail.tail.tail = true)) (fun v10 _ => 4 - (intOf v10).toNat)
     case atStart => exact ⟨1, rfl, by omega, by omega, PBX.out, B.out, fun h => by omega, fun h => by omega, fun h => by omega⟩
     case round =>
      clear PBX B
      obtain ⟨k, rfl, hk1, hk2, hP, hb, h2, h3, h4⟩ := hrel
      have PBX := hI hP
      have B := hI hb
      have H2 := hI h2
      have H3 := hI h3
      have H4 := hI h4
      clear hP hb h2 h3 h4
      match k, hk1, hk2 with
      | 1, _, _ =>
       try rw [show ((1 : Nat) : Int) = 1 from rfl]
       obtain ⟨b1, off1, c10, c11, c12⟩ := (S0.out.below B.out).cells TK1.out
       by_cases hk : kindT r.tail = 1
       ·rw [hk] at c10
        have K1 := hI hk
        clear hk
        go_wp2
        go_roundw
        case rel => exact ⟨2, rfl, by omega, by omega, PBX.out, B.out, fun _ => K1.out, fun h => absurd h (by omega), fun h => absurd h (by omega)⟩
        case measure => decide
       have K1 := hI hk
       have e1 : (kindT r.tail != 1) = true := by simpa using hk
       have e2 : decide (kindT r.tail = 1) = false := by simpa using hk
       clear hk
       have AB := hI (show AtR (Lx.scanL s).1 j1 r.tail from by rw [J1.out]; exact AR.out.next EN.out K0.out)
       go_wp2_with fail
       refine (rat_any _ j1 (S0.out.below B.out) AB.out.lt).mono ?_
       rintro e wy ⟨rfl, rfl⟩
       rw [at_off AB.out]
       have HT := hI (rpP_bad HE.out (show pP ((Lx.scanL s).1.map tkq) = .bad _ from HPZ.out.symm.trans (HZ2.out.trans (by unfold pD; rw [if_neg K1.out]))))
       have X := hI (X0.out.below B.out)
       go_wp2_with (with_reducible refine at_store_ (t := 45) ?_; refine Hid.out ?_)
       refine hI ?_
       refine hb_put rfl _ _ rfl rfl w.heap.size rfl rfl rp_size (by simp [Value.oneCell']) X.out rfl ?_
       intro wz hxz hgz hsz
       clear hsz
       have XZ := hI hxz
       have GZ := hI hgz
       have BZ := hI (bz_of B00.out B.out hgz)
       clear hxz hgz X
       go_wp2_with fail
       refine bodyPost_ret (results_row3 rfl _ _ w.heap.size _ _ _ _ rfl XZ.out Tryz.underlying45 rfl rp_size _ _ rfl rfl) rfl ?_
       rw [HT.out]
       exact ⟨_, rfl, pv_empty _ _, BZ.out⟩
      | 2, _, _ =>
       try rw [show ((2 : Nat) : Int) = 2 from rfl]
       obtain ⟨b2, off2, c20, c21, c22⟩ := (S0.out.below B.out).cells TK2.out
       by_cases hk : kindT r.tail.tail = 1
       ·rw [hk] at c20
        have K1 := hI hk
        clear hk
        go_wp2
        go_roundw
        case rel => exact ⟨3, rfl, by omega, by omega, PBX.out, B.out, fun _ => H2.out (by omega), fun _ => K1.out, fun h => absurd h (by omega)⟩
        case measure => decide
       have K1 := hI hk
       have e1 : (kindT r.tail.tail != 1) = true := by simpa using hk
       have e2 : decide (kindT r.tail.tail = 1) = false := by simpa using hk
       clear hk
       have AB := hI (show AtR (Lx.scanL s).1 j2 r.tail.tail from by rw [J2.out]; exact kind_next (H2.out (by omega)) (by decide) (AR.out.next EN.out K0.out) EN.out)
       go_wp2_with fail
       refine (rat_any _ j2 (S0.out.below B.out) AB.out.lt).mono ?_
       rintro e wy ⟨rfl, rfl⟩
       rw [at_off AB.out]
       have HT := hI (rpP_bad HE.out (show pP ((Lx.scanL s).1.map tkq) = .bad _ from HPZ.out.symm.trans (HZ2.out.trans (by unfold pD; rw [if_pos (H2.out (by omega)), if_neg K1.out]))))
       have X := hI (X0.out.below B.out)
       go_wp2_with (with_reducible refine at_store_ (t := 45) ?_; refine Hid.out ?_)
       refine hI ?_
       refine hb_put rfl _ _ rfl rfl w.heap.size rfl rfl rp_size (by simp [Value.oneCell']) X.out rfl ?_
       intro wz hxz hgz hsz
       clear hsz
       have XZ := hI hxz
       have GZ := hI hgz
       have BZ := hI (bz_of B00.out B.out hgz)
       clear hxz hgz X
       go_wp2_with fail
       refine bodyPost_ret (results_row3 rfl _ _ w.heap.size _ _ _ _ rfl XZ.out Tryz.underlying45 rfl rp_size _ _ rfl rfl) rfl ?_
       rw [HT.out]
       exact ⟨_, rfl, pv_empty _ _, BZ.out⟩
      | 3, _, _ =>
       try rw [show ((3 : Nat) : Int) = 3 from rfl]
       obtain ⟨b3, off3, c30, c31, c32⟩ := (S0.out.below B.out).cells TK3.out
       go_wp2_with fail
       refine (ris_any r.tail.tail.tail _ [59] _).mono ?_
       rintro e wi5 ⟨rfl, hb⟩
       replace PBX := hI (PBX.out.below hb)
       replace B := hI (B.out.trans (hb.mono B.out.size))
       clear hb
       clear b3 c30 c31 c32
       cases hq : isT [59] r.tail.tail.tail with
       | true =>
        have Q5 := hI hq
        clear hq
        go_wp2
        go_roundw
        case rel => exact ⟨4, rfl, by omega, by omega, PBX.out, B.out, fun _ => H2.out (by omega), fun _ => H3.out (by omega), fun _ => Q5.out⟩
        case measure => decide
       | false =>
        have Q5 := hI hq
        clear hq
        have AB := hI (show AtR (Lx.scanL s).1 j3 r.tail.tail.tail from by rw [J3.out]; exact kind_next (H3.out (by omega)) (by decide) (kind_next (H2.out (by omega)) (by decide) (AR.out.next EN.out K0.out) EN.out) EN.out)
        go_wp2_with fail
        refine (rat_any _ j3 (S0.out.below B.out) AB.out.lt).mono ?_
        rintro e wy ⟨rfl, rfl⟩
        rw [at_off AB.out]
        have HT := hI (rpP_bad HE.out (show pP ((Lx.scanL s).1.map tkq) = .bad _ from HPZ.out.symm.trans (HZ2.out.trans (by unfold pD; rw [if_pos (H2.out (by omega)), if_pos (H3.out (by omega)), if_neg (by rw [Q5.out]; decide)]))))
        have X := hI (X0.out.below B.out)
        go_wp2_with (with_reducible refine at_store_ (t := 45) ?_; refine Hid.out ?_)
        refine hI ?_
        refine hb_put rfl _ _ rfl rfl w.heap.size rfl rfl rp_size (by simp [Value.oneCell']) X.out rfl ?_
        intro wz hxz hgz hsz
        clear hsz
        have XZ := hI hxz
        have GZ := hI hgz
        have BZ := hI (bz_of B00.out B.out hgz)
        clear hxz hgz X
        go_wp2_with fail
        refine bodyPost_ret (results_row3 rfl _ _ w.heap.size _ _ _ _ rfl XZ.out Tryz.underlying45 rfl rp_size _ _ rfl rfl) rfl ?_
        rw [HT.out]
        exact ⟨_, rfl, pv_empty _ _, BZ.out⟩
      | 4, _, _ =>
       try rw [show ((4 : Nat) : Int) = 4 from rfl]
       go_upto_region 14 with fail
       have HL2 := hI (H2.out (by omega))
       have HL3 := hI (H3.out (by omega))
       have HL4 := hI (H4.out (by omega))
       have HZ3 := hI (show PZ = pG f2 (ds ++ [⟨textT r.tail, textT r.tail.tail⟩]) os r.tail.tail.tail.tail from HZ2.out.trans (by unfold pD; rw [if_pos HL2.out, if_pos HL3.out, if_pos HL4.out]))
       obtain ⟨sn, hsn⟩ : ∃ z, z = textT r.tail := ⟨_, rfl⟩
       obtain ⟨sm, hsm⟩ : ∃ z, z = textT r.tail.tail := ⟨_, rfl⟩
       rw [<- hsn, <- hsm] at HZ3
       obtain ⟨-, o1, -, d1, -⟩ := (S0.out.below B.out.drew).cells TK1.out
       obtain ⟨-, o2, -, d2, -⟩ := (S0.out.below B.out.drew).cells TK2.out
       have hb1 : (j1 : Int) < (nn : Int) := ((S0.out.below B.out).cells TK1.out).1
       have hb2 : (j2 : Int) < (nn : Int) := ((S0.out.below B.out).cells TK2.out).1
       rw [<- hsn] at d1
       rw [<- hsm] at d2
       have HTB := hI (show tb < pb from by rw [<- HPB.out]; exact S0.out.lt)
       refine wp_region_held_drew (S := fun W => W.cell? ⟨tb, tq + j1 * 3 + 1, none⟩ = some (.string (bs sn)) /\ W.cell? ⟨tb, tq + j2 * 3 + 1, none⟩ = some (.string (bs sm))) (by kernel_rfl) ⟨d1, d2⟩ (fun hHeld => ?_)
       have SS_ := hI hHeld
       have hbd := (Below.refl wr.heap.size wr).drew
       replace PBX := hI (PBX.out.below hbd)
       obtain h0 := B.out
       clear B
       have B := hI (h0.trans (hbd.mono h0.size))
       clear h0 hbd hHeld d1 d2 hsn hsm
       generalize wr.drew = wq at *
       refine wpAnyH_take (i := 0) (oi := ⟨some 96, _, _, _, _, _⟩) (v := .pointer (some ⟨pb, 0, none⟩)) rfl (by kernel_rfl) (by kernel_rfl) (by kernel_rfl) (fun _ _ _ h => h) (Or.inl ⟨by rfl, ?_⟩) SS_.out ?_
       ·intro W' hW
        have g1 := hW.1
        have g2 := hW.2
        go_simp
       try simp only [Act.put, sA, sB, sC]
       refine wpAnyH_take (i := 2) (oi := ⟨some 98, _, _, _, _, _⟩) (v := .slice (some ⟨tb, tq, none⟩) nn tc) rfl (by kernel_rfl) (by kernel_rfl) (by kernel_rfl) (fun _ _ _ h => h) (Or.inl ⟨by rfl, ?_⟩) SS_.out ?_
       ·intro W' hW
        have g1 := hW.1
        have g2 := hW.2
        go_simp
       try simp only [Act.put, sA, sB, sC]
       refine wpAnyH_take (i := 3) (oi := ⟨some 99, _, _, _, _, _⟩) (v := .int .i64 j) rfl (by kernel_rfl) (by kernel_rfl) (by kernel_rfl) (fun _ _ _ h => h) (Or.inl ⟨by rfl, ?_⟩) SS_.out ?_
       ·intro W' hW
        have g1 := hW.1
        have g2 := hW.2
        go_simp
       try simp only [Act.put, sA, sB, sC]
       refine wpAnyH_take (i := 4) (oi := ⟨some 100, _, _, _, _, _⟩) (v := .int .i64 j1) rfl (by kernel_rfl) (by kernel_rfl) (by kernel_rfl) (fun _ _ _ h => h) (Or.inl ⟨by rfl, ?_⟩) SS_.out ?_
       ·intro W' hW
        have g1 := hW.1
        have g2 := hW.2
        go_simp
       try simp only [Act.put, sA, sB, sC]
       refine wpAnyH_take (i := 5) (oi := ⟨some 101, _, _, _, _, _⟩) (v := .pointer (some ⟨tb, tq + j1 * 3, none⟩)) rfl (by kernel_rfl) (by kernel_rfl) (by kernel_rfl) (fun _ _ _ h => h) (Or.inl ⟨by rfl, ?_⟩) SS_.out ?_
       ·intro W' hW
        have g1 := hW.1
        have g2 := hW.2
        go_simp
       try simp only [Act.put, sA, sB, sC]
       refine wpAnyH_take (i := 6) (oi := ⟨some 102, _, _, _, _, _⟩) (v := .pointer (some ⟨tb, tq + j1 * 3 + 1, none⟩)) rfl (by kernel_rfl) (by kernel_rfl) (by kernel_rfl) (fun _ _ _ h => h) (Or.inl ⟨by rfl, ?_⟩) SS_.out ?_
       ·intro W' hW
        have g1 := hW.1
        have g2 := hW.2
        go_simp
       try simp only [Act.put, sA, sB, sC]
       refine wpAnyH_take (i := 7) (oi := ⟨some 103, _, _, _, _, _⟩) (v := .string (bs sn)) rfl (by kernel_rfl) (by kernel_rfl) (by kernel_rfl) (fun _ _ _ h => h) (Or.inl ⟨by rfl, ?_⟩) SS_.out ?_
       ·intro W' hW
        have g1 := hW.1
        have g2 := hW.2
        go_simp
       try simp only [Act.put, sA, sB, sC]
       refine wpAnyH_take (i := 8) (oi := ⟨some 104, _, _, _, _, _⟩) (v := .slice (some ⟨tb, tq, none⟩) nn tc) rfl (by kernel_rfl) (by kernel_rfl) (by kernel_rfl) (fun _ _ _ h => h) (Or.inl ⟨by rfl, ?_⟩) SS_.out ?_
       ·intro W' hW
        have g1 := hW.1
        have g2 := hW.2
        go_simp
       try simp only [Act.put, sA, sB, sC]
       refine wpAnyH_take (i := 9) (oi := ⟨some 105, _, _, _, _, _⟩) (v := .int .i64 j) rfl (by kernel_rfl) (by kernel_rfl) (by kernel_rfl) (fun _ _ _ h => h) (Or.inl ⟨by rfl, ?_⟩) SS_.out ?_
       ·intro W' hW
        have g1 := hW.1
        have g2 := hW.2
        go_simp
       try simp only [Act.put, sA, sB, sC]
       refine wpAnyH_take (i := 10) (oi := ⟨some 106, _, _, _, _, _⟩) (v := .int .i64 j2) rfl (by kernel_rfl) (by kernel_rfl) (by kernel_rfl) (fun _ _ _ h => h) (Or.inl ⟨by rfl, ?_⟩) SS_.out ?_
       ·intro W' hW
        have g1 := hW.1
        have g2 := hW.2
        go_simp
       try simp only [Act.put, sA, sB, sC]
       refine wpAnyH_take (i := 11) (oi := ⟨some 107, _, _, _, _, _⟩) (v := .pointer (some ⟨tb, tq + j2 * 3, none⟩)) rfl (by kernel_rfl) (by kernel_rfl) (by kernel_rfl) (fun _ _ _ h => h) (Or.inl ⟨by rfl, ?_⟩) SS_.out ?_
       ·intro W' hW
        have g1 := hW.1
        have g2 := hW.2
        go_simp
       try simp only [Act.put, sA, sB, sC]
       refine wpAnyH_take (i := 12) (oi := ⟨some 108, _, _, _, _, _⟩) (v := .pointer (some ⟨tb, tq + j2 * 3 + 1, none⟩)) rfl (by kernel_rfl) (by kernel_rfl) (by kernel_rfl) (fun _ _ _ h => h) (Or.inl ⟨by rfl, ?_⟩) SS_.out ?_
       ·intro W' hW
        have g1 := hW.1
        have g2 := hW.2
        go_simp
       try simp only [Act.put, sA, sB, sC]
       refine wpAnyH_take (i := 13) (oi := ⟨some 109, _, _, _, _, _⟩) (v := .string (bs sm)) rfl (by kernel_rfl) (by kernel_rfl) (by kernel_rfl) (fun _ _ _ h => h) (Or.inl ⟨by rfl, ?_⟩) SS_.out ?_
       ·intro W' hW
        have g1 := hW.1
        have g2 := hW.2
        go_simp
       try simp only [Act.put, sA, sB, sC]
       refine wpAnyH_take (i := 14) (oi := ⟨some 110, _, _, _, _, _⟩) (v := .agg #[.string (bs sn), .string (bs sm)]) rfl (by kernel_rfl) (by kernel_rfl) (by kernel_rfl) (fun _ _ _ h => h) (Or.inl ⟨by rfl, ?_⟩) SS_.out ?_
       ·intro W' hW
        have g1 := hW.1
        have g2 := hW.2
        go_simp
       try simp only [Act.put, sA, sB, sC]
       refine wpAnyH_ready (rs := [1, 15]) (by kernel_rfl) (by simp) ?_
       refine AllReadyH.cons (o := ⟨some 97, _, _, _, _, _⟩) rfl (fun K hK => ?_) (AllReadyH.cons (o := ⟨some 111, _, _, _, _, _⟩) rfl (fun K hK => ?_) AllReadyH.nil)
       ·have cob : wq.cell? ⟨pb, 0, none⟩ = some vD := HB.cell PBX.out.box 0
        go_simp
        clear cob
        refine hK.out _ _ SS_.out (fun hHeld => ?_)
        clear hK hHeld
        try simp only [Act.put, sA, sB, sC]
        refine wpAnyH_ready (rs := [15]) (by kernel_rfl) (by simp) ?_
        refine AllReadyH.cons (o := ⟨some 111, _, _, _, _, _⟩) rfl (fun K hK => ?_) AllReadyH.nil
        go_simp
        obtain ⟨wv, hwv⟩ : ∃ W, W = wq.alloc (.cells #[.string (bs sn), .string (bs sm)] 96) := ⟨_, rfl⟩
        have hbv : Below wq.heap.size wq wv := by rw [hwv]; exact (Below.refl _ _).alloc (Nat.le_refl _) _
        have hrv : wv.heap[wq.heap.size]? = some (.cells #[.string (bs sn), .string (bs sm)] 96 (0, 0)) := by rw [hwv]; exact heap_alloc_new wq _
        rw [<- hwv]
        clear hwv
        have HQV := hI (lt_of_block hrv)
        have HRV := hI (range_new (cs := [.string (bs sn), .string (bs sm)]) hrv)
        have SV_ := hI (show wv.cell? ⟨tb, tq + j1 * 3 + 1, none⟩ = some (.string (bs sn)) /\ wv.cell? ⟨tb, tq + j2 * 3 + 1, none⟩ = some (.string (bs sm)) from ⟨(hbv.cell (p := ⟨tb, tq + j1 * 3 + 1, none⟩) (World.block_lt_of_cell? _ _ SS_.out.1)).trans SS_.out.1, (hbv.cell (p := ⟨tb, tq + j2 * 3 + 1, none⟩) (World.block_lt_of_cell? _ _ SS_.out.2)).trans SS_.out.2⟩)
        replace PBX := hI (PBX.out.below hbv)
        replace B := hI (B.out.trans (hbv.mono B.out.size))
        clear hbv hrv SS_
        have SS_ := hI SV_.out
        clear SV_
        refine hK.out _ _ SS_.out (fun hHeld => ?_)
        clear hK hHeld
        try simp only [Act.put, sA, sB, sC]
        obtain ⟨v', w', run, hbox, hB, hPB, hBz⟩ := PBX.out.pushD (ty := 42) (HB.lt PBX.out.box) wq.heap.size ⟨sn, sm⟩ HQV.out HRV.out (by have := HLR.out; omega)
        obtain ⟨A9, c9, hv9, -⟩ := hPB.d.dl
        obtain ⟨n9, hn9⟩ : ∃ z : Nat, z = (ds ++ [(⟨sn, sm⟩ : Decl')]).length := ⟨_, rfl⟩
        rw [<- hn9] at hv9
        clear hn9
        subst hv9
        have hss : w'.cell? ⟨tb, tq + j1 * 3 + 1, none⟩ = some (.string (bs sn)) /\ w'.cell? ⟨tb, tq + j2 * 3 + 1, none⟩ = some (.string (bs sm)) := ⟨(World.cell?_of_block (a := ⟨tb, tq + j1 * 3 + 1, none⟩) (hB.block tb (by have := HTB.out; omega))).trans SS_.out.1, (World.cell?_of_block (a := ⟨tb, tq + j2 * 3 + 1, none⟩) (hB.block tb (by have := HTB.out; omega))).trans SS_.out.2⟩
        refine wpAnyH_ready (rs := [16]) (by kernel_rfl) (by simp) ?_
        refine AllReadyH.cons (o := ⟨some 112, _, _, _, _, _⟩) rfl (fun K hK => ?_) AllReadyH.nil
        refine step_app rfl (.tmp 97) (.tmp 111) 42 rfl _ _ rfl rfl run ?_
        refine hK.out _ _ hss (fun hHeld => ?_)
        clear hK hHeld
        try simp only [Act.put, sA, sB, sC]
        refine wpAnyH_take (i := 17) (oi := ⟨some 113, _, _, _, _, _⟩) (v := .pointer (some ⟨pb, 0, none⟩)) rfl (by kernel_rfl) (by kernel_rfl) (by kernel_rfl) (fun _ _ _ h => h) (Or.inl ⟨by rfl, ?_⟩) hss ?_
        ·intro W' hW
         have g1 := hW.1
         have g2 := hW.2
         go_simp
        try simp only [Act.put, sA, sB, sC]
        refine wpAnyH_ready (rs := [18]) (by kernel_rfl) (by simp) ?_
        refine AllReadyH.cons (o := ⟨none, _, _, _, _, _⟩) rfl (fun K hK => ?_) AllReadyH.nil
        have cob : w'.cell? ⟨pb, 0, none⟩ = some vD := HB.cell hbox 0
        have fob : w'.frozen? ⟨pb, 0, none⟩ = false := HB.free hbox 0
        go_simp
        clear cob fob
        have hss2 : (w'.setCell ⟨pb, 0, none⟩ (.slice A9 n9 c9)).cell? ⟨tb, tq + j1 * 3 + 1, none⟩ = some (.string (bs sn)) /\ (w'.setCell ⟨pb, 0, none⟩ (.slice A9 n9 c9)).cell? ⟨tb, tq + j2 * 3 + 1, none⟩ = some (.string (bs sm)) := ⟨(World.cell?_of_block (a := ⟨tb, tq + j1 * 3 + 1, none⟩) (hBz.block tb HTB.out)).trans hss.1, (World.cell?_of_block (a := ⟨tb, tq + j2 * 3 + 1, none⟩) (hBz.block tb HTB.out)).trans hss.2⟩
        have hBB := B.out.trans (((hB.mono (Nat.le_succ pb)).trans hBz).mono (Nat.le_of_eq HPB.out))
        refine hK.out _ _ hss2 (fun hHeld => ?_)
        clear hK hHeld
        try simp only [Act.put, sA, sB, sC]
        refine wpAnyH_done (by kernel_rfl) ?_ _
        go_wp2_with fail
        go_roundw
        case rel => exact ⟨j4, r.tail.tail.tail.tail, ds ++ [⟨sn, sm⟩], os, f2, _, vO, rfl, by rw [J4.out]; exact isT_next HL4.out (kind_next HL3.out (by decide) (kind_next HL2.out (by decide) (AR.out.next EN.out K0.out) EN.out) EN.out) EN.out, hPB, hBB, by have := F2.out; have := isT_len HL4.out; have := isT_len Q0.out; have := kind_len HL2.out (by decide); have := kind_len HL3.out (by decide); omega, by have := HLR.out; have := isT_len HL4.out; have := isT_len Q0.out; have := kind_len HL2.out (by decide); have := kind_len HL3.out (by decide); rw [List.length_append, List.length_singleton]; omega, HZ3.out⟩
        case measure =>
         have e1 := AR.out.lt
         have e2 := J4.out
         show (Lx.scanL s).1.length - (j4 : Int).toNat < (Lx.scanL s).1.length - (j : Int).toNat
         omega
       go_simp
       obtain ⟨wv, hwv⟩ : ∃ W, W = wq.alloc (.cells #[.string (bs sn), .string (bs sm)] 96) := ⟨_, rfl⟩
       have hbv : Below wq.heap.size wq wv := by rw [hwv]; exact (Below.refl _ _).alloc (Nat.le_refl _) _
       have hrv : wv.heap[wq.heap.size]? = some (.cells #[.string (bs sn), .string (bs sm)] 96 (0, 0)) := by rw [hwv]; exact heap_alloc_new wq _
       rw [<- hwv]
       clear hwv
       have HQV := hI (lt_of_block hrv)
       have HRV := hI (range_new (cs := [.string (bs sn), .string (bs sm)]) hrv)
       have SV_ := hI (show wv.cell? ⟨tb, tq + j1 * 3 + 1, none⟩ = some (.string (bs sn)) /\ wv.cell? ⟨tb, tq + j2 * 3 + 1, none⟩ = some (.string (bs sm)) from ⟨(hbv.cell (p := ⟨tb, tq + j1 * 3 + 1, none⟩) (World.block_lt_of_cell? _ _ SS_.out.1)).trans SS_.out.1, (hbv.cell (p := ⟨tb, tq + j2 * 3 + 1, none⟩) (World.block_lt_of_cell? _ _ SS_.out.2)).trans SS_.out.2⟩)
       replace PBX := hI (PBX.out.below hbv)
       replace B := hI (B.out.trans (hbv.mono B.out.size))
       clear hbv hrv SS_
       have SS_ := hI SV_.out
       clear SV_
       refine hK.out _ _ SS_.out (fun hHeld => ?_)
       clear hK hHeld
       try simp only [Act.put, sA, sB, sC]
       refine wpAnyH_ready (rs := [1]) (by kernel_rfl) (by simp) ?_
       refine AllReadyH.cons (o := ⟨some 97, _, _, _, _, _⟩) rfl (fun K hK => ?_) AllReadyH.nil
       have cob : wv.cell? ⟨pb, 0, none⟩ = some vD := HB.cell PBX.out.box 0
       go_simp
       clear cob
       refine hK.out _ _ SS_.out (fun hHeld => ?_)
       clear hK hHeld
       try simp only [Act.put, sA, sB, sC]
       obtain ⟨v', w', run, hbox, hB, hPB, hBz⟩ := PBX.out.pushD (ty := 42) (HB.lt PBX.out.box) wq.heap.size ⟨sn, sm⟩ HQV.out HRV.out (by have := HLR.out; omega)
       obtain ⟨A9, c9, hv9, -⟩ := hPB.d.dl
       obtain ⟨n9, hn9⟩ : ∃ z : Nat, z = (ds ++ [(⟨sn, sm⟩ : Decl')]).length := ⟨_, rfl⟩
       rw [<- hn9] at hv9
       clear hn9
       subst hv9
       have hss : w'.cell? ⟨tb, tq + j1 * 3 + 1, none⟩ = some (.string (bs sn)) /\ w'.cell? ⟨tb, tq + j2 * 3 + 1, none⟩ = some (.string (bs sm)) := ⟨(World.cell?_of_block (a := ⟨tb, tq + j1 * 3 + 1, none⟩) (hB.block tb (by have := HTB.out; omega))).trans SS_.out.1, (World.cell?_of_block (a := ⟨tb, tq + j2 * 3 + 1, none⟩) (hB.block tb (by have := HTB.out; omega))).trans SS_.out.2⟩
       refine wpAnyH_ready (rs := [16]) (by kernel_rfl) (by simp) ?_
       refine AllReadyH.cons (o := ⟨some 112, _, _, _, _, _⟩) rfl (fun K hK => ?_) AllReadyH.nil
       refine step_app rfl (.tmp 97) (.tmp 111) 42 rfl _ _ rfl rfl run ?_
       refine hK.out _ _ hss (fun hHeld => ?_)
       clear hK hHeld
       try simp only [Act.put, sA, sB, sC]
       refine wpAnyH_take (i := 17) (oi := ⟨some 113, _, _, _, _, _⟩) (v := .pointer (some ⟨pb, 0, none⟩)) rfl (by kernel_rfl) (by kernel_rfl) (by kernel_rfl) (fun _ _ _ h => h) (Or.inl ⟨by rfl, ?_⟩) hss ?_
       ·intro W' hW
        have g1 := hW.1
        have g2 := hW.2
        go_simp
       try simp only [Act.put, sA, sB, sC]
       refine wpAnyH_ready (rs := [18]) (by kernel_rfl) (by simp) ?_
       refine AllReadyH.cons (o := ⟨none, _, _, _, _, _⟩) rfl (fun K hK => ?_) AllReadyH.nil
       have cob : w'.cell? ⟨pb, 0, none⟩ = some vD := HB.cell hbox 0
       have fob : w'.frozen? ⟨pb, 0, none⟩ = false := HB.free hbox 0
       go_simp
       clear cob fob
       have hss2 : (w'.setCell ⟨pb, 0, none⟩ (.slice A9 n9 c9)).cell? ⟨tb, tq + j1 * 3 + 1, none⟩ = some (.string (bs sn)) /\ (w'.setCell ⟨pb, 0, none⟩ (.slice A9 n9 c9)).cell? ⟨tb, tq + j2 * 3 + 1, none⟩ = some (.string (bs sm)) := ⟨(World.cell?_of_block (a := ⟨tb, tq + j1 * 3 + 1, none⟩) (hBz.block tb HTB.out)).trans hss.1, (World.cell?_of_block (a := ⟨tb, tq + j2 * 3 + 1, none⟩) (hBz.block tb HTB.out)).trans hss.2⟩
       have hBB := B.out.trans (((hB.mono (Nat.le_succ pb)).trans hBz).mono (Nat.le_of_eq HPB.out))
       refine hK.out _ _ hss2 (fun hHeld => ?_)
       clear hK hHeld
       try simp only [Act.put, sA, sB, sC]
       refine wpAnyH_done (by kernel_rfl) ?_ _
       go_wp2_with fail
       go_roundw
       case rel => exact ⟨j4, r.tail.tail.tail.tail, ds ++ [⟨sn, sm⟩], os, f2, _, vO, rfl, by rw [J4.out]; exact isT_next HL4.out (kind_next HL3.out (by decide) (kind_next HL2.out (by decide) (AR.out.next EN.out K0.out) EN.out) EN.out) EN.out, hPB, hBB, by have := F2.out; have := isT_len HL4.out; have := isT_len Q0.out; have := kind_len HL2.out (by decide); have := kind_len HL3.out (by decide); omega, by have := HLR.out; have := isT_len HL4.out; have := isT_len Q0.out; have := kind_len HL2.out (by decide); have := kind_len HL3.out (by decide); rw [List.length_append, List.length_singleton]; omega, HZ3.out⟩
       case measure =>
        have e1 := AR.out.lt
        have e2 := J4.out
        show (Lx.scanL s).1.length - (j4 : Int).toNat < (Lx.scanL s).1.length - (j : Int).toNat
        omega
    | false =>
     have Q0 := hI hq
     clear hq
     have HZ2 := hI (HZ1.out.trans (if_neg (show ¬ isT tSto r = true from by rw [show isT tSto r = false from Q0.out]; decide)))
     clear HZ1
     obtain ⟨b0, off0, c00, c01, c02⟩ := (S0.out.below B.out).cells AR.out.k
     go_wp2_with fail
     refine (ris_any r _ [111, 112] _).mono ?_
     rintro e wi1 ⟨rfl, hb⟩
     replace PBX := hI (PBX.out.below hb)
     replace B := hI (B.out.trans (hb.mono B.out.size))
     clear hb
     clear b0 c00 c01 c02
     cases hq : isT [111, 112] r with
     | false =>
      have Q1 := hI hq
      clear hq
      have AB := hI AR.out
      go_wp2_with fail
      refine (rat_any _ j (S0.out.below B.out) AB.out.lt).mono ?_
      rintro e wy ⟨rfl, rfl⟩
      rw [at_off AB.out]
      have HT := hI (rpP_bad HE.out (show pP ((Lx.scanL s).1.map tkq) = .bad _ from HPZ.out.symm.trans (HZ2.out.trans (if_neg (show ¬ isT tOp r = true from by rw [show isT tOp r = false from Q1.out]; decide)))))
      have X := hI (X0.out.below B.out)
      go_wp2_with (with_reducible refine at_store_ (t := 45) ?_; refine Hid.out ?_)
      refine hI ?_
      refine hb_put rfl _ _ rfl rfl w.heap.size rfl rfl rp_size (by simp [Value.oneCell']) X.out rfl ?_
      intro wz hxz hgz hsz
      clear hsz
      have XZ := hI hxz
      have GZ := hI hgz
      have BZ := hI (bz_of B00.out B.out hgz)
      clear hxz hgz X
      go_wp2_with fail
      refine bodyPost_ret (results_row3 rfl _ _ w.heap.size _ _ _ _ rfl XZ.out Tryz.underlying45 rfl rp_size _ _ rfl rfl) rfl ?_
      rw [HT.out]
      exact ⟨_, rfl, pv_empty _ _, BZ.out⟩
     | true =>
      have Q1 := hI hq
      clear hq
      have HZ3 := hI (HZ2.out.trans (if_pos Q1.out))
      clear HZ2
      obtain ⟨b1, off1, c10, c11, c12⟩ := (S0.out.below B.out).cells TK1.out
      by_cases hk : kindT r.tail = 1
      ·have K1 := hI hk
       rw [hk] at c10
       clear hk
       obtain ⟨b2, off2, c20, c21, c22⟩ := (S0.out.below B.out).cells TK2.out
       go_wp2_with fail
       refine (ris_any r.tail.tail _ [40] _).mono ?_
       rintro e wi2 ⟨rfl, hb⟩
       replace PBX := hI (PBX.out.below hb)
       replace B := hI (B.out.trans (hb.mono B.out.size))
       clear hb
       clear b1 c10 c11 c12
       clear b2 c20 c21 c22
       cases hq : isT [40] r.tail.tail with
       | false =>
        have Q2 := hI hq
        clear hq
        have AB := hI (show AtR (Lx.scanL s).1 j2 r.tail.tail from by rw [J2.out]; exact kind_next K1.out (by decide) (AR.out.next EN.out K0.out) EN.out)
        go_wp2_with fail
        refine (rat_any _ j2 (S0.out.below B.out) AB.out.lt).mono ?_
        rintro e wy ⟨rfl, rfl⟩
        rw [at_off AB.out]
        have HT := hI (rpP_bad HE.out (show pP ((Lx.scanL s).1.map tkq) = .bad _ from HPZ.out.symm.trans (HZ3.out.trans (by unfold pO; rw [if_pos K1.out, pPs_pr, if_neg (by rw [Q2.out]; decide)]))))
        have X := hI (X0.out.below B.out)
        go_wp2_with (with_reducible refine at_store_ (t := 45) ?_; refine Hid.out ?_)
        refine hI ?_
        refine hb_put rfl _ _ rfl rfl w.heap.size rfl rfl rp_size (by simp [Value.oneCell']) X.out rfl ?_
        intro wz hxz hgz hsz
        clear hsz
        have XZ := hI hxz
        have GZ := hI hgz
        have BZ := hI (bz_of B00.out B.out hgz)
        clear hxz hgz X
        go_wp2_with fail
        refine bodyPost_ret (results_row3 rfl _ _ w.heap.size _ _ _ _ rfl XZ.out Tryz.underlying45 rfl rp_size _ _ rfl rfl) rfl ?_
        rw [HT.out]
        exact ⟨_, rfl, pv_empty _ _, BZ.out⟩
       | true =>
        have Q2 := hI hq
        clear hq
        have A3 := hI (show AtR (Lx.scanL s).1 j3 r.tail.tail.tail from by rw [J3.out]; exact isT_next Q2.out (kind_next K1.out (by decide) (AR.out.next EN.out K0.out) EN.out) EN.out)
        have HBS := hI B.out.size
        have HVO := hI (show ∀ k, vO.ownBlock = some k -> k < wi2.heap.size from fun k hk => (PBX.out.o.lt k hk).2)
        have HVD := hI (show ∀ k, vD.ownBlock = some k -> k < wi2.heap.size from fun k hk => (PBX.out.d.lt k hk).2)
        have HLO := hI (show pb + 1 <= wi2.heap.size from HB.lt PBX.out.box)
        go_wp2_with fail
        refine (rparams_any _ j3 r.tail.tail.tail (S0.out.below B.out) A3.out).mono ?_
        rintro e w2 ⟨ps, PA, pn, pc, nx, bd, rfl, hv, hb, hr⟩
        have VP := hI hv
        have HR := hI hr
        have HSB := hI hb.size
        replace PBX := hI (PBX.out.below hb)
        replace B := hI (B.out.trans (hb.mono B.out.size))
        clear hv hb hr
        rcases HR.out.cases with ⟨r1, k1, hP, rfl, rfl, hA⟩ | ⟨r1, k1, hP, rfl, hA⟩
        ·have AR1 := hI hA
         have HP1 := hI hP
         clear hP hA HR
         go_wp2_with fail
         refine (rblock_any _ k1 r1 (S0.out.below B.out) AR1.out).mono ?_
         rintro e w3 ⟨bl, BA, bn, bc, nx, bd, rfl, hv, hb, hr⟩
         have VB := hI hv
         have HR := hI hr
         have HSC := hI hb.size
         have VP3 := hI hb
         replace PBX := hI (PBX.out.below hb)
         replace B := hI (B.out.trans (hb.mono B.out.size))
         clear hv hb hr
         rcases HR.out.cases with ⟨r2, k2, hP, rfl, rfl, hA⟩ | ⟨r2, k2, hP, rfl, hA⟩
         ·have AR2 := hI hA
          have HP2 := hI hP
          clear hP hA HR
          have HZ4 := hI (show PZ = pG f2 ds (os ++ [⟨textT r.tail, ps, bl⟩]) r2 from HZ3.out.trans (by unfold pO; rw [if_pos K1.out, pPs_pr, if_pos Q2.out, HP1.out]; dsimp only; rw [HP2.out]))
          have HL4 := hI (suf_len ((suf_of (suf_pO r.tail)).1 _ _ (show pO r.tail = .ok ⟨textT r.tail, ps, bl⟩ r2 from by unfold pO; rw [if_pos K1.out, pPs_pr, if_pos Q2.out, HP1.out]; dsimp only; rw [HP2.out])))
          have ek : ¬ ((0 : Int) <= -1) := by decide
          go_upto_region 28 with fail
          obtain ⟨sn, hsn⟩ : ∃ z, z = textT r.tail := ⟨_, rfl⟩
          rw [<- hsn] at HZ4
          obtain ⟨-, o1, -, d1, -⟩ := (S0.out.below B.out.drew).cells TK1.out
          have hb1 : (j1 : Int) < (nn : Int) := ((S0.out.below B.out).cells TK1.out).1
          rw [<- hsn] at d1
          have HTB := hI (show tb < pb from by rw [<- HPB.out]; exact S0.out.lt)
          have HOV := hI (show OV w3 (fun k => wi2.heap.size <= k) ⟨sn, ps, bl⟩ [.string (bs sn), .slice PA pn pc, .slice BA bn bc] from ⟨PA, pn, pc, BA, bn, bc, rfl, VP.out.keep VP3.out.size (fun b hb _ => VP3.out.block b hb) (fun b _ h => h), VB.out.more (fun b _ h => Nat.le_trans HSB.out h)⟩)
          refine wp_region_held_drew (S := fun W => W.cell? ⟨tb, tq + j1 * 3 + 1, none⟩ = some (.string (bs sn))) (by kernel_rfl) d1 (fun hHeld => ?_)
          have SS_ := hI hHeld
          have hbd := (Below.refl w3.heap.size w3).drew
          replace PBX := hI (PBX.out.below hbd)
          replace B := hI (B.out.trans (hbd.mono B.out.size))
          obtain h0 := HOV.out
          clear HOV
          have HOV := hI (h0.keep hbd.size (fun b hb _ => hbd.block b hb) (fun b _ h => h))
          clear h0 VP VB VP3
          clear hbd hHeld d1 hsn
          generalize w3.drew = wq at *
          refine wpAnyH_take (i := 0) (oi := ⟨some 177, _, _, _, _, _⟩) (v := .pointer (some ⟨pb, 1, none⟩)) rfl (by kernel_rfl) (by kernel_rfl) (by kernel_rfl) (fun _ _ _ h => h) (Or.inl ⟨by rfl, ?_⟩) SS_.out ?_
          ·intro W' hW
           have g1 := hW
           go_simp
          try simp only [Act.put, sA, sB, sC]
          refine wpAnyH_take (i := 2) (oi := ⟨some 179, _, _, _, _, _⟩) (v := .slice (some ⟨tb, tq, none⟩) nn tc) rfl (by kernel_rfl) (by kernel_rfl) (by kernel_rfl) (fun _ _ _ h => h) (Or.inl ⟨by rfl, ?_⟩) SS_.out ?_
          ·intro W' hW
           have g1 := hW
           go_simp
          try simp only [Act.put, sA, sB, sC]
          refine wpAnyH_take (i := 3) (oi := ⟨some 180, _, _, _, _, _⟩) (v := .int .i64 j) rfl (by kernel_rfl) (by kernel_rfl) (by kernel_rfl) (fun _ _ _ h => h) (Or.inl ⟨by rfl, ?_⟩) SS_.out ?_
          ·intro W' hW
           have g1 := hW
           go_simp
          try simp only [Act.put, sA, sB, sC]
          refine wpAnyH_take (i := 4) (oi := ⟨some 181, _, _, _, _, _⟩) (v := .int .i64 j1) rfl (by kernel_rfl) (by kernel_rfl) (by kernel_rfl) (fun _ _ _ h => h) (Or.inl ⟨by rfl, ?_⟩) SS_.out ?_
          ·intro W' hW
           have g1 := hW
           go_simp
          try simp only [Act.put, sA, sB, sC]
          refine wpAnyH_take (i := 5) (oi := ⟨some 182, _, _, _, _, _⟩) (v := .pointer (some ⟨tb, tq + j1 * 3, none⟩)) rfl (by kernel_rfl) (by kernel_rfl) (by kernel_rfl) (fun _ _ _ h => h) (Or.inl ⟨by rfl, ?_⟩) SS_.out ?_
          ·intro W' hW
           have g1 := hW
           go_simp
          try simp only [Act.put, sA, sB, sC]
          refine wpAnyH_take (i := 6) (oi := ⟨some 183, _, _, _, _, _⟩) (v := .pointer (some ⟨tb, tq + j1 * 3 + 1, none⟩)) rfl (by kernel_rfl) (by kernel_rfl) (by kernel_rfl) (fun _ _ _ h => h) (Or.inl ⟨by rfl, ?_⟩) SS_.out ?_
          ·intro W' hW
           have g1 := hW
           go_simp
          try simp only [Act.put, sA, sB, sC]
          refine wpAnyH_take (i := 7) (oi := ⟨some 184, _, _, _, _, _⟩) (v := .string (bs sn)) rfl (by kernel_rfl) (by kernel_rfl) (by kernel_rfl) (fun _ _ _ h => h) (Or.inl ⟨by rfl, ?_⟩) SS_.out ?_
          ·intro W' hW
           have g1 := hW
           go_simp
          try simp only [Act.put, sA, sB, sC]
          refine wpAnyH_take (i := 8) (oi := ⟨some 185, _, _, _, _, _⟩) (v := .slice PA pn pc) rfl (by kernel_rfl) (by kernel_rfl) (by kernel_rfl) (fun _ _ _ h => h) (Or.inl ⟨by rfl, ?_⟩) SS_.out ?_
          ·intro W' hW
           have g1 := hW
           go_simp
          try simp only [Act.put, sA, sB, sC]
          refine wpAnyH_take (i := 9) (oi := ⟨some 186, _, _, _, _, _⟩) (v := .slice BA bn bc) rfl (by kernel_rfl) (by kernel_rfl) (by kernel_rfl) (fun _ _ _ h => h) (Or.inl ⟨by rfl, ?_⟩) SS_.out ?_
          ·intro W' hW
           have g1 := hW
           go_simp
          try simp only [Act.put, sA, sB, sC]
          refine wpAnyH_take (i := 10) (oi := ⟨some 187, _, _, _, _, _⟩) (v := .agg #[.string (bs sn), .slice PA pn pc, .slice BA bn bc]) rfl (by kernel_rfl) (by kernel_rfl) (by kernel_rfl) (fun _ _ _ h => h) (Or.inl ⟨by rfl, ?_⟩) SS_.out ?_
          ·intro W' hW
           have g1 := hW
           go_simp
          try simp only [Act.put, sA, sB, sC]
          refine wpAnyH_ready (rs := [1, 11]) (by kernel_rfl) (by simp) ?_
          refine AllReadyH.cons (o := ⟨some 178, _, _, _, _, _⟩) rfl (fun K hK => ?_) (AllReadyH.cons (o := ⟨some 188, _, _, _, _, _⟩) rfl (fun K hK => ?_) AllReadyH.nil)
          ·have cob : wq.cell? ⟨pb, 1, none⟩ = some vO := HB.cell PBX.out.box 1
           go_simp
           clear cob
           refine hK.out _ _ SS_.out (fun hHeld => ?_)
           clear hK hHeld
           try simp only [Act.put, sA, sB, sC]
           refine wpAnyH_ready (rs := [11]) (by kernel_rfl) (by simp) ?_
           refine AllReadyH.cons (o := ⟨some 188, _, _, _, _, _⟩) rfl (fun K hK => ?_) AllReadyH.nil
           go_simp
           obtain ⟨wv, hwv⟩ : ∃ W, W = wq.alloc (.cells #[.string (bs sn), .slice PA pn pc, .slice BA bn bc] 103) := ⟨_, rfl⟩
           have hbv : Below wq.heap.size wq wv := by rw [hwv]; exact (Below.refl _ _).alloc (Nat.le_refl _) _
           have hrv : wv.heap[wq.heap.size]? = some (.cells #[.string (bs sn), .slice PA pn pc, .slice BA bn bc] 103 (0, 0)) := by rw [hwv]; exact heap_alloc_new wq _
           rw [<- hwv]
           clear hwv
           have HQV := hI (lt_of_block hrv)
           have HRV := hI (range_new (cs := [.string (bs sn), .slice PA pn pc, .slice BA bn bc]) hrv)
           have SV_ := hI (show wv.cell? ⟨tb, tq + j1 * 3 + 1, none⟩ = some (.string (bs sn)) from (hbv.cell (p := ⟨tb, tq + j1 * 3 + 1, none⟩) (World.block_lt_of_cell? _ _ SS_.out)).trans SS_.out)
           replace PBX := hI (PBX.out.below hbv)
           replace HOV := hI (HOV.out.keep hbv.size (fun b hb _ => hbv.block b hb) (fun b _ h => h))
           replace B := hI (B.out.trans (hbv.mono B.out.size))
           clear hbv hrv SS_
           have SS_ := hI SV_.out
           clear SV_
           refine hK.out _ _ SS_.out (fun hHeld => ?_)
           clear hK hHeld
           try simp only [Act.put, sA, sB, sC]
           obtain ⟨v', w', run, hbox, hB, hPB, hBz⟩ := PBX.out.pushO (lo := wi2.heap.size) (HB.lt PBX.out.box) wq.heap.size ⟨sn, ps, bl⟩ [.string (bs sn), .slice PA pn pc, .slice BA bn bc] 43 HQV.out HRV.out HOV.out HLO.out HVO.out HVD.out (by have := HLR.out; omega)
           obtain ⟨A9, c9, hv9, -⟩ := (hPB.o.un okOV).ol
           obtain ⟨n9, hn9⟩ : ∃ z : Nat, z = (os ++ [(⟨sn, ps, bl⟩ : Oper')]).length := ⟨_, rfl⟩
           rw [<- hn9] at hv9
           clear hn9
           subst hv9
           have hss : w'.cell? ⟨tb, tq + j1 * 3 + 1, none⟩ = some (.string (bs sn)) := (World.cell?_of_block (a := ⟨tb, tq + j1 * 3 + 1, none⟩) (hB.block tb (by have := HTB.out; omega))).trans SS_.out
           refine wpAnyH_ready (rs := [12]) (by kernel_rfl) (by simp) ?_
           refine AllReadyH.cons (o := ⟨some 189, _, _, _, _, _⟩) rfl (fun K hK => ?_) AllReadyH.nil
           refine step_app rfl (.tmp 178) (.tmp 188) 43 rfl _ _ rfl rfl run ?_
           refine hK.out _ _ hss (fun hHeld => ?_)
           clear hK hHeld
           try simp only [Act.put, sA, sB, sC]
           refine wpAnyH_take (i := 13) (oi := ⟨some 190, _, _, _, _, _⟩) (v := .pointer (some ⟨pb, 1, none⟩)) rfl (by kernel_rfl) (by kernel_rfl) (by kernel_rfl) (fun _ _ _ h => h) (Or.inl ⟨by rfl, ?_⟩) hss ?_
           ·intro W' hW
            have g1 := hW
            go_simp
           try simp only [Act.put, sA, sB, sC]
           refine wpAnyH_ready (rs := [14]) (by kernel_rfl) (by simp) ?_
           refine AllReadyH.cons (o := ⟨none, _, _, _, _, _⟩) rfl (fun K hK => ?_) AllReadyH.nil
           have cob : w'.cell? ⟨pb, 1, none⟩ = some vO := HB.cell hbox 1
           have fob : w'.frozen? ⟨pb, 1, none⟩ = false := HB.free hbox 1
           go_simp
           clear cob fob
           have hss2 : (w'.setCell ⟨pb, 1, none⟩ (.slice A9 n9 c9)).cell? ⟨tb, tq + j1 * 3 + 1, none⟩ = some (.string (bs sn)) := (World.cell?_of_block (a := ⟨tb, tq + j1 * 3 + 1, none⟩) (hBz.block tb HTB.out)).trans hss
           have hBB := B.out.trans (((hB.mono (Nat.le_succ pb)).trans hBz).mono (Nat.le_of_eq HPB.out))
           refine hK.out _ _ hss2 (fun hHeld => ?_)
           clear hK hHeld
           try simp only [Act.put, sA, sB, sC]
           refine wpAnyH_done (by kernel_rfl) ?_ _
           go_wp2_with fail
           go_roundw
           case rel => exact ⟨k2, r2, ds, os ++ [⟨sn, ps, bl⟩], f2, vD, _, rfl, AR2.out, hPB, hBB, by have := F2.out; have := HL4.out; have := isT_len Q1.out; omega, by have := HLR.out; have := HL4.out; have := isT_len Q1.out; rw [List.length_append, List.length_singleton]; omega, HZ4.out⟩
           case measure =>
            have e1 := AR.out.lt
            have e2 := AR.out.len
            have e3 := AR2.out.len
            have e4 := HL4.out
            have e5 := isT_len Q1.out
            show (Lx.scanL s).1.length - (k2 : Int).toNat < (Lx.scanL s).1.length - (j : Int).toNat
            omega
          go_simp
          obtain ⟨wv, hwv⟩ : ∃ W, W = wq.alloc (.cells #[.string (bs sn), .slice PA pn pc, .slice BA bn bc] 103) := ⟨_, rfl⟩
          have hbv : Below wq.heap.size wq wv := by rw [hwv]; exact (Below.refl _ _).alloc (Nat.le_refl _) _
          have hrv : wv.heap[wq.heap.size]? = some (.cells #[.string (bs sn), .slice PA pn pc, .slice BA bn bc] 103 (0, 0)) := by rw [hwv]; exact heap_alloc_new wq _
          rw [<- hwv]
          clear hwv
          have HQV := hI (lt_of_block hrv)
          have HRV := hI (range_new (cs := [.string (bs sn), .slice PA pn pc, .slice BA bn bc]) hrv)
          have SV_ := hI (show wv.cell? ⟨tb, tq + j1 * 3 + 1, none⟩ = some (.string (bs sn)) from (hbv.cell (p := ⟨tb, tq + j1 * 3 + 1, none⟩) (World.block_lt_of_cell? _ _ SS_.out)).trans SS_.out)
          replace PBX := hI (PBX.out.below hbv)
          replace HOV := hI (HOV.out.keep hbv.size (fun b hb _ => hbv.block b hb) (fun b _ h => h))
          replace B := hI (B.out.trans (hbv.mono B.out.size))
          clear hbv hrv SS_
          have SS_ := hI SV_.out
          clear SV_
          refine hK.out _ _ SS_.out (fun hHeld => ?_)
          clear hK hHeld
          try simp only [Act.put, sA, sB, sC]
          refine wpAnyH_ready (rs := [1]) (by kernel_rfl) (by simp) ?_
          refine AllReadyH.cons (o := ⟨some 178, _, _, _, _, _⟩) rfl (fun K hK => ?_) AllReadyH.nil
          have cob : wv.cell? ⟨pb, 1, none⟩ = some vO := HB.cell PBX.out.box 1
          go_simp
          clear cob
          refine hK.out _ _ SS_.out (fun hHeld => ?_)
          clear hK hHeld
          try simp only [Act.put, sA, sB, sC]
          obtain ⟨v', w', run, hbox, hB, hPB, hBz⟩ := PBX.out.pushO (lo := wi2.heap.size) (HB.lt PBX.out.box) wq.heap.size ⟨sn, ps, bl⟩ [.string (bs sn), .slice PA pn pc, .slice BA bn bc] 43 HQV.out HRV.out HOV.out HLO.out HVO.out HVD.out (by have := HLR.out; omega)
          obtain ⟨A9, c9, hv9, -⟩ := (hPB.o.un okOV).ol
          obtain ⟨n9, hn9⟩ : ∃ z : Nat, z = (os ++ [(⟨sn, ps, bl⟩ : Oper')]).length := ⟨_, rfl⟩
          rw [<- hn9] at hv9
          clear hn9
          subst hv9
          have hss : w'.cell? ⟨tb, tq + j1 * 3 + 1, none⟩ = some (.string (bs sn)) := (World.cell?_of_block (a := ⟨tb, tq + j1 * 3 + 1, none⟩) (hB.block tb (by have := HTB.out; omega))).trans SS_.out
          refine wpAnyH_ready (rs := [12]) (by kernel_rfl) (by simp) ?_
          refine AllReadyH.cons (o := ⟨some 189, _, _, _, _, _⟩) rfl (fun K hK => ?_) AllReadyH.nil
          refine step_app rfl (.tmp 178) (.tmp 188) 43 rfl _ _ rfl rfl run ?_
          refine hK.out _ _ hss (fun hHeld => ?_)
          clear hK hHeld
          try simp only [Act.put, sA, sB, sC]
          refine wpAnyH_take (i := 13) (oi := ⟨some 190, _, _, _, _, _⟩) (v := .pointer (some ⟨pb, 1, none⟩)) rfl (by kernel_rfl) (by kernel_rfl) (by kernel_rfl) (fun _ _ _ h => h) (Or.inl ⟨by rfl, ?_⟩) hss ?_
          ·intro W' hW
           have g1 := hW
           go_simp
          try simp only [Act.put, sA, sB, sC]
          refine wpAnyH_ready (rs := [14]) (by kernel_rfl) (by simp) ?_
          refine AllReadyH.cons (o := ⟨none, _, _, _, _, _⟩) rfl (fun K hK => ?_) AllReadyH.nil
          have cob : w'.cell? ⟨pb, 1, none⟩ = some vO := HB.cell hbox 1
          have fob : w'.frozen? ⟨pb, 1, none⟩ = false := HB.free hbox 1
          go_simp
          clear cob fob
          have hss2 : (w'.setCell ⟨pb, 1, none⟩ (.slice A9 n9 c9)).cell? ⟨tb, tq + j1 * 3 + 1, none⟩ = some (.string (bs sn)) := (World.cell?_of_block (a := ⟨tb, tq + j1 * 3 + 1, none⟩) (hBz.block tb HTB.out)).trans hss
          have hBB := B.out.trans (((hB.mono (Nat.le_succ pb)).trans hBz).mono (Nat.le_of_eq HPB.out))
          refine hK.out _ _ hss2 (fun hHeld => ?_)
          clear hK hHeld
          try simp only [Act.put, sA, sB, sC]
          refine wpAnyH_done (by kernel_rfl) ?_ _
          go_wp2_with fail
          go_roundw
          case rel => exact ⟨k2, r2, ds, os ++ [⟨sn, ps, bl⟩], f2, vD, _, rfl, AR2.out, hPB, hBB, by have := F2.out; have := HL4.out; have := isT_len Q1.out; omega, by have := HLR.out; have := HL4.out; have := isT_len Q1.out; rw [List.length_append, List.length_singleton]; omega, HZ4.out⟩
          case measure =>
           have e1 := AR.out.lt
           have e2 := AR.out.len
           have e3 := AR2.out.len
           have e4 := HL4.out
           have e5 := isT_len Q1.out
           show (Lx.scanL s).1.length - (k2 : Int).toNat < (Lx.scanL s).1.length - (j : Int).toNat
           omega
         have AR2 := hI hA
         have HP2 := hI hP
         clear hP hA HR
         have ek : (0 : Int) <= (k2 : Int) := by omega
         have AB := hI AR2.out
         go_wp2_with fail
         refine (rat_any _ k2 (S0.out.below B.out) AB.out.lt).mono ?_
         rintro e wy ⟨rfl, rfl⟩
         rw [at_off AB.out]
         have HT := hI (rpP_bad HE.out (show pP ((Lx.scanL s).1.map tkq) = .bad _ from HPZ.out.symm.trans (HZ3.out.trans (by unfold pO; rw [if_pos K1.out, pPs_pr, if_pos Q2.out, HP1.out]; dsimp only; rw [HP2.out]))))
         have X := hI (X0.out.below B.out)
         go_wp2_with (with_reducible refine at_store_ (t := 45) ?_; refine Hid.out ?_)
         refine hI ?_
         refine hb_put rfl _ _ rfl rfl w.heap.size rfl rfl rp_size (by simp [Value.oneCell']) X.out rfl ?_
         intro wz hxz hgz hsz
         clear hsz
         have XZ := hI hxz
         have GZ := hI hgz
         have BZ := hI (bz_of B00.out B.out hgz)
         clear hxz hgz X
         go_wp2_with fail
         refine bodyPost_ret (results_row3 rfl _ _ w.heap.size _ _ _ _ rfl XZ.out Tryz.underlying45 rfl rp_size _ _ rfl rfl) rfl ?_
         rw [HT.out]
         exact ⟨_, rfl, pv_empty _ _, BZ.out⟩
        have AR1 := hI hA
        have HP1 := hI hP
        clear hP hA HR
        have ek : (0 : Int) <= (k1 : Int) := by omega
        have AB := hI AR1.out
        go_wp2_with fail
        refine (rat_any _ k1 (S0.out.below B.out) AB.out.lt).mono ?_
        rintro e wy ⟨rfl, rfl⟩
        rw [at_off AB.out]
        have HT := hI (rpP_bad HE.out (show pP ((Lx.scanL s).1.map tkq) = .bad _ from HPZ.out.symm.trans (HZ3.out.trans (by unfold pO; rw [if_pos K1.out, pPs_pr, if_pos Q2.out, HP1.out]))))
        have X := hI (X0.out.below B.out)
        go_wp2_with (with_reducible refine at_store_ (t := 45) ?_; refine Hid.out ?_)
        refine hI ?_
        refine hb_put rfl _ _ rfl rfl w.heap.size rfl rfl rp_size (by simp [Value.oneCell']) X.out rfl ?_
        intro wz hxz hgz hsz
        clear hsz
        have XZ := hI hxz
        have GZ := hI hgz
        have BZ := hI (bz_of B00.out B.out hgz)
        clear hxz hgz X
        go_wp2_with fail
        refine bodyPost_ret (results_row3 rfl _ _ w.heap.size _ _ _ _ rfl XZ.out Tryz.underlying45 rfl rp_size _ _ rfl rfl) rfl ?_
        rw [HT.out]
        exact ⟨_, rfl, pv_empty _ _, BZ.out⟩
      have K1 := hI hk
      have e1 : (kindT r.tail != 1) = true := by simpa using hk
      have e2 : decide (kindT r.tail = 1) = false := by simpa using hk
      clear hk
      have AB := hI (show AtR (Lx.scanL s).1 j1 r.tail from by rw [J1.out]; exact AR.out.next EN.out K0.out)
      go_wp2_with fail
      refine (rat_any _ j1 (S0.out.below B.out) AB.out.lt).mono ?_
      rintro e wy ⟨rfl, rfl⟩
      rw [at_off AB.out]
      have HT := hI (rpP_bad HE.out (show pP ((Lx.scanL s).1.map tkq) = .bad _ from HPZ.out.symm.trans (HZ3.out.trans (by unfold pO; rw [if_neg K1.out]))))
      have X := hI (X0.out.below B.out)
      go_wp2_with (with_reducible refine at_store_ (t := 45) ?_; refine Hid.out ?_)
      refine hI ?_
      refine hb_put rfl _ _ rfl rfl w.heap.size rfl rfl rp_size (by simp [Value.oneCell']) X.out rfl ?_
      intro wz hxz hgz hsz
      clear hsz
      have XZ := hI hxz
      have GZ := hI hgz
      have BZ := hI (bz_of B00.out B.out hgz)
      clear hxz hgz X
      go_wp2_with fail
      refine bodyPost_ret (results_row3 rfl _ _ w.heap.size _ _ _ _ rfl XZ.out Tryz.underlying45 rfl rp_size _ _ rfl rfl) rfl ?_
      rw [HT.out]
      exact ⟨_, rfl, pv_empty _ _, BZ.out⟩
 have e1 : (er != 0) = true := by simpa using he
 have e2 : decide (er = 0) = false := by simpa using he
 have HE := hI (show (Lx.scanL s).2.2 ≠ 0 from by rw [<- HER.out]; exact he)
 clear he
 have HT := hI (rpP_err HE.out)
 rw [<- HK0.out, <- HER.out] at HT
 clear ho
 have X := hI (XA.out.below B.out)
 go_wp2_with (with_reducible refine at_store_ (t := 45) ?_; refine Hid.out ?_)
 refine hI ?_
 refine hb_put rfl _ _ rfl rfl w.heap.size rfl rfl rp_size (by simp [Value.oneCell']) X.out rfl ?_
 intro wz hxz hgz hsz
 clear hsz
 have XZ := hI hxz
 have GZ := hI hgz
 have BZ := hI (bz_of BA0.out B.out hgz)
 clear hxz hgz X
 go_wp2_with fail
 refine bodyPost_ret (results_row3 rfl _ _ w.heap.size _ _ _ _ rfl XZ.out Tryz.underlying45 rfl rp_size _ _ rfl rfl) rfl ?_
 rw [HT.out]
 exact ⟨_, rfl, pv_empty _ _, BZ.out⟩
open Go.RowKit
/-- An operand's text out of the expression's. -/
def par (e : Ex) (t : Str) : Str := if e.kind = 5 ∨ e.kind = 3 ∨ e.kind = 4 ∨ (e.kind = 6 /\ 0 < e.orr.length) then [40] ++ t ++ [41] else t
mutual
def txE : Ex -> Str
 | .mk k n s m a o => if k = 0 then Lib.itoa n else if k = 1 then Lib.formatBool (decide (n = 1)) else if k = 2 then s
  else if k = 3 then [110, 111, 116, 32] ++ (opEs a).headD [] else if k = 4 then [45] ++ (opEs a).headD []
  else if k = 5 then (opEs a).headD [] ++ [32] ++ m ++ [32] ++ ((opEs a).drop 1).headD []
  else if k = 7 then [104, 111, 115, 116, 46] ++ s ++ [40] ++ Lib.join (txEs a) [44, 32] ++ [41]
  else s ++ [46] ++ m ++ [40] ++ Lib.join (txEs a) [44, 32] ++ [41] ++ (if o.length = 0 then [] else [32, 101, 108, 115, 101, 32] ++ (opEs o).headD [])
def txEs : List Ex -> List Str
 | [] => []
 | e :: t => txE e :: txEs t
def opEs : List Ex -> List Str
 | [] => []
 | e :: t => par e (txE e) :: opEs t
end
/-- An operand's text. -/
def opE (e : Ex) : Str := par e (txE e)
theorem txEs_map : ∀ l : List Ex, txEs l = l.map txE
 | [] => by rw [txEs]; rfl
 | e :: t => by rw [txEs, txEs_map t]; rfl
mutual
/-- Its numbers are int64. -/
def Ex.Wd : Ex -> Prop
 | .mk _ n _ _ a o => InR n /\ Ex.Wds a /\ Ex.Wds o
def Ex.Wds : List Ex -> Prop
 | [] => True
 | e :: t => e.Wd /\ Ex.Wds t
end
theorem Ex.Wds_mem : ∀ {l : List Ex}, Ex.Wds l -> ∀ e ∈ l, e.Wd
 | a :: t, h, e, he => by
  rw [Ex.Wds] at h
  rcases List.mem_cons.1 he with rfl | he
  ·exact h.1
  exact Ex.Wds_mem h.2 e he
mutual
theorem XV.wd {w : World} {S : Nat -> Prop} : ∀ {e : Ex} {cs : List Value}, XV w S e cs -> e.Wd
 | .mk k n s m a o, cs, h => by
  rw [XV] at h
  obtain ⟨A, na, ca, O, no, co, _, h0, h2, h3, h4, h5⟩ := h
  rw [Ex.Wd]
  refine ⟨h0, ?_, ?_⟩
  ·cases a with
   | nil => rw [Ex.Wds]; trivial
   | cons e t =>
    obtain ⟨b, q, _, _, _, hx⟩ := h4 (by rw [h2.1]; simp)
    exact XLf.wd hx
  cases o with
  | nil => rw [Ex.Wds]; trivial
  | cons e t =>
   obtain ⟨b, q, _, _, _, hx⟩ := h5 (by rw [h3.1]; simp)
   exact XLf.wd hx
theorem XLf.wd {w : World} {S : Nat -> Prop} {b q : Nat} : ∀ {i : Nat} {l : List Ex}, XLf w S b q i l -> Ex.Wds l
 | _, [], _ => by rw [Ex.Wds]; trivial
 | i, e :: t, h => by
  rw [XLf] at h
  obtain ⟨⟨cs, h1, _⟩, h3⟩ := h
  rw [Ex.Wds]
  exact ⟨XV.wd h1, XLf.wd h3⟩
end
theorem chkEs_all {d : Int} : ∀ {l : List Ex}, chkEs d l = 0 -> ∀ x ∈ l, chkE d x = 0
 | [], _, x, h => by cases h
 | e :: t, h, x, hx => by
  rw [chkEs] at h
  split at h
  ·exact absurd h (by assumption)
  rename_i h3
  rcases List.mem_cons.1 hx with rfl | hx
  ·exact Classical.not_not.1 h3
  exact chkEs_all h x hx
/-- What a valid expression's fields are. -/
theorem chkE_fields {d k n : Int} {s m : Str} {a o : List Ex} (h : chkE d (.mk k n s m a o) = 0) : d <= 12 /\ 0 <= k /\ k <= 7 /\ formE (.mk k n s m a o) = true /\ ((k = 2 ∨ 6 <= k) -> nameOk s = true) /\ (k = 6 -> nameOk m = true) /\ (k <= 1 -> 0 <= n /\ (k = 1 -> n <= 1)) /\ (∀ x ∈ a, chkE (d + 1) x = 0) /\ (∀ x ∈ o, chkE (d + 1) x = 0) := by
 rw [chkE] at h
 split at h
 ·exact absurd h (by assumption)
 rename_i h0
 have hh : headE d (.mk k n s m a o) = 0 := Classical.not_not.1 h0
 split at h
 ·exact absurd h (by assumption)
 rename_i h1
 have ha := chkEs_all (Classical.not_not.1 h1)
 have ho := chkEs_all h
 clear h h0 h1
 have e : headE d (.mk k n s m a o) = if 12 < d then 18 else if k < 0 ∨ 7 < k then 2 else if formE (.mk k n s m a o) = false then 5 else if ((k = 2 ∨ 6 <= k) /\ nameOk s = false) ∨ (k = 6 /\ nameOk m = false) then 16 else if k <= 1 /\ (n < 0 ∨ (k = 1 /\ 1 < n)) then 3 else 0 := rfl
 rw [e] at hh
 split at hh
 ·cases hh
 split at hh
 ·cases hh
 split at hh
 ·cases hh
 split at hh
 ·cases hh
 split at hh
 ·cases hh
 rename_i e1 e2 e3 e4 e5
 refine ⟨by omega, by omega, by omega, by simpa using e3, fun hk => ?_, fun hk => ?_, fun hk => ?_, ha, ho⟩
 ·cases hq : nameOk s with
  | true => rfl
  | false => exact absurd (.inl ⟨hk, hq⟩) e4
 ·cases hq : nameOk m with
  | true => rfl
  | false => exact absurd (.inr ⟨hk, hq⟩) e4
 omega
/-- The shapes of valid expressions. -/
inductive Shape (d : Int) : Ex -> Prop where
 | num (n : Int) (h : 0 <= n) : Shape d (.mk 0 n [] [] [] [])
 | bool (n : Int) (h : n = 0 ∨ n = 1) : Shape d (.mk 1 n [] [] [] [])
 | var (s : Str) (h : nameOk s = true) : Shape d (.mk 2 0 s [] [] [])
 | not (x : Ex) (h : chkE (d + 1) x = 0) : Shape d (.mk 3 0 [] [] [x] [])
 | neg (x : Ex) (h : chkE (d + 1) x = 0) : Shape d (.mk 4 0 [] [] [x] [])
 | bin (m : Str) (x y : Ex) (hm : sgns.contains m = true) (h1 : chkE (d + 1) x = 0) (h2 : chkE (d + 1) y = 0) : Shape d (.mk 5 0 [] m [x, y] [])
 | call (s m : Str) (a o : List Ex) (hs : nameOk s = true) (hm : nameOk m = true) (ha : a.length <= 4) (h1 : ∀ x ∈ a, chkE (d + 1) x = 0) (ho : o.length <= 1) (h2 : ∀ x ∈ o, chkE (d + 1) x = 0) : Shape d (.mk 6 0 s m a o)
 | host (s : Str) (a : List Ex) (hs : nameOk s = true) (ha : a.length <= 4) (h1 : ∀ x ∈ a, chkE (d + 1) x = 0) : Shape d (.mk 7 0 s [] a [])
theorem shape_of {d : Int} {e : Ex} (h : chkE d e = 0) : Shape d e /\ d <= 12 := by
 obtain ⟨k, n, s, m, a, o⟩ := e
 obtain ⟨hd, hk0, hk7, hf, hs, hm, hn, ha, ho⟩ := chkE_fields h
 refine ⟨?_, hd⟩
 rw [formE_mk] at hf
 by_cases e0 : k = 0 ∨ k = 1
 ·rw [if_pos e0] at hf
  simp only [Bool.and_eq_true, decide_eq_true_eq, beq_iff_eq, List.length_eq_zero_iff] at hf
  obtain ⟨⟨⟨rfl, rfl⟩, rfl⟩, rfl⟩ := hf
  rcases e0 with rfl | rfl
  ·exact .num n (hn (by decide)).1
  have := hn (by decide)
  exact .bool n (by omega)
 rw [if_neg e0] at hf
 by_cases e2 : k = 2
 ·rw [if_pos e2] at hf
  simp only [Bool.and_eq_true, decide_eq_true_eq, beq_iff_eq, List.length_eq_zero_iff] at hf
  obtain ⟨⟨⟨rfl, rfl⟩, rfl⟩, rfl⟩ := hf
  subst e2
  exact .var s (hs (.inl rfl))
 rw [if_neg e2] at hf
 by_cases e3 : k = 3 ∨ k = 4
 ·rw [if_pos e3] at hf
  simp only [Bool.and_eq_true, decide_eq_true_eq, beq_iff_eq, List.length_eq_zero_iff] at hf
  obtain ⟨⟨⟨⟨rfl, rfl⟩, rfl⟩, hl⟩, rfl⟩ := hf
  obtain ⟨x, rfl⟩ := List.length_eq_one_iff.1 hl
  rcases e3 with rfl | rfl
  ·exact .not x (ha x (by simp))
  exact .neg x (ha x (by simp))
 rw [if_neg e3] at hf
 by_cases e5 : k = 5
 ·rw [if_pos e5] at hf
  simp only [Bool.and_eq_true, decide_eq_true_eq, beq_iff_eq, List.length_eq_zero_iff] at hf
  obtain ⟨⟨⟨⟨rfl, rfl⟩, hc⟩, hl⟩, rfl⟩ := hf
  obtain ⟨x, y, rfl⟩ : ∃ x y, a = [x, y] := by
   match a, hl with
   | [x, y], _ => exact ⟨x, y, rfl⟩
  subst e5
  exact .bin m x y hc (ha x (by simp)) (ha y (by simp))
 rw [if_neg e5] at hf
 by_cases e6 : k = 6
 ·rw [if_pos e6] at hf
  simp only [Bool.and_eq_true, decide_eq_true_eq, beq_iff_eq, List.length_eq_zero_iff] at hf
  obtain ⟨⟨rfl, hl⟩, hl2⟩ := hf
  subst e6
  exact .call s m a o (hs (.inr (by decide))) (hm rfl) hl ha hl2 ho
 rw [if_neg e6] at hf
 simp only [Bool.and_eq_true, decide_eq_true_eq, beq_iff_eq, List.length_eq_zero_iff] at hf
 obtain ⟨⟨⟨rfl, rfl⟩, hl⟩, rfl⟩ := hf
 obtain rfl : k = 7 := by omega
 exact .host s a (hs (.inr (by decide))) hl ha
theorem name_len {s : Str} (h : nameOk s = true) : s.length <= 24 := by
 unfold nameOk at h
 simp only [Bool.and_eq_true, decide_eq_true_eq] at h
 exact h.1.2
theorem sgn_len {m : Str} (h : sgns.contains m = true) : m.length <= 3 := by
 have h2 : ∀ x ∈ sgns, x.length <= 3 := by decide
 exact h2 m (by simpa using h)
theorem par_len (e : Ex) (t : Str) : (par e t).length <= t.length + 2 := by
 unfold par
 split <;> simp
theorem join_len (sep : Str) : ∀ l : List Str, (Lib.join l sep).length <= (l.map List.length).sum + l.length * sep.length
 | [] => by simp [Lib.join, List.intercalate]
 | [x] => by simp [Lib.join, List.intercalate]
 | x :: y :: t => by
  have ih := join_len sep (y :: t)
  have e : Lib.join (x :: y :: t) sep = x ++ sep ++ Lib.join (y :: t) sep := by simp [Lib.join, List.intercalate]
  rw [e]
  simp only [List.length_append, List.map_cons, List.sum_cons, List.length_cons] at ih ⊢
  rw [Nat.succ_mul]
  omega
theorem bool_len (b : Bool) : (Lib.formatBool b).length <= 5 := by cases b <;> decide
theorem sizes_sum : ∀ l : List Ex, Ex.sizes l = (l.map Ex.size).sum
 | [] => by rw [Ex.sizes]; rfl
 | e :: t => by rw [Ex.sizes, sizes_sum t]; simp
theorem sum_le {α : Type} (f g : α -> Nat) (c : Nat) : ∀ l : List α, (∀ x ∈ l, f x <= c * g x) -> (l.map f).sum <= c * (l.map g).sum
 | [], _ => by simp
 | x :: t, h => by
  have h1 := h x (by simp)
  have h2 := sum_le f g c t fun y hy => h y (by simp [hy])
  simp only [List.map_cons, List.sum_cons, Nat.mul_add]
  omega
theorem txE_len (e : Ex) : ∀ d, chkE d e = 0 -> e.Wd -> (txE e).length <= 130 * e.size := by
 obtain ⟨N, hN⟩ : ∃ N, N = e.size := ⟨_, rfl⟩
 induction N using Nat.strongRecOn generalizing e with
 | _ N ih =>
  intro d h hw
  rcases (shape_of h).1 with ⟨n, hn⟩ | ⟨n, hn⟩ | ⟨s, hs⟩ | ⟨x, hx⟩ | ⟨x, hx⟩ | ⟨m, x, y, hm, hx, hy⟩ | ⟨s, m, a, o, hs, hm, ha, h1, ho, h2⟩ | ⟨s, a, hs, ha, h1⟩
  ·rw [Ex.Wd] at hw
   have := Lib.itoa_length_le n hw.1.1 hw.1.2
   rw [txE, Ex.size, if_pos rfl, Ex.sizes]
   omega
  ·have := bool_len (decide (n = 1))
   rw [txE, Ex.size, if_neg (by decide), if_pos rfl, Ex.sizes]
   omega
  ·have := name_len hs
   simp only [txE, Ex.size, Ex.sizes]
   simp
   omega
  all_goals rw [Ex.Wd] at hw
  ·have hwx := Ex.Wds_mem hw.2.1 x (by simp)
   rw [Ex.size, Ex.sizes, Ex.sizes] at hN
   have := ih x.size (by omega) x rfl _ hx hwx
   have h3 := par_len x (txE x)
   simp only [txE, opEs, Ex.size, Ex.sizes]
   simp
   omega
  ·have hwx := Ex.Wds_mem hw.2.1 x (by simp)
   rw [Ex.size, Ex.sizes, Ex.sizes] at hN
   have := ih x.size (by omega) x rfl _ hx hwx
   have h3 := par_len x (txE x)
   simp only [txE, opEs, Ex.size, Ex.sizes]
   simp
   omega
  ·have hwx := Ex.Wds_mem hw.2.1 x (by simp)
   have hwy := Ex.Wds_mem hw.2.1 y (by simp)
   rw [Ex.size, Ex.sizes, Ex.sizes, Ex.sizes] at hN
   have h1 := ih x.size (by omega) x rfl _ hx hwx
   have h2 := ih y.size (by omega) y rfl _ hy hwy
   have h3 := par_len x (txE x)
   have h4 := par_len y (txE y)
   have h5 := sgn_len hm
   simp only [txE, opEs, Ex.size, Ex.sizes]
   simp
   omega
  ·have hA : (a.map fun x => (txE x).length).sum <= 130 * (a.map Ex.size).sum := sum_le _ _ _ _ fun x hx => ih x.size (by
    have := Ex.sizes_mem hx
    rw [hN, Ex.size]; omega) x rfl _ (h1 x hx) (Ex.Wds_mem hw.2.1 x hx)
   have hj := join_len [44, 32] (txEs a)
   rw [txEs_map, List.map_map, List.length_map] at hj
   have hj' : (Lib.join (a.map txE) [44, 32]).length <= (a.map fun x => (txE x).length).sum + a.length * 2 := hj
   have n1 := name_len hs
   have n2 := name_len hm
   have hO : (if o.length = 0 then [] else [32, 101, 108, 115, 101, 32] ++ (opEs o).headD []).length <= 130 * Ex.sizes o + 8 := by
    match o, ho, h2, hN with
    | [], _, _, _ => simp
    | [x], _, h2, hN =>
     have h3 := ih x.size (by rw [hN, Ex.size, Ex.sizes, Ex.sizes]; omega) x rfl _ (h2 x (by simp)) (Ex.Wds_mem hw.2.2 x (by simp))
     have h4 := par_len x (txE x)
     simp only [opEs, Ex.sizes]
     simp
     omega
   rw [txE, Ex.size, sizes_sum a, txEs_map]
   rw [if_neg (by decide), if_neg (by decide), if_neg (by decide), if_neg (by decide), if_neg (by decide), if_neg (by decide), if_neg (by decide)]
   simp only [List.length_append, List.length_cons, List.length_nil] at hO ⊢
   omega
  have hA : (a.map fun x => (txE x).length).sum <= 130 * (a.map Ex.size).sum := sum_le _ _ _ _ fun x hx => ih x.size (by
   have := Ex.sizes_mem hx
   rw [hN, Ex.size]; omega) x rfl _ (h1 x hx) (Ex.Wds_mem hw.2.1 x hx)
  have hj := join_len [44, 32] (txEs a)
  rw [txEs_map, List.map_map, List.length_map] at hj
  have hj' : (Lib.join (a.map txE) [44, 32]).length <= (a.map fun x => (txE x).length).sum + a.length * 2 := hj
  have n1 := name_len hs
  rw [txE, Ex.size, sizes_sum a, txEs_map]
  rw [if_neg (by decide), if_neg (by decide), if_neg (by decide), if_neg (by decide), if_neg (by decide), if_neg (by decide), if_pos rfl]
  simp only [List.length_append, List.length_cons, List.length_nil]
  omega
end Go.Proofs.YtkakbidllpjopaaGreatDoor
namespace Go.Proofs
open Go.Shelf
def Tryz.lays105_ren : Go.Shelf.Ren := ⟨fun | 105 => 50 | 212 => 83 | 99 => 80 | 165 => 51 | 166 => 49 | 170 => 28 | 169 => 29 | 263 => 107 | 264 => 108 | 206 => 104 | 240 => 82 | 241 => 84 | 276 => 106 | 277 => 109 | n => n, fun | 9 => 9 | 3 => 3 | 4 => 4 | 20 => 20 | 0 => 0 | 46 => 151 | 109 => 152 | 5 => 5 | 72 => 79 | 76 => 123 | 51 => 169 | 146 => 170 | 53 => 157 | 148 => 172 | 70 => 77 | 37 => 58 | 75 => 122 | 127 => 128 | 164 => 167 | 80 => 88 | n => n, fun | n => n⟩
theorem Tryz.lays105 : Go.Proofs.Lays.n105 Tryz.prog Tryz.lays105_ren := {
 mixed := by kernel_rfl
 f99 := Tryz.func80.trans (congrArg some (by kernel_rfl))
 f105 := Tryz.func50.trans (congrArg some (by kernel_rfl))
 f165 := Tryz.func51.trans (congrArg some (by kernel_rfl))
 f166 := Tryz.func49.trans (congrArg some (by kernel_rfl))
 f169 := Tryz.func29.trans (congrArg some (by kernel_rfl))
 f170 := Tryz.func28.trans (congrArg some (by kernel_rfl))
 f206 := Tryz.func104.trans (congrArg some (by kernel_rfl))
 f212 := Tryz.func83.trans (congrArg some (by kernel_rfl))
 f240 := Tryz.func82.trans (congrArg some (by kernel_rfl))
 f241 := Tryz.func84.trans (congrArg some (by kernel_rfl))
 f263 := Tryz.func107.trans (congrArg some (by kernel_rfl))
 f264 := Tryz.func108.trans (congrArg some (by kernel_rfl))
 f276 := Tryz.func106.trans (congrArg some (by kernel_rfl))
 f277 := Tryz.func109.trans (congrArg some (by kernel_rfl))
 t0 := Tryz.underlying0
 a0 := Tryz.isAgg0
 z0 := Tryz.sizeOf0
 v0 := Tryz.zeroValue0
 t3 := Tryz.underlying3
 a3 := Tryz.isAgg3
 z3 := Tryz.sizeOf3
 v3 := Tryz.zeroValue3
 t4 := Tryz.underlying4
 a4 := Tryz.isAgg4
 z4 := Tryz.sizeOf4
 v4 := Tryz.zeroValue4
 t5 := Tryz.underlying5
 a5 := Tryz.isAgg5
 z5 := Tryz.sizeOf5
 v5 := Tryz.zeroValue5
 t9 := Tryz.underlying9
 a9 := Tryz.isAgg9
 z9 := Tryz.sizeOf9
 v9 := Tryz.zeroValue9
 t20 := Tryz.underlying20
 a20 := Tryz.isAgg20
 z20 := Tryz.sizeOf20
 v20 := Tryz.zeroValue20
 t37 := Tryz.underlying58
 a37 := Tryz.isAgg58
 z37 := Tryz.sizeOf58
 v37 := Tryz.zeroValue58
 t46 := Tryz.underlying151
 a46 := Tryz.isAgg151
 z46 := Tryz.sizeOf151
 v46 := Tryz.zeroValue151
 t51 := Tryz.underlying169
 a51 := Tryz.isAgg169
 z51 := Tryz.sizeOf169
 v51 := Tryz.zeroValue169
 t53 := Tryz.underlying157
 a53 := Tryz.isAgg157
 z53 := Tryz.sizeOf157
 v53 := Tryz.zeroValue157
 t70 := Tryz.underlying77
 a70 := Tryz.isAgg77
 z70 := Tryz.sizeOf77
 v70 := Tryz.zeroValue77
 t72 := Tryz.underlying79
 a72 := Tryz.isAgg79
 z72 := Tryz.sizeOf79
 v72 := Tryz.zeroValue79
 t75 := Tryz.underlying122
 a75 := Tryz.isAgg122
 z75 := Tryz.sizeOf122
 v75 := Tryz.zeroValue122
 t76 := Tryz.underlying123
 a76 := Tryz.isAgg123
 z76 := Tryz.sizeOf123
 v76 := Tryz.zeroValue123
 t109 := Tryz.underlying152
 a109 := Tryz.isAgg152
 z109 := Tryz.sizeOf152
 v109 := Tryz.zeroValue152
 t127 := Tryz.underlying128
 a127 := Tryz.isAgg128
 z127 := Tryz.sizeOf128
 v127 := Tryz.zeroValue128
 t146 := Tryz.underlying170
 a146 := Tryz.isAgg170
 z146 := Tryz.sizeOf170
 v146 := Tryz.zeroValue170
 t148 := Tryz.underlying172
 a148 := Tryz.isAgg172
 z148 := Tryz.sizeOf172
 v148 := Tryz.zeroValue172
 t164 := Tryz.underlying167
 a164 := Tryz.isAgg167
 z164 := Tryz.sizeOf167
 v164 := Tryz.zeroValue167 }
theorem Tryz.Builder_Extra_105 : Builder.Extra Tryz.prog Tryz.lays105_ren := {
 sizeBuilder := by kernel_rfl
 liesBuilder := by kernel_rfl
 t5 := Tryz.underlying5
 a5 := Tryz.isAgg5
 z5 := Tryz.sizeOf5
 v5 := Tryz.zeroValue5
 infoByte := by kernel_rfl
 cellsByte := by kernel_rfl
 sizeByte := by kernel_rfl
 neB5 := by decide }
open Go.RowKit Go.Sort Go.Lib in
theorem Tryz.strings_Repeat (s : ByteArray) (c : Nat) (w : World) (hc : c <= 9223372036854775807) (hlen : s.size * c <= 140737488355328) :
  Calls Tryz.prog 50 #[.string s, .int .i64 c] w fun e w' => e = .returned (.string ⟨(Lib.repeatL s.data.toList c).toArray⟩) /\ Below w.heap.size w w' := Any.strings_Repeat Tryz.lays105 Tryz.Builder_Extra_105 s c w hc hlen
def Tryz.lays121_ren : Go.Shelf.Ren := ⟨fun | 121 => 110 | 214 => 129 | n => n, fun | 4 => 4 | 9 => 9 | n => n, fun | n => n⟩
theorem Tryz.lays121 : Go.Proofs.Lays.n121 Tryz.prog Tryz.lays121_ren := {
 mixed := by kernel_rfl
 f121 := Tryz.func110.trans (congrArg some (by kernel_rfl))
 f214 := Tryz.func129.trans (congrArg some (by kernel_rfl))
 t4 := Tryz.underlying4
 a4 := Tryz.isAgg4
 z4 := Tryz.sizeOf4
 v4 := Tryz.zeroValue4
 t9 := Tryz.underlying9
 a9 := Tryz.isAgg9
 z9 := Tryz.sizeOf9
 v9 := Tryz.zeroValue9 }
open Go.RowKit Go.Sort Go.Lib in
theorem Tryz.strconv_FormatBool (b : Bool) (w : World) :
  Calls Tryz.prog 110 #[.bool b] w fun e w' => e = .returned (.string ⟨(Lib.formatBool b).toArray⟩) /\ w' = w := Any.strconv_FormatBool Tryz.lays121 b w
end Go.Proofs
