/- The walk of the reference's Lines (printed by wip/gensyt.py). Conditions: valid statements; at most 100000 parts. -/
import Derived.Test.YthfjkdgaiaokdaaDoorSyS
import Derived.Test.YthfjkdgaiaokdaaDoorSyM
set_option linter.unusedVariables false
set_option linter.unusedSimpArgs false
namespace Go.Proofs.YthfjkdgaiaokdaaDoor
open Go.RowKit

def RLinesAt (l : List St) : Prop := ∀ (d : Nat) (D : Int) (w : World) (S : Nat → Prop) (A : Option Addr) (n c : Nat), D = (d : Int) → SxW w → chkSs D l = 0 → St.sizes l ≤ 100000 → SL w S A n c l → Calls Tryd.prog 29 #[.slice A n c, .string (bs (Lib.repeatL [32, 32] d))] w fun e' w' => e' = .returned (.string (bs (txSs d l))) ∧ Below w.heap.size w w'
set_option maxRecDepth 100000 in
set_option maxHeartbeats 25600000 in
theorem rlinesAt_of {l : List St} (ih : ∀ x ∈ l, RLinesAt x.body ∧ RLinesAt x.els) : RLinesAt l := by
  intro d D w S A n0 c0 hD hw hc hz hl
  have HN := Lib.hid hl.1.1
  have HL := Lib.hid hl
  have HWS := Lib.hid hw
  have HI := Lib.hid ih
  have HC := Lib.hid (chkSs_all hc)
  have HSZ := Lib.hid (show ∀ x ∈ l, x.size ≤ 100000 from fun x hx => by have := St.sizes_mem hx; omega)
  have HLEN := Lib.hid (show (txSs d l).length ≤ 30000000 by
    have := txSs_len (d := d) (l := l) fun y hy => txS_len y d (by have := HC.out y hy; rwa [hD] at this) (St.Wds_mem hl.wds y hy)
    omega)
  have hn6 : (n0 : Int) ≤ 100000 := by have := hl.1.1; have := St.len_sizes l; omega
  obtain ⟨ah, hah⟩ : ∃ ah, ah = Lib.repeatL [32, 32] d := ⟨_, rfl⟩
  have HAH := Lib.hid hah
  rw [← hah]
  have HAL := Lib.hid (show ah.length = d * 2 by rw [hah, Lib.repeatL_length]; rfl)
  obtain ⟨T, hT⟩ : ∃ T, T = txSs d l := ⟨_, rfl⟩
  rw [← hT]
  have HT := Lib.hid hT
  have Z0 : Bz w w := ⟨Below.refl _ _⟩
  clear hl hw hc hz ih hT hah
  go_enter Tryd.func29, Tryd.ntmps29
  go_wp2_with fail
  go_loopw [5, 6] (fun out i wr => ∃ (q : Nat) (Z : Str), q ≤ l.length ∧ out = .string (bs Z) ∧ i = .int .i64 q ∧ Hid (Z = txSs d (l.take q)) ∧ Bz w wr) (fun _ i _ => l.length - (intOf i).toNat)
  case atStart => exact ⟨0, [], Nat.zero_le _, rfl, rfl, Lib.hid (by rw [List.take_zero, txSs]), Z0⟩
  case round =>
    clear Z0
    obtain ⟨q, Z, hq, rfl, rfl, n1, zr⟩ := hrel
    obtain ⟨wv, hwv⟩ : ∃ wv, wv = wr := ⟨_, rfl⟩
    subst hwv
    by_cases hl : q < l.length
    · have hi2 : (q : Int) < (n0 : Int) := by have := HN.out; omega
      obtain ⟨x, b, off, cs, hx, rfl, hb0, hS, hxv, hrow⟩ := HL.out.at q (by have := HN.out; omega)
      have HQL := Lib.hid hl
      have hmem := List.mem_of_getElem? hx
      have hcx := HC.out x hmem
      have hxs := HSZ.out x hmem
      have hib := HI.out x hmem
      have lZ : Z.length ≤ 30000000 := by
        have := txSs_take_len d l q
        have := HLEN.out
        rw [n1.out]; omega
      have HUP := Lib.hid (show txSs d (l.take (q + 1)) = Z ++ txS d x by rw [txSs_take hx, ← n1.out])
      have hrow2 := rangeAt_keep hrow (zr.b.block b hb0)
      obtain ⟨hshape, hd12⟩ := shapeS_of hcx
      have hal := HAL.out
      rcases hshape with ⟨s, e, hs, he⟩ | ⟨s, e, hs, he⟩ | ⟨e, hk, he⟩ | ⟨e, bb, ll, he, hb, hl2⟩ | ⟨n, bb, h0, h1, hb⟩ | ⟨e, he⟩ | ⟨n, h0⟩
      · skip
        obtain ⟨ex, B, nb, cb, L, nl, cl, rfl, hex, hB, hLl⟩ := hxv.open_
        have hnr := hxv.num
        rw [St.size] at hxs
        have hsl := name_len hs
        obtain ⟨t, ht⟩ : ∃ t, t = txE e := ⟨_, rfl⟩
        have htl : t.length ≤ 13000000 := by
          have := txE_len e 1 he hex.wd
          rw [ht]; omega
        obtain ⟨c1, hc1⟩ : ∃ c, c = Z ++ ah := ⟨_, rfl⟩
        have lc1 : c1.length = Z.length + ah.length := by rw [hc1]; exact List.length_append
        have jc1 : ∀ w, (Op.stringOp .add (bs Z) (bs ah)).run Tryd.prog w = .ok (.string (bs c1)) w := fun w => by rw [hc1]; exact add_big Z ah (by first | omega | (simp; omega)) w
        obtain ⟨k1, hk1⟩ : ∃ c, c = c1 ++ ([108, 101, 116, 32] : Str) := ⟨_, rfl⟩
        have lk1 : k1.length = c1.length + 4 := by rw [hk1]; exact List.length_append
        have jk1 : ∀ w, (Op.stringOp .add (bs c1) (⟨#[108, 101, 116, 32]⟩ : ByteArray)).run Tryd.prog w = .ok (.string (bs k1)) w := fun w => by rw [hk1]; exact add_big c1 ([108, 101, 116, 32] : Str) (by first | omega | (simp; omega)) w
        obtain ⟨k2, hk2⟩ : ∃ c, c = k1 ++ s := ⟨_, rfl⟩
        have lk2 : k2.length = k1.length + s.length := by rw [hk2]; exact List.length_append
        have jk2 : ∀ w, (Op.stringOp .add (bs k1) (bs s)).run Tryd.prog w = .ok (.string (bs k2)) w := fun w => by rw [hk2]; exact add_big k1 s (by first | omega | (simp; omega)) w
        obtain ⟨k3, hk3⟩ : ∃ c, c = k2 ++ ([32, 61, 32] : Str) := ⟨_, rfl⟩
        have lk3 : k3.length = k2.length + 3 := by rw [hk3]; exact List.length_append
        have jk3 : ∀ w, (Op.stringOp .add (bs k2) (⟨#[32, 61, 32]⟩ : ByteArray)).run Tryd.prog w = .ok (.string (bs k3)) w := fun w => by rw [hk3]; exact add_big k2 ([32, 61, 32] : Str) (by first | omega | (simp; omega)) w
        obtain ⟨k4, hk4⟩ : ∃ c, c = k3 ++ t := ⟨_, rfl⟩
        have lk4 : k4.length = k3.length + t.length := by rw [hk4]; exact List.length_append
        have jk4 : ∀ w, (Op.stringOp .add (bs k3) (bs t)).run Tryd.prog w = .ok (.string (bs k4)) w := fun w => by rw [hk4]; exact add_big k3 t (by first | omega | (simp; omega)) w
        obtain ⟨k5, hk5⟩ : ∃ c, c = k4 ++ ([59, 10] : Str) := ⟨_, rfl⟩
        have lk5 : k5.length = k4.length + 2 := by rw [hk5]; exact List.length_append
        have jk5 : ∀ w, (Op.stringOp .add (bs k4) (⟨#[59, 10]⟩ : ByteArray)).run Tryd.prog w = .ok (.string (bs k5)) w := fun w => by rw [hk5]; exact add_big k4 ([59, 10] : Str) (by first | omega | (simp; omega)) w
        have HZ2 := Lib.hid (show k5 = txSs d (l.take (q + 1)) by
          rw [HUP.out, txS, if_pos rfl]
          unfold lineT
          rw [← HAH.out, ← ht, hk5, hk4, hk3, hk2, hk1, hc1]
          simp only [List.append_assoc, List.cons_append, List.nil_append, List.append_nil])
        clear HUP hc1 lc1 hk1 lk1 hk2 lk2 hk3 lk3 hk4 lk4 hk5 lk5
        have HTE := fun (W : World) (h : Below w.heap.size w W) => rtextAt_any e 1 W S ex (HWS.out.below h) he (by omega) (hex.below h)
        rw [← ht] at HTE
        obtain ⟨ek, en, es, em, ea, eo⟩ := e
        obtain ⟨EA, ena, eca, EO, eno, eco, rfl, -, -⟩ := hex.open_
        obtain ⟨e0, e1, e2, e3, e4, e5, e6, e7, e8, e9, e10⟩ := stC_at hrow2
        obtain ⟨W1, hW1⟩ : ∃ W1 : World, W1 = wv.alloc (.cells #[.int .i64 0, .string (bs s), .int .i64 0, .int .i64 ek, .int .i64 en, .string (bs es), .string (bs em), .slice EA ena eca, .slice EO eno eco, .slice B nb cb, .slice L nl cl] 85) := ⟨_, rfl⟩
        have hb1 : Below w.heap.size w W1 := by rw [hW1]; exact zr.b.alloc zr.b.size _
        have HG1 := Lib.hid (show ∀ W, Bz W1 W → Below w.heap.size w W from fun W h => hb1.trans (h.b.mono hb1.size))
        have HQ := Lib.hid (show ∀ W, Bz W1 W → (W.cell? ⟨wv.heap.size, 0, none⟩ = some (.int .i64 0) ∧ W.cell? ⟨wv.heap.size, 1, none⟩ = some (.string (bs s)) ∧ W.cell? ⟨wv.heap.size, 2, none⟩ = some (.int .i64 0) ∧ W.cell? ⟨wv.heap.size, 3, none⟩ = some (.int .i64 ek) ∧ W.cell? ⟨wv.heap.size, 4, none⟩ = some (.int .i64 en) ∧ W.cell? ⟨wv.heap.size, 5, none⟩ = some (.string (bs es)) ∧ W.cell? ⟨wv.heap.size, 6, none⟩ = some (.string (bs em)) ∧ W.cell? ⟨wv.heap.size, 7, none⟩ = some (.slice EA ena eca) ∧ W.cell? ⟨wv.heap.size, 8, none⟩ = some (.slice EO eno eco) ∧ W.cell? ⟨wv.heap.size, 9, none⟩ = some (.slice B nb cb) ∧ W.cell? ⟨wv.heap.size, 10, none⟩ = some (.slice L nl cl)) from fun W h => by
          have hn : W1.heap[wv.heap.size]? = some (.cells #[.int .i64 0, .string (bs s), .int .i64 0, .int .i64 ek, .int .i64 en, .string (bs es), .string (bs em), .slice EA ena eca, .slice EO eno eco, .slice B nb cb, .slice L nl cl] 85 (0, 0)) := by rw [hW1]; exact heap_alloc_new wv _
          exact st_cells ((h.b.block _ (lt_of_block hn)).trans hn))
        have HTE := fun (W : World) (h : Bz W1 W) => HTE W (HG1.out W h)
        have HTX := Lib.hid (show ∀ W, Bz W1 W → Calls Tryd.prog 46 #[.agg #[.int .i64 ek, .int .i64 en, .string (bs es), .string (bs em), .slice EA ena eca, .slice EO eno eco]] W fun e' w' => e' = .returned (.string (bs t)) ∧ Below W.heap.size W w' from fun W h => HTE W h)
        clear HTE
        clear hrow hrow2 hex hB hLl hb1 hib hxs hcx hx hb0 hS hmem hl hs hsl he ht htl n1 lZ
        have z1 : Bz W1 W1 := ⟨Below.refl _ _⟩
        go_upto_region 6 with fail
        rw [← hW1]
        clear hW1 e0 e1 e2 e3 e4 e5 e6 e7 e8 e9 e10
        obtain ⟨g0, g1, g2, g3, g4, g5, g6, g7, g8, g9, g10⟩ := HQ.out _ z1
        go_upto_region 10 with fail
        have zd := z1.drew
        clear g0 g1 g2 g3 g4 g5 g6 g7 g8 g9 g10
        refine wp_region_held_drew (S := fun W => (W.cell? ⟨wv.heap.size, 0, none⟩ = some (.int .i64 0) ∧ W.cell? ⟨wv.heap.size, 1, none⟩ = some (.string (bs s)) ∧ W.cell? ⟨wv.heap.size, 2, none⟩ = some (.int .i64 0) ∧ W.cell? ⟨wv.heap.size, 3, none⟩ = some (.int .i64 ek) ∧ W.cell? ⟨wv.heap.size, 4, none⟩ = some (.int .i64 en) ∧ W.cell? ⟨wv.heap.size, 5, none⟩ = some (.string (bs es)) ∧ W.cell? ⟨wv.heap.size, 6, none⟩ = some (.string (bs em)) ∧ W.cell? ⟨wv.heap.size, 7, none⟩ = some (.slice EA ena eca) ∧ W.cell? ⟨wv.heap.size, 8, none⟩ = some (.slice EO eno eco) ∧ W.cell? ⟨wv.heap.size, 9, none⟩ = some (.slice B nb cb) ∧ W.cell? ⟨wv.heap.size, 10, none⟩ = some (.slice L nl cl))) (by kernel_rfl) (HQ.out _ zd) (fun hHeld => ?_)
        refine wpAnyH_take (i := 0) (oi := ⟨some 32, _, _, _, _, _⟩) (v := .string (bs c1)) rfl (by kernel_rfl) (by kernel_rfl) (by kernel_rfl) (fun _ _ _ h => h) (Or.inl ⟨by rfl, ?_⟩) hHeld ?_
        · intro W hW
          obtain ⟨h0, h1, h2, h3, h4, h5, h6, h7, h8, h9, h10⟩ := hW
          go_simp
        try simp only [Act.put, List.setIfInBounds_toArray, List.set_cons_zero, List.set_cons_succ]
        refine wpAnyH_take (i := 1) (oi := ⟨some 33, _, _, _, _, _⟩) (v := .string (bs k1)) rfl (by kernel_rfl) (by kernel_rfl) (by kernel_rfl) (fun _ _ _ h => h) (Or.inl ⟨by rfl, ?_⟩) hHeld ?_
        · intro W hW
          obtain ⟨h0, h1, h2, h3, h4, h5, h6, h7, h8, h9, h10⟩ := hW
          go_simp
        try simp only [Act.put, List.setIfInBounds_toArray, List.set_cons_zero, List.set_cons_succ]
        refine wpAnyH_take (i := 2) (oi := ⟨some 34, _, _, _, _, _⟩) (v := .pointer (some ⟨wv.heap.size, 1, none⟩)) rfl (by kernel_rfl) (by kernel_rfl) (by kernel_rfl) (fun _ _ _ h => h) (Or.inl ⟨by rfl, ?_⟩) hHeld ?_
        · intro W hW
          obtain ⟨h0, h1, h2, h3, h4, h5, h6, h7, h8, h9, h10⟩ := hW
          go_simp
        try simp only [Act.put, List.setIfInBounds_toArray, List.set_cons_zero, List.set_cons_succ]
        refine wpAnyH_take (i := 3) (oi := ⟨some 35, _, _, _, _, _⟩) (v := .string (bs s)) rfl (by kernel_rfl) (by kernel_rfl) (by kernel_rfl) (fun _ _ _ h => h) (Or.inl ⟨by rfl, ?_⟩) hHeld ?_
        · intro W hW
          obtain ⟨h0, h1, h2, h3, h4, h5, h6, h7, h8, h9, h10⟩ := hW
          go_simp
        try simp only [Act.put, List.setIfInBounds_toArray, List.set_cons_zero, List.set_cons_succ]
        refine wpAnyH_take (i := 4) (oi := ⟨some 36, _, _, _, _, _⟩) (v := .string (bs k2)) rfl (by kernel_rfl) (by kernel_rfl) (by kernel_rfl) (fun _ _ _ h => h) (Or.inl ⟨by rfl, ?_⟩) hHeld ?_
        · intro W hW
          obtain ⟨h0, h1, h2, h3, h4, h5, h6, h7, h8, h9, h10⟩ := hW
          go_simp
        try simp only [Act.put, List.setIfInBounds_toArray, List.set_cons_zero, List.set_cons_succ]
        refine wpAnyH_take (i := 5) (oi := ⟨some 37, _, _, _, _, _⟩) (v := .string (bs k3)) rfl (by kernel_rfl) (by kernel_rfl) (by kernel_rfl) (fun _ _ _ h => h) (Or.inl ⟨by rfl, ?_⟩) hHeld ?_
        · intro W hW
          obtain ⟨h0, h1, h2, h3, h4, h5, h6, h7, h8, h9, h10⟩ := hW
          go_simp
        try simp only [Act.put, List.setIfInBounds_toArray, List.set_cons_zero, List.set_cons_succ]
        refine wpAnyH_take (i := 6) (oi := ⟨some 38, _, _, _, _, _⟩) (v := .pointer (some ⟨wv.heap.size, 3, none⟩)) rfl (by kernel_rfl) (by kernel_rfl) (by kernel_rfl) (fun _ _ _ h => h) (Or.inl ⟨by rfl, ?_⟩) hHeld ?_
        · intro W hW
          obtain ⟨h0, h1, h2, h3, h4, h5, h6, h7, h8, h9, h10⟩ := hW
          go_simp
        try simp only [Act.put, List.setIfInBounds_toArray, List.set_cons_zero, List.set_cons_succ]
        refine wpAnyH_take (i := 7) (oi := ⟨some 39, _, _, _, _, _⟩) (v := .agg #[.int .i64 ek, .int .i64 en, .string (bs es), .string (bs em), .slice EA ena eca, .slice EO eno eco]) rfl (by kernel_rfl) (by kernel_rfl) (by kernel_rfl) (fun _ _ _ h => h) (Or.inl ⟨by rfl, ?_⟩) hHeld ?_
        · intro W hW
          obtain ⟨h0, h1, h2, h3, h4, h5, h6, h7, h8, h9, h10⟩ := hW
          go_simp
        try simp only [Act.put, List.setIfInBounds_toArray, List.set_cons_zero, List.set_cons_succ]
        refine wpAnyH_ready (rs := [8]) (by kernel_rfl) (by simp) ?_
        refine AllReadyH.cons (o := ⟨some 40, _, _, _, _, _⟩) rfl (fun K hK => ?_) AllReadyH.nil
        refine Eq.mpr (if_pos (by kernel_rfl)) ?_
        go_simp
        refine (HTX.out _ zd).mono ?_
        rintro e wx ⟨rfl, hbx⟩
        have zx := zd.next hbx
        refine hK.out _ _ (HQ.out _ zx) (fun hHeld2 => ?_)
        clear hK
        try simp only [Act.put, List.setIfInBounds_toArray, List.set_cons_zero, List.set_cons_succ]
        refine wpAnyH_take (i := 9) (oi := ⟨some 41, _, _, _, _, _⟩) (v := .string (bs k4)) rfl (by kernel_rfl) (by kernel_rfl) (by kernel_rfl) (fun _ _ _ h => h) (Or.inl ⟨by rfl, ?_⟩) hHeld2 ?_
        · intro W hW
          obtain ⟨h0, h1, h2, h3, h4, h5, h6, h7, h8, h9, h10⟩ := hW
          go_simp
        try simp only [Act.put, List.setIfInBounds_toArray, List.set_cons_zero, List.set_cons_succ]
        refine wpAnyH_take (i := 10) (oi := ⟨some 42, _, _, _, _, _⟩) (v := .string (bs k5)) rfl (by kernel_rfl) (by kernel_rfl) (by kernel_rfl) (fun _ _ _ h => h) (Or.inl ⟨by rfl, ?_⟩) hHeld2 ?_
        · intro W hW
          obtain ⟨h0, h1, h2, h3, h4, h5, h6, h7, h8, h9, h10⟩ := hW
          go_simp
        try simp only [Act.put, List.setIfInBounds_toArray, List.set_cons_zero, List.set_cons_succ]
        refine wpAnyH_take (i := 11) (oi := ⟨some 5, _, _, _, _, _⟩) (v := .string (bs k5)) rfl (by kernel_rfl) (by kernel_rfl) (by kernel_rfl) (fun _ _ _ h => h) (Or.inl ⟨by rfl, ?_⟩) hHeld2 ?_
        · intro W hW
          obtain ⟨h0, h1, h2, h3, h4, h5, h6, h7, h8, h9, h10⟩ := hW
          go_simp
        try simp only [Act.put, List.setIfInBounds_toArray, List.set_cons_zero, List.set_cons_succ]
        refine wpAnyH_done (by kernel_rfl) ?_ _
        clear hHeld hHeld2
        go_wp2
        go_roundw
        case rel => exact ⟨q + 1, k5, HQL.out, rfl, by go_num, HZ2, ⟨HG1.out _ zx⟩⟩
        case measure => exact meas_up _ _ HQL.out
      · skip
        obtain ⟨ex, B, nb, cb, L, nl, cl, rfl, hex, hB, hLl⟩ := hxv.open_
        have hnr := hxv.num
        rw [St.size] at hxs
        have hsl := name_len hs
        obtain ⟨t, ht⟩ : ∃ t, t = txE e := ⟨_, rfl⟩
        have htl : t.length ≤ 13000000 := by
          have := txE_len e 1 he hex.wd
          rw [ht]; omega
        obtain ⟨c1, hc1⟩ : ∃ c, c = Z ++ ah := ⟨_, rfl⟩
        have lc1 : c1.length = Z.length + ah.length := by rw [hc1]; exact List.length_append
        have jc1 : ∀ w, (Op.stringOp .add (bs Z) (bs ah)).run Tryd.prog w = .ok (.string (bs c1)) w := fun w => by rw [hc1]; exact add_big Z ah (by first | omega | (simp; omega)) w
        obtain ⟨k1, hk1⟩ : ∃ c, c = c1 ++ s := ⟨_, rfl⟩
        have lk1 : k1.length = c1.length + s.length := by rw [hk1]; exact List.length_append
        have jk1 : ∀ w, (Op.stringOp .add (bs c1) (bs s)).run Tryd.prog w = .ok (.string (bs k1)) w := fun w => by rw [hk1]; exact add_big c1 s (by first | omega | (simp; omega)) w
        obtain ⟨k2, hk2⟩ : ∃ c, c = k1 ++ ([32, 61, 32] : Str) := ⟨_, rfl⟩
        have lk2 : k2.length = k1.length + 3 := by rw [hk2]; exact List.length_append
        have jk2 : ∀ w, (Op.stringOp .add (bs k1) (⟨#[32, 61, 32]⟩ : ByteArray)).run Tryd.prog w = .ok (.string (bs k2)) w := fun w => by rw [hk2]; exact add_big k1 ([32, 61, 32] : Str) (by first | omega | (simp; omega)) w
        obtain ⟨k3, hk3⟩ : ∃ c, c = k2 ++ t := ⟨_, rfl⟩
        have lk3 : k3.length = k2.length + t.length := by rw [hk3]; exact List.length_append
        have jk3 : ∀ w, (Op.stringOp .add (bs k2) (bs t)).run Tryd.prog w = .ok (.string (bs k3)) w := fun w => by rw [hk3]; exact add_big k2 t (by first | omega | (simp; omega)) w
        obtain ⟨k4, hk4⟩ : ∃ c, c = k3 ++ ([59, 10] : Str) := ⟨_, rfl⟩
        have lk4 : k4.length = k3.length + 2 := by rw [hk4]; exact List.length_append
        have jk4 : ∀ w, (Op.stringOp .add (bs k3) (⟨#[59, 10]⟩ : ByteArray)).run Tryd.prog w = .ok (.string (bs k4)) w := fun w => by rw [hk4]; exact add_big k3 ([59, 10] : Str) (by first | omega | (simp; omega)) w
        have HZ2 := Lib.hid (show k4 = txSs d (l.take (q + 1)) by
          rw [HUP.out, txS, if_neg (by decide), if_pos rfl]
          unfold lineT
          rw [← HAH.out, ← ht, hk4, hk3, hk2, hk1, hc1]
          simp only [List.append_assoc, List.cons_append, List.nil_append, List.append_nil])
        clear HUP hc1 lc1 hk1 lk1 hk2 lk2 hk3 lk3 hk4 lk4
        have HTE := fun (W : World) (h : Below w.heap.size w W) => rtextAt_any e 1 W S ex (HWS.out.below h) he (by omega) (hex.below h)
        rw [← ht] at HTE
        obtain ⟨ek, en, es, em, ea, eo⟩ := e
        obtain ⟨EA, ena, eca, EO, eno, eco, rfl, -, -⟩ := hex.open_
        obtain ⟨e0, e1, e2, e3, e4, e5, e6, e7, e8, e9, e10⟩ := stC_at hrow2
        obtain ⟨W1, hW1⟩ : ∃ W1 : World, W1 = wv.alloc (.cells #[.int .i64 1, .string (bs s), .int .i64 0, .int .i64 ek, .int .i64 en, .string (bs es), .string (bs em), .slice EA ena eca, .slice EO eno eco, .slice B nb cb, .slice L nl cl] 85) := ⟨_, rfl⟩
        have hb1 : Below w.heap.size w W1 := by rw [hW1]; exact zr.b.alloc zr.b.size _
        have HG1 := Lib.hid (show ∀ W, Bz W1 W → Below w.heap.size w W from fun W h => hb1.trans (h.b.mono hb1.size))
        have HQ := Lib.hid (show ∀ W, Bz W1 W → (W.cell? ⟨wv.heap.size, 0, none⟩ = some (.int .i64 1) ∧ W.cell? ⟨wv.heap.size, 1, none⟩ = some (.string (bs s)) ∧ W.cell? ⟨wv.heap.size, 2, none⟩ = some (.int .i64 0) ∧ W.cell? ⟨wv.heap.size, 3, none⟩ = some (.int .i64 ek) ∧ W.cell? ⟨wv.heap.size, 4, none⟩ = some (.int .i64 en) ∧ W.cell? ⟨wv.heap.size, 5, none⟩ = some (.string (bs es)) ∧ W.cell? ⟨wv.heap.size, 6, none⟩ = some (.string (bs em)) ∧ W.cell? ⟨wv.heap.size, 7, none⟩ = some (.slice EA ena eca) ∧ W.cell? ⟨wv.heap.size, 8, none⟩ = some (.slice EO eno eco) ∧ W.cell? ⟨wv.heap.size, 9, none⟩ = some (.slice B nb cb) ∧ W.cell? ⟨wv.heap.size, 10, none⟩ = some (.slice L nl cl)) from fun W h => by
          have hn : W1.heap[wv.heap.size]? = some (.cells #[.int .i64 1, .string (bs s), .int .i64 0, .int .i64 ek, .int .i64 en, .string (bs es), .string (bs em), .slice EA ena eca, .slice EO eno eco, .slice B nb cb, .slice L nl cl] 85 (0, 0)) := by rw [hW1]; exact heap_alloc_new wv _
          exact st_cells ((h.b.block _ (lt_of_block hn)).trans hn))
        have HTE := fun (W : World) (h : Bz W1 W) => HTE W (HG1.out W h)
        have HTX := Lib.hid (show ∀ W, Bz W1 W → Calls Tryd.prog 46 #[.agg #[.int .i64 ek, .int .i64 en, .string (bs es), .string (bs em), .slice EA ena eca, .slice EO eno eco]] W fun e' w' => e' = .returned (.string (bs t)) ∧ Below W.heap.size W w' from fun W h => HTE W h)
        clear HTE
        clear hrow hrow2 hex hB hLl hb1 hib hxs hcx hx hb0 hS hmem hl hs hsl he ht htl n1 lZ
        have z1 : Bz W1 W1 := ⟨Below.refl _ _⟩
        go_upto_region 6 with fail
        rw [← hW1]
        clear hW1 e0 e1 e2 e3 e4 e5 e6 e7 e8 e9 e10
        obtain ⟨g0, g1, g2, g3, g4, g5, g6, g7, g8, g9, g10⟩ := HQ.out _ z1
        go_upto_region 12 with fail
        have zd := z1.drew
        clear g0 g1 g2 g3 g4 g5 g6 g7 g8 g9 g10
        refine wp_region_held_drew (S := fun W => (W.cell? ⟨wv.heap.size, 0, none⟩ = some (.int .i64 1) ∧ W.cell? ⟨wv.heap.size, 1, none⟩ = some (.string (bs s)) ∧ W.cell? ⟨wv.heap.size, 2, none⟩ = some (.int .i64 0) ∧ W.cell? ⟨wv.heap.size, 3, none⟩ = some (.int .i64 ek) ∧ W.cell? ⟨wv.heap.size, 4, none⟩ = some (.int .i64 en) ∧ W.cell? ⟨wv.heap.size, 5, none⟩ = some (.string (bs es)) ∧ W.cell? ⟨wv.heap.size, 6, none⟩ = some (.string (bs em)) ∧ W.cell? ⟨wv.heap.size, 7, none⟩ = some (.slice EA ena eca) ∧ W.cell? ⟨wv.heap.size, 8, none⟩ = some (.slice EO eno eco) ∧ W.cell? ⟨wv.heap.size, 9, none⟩ = some (.slice B nb cb) ∧ W.cell? ⟨wv.heap.size, 10, none⟩ = some (.slice L nl cl))) (by kernel_rfl) (HQ.out _ zd) (fun hHeld => ?_)
        refine wpAnyH_take (i := 0) (oi := ⟨some 45, _, _, _, _, _⟩) (v := .string (bs c1)) rfl (by kernel_rfl) (by kernel_rfl) (by kernel_rfl) (fun _ _ _ h => h) (Or.inl ⟨by rfl, ?_⟩) hHeld ?_
        · intro W hW
          obtain ⟨h0, h1, h2, h3, h4, h5, h6, h7, h8, h9, h10⟩ := hW
          go_simp
        try simp only [Act.put, List.setIfInBounds_toArray, List.set_cons_zero, List.set_cons_succ]
        refine wpAnyH_take (i := 1) (oi := ⟨some 46, _, _, _, _, _⟩) (v := .pointer (some ⟨wv.heap.size, 1, none⟩)) rfl (by kernel_rfl) (by kernel_rfl) (by kernel_rfl) (fun _ _ _ h => h) (Or.inl ⟨by rfl, ?_⟩) hHeld ?_
        · intro W hW
          obtain ⟨h0, h1, h2, h3, h4, h5, h6, h7, h8, h9, h10⟩ := hW
          go_simp
        try simp only [Act.put, List.setIfInBounds_toArray, List.set_cons_zero, List.set_cons_succ]
        refine wpAnyH_take (i := 2) (oi := ⟨some 47, _, _, _, _, _⟩) (v := .string (bs s)) rfl (by kernel_rfl) (by kernel_rfl) (by kernel_rfl) (fun _ _ _ h => h) (Or.inl ⟨by rfl, ?_⟩) hHeld ?_
        · intro W hW
          obtain ⟨h0, h1, h2, h3, h4, h5, h6, h7, h8, h9, h10⟩ := hW
          go_simp
        try simp only [Act.put, List.setIfInBounds_toArray, List.set_cons_zero, List.set_cons_succ]
        refine wpAnyH_take (i := 3) (oi := ⟨some 48, _, _, _, _, _⟩) (v := .string (bs k1)) rfl (by kernel_rfl) (by kernel_rfl) (by kernel_rfl) (fun _ _ _ h => h) (Or.inl ⟨by rfl, ?_⟩) hHeld ?_
        · intro W hW
          obtain ⟨h0, h1, h2, h3, h4, h5, h6, h7, h8, h9, h10⟩ := hW
          go_simp
        try simp only [Act.put, List.setIfInBounds_toArray, List.set_cons_zero, List.set_cons_succ]
        refine wpAnyH_take (i := 4) (oi := ⟨some 49, _, _, _, _, _⟩) (v := .string (bs k2)) rfl (by kernel_rfl) (by kernel_rfl) (by kernel_rfl) (fun _ _ _ h => h) (Or.inl ⟨by rfl, ?_⟩) hHeld ?_
        · intro W hW
          obtain ⟨h0, h1, h2, h3, h4, h5, h6, h7, h8, h9, h10⟩ := hW
          go_simp
        try simp only [Act.put, List.setIfInBounds_toArray, List.set_cons_zero, List.set_cons_succ]
        refine wpAnyH_take (i := 5) (oi := ⟨some 50, _, _, _, _, _⟩) (v := .pointer (some ⟨wv.heap.size, 3, none⟩)) rfl (by kernel_rfl) (by kernel_rfl) (by kernel_rfl) (fun _ _ _ h => h) (Or.inl ⟨by rfl, ?_⟩) hHeld ?_
        · intro W hW
          obtain ⟨h0, h1, h2, h3, h4, h5, h6, h7, h8, h9, h10⟩ := hW
          go_simp
        try simp only [Act.put, List.setIfInBounds_toArray, List.set_cons_zero, List.set_cons_succ]
        refine wpAnyH_take (i := 6) (oi := ⟨some 51, _, _, _, _, _⟩) (v := .agg #[.int .i64 ek, .int .i64 en, .string (bs es), .string (bs em), .slice EA ena eca, .slice EO eno eco]) rfl (by kernel_rfl) (by kernel_rfl) (by kernel_rfl) (fun _ _ _ h => h) (Or.inl ⟨by rfl, ?_⟩) hHeld ?_
        · intro W hW
          obtain ⟨h0, h1, h2, h3, h4, h5, h6, h7, h8, h9, h10⟩ := hW
          go_simp
        try simp only [Act.put, List.setIfInBounds_toArray, List.set_cons_zero, List.set_cons_succ]
        refine wpAnyH_ready (rs := [7]) (by kernel_rfl) (by simp) ?_
        refine AllReadyH.cons (o := ⟨some 52, _, _, _, _, _⟩) rfl (fun K hK => ?_) AllReadyH.nil
        refine Eq.mpr (if_pos (by kernel_rfl)) ?_
        go_simp
        refine (HTX.out _ zd).mono ?_
        rintro e wx ⟨rfl, hbx⟩
        have zx := zd.next hbx
        refine hK.out _ _ (HQ.out _ zx) (fun hHeld2 => ?_)
        clear hK
        try simp only [Act.put, List.setIfInBounds_toArray, List.set_cons_zero, List.set_cons_succ]
        refine wpAnyH_take (i := 8) (oi := ⟨some 53, _, _, _, _, _⟩) (v := .string (bs k3)) rfl (by kernel_rfl) (by kernel_rfl) (by kernel_rfl) (fun _ _ _ h => h) (Or.inl ⟨by rfl, ?_⟩) hHeld2 ?_
        · intro W hW
          obtain ⟨h0, h1, h2, h3, h4, h5, h6, h7, h8, h9, h10⟩ := hW
          go_simp
        try simp only [Act.put, List.setIfInBounds_toArray, List.set_cons_zero, List.set_cons_succ]
        refine wpAnyH_take (i := 9) (oi := ⟨some 54, _, _, _, _, _⟩) (v := .string (bs k4)) rfl (by kernel_rfl) (by kernel_rfl) (by kernel_rfl) (fun _ _ _ h => h) (Or.inl ⟨by rfl, ?_⟩) hHeld2 ?_
        · intro W hW
          obtain ⟨h0, h1, h2, h3, h4, h5, h6, h7, h8, h9, h10⟩ := hW
          go_simp
        try simp only [Act.put, List.setIfInBounds_toArray, List.set_cons_zero, List.set_cons_succ]
        refine wpAnyH_take (i := 10) (oi := ⟨some 5, _, _, _, _, _⟩) (v := .string (bs k4)) rfl (by kernel_rfl) (by kernel_rfl) (by kernel_rfl) (fun _ _ _ h => h) (Or.inl ⟨by rfl, ?_⟩) hHeld2 ?_
        · intro W hW
          obtain ⟨h0, h1, h2, h3, h4, h5, h6, h7, h8, h9, h10⟩ := hW
          go_simp
        try simp only [Act.put, List.setIfInBounds_toArray, List.set_cons_zero, List.set_cons_succ]
        refine wpAnyH_done (by kernel_rfl) ?_ _
        clear hHeld hHeld2
        go_wp2
        go_roundw
        case rel => exact ⟨q + 1, k4, HQL.out, rfl, by go_num, HZ2, ⟨HG1.out _ zx⟩⟩
        case measure => exact meas_up _ _ HQL.out
      · skip
        obtain ⟨ex, B, nb, cb, L, nl, cl, rfl, hex, hB, hLl⟩ := hxv.open_
        have hnr := hxv.num
        rw [St.size] at hxs
        obtain ⟨t, ht⟩ : ∃ t, t = txE e := ⟨_, rfl⟩
        have htl : t.length ≤ 13000000 := by
          have := txE_len e 1 he hex.wd
          rw [ht]; omega
        obtain ⟨c1, hc1⟩ : ∃ c, c = Z ++ ah := ⟨_, rfl⟩
        have lc1 : c1.length = Z.length + ah.length := by rw [hc1]; exact List.length_append
        have jc1 : ∀ w, (Op.stringOp .add (bs Z) (bs ah)).run Tryd.prog w = .ok (.string (bs c1)) w := fun w => by rw [hc1]; exact add_big Z ah (by first | omega | (simp; omega)) w
        obtain ⟨k1, hk1⟩ : ∃ c, c = c1 ++ t := ⟨_, rfl⟩
        have lk1 : k1.length = c1.length + t.length := by rw [hk1]; exact List.length_append
        have jk1 : ∀ w, (Op.stringOp .add (bs c1) (bs t)).run Tryd.prog w = .ok (.string (bs k1)) w := fun w => by rw [hk1]; exact add_big c1 t (by first | omega | (simp; omega)) w
        obtain ⟨k2, hk2⟩ : ∃ c, c = k1 ++ ([59, 10] : Str) := ⟨_, rfl⟩
        have lk2 : k2.length = k1.length + 2 := by rw [hk2]; exact List.length_append
        have jk2 : ∀ w, (Op.stringOp .add (bs k1) (⟨#[59, 10]⟩ : ByteArray)).run Tryd.prog w = .ok (.string (bs k2)) w := fun w => by rw [hk2]; exact add_big k1 ([59, 10] : Str) (by first | omega | (simp; omega)) w
        have HZ2 := Lib.hid (show k2 = txSs d (l.take (q + 1)) by
          rw [HUP.out, txS, if_neg (by decide), if_neg (by decide), if_pos rfl]
          unfold lineT
          rw [← HAH.out, ← ht, hk2, hk1, hc1]
          simp only [List.append_assoc, List.cons_append, List.nil_append, List.append_nil])
        clear HUP hc1 lc1 hk1 lk1 hk2 lk2
        have HTE := fun (W : World) (h : Below w.heap.size w W) => rtextAt_any e 1 W S ex (HWS.out.below h) he (by omega) (hex.below h)
        rw [← ht] at HTE
        obtain ⟨ek, en, es, em, ea, eo⟩ := e
        obtain ⟨EA, ena, eca, EO, eno, eco, rfl, -, -⟩ := hex.open_
        obtain ⟨e0, e1, e2, e3, e4, e5, e6, e7, e8, e9, e10⟩ := stC_at hrow2
        obtain ⟨W1, hW1⟩ : ∃ W1 : World, W1 = wv.alloc (.cells #[.int .i64 2, .string (bs []), .int .i64 0, .int .i64 ek, .int .i64 en, .string (bs es), .string (bs em), .slice EA ena eca, .slice EO eno eco, .slice B nb cb, .slice L nl cl] 85) := ⟨_, rfl⟩
        have hb1 : Below w.heap.size w W1 := by rw [hW1]; exact zr.b.alloc zr.b.size _
        have HG1 := Lib.hid (show ∀ W, Bz W1 W → Below w.heap.size w W from fun W h => hb1.trans (h.b.mono hb1.size))
        have HQ := Lib.hid (show ∀ W, Bz W1 W → (W.cell? ⟨wv.heap.size, 0, none⟩ = some (.int .i64 2) ∧ W.cell? ⟨wv.heap.size, 1, none⟩ = some (.string (bs [])) ∧ W.cell? ⟨wv.heap.size, 2, none⟩ = some (.int .i64 0) ∧ W.cell? ⟨wv.heap.size, 3, none⟩ = some (.int .i64 ek) ∧ W.cell? ⟨wv.heap.size, 4, none⟩ = some (.int .i64 en) ∧ W.cell? ⟨wv.heap.size, 5, none⟩ = some (.string (bs es)) ∧ W.cell? ⟨wv.heap.size, 6, none⟩ = some (.string (bs em)) ∧ W.cell? ⟨wv.heap.size, 7, none⟩ = some (.slice EA ena eca) ∧ W.cell? ⟨wv.heap.size, 8, none⟩ = some (.slice EO eno eco) ∧ W.cell? ⟨wv.heap.size, 9, none⟩ = some (.slice B nb cb) ∧ W.cell? ⟨wv.heap.size, 10, none⟩ = some (.slice L nl cl)) from fun W h => by
          have hn : W1.heap[wv.heap.size]? = some (.cells #[.int .i64 2, .string (bs []), .int .i64 0, .int .i64 ek, .int .i64 en, .string (bs es), .string (bs em), .slice EA ena eca, .slice EO eno eco, .slice B nb cb, .slice L nl cl] 85 (0, 0)) := by rw [hW1]; exact heap_alloc_new wv _
          exact st_cells ((h.b.block _ (lt_of_block hn)).trans hn))
        have HTE := fun (W : World) (h : Bz W1 W) => HTE W (HG1.out W h)
        have HTX := Lib.hid (show ∀ W, Bz W1 W → Calls Tryd.prog 46 #[.agg #[.int .i64 ek, .int .i64 en, .string (bs es), .string (bs em), .slice EA ena eca, .slice EO eno eco]] W fun e' w' => e' = .returned (.string (bs t)) ∧ Below W.heap.size W w' from fun W h => HTE W h)
        clear HTE
        clear hrow hrow2 hex hB hLl hb1 hib hxs hcx hx hb0 hS hmem hl hk he ht htl n1 lZ
        have z1 : Bz W1 W1 := ⟨Below.refl _ _⟩
        go_upto_region 6 with fail
        rw [← hW1]
        clear hW1 e0 e1 e2 e3 e4 e5 e6 e7 e8 e9 e10
        obtain ⟨g0, g1, g2, g3, g4, g5, g6, g7, g8, g9, g10⟩ := HQ.out _ z1
        go_wp2_with fail
        refine (HTX.out _ z1).mono ?_
        rintro e wx ⟨rfl, hbx⟩
        have zx := z1.next hbx
        clear hbx
        clear g0 g1 g2 g3 g4 g5 g6 g7 g8 g9 g10
        go_wp2
        go_roundw
        case rel => exact ⟨q + 1, k2, HQL.out, rfl, by go_num, HZ2, ⟨HG1.out _ zx⟩⟩
        case measure => exact meas_up _ _ HQL.out
      · by_cases hl0 : ll = []
        · subst hl0
          obtain ⟨ex, B, nb, cb, L, nl, cl, rfl, hex, hB, hLl⟩ := hxv.open_
          have hnr := hxv.num
          rw [St.size] at hxs
          obtain ⟨t, ht⟩ : ∃ t, t = txE e := ⟨_, rfl⟩
          have htl : t.length ≤ 13000000 := by
            have := txE_len e 1 he hex.wd
            rw [ht]; omega
          obtain ⟨v, hv⟩ : ∃ v, v = txSs (d + 1) bb := ⟨_, rfl⟩
          have hvl : v.length ≤ 30000000 := by
            have := txSs_len (d := d + 1) (l := bb) fun y hy => txS_len y (d + 1) (by have := chkSs_all hb y hy; rwa [hD] at this) (St.Wds_mem hB.wds y hy)
            rw [hv]; omega
          obtain ⟨c1, hc1⟩ : ∃ c, c = Z ++ ah := ⟨_, rfl⟩
          have lc1 : c1.length = Z.length + ah.length := by rw [hc1]; exact List.length_append
          have jc1 : ∀ w, (Op.stringOp .add (bs Z) (bs ah)).run Tryd.prog w = .ok (.string (bs c1)) w := fun w => by rw [hc1]; exact add_big Z ah (by first | omega | (simp; omega)) w
          obtain ⟨a1, ha1⟩ : ∃ c, c = ah ++ ([32, 32] : Str) := ⟨_, rfl⟩
          have la1 : a1.length = ah.length + 2 := by rw [ha1]; exact List.length_append
          have ja1 : ∀ w, (Op.stringOp .add (bs ah) (⟨#[32, 32]⟩ : ByteArray)).run Tryd.prog w = .ok (.string (bs a1)) w := fun w => by rw [ha1]; exact add_big ah ([32, 32] : Str) (by first | omega | (simp; omega)) w
          obtain ⟨k1, hk1⟩ : ∃ c, c = c1 ++ ([105, 102, 32] : Str) := ⟨_, rfl⟩
          have lk1 : k1.length = c1.length + 3 := by rw [hk1]; exact List.length_append
          have jk1 : ∀ w, (Op.stringOp .add (bs c1) (⟨#[105, 102, 32]⟩ : ByteArray)).run Tryd.prog w = .ok (.string (bs k1)) w := fun w => by rw [hk1]; exact add_big c1 ([105, 102, 32] : Str) (by first | omega | (simp; omega)) w
          obtain ⟨k2, hk2⟩ : ∃ c, c = k1 ++ t := ⟨_, rfl⟩
          have lk2 : k2.length = k1.length + t.length := by rw [hk2]; exact List.length_append
          have jk2 : ∀ w, (Op.stringOp .add (bs k1) (bs t)).run Tryd.prog w = .ok (.string (bs k2)) w := fun w => by rw [hk2]; exact add_big k1 t (by first | omega | (simp; omega)) w
          obtain ⟨k3, hk3⟩ : ∃ c, c = k2 ++ ([32, 123, 10] : Str) := ⟨_, rfl⟩
          have lk3 : k3.length = k2.length + 3 := by rw [hk3]; exact List.length_append
          have jk3 : ∀ w, (Op.stringOp .add (bs k2) (⟨#[32, 123, 10]⟩ : ByteArray)).run Tryd.prog w = .ok (.string (bs k3)) w := fun w => by rw [hk3]; exact add_big k2 ([32, 123, 10] : Str) (by first | omega | (simp; omega)) w
          obtain ⟨k4, hk4⟩ : ∃ c, c = k3 ++ v := ⟨_, rfl⟩
          have lk4 : k4.length = k3.length + v.length := by rw [hk4]; exact List.length_append
          have jk4 : ∀ w, (Op.stringOp .add (bs k3) (bs v)).run Tryd.prog w = .ok (.string (bs k4)) w := fun w => by rw [hk4]; exact add_big k3 v (by first | omega | (simp; omega)) w
          obtain ⟨k5, hk5⟩ : ∃ c, c = k4 ++ ah := ⟨_, rfl⟩
          have lk5 : k5.length = k4.length + ah.length := by rw [hk5]; exact List.length_append
          have jk5 : ∀ w, (Op.stringOp .add (bs k4) (bs ah)).run Tryd.prog w = .ok (.string (bs k5)) w := fun w => by rw [hk5]; exact add_big k4 ah (by first | omega | (simp; omega)) w
          obtain ⟨k6, hk6⟩ : ∃ c, c = k5 ++ ([125, 10] : Str) := ⟨_, rfl⟩
          have lk6 : k6.length = k5.length + 2 := by rw [hk6]; exact List.length_append
          have jk6 : ∀ w, (Op.stringOp .add (bs k5) (⟨#[125, 10]⟩ : ByteArray)).run Tryd.prog w = .ok (.string (bs k6)) w := fun w => by rw [hk6]; exact add_big k5 ([125, 10] : Str) (by first | omega | (simp; omega)) w
          have HZ2 := Lib.hid (show k6 = txSs d (l.take (q + 1)) by
            rw [HUP.out, txS, if_neg (by decide), if_neg (by decide), if_neg (by decide), if_neg (by decide), if_neg (by decide), if_neg (by decide), if_pos (show ([] : List St).length = 0 from rfl)]
            unfold lineT
            rw [← HAH.out, ← ht, ← hv, hk6, hk5, hk4, hk3, hk2, hk1, hc1]
            simp only [List.append_assoc, List.cons_append, List.nil_append, List.append_nil])
          have HA := Lib.hid (show a1 = Lib.repeatL [32, 32] (d + 1) by rw [ha1, HAH.out, Lib.repeatL_add, Lib.repeatL_one])
          clear HUP hc1 lc1 ha1 la1 hk1 lk1 hk2 lk2 hk3 lk3 hk4 lk4 hk5 lk5 hk6 lk6
          have HTE := fun (W : World) (h : Below w.heap.size w W) => rtextAt_any e 1 W S ex (HWS.out.below h) he (by omega) (hex.below h)
          rw [← ht] at HTE
          obtain ⟨ek, en, es, em, ea, eo⟩ := e
          obtain ⟨EA, ena, eca, EO, eno, eco, rfl, -, -⟩ := hex.open_
          obtain ⟨e0, e1, e2, e3, e4, e5, e6, e7, e8, e9, e10⟩ := stC_at hrow2
          obtain ⟨W1, hW1⟩ : ∃ W1 : World, W1 = wv.alloc (.cells #[.int .i64 3, .string (bs []), .int .i64 0, .int .i64 ek, .int .i64 en, .string (bs es), .string (bs em), .slice EA ena eca, .slice EO eno eco, .slice B nb cb, .slice L nl cl] 85) := ⟨_, rfl⟩
          have hb1 : Below w.heap.size w W1 := by rw [hW1]; exact zr.b.alloc zr.b.size _
          have HG1 := Lib.hid (show ∀ W, Bz W1 W → Below w.heap.size w W from fun W h => hb1.trans (h.b.mono hb1.size))
          have HQ := Lib.hid (show ∀ W, Bz W1 W → (W.cell? ⟨wv.heap.size, 0, none⟩ = some (.int .i64 3) ∧ W.cell? ⟨wv.heap.size, 1, none⟩ = some (.string (bs [])) ∧ W.cell? ⟨wv.heap.size, 2, none⟩ = some (.int .i64 0) ∧ W.cell? ⟨wv.heap.size, 3, none⟩ = some (.int .i64 ek) ∧ W.cell? ⟨wv.heap.size, 4, none⟩ = some (.int .i64 en) ∧ W.cell? ⟨wv.heap.size, 5, none⟩ = some (.string (bs es)) ∧ W.cell? ⟨wv.heap.size, 6, none⟩ = some (.string (bs em)) ∧ W.cell? ⟨wv.heap.size, 7, none⟩ = some (.slice EA ena eca) ∧ W.cell? ⟨wv.heap.size, 8, none⟩ = some (.slice EO eno eco) ∧ W.cell? ⟨wv.heap.size, 9, none⟩ = some (.slice B nb cb) ∧ W.cell? ⟨wv.heap.size, 10, none⟩ = some (.slice L nl cl)) from fun W h => by
            have hn : W1.heap[wv.heap.size]? = some (.cells #[.int .i64 3, .string (bs []), .int .i64 0, .int .i64 ek, .int .i64 en, .string (bs es), .string (bs em), .slice EA ena eca, .slice EO eno eco, .slice B nb cb, .slice L nl cl] 85 (0, 0)) := by rw [hW1]; exact heap_alloc_new wv _
            exact st_cells ((h.b.block _ (lt_of_block hn)).trans hn))
          have HTE := fun (W : World) (h : Bz W1 W) => HTE W (HG1.out W h)
          have HTX := Lib.hid (show ∀ W, Bz W1 W → Calls Tryd.prog 46 #[.agg #[.int .i64 ek, .int .i64 en, .string (bs es), .string (bs em), .slice EA ena eca, .slice EO eno eco]] W fun e' w' => e' = .returned (.string (bs t)) ∧ Below W.heap.size W w' from fun W h => HTE W h)
          clear HTE
          have KB := Lib.hid (show ∀ W, Bz W1 W → Calls Tryd.prog 29 #[.slice B nb cb, .string (bs a1)] W fun e' w' => e' = .returned (.string (bs v)) ∧ Below W.heap.size W w' from fun W h => by
            rw [hv, HA.out]
            exact hib.1 (d + 1) (D + 1) W S _ _ _ (by omega) (HWS.out.below (HG1.out W h)) hb (show St.sizes bb ≤ 100000 by omega) ((hB).below (HG1.out W h)))
          have hnl : ¬ (0 : Int) < (nl : Int) := by have : nl = 0 := hLl.1.1; omega
          clear hrow hrow2 hex hB hLl hb1 hib hxs hcx hx hb0 hS hmem hl he hb hv hvl hl2 ht htl n1 lZ
          have z1 : Bz W1 W1 := ⟨Below.refl _ _⟩
          go_upto_region 6 with fail
          rw [← hW1]
          clear hW1 e0 e1 e2 e3 e4 e5 e6 e7 e8 e9 e10
          obtain ⟨g0, g1, g2, g3, g4, g5, g6, g7, g8, g9, g10⟩ := HQ.out _ z1
          go_upto_region 16 with fail
          have zd := z1.drew
          clear g0 g1 g2 g3 g4 g5 g6 g7 g8 g9 g10
          refine wp_region_held_drew (S := fun W => (W.cell? ⟨wv.heap.size, 0, none⟩ = some (.int .i64 3) ∧ W.cell? ⟨wv.heap.size, 1, none⟩ = some (.string (bs [])) ∧ W.cell? ⟨wv.heap.size, 2, none⟩ = some (.int .i64 0) ∧ W.cell? ⟨wv.heap.size, 3, none⟩ = some (.int .i64 ek) ∧ W.cell? ⟨wv.heap.size, 4, none⟩ = some (.int .i64 en) ∧ W.cell? ⟨wv.heap.size, 5, none⟩ = some (.string (bs es)) ∧ W.cell? ⟨wv.heap.size, 6, none⟩ = some (.string (bs em)) ∧ W.cell? ⟨wv.heap.size, 7, none⟩ = some (.slice EA ena eca) ∧ W.cell? ⟨wv.heap.size, 8, none⟩ = some (.slice EO eno eco) ∧ W.cell? ⟨wv.heap.size, 9, none⟩ = some (.slice B nb cb) ∧ W.cell? ⟨wv.heap.size, 10, none⟩ = some (.slice L nl cl))) (by kernel_rfl) (HQ.out _ zd) (fun hHeld => ?_)
          refine wpAnyH_take (i := 0) (oi := ⟨some 65, _, _, _, _, _⟩) (v := .string (bs c1)) rfl (by kernel_rfl) (by kernel_rfl) (by kernel_rfl) (fun _ _ _ h => h) (Or.inl ⟨by rfl, ?_⟩) hHeld ?_
          · intro W hW
            obtain ⟨h0, h1, h2, h3, h4, h5, h6, h7, h8, h9, h10⟩ := hW
            go_simp
          try simp only [Act.put, List.setIfInBounds_toArray, List.set_cons_zero, List.set_cons_succ]
          refine wpAnyH_take (i := 1) (oi := ⟨some 66, _, _, _, _, _⟩) (v := .string (bs k1)) rfl (by kernel_rfl) (by kernel_rfl) (by kernel_rfl) (fun _ _ _ h => h) (Or.inl ⟨by rfl, ?_⟩) hHeld ?_
          · intro W hW
            obtain ⟨h0, h1, h2, h3, h4, h5, h6, h7, h8, h9, h10⟩ := hW
            go_simp
          try simp only [Act.put, List.setIfInBounds_toArray, List.set_cons_zero, List.set_cons_succ]
          refine wpAnyH_take (i := 2) (oi := ⟨some 67, _, _, _, _, _⟩) (v := .pointer (some ⟨wv.heap.size, 3, none⟩)) rfl (by kernel_rfl) (by kernel_rfl) (by kernel_rfl) (fun _ _ _ h => h) (Or.inl ⟨by rfl, ?_⟩) hHeld ?_
          · intro W hW
            obtain ⟨h0, h1, h2, h3, h4, h5, h6, h7, h8, h9, h10⟩ := hW
            go_simp
          try simp only [Act.put, List.setIfInBounds_toArray, List.set_cons_zero, List.set_cons_succ]
          refine wpAnyH_take (i := 3) (oi := ⟨some 68, _, _, _, _, _⟩) (v := .agg #[.int .i64 ek, .int .i64 en, .string (bs es), .string (bs em), .slice EA ena eca, .slice EO eno eco]) rfl (by kernel_rfl) (by kernel_rfl) (by kernel_rfl) (fun _ _ _ h => h) (Or.inl ⟨by rfl, ?_⟩) hHeld ?_
          · intro W hW
            obtain ⟨h0, h1, h2, h3, h4, h5, h6, h7, h8, h9, h10⟩ := hW
            go_simp
          try simp only [Act.put, List.setIfInBounds_toArray, List.set_cons_zero, List.set_cons_succ]
          refine wpAnyH_take (i := 7) (oi := ⟨some 72, _, _, _, _, _⟩) (v := .pointer (some ⟨wv.heap.size, 9, none⟩)) rfl (by kernel_rfl) (by kernel_rfl) (by kernel_rfl) (fun _ _ _ h => h) (Or.inl ⟨by rfl, ?_⟩) hHeld ?_
          · intro W hW
            obtain ⟨h0, h1, h2, h3, h4, h5, h6, h7, h8, h9, h10⟩ := hW
            go_simp
          try simp only [Act.put, List.setIfInBounds_toArray, List.set_cons_zero, List.set_cons_succ]
          refine wpAnyH_take (i := 8) (oi := ⟨some 73, _, _, _, _, _⟩) (v := .slice B nb cb) rfl (by kernel_rfl) (by kernel_rfl) (by kernel_rfl) (fun _ _ _ h => h) (Or.inl ⟨by rfl, ?_⟩) hHeld ?_
          · intro W hW
            obtain ⟨h0, h1, h2, h3, h4, h5, h6, h7, h8, h9, h10⟩ := hW
            go_simp
          try simp only [Act.put, List.setIfInBounds_toArray, List.set_cons_zero, List.set_cons_succ]
          refine wpAnyH_take (i := 9) (oi := ⟨some 74, _, _, _, _, _⟩) (v := .string (bs ah)) rfl (by kernel_rfl) (by kernel_rfl) (by kernel_rfl) (fun _ _ _ h => h) (Or.inl ⟨by rfl, ?_⟩) hHeld ?_
          · intro W hW
            obtain ⟨h0, h1, h2, h3, h4, h5, h6, h7, h8, h9, h10⟩ := hW
            go_simp
          try simp only [Act.put, List.setIfInBounds_toArray, List.set_cons_zero, List.set_cons_succ]
          refine wpAnyH_take (i := 10) (oi := ⟨some 75, _, _, _, _, _⟩) (v := .string (bs a1)) rfl (by kernel_rfl) (by kernel_rfl) (by kernel_rfl) (fun _ _ _ h => h) (Or.inl ⟨by rfl, ?_⟩) hHeld ?_
          · intro W hW
            obtain ⟨h0, h1, h2, h3, h4, h5, h6, h7, h8, h9, h10⟩ := hW
            go_simp
          try simp only [Act.put, List.setIfInBounds_toArray, List.set_cons_zero, List.set_cons_succ]
          refine wpAnyH_take (i := 13) (oi := ⟨some 78, _, _, _, _, _⟩) (v := .string (bs ah)) rfl (by kernel_rfl) (by kernel_rfl) (by kernel_rfl) (fun _ _ _ h => h) (Or.inl ⟨by rfl, ?_⟩) hHeld ?_
          · intro W hW
            obtain ⟨h0, h1, h2, h3, h4, h5, h6, h7, h8, h9, h10⟩ := hW
            go_simp
          try simp only [Act.put, List.setIfInBounds_toArray, List.set_cons_zero, List.set_cons_succ]
          refine wpAnyH_ready (rs := [4]) (by kernel_rfl) (by simp) ?_
          refine AllReadyH.cons (o := ⟨some 69, _, _, _, _, _⟩) rfl (fun K hK => ?_) AllReadyH.nil
          refine Eq.mpr (if_pos (by kernel_rfl)) ?_
          go_simp
          refine (HTX.out _ zd).mono ?_
          rintro e wx ⟨rfl, hbx⟩
          have zx := zd.next hbx
          refine hK.out _ _ (HQ.out _ zx) (fun hHeld2 => ?_)
          clear hK
          try simp only [Act.put, List.setIfInBounds_toArray, List.set_cons_zero, List.set_cons_succ]
          refine wpAnyH_take (i := 5) (oi := ⟨some 70, _, _, _, _, _⟩) (v := .string (bs k2)) rfl (by kernel_rfl) (by kernel_rfl) (by kernel_rfl) (fun _ _ _ h => h) (Or.inl ⟨by rfl, ?_⟩) hHeld2 ?_
          · intro W hW
            obtain ⟨h0, h1, h2, h3, h4, h5, h6, h7, h8, h9, h10⟩ := hW
            go_simp
          try simp only [Act.put, List.setIfInBounds_toArray, List.set_cons_zero, List.set_cons_succ]
          refine wpAnyH_take (i := 6) (oi := ⟨some 71, _, _, _, _, _⟩) (v := .string (bs k3)) rfl (by kernel_rfl) (by kernel_rfl) (by kernel_rfl) (fun _ _ _ h => h) (Or.inl ⟨by rfl, ?_⟩) hHeld2 ?_
          · intro W hW
            obtain ⟨h0, h1, h2, h3, h4, h5, h6, h7, h8, h9, h10⟩ := hW
            go_simp
          try simp only [Act.put, List.setIfInBounds_toArray, List.set_cons_zero, List.set_cons_succ]
          refine wpAnyH_ready (rs := [11]) (by kernel_rfl) (by simp) ?_
          refine AllReadyH.cons (o := ⟨some 76, _, _, _, _, _⟩) rfl (fun K hK => ?_) AllReadyH.nil
          refine Eq.mpr (if_pos (by kernel_rfl)) ?_
          go_simp
          refine (KB.out _ zx).mono ?_
          rintro e wy ⟨rfl, hby⟩
          have zy := zx.next hby
          refine hK.out _ _ (HQ.out _ zy) (fun hHeld3 => ?_)
          clear hK
          try simp only [Act.put, List.setIfInBounds_toArray, List.set_cons_zero, List.set_cons_succ]
          refine wpAnyH_take (i := 12) (oi := ⟨some 77, _, _, _, _, _⟩) (v := .string (bs k4)) rfl (by kernel_rfl) (by kernel_rfl) (by kernel_rfl) (fun _ _ _ h => h) (Or.inl ⟨by rfl, ?_⟩) hHeld3 ?_
          · intro W hW
            obtain ⟨h0, h1, h2, h3, h4, h5, h6, h7, h8, h9, h10⟩ := hW
            go_simp
          try simp only [Act.put, List.setIfInBounds_toArray, List.set_cons_zero, List.set_cons_succ]
          refine wpAnyH_take (i := 14) (oi := ⟨some 79, _, _, _, _, _⟩) (v := .string (bs k5)) rfl (by kernel_rfl) (by kernel_rfl) (by kernel_rfl) (fun _ _ _ h => h) (Or.inl ⟨by rfl, ?_⟩) hHeld3 ?_
          · intro W hW
            obtain ⟨h0, h1, h2, h3, h4, h5, h6, h7, h8, h9, h10⟩ := hW
            go_simp
          try simp only [Act.put, List.setIfInBounds_toArray, List.set_cons_zero, List.set_cons_succ]
          refine wpAnyH_take (i := 15) (oi := ⟨some 5, _, _, _, _, _⟩) (v := .string (bs k5)) rfl (by kernel_rfl) (by kernel_rfl) (by kernel_rfl) (fun _ _ _ h => h) (Or.inl ⟨by rfl, ?_⟩) hHeld3 ?_
          · intro W hW
            obtain ⟨h0, h1, h2, h3, h4, h5, h6, h7, h8, h9, h10⟩ := hW
            go_simp
          try simp only [Act.put, List.setIfInBounds_toArray, List.set_cons_zero, List.set_cons_succ]
          refine wpAnyH_done (by kernel_rfl) ?_ _
          clear hHeld hHeld2 hHeld3
          obtain ⟨g0, g1, g2, g3, g4, g5, g6, g7, g8, g9, g10⟩ := HQ.out _ zy
          go_wp2
          go_roundw
          case rel => exact ⟨q + 1, k6, HQL.out, rfl, by go_num, HZ2, ⟨HG1.out _ zy⟩⟩
          case measure => exact meas_up _ _ HQL.out
        · have hl0 : ¬ ll.length = 0 := fun h => hl0 (List.eq_nil_of_length_eq_zero h)
          obtain ⟨ex, B, nb, cb, L, nl, cl, rfl, hex, hB, hLl⟩ := hxv.open_
          have hnr := hxv.num
          rw [St.size] at hxs
          obtain ⟨t, ht⟩ : ∃ t, t = txE e := ⟨_, rfl⟩
          have htl : t.length ≤ 13000000 := by
            have := txE_len e 1 he hex.wd
            rw [ht]; omega
          obtain ⟨v, hv⟩ : ∃ v, v = txSs (d + 1) bb := ⟨_, rfl⟩
          have hvl : v.length ≤ 30000000 := by
            have := txSs_len (d := d + 1) (l := bb) fun y hy => txS_len y (d + 1) (by have := chkSs_all hb y hy; rwa [hD] at this) (St.Wds_mem hB.wds y hy)
            rw [hv]; omega
          obtain ⟨v2, hv2⟩ : ∃ v, v = txSs (d + 1) ll := ⟨_, rfl⟩
          have hvl2 : v2.length ≤ 30000000 := by
            have := txSs_len (d := d + 1) (l := ll) fun y hy => txS_len y (d + 1) (by have := chkSs_all hl2 y hy; rwa [hD] at this) (St.Wds_mem hLl.wds y hy)
            rw [hv2]; omega
          obtain ⟨c1, hc1⟩ : ∃ c, c = Z ++ ah := ⟨_, rfl⟩
          have lc1 : c1.length = Z.length + ah.length := by rw [hc1]; exact List.length_append
          have jc1 : ∀ w, (Op.stringOp .add (bs Z) (bs ah)).run Tryd.prog w = .ok (.string (bs c1)) w := fun w => by rw [hc1]; exact add_big Z ah (by first | omega | (simp; omega)) w
          obtain ⟨a1, ha1⟩ : ∃ c, c = ah ++ ([32, 32] : Str) := ⟨_, rfl⟩
          have la1 : a1.length = ah.length + 2 := by rw [ha1]; exact List.length_append
          have ja1 : ∀ w, (Op.stringOp .add (bs ah) (⟨#[32, 32]⟩ : ByteArray)).run Tryd.prog w = .ok (.string (bs a1)) w := fun w => by rw [ha1]; exact add_big ah ([32, 32] : Str) (by first | omega | (simp; omega)) w
          obtain ⟨k1, hk1⟩ : ∃ c, c = c1 ++ ([105, 102, 32] : Str) := ⟨_, rfl⟩
          have lk1 : k1.length = c1.length + 3 := by rw [hk1]; exact List.length_append
          have jk1 : ∀ w, (Op.stringOp .add (bs c1) (⟨#[105, 102, 32]⟩ : ByteArray)).run Tryd.prog w = .ok (.string (bs k1)) w := fun w => by rw [hk1]; exact add_big c1 ([105, 102, 32] : Str) (by first | omega | (simp; omega)) w
          obtain ⟨k2, hk2⟩ : ∃ c, c = k1 ++ t := ⟨_, rfl⟩
          have lk2 : k2.length = k1.length + t.length := by rw [hk2]; exact List.length_append
          have jk2 : ∀ w, (Op.stringOp .add (bs k1) (bs t)).run Tryd.prog w = .ok (.string (bs k2)) w := fun w => by rw [hk2]; exact add_big k1 t (by first | omega | (simp; omega)) w
          obtain ⟨k3, hk3⟩ : ∃ c, c = k2 ++ ([32, 123, 10] : Str) := ⟨_, rfl⟩
          have lk3 : k3.length = k2.length + 3 := by rw [hk3]; exact List.length_append
          have jk3 : ∀ w, (Op.stringOp .add (bs k2) (⟨#[32, 123, 10]⟩ : ByteArray)).run Tryd.prog w = .ok (.string (bs k3)) w := fun w => by rw [hk3]; exact add_big k2 ([32, 123, 10] : Str) (by first | omega | (simp; omega)) w
          obtain ⟨k4, hk4⟩ : ∃ c, c = k3 ++ v := ⟨_, rfl⟩
          have lk4 : k4.length = k3.length + v.length := by rw [hk4]; exact List.length_append
          have jk4 : ∀ w, (Op.stringOp .add (bs k3) (bs v)).run Tryd.prog w = .ok (.string (bs k4)) w := fun w => by rw [hk4]; exact add_big k3 v (by first | omega | (simp; omega)) w
          obtain ⟨k5, hk5⟩ : ∃ c, c = k4 ++ ah := ⟨_, rfl⟩
          have lk5 : k5.length = k4.length + ah.length := by rw [hk5]; exact List.length_append
          have jk5 : ∀ w, (Op.stringOp .add (bs k4) (bs ah)).run Tryd.prog w = .ok (.string (bs k5)) w := fun w => by rw [hk5]; exact add_big k4 ah (by first | omega | (simp; omega)) w
          obtain ⟨k6, hk6⟩ : ∃ c, c = k5 ++ ([125, 32, 101, 108, 115, 101, 32, 123, 10] : Str) := ⟨_, rfl⟩
          have lk6 : k6.length = k5.length + 9 := by rw [hk6]; exact List.length_append
          have jk6 : ∀ w, (Op.stringOp .add (bs k5) (⟨#[125, 32, 101, 108, 115, 101, 32, 123, 10]⟩ : ByteArray)).run Tryd.prog w = .ok (.string (bs k6)) w := fun w => by rw [hk6]; exact add_big k5 ([125, 32, 101, 108, 115, 101, 32, 123, 10] : Str) (by first | omega | (simp; omega)) w
          obtain ⟨k7, hk7⟩ : ∃ c, c = k6 ++ v2 := ⟨_, rfl⟩
          have lk7 : k7.length = k6.length + v2.length := by rw [hk7]; exact List.length_append
          have jk7 : ∀ w, (Op.stringOp .add (bs k6) (bs v2)).run Tryd.prog w = .ok (.string (bs k7)) w := fun w => by rw [hk7]; exact add_big k6 v2 (by first | omega | (simp; omega)) w
          obtain ⟨k8, hk8⟩ : ∃ c, c = k7 ++ ah := ⟨_, rfl⟩
          have lk8 : k8.length = k7.length + ah.length := by rw [hk8]; exact List.length_append
          have jk8 : ∀ w, (Op.stringOp .add (bs k7) (bs ah)).run Tryd.prog w = .ok (.string (bs k8)) w := fun w => by rw [hk8]; exact add_big k7 ah (by first | omega | (simp; omega)) w
          obtain ⟨k9, hk9⟩ : ∃ c, c = k8 ++ ([125, 10] : Str) := ⟨_, rfl⟩
          have lk9 : k9.length = k8.length + 2 := by rw [hk9]; exact List.length_append
          have jk9 : ∀ w, (Op.stringOp .add (bs k8) (⟨#[125, 10]⟩ : ByteArray)).run Tryd.prog w = .ok (.string (bs k9)) w := fun w => by rw [hk9]; exact add_big k8 ([125, 10] : Str) (by first | omega | (simp; omega)) w
          have HZ2 := Lib.hid (show k9 = txSs d (l.take (q + 1)) by
            rw [HUP.out, txS, if_neg (by decide), if_neg (by decide), if_neg (by decide), if_neg (by decide), if_neg (by decide), if_neg (by decide), if_neg hl0]
            unfold lineT
            rw [← HAH.out, ← ht, ← hv, ← hv2, hk9, hk8, hk7, hk6, hk5, hk4, hk3, hk2, hk1, hc1]
            simp only [List.append_assoc, List.cons_append, List.nil_append, List.append_nil])
          have HA := Lib.hid (show a1 = Lib.repeatL [32, 32] (d + 1) by rw [ha1, HAH.out, Lib.repeatL_add, Lib.repeatL_one])
          clear HUP hc1 lc1 ha1 la1 hk1 lk1 hk2 lk2 hk3 lk3 hk4 lk4 hk5 lk5 hk6 lk6 hk7 lk7 hk8 lk8 hk9 lk9
          have HTE := fun (W : World) (h : Below w.heap.size w W) => rtextAt_any e 1 W S ex (HWS.out.below h) he (by omega) (hex.below h)
          rw [← ht] at HTE
          obtain ⟨ek, en, es, em, ea, eo⟩ := e
          obtain ⟨EA, ena, eca, EO, eno, eco, rfl, -, -⟩ := hex.open_
          obtain ⟨e0, e1, e2, e3, e4, e5, e6, e7, e8, e9, e10⟩ := stC_at hrow2
          obtain ⟨W1, hW1⟩ : ∃ W1 : World, W1 = wv.alloc (.cells #[.int .i64 3, .string (bs []), .int .i64 0, .int .i64 ek, .int .i64 en, .string (bs es), .string (bs em), .slice EA ena eca, .slice EO eno eco, .slice B nb cb, .slice L nl cl] 85) := ⟨_, rfl⟩
          have hb1 : Below w.heap.size w W1 := by rw [hW1]; exact zr.b.alloc zr.b.size _
          have HG1 := Lib.hid (show ∀ W, Bz W1 W → Below w.heap.size w W from fun W h => hb1.trans (h.b.mono hb1.size))
          have HQ := Lib.hid (show ∀ W, Bz W1 W → (W.cell? ⟨wv.heap.size, 0, none⟩ = some (.int .i64 3) ∧ W.cell? ⟨wv.heap.size, 1, none⟩ = some (.string (bs [])) ∧ W.cell? ⟨wv.heap.size, 2, none⟩ = some (.int .i64 0) ∧ W.cell? ⟨wv.heap.size, 3, none⟩ = some (.int .i64 ek) ∧ W.cell? ⟨wv.heap.size, 4, none⟩ = some (.int .i64 en) ∧ W.cell? ⟨wv.heap.size, 5, none⟩ = some (.string (bs es)) ∧ W.cell? ⟨wv.heap.size, 6, none⟩ = some (.string (bs em)) ∧ W.cell? ⟨wv.heap.size, 7, none⟩ = some (.slice EA ena eca) ∧ W.cell? ⟨wv.heap.size, 8, none⟩ = some (.slice EO eno eco) ∧ W.cell? ⟨wv.heap.size, 9, none⟩ = some (.slice B nb cb) ∧ W.cell? ⟨wv.heap.size, 10, none⟩ = some (.slice L nl cl)) from fun W h => by
            have hn : W1.heap[wv.heap.size]? = some (.cells #[.int .i64 3, .string (bs []), .int .i64 0, .int .i64 ek, .int .i64 en, .string (bs es), .string (bs em), .slice EA ena eca, .slice EO eno eco, .slice B nb cb, .slice L nl cl] 85 (0, 0)) := by rw [hW1]; exact heap_alloc_new wv _
            exact st_cells ((h.b.block _ (lt_of_block hn)).trans hn))
          have HTE := fun (W : World) (h : Bz W1 W) => HTE W (HG1.out W h)
          have HTX := Lib.hid (show ∀ W, Bz W1 W → Calls Tryd.prog 46 #[.agg #[.int .i64 ek, .int .i64 en, .string (bs es), .string (bs em), .slice EA ena eca, .slice EO eno eco]] W fun e' w' => e' = .returned (.string (bs t)) ∧ Below W.heap.size W w' from fun W h => HTE W h)
          clear HTE
          have KB := Lib.hid (show ∀ W, Bz W1 W → Calls Tryd.prog 29 #[.slice B nb cb, .string (bs a1)] W fun e' w' => e' = .returned (.string (bs v)) ∧ Below W.heap.size W w' from fun W h => by
            rw [hv, HA.out]
            exact hib.1 (d + 1) (D + 1) W S _ _ _ (by omega) (HWS.out.below (HG1.out W h)) hb (show St.sizes bb ≤ 100000 by omega) ((hB).below (HG1.out W h)))
          have KL := Lib.hid (show ∀ W, Bz W1 W → Calls Tryd.prog 29 #[.slice L nl cl, .string (bs a1)] W fun e' w' => e' = .returned (.string (bs v2)) ∧ Below W.heap.size W w' from fun W h => by
            rw [hv2, HA.out]
            exact hib.2 (d + 1) (D + 1) W S _ _ _ (by omega) (HWS.out.below (HG1.out W h)) hl2 (show St.sizes ll ≤ 100000 by omega) ((hLl).below (HG1.out W h)))
          have hnl : (0 : Int) < (nl : Int) := by have := hLl.1.1; have : ll.length ≠ 0 := hl0; omega
          clear hrow hrow2 hex hB hLl hb1 hib hxs hcx hx hb0 hS hmem hl he hb hv hvl hl2 hv2 hvl2 ht htl n1 lZ
          have z1 : Bz W1 W1 := ⟨Below.refl _ _⟩
          go_upto_region 6 with fail
          rw [← hW1]
          clear hW1 e0 e1 e2 e3 e4 e5 e6 e7 e8 e9 e10
          obtain ⟨g0, g1, g2, g3, g4, g5, g6, g7, g8, g9, g10⟩ := HQ.out _ z1
          go_upto_region 16 with fail
          have zd := z1.drew
          clear g0 g1 g2 g3 g4 g5 g6 g7 g8 g9 g10
          refine wp_region_held_drew (S := fun W => (W.cell? ⟨wv.heap.size, 0, none⟩ = some (.int .i64 3) ∧ W.cell? ⟨wv.heap.size, 1, none⟩ = some (.string (bs [])) ∧ W.cell? ⟨wv.heap.size, 2, none⟩ = some (.int .i64 0) ∧ W.cell? ⟨wv.heap.size, 3, none⟩ = some (.int .i64 ek) ∧ W.cell? ⟨wv.heap.size, 4, none⟩ = some (.int .i64 en) ∧ W.cell? ⟨wv.heap.size, 5, none⟩ = some (.string (bs es)) ∧ W.cell? ⟨wv.heap.size, 6, none⟩ = some (.string (bs em)) ∧ W.cell? ⟨wv.heap.size, 7, none⟩ = some (.slice EA ena eca) ∧ W.cell? ⟨wv.heap.size, 8, none⟩ = some (.slice EO eno eco) ∧ W.cell? ⟨wv.heap.size, 9, none⟩ = some (.slice B nb cb) ∧ W.cell? ⟨wv.heap.size, 10, none⟩ = some (.slice L nl cl))) (by kernel_rfl) (HQ.out _ zd) (fun hHeld => ?_)
          refine wpAnyH_take (i := 0) (oi := ⟨some 65, _, _, _, _, _⟩) (v := .string (bs c1)) rfl (by kernel_rfl) (by kernel_rfl) (by kernel_rfl) (fun _ _ _ h => h) (Or.inl ⟨by rfl, ?_⟩) hHeld ?_
          · intro W hW
            obtain ⟨h0, h1, h2, h3, h4, h5, h6, h7, h8, h9, h10⟩ := hW
            go_simp
          try simp only [Act.put, List.setIfInBounds_toArray, List.set_cons_zero, List.set_cons_succ]
          refine wpAnyH_take (i := 1) (oi := ⟨some 66, _, _, _, _, _⟩) (v := .string (bs k1)) rfl (by kernel_rfl) (by kernel_rfl) (by kernel_rfl) (fun _ _ _ h => h) (Or.inl ⟨by rfl, ?_⟩) hHeld ?_
          · intro W hW
            obtain ⟨h0, h1, h2, h3, h4, h5, h6, h7, h8, h9, h10⟩ := hW
            go_simp
          try simp only [Act.put, List.setIfInBounds_toArray, List.set_cons_zero, List.set_cons_succ]
          refine wpAnyH_take (i := 2) (oi := ⟨some 67, _, _, _, _, _⟩) (v := .pointer (some ⟨wv.heap.size, 3, none⟩)) rfl (by kernel_rfl) (by kernel_rfl) (by kernel_rfl) (fun _ _ _ h => h) (Or.inl ⟨by rfl, ?_⟩) hHeld ?_
          · intro W hW
            obtain ⟨h0, h1, h2, h3, h4, h5, h6, h7, h8, h9, h10⟩ := hW
            go_simp
          try simp only [Act.put, List.setIfInBounds_toArray, List.set_cons_zero, List.set_cons_succ]
          refine wpAnyH_take (i := 3) (oi := ⟨some 68, _, _, _, _, _⟩) (v := .agg #[.int .i64 ek, .int .i64 en, .string (bs es), .string (bs em), .slice EA ena eca, .slice EO eno eco]) rfl (by kernel_rfl) (by kernel_rfl) (by kernel_rfl) (fun _ _ _ h => h) (Or.inl ⟨by rfl, ?_⟩) hHeld ?_
          · intro W hW
            obtain ⟨h0, h1, h2, h3, h4, h5, h6, h7, h8, h9, h10⟩ := hW
            go_simp
          try simp only [Act.put, List.setIfInBounds_toArray, List.set_cons_zero, List.set_cons_succ]
          refine wpAnyH_take (i := 7) (oi := ⟨some 72, _, _, _, _, _⟩) (v := .pointer (some ⟨wv.heap.size, 9, none⟩)) rfl (by kernel_rfl) (by kernel_rfl) (by kernel_rfl) (fun _ _ _ h => h) (Or.inl ⟨by rfl, ?_⟩) hHeld ?_
          · intro W hW
            obtain ⟨h0, h1, h2, h3, h4, h5, h6, h7, h8, h9, h10⟩ := hW
            go_simp
          try simp only [Act.put, List.setIfInBounds_toArray, List.set_cons_zero, List.set_cons_succ]
          refine wpAnyH_take (i := 8) (oi := ⟨some 73, _, _, _, _, _⟩) (v := .slice B nb cb) rfl (by kernel_rfl) (by kernel_rfl) (by kernel_rfl) (fun _ _ _ h => h) (Or.inl ⟨by rfl, ?_⟩) hHeld ?_
          · intro W hW
            obtain ⟨h0, h1, h2, h3, h4, h5, h6, h7, h8, h9, h10⟩ := hW
            go_simp
          try simp only [Act.put, List.setIfInBounds_toArray, List.set_cons_zero, List.set_cons_succ]
          refine wpAnyH_take (i := 9) (oi := ⟨some 74, _, _, _, _, _⟩) (v := .string (bs ah)) rfl (by kernel_rfl) (by kernel_rfl) (by kernel_rfl) (fun _ _ _ h => h) (Or.inl ⟨by rfl, ?_⟩) hHeld ?_
          · intro W hW
            obtain ⟨h0, h1, h2, h3, h4, h5, h6, h7, h8, h9, h10⟩ := hW
            go_simp
          try simp only [Act.put, List.setIfInBounds_toArray, List.set_cons_zero, List.set_cons_succ]
          refine wpAnyH_take (i := 10) (oi := ⟨some 75, _, _, _, _, _⟩) (v := .string (bs a1)) rfl (by kernel_rfl) (by kernel_rfl) (by kernel_rfl) (fun _ _ _ h => h) (Or.inl ⟨by rfl, ?_⟩) hHeld ?_
          · intro W hW
            obtain ⟨h0, h1, h2, h3, h4, h5, h6, h7, h8, h9, h10⟩ := hW
            go_simp
          try simp only [Act.put, List.setIfInBounds_toArray, List.set_cons_zero, List.set_cons_succ]
          refine wpAnyH_take (i := 13) (oi := ⟨some 78, _, _, _, _, _⟩) (v := .string (bs ah)) rfl (by kernel_rfl) (by kernel_rfl) (by kernel_rfl) (fun _ _ _ h => h) (Or.inl ⟨by rfl, ?_⟩) hHeld ?_
          · intro W hW
            obtain ⟨h0, h1, h2, h3, h4, h5, h6, h7, h8, h9, h10⟩ := hW
            go_simp
          try simp only [Act.put, List.setIfInBounds_toArray, List.set_cons_zero, List.set_cons_succ]
          refine wpAnyH_ready (rs := [4]) (by kernel_rfl) (by simp) ?_
          refine AllReadyH.cons (o := ⟨some 69, _, _, _, _, _⟩) rfl (fun K hK => ?_) AllReadyH.nil
          refine Eq.mpr (if_pos (by kernel_rfl)) ?_
          go_simp
          refine (HTX.out _ zd).mono ?_
          rintro e wx ⟨rfl, hbx⟩
          have zx := zd.next hbx
          refine hK.out _ _ (HQ.out _ zx) (fun hHeld2 => ?_)
          clear hK
          try simp only [Act.put, List.setIfInBounds_toArray, List.set_cons_zero, List.set_cons_succ]
          refine wpAnyH_take (i := 5) (oi := ⟨some 70, _, _, _, _, _⟩) (v := .string (bs k2)) rfl (by kernel_rfl) (by kernel_rfl) (by kernel_rfl) (fun _ _ _ h => h) (Or.inl ⟨by rfl, ?_⟩) hHeld2 ?_
          · intro W hW
            obtain ⟨h0, h1, h2, h3, h4, h5, h6, h7, h8, h9, h10⟩ := hW
            go_simp
          try simp only [Act.put, List.setIfInBounds_toArray, List.set_cons_zero, List.set_cons_succ]
          refine wpAnyH_take (i := 6) (oi := ⟨some 71, _, _, _, _, _⟩) (v := .string (bs k3)) rfl (by kernel_rfl) (by kernel_rfl) (by kernel_rfl) (fun _ _ _ h => h) (Or.inl ⟨by rfl, ?_⟩) hHeld2 ?_
          · intro W hW
            obtain ⟨h0, h1, h2, h3, h4, h5, h6, h7, h8, h9, h10⟩ := hW
            go_simp
          try simp only [Act.put, List.setIfInBounds_toArray, List.set_cons_zero, List.set_cons_succ]
          refine wpAnyH_ready (rs := [11]) (by kernel_rfl) (by simp) ?_
          refine AllReadyH.cons (o := ⟨some 76, _, _, _, _, _⟩) rfl (fun K hK => ?_) AllReadyH.nil
          refine Eq.mpr (if_pos (by kernel_rfl)) ?_
          go_simp
          refine (KB.out _ zx).mono ?_
          rintro e wy ⟨rfl, hby⟩
          have zy := zx.next hby
          refine hK.out _ _ (HQ.out _ zy) (fun hHeld3 => ?_)
          clear hK
          try simp only [Act.put, List.setIfInBounds_toArray, List.set_cons_zero, List.set_cons_succ]
          refine wpAnyH_take (i := 12) (oi := ⟨some 77, _, _, _, _, _⟩) (v := .string (bs k4)) rfl (by kernel_rfl) (by kernel_rfl) (by kernel_rfl) (fun _ _ _ h => h) (Or.inl ⟨by rfl, ?_⟩) hHeld3 ?_
          · intro W hW
            obtain ⟨h0, h1, h2, h3, h4, h5, h6, h7, h8, h9, h10⟩ := hW
            go_simp
          try simp only [Act.put, List.setIfInBounds_toArray, List.set_cons_zero, List.set_cons_succ]
          refine wpAnyH_take (i := 14) (oi := ⟨some 79, _, _, _, _, _⟩) (v := .string (bs k5)) rfl (by kernel_rfl) (by kernel_rfl) (by kernel_rfl) (fun _ _ _ h => h) (Or.inl ⟨by rfl, ?_⟩) hHeld3 ?_
          · intro W hW
            obtain ⟨h0, h1, h2, h3, h4, h5, h6, h7, h8, h9, h10⟩ := hW
            go_simp
          try simp only [Act.put, List.setIfInBounds_toArray, List.set_cons_zero, List.set_cons_succ]
          refine wpAnyH_take (i := 15) (oi := ⟨some 5, _, _, _, _, _⟩) (v := .string (bs k5)) rfl (by kernel_rfl) (by kernel_rfl) (by kernel_rfl) (fun _ _ _ h => h) (Or.inl ⟨by rfl, ?_⟩) hHeld3 ?_
          · intro W hW
            obtain ⟨h0, h1, h2, h3, h4, h5, h6, h7, h8, h9, h10⟩ := hW
            go_simp
          try simp only [Act.put, List.setIfInBounds_toArray, List.set_cons_zero, List.set_cons_succ]
          refine wpAnyH_done (by kernel_rfl) ?_ _
          clear hHeld hHeld2 hHeld3
          obtain ⟨g0, g1, g2, g3, g4, g5, g6, g7, g8, g9, g10⟩ := HQ.out _ zy
          go_wp2_with fail
          refine (KL.out _ zy).mono ?_
          rintro e wz ⟨rfl, hbz⟩
          have zz := zy.next hbz
          clear hbz
          clear g0 g1 g2 g3 g4 g5 g6 g7 g8 g9 g10
          go_wp2
          go_roundw
          case rel => exact ⟨q + 1, k9, HQL.out, rfl, by go_num, HZ2, ⟨HG1.out _ zz⟩⟩
          case measure => exact meas_up _ _ HQL.out
      · skip
        obtain ⟨ex, B, nb, cb, L, nl, cl, rfl, hex, hB, hLl⟩ := hxv.open_
        have hnr := hxv.num
        rw [St.size] at hxs
        obtain ⟨t, ht⟩ : ∃ t, t = Lib.itoa n := ⟨_, rfl⟩
        have htl : t.length ≤ 21 := by rw [ht]; exact Lib.itoa_length_le n hnr.1 hnr.2
        obtain ⟨v, hv⟩ : ∃ v, v = txSs (d + 1) bb := ⟨_, rfl⟩
        have hvl : v.length ≤ 30000000 := by
          have := txSs_len (d := d + 1) (l := bb) fun y hy => txS_len y (d + 1) (by have := chkSs_all hb y hy; rwa [hD] at this) (St.Wds_mem hB.wds y hy)
          rw [hv]; omega
        obtain ⟨c1, hc1⟩ : ∃ c, c = Z ++ ah := ⟨_, rfl⟩
        have lc1 : c1.length = Z.length + ah.length := by rw [hc1]; exact List.length_append
        have jc1 : ∀ w, (Op.stringOp .add (bs Z) (bs ah)).run Tryd.prog w = .ok (.string (bs c1)) w := fun w => by rw [hc1]; exact add_big Z ah (by first | omega | (simp; omega)) w
        obtain ⟨a1, ha1⟩ : ∃ c, c = ah ++ ([32, 32] : Str) := ⟨_, rfl⟩
        have la1 : a1.length = ah.length + 2 := by rw [ha1]; exact List.length_append
        have ja1 : ∀ w, (Op.stringOp .add (bs ah) (⟨#[32, 32]⟩ : ByteArray)).run Tryd.prog w = .ok (.string (bs a1)) w := fun w => by rw [ha1]; exact add_big ah ([32, 32] : Str) (by first | omega | (simp; omega)) w
        obtain ⟨k1, hk1⟩ : ∃ c, c = c1 ++ ([114, 101, 112, 101, 97, 116, 32] : Str) := ⟨_, rfl⟩
        have lk1 : k1.length = c1.length + 7 := by rw [hk1]; exact List.length_append
        have jk1 : ∀ w, (Op.stringOp .add (bs c1) (⟨#[114, 101, 112, 101, 97, 116, 32]⟩ : ByteArray)).run Tryd.prog w = .ok (.string (bs k1)) w := fun w => by rw [hk1]; exact add_big c1 ([114, 101, 112, 101, 97, 116, 32] : Str) (by first | omega | (simp; omega)) w
        obtain ⟨k2, hk2⟩ : ∃ c, c = k1 ++ t := ⟨_, rfl⟩
        have lk2 : k2.length = k1.length + t.length := by rw [hk2]; exact List.length_append
        have jk2 : ∀ w, (Op.stringOp .add (bs k1) (bs t)).run Tryd.prog w = .ok (.string (bs k2)) w := fun w => by rw [hk2]; exact add_big k1 t (by first | omega | (simp; omega)) w
        obtain ⟨k3, hk3⟩ : ∃ c, c = k2 ++ ([32, 123, 10] : Str) := ⟨_, rfl⟩
        have lk3 : k3.length = k2.length + 3 := by rw [hk3]; exact List.length_append
        have jk3 : ∀ w, (Op.stringOp .add (bs k2) (⟨#[32, 123, 10]⟩ : ByteArray)).run Tryd.prog w = .ok (.string (bs k3)) w := fun w => by rw [hk3]; exact add_big k2 ([32, 123, 10] : Str) (by first | omega | (simp; omega)) w
        obtain ⟨k4, hk4⟩ : ∃ c, c = k3 ++ v := ⟨_, rfl⟩
        have lk4 : k4.length = k3.length + v.length := by rw [hk4]; exact List.length_append
        have jk4 : ∀ w, (Op.stringOp .add (bs k3) (bs v)).run Tryd.prog w = .ok (.string (bs k4)) w := fun w => by rw [hk4]; exact add_big k3 v (by first | omega | (simp; omega)) w
        obtain ⟨k5, hk5⟩ : ∃ c, c = k4 ++ ah := ⟨_, rfl⟩
        have lk5 : k5.length = k4.length + ah.length := by rw [hk5]; exact List.length_append
        have jk5 : ∀ w, (Op.stringOp .add (bs k4) (bs ah)).run Tryd.prog w = .ok (.string (bs k5)) w := fun w => by rw [hk5]; exact add_big k4 ah (by first | omega | (simp; omega)) w
        obtain ⟨k6, hk6⟩ : ∃ c, c = k5 ++ ([125, 10] : Str) := ⟨_, rfl⟩
        have lk6 : k6.length = k5.length + 2 := by rw [hk6]; exact List.length_append
        have jk6 : ∀ w, (Op.stringOp .add (bs k5) (⟨#[125, 10]⟩ : ByteArray)).run Tryd.prog w = .ok (.string (bs k6)) w := fun w => by rw [hk6]; exact add_big k5 ([125, 10] : Str) (by first | omega | (simp; omega)) w
        have HZ2 := Lib.hid (show k6 = txSs d (l.take (q + 1)) by
          rw [HUP.out, txS, if_neg (by decide), if_neg (by decide), if_neg (by decide), if_neg (by decide), if_neg (by decide), if_pos rfl]
          unfold lineT
          rw [← HAH.out, ← ht, ← hv, hk6, hk5, hk4, hk3, hk2, hk1, hc1]
          simp only [List.append_assoc, List.cons_append, List.nil_append, List.append_nil])
        have HA := Lib.hid (show a1 = Lib.repeatL [32, 32] (d + 1) by rw [ha1, HAH.out, Lib.repeatL_add, Lib.repeatL_one])
        clear HUP hc1 lc1 ha1 la1 hk1 lk1 hk2 lk2 hk3 lk3 hk4 lk4 hk5 lk5 hk6 lk6
        obtain ⟨EA, ena, eca, EO, eno, eco, rfl, -, -⟩ := hex.open_
        obtain ⟨e0, e1, e2, e3, e4, e5, e6, e7, e8, e9, e10⟩ := stC_at hrow2
        obtain ⟨W1, hW1⟩ : ∃ W1 : World, W1 = wv.alloc (.cells #[.int .i64 4, .string (bs []), .int .i64 n, .int .i64 0, .int .i64 0, .string (bs []), .string (bs []), .slice EA ena eca, .slice EO eno eco, .slice B nb cb, .slice L nl cl] 85) := ⟨_, rfl⟩
        have hb1 : Below w.heap.size w W1 := by rw [hW1]; exact zr.b.alloc zr.b.size _
        have HG1 := Lib.hid (show ∀ W, Bz W1 W → Below w.heap.size w W from fun W h => hb1.trans (h.b.mono hb1.size))
        have HQ := Lib.hid (show ∀ W, Bz W1 W → (W.cell? ⟨wv.heap.size, 0, none⟩ = some (.int .i64 4) ∧ W.cell? ⟨wv.heap.size, 1, none⟩ = some (.string (bs [])) ∧ W.cell? ⟨wv.heap.size, 2, none⟩ = some (.int .i64 n) ∧ W.cell? ⟨wv.heap.size, 3, none⟩ = some (.int .i64 0) ∧ W.cell? ⟨wv.heap.size, 4, none⟩ = some (.int .i64 0) ∧ W.cell? ⟨wv.heap.size, 5, none⟩ = some (.string (bs [])) ∧ W.cell? ⟨wv.heap.size, 6, none⟩ = some (.string (bs [])) ∧ W.cell? ⟨wv.heap.size, 7, none⟩ = some (.slice EA ena eca) ∧ W.cell? ⟨wv.heap.size, 8, none⟩ = some (.slice EO eno eco) ∧ W.cell? ⟨wv.heap.size, 9, none⟩ = some (.slice B nb cb) ∧ W.cell? ⟨wv.heap.size, 10, none⟩ = some (.slice L nl cl)) from fun W h => by
          have hn : W1.heap[wv.heap.size]? = some (.cells #[.int .i64 4, .string (bs []), .int .i64 n, .int .i64 0, .int .i64 0, .string (bs []), .string (bs []), .slice EA ena eca, .slice EO eno eco, .slice B nb cb, .slice L nl cl] 85 (0, 0)) := by rw [hW1]; exact heap_alloc_new wv _
          exact st_cells ((h.b.block _ (lt_of_block hn)).trans hn))
        have HTN := Lib.hid (show ∀ W, Calls Tryd.prog 47 #[.int .i64 n] W fun e' w' => e' = .returned (.string (bs t)) ∧ Below W.heap.size W w' from fun W => by rw [ht]; exact number_any n h0 hnr.2 W)
        have KB := Lib.hid (show ∀ W, Bz W1 W → Calls Tryd.prog 29 #[.slice B nb cb, .string (bs a1)] W fun e' w' => e' = .returned (.string (bs v)) ∧ Below W.heap.size W w' from fun W h => by
          rw [hv, HA.out]
          exact hib.1 (d + 1) (D + 1) W S _ _ _ (by omega) (HWS.out.below (HG1.out W h)) hb (show St.sizes bb ≤ 100000 by omega) ((hB).below (HG1.out W h)))
        clear hrow hrow2 hex hB hLl hb1 hib hxs hcx hx hb0 hS hmem hl hb hv hvl h0 h1 hnr ht htl n1 lZ
        have z1 : Bz W1 W1 := ⟨Below.refl _ _⟩
        go_upto_region 6 with fail
        rw [← hW1]
        clear hW1 e0 e1 e2 e3 e4 e5 e6 e7 e8 e9 e10
        obtain ⟨g0, g1, g2, g3, g4, g5, g6, g7, g8, g9, g10⟩ := HQ.out _ z1
        go_upto_region 21 with fail
        have zd := z1.drew
        clear g0 g1 g2 g3 g4 g5 g6 g7 g8 g9 g10
        refine wp_region_held_drew (S := fun W => (W.cell? ⟨wv.heap.size, 0, none⟩ = some (.int .i64 4) ∧ W.cell? ⟨wv.heap.size, 1, none⟩ = some (.string (bs [])) ∧ W.cell? ⟨wv.heap.size, 2, none⟩ = some (.int .i64 n) ∧ W.cell? ⟨wv.heap.size, 3, none⟩ = some (.int .i64 0) ∧ W.cell? ⟨wv.heap.size, 4, none⟩ = some (.int .i64 0) ∧ W.cell? ⟨wv.heap.size, 5, none⟩ = some (.string (bs [])) ∧ W.cell? ⟨wv.heap.size, 6, none⟩ = some (.string (bs [])) ∧ W.cell? ⟨wv.heap.size, 7, none⟩ = some (.slice EA ena eca) ∧ W.cell? ⟨wv.heap.size, 8, none⟩ = some (.slice EO eno eco) ∧ W.cell? ⟨wv.heap.size, 9, none⟩ = some (.slice B nb cb) ∧ W.cell? ⟨wv.heap.size, 10, none⟩ = some (.slice L nl cl))) (by kernel_rfl) (HQ.out _ zd) (fun hHeld => ?_)
        refine wpAnyH_take (i := 0) (oi := ⟨some 98, _, _, _, _, _⟩) (v := .string (bs c1)) rfl (by kernel_rfl) (by kernel_rfl) (by kernel_rfl) (fun _ _ _ h => h) (Or.inl ⟨by rfl, ?_⟩) hHeld ?_
        · intro W hW
          obtain ⟨h0, h1, h2, h3, h4, h5, h6, h7, h8, h9, h10⟩ := hW
          go_simp
        try simp only [Act.put, List.setIfInBounds_toArray, List.set_cons_zero, List.set_cons_succ]
        refine wpAnyH_take (i := 1) (oi := ⟨some 99, _, _, _, _, _⟩) (v := .string (bs k1)) rfl (by kernel_rfl) (by kernel_rfl) (by kernel_rfl) (fun _ _ _ h => h) (Or.inl ⟨by rfl, ?_⟩) hHeld ?_
        · intro W hW
          obtain ⟨h0, h1, h2, h3, h4, h5, h6, h7, h8, h9, h10⟩ := hW
          go_simp
        try simp only [Act.put, List.setIfInBounds_toArray, List.set_cons_zero, List.set_cons_succ]
        refine wpAnyH_take (i := 2) (oi := ⟨some 100, _, _, _, _, _⟩) (v := .pointer (some ⟨wv.heap.size, 2, none⟩)) rfl (by kernel_rfl) (by kernel_rfl) (by kernel_rfl) (fun _ _ _ h => h) (Or.inl ⟨by rfl, ?_⟩) hHeld ?_
        · intro W hW
          obtain ⟨h0, h1, h2, h3, h4, h5, h6, h7, h8, h9, h10⟩ := hW
          go_simp
        try simp only [Act.put, List.setIfInBounds_toArray, List.set_cons_zero, List.set_cons_succ]
        refine wpAnyH_take (i := 3) (oi := ⟨some 101, _, _, _, _, _⟩) (v := .int .i64 n) rfl (by kernel_rfl) (by kernel_rfl) (by kernel_rfl) (fun _ _ _ h => h) (Or.inl ⟨by rfl, ?_⟩) hHeld ?_
        · intro W hW
          obtain ⟨h0, h1, h2, h3, h4, h5, h6, h7, h8, h9, h10⟩ := hW
          go_simp
        try simp only [Act.put, List.setIfInBounds_toArray, List.set_cons_zero, List.set_cons_succ]
        refine wpAnyH_take (i := 7) (oi := ⟨some 105, _, _, _, _, _⟩) (v := .pointer (some ⟨wv.heap.size, 9, none⟩)) rfl (by kernel_rfl) (by kernel_rfl) (by kernel_rfl) (fun _ _ _ h => h) (Or.inl ⟨by rfl, ?_⟩) hHeld ?_
        · intro W hW
          obtain ⟨h0, h1, h2, h3, h4, h5, h6, h7, h8, h9, h10⟩ := hW
          go_simp
        try simp only [Act.put, List.setIfInBounds_toArray, List.set_cons_zero, List.set_cons_succ]
        refine wpAnyH_take (i := 8) (oi := ⟨some 106, _, _, _, _, _⟩) (v := .slice B nb cb) rfl (by kernel_rfl) (by kernel_rfl) (by kernel_rfl) (fun _ _ _ h => h) (Or.inl ⟨by rfl, ?_⟩) hHeld ?_
        · intro W hW
          obtain ⟨h0, h1, h2, h3, h4, h5, h6, h7, h8, h9, h10⟩ := hW
          go_simp
        try simp only [Act.put, List.setIfInBounds_toArray, List.set_cons_zero, List.set_cons_succ]
        refine wpAnyH_take (i := 9) (oi := ⟨some 107, _, _, _, _, _⟩) (v := .string (bs ah)) rfl (by kernel_rfl) (by kernel_rfl) (by kernel_rfl) (fun _ _ _ h => h) (Or.inl ⟨by rfl, ?_⟩) hHeld ?_
        · intro W hW
          obtain ⟨h0, h1, h2, h3, h4, h5, h6, h7, h8, h9, h10⟩ := hW
          go_simp
        try simp only [Act.put, List.setIfInBounds_toArray, List.set_cons_zero, List.set_cons_succ]
        refine wpAnyH_take (i := 10) (oi := ⟨some 108, _, _, _, _, _⟩) (v := .string (bs a1)) rfl (by kernel_rfl) (by kernel_rfl) (by kernel_rfl) (fun _ _ _ h => h) (Or.inl ⟨by rfl, ?_⟩) hHeld ?_
        · intro W hW
          obtain ⟨h0, h1, h2, h3, h4, h5, h6, h7, h8, h9, h10⟩ := hW
          go_simp
        try simp only [Act.put, List.setIfInBounds_toArray, List.set_cons_zero, List.set_cons_succ]
        refine wpAnyH_take (i := 13) (oi := ⟨some 111, _, _, _, _, _⟩) (v := .string (bs ah)) rfl (by kernel_rfl) (by kernel_rfl) (by kernel_rfl) (fun _ _ _ h => h) (Or.inl ⟨by rfl, ?_⟩) hHeld ?_
        · intro W hW
          obtain ⟨h0, h1, h2, h3, h4, h5, h6, h7, h8, h9, h10⟩ := hW
          go_simp
        try simp only [Act.put, List.setIfInBounds_toArray, List.set_cons_zero, List.set_cons_succ]
        refine wpAnyH_ready (rs := [4]) (by kernel_rfl) (by simp) ?_
        refine AllReadyH.cons (o := ⟨some 102, _, _, _, _, _⟩) rfl (fun K hK => ?_) AllReadyH.nil
        refine Eq.mpr (if_pos (by kernel_rfl)) ?_
        go_simp
        refine (HTN.out _).mono ?_
        rintro e wx ⟨rfl, hbx⟩
        have zx := zd.next hbx
        refine hK.out _ _ (HQ.out _ zx) (fun hHeld2 => ?_)
        clear hK
        try simp only [Act.put, List.setIfInBounds_toArray, List.set_cons_zero, List.set_cons_succ]
        refine wpAnyH_take (i := 5) (oi := ⟨some 103, _, _, _, _, _⟩) (v := .string (bs k2)) rfl (by kernel_rfl) (by kernel_rfl) (by kernel_rfl) (fun _ _ _ h => h) (Or.inl ⟨by rfl, ?_⟩) hHeld2 ?_
        · intro W hW
          obtain ⟨h0, h1, h2, h3, h4, h5, h6, h7, h8, h9, h10⟩ := hW
          go_simp
        try simp only [Act.put, List.setIfInBounds_toArray, List.set_cons_zero, List.set_cons_succ]
        refine wpAnyH_take (i := 6) (oi := ⟨some 104, _, _, _, _, _⟩) (v := .string (bs k3)) rfl (by kernel_rfl) (by kernel_rfl) (by kernel_rfl) (fun _ _ _ h => h) (Or.inl ⟨by rfl, ?_⟩) hHeld2 ?_
        · intro W hW
          obtain ⟨h0, h1, h2, h3, h4, h5, h6, h7, h8, h9, h10⟩ := hW
          go_simp
        try simp only [Act.put, List.setIfInBounds_toArray, List.set_cons_zero, List.set_cons_succ]
        refine wpAnyH_ready (rs := [11]) (by kernel_rfl) (by simp) ?_
        refine AllReadyH.cons (o := ⟨some 109, _, _, _, _, _⟩) rfl (fun K hK => ?_) AllReadyH.nil
        refine Eq.mpr (if_pos (by kernel_rfl)) ?_
        go_simp
        refine (KB.out _ zx).mono ?_
        rintro e wy ⟨rfl, hby⟩
        have zy := zx.next hby
        refine hK.out _ _ (HQ.out _ zy) (fun hHeld3 => ?_)
        clear hK
        try simp only [Act.put, List.setIfInBounds_toArray, List.set_cons_zero, List.set_cons_succ]
        refine wpAnyH_take (i := 12) (oi := ⟨some 110, _, _, _, _, _⟩) (v := .string (bs k4)) rfl (by kernel_rfl) (by kernel_rfl) (by kernel_rfl) (fun _ _ _ h => h) (Or.inl ⟨by rfl, ?_⟩) hHeld3 ?_
        · intro W hW
          obtain ⟨h0, h1, h2, h3, h4, h5, h6, h7, h8, h9, h10⟩ := hW
          go_simp
        try simp only [Act.put, List.setIfInBounds_toArray, List.set_cons_zero, List.set_cons_succ]
        refine wpAnyH_take (i := 14) (oi := ⟨some 112, _, _, _, _, _⟩) (v := .string (bs k5)) rfl (by kernel_rfl) (by kernel_rfl) (by kernel_rfl) (fun _ _ _ h => h) (Or.inl ⟨by rfl, ?_⟩) hHeld3 ?_
        · intro W hW
          obtain ⟨h0, h1, h2, h3, h4, h5, h6, h7, h8, h9, h10⟩ := hW
          go_simp
        try simp only [Act.put, List.setIfInBounds_toArray, List.set_cons_zero, List.set_cons_succ]
        refine wpAnyH_take (i := 15) (oi := ⟨some 113, _, _, _, _, _⟩) (v := .string (bs k6)) rfl (by kernel_rfl) (by kernel_rfl) (by kernel_rfl) (fun _ _ _ h => h) (Or.inl ⟨by rfl, ?_⟩) hHeld3 ?_
        · intro W hW
          obtain ⟨h0, h1, h2, h3, h4, h5, h6, h7, h8, h9, h10⟩ := hW
          go_simp
        try simp only [Act.put, List.setIfInBounds_toArray, List.set_cons_zero, List.set_cons_succ]
        refine wpAnyH_take (i := 16) (oi := ⟨some 5, _, _, _, _, _⟩) (v := .string (bs k6)) rfl (by kernel_rfl) (by kernel_rfl) (by kernel_rfl) (fun _ _ _ h => h) (Or.inl ⟨by rfl, ?_⟩) hHeld3 ?_
        · intro W hW
          obtain ⟨h0, h1, h2, h3, h4, h5, h6, h7, h8, h9, h10⟩ := hW
          go_simp
        try simp only [Act.put, List.setIfInBounds_toArray, List.set_cons_zero, List.set_cons_succ]
        refine wpAnyH_done (by kernel_rfl) ?_ _
        clear hHeld hHeld2 hHeld3
        go_wp2
        go_roundw
        case rel => exact ⟨q + 1, k6, HQL.out, rfl, by go_num, HZ2, ⟨HG1.out _ zy⟩⟩
        case measure => exact meas_up _ _ HQL.out
      · skip
        obtain ⟨ex, B, nb, cb, L, nl, cl, rfl, hex, hB, hLl⟩ := hxv.open_
        have hnr := hxv.num
        rw [St.size] at hxs
        obtain ⟨t, ht⟩ : ∃ t, t = txE e := ⟨_, rfl⟩
        have htl : t.length ≤ 13000000 := by
          have := txE_len e 1 he hex.wd
          rw [ht]; omega
        obtain ⟨c1, hc1⟩ : ∃ c, c = Z ++ ah := ⟨_, rfl⟩
        have lc1 : c1.length = Z.length + ah.length := by rw [hc1]; exact List.length_append
        have jc1 : ∀ w, (Op.stringOp .add (bs Z) (bs ah)).run Tryd.prog w = .ok (.string (bs c1)) w := fun w => by rw [hc1]; exact add_big Z ah (by first | omega | (simp; omega)) w
        obtain ⟨k1, hk1⟩ : ∃ c, c = c1 ++ ([114, 101, 116, 117, 114, 110, 32] : Str) := ⟨_, rfl⟩
        have lk1 : k1.length = c1.length + 7 := by rw [hk1]; exact List.length_append
        have jk1 : ∀ w, (Op.stringOp .add (bs c1) (⟨#[114, 101, 116, 117, 114, 110, 32]⟩ : ByteArray)).run Tryd.prog w = .ok (.string (bs k1)) w := fun w => by rw [hk1]; exact add_big c1 ([114, 101, 116, 117, 114, 110, 32] : Str) (by first | omega | (simp; omega)) w
        obtain ⟨k2, hk2⟩ : ∃ c, c = k1 ++ t := ⟨_, rfl⟩
        have lk2 : k2.length = k1.length + t.length := by rw [hk2]; exact List.length_append
        have jk2 : ∀ w, (Op.stringOp .add (bs k1) (bs t)).run Tryd.prog w = .ok (.string (bs k2)) w := fun w => by rw [hk2]; exact add_big k1 t (by first | omega | (simp; omega)) w
        obtain ⟨k3, hk3⟩ : ∃ c, c = k2 ++ ([59, 10] : Str) := ⟨_, rfl⟩
        have lk3 : k3.length = k2.length + 2 := by rw [hk3]; exact List.length_append
        have jk3 : ∀ w, (Op.stringOp .add (bs k2) (⟨#[59, 10]⟩ : ByteArray)).run Tryd.prog w = .ok (.string (bs k3)) w := fun w => by rw [hk3]; exact add_big k2 ([59, 10] : Str) (by first | omega | (simp; omega)) w
        have HZ2 := Lib.hid (show k3 = txSs d (l.take (q + 1)) by
          rw [HUP.out, txS, if_neg (by decide), if_neg (by decide), if_neg (by decide), if_pos rfl]
          unfold lineT
          rw [← HAH.out, ← ht, hk3, hk2, hk1, hc1]
          simp only [List.append_assoc, List.cons_append, List.nil_append, List.append_nil])
        clear HUP hc1 lc1 hk1 lk1 hk2 lk2 hk3 lk3
        have HTE := fun (W : World) (h : Below w.heap.size w W) => rtextAt_any e 1 W S ex (HWS.out.below h) he (by omega) (hex.below h)
        rw [← ht] at HTE
        obtain ⟨ek, en, es, em, ea, eo⟩ := e
        obtain ⟨EA, ena, eca, EO, eno, eco, rfl, -, -⟩ := hex.open_
        obtain ⟨e0, e1, e2, e3, e4, e5, e6, e7, e8, e9, e10⟩ := stC_at hrow2
        obtain ⟨W1, hW1⟩ : ∃ W1 : World, W1 = wv.alloc (.cells #[.int .i64 5, .string (bs []), .int .i64 0, .int .i64 ek, .int .i64 en, .string (bs es), .string (bs em), .slice EA ena eca, .slice EO eno eco, .slice B nb cb, .slice L nl cl] 85) := ⟨_, rfl⟩
        have hb1 : Below w.heap.size w W1 := by rw [hW1]; exact zr.b.alloc zr.b.size _
        have HG1 := Lib.hid (show ∀ W, Bz W1 W → Below w.heap.size w W from fun W h => hb1.trans (h.b.mono hb1.size))
        have HQ := Lib.hid (show ∀ W, Bz W1 W → (W.cell? ⟨wv.heap.size, 0, none⟩ = some (.int .i64 5) ∧ W.cell? ⟨wv.heap.size, 1, none⟩ = some (.string (bs [])) ∧ W.cell? ⟨wv.heap.size, 2, none⟩ = some (.int .i64 0) ∧ W.cell? ⟨wv.heap.size, 3, none⟩ = some (.int .i64 ek) ∧ W.cell? ⟨wv.heap.size, 4, none⟩ = some (.int .i64 en) ∧ W.cell? ⟨wv.heap.size, 5, none⟩ = some (.string (bs es)) ∧ W.cell? ⟨wv.heap.size, 6, none⟩ = some (.string (bs em)) ∧ W.cell? ⟨wv.heap.size, 7, none⟩ = some (.slice EA ena eca) ∧ W.cell? ⟨wv.heap.size, 8, none⟩ = some (.slice EO eno eco) ∧ W.cell? ⟨wv.heap.size, 9, none⟩ = some (.slice B nb cb) ∧ W.cell? ⟨wv.heap.size, 10, none⟩ = some (.slice L nl cl)) from fun W h => by
          have hn : W1.heap[wv.heap.size]? = some (.cells #[.int .i64 5, .string (bs []), .int .i64 0, .int .i64 ek, .int .i64 en, .string (bs es), .string (bs em), .slice EA ena eca, .slice EO eno eco, .slice B nb cb, .slice L nl cl] 85 (0, 0)) := by rw [hW1]; exact heap_alloc_new wv _
          exact st_cells ((h.b.block _ (lt_of_block hn)).trans hn))
        have HTE := fun (W : World) (h : Bz W1 W) => HTE W (HG1.out W h)
        have HTX := Lib.hid (show ∀ W, Bz W1 W → Calls Tryd.prog 46 #[.agg #[.int .i64 ek, .int .i64 en, .string (bs es), .string (bs em), .slice EA ena eca, .slice EO eno eco]] W fun e' w' => e' = .returned (.string (bs t)) ∧ Below W.heap.size W w' from fun W h => HTE W h)
        clear HTE
        clear hrow hrow2 hex hB hLl hb1 hib hxs hcx hx hb0 hS hmem hl he ht htl n1 lZ
        have z1 : Bz W1 W1 := ⟨Below.refl _ _⟩
        go_upto_region 6 with fail
        rw [← hW1]
        clear hW1 e0 e1 e2 e3 e4 e5 e6 e7 e8 e9 e10
        obtain ⟨g0, g1, g2, g3, g4, g5, g6, g7, g8, g9, g10⟩ := HQ.out _ z1
        go_wp2_with fail
        refine (HTX.out _ z1).mono ?_
        rintro e wx ⟨rfl, hbx⟩
        have zx := z1.next hbx
        clear hbx
        clear g0 g1 g2 g3 g4 g5 g6 g7 g8 g9 g10
        go_wp2
        go_roundw
        case rel => exact ⟨q + 1, k3, HQL.out, rfl, by go_num, HZ2, ⟨HG1.out _ zx⟩⟩
        case measure => exact meas_up _ _ HQL.out
      · skip
        obtain ⟨ex, B, nb, cb, L, nl, cl, rfl, hex, hB, hLl⟩ := hxv.open_
        have hnr := hxv.num
        rw [St.size] at hxs
        obtain ⟨t, ht⟩ : ∃ t, t = Lib.itoa n := ⟨_, rfl⟩
        have htl : t.length ≤ 21 := by rw [ht]; exact Lib.itoa_length_le n hnr.1 hnr.2
        obtain ⟨c1, hc1⟩ : ∃ c, c = Z ++ ah := ⟨_, rfl⟩
        have lc1 : c1.length = Z.length + ah.length := by rw [hc1]; exact List.length_append
        have jc1 : ∀ w, (Op.stringOp .add (bs Z) (bs ah)).run Tryd.prog w = .ok (.string (bs c1)) w := fun w => by rw [hc1]; exact add_big Z ah (by first | omega | (simp; omega)) w
        obtain ⟨k1, hk1⟩ : ∃ c, c = c1 ++ ([97, 98, 111, 114, 116, 32] : Str) := ⟨_, rfl⟩
        have lk1 : k1.length = c1.length + 6 := by rw [hk1]; exact List.length_append
        have jk1 : ∀ w, (Op.stringOp .add (bs c1) (⟨#[97, 98, 111, 114, 116, 32]⟩ : ByteArray)).run Tryd.prog w = .ok (.string (bs k1)) w := fun w => by rw [hk1]; exact add_big c1 ([97, 98, 111, 114, 116, 32] : Str) (by first | omega | (simp; omega)) w
        obtain ⟨k2, hk2⟩ : ∃ c, c = k1 ++ t := ⟨_, rfl⟩
        have lk2 : k2.length = k1.length + t.length := by rw [hk2]; exact List.length_append
        have jk2 : ∀ w, (Op.stringOp .add (bs k1) (bs t)).run Tryd.prog w = .ok (.string (bs k2)) w := fun w => by rw [hk2]; exact add_big k1 t (by first | omega | (simp; omega)) w
        obtain ⟨k3, hk3⟩ : ∃ c, c = k2 ++ ([59, 10] : Str) := ⟨_, rfl⟩
        have lk3 : k3.length = k2.length + 2 := by rw [hk3]; exact List.length_append
        have jk3 : ∀ w, (Op.stringOp .add (bs k2) (⟨#[59, 10]⟩ : ByteArray)).run Tryd.prog w = .ok (.string (bs k3)) w := fun w => by rw [hk3]; exact add_big k2 ([59, 10] : Str) (by first | omega | (simp; omega)) w
        have HZ2 := Lib.hid (show k3 = txSs d (l.take (q + 1)) by
          rw [HUP.out, txS, if_neg (by decide), if_neg (by decide), if_neg (by decide), if_neg (by decide), if_pos rfl]
          unfold lineT
          rw [← HAH.out, ← ht, hk3, hk2, hk1, hc1]
          simp only [List.append_assoc, List.cons_append, List.nil_append, List.append_nil])
        clear HUP hc1 lc1 hk1 lk1 hk2 lk2 hk3 lk3
        obtain ⟨EA, ena, eca, EO, eno, eco, rfl, -, -⟩ := hex.open_
        obtain ⟨e0, e1, e2, e3, e4, e5, e6, e7, e8, e9, e10⟩ := stC_at hrow2
        obtain ⟨W1, hW1⟩ : ∃ W1 : World, W1 = wv.alloc (.cells #[.int .i64 6, .string (bs []), .int .i64 n, .int .i64 0, .int .i64 0, .string (bs []), .string (bs []), .slice EA ena eca, .slice EO eno eco, .slice B nb cb, .slice L nl cl] 85) := ⟨_, rfl⟩
        have hb1 : Below w.heap.size w W1 := by rw [hW1]; exact zr.b.alloc zr.b.size _
        have HG1 := Lib.hid (show ∀ W, Bz W1 W → Below w.heap.size w W from fun W h => hb1.trans (h.b.mono hb1.size))
        have HQ := Lib.hid (show ∀ W, Bz W1 W → (W.cell? ⟨wv.heap.size, 0, none⟩ = some (.int .i64 6) ∧ W.cell? ⟨wv.heap.size, 1, none⟩ = some (.string (bs [])) ∧ W.cell? ⟨wv.heap.size, 2, none⟩ = some (.int .i64 n) ∧ W.cell? ⟨wv.heap.size, 3, none⟩ = some (.int .i64 0) ∧ W.cell? ⟨wv.heap.size, 4, none⟩ = some (.int .i64 0) ∧ W.cell? ⟨wv.heap.size, 5, none⟩ = some (.string (bs [])) ∧ W.cell? ⟨wv.heap.size, 6, none⟩ = some (.string (bs [])) ∧ W.cell? ⟨wv.heap.size, 7, none⟩ = some (.slice EA ena eca) ∧ W.cell? ⟨wv.heap.size, 8, none⟩ = some (.slice EO eno eco) ∧ W.cell? ⟨wv.heap.size, 9, none⟩ = some (.slice B nb cb) ∧ W.cell? ⟨wv.heap.size, 10, none⟩ = some (.slice L nl cl)) from fun W h => by
          have hn : W1.heap[wv.heap.size]? = some (.cells #[.int .i64 6, .string (bs []), .int .i64 n, .int .i64 0, .int .i64 0, .string (bs []), .string (bs []), .slice EA ena eca, .slice EO eno eco, .slice B nb cb, .slice L nl cl] 85 (0, 0)) := by rw [hW1]; exact heap_alloc_new wv _
          exact st_cells ((h.b.block _ (lt_of_block hn)).trans hn))
        have HTN := Lib.hid (show ∀ W, Calls Tryd.prog 47 #[.int .i64 n] W fun e' w' => e' = .returned (.string (bs t)) ∧ Below W.heap.size W w' from fun W => by rw [ht]; exact number_any n h0 hnr.2 W)
        clear hrow hrow2 hex hB hLl hb1 hib hxs hcx hx hb0 hS hmem hl h0 hnr ht htl n1 lZ
        have z1 : Bz W1 W1 := ⟨Below.refl _ _⟩
        go_upto_region 6 with fail
        rw [← hW1]
        clear hW1 e0 e1 e2 e3 e4 e5 e6 e7 e8 e9 e10
        obtain ⟨g0, g1, g2, g3, g4, g5, g6, g7, g8, g9, g10⟩ := HQ.out _ z1
        go_wp2_with fail
        refine (HTN.out _).mono ?_
        rintro e wx ⟨rfl, hbx⟩
        have zx := z1.next hbx
        clear hbx
        clear g0 g1 g2 g3 g4 g5 g6 g7 g8 g9 g10
        go_wp2
        go_roundw
        case rel => exact ⟨q + 1, k3, HQL.out, rfl, by go_num, HZ2, ⟨HG1.out _ zx⟩⟩
        case measure => exact meas_up _ _ HQL.out
    · have hi2 : ¬ (q : Int) < (n0 : Int) := by have := HN.out; omega
      have HR := Lib.hid (show Z = T by rw [n1.out, HT.out, List.take_of_length_le (by omega)])
      clear hl hq n1
      go_wp2
      go_ret
      exact ⟨congrArg (fun x => Ending.returned (.string (bs x))) HR.out, zr.b⟩
theorem rlinesAt_any : ∀ (n : Nat) (l : List St), St.sizes l ≤ n → RLinesAt l
  | 0, [], _ => rlinesAt_of (fun x hx => by cases hx)
  | 0, .mk k s n e b t :: r, h => by rw [St.sizes, St.size] at h; omega
  | n + 1, l, h => rlinesAt_of (fun x hx => by
    have h1 := St.sizes_mem hx
    obtain ⟨k, s, u, e, b, t⟩ := x
    rw [St.size] at h1
    exact ⟨rlinesAt_any n b (by omega), rlinesAt_any n t (by omega)⟩)
end Go.Proofs.YthfjkdgaiaokdaaDoor
