/- The walk of the law's text (printed by wip/gensyu.py). Conditions: a valid program, at most 10000 parts an operation; the library's tables are laid (SxW). -/
import Derived.Test.YthfjkdgaiaokdaaDoorSyT
set_option linter.unusedVariables false
set_option linter.unusedSimpArgs false
namespace Go.Proofs.YthfjkdgaiaokdaaDoor
open Go.RowKit

/-- The parameters so far. -/
def jp (l : List Str) (q : Nat) : Str := Lib.join (l.take q) [44, 32]
theorem jp_up {l : List Str} {q : Nat} {x : Str} (h : l[q]? = some x) : jp l (q + 1) = if q = 0 then x else jp l q ++ [44, 32] ++ x := by
  have hq := (List.getElem?_eq_some_iff.1 h).1
  unfold jp
  rw [List.take_add_one, h]
  show Lib.join (l.take q ++ [x]) [44, 32] = _
  rw [join_snoc, List.length_take, Nat.min_eq_left (by omega)]
theorem jp_zero (l : List Str) : jp l 0 = [] := by unfold jp; rw [List.take_zero]; rfl
theorem jp_all (l : List Str) {q : Nat} (h : l.length ≤ q) : jp l q = Lib.join l [44, 32] := by unfold jp; rw [List.take_of_length_le h]
theorem jp_len {l : List Str} (q : Nat) (h : ∀ s ∈ l, nameOk s = true) (h4 : l.length ≤ 4) : (jp l q).length ≤ 104 := by
  unfold jp
  exact params_len (fun s hs => h s (List.mem_of_mem_take hs)) (by rw [List.length_take]; omega)
set_option maxRecDepth 100000 in
set_option maxHeartbeats 12800000 in
theorem rtextP_any (p : Prog') (v : Value) (S : Nat → Prop) (w : World) (hw : SxW w) (hp : PV w S p v) (hf : p.Few2) (hc : chkP p = 0) :
    Calls Tryd.prog 13 #[v] w fun e w' => e = .returned (.string (bs (txP p))) ∧ Below w.heap.size w w' := by
  obtain ⟨h12, h32, hds, hos, -, -⟩ := chkP_ok hc
  have hwd := hp.wd
  obtain ⟨T, hT⟩ : ∃ T, T = txP p := ⟨_, rfl⟩
  rw [← hT]
  obtain ⟨ds, os⟩ := p
  dsimp only at h12 h32 hds hos hwd
  have HSL := Lib.hid (show ∀ q, ((ds.take q).map storeT).flatten.length ≤ 1000 from fun q => by
    have h1 := flat_len (f := storeT) (c := 60) (l := ds.take q) fun x hx => storeT_len (hds x (List.mem_of_mem_take hx))
    have h2 : (ds.take q).length ≤ 12 := by rw [List.length_take]; omega
    have h3 := Nat.mul_le_mul_right 60 h2
    omega)
  have HOL := Lib.hid (show ∀ q, ((os.take q).map operT).flatten.length ≤ 97000000 from fun q => by
    have h1 := flat_len (f := operT) (c := 3000200) (l := os.take q) fun x hx => operT_len (hos x (List.mem_of_mem_take hx)) (hwd x (List.mem_of_mem_take hx)) (hf.2.2 x (List.mem_of_mem_take hx))
    have h2 : (os.take q).length ≤ 32 := by rw [List.length_take]; omega
    have h3 := Nat.mul_le_mul_right 3000200 h2
    omega)
  obtain ⟨D, nd, cd, O, no, co, rfl, hd, ho⟩ := hp
  dsimp only at hd ho
  have HD := Lib.hid hd
  have HO := Lib.hid ho
  have HND := Lib.hid hd.1
  have HNO := Lib.hid ho.1
  have HWS := Lib.hid hw
  have HDS := Lib.hid hds
  have HOS := Lib.hid hos
  have HWD := Lib.hid hwd
  have HFW := Lib.hid hf
  have hnd : (nd : Int) ≤ 12 := by have := hd.1; omega
  have hno : (no : Int) ≤ 32 := by have := ho.1; omega
  obtain ⟨W0, hW0⟩ : ∃ W0 : World, W0 = w.alloc (.cells #[.slice D nd cd, .slice O no co] 25) := ⟨_, rfl⟩
  have hb0 : Below w.heap.size w W0 := by rw [hW0]; exact (Below.refl _ _).alloc (Nat.le_refl _) _
  have HF := Lib.hid (show ∀ W, Bz W0 W → (W.cell? ⟨w.heap.size, 0, none⟩ = some (.slice D nd cd) ∧ W.cell? ⟨w.heap.size, 1, none⟩ = some (.slice O no co)) from fun W h => by
    subst hW0
    have hq := heap_alloc_new w (.cells #[.slice D nd cd, .slice O no co] 25)
    exact cells2 ((h.b.block _ (lt_of_block hq)).trans hq))
  have HG := Lib.hid (show ∀ W, Bz W0 W → Below w.heap.size w W from fun W h => hb0.trans (h.b.mono hb0.size))
  have z0 : Bz W0 W0 := ⟨Below.refl _ _⟩
  have HFZ := Lib.hid hf.2.2
  have HT := Lib.hid (show T = (ds.map storeT).flatten ++ (os.map operT).flatten from hT)
  clear hw hf hc h12 h32 hds hos hwd hd ho hT hb0
  go_enter Tryd.func13, Tryd.ntmps13
  go_upto_region 1 with fail
  rw [← hW0]
  clear hW0
  obtain ⟨d0, d1⟩ := HF.out _ z0
  go_wp2_with fail
  clear d0 d1
  go_loopw [3, 4] (fun out i wr => ∃ (q : Nat) (Z : Str), q ≤ ds.length ∧ out = .string (bs Z) ∧ i = .int .i64 q ∧ Hid (Z = ((ds.take q).map storeT).flatten) ∧ Bz W0 wr) (fun _ i _ => ds.length - (intOf i).toNat)
  case atStart => exact ⟨0, [], Nat.zero_le _, rfl, rfl, Lib.hid (by rw [List.take_zero]; rfl), z0⟩
  case round =>
    clear z0
    obtain ⟨q, Z, hq, rfl, rfl, n1, zr⟩ := hrel
    obtain ⟨wv, hwv⟩ : ∃ wv, wv = wr := ⟨_, rfl⟩
    subst hwv
    obtain ⟨d0, d1⟩ := HF.out _ zr
    have lZ : Z.length ≤ 1000 := by rw [n1.out]; exact HSL.out q
    by_cases hl : q < ds.length
    · have hi2 : (q : Int) < (nd : Int) := by have := HND.out; omega
      obtain ⟨b, off, cs, rfl, hb, hS, ⟨x, hx, rfl⟩, hrow⟩ := HD.out.2.at q (by have := HND.out; omega)
      have HQL := Lib.hid hl
      have hxn := HDS.out x (List.mem_of_getElem? hx)
      have HUP := Lib.hid (show ((ds.take (q + 1)).map storeT).flatten = Z ++ storeT x by rw [flat_take hx, ← n1.out])
      obtain ⟨xn, xk⟩ := x
      have l1 := name_len hxn.1
      have l2 := name_len hxn.2
      dsimp only at l1 l2
      obtain ⟨k1, hk1⟩ : ∃ c, c = Z ++ ([115, 116, 111, 114, 101, 32] : Str) := ⟨_, rfl⟩
      have lk1 : k1.length = Z.length + 6 := by rw [hk1]; exact List.length_append
      have jk1 : ∀ w, (Op.stringOp .add (bs Z) (⟨#[115, 116, 111, 114, 101, 32]⟩ : ByteArray)).run Tryd.prog w = .ok (.string (bs k1)) w := fun w => by rw [hk1]; exact add_big Z ([115, 116, 111, 114, 101, 32] : Str) (by first | omega | (simp; omega)) w
      obtain ⟨k2, hk2⟩ : ∃ c, c = k1 ++ xn := ⟨_, rfl⟩
      have lk2 : k2.length = k1.length + xn.length := by rw [hk2]; exact List.length_append
      have jk2 : ∀ w, (Op.stringOp .add (bs k1) (bs xn)).run Tryd.prog w = .ok (.string (bs k2)) w := fun w => by rw [hk2]; exact add_big k1 xn (by first | omega | (simp; omega)) w
      obtain ⟨k3, hk3⟩ : ∃ c, c = k2 ++ ([32] : Str) := ⟨_, rfl⟩
      have lk3 : k3.length = k2.length + 1 := by rw [hk3]; exact List.length_append
      have jk3 : ∀ w, (Op.stringOp .add (bs k2) (⟨#[32]⟩ : ByteArray)).run Tryd.prog w = .ok (.string (bs k3)) w := fun w => by rw [hk3]; exact add_big k2 ([32] : Str) (by first | omega | (simp; omega)) w
      obtain ⟨k4, hk4⟩ : ∃ c, c = k3 ++ xk := ⟨_, rfl⟩
      have lk4 : k4.length = k3.length + xk.length := by rw [hk4]; exact List.length_append
      have jk4 : ∀ w, (Op.stringOp .add (bs k3) (bs xk)).run Tryd.prog w = .ok (.string (bs k4)) w := fun w => by rw [hk4]; exact add_big k3 xk (by first | omega | (simp; omega)) w
      obtain ⟨k5, hk5⟩ : ∃ c, c = k4 ++ ([59, 10] : Str) := ⟨_, rfl⟩
      have lk5 : k5.length = k4.length + 2 := by rw [hk5]; exact List.length_append
      have jk5 : ∀ w, (Op.stringOp .add (bs k4) (⟨#[59, 10]⟩ : ByteArray)).run Tryd.prog w = .ok (.string (bs k5)) w := fun w => by rw [hk5]; exact add_big k4 ([59, 10] : Str) (by first | omega | (simp; omega)) w
      have HZ2 := Lib.hid (show k5 = ((ds.take (q + 1)).map storeT).flatten by
        rw [HUP.out, storeT, hk5, hk4, hk3, hk2, hk1]
        unfold lineT
        simp only [Lib.repeatL, List.append_assoc, List.cons_append, List.nil_append])
      have HC := Lib.hid (show ∀ W, Bz W0 W → (W.cell? ⟨w.heap.size, 0, none⟩ = some (.slice (some ⟨b, off, none⟩) nd cd) ∧ W.cell? ⟨b, off + q * 2, none⟩ = some (.string (bs xn)) ∧ W.cell? ⟨b, off + q * 2 + 1, none⟩ = some (.string (bs xk))) from fun W h => by
        have hr := rangeAt_keep hrow ((HG.out _ h).block b hb)
        exact ⟨(HF.out _ h).1, by have := hr 0 _ rfl; simpa using this, hr 1 _ rfl⟩)
      have zd := zr.drew
      clear hx hb hS hrow hl HUP hxn l1 l2 lZ n1 d0 d1 hk1 lk1 hk2 lk2 hk3 lk3 hk4 lk4 hk5 lk5
      have HI2 := Lib.hid hi2
      obtain ⟨d0, d1⟩ := HF.out _ zr
      go_upto_region 5 with fail
      clear d0 d1
      refine wp_region_held_drew (S := fun W => (W.cell? ⟨w.heap.size, 0, none⟩ = some (.slice (some ⟨b, off, none⟩) nd cd) ∧ W.cell? ⟨b, off + q * 2, none⟩ = some (.string (bs xn)) ∧ W.cell? ⟨b, off + q * 2 + 1, none⟩ = some (.string (bs xk)))) (by kernel_rfl) (HC.out _ zd) (fun hHeld => ?_)
      refine wpAnyH_take (i := 0) (oi := ⟨some 15, _, _, _, _, _⟩) (v := .string (bs Z)) rfl (by kernel_rfl) (by kernel_rfl) (by kernel_rfl) (fun _ _ _ h => h) (Or.inl ⟨by rfl, ?_⟩) hHeld ?_
      · intro W hW
        obtain ⟨h0, h1, h2⟩ := hW
        go_simp
      try simp only [Act.put, List.setIfInBounds_toArray, List.set_cons_zero, List.set_cons_succ]
      refine wpAnyH_take (i := 1) (oi := ⟨some 16, _, _, _, _, _⟩) (v := .string (bs k1)) rfl (by kernel_rfl) (by kernel_rfl) (by kernel_rfl) (fun _ _ _ h => h) (Or.inl ⟨by rfl, ?_⟩) hHeld ?_
      · intro W hW
        obtain ⟨h0, h1, h2⟩ := hW
        go_simp
      try simp only [Act.put, List.setIfInBounds_toArray, List.set_cons_zero, List.set_cons_succ]
      refine wpAnyH_take (i := 2) (oi := ⟨some 17, _, _, _, _, _⟩) (v := .pointer (some ⟨w.heap.size, 0, none⟩)) rfl (by kernel_rfl) (by kernel_rfl) (by kernel_rfl) (fun _ _ _ h => h) (Or.inl ⟨by rfl, ?_⟩) hHeld ?_
      · intro W hW
        obtain ⟨h0, h1, h2⟩ := hW
        go_simp
      try simp only [Act.put, List.setIfInBounds_toArray, List.set_cons_zero, List.set_cons_succ]
      refine wpAnyH_take (i := 3) (oi := ⟨some 18, _, _, _, _, _⟩) (v := .slice (some ⟨b, off, none⟩) nd cd) rfl (by kernel_rfl) (by kernel_rfl) (by kernel_rfl) (fun _ _ _ h => h) (Or.inl ⟨by rfl, ?_⟩) hHeld ?_
      · intro W hW
        obtain ⟨h0, h1, h2⟩ := hW
        go_simp
      try simp only [Act.put, List.setIfInBounds_toArray, List.set_cons_zero, List.set_cons_succ]
      refine wpAnyH_take (i := 4) (oi := ⟨some 19, _, _, _, _, _⟩) (v := .int .i64 (q : Int)) rfl (by kernel_rfl) (by kernel_rfl) (by kernel_rfl) (fun _ _ _ h => h) (Or.inl ⟨by rfl, ?_⟩) hHeld ?_
      · intro W hW
        obtain ⟨h0, h1, h2⟩ := hW
        go_simp
      try simp only [Act.put, List.setIfInBounds_toArray, List.set_cons_zero, List.set_cons_succ]
      refine wpAnyH_take (i := 5) (oi := ⟨some 20, _, _, _, _, _⟩) (v := .pointer (some ⟨b, off + q * 2, none⟩)) rfl (by kernel_rfl) (by kernel_rfl) (by kernel_rfl) (fun _ _ _ h => h) (Or.inl ⟨by rfl, ?_⟩) hHeld ?_
      · intro W hW
        obtain ⟨h0, h1, h2⟩ := hW
        go_simp
      try simp only [Act.put, List.setIfInBounds_toArray, List.set_cons_zero, List.set_cons_succ]
      refine wpAnyH_take (i := 6) (oi := ⟨some 21, _, _, _, _, _⟩) (v := .pointer (some ⟨b, off + q * 2, none⟩)) rfl (by kernel_rfl) (by kernel_rfl) (by kernel_rfl) (fun _ _ _ h => h) (Or.inl ⟨by rfl, ?_⟩) hHeld ?_
      · intro W hW
        obtain ⟨h0, h1, h2⟩ := hW
        go_simp
      try simp only [Act.put, List.setIfInBounds_toArray, List.set_cons_zero, List.set_cons_succ]
      refine wpAnyH_take (i := 7) (oi := ⟨some 22, _, _, _, _, _⟩) (v := .string (bs xn)) rfl (by kernel_rfl) (by kernel_rfl) (by kernel_rfl) (fun _ _ _ h => h) (Or.inl ⟨by rfl, ?_⟩) hHeld ?_
      · intro W hW
        obtain ⟨h0, h1, h2⟩ := hW
        go_simp
      try simp only [Act.put, List.setIfInBounds_toArray, List.set_cons_zero, List.set_cons_succ]
      refine wpAnyH_take (i := 8) (oi := ⟨some 23, _, _, _, _, _⟩) (v := .string (bs k2)) rfl (by kernel_rfl) (by kernel_rfl) (by kernel_rfl) (fun _ _ _ h => h) (Or.inl ⟨by rfl, ?_⟩) hHeld ?_
      · intro W hW
        obtain ⟨h0, h1, h2⟩ := hW
        go_simp
      try simp only [Act.put, List.setIfInBounds_toArray, List.set_cons_zero, List.set_cons_succ]
      refine wpAnyH_take (i := 9) (oi := ⟨some 24, _, _, _, _, _⟩) (v := .string (bs k3)) rfl (by kernel_rfl) (by kernel_rfl) (by kernel_rfl) (fun _ _ _ h => h) (Or.inl ⟨by rfl, ?_⟩) hHeld ?_
      · intro W hW
        obtain ⟨h0, h1, h2⟩ := hW
        go_simp
      try simp only [Act.put, List.setIfInBounds_toArray, List.set_cons_zero, List.set_cons_succ]
      refine wpAnyH_take (i := 10) (oi := ⟨some 25, _, _, _, _, _⟩) (v := .pointer (some ⟨w.heap.size, 0, none⟩)) rfl (by kernel_rfl) (by kernel_rfl) (by kernel_rfl) (fun _ _ _ h => h) (Or.inl ⟨by rfl, ?_⟩) hHeld ?_
      · intro W hW
        obtain ⟨h0, h1, h2⟩ := hW
        go_simp
      try simp only [Act.put, List.setIfInBounds_toArray, List.set_cons_zero, List.set_cons_succ]
      refine wpAnyH_take (i := 11) (oi := ⟨some 26, _, _, _, _, _⟩) (v := .slice (some ⟨b, off, none⟩) nd cd) rfl (by kernel_rfl) (by kernel_rfl) (by kernel_rfl) (fun _ _ _ h => h) (Or.inl ⟨by rfl, ?_⟩) hHeld ?_
      · intro W hW
        obtain ⟨h0, h1, h2⟩ := hW
        go_simp
      try simp only [Act.put, List.setIfInBounds_toArray, List.set_cons_zero, List.set_cons_succ]
      refine wpAnyH_take (i := 12) (oi := ⟨some 27, _, _, _, _, _⟩) (v := .int .i64 (q : Int)) rfl (by kernel_rfl) (by kernel_rfl) (by kernel_rfl) (fun _ _ _ h => h) (Or.inl ⟨by rfl, ?_⟩) hHeld ?_
      · intro W hW
        obtain ⟨h0, h1, h2⟩ := hW
        go_simp
      try simp only [Act.put, List.setIfInBounds_toArray, List.set_cons_zero, List.set_cons_succ]
      refine wpAnyH_take (i := 13) (oi := ⟨some 28, _, _, _, _, _⟩) (v := .pointer (some ⟨b, off + q * 2, none⟩)) rfl (by kernel_rfl) (by kernel_rfl) (by kernel_rfl) (fun _ _ _ h => h) (Or.inl ⟨by rfl, ?_⟩) hHeld ?_
      · intro W hW
        obtain ⟨h0, h1, h2⟩ := hW
        go_simp
      try simp only [Act.put, List.setIfInBounds_toArray, List.set_cons_zero, List.set_cons_succ]
      refine wpAnyH_take (i := 14) (oi := ⟨some 29, _, _, _, _, _⟩) (v := .pointer (some ⟨b, off + q * 2 + 1, none⟩)) rfl (by kernel_rfl) (by kernel_rfl) (by kernel_rfl) (fun _ _ _ h => h) (Or.inl ⟨by rfl, ?_⟩) hHeld ?_
      · intro W hW
        obtain ⟨h0, h1, h2⟩ := hW
        go_simp
      try simp only [Act.put, List.setIfInBounds_toArray, List.set_cons_zero, List.set_cons_succ]
      refine wpAnyH_take (i := 15) (oi := ⟨some 30, _, _, _, _, _⟩) (v := .string (bs xk)) rfl (by kernel_rfl) (by kernel_rfl) (by kernel_rfl) (fun _ _ _ h => h) (Or.inl ⟨by rfl, ?_⟩) hHeld ?_
      · intro W hW
        obtain ⟨h0, h1, h2⟩ := hW
        go_simp
      try simp only [Act.put, List.setIfInBounds_toArray, List.set_cons_zero, List.set_cons_succ]
      refine wpAnyH_take (i := 16) (oi := ⟨some 31, _, _, _, _, _⟩) (v := .string (bs k4)) rfl (by kernel_rfl) (by kernel_rfl) (by kernel_rfl) (fun _ _ _ h => h) (Or.inl ⟨by rfl, ?_⟩) hHeld ?_
      · intro W hW
        obtain ⟨h0, h1, h2⟩ := hW
        go_simp
      try simp only [Act.put, List.setIfInBounds_toArray, List.set_cons_zero, List.set_cons_succ]
      refine wpAnyH_take (i := 17) (oi := ⟨some 32, _, _, _, _, _⟩) (v := .string (bs k5)) rfl (by kernel_rfl) (by kernel_rfl) (by kernel_rfl) (fun _ _ _ h => h) (Or.inl ⟨by rfl, ?_⟩) hHeld ?_
      · intro W hW
        obtain ⟨h0, h1, h2⟩ := hW
        go_simp
      try simp only [Act.put, List.setIfInBounds_toArray, List.set_cons_zero, List.set_cons_succ]
      refine wpAnyH_take (i := 18) (oi := ⟨some 3, _, _, _, _, _⟩) (v := .string (bs k5)) rfl (by kernel_rfl) (by kernel_rfl) (by kernel_rfl) (fun _ _ _ h => h) (Or.inl ⟨by rfl, ?_⟩) hHeld ?_
      · intro W hW
        obtain ⟨h0, h1, h2⟩ := hW
        go_simp
      try simp only [Act.put, List.setIfInBounds_toArray, List.set_cons_zero, List.set_cons_succ]
      refine wpAnyH_done (by kernel_rfl) ?_ _
      clear hHeld HC
      go_wp2
      go_roundw
      case rel => exact ⟨q + 1, k5, HQL.out, rfl, by go_num, HZ2, zd⟩
      case measure => exact meas_up _ _ HQL.out
    · have hi2 : ¬ (q : Int) < (nd : Int) := by have := HND.out; omega
      have HZ0 := Lib.hid (show Z = (ds.map storeT).flatten by rw [n1.out, List.take_of_length_le (by omega)])
      obtain ⟨U, hU⟩ : ∃ U, U = Z := ⟨_, rfl⟩
      subst hU
      clear hl hq n1 HD HND HDS HSL
      go_wp2_with fail
      clear d0 d1
      have Z0 := zr
      clear zr
      go_loopw [3, 5] (fun out i wr => ∃ (q : Nat) (Z : Str), q ≤ os.length ∧ out = .string (bs Z) ∧ i = .int .i64 q ∧ Hid (Z = U ++ ((os.take q).map operT).flatten) ∧ Bz W0 wr) (fun _ i _ => os.length - (intOf i).toNat)
      case atStart => exact ⟨0, U, Nat.zero_le _, rfl, rfl, Lib.hid (by rw [List.take_zero]; exact (List.append_nil U).symm), Z0⟩
      case round =>
        clear Z0
        obtain ⟨q, Z, hq, rfl, rfl, n1, zr⟩ := hrel
        obtain ⟨wv, hwv⟩ : ∃ wv, wv = wr := ⟨_, rfl⟩
        subst hwv
        obtain ⟨d0, d1⟩ := HF.out _ zr
        have lZ2 : Z.length ≤ 97001000 := by rw [n1.out, List.length_append]; have := HOL.out q; omega
        by_cases hl : q < os.length
        · have hi2 : (q : Int) < (no : Int) := by have := HNO.out; omega
          obtain ⟨b, off, cs, rfl, hb, hS, ⟨x, hx, hov⟩, hrow⟩ := HO.out.2.at q (by have := HNO.out; omega)
          have HQL := Lib.hid hl
          have hmem := List.mem_of_getElem? hx
          have hxo := HOS.out x hmem
          have hxw := HWD.out x hmem
          have hxz := HFZ.out x hmem
          have HUP := Lib.hid (show U ++ ((os.take (q + 1)).map operT).flatten = Z ++ operT x by rw [flat_take hx, ← List.append_assoc, ← n1.out])
          obtain ⟨xn, xp, xb⟩ := x
          obtain ⟨P2, np2, cp2, B2, nb2, cb2, rfl, hss, hsb⟩ := hov
          dsimp only at hxo hxw hxz hss hsb
          have HSS := Lib.hid hss
          have HNP := Lib.hid hss.1
          have HPN := Lib.hid (freshL_all hxo.2.2.1)
          have HP4 := Lib.hid hxo.2.1
          have l1 := name_len hxo.1
          obtain ⟨v, hv⟩ : ∃ v, v = txSs 1 xb := ⟨_, rfl⟩
          have lv : v.length ≤ 3000000 := by
            have := txSs_len (d := 1) (l := xb) fun y hy => txS_len y 1 (chkSs_all hxo.2.2.2 y hy) (St.Wds_mem hxw y hy)
            rw [hv]; omega
          have HV := Lib.hid hv
          have KS := Lib.hid (show ∀ W, Bz W0 W → Calls Tryd.prog 23 #[.slice B2 nb2 cb2] W fun e' w' => ∃ A' c', e' = .returned (.slice A' nb2 c') ∧ SL w' (fun b => W.heap.size ≤ b) A' nb2 c' xb ∧ Below W.heap.size W w' from fun W h => convS_any xb W S _ _ _ (by omega) (hsb.below (HG.out W h)))
          have KL := Lib.hid (show ∀ W S' A' c', Bz W0 W → SL W S' A' nb2 c' xb → Calls Tryd.prog 29 #[.slice A' nb2 c', .string ⟨#[32, 32]⟩] W fun e' w' => e' = .returned (.string (bs v)) ∧ Below W.heap.size W w' from fun W S' A' c' h hsl => by
            rw [hv]
            exact rlinesAt_any _ xb (Nat.le_refl _) 1 1 W S' A' nb2 c' rfl (HWS.out.below (HG.out W h)) hxo.2.2.2 (by omega) hsl)
          obtain ⟨m1, hm1⟩ : ∃ c, c = Z ++ ([111, 112, 32] : Str) := ⟨_, rfl⟩
          have lm1 : m1.length = Z.length + 3 := by rw [hm1]; exact List.length_append
          have jm1 : ∀ w, (Op.stringOp .add (bs Z) (⟨#[111, 112, 32]⟩ : ByteArray)).run Tryd.prog w = .ok (.string (bs m1)) w := fun w => by rw [hm1]; exact add_big Z ([111, 112, 32] : Str) (by first | omega | (simp; omega)) w
          obtain ⟨m2, hm2⟩ : ∃ c, c = m1 ++ xn := ⟨_, rfl⟩
          have lm2 : m2.length = m1.length + xn.length := by rw [hm2]; exact List.length_append
          have jm2 : ∀ w, (Op.stringOp .add (bs m1) (bs xn)).run Tryd.prog w = .ok (.string (bs m2)) w := fun w => by rw [hm2]; exact add_big m1 xn (by first | omega | (simp; omega)) w
          obtain ⟨m3, hm3⟩ : ∃ c, c = m2 ++ ([40] : Str) := ⟨_, rfl⟩
          have lm3 : m3.length = m2.length + 1 := by rw [hm3]; exact List.length_append
          have jm3 : ∀ w, (Op.stringOp .add (bs m2) (⟨#[40]⟩ : ByteArray)).run Tryd.prog w = .ok (.string (bs m3)) w := fun w => by rw [hm3]; exact add_big m2 ([40] : Str) (by first | omega | (simp; omega)) w
          have lm : m3.length ≤ 97002000 := by omega
          have HM3 := Lib.hid (show m3 = Z ++ [111, 112, 32] ++ xn ++ [40] by rw [hm3, hm2, hm1])
          have hrow2 := rangeAt_keep hrow ((HG.out _ zr).block b hb)
          have e0 := hrow2 0 _ rfl
          have e1 := hrow2 1 _ rfl
          have e2 := hrow2 2 _ rfl
          simp only [Nat.add_zero] at e0
          obtain ⟨W1, hW1⟩ : ∃ W1 : World, W1 = wv.alloc (.cells #[.string (bs xn), .slice P2 np2 cp2, .slice B2 nb2 cb2] 41) := ⟨_, rfl⟩
          have hb1 : Bz W0 W1 := by rw [hW1]; exact zr.next ((Below.refl _ _).alloc (Nat.le_refl _) _)
          have HG1 := Lib.hid (show ∀ W, Bz W1 W → Bz W0 W from fun W h => hb1.next h.b)
          have HQ := Lib.hid (show ∀ W, Bz W1 W → (W.cell? ⟨wv.heap.size, 0, none⟩ = some (.string (bs xn)) ∧ W.cell? ⟨wv.heap.size, 1, none⟩ = some (.slice P2 np2 cp2) ∧ W.cell? ⟨wv.heap.size, 2, none⟩ = some (.slice B2 nb2 cb2)) from fun W h => by
            have hn : W1.heap[wv.heap.size]? = some (.cells #[.string (bs xn), .slice P2 np2 cp2, .slice B2 nb2 cb2] 41 (0, 0)) := by rw [hW1]; exact heap_alloc_new wv _
            exact cells3 ((h.b.block _ (lt_of_block hn)).trans hn))
          have z1 : Bz W1 W1 := ⟨Below.refl _ _⟩
          clear hx hb hS hrow hrow2 hl hmem hxo hxw hxz hss hsb hv n1 hb1 l1 hm1 lm1 hm2 lm2 hm3 lm3
          go_upto_region 10 with fail
          rw [← hW1]
          clear hW1 e0 e1 e2 d0 d1
          obtain ⟨g0, g1, g2⟩ := HQ.out _ z1
          go_wp2_with fail
          clear g0 g1 g2 jm1 jm2 jm3
          go_loopw [3, 7] (fun out j wp => ∃ (r : Nat) (Y : Str), r ≤ xp.length ∧ out = .string (bs Y) ∧ j = .int .i64 r ∧ Hid (Y = m3 ++ jp xp r) ∧ Bz W1 wp) (fun _ j _ => xp.length - (intOf j).toNat)
          case atStart => exact ⟨0, m3, Nat.zero_le _, rfl, rfl, Lib.hid (by rw [jp_zero, List.append_nil]), z1⟩
          case round =>
            clear z1
            obtain ⟨r, Y, hr, rfl, rfl, n2, zp⟩ := hrel
            obtain ⟨wu, hwu⟩ : ∃ wu, wu = wr := ⟨_, rfl⟩
            subst hwu
            obtain ⟨g0, g1, g2⟩ := HQ.out _ zp
            have lY : Y.length ≤ 97003000 := by rw [n2.out, List.length_append]; have := jp_len r HPN.out HP4.out; omega
            by_cases hlr : r < xp.length
            · have hj2 : (r : Int) < (np2 : Int) := by have := HNP.out; omega
              obtain ⟨b2, off2, cs2, rfl, hb2, hS2, ⟨s, hs, rfl⟩, hrow3⟩ := HSS.out.2.at r (by have := HNP.out; omega)
              have HRL := Lib.hid hlr
              have ls := name_len (HPN.out s (List.mem_of_getElem? hs))
              have p0 : wu.cell? ⟨b2, off2 + r, none⟩ = some (.string (bs s)) := by
                have := rangeAt_keep hrow3 ((HG.out _ (HG1.out _ zp)).block b2 hb2) 0 _ rfl
                simpa using this
              have HJP := Lib.hid (jp_up hs)
              have hr4 : r ≤ 4 := by have := HP4.out; omega
              clear hs hb2 hS2 hrow3 hlr
              by_cases hr0 : r = 0
              · have hr1 : ¬ (0 : Int) < (r : Int) := by omega
                obtain ⟨u1, hu1⟩ : ∃ c, c = Y ++ s := ⟨_, rfl⟩
                have lu1 : u1.length = Y.length + s.length := by rw [hu1]; exact List.length_append
                have ju1 : ∀ w, (Op.stringOp .add (bs Y) (bs s)).run Tryd.prog w = .ok (.string (bs u1)) w := fun w => by rw [hu1]; exact add_big Y s (by first | omega | (simp; omega)) w
                have HY2 := Lib.hid (show u1 = m3 ++ jp xp (r + 1) by rw [hu1, n2.out, HJP.out, if_pos hr0, hr0, jp_zero, List.append_nil])
                clear hu1 lu1 hr0 HJP n2
                go_wp2
                go_roundw
                case rel => exact ⟨r + 1, u1, HRL.out, rfl, by go_num, HY2, zp⟩
                case measure => exact meas_up _ _ HRL.out
              · have hr1 : (0 : Int) < (r : Int) := by omega
                obtain ⟨u1, hu1⟩ : ∃ c, c = Y ++ ([44, 32] : Str) := ⟨_, rfl⟩
                have lu1 : u1.length = Y.length + 2 := by rw [hu1]; exact List.length_append
                have ju1 : ∀ w, (Op.stringOp .add (bs Y) (⟨#[44, 32]⟩ : ByteArray)).run Tryd.prog w = .ok (.string (bs u1)) w := fun w => by rw [hu1]; exact add_big Y ([44, 32] : Str) (by first | omega | (simp; omega)) w
                obtain ⟨u2, hu2⟩ : ∃ c, c = u1 ++ s := ⟨_, rfl⟩
                have lu2 : u2.length = u1.length + s.length := by rw [hu2]; exact List.length_append
                have ju2 : ∀ w, (Op.stringOp .add (bs u1) (bs s)).run Tryd.prog w = .ok (.string (bs u2)) w := fun w => by rw [hu2]; exact add_big u1 s (by first | omega | (simp; omega)) w
                have HY2 := Lib.hid (show u2 = m3 ++ jp xp (r + 1) by rw [hu2, hu1, n2.out, HJP.out, if_neg hr0]; simp only [List.append_assoc])
                clear hu1 lu1 hu2 lu2 hr0 HJP n2
                go_wp2
                go_roundw
                case rel => exact ⟨r + 1, u2, HRL.out, rfl, by go_num, HY2, zp⟩
                case measure => exact meas_up _ _ HRL.out
            · have hj2 : ¬ (r : Int) < (np2 : Int) := by have := HNP.out; omega
              have HY := Lib.hid (show Y = m3 ++ Lib.join xp [44, 32] by rw [n2.out, jp_all xp (by omega)])
              obtain ⟨x1, hx1⟩ : ∃ c, c = Y ++ ([41, 32, 123, 10] : Str) := ⟨_, rfl⟩
              have lx1 : x1.length = Y.length + 4 := by rw [hx1]; exact List.length_append
              have jx1 : ∀ w, (Op.stringOp .add (bs Y) (⟨#[41, 32, 123, 10]⟩ : ByteArray)).run Tryd.prog w = .ok (.string (bs x1)) w := fun w => by rw [hx1]; exact add_big Y ([41, 32, 123, 10] : Str) (by first | omega | (simp; omega)) w
              obtain ⟨x2, hx2⟩ : ∃ c, c = x1 ++ v := ⟨_, rfl⟩
              have lx2 : x2.length = x1.length + v.length := by rw [hx2]; exact List.length_append
              have jx2 : ∀ w, (Op.stringOp .add (bs x1) (bs v)).run Tryd.prog w = .ok (.string (bs x2)) w := fun w => by rw [hx2]; exact add_big x1 v (by first | omega | (simp; omega)) w
              obtain ⟨x3, hx3⟩ : ∃ c, c = x2 ++ ([125, 10] : Str) := ⟨_, rfl⟩
              have lx3 : x3.length = x2.length + 2 := by rw [hx3]; exact List.length_append
              have jx3 : ∀ w, (Op.stringOp .add (bs x2) (⟨#[125, 10]⟩ : ByteArray)).run Tryd.prog w = .ok (.string (bs x3)) w := fun w => by rw [hx3]; exact add_big x2 ([125, 10] : Str) (by first | omega | (simp; omega)) w
              have HZ2 := Lib.hid (show x3 = U ++ ((os.take (q + 1)).map operT).flatten by
                rw [HUP.out, operT, hx3, hx2, hx1, HY.out, HM3.out, HV.out]
                unfold lineT
                simp only [Lib.repeatL, List.append_assoc, List.cons_append, List.nil_append])
              clear hlr hr n2 HUP lY lv hx1 lx1 hx2 lx2 hx3 lx3
              go_wp2_with fail
              refine (KS.out _ (HG1.out _ zp)).mono ?_
              rintro e wx ⟨A', c', rfl, hsl, hbx⟩
              have zx := zp.next hbx
              have KL2 := Lib.hid (KL.out _ _ _ _ (HG1.out _ zx) hsl)
              clear hsl hbx g0 g1 g2
              go_wp2_with fail
              refine KL2.out.mono ?_
              rintro e wy ⟨rfl, hby⟩
              have zy := zx.next hby
              clear hby KL2
              go_wp2
              go_roundw
              case rel => exact ⟨q + 1, x3, HQL.out, rfl, by go_num, HZ2, HG1.out _ zy⟩
              case measure => exact meas_up _ _ HQL.out
        · have hi2 : ¬ (q : Int) < (no : Int) := by have := HNO.out; omega
          have HR := Lib.hid (show Z = T by rw [HT.out, n1.out, List.take_of_length_le (by omega), HZ0.out])
          clear hl hq n1
          go_wp2
          go_ret
          exact ⟨congrArg (fun x => Ending.returned (.string (bs x))) HR.out, HG.out _ zr⟩
end Go.Proofs.YthfjkdgaiaokdaaDoor
