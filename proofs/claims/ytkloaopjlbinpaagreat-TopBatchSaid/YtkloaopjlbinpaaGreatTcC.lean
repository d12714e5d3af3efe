/- The walk of Runs. Condition: at most 20 operations; kinds 0 to 3. -/
import Derived.Test.YtkloaopjlbinpaaGreatTcB
set_option linter.unusedVariables false
set_option linter.unusedSimpArgs false
namespace Go.Proofs.YtkloaopjlbinpaaGreat
open Go.RowKit Go.MapKept

theorem ele_ops : ElE 22 31 1 24 := ele_of Tryz.underlying31 (by decide) (by decide) (z := .slice none 0 0) (by kernel_rfl) rfl
section
variable {E : TypeId} {X : Nat → Prop} {w w' : World} {base n c g p : Nat} {v : Value} {xs vs : List Value} {ls : List (List BOp)} {r : List BOp}
/-- The rows that a row's cells hold, each in a block of its own. -/
structure RL (w : World) (base : Nat) (vs : List Value) (ls : List (List BOp)) : Prop where
  len : vs.length = ls.length
  rw : ∀ (i : Nat) (r : List BOp), ls[i]? = some r → ∃ (A : Option Addr) (c : Nat), vs[i]? = some (.slice A r.length c) ∧ w.ownsRow base 25 3 (.slice A r.length c) r.length (r.flatMap opB)
  ne : ∀ (i j : Nat) (v v' : Value) (b : Nat), i ≠ j → vs[i]? = some v → vs[j]? = some v' → v.ownBlock = some b → v'.ownBlock ≠ some b
theorem RL.none (w : World) (base : Nat) : RL w base [] [] := ⟨rfl, fun i r h => by simp at h, fun i j v v' b _ h => by simp at h⟩
theorem RL.own (h : RL w base vs ls) {i : Nat} (hi : vs[i]? = some v) : ∃ r, ls[i]? = some r ∧ w.ownsRow base 25 3 v r.length (r.flatMap opB) := by
  have hlt : i < ls.length := by rw [← h.len]; exact (List.getElem?_eq_some_iff.1 hi).1
  obtain ⟨A, c, e, ho⟩ := h.rw i _ (List.getElem?_eq_getElem hlt)
  rw [e] at hi
  injection hi with hi
  subst hi
  exact ⟨_, List.getElem?_eq_getElem hlt, ho⟩
theorem RL.lt (h : RL w base vs ls) {i b : Nat} (hi : vs[i]? = some v) (hb : v.ownBlock = some b) : base ≤ b ∧ b < w.heap.size := by
  obtain ⟨r, -, ho⟩ := h.own hi
  exact ho.lt b hb
theorem RL.kx (h : RL w base vs ls) (hk : KX X w w') (hx : ∀ (i : Nat) (v : Value) (b : Nat), vs[i]? = some v → v.ownBlock = some b → ¬ X b) : RL w' base vs ls :=
  ⟨h.len, fun i r hi => by
    obtain ⟨A, c, e, ho⟩ := h.rw i r hi
    exact ⟨A, c, e, own_kx ho hk fun b hb => hx i _ b e hb⟩, h.ne⟩
theorem RL.below (h : RL w base vs ls) (hb : Below w.heap.size w w') : RL w' base vs ls := h.kx (KX.of_below (X := fun _ => False) hb) fun _ _ _ _ _ h => h
theorem RL.snoc (h : RL w base vs ls) {A : Option Addr} (ho : w.ownsRow base 25 3 (.slice A r.length c) r.length (r.flatMap opB)) (hf : ∀ (i : Nat) (v : Value) (b : Nat), vs[i]? = some v → v.ownBlock = some b → (Value.slice A r.length c).ownBlock ≠ some b) : RL w base (vs ++ [.slice A r.length c]) (ls ++ [r]) := by
  have hv : ∀ (i : Nat) (v : Value), (vs ++ [Value.slice A r.length c])[i]? = some v → vs[i]? = some v ∨ (i = vs.length ∧ v = .slice A r.length c) := by
    intro i v hi
    by_cases hl : i < vs.length
    · rw [List.getElem?_append_left hl] at hi; exact .inl hi
    · have hlt := (List.getElem?_eq_some_iff.1 hi).1
      rw [List.length_append, List.length_singleton] at hlt
      obtain rfl : i = vs.length := by omega
      rw [List.getElem?_concat_length] at hi
      injection hi with hi
      exact .inr ⟨rfl, hi.symm⟩
  refine ⟨by rw [List.length_append, List.length_append, h.len]; rfl, fun i r' hi => ?_, fun i j v v' b hij hv1 hv2 hb hb' => ?_⟩
  · by_cases hl : i < ls.length
    · rw [List.getElem?_append_left hl] at hi
      obtain ⟨A', c', e, ho'⟩ := h.rw i r' hi
      exact ⟨A', c', by rw [List.getElem?_append_left (by rw [h.len]; exact hl)]; exact e, ho'⟩
    · have hlt := (List.getElem?_eq_some_iff.1 hi).1
      rw [List.length_append, List.length_singleton] at hlt
      obtain rfl : i = ls.length := by omega
      rw [List.getElem?_concat_length] at hi
      injection hi with hi
      subst hi
      exact ⟨A, c, by rw [← h.len, List.getElem?_concat_length], ho⟩
  · rcases hv i v hv1 with h1 | ⟨rfl, rfl⟩
    · rcases hv j v' hv2 with h2 | ⟨rfl, rfl⟩
      · exact h.ne i j v v' b hij h1 h2 hb hb'
      · exact hf i v b h1 hb hb'
    · rcases hv j v' hv2 with h2 | ⟨rfl, rfl⟩
      · exact hf j v' b h2 hb' hb
      · exact hij rfl
theorem RL.init (h : RL w base (vs ++ [v]) (ls ++ [r])) : RL w base vs ls ∧ (∃ (A : Option Addr) (c : Nat), v = .slice A r.length c ∧ w.ownsRow base 25 3 (.slice A r.length c) r.length (r.flatMap opB)) ∧ ∀ (i : Nat) (v' : Value) (b : Nat), vs[i]? = some v' → v'.ownBlock = some b → v.ownBlock ≠ some b := by
  have hl : vs.length = ls.length := by have := h.len; rw [List.length_append, List.length_append] at this; simpa using this
  have hup : ∀ (i : Nat) (v' : Value), vs[i]? = some v' → (vs ++ [v])[i]? = some v' := fun i v' hi => by rw [List.getElem?_append_left (List.getElem?_eq_some_iff.1 hi).1]; exact hi
  have hlast : (vs ++ [v])[vs.length]? = some v := List.getElem?_concat_length
  refine ⟨⟨hl, fun i r' hi => ?_, fun i j v1 v2 b hij h1 h2 => h.ne i j v1 v2 b hij (hup i v1 h1) (hup j v2 h2)⟩, ?_, fun i v' b hi hb => h.ne i vs.length v' v b (by have := (List.getElem?_eq_some_iff.1 hi).1; omega) (hup i v' hi) hlast hb⟩
  · have hlt := (List.getElem?_eq_some_iff.1 hi).1
    obtain ⟨A, c, e, ho⟩ := h.rw i r' (by rw [List.getElem?_append_left hlt]; exact hi)
    rw [List.getElem?_append_left (by omega)] at e
    exact ⟨A, c, e, ho⟩
  · obtain ⟨A, c, e, ho⟩ := h.rw vs.length r (by rw [hl, List.getElem?_concat_length])
    rw [hlast] at e
    injection e with e
    exact ⟨A, c, e, ho⟩
theorem own_set (h : w.ownsRow base E 1 (.slice (some ⟨g, 0, none⟩) n c) n xs) (u : Value) : (w.setCell ⟨g, p, none⟩ u).ownsRow base E 1 (.slice (some ⟨g, 0, none⟩) n c) n (xs.set p u) := by
  refine ⟨by rw [List.length_set]; exact h.1, ?_⟩
  rcases h.2 with ⟨e, -⟩ | ⟨g', cap, cur, e, h1, h2, h3, h4, h5, h6⟩
  · cases e
  · injection e with e1 e2 e3
    injection e1 with e1
    injection e1 with e1
    subst e1 e3
    refine .inr ⟨g, c, cur.setIfInBounds p u, rfl, h1, HB.set (show HB E w g cur from h2) p u, h3, h4, by rw [Array.size_setIfInBounds]; exact h5, ?_⟩
    rw [Array.toList_setIfInBounds, List.take_set, h6]
end
theorem runs_len (l : List BOp) : (runsB l).length ≤ l.length ∧ ∀ r ∈ runsB l, r.length ≤ l.length ∧ ∀ x ∈ r, x ∈ l := by
  obtain ⟨h1, h2⟩ := runs_inv l
  have hm : ∀ r ∈ runsB l, ∀ x ∈ r, x ∈ l := fun r hr x hx => by rw [← h1]; exact List.mem_flatten.2 ⟨r, hr, hx⟩
  have key : ∀ L : List (List BOp), (∀ r ∈ L, r ≠ []) → L.length ≤ L.flatten.length ∧ ∀ r ∈ L, r.length ≤ L.flatten.length := by
    intro L
    induction L with
    | nil => intro _; exact ⟨Nat.le_refl _, fun r hr => by cases hr⟩
    | cons a t ih =>
      intro hne
      have := ih fun r hr => hne r (List.mem_cons_of_mem _ hr)
      have ha : 0 < a.length := List.length_pos_iff.2 (hne a List.mem_cons_self)
      rw [List.flatten_cons, List.length_append, List.length_cons]
      refine ⟨by omega, fun r hr => ?_⟩
      rcases List.mem_cons.1 hr with rfl | hr
      · omega
      · have := this.2 r hr; omega
  have hk := key (runsB l) fun r hr => (h2 r hr).1
  rw [h1] at hk
  exact ⟨hk.1, fun r hr => ⟨hk.2 r hr, hm r hr⟩⟩
set_option maxRecDepth 100000 in
set_option maxHeartbeats 6400000 in
theorem runs_any (w : World) (A : Option Addr) (n c : Nat) (l : List BOp) (hl : l.length = n) (hn : n ≤ 20) (hok : ∀ x ∈ l, x.ok) (hR : Reads w (fun _ => True) 3 A n (l.flatMap opB)) :
    Calls Tryz.prog 8 #[.slice A n c] w fun e w' => ∃ (Ao : Option Addr) (m c' : Nat), e = .returned (.slice Ao m c') ∧ ∃ vs : List Value, w'.ownsRow w.heap.size 22 1 (.slice Ao m c') m vs ∧ RL w' w.heap.size vs (runsB l) ∧ Below w.heap.size w w' := by
  have HR := Lib.hid hR
  have HL := Lib.hid (And.intro hl hn)
  have HOK := Lib.hid hok
  have hn20 : (n : Int) ≤ 20 := by omega
  clear hR hl hn hok
  go_enter Tryz.func8, Tryz.ntmps8
  go_wp2_with fail
  go_loopw [3, 9] (fun v3 v9 wr => ∃ (j m cc : Nat) (Ao : Option Addr) (vs : List Value), v9 = .int .i64 j ∧ v3 = .slice Ao m cc ∧ j ≤ n ∧ wr.ownsRow w.heap.size 22 1 (.slice Ao m cc) m vs ∧ RL wr w.heap.size vs (runsB (l.take j)) ∧ Below w.heap.size w wr) (fun _ v9 _ => n - (intOf v9).toNat)
  case atStart => exact ⟨0, 0, 0, none, [], rfl, rfl, Nat.zero_le _, World.ownsRow_nil _ _ _ _, RL.none _ _, Below.refl _ _⟩
  case round =>
    obtain ⟨j, m, cc, Ao, vs, rfl, rfl, hj, hov, hrl, hb⟩ := hrel
    have hm : m = (runsB (l.take j)).length := by rw [← hrl.len]; have := hov.1; omega
    have RLN := Lib.hid (runs_len (l.take j))
    have OV := Lib.hid hov
    have RLH := Lib.hid hrl
    have B := Lib.hid hb
    have HM := Lib.hid (And.intro hm (show (l.take j).length ≤ j from by rw [List.length_take]; omega))
    by_cases hlt : j < n
    · have hi3 : (j : Int) < (n : Int) := by omega
      obtain ⟨x, hx⟩ : ∃ x, l[j]? = some x := ⟨_, List.getElem?_eq_getElem (by have := HL.out; omega)⟩
      obtain ⟨b, q, rfl, hbl, -, z0, z1, z2⟩ := bop_cells (HR.out.below hb) hlt hx
      have HXO := Lib.hid (HOK.out x (List.mem_of_getElem? hx))
      have HTK := Lib.hid (show runsB (l.take (j + 1)) = rstep (runsB (l.take j)) x from by rw [List.take_add_one, hx]; exact runsB_snoc _ _)
      have LN := Lib.hid (show j < n ∧ n ≤ 20 ∧ m ≤ j from ⟨hlt, HL.out.2, by have := RLN.out.1; have := HM.out; omega⟩)
      obtain ⟨ob, hob⟩ : ∃ n, n = wr.heap.size := ⟨_, rfl⟩
      obtain ⟨w6, hw6⟩ : ∃ W, W = wr.alloc (.cells #[.int .i64 x.kd, .int .i64 x.ky, .int .i64 x.n] 25) := ⟨_, rfl⟩
      have b6 : Below wr.heap.size wr w6 := by rw [hw6]; exact below_alloc _ _
      have O := Lib.hid (show HB 25 w6 ob #[.int .i64 x.kd, .int .i64 x.ky, .int .i64 x.n] from by rw [hw6, hob]; exact HB.new _ _ _)
      have OBN := Lib.hid (show (∀ (i : Nat) (v : Value) (b : Nat), vs[i]? = some v → v.ownBlock = some b → b ≠ ob) ∧ w.heap.size ≤ ob from ⟨fun i v b hf hvb => by have := hrl.lt hf hvb; omega, by have := hb.size; omega⟩)
      obtain h0 := RLH.out
      clear RLH
      have RLH := Lib.hid (h0.below b6)
      clear h0
      obtain h0 := OV.out
      clear OV
      have OV := Lib.hid (own_kx h0 (KX.of_below (X := fun _ => False) b6) fun _ _ h => h)
      clear h0
      obtain h0 := B.out
      clear B
      have B := Lib.hid (h0.trans (b6.mono h0.size))
      clear h0
      have hW1 : IntKind.i64.wrap ((m : Int) - 1) = zOf m := zOf_wrap _ (by have := LN.out; omega)
      clear hx hlt hbl b6 hrl hov hm hb hj
      go_upto_region 5 with fail
      rw [← hw6, ← hob]
      clear hw6 hob z0 z1 z2
      go_upto_region 6 with fail
      rcases List.eq_nil_or_concat (runsB (l.take j)) with he | ⟨ls, r, he⟩
      · have hm0 : m = 0 := by rw [HM.out.1, he]; rfl
        rw [he] at RLH HTK
        have hvs : vs = [] := List.eq_nil_of_length_eq_zero RLH.out.len
        subst hm0 hvs
        clear he hW1
        rw [show zOf 0 = -1 from rfl]
        refine wp_region_L (fun W => HB 25 W ob #[.int .i64 x.kd, .int .i64 x.ky, .int .i64 x.n]) [0, 1, 2, 3, 4, 5, 6, 7, 8, 9, 10] (by kernel_rfl) ?_
        have SW := Lib.hid (show HB 25 w6.drew ob #[.int .i64 x.kd, .int .i64 x.ky, .int .i64 x.n] from O.out.kx (kx_drew (fun _ => False) w6) (fun h => h))
        have bd : Below w6.heap.size w6 w6.drew := (Below.refl w6.heap.size w6).drew
        obtain h0 := RLH.out
        clear RLH
        have RLH := Lib.hid (h0.below bd)
        clear h0
        obtain h0 := OV.out
        clear OV
        have OV := Lib.hid (own_kx h0 (KX.of_below (X := fun _ => False) bd) fun _ _ h => h)
        clear h0
        obtain h0 := B.out
        clear B
        have B := Lib.hid (h0.trans (bd.mono h0.size))
        clear h0
        clear bd O
        generalize w6.drew = wq at *
        refine OrdL.take (i := 0) (oi := ⟨some 16, _, _, _, _, _⟩) (v := .int .i64 (-1)) rfl (by decide) (by kernel_rfl) (by kernel_rfl) (by kernel_rfl) (fun _ _ _ h => h) (Or.inl ⟨by rfl, ?_⟩) SW.out ?_
        · intro W' hW
          go_simp
        try simp only [Act.put, List.setIfInBounds_toArray, List.set_cons_zero, List.set_cons_succ]
        refine OrdL.take (i := 1) (oi := ⟨some 17, _, _, _, _, _⟩) (v := .bool true) rfl (by decide) (by kernel_rfl) (by kernel_rfl) (by kernel_rfl) (fun _ _ _ h => h) (Or.inl ⟨by rfl, ?_⟩) SW.out ?_
        · intro W' hW
          go_simp
        try simp only [Act.put, List.setIfInBounds_toArray, List.set_cons_zero, List.set_cons_succ]
        refine OrdL.take (i := 2) (oi := ⟨some 18, _, _, _, _, _⟩) (v := .bool true) rfl (by decide) (by kernel_rfl) (by kernel_rfl) (by kernel_rfl) (fun _ _ _ h => h) (Or.inl ⟨by rfl, ?_⟩) SW.out ?_
        · intro W' hW
          go_simp
        try simp only [Act.put, List.setIfInBounds_toArray, List.set_cons_zero, List.set_cons_succ]
        refine OrdL.take (i := 3) (oi := ⟨some 19, _, _, _, _, some _⟩) (v := undef) rfl (by decide) (by kernel_rfl) (by kernel_rfl) (by kernel_rfl) (fun _ _ _ h => h) (Or.inr ⟨by rfl, rfl⟩) SW.out ?_
        try simp only [Act.put, List.setIfInBounds_toArray, List.set_cons_zero, List.set_cons_succ]
        refine OrdL.take (i := 4) (oi := ⟨some 20, _, _, _, _, some _⟩) (v := undef) rfl (by decide) (by kernel_rfl) (by kernel_rfl) (by kernel_rfl) (fun _ _ _ h => h) (Or.inr ⟨by rfl, rfl⟩) SW.out ?_
        try simp only [Act.put, List.setIfInBounds_toArray, List.set_cons_zero, List.set_cons_succ]
        refine OrdL.take (i := 5) (oi := ⟨some 21, _, _, _, _, some _⟩) (v := undef) rfl (by decide) (by kernel_rfl) (by kernel_rfl) (by kernel_rfl) (fun _ _ _ h => h) (Or.inr ⟨by rfl, rfl⟩) SW.out ?_
        try simp only [Act.put, List.setIfInBounds_toArray, List.set_cons_zero, List.set_cons_succ]
        refine OrdL.take (i := 6) (oi := ⟨some 22, _, _, _, _, some _⟩) (v := undef) rfl (by decide) (by kernel_rfl) (by kernel_rfl) (by kernel_rfl) (fun _ _ _ h => h) (Or.inr ⟨by rfl, rfl⟩) SW.out ?_
        try simp only [Act.put, List.setIfInBounds_toArray, List.set_cons_zero, List.set_cons_succ]
        refine OrdL.take (i := 7) (oi := ⟨some 23, _, _, _, _, some _⟩) (v := undef) rfl (by decide) (by kernel_rfl) (by kernel_rfl) (by kernel_rfl) (fun _ _ _ h => h) (Or.inr ⟨by rfl, rfl⟩) SW.out ?_
        try simp only [Act.put, List.setIfInBounds_toArray, List.set_cons_zero, List.set_cons_succ]
        refine OrdL.take (i := 8) (oi := ⟨some 24, _, _, _, _, some _⟩) (v := undef) rfl (by decide) (by kernel_rfl) (by kernel_rfl) (by kernel_rfl) (fun _ _ _ h => h) (Or.inr ⟨by rfl, rfl⟩) SW.out ?_
        try simp only [Act.put, List.setIfInBounds_toArray, List.set_cons_zero, List.set_cons_succ]
        refine OrdL.take (i := 9) (oi := ⟨some 25, _, _, _, _, some _⟩) (v := undef) rfl (by decide) (by kernel_rfl) (by kernel_rfl) (by kernel_rfl) (fun _ _ _ h => h) (Or.inr ⟨by rfl, rfl⟩) SW.out ?_
        try simp only [Act.put, List.setIfInBounds_toArray, List.set_cons_zero, List.set_cons_succ]
        refine OrdL.take (i := 10) (oi := ⟨some 26, _, _, _, _, _⟩) (v := .bool true) rfl (by decide) (by kernel_rfl) (by kernel_rfl) (by kernel_rfl) (fun _ _ _ h => h) (Or.inl ⟨by rfl, ?_⟩) SW.out ?_
        · intro W' hW
          go_simp
        try simp only [Act.put, List.setIfInBounds_toArray, List.set_cons_zero, List.set_cons_succ]
        refine OrdL.done (by kernel_rfl) ?_ _
        have O := SW
        clear SW
        have x0 : _ = some (Value.int .i64 x.kd) := O.out.cell 0
        have x1 : _ = some (Value.int .i64 x.ky) := O.out.cell 1
        have x2 : _ = some (Value.int .i64 x.n) := O.out.cell 2
        obtain ⟨u7, hu7⟩ : ∃ W, W = wq.alloc (.cells #[.int .i64 x.kd, .int .i64 x.ky, .int .i64 x.n] 25) := ⟨_, rfl⟩
        have b7 : Below wq.heap.size wq u7 := by rw [hu7]; exact below_alloc _ _
        have s7 : u7.heap.size = wq.heap.size + 1 := by rw [hu7]; exact World.size_alloc ..
        have o7 : u7.ownsRow w.heap.size 25 3 (.slice (some ⟨wq.heap.size, 0, none⟩) 1 1) 1 ([x].flatMap opB) := by rw [hu7]; exact own_new wq B.out.size 25 3 #[.int .i64 x.kd, .int .i64 x.ky, .int .i64 x.n] rfl
        obtain ⟨u8, hu8⟩ : ∃ W, W = u7.alloc (.cells #[.slice (some ⟨wq.heap.size, 0, none⟩) 1 1] 22) := ⟨_, rfl⟩
        have b8 : Below u7.heap.size u7 u8 := by rw [hu8]; exact below_alloc _ _
        have r8 : Reads u8 (fun _ => True) 1 (some ⟨u7.heap.size, 0, none⟩) 1 [.slice (some ⟨wq.heap.size, 0, none⟩) 1 1] := by rw [hu8]; exact Reads.new u7 #[.slice (some ⟨wq.heap.size, 0, none⟩) 1 1] _ rfl trivial
        have b78 : Below wq.heap.size wq u8 := b7.trans (b8.mono b7.size)
        have o8 : u8.ownsRow w.heap.size 25 3 (.slice (some ⟨wq.heap.size, 0, none⟩) [x].length 1) [x].length ([x].flatMap opB) := own_kx o7 (KX.of_below (X := fun _ => False) b8) fun _ _ h => h
        have rl8 := (RLH.out.below b78).snoc o8 (fun i v b hi hvb e => by have e : wq.heap.size = b := Option.some.inj e; have := (RLH.out.lt hi hvb).2; omega)
        have ov8 := own_kx OV.out (KX.of_below (X := fun _ => False) b78) fun _ _ h => h
        obtain ⟨A', c', u9, run, ho9, hk9, -⟩ := row_more (c := 1) ele_ops ov8 (Nat.le_trans B.out.size b78.size) r8 (by simp [Value.oneCell']) (by have := LN.out; omega) 31
        have rl9 := rl8.kx hk9 (fun i v b hi hvb e => by
          obtain ⟨r', -, ho'⟩ := rl8.own hi
          exact own_ne_own ov8 ho' (by decide) b e hvb)
        have b9 : Below w.heap.size w u9 := (B.out.trans (b78.mono B.out.size)).trans (hk9.below (Nat.le_trans B.out.size b78.size) fun b hb e => by have := (ov8.lt b e).1; omega)
        rw [hu8, s7] at run
        rw [hu7] at run
        have RUN := Lib.hid run
        have REL := Lib.hid (And.intro ho9 (And.intro (rl9) b9))
        clear run ho9 rl9 b9 hk9 ov8 rl8 o8 b78 r8 b8 hu8 o7 s7 b7 hu7
        go_wp2_with (at_builtin; refine wpList_app_run rfl _ _ 31 rfl (.slice Ao 0 cc) _ _ u9 rfl rfl RUN.out ?_)
        go_roundw
        case rel => exact ⟨j + 1, 0 + 1, c', A', _, by go_num, rfl, LN.out.1, REL.out.1, by rw [HTK.out, show rstep [] x = [] ++ [[x]] from rfl]; exact REL.out.2.1, REL.out.2.2⟩
        case measure =>
          have := LN.out
          show n - ((j + 1 : Nat) : Int).toNat < n - (j : Int).toNat
          omega
      · rw [List.concat_eq_append] at he
        obtain ⟨p, hp⟩ : ∃ p, p = ls.length := ⟨_, rfl⟩
        have hm1 : m = p + 1 := by rw [HM.out.1, he, hp, List.length_append]; rfl
        have RIN := Lib.hid (show r.length ≤ 20 ∧ ∀ x ∈ r, x.ok from by
          have h1 := RLN.out.2 r (by rw [he]; simp)
          exact ⟨by have := HM.out; have := LN.out; omega, fun x hx => HOK.out x (List.mem_of_mem_take (h1.2 x hx))⟩)
        rw [he] at RLH HTK
        clear RLN HM he
        subst hm1
        clear hW1
        rw [show zOf (p + 1) = (p : Int) from rfl]
        obtain ⟨vs0, v0, hvs⟩ : ∃ vs0 v0, vs = vs0 ++ [v0] := by
          rcases List.eq_nil_or_concat vs with h | ⟨a, b, h⟩
          · have := OV.out.1; rw [h] at this; simp at this
          · exact ⟨a, b, by rw [h, List.concat_eq_append]⟩
        subst hvs
        obtain ⟨-, ⟨A, c, hv0, -⟩, -⟩ := RLH.out.init
        subst hv0
        have hvl : vs0.length = p := by have := OV.out.1; rw [List.length_append, List.length_singleton] at this; omega
        have HVL := Lib.hid hvl
        obtain ⟨g, hAo⟩ : ∃ g, Ao = some ⟨g, 0, none⟩ := by
          rcases OV.out.2 with ⟨-, h⟩ | ⟨g, cap, cur, h, -⟩
          · omega
          · injection h with h; exact ⟨g, h⟩
        subst hAo
        have hi5 : ¬ ((p : Int) + 1 ≤ (p : Int)) := by omega
        have hi6 : ¬ ((p : Int) < 0) := by omega
        have hi7 : (p : Int) < (p : Int) + 1 := by omega
        obtain ⟨fb, hfb⟩ : ∃ b, b = fitsB r x := ⟨_, rfl⟩
        have HFB := Lib.hid hfb
        have KF := Lib.hid (show ∀ W, Reads W (fun _ => True) 3 A r.length (r.flatMap opB) → Calls Tryz.prog 24 #[.slice A r.length c, .agg #[.int .i64 x.kd, .int .i64 x.ky, .int .i64 x.n]] W fun e w' => e = .returned (.bool fb) ∧ Below W.heap.size W w' from fun W hr => by
          rw [hfb]
          exact fits_any W A r.length c r rfl (by have := RIN.out.1; omega) RIN.out.2 hr x HXO.out)
        clear hfb hvl hp
        refine wp_region_L (fun W => HB 25 W ob #[.int .i64 x.kd, .int .i64 x.ky, .int .i64 x.n] ∧ Reads W (fun _ => True) 1 (some ⟨g, 0, none⟩) (p + 1) (vs0 ++ [.slice A r.length c])) [0, 1, 2, 3, 4, 5, 6, 7, 9, 10] (by kernel_rfl) ?_
        have O1 := Lib.hid (show HB 25 w6.drew ob #[.int .i64 x.kd, .int .i64 x.ky, .int .i64 x.n] from O.out.kx (kx_drew (fun _ => False) w6) (fun h => h))
        have bd : Below w6.heap.size w6 w6.drew := (Below.refl w6.heap.size w6).drew
        obtain h0 := RLH.out
        clear RLH
        have RLH := Lib.hid (h0.below bd)
        clear h0
        obtain h0 := OV.out
        clear OV
        have OV := Lib.hid (own_kx h0 (KX.of_below (X := fun _ => False) bd) fun _ _ h => h)
        clear h0
        obtain h0 := B.out
        clear B
        have B := Lib.hid (h0.trans (bd.mono h0.size))
        clear h0
        clear bd O
        generalize w6.drew = wq at *
        have SW := Lib.hid (And.intro O1.out (Reads.of_own (S := fun _ => True) OV.out (fun _ _ => trivial)))
        clear O1
        refine OrdL.take (i := 0) (oi := ⟨some 16, _, _, _, _, _⟩) (v := .int .i64 p) rfl (by decide) (by kernel_rfl) (by kernel_rfl) (by kernel_rfl) (fun _ _ _ h => h) (Or.inl ⟨by rfl, ?_⟩) SW.out ?_
        · intro W' hW
          go_simp
        try simp only [Act.put, List.setIfInBounds_toArray, List.set_cons_zero, List.set_cons_succ]
        refine OrdL.take (i := 1) (oi := ⟨some 17, _, _, _, _, _⟩) (v := .bool false) rfl (by decide) (by kernel_rfl) (by kernel_rfl) (by kernel_rfl) (fun _ _ _ h => h) (Or.inl ⟨by rfl, ?_⟩) SW.out ?_
        · intro W' hW
          go_simp
        try simp only [Act.put, List.setIfInBounds_toArray, List.set_cons_zero, List.set_cons_succ]
        refine OrdL.take (i := 2) (oi := ⟨some 18, _, _, _, _, _⟩) (v := .bool false) rfl (by decide) (by kernel_rfl) (by kernel_rfl) (by kernel_rfl) (fun _ _ _ h => h) (Or.inl ⟨by rfl, ?_⟩) SW.out ?_
        · intro W' hW
          go_simp
        try simp only [Act.put, List.setIfInBounds_toArray, List.set_cons_zero, List.set_cons_succ]
        refine OrdL.take (i := 3) (oi := ⟨some 19, _, _, _, _, _⟩) (v := .slice (some ⟨g, 0, none⟩) (p + 1) cc) rfl (by decide) (by kernel_rfl) (by kernel_rfl) (by kernel_rfl) (fun _ _ _ h => h) (Or.inl ⟨by rfl, ?_⟩) SW.out ?_
        · intro W' hW
          go_simp
        try simp only [Act.put, List.setIfInBounds_toArray, List.set_cons_zero, List.set_cons_succ]
        refine OrdL.take (i := 4) (oi := ⟨some 20, _, _, _, _, _⟩) (v := .int .i64 p) rfl (by decide) (by kernel_rfl) (by kernel_rfl) (by kernel_rfl) (fun _ _ _ h => h) (Or.inl ⟨by rfl, ?_⟩) SW.out ?_
        · intro W' hW
          go_simp
        try simp only [Act.put, List.setIfInBounds_toArray, List.set_cons_zero, List.set_cons_succ]
        refine OrdL.take (i := 5) (oi := ⟨some 21, _, _, _, _, _⟩) (v := .pointer (some ⟨g, p, none⟩)) rfl (by decide) (by kernel_rfl) (by kernel_rfl) (by kernel_rfl) (fun _ _ _ h => h) (Or.inl ⟨by rfl, ?_⟩) SW.out ?_
        · intro W' hW
          go_simp
        try simp only [Act.put, List.setIfInBounds_toArray, List.set_cons_zero, List.set_cons_succ]
        refine OrdL.take (i := 6) (oi := ⟨some 22, _, _, _, _, _⟩) (v := .slice A r.length c) rfl (by decide) (by kernel_rfl) (by kernel_rfl) (by kernel_rfl) (fun _ _ _ h => h) (Or.inl ⟨by rfl, ?_⟩) SW.out ?_
        · intro W' hW
          obtain ⟨b1, q1, e1, -, -, hc⟩ := hW.2.2 (by omega)
          cases e1
          have y0 := hc p _ (by rw [← HVL.out]; exact List.getElem?_concat_length)
          simp only [Nat.zero_add] at y0
          clear hc
          go_simp
        try simp only [Act.put, List.setIfInBounds_toArray, List.set_cons_zero, List.set_cons_succ]
        refine OrdL.take (i := 7) (oi := ⟨some 23, _, _, _, _, _⟩) (v := .agg #[.int .i64 x.kd, .int .i64 x.ky, .int .i64 x.n]) rfl (by decide) (by kernel_rfl) (by kernel_rfl) (by kernel_rfl) (fun _ _ _ h => h) (Or.inl ⟨by rfl, ?_⟩) SW.out ?_
        · intro W' hW
          have y0 : _ = some (Value.int .i64 x.kd) := HB.cell hW.1 0
          have y1 : _ = some (Value.int .i64 x.ky) := HB.cell hW.1 1
          have y2 : _ = some (Value.int .i64 x.n) := HB.cell hW.1 2
          go_simp
        try simp only [Act.put, List.setIfInBounds_toArray, List.set_cons_zero, List.set_cons_succ]
        refine OrdL.ready (rs := [8]) (by kernel_rfl) (by simp) ?_
        refine AllL.cons (o := ⟨some 24, _, _, _, _, _⟩) rfl (fun K hK => ?_) AllL.nil
        go_simp
        refine (KF.out _ (by
          obtain ⟨-, ⟨A9, c9, e9, ho9⟩, -⟩ := RLH.out.init
          cases e9
          exact Reads.of_own ho9 (fun _ _ => trivial))).mono ?_
        rintro e w7 ⟨rfl, hb⟩
        obtain h0 := RLH.out
        clear RLH
        have RLH := Lib.hid (h0.below hb)
        clear h0
        obtain h0 := OV.out
        clear OV
        have OV := Lib.hid (own_kx h0 (KX.of_below (X := fun _ => False) hb) fun _ _ h => h)
        clear h0
        obtain h0 := B.out
        clear B
        have B := Lib.hid (h0.trans (hb.mono h0.size))
        clear h0
        obtain h0 := SW.out
        clear SW
        have SW := Lib.hid (And.intro (h0.1.below hb) (h0.2.below hb))
        clear h0
        clear hb
        refine hK.out _ _ (fun _ => SW.out) ?_
        clear hK
        try simp only [Act.put, List.setIfInBounds_toArray, List.set_cons_zero, List.set_cons_succ]
        refine OrdL.take (i := 9) (oi := ⟨some 25, _, _, _, _, _⟩) (v := .bool (!fb)) rfl (by decide) (by kernel_rfl) (by kernel_rfl) (by kernel_rfl) (fun _ _ _ h => h) (Or.inl ⟨by rfl, ?_⟩) SW.out ?_
        · intro W' hW
          go_simp
        try simp only [Act.put, List.setIfInBounds_toArray, List.set_cons_zero, List.set_cons_succ]
        refine OrdL.take (i := 10) (oi := ⟨some 26, _, _, _, _, _⟩) (v := .bool (!fb)) rfl (by decide) (by kernel_rfl) (by kernel_rfl) (by kernel_rfl) (fun _ _ _ h => h) (Or.inl ⟨by rfl, ?_⟩) SW.out ?_
        · intro W' hW
          go_simp
        try simp only [Act.put, List.setIfInBounds_toArray, List.set_cons_zero, List.set_cons_succ]
        refine OrdL.done (by kernel_rfl) ?_ _
        have O := Lib.hid SW.out.1
        clear SW KF
        cases fb with
        | false =>
          have he1 : rstep (ls ++ [r]) x = (ls ++ [r]) ++ [[x]] := by
            unfold rstep
            rw [List.getLast?_concat]
            show (if fitsB r x = true then _ else _) = _
            rw [← HFB.out]; rfl
          have x0 : _ = some (Value.int .i64 x.kd) := O.out.cell 0
          have x1 : _ = some (Value.int .i64 x.ky) := O.out.cell 1
          have x2 : _ = some (Value.int .i64 x.n) := O.out.cell 2
          obtain ⟨u7, hu7⟩ : ∃ W, W = w7.alloc (.cells #[.int .i64 x.kd, .int .i64 x.ky, .int .i64 x.n] 25) := ⟨_, rfl⟩
          have b7 : Below w7.heap.size w7 u7 := by rw [hu7]; exact below_alloc _ _
          have s7 : u7.heap.size = w7.heap.size + 1 := by rw [hu7]; exact World.size_alloc ..
          have o7 : u7.ownsRow w.heap.size 25 3 (.slice (some ⟨w7.heap.size, 0, none⟩) 1 1) 1 ([x].flatMap opB) := by rw [hu7]; exact own_new w7 B.out.size 25 3 #[.int .i64 x.kd, .int .i64 x.ky, .int .i64 x.n] rfl
          obtain ⟨u8, hu8⟩ : ∃ W, W = u7.alloc (.cells #[.slice (some ⟨w7.heap.size, 0, none⟩) 1 1] 22) := ⟨_, rfl⟩
          have b8 : Below u7.heap.size u7 u8 := by rw [hu8]; exact below_alloc _ _
          have r8 : Reads u8 (fun _ => True) 1 (some ⟨u7.heap.size, 0, none⟩) 1 [.slice (some ⟨w7.heap.size, 0, none⟩) 1 1] := by rw [hu8]; exact Reads.new u7 #[.slice (some ⟨w7.heap.size, 0, none⟩) 1 1] _ rfl trivial
          have b78 : Below w7.heap.size w7 u8 := b7.trans (b8.mono b7.size)
          have o8 : u8.ownsRow w.heap.size 25 3 (.slice (some ⟨w7.heap.size, 0, none⟩) [x].length 1) [x].length ([x].flatMap opB) := own_kx o7 (KX.of_below (X := fun _ => False) b8) fun _ _ h => h
          have rl8 := (RLH.out.below b78).snoc o8 (fun i v b hi hvb e => by have e : w7.heap.size = b := Option.some.inj e; have := (RLH.out.lt hi hvb).2; omega)
          have ov8 := own_kx OV.out (KX.of_below (X := fun _ => False) b78) fun _ _ h => h
          obtain ⟨A', c', u9, run, ho9, hk9, -⟩ := row_more (c := 1) ele_ops ov8 (Nat.le_trans B.out.size b78.size) r8 (by simp [Value.oneCell']) (by have := LN.out; omega) 31
          have rl9 := rl8.kx hk9 (fun i v b hi hvb e => by
            obtain ⟨r', -, ho'⟩ := rl8.own hi
            exact own_ne_own ov8 ho' (by decide) b e hvb)
          have b9 : Below w.heap.size w u9 := (B.out.trans (b78.mono B.out.size)).trans (hk9.below (Nat.le_trans B.out.size b78.size) fun b hb e => by have := (ov8.lt b e).1; omega)
          rw [hu8, s7] at run
          rw [hu7] at run
          have RUN := Lib.hid run
          have REL := Lib.hid (And.intro ho9 (And.intro (rl9) b9))
          clear run ho9 rl9 b9 hk9 ov8 rl8 o8 b78 r8 b8 hu8 o7 s7 b7 hu7
          go_wp2_with (at_builtin; refine wpList_app_run rfl _ _ 31 rfl (.slice (some ⟨g, 0, none⟩) (p + 1) cc) _ _ u9 rfl rfl RUN.out ?_)
          go_roundw
          case rel => exact ⟨j + 1, (p + 1) + 1, c', A', _, by go_num, rfl, LN.out.1, REL.out.1, by rw [HTK.out, he1]; exact REL.out.2.1, REL.out.2.2⟩
          case measure =>
            have := LN.out
            show n - ((j + 1 : Nat) : Int).toNat < n - (j : Int).toNat
            omega
        | true =>
          have he1 : rstep (ls ++ [r]) x = ls ++ [r ++ [x]] := by
            unfold rstep
            rw [List.getLast?_concat]
            show (if fitsB r x = true then (ls ++ [r]).dropLast ++ [r ++ [x]] else _) = _
            rw [← HFB.out, List.dropLast_concat]; rfl
          go_upto_region 8 with fail
          refine wp_region_L (fun W => HB 25 W ob #[.int .i64 x.kd, .int .i64 x.ky, .int .i64 x.n] ∧ Reads W (fun _ => True) 1 (some ⟨g, 0, none⟩) (p + 1) (vs0 ++ [.slice A r.length c])) [0, 1, 2, 3, 4, 5, 6] (by kernel_rfl) ?_
          have O1 := Lib.hid (show HB 25 w7.drew ob #[.int .i64 x.kd, .int .i64 x.ky, .int .i64 x.n] from O.out.kx (kx_drew (fun _ => False) w7) (fun h => h))
          have bd : Below w7.heap.size w7 w7.drew := (Below.refl w7.heap.size w7).drew
          obtain h0 := RLH.out
          clear RLH
          have RLH := Lib.hid (h0.below bd)
          clear h0
          obtain h0 := OV.out
          clear OV
          have OV := Lib.hid (own_kx h0 (KX.of_below (X := fun _ => False) bd) fun _ _ h => h)
          clear h0
          obtain h0 := B.out
          clear B
          have B := Lib.hid (h0.trans (bd.mono h0.size))
          clear h0
          clear bd O
          generalize w7.drew = wq at *
          have SW := Lib.hid (And.intro O1.out (Reads.of_own (S := fun _ => True) OV.out (fun _ _ => trivial)))
          clear O1
          refine OrdL.take (i := 0) (oi := ⟨some 32, _, _, _, _, _⟩) (v := .slice (some ⟨g, 0, none⟩) (p + 1) cc) rfl (by decide) (by kernel_rfl) (by kernel_rfl) (by kernel_rfl) (fun _ _ _ h => h) (Or.inl ⟨by rfl, ?_⟩) SW.out ?_
          · intro W' hW
            go_simp
          try simp only [Act.put, List.setIfInBounds_toArray, List.set_cons_zero, List.set_cons_succ]
          refine OrdL.take (i := 1) (oi := ⟨some 33, _, _, _, _, _⟩) (v := .int .i64 p) rfl (by decide) (by kernel_rfl) (by kernel_rfl) (by kernel_rfl) (fun _ _ _ h => h) (Or.inl ⟨by rfl, ?_⟩) SW.out ?_
          · intro W' hW
            go_simp
          try simp only [Act.put, List.setIfInBounds_toArray, List.set_cons_zero, List.set_cons_succ]
          refine OrdL.take (i := 2) (oi := ⟨some 34, _, _, _, _, _⟩) (v := .slice (some ⟨g, 0, none⟩) (p + 1) cc) rfl (by decide) (by kernel_rfl) (by kernel_rfl) (by kernel_rfl) (fun _ _ _ h => h) (Or.inl ⟨by rfl, ?_⟩) SW.out ?_
          · intro W' hW
            go_simp
          try simp only [Act.put, List.setIfInBounds_toArray, List.set_cons_zero, List.set_cons_succ]
          refine OrdL.take (i := 3) (oi := ⟨some 35, _, _, _, _, _⟩) (v := .int .i64 p) rfl (by decide) (by kernel_rfl) (by kernel_rfl) (by kernel_rfl) (fun _ _ _ h => h) (Or.inl ⟨by rfl, ?_⟩) SW.out ?_
          · intro W' hW
            go_simp
          try simp only [Act.put, List.setIfInBounds_toArray, List.set_cons_zero, List.set_cons_succ]
          refine OrdL.take (i := 4) (oi := ⟨some 36, _, _, _, _, _⟩) (v := .pointer (some ⟨g, p, none⟩)) rfl (by decide) (by kernel_rfl) (by kernel_rfl) (by kernel_rfl) (fun _ _ _ h => h) (Or.inl ⟨by rfl, ?_⟩) SW.out ?_
          · intro W' hW
            go_simp
          try simp only [Act.put, List.setIfInBounds_toArray, List.set_cons_zero, List.set_cons_succ]
          refine OrdL.take (i := 5) (oi := ⟨some 37, _, _, _, _, _⟩) (v := .slice A r.length c) rfl (by decide) (by kernel_rfl) (by kernel_rfl) (by kernel_rfl) (fun _ _ _ h => h) (Or.inl ⟨by rfl, ?_⟩) SW.out ?_
          · intro W' hW
            obtain ⟨b1, q1, e1, -, -, hc⟩ := hW.2.2 (by omega)
            cases e1
            have y0 := hc p _ (by rw [← HVL.out]; exact List.getElem?_concat_length)
            simp only [Nat.zero_add] at y0
            clear hc
            go_simp
          try simp only [Act.put, List.setIfInBounds_toArray, List.set_cons_zero, List.set_cons_succ]
          refine OrdL.take (i := 6) (oi := ⟨some 38, _, _, _, _, _⟩) (v := .agg #[.int .i64 x.kd, .int .i64 x.ky, .int .i64 x.n]) rfl (by decide) (by kernel_rfl) (by kernel_rfl) (by kernel_rfl) (fun _ _ _ h => h) (Or.inl ⟨by rfl, ?_⟩) SW.out ?_
          · intro W' hW
            have y0 : _ = some (Value.int .i64 x.kd) := HB.cell hW.1 0
            have y1 : _ = some (Value.int .i64 x.ky) := HB.cell hW.1 1
            have y2 : _ = some (Value.int .i64 x.n) := HB.cell hW.1 2
            go_simp
          try simp only [Act.put, List.setIfInBounds_toArray, List.set_cons_zero, List.set_cons_succ]
          refine OrdL.ready (rs := [7]) (by kernel_rfl) (by simp) ?_
          refine AllL.cons (o := ⟨some 39, _, _, _, _, _⟩) rfl (fun K hK => ?_) AllL.nil
          obtain ⟨rlI, ⟨A9, c9, e9, oLast⟩, neI⟩ := RLH.out.init
          cases e9
          obtain ⟨wx, hwx⟩ : ∃ W, W = wq.alloc (.cells #[.int .i64 x.kd, .int .i64 x.ky, .int .i64 x.n] 25) := ⟨_, rfl⟩
          have bx : Below wq.heap.size wq wx := by rw [hwx]; exact below_alloc _ _
          have rx : Reads wx (fun _ => True) 3 (some ⟨wq.heap.size, 0, none⟩) 1 ([x].flatMap opB) := by rw [hwx]; exact Reads.new wq #[.int .i64 x.kd, .int .i64 x.ky, .int .i64 x.n] _ rfl trivial
          have kx0 : KX (fun _ => False) wq wx := KX.of_below bx
          obtain ⟨A3, c3, wy, run, ho3, hk3, hw3⟩ := row_more (c := 1) ele_op (own_kx oLast kx0 fun _ _ h => h) (Nat.le_trans B.out.size bx.size) rx (opB_one _) (by have := RIN.out.1; omega) 22
          rw [← List.flatMap_append] at ho3
          have kxy : KX (fun b => (Value.slice A r.length c).ownBlock = some b) wq wy := (KX.of_below bx).trans hk3
          have rlY : RL wy w.heap.size vs0 ls := rlI.kx kxy (fun i v b hi hvb e => neI i v b hi hvb e)
          have rlZ : RL wy w.heap.size (vs0 ++ [.slice A3 (r.length + 1) c3]) (ls ++ [r ++ [x]]) := by
            have e : r.length + 1 = (r ++ [x]).length := by rw [List.length_append]; rfl
            rw [e] at ho3 hw3 ⊢
            refine rlY.snoc ho3 (fun i v b hi hvb e2 => ?_)
            rcases hw3 with h | h
            · rw [h] at e2; exact neI i v b hi hvb e2
            · rw [h] at e2; have e2 : wx.heap.size = b := Option.some.inj e2; have := (rlI.lt hi hvb).2; have := bx.size; omega
          have ovY : wy.ownsRow w.heap.size 22 1 (.slice (some ⟨g, 0, none⟩) (p + 1) cc) (p + 1) (vs0 ++ [.slice A r.length c]) := own_kx OV.out kxy fun b hb e => own_ne_own OV.out oLast (by decide) b hb e
          have bY : Below w.heap.size w wy := B.out.trans (kxy.below B.out.size fun b hb e => by have := (oLast.lt b e).1; omega)
          have SX := Lib.hid (And.intro (SW.out.1.below bx) (SW.out.2.below bx))
          have SY := Lib.hid (show HB 25 wy ob #[.int .i64 x.kd, .int .i64 x.ky, .int .i64 x.n] ∧ Reads wy (fun _ => True) 1 (some ⟨g, 0, none⟩) (p + 1) (vs0 ++ [.slice A r.length c]) from ⟨SX.out.1.kx hk3 (fun e => OBN.out.1 p _ ob (by rw [← HVL.out]; exact List.getElem?_concat_length) e rfl), Reads.of_own ovY (fun _ _ => trivial)⟩)
          have hgf : wy.cell? ⟨g, p, none⟩ = some (.slice A r.length c) ∧ wy.frozen? ⟨g, p, none⟩ = false := by
            refine ⟨?_, ?_⟩
            · obtain ⟨b1, q1, e1, -, -, hc⟩ := SY.out.2.2 (by omega)
              cases e1
              have y0 := hc p _ (by rw [← HVL.out]; exact List.getElem?_concat_length)
              simpa using y0
            · rcases ovY.2 with ⟨e, -⟩ | ⟨g', cap, cur, e, -, h2, -⟩
              · cases e
              · cases e; exact HB.free (show HB 22 wy g cur from h2) p
          obtain ⟨wz, hwz⟩ : ∃ W, W = wy.setCell ⟨g, p, none⟩ (.slice A3 (r.length + 1) c3) := ⟨_, rfl⟩
          have hkz : KX (fun b => b = g) wy wz := by rw [hwz]; exact KX.of_grown (X := fun k => k = g) (gr_put _ g p _) fun k e => (Option.some.inj e).symm
          have ovZ : wz.ownsRow w.heap.size 22 1 (.slice (some ⟨g, 0, none⟩) (p + 1) cc) (p + 1) (vs0 ++ [.slice A3 (r.length + 1) c3]) := by
            have h0 := own_set (p := p) ovY (.slice A3 (r.length + 1) c3)
            rw [← hwz] at h0
            have e : (vs0 ++ [Value.slice A r.length c]).set p (.slice A3 (r.length + 1) c3) = vs0 ++ [.slice A3 (r.length + 1) c3] := by
              rw [List.set_append_right _ _ (by have := HVL.out; omega), show p - vs0.length = 0 from by have := HVL.out; omega]; rfl
            rw [e] at h0
            exact h0
          have rlW := rlZ.kx hkz (fun i v b hi hvb e => by
            obtain ⟨r', -, ho'⟩ := rlZ.own hi
            exact own_ne_own ovY ho' (by decide) g rfl (by rw [hvb, e]))
          have bZ : Below w.heap.size w wz := bY.trans (hkz.below bY.size fun b hb e => by have := (ovY.lt g rfl).1; omega)
          have RUN := Lib.hid run
          have REL := Lib.hid (And.intro ovZ (And.intro rlW bZ))
          have HGF := Lib.hid hgf
          have SZ := Lib.hid hwz
          clear run ho3 hw3 hk3 kxy rlY rlZ ovY bY hgf hkz ovZ rlW bZ rx kx0 rlI neI oLast hwz
          go_simp
          rw [← hwx]
          clear bx hwx
          refine hK.out _ _ (fun _ => SX.out) ?_
          clear hK
          try simp only [Act.put, List.setIfInBounds_toArray, List.set_cons_zero, List.set_cons_succ]
          refine OrdL.ready (rs := [8]) (by kernel_rfl) (by simp) ?_
          refine AllL.cons (o := ⟨some 40, _, _, _, _, _⟩) rfl (fun K hK => ?_) AllL.nil
          refine step_app (.tmp 37) (.tmp 39) 22 rfl (.slice A r.length c) _ _ wy rfl rfl RUN.out ?_
          refine hK.out _ _ (fun _ => SY.out) ?_
          clear hK
          try simp only [Act.put, List.setIfInBounds_toArray, List.set_cons_zero, List.set_cons_succ]
          refine OrdL.ready (rs := [9]) (by kernel_rfl) (by simp) ?_
          refine AllL.cons (o := ⟨some 41, _, _, _, _, _⟩) rfl (fun K hK => ?_) AllL.nil
          go_simp
          refine hK.out _ _ (fun _ => SY.out) ?_
          clear hK
          try simp only [Act.put, List.setIfInBounds_toArray, List.set_cons_zero, List.set_cons_succ]
          refine OrdL.ready (rs := [10]) (by kernel_rfl) (by simp) ?_
          refine AllL.cons (o := ⟨none, _, _, _, _, _⟩) rfl (fun K hK => ?_) AllL.nil
          obtain ⟨hg1, hg2⟩ := HGF.out
          go_simp
          rw [← SZ.out]
          clear hg1 hg2
          refine hK.out _ _ (fun h => of_ff (by kernel_rfl) h) ?_
          clear hK
          try simp only [Act.put, List.setIfInBounds_toArray, List.set_cons_zero, List.set_cons_succ]
          refine OrdL.done (by kernel_rfl) ?_ _
          clear SW SX SY RUN HGF SZ
          go_wp2_with fail
          go_roundw
          case rel => exact ⟨j + 1, p + 1, cc, some ⟨g, 0, none⟩, _, by go_num, rfl, LN.out.1, REL.out.1, by rw [HTK.out, he1]; exact REL.out.2.1, REL.out.2.2⟩
          case measure =>
            have := LN.out
            show n - ((j + 1 : Nat) : Int).toNat < n - (j : Int).toNat
            omega
    · have hi3 : ¬ (j : Int) < (n : Int) := by omega
      have e1 : l.take j = l := List.take_of_length_le (by have := HL.out; omega)
      rw [e1] at RLH
      clear hlt hrl hov hb hj hm e1
      go_wp2
      go_ret
      exact ⟨Ao, m, cc, rfl, vs, OV.out, RLH.out, B.out⟩
end Go.Proofs.YtkloaopjlbinpaaGreat
