/- The walk of Batch. Condition: at most 20 operations; kinds 0 to 3. -/
import Derived.Test.YtkloaopjlbinpaaGreatTcA
import Derived.Deep.CutRange
set_option linter.unusedVariables false
set_option linter.unusedSimpArgs false
namespace Go.Proofs.YtkloaopjlbinpaaGreat
open Go.RowKit Go.MapKept

section
variable {Pr : Program} {w : World} {ops : Array Oper} {rest : List Oper} {o : Oper} {a : Act} {Q : Exit → Act → World → Prop}
theorem look_two (hg : o.guard = none) (m x : Operand) (t : TypeId) (hop : o.op = Op.lookup t m x true) (k e : TypeId) (ht : Pr.underlying t = some (.map k e)) (hk : Pr.underlying k = some (.int .i64)) (z : Value) (hz : ∀ w, (zeroValue e).run Pr w = .ok z w)
    (b : Nat) (f : Int → Option Value) (h : IntMap w b f) (hm : a.eval m = .map (some b)) (i : Int) (hx : a.eval x = .int .i64 i) (u : Value) (ok : Bool) (hf : (f i).getD z = u) (hs : (f i).isSome = ok)
    (hK : wpList Pr ops Q rest (a.put o.dst (.tuple #[u, .bool ok])) w) : wpList Pr ops Q (o :: rest) a w := by
  refine wpList_lookup_mine hg m x t true hop k e ht hk z hz (fun _ => True) (.map (some b)) f (.inr ⟨b, rfl, trivial, h.lt, h⟩) hm i hx ?_
  rw [hf, hs]
  exact hK
end
theorem opt_f {α : Type} {o : Option α} (h : false = o.isSome) : o = none := by
  cases o with
  | none => rfl
  | some v => cases h
theorem opt_t {α : Type} {o : Option α} {d v : α} (h : v = o.getD d ∧ true = o.isSome) : o = some v := by
  cases o with
  | none => cases h.2
  | some u => exact congrArg some h.1.symm
theorem flat_mem_le {row : Int → List BOp} {k : Int} : ∀ {ks : List Int}, k ∈ ks → (row k).length ≤ (ks.flatMap row).length
  | [], h => (List.not_mem_nil h).elim
  | a :: t, h => by
    rw [List.flatMap_cons, List.length_append]
    rcases List.mem_cons.1 h with rfl | h
    · omega
    · have := flat_mem_le (row := row) h; omega
theorem own_blk {A : Option Addr} {n m c c' b : Nat} (h : (Value.slice A n c).ownBlock = some b) : (Value.slice A m c').ownBlock = some b := by
  cases A with
  | none => cases h
  | some a => exact h
theorem ops_zero (w : World) : (zeroValue 22).run Tryz.prog w = .ok (.slice none 0 0) w := by kernel_rfl
theorem own_nem {E : TypeId} {sz n base mb : Nat} {w : World} {v : Value} {xs : List Value} {f : Int → Option Value} (h : w.ownsRow base E sz v n xs) (hm : IntMap w mb f) : v.ownBlock ≠ some mb := by
  intro e
  rcases h.2 with ⟨rfl, -⟩ | ⟨g, cap, cur, rfl, -, hc, -⟩
  · cases e
  · injection e with e
    subst e
    obtain ⟨es, cl, hm, -⟩ := hm
    have := hm.symm.trans hc
    injection this with this
    cases this
set_option maxRecDepth 100000 in
set_option maxHeartbeats 6400000 in
theorem batch_any (w : World) (A : Option Addr) (n c : Nat) (l : List BOp) (hl : l.length = n) (hn : n ≤ 20) (hok : ∀ x ∈ l, x.ok) (hR : Reads w (fun _ => True) 3 A n (l.flatMap opB)) :
    Calls Tryz.prog 6 #[.slice A n c] w fun e w' => ∃ (A' : Option Addr) (m c' : Nat), e = .returned (.slice A' m c') ∧ m = (batB l).length ∧ w'.ownsRow w.heap.size 25 3 (.slice A' m c') m ((batB l).flatMap opB) ∧ Below w.heap.size w w' := by
  have HR := Lib.hid hR
  have HL := Lib.hid (And.intro hl hn)
  have HOK := Lib.hid hok
  have hn20 : (n : Int) ≤ 20 := by omega
  have hmm := @run_makeMap Tryz.prog
  have heql := fn_eql
  clear hR hl hn hok
  go_enter Tryz.func6, Tryz.ntmps6
  obtain ⟨mb, hmb⟩ : ∃ z, z = w.heap.size := ⟨_, rfl⟩
  obtain ⟨W1, hW1⟩ : ∃ W, W = w.alloc (.map #[] 0) := ⟨_, rfl⟩
  have b1 : Below w.heap.size w W1 := by rw [hW1]; exact below_alloc _ _
  have M1 := Lib.hid (show RW W1 w.heap.size mb (fun _ => none) (bsOf (l.take 0)).row from ⟨by rw [hW1, hmb]; exact IntMap.made w, fun k => .inl ⟨rfl, rfl⟩, fun _ _ _ _ _ _ h => by cases h⟩)
  have B1 := Lib.hid b1
  have NB := Lib.hid hmb
  clear b1
  go_upto_region 3 with fail
  rw [← hW1, ← hmb]
  clear hW1 hmb hmm
  go_wp2_with fail
  go_loopw [3, 18] (fun v3 v18 wr => ∃ (j nk ck : Nat) (Ak : Option Addr) (f : Int → Option Value), v18 = .int .i64 j ∧ v3 = .slice Ak nk ck ∧ j ≤ n ∧ nk ≤ j ∧ RW wr w.heap.size mb f (bsOf (l.take j)).row ∧ wr.ownsRow w.heap.size 2 1 (.slice Ak nk ck) nk ((bsOf (l.take j)).ks.map (.int .i64)) ∧ (∀ k, ((bsOf (l.take j)).row k).length ≤ j) ∧ Below w.heap.size w wr) (fun _ v18 _ => n - (intOf v18).toNat)
  case atStart => exact ⟨0, 0, 0, none, _, rfl, rfl, Nat.zero_le _, Nat.le_refl _, M1.out, World.ownsRow_nil _ _ _ _, fun k => Nat.le_refl _, B1.out⟩
  case round =>
    obtain ⟨j, nk, ck, Ak, f, rfl, rfl, hj, hnk, hrw, hks, hlen, hb⟩ := hrel
    clear M1 B1
    by_cases hlt : j < n
    · have hi3 : (j : Int) < (n : Int) := by omega
      obtain ⟨x, hx⟩ : ∃ x, l[j]? = some x := ⟨_, List.getElem?_eq_getElem (by have := HL.out; omega)⟩
      obtain ⟨s, hs⟩ : ∃ s, s = bsOf (l.take j) := ⟨_, rfl⟩
      have HTK := Lib.hid (show bsOf (l.take (j + 1)) = s.step x from by rw [List.take_add_one, hx, hs]; exact bsOf_snoc _ _)
      rw [← hs] at hrw hks hlen
      have RW0 := Lib.hid hrw
      have KR := Lib.hid hks
      have LN := Lib.hid (show j < n ∧ nk ≤ j ∧ n ≤ 20 ∧ ∀ k, (s.row k).length ≤ j from ⟨hlt, hnk, HL.out.2, hlen⟩)
      have B := Lib.hid hb
      obtain ⟨b, q, rfl, hbl, -, z0, z1, z2⟩ := bop_cells (HR.out.below hb) hlt hx
      have HXO := Lib.hid (HOK.out x (List.mem_of_getElem? hx))
      obtain ⟨ob, hob⟩ : ∃ n, n = wr.heap.size := ⟨_, rfl⟩
      have OBN := Lib.hid (show (∀ k v b, f k = some v → v.ownBlock = some b → b ≠ ob) ∧ mb ≠ ob ∧ w.heap.size ≤ ob from ⟨fun k v b hf hvb => by have := hrw.lt hf hvb; omega, by have := hrw.m.lt; omega, by have := hb.size; omega⟩)
      obtain ⟨w6, hw6⟩ : ∃ W, W = wr.alloc (.cells #[.int .i64 x.kd, .int .i64 x.ky, .int .i64 x.n] 25) := ⟨_, rfl⟩
      have b6 : Below wr.heap.size wr w6 := by rw [hw6]; exact below_alloc _ _
      have O := Lib.hid (show HB 25 w6 ob #[.int .i64 x.kd, .int .i64 x.ky, .int .i64 x.n] from by rw [hw6, hob]; exact HB.new _ _ _)
      obtain h0 := RW0.out
      clear RW0
      have RW0 := Lib.hid (h0.below b6)
      clear h0
      obtain h0 := KR.out
      clear KR
      have KR := Lib.hid (own_kx h0 (KX.of_below (X := fun _ => False) b6) fun _ _ h => h)
      clear h0
      obtain h0 := B.out
      clear B
      have B := Lib.hid (h0.trans (b6.mono h0.size))
      clear h0
      have SEQ := Lib.hid hs
      clear hs hx hlt hbl b6 hrw hks hlen hnk hb hj
      go_upto_region 6 with fail
      rw [← hw6, ← hob]
      clear hw6 hob z0 z1 z2
      have x0 : _ = some (Value.int .i64 x.kd) := O.out.cell 0
      go_wp2_with fail
      refine (makes_any x.kd HXO.out.1 _).mono ?_
      rintro e w7 ⟨rfl, hb⟩
      clear x0
      obtain h0 := O.out
      clear O
      have O := Lib.hid (h0.below hb)
      clear h0
      obtain h0 := RW0.out
      clear RW0
      have RW0 := Lib.hid (h0.below hb)
      clear h0
      obtain h0 := KR.out
      clear KR
      have KR := Lib.hid (own_kx h0 (KX.of_below (X := fun _ => False) hb) fun _ _ h => h)
      clear h0
      obtain h0 := B.out
      clear B
      have B := Lib.hid (h0.trans (hb.mono h0.size))
      clear h0
      clear hb
      obtain ⟨A, c, hcur, -, hsome, hblk⟩ := RW0.out.cur x.ky
      obtain ⟨r, hr⟩ : ∃ r, r = s.row x.ky := ⟨_, rfl⟩
      rw [← hr] at hcur hsome hblk
      obtain ⟨ok, hok⟩ : ∃ b, (f x.ky).isSome = b := ⟨_, rfl⟩
      rw [hok] at hsome
      have HB1 := Lib.hid hblk
      have HSM := Lib.hid hsome
      have HRR := Lib.hid hr
      clear hblk hsome hr
      have x1 : _ = some (Value.int .i64 x.ky) := O.out.cell 1
      go_upto_if 34 with (at_lookup; refine look_two rfl _ _ 76 rfl 2 22 Tryz.underlying76 Tryz.underlying2 (.slice none 0 0) ops_zero mb f RW0.out.m rfl x.ky rfl (.slice A r.length c) ok hcur hok ?_)
      have CUR := Lib.hid (show (f x.ky).getD (.slice none 0 0) = .slice A r.length c from hcur)
      clear hcur hok
      go_cut [3, 18] from 18 to 69 (fun v3 v18 wz => v18 = .int .i64 j ∧ ∃ (Ak : Option Addr) (nk ck : Nat), v3 = .slice Ak nk ck ∧ nk ≤ j + 1 ∧ wz.ownsRow w.heap.size 2 1 (.slice Ak nk ck) nk ((s.step x).ks.map (.int .i64)) ∧ RW wz w.heap.size mb f s.row ∧ HB 25 wz ob #[.int .i64 x.kd, .int .i64 x.ky, .int .i64 x.n] ∧ Below w.heap.size w wz)
      case first =>
        cases ok with
        | true =>
          have e1 : (s.step x).ks = s.ks := by
            unfold BS.step
            exact if_neg (by rw [← HRR.out]; exact HSM.out.1 rfl)
          go_wp2
          go_meet
          case rel => exact ⟨rfl, Ak, nk, ck, rfl, by have := LN.out; omega, by rw [e1]; exact KR.out, RW0.out, O.out, B.out⟩
        | false =>
          have e1 : (s.step x).ks = s.ks ++ [x.ky] := by
            unfold BS.step
            exact if_pos (by rw [← HRR.out]; exact Decidable.byContradiction fun h => by have := HSM.out.2 h; cases this)
          obtain ⟨w8, hw8⟩ : ∃ W, W = w7.alloc (.cells #[.int .i64 x.ky] 2) := ⟨_, rfl⟩
          have b8 : Below w7.heap.size w7 w8 := by rw [hw8]; exact below_alloc _ _
          have r8 : Reads w8 (fun _ => True) 1 (some ⟨w7.heap.size, 0, none⟩) 1 [.int .i64 x.ky] := by rw [hw8]; exact Reads.new w7 #[.int .i64 x.ky] _ rfl trivial
          obtain ⟨A', c', w9, run, ho9, hk9, -⟩ := row_more (c := 1) ele_i64 (own_kx KR.out (KX.of_below (X := fun _ => False) b8) fun _ _ h => h) (Nat.le_trans B.out.size b8.size) r8 (by simp [Value.oneCell']) (by have := LN.out; omega) 26
          have rw9 : RW w9 w.heap.size mb f s.row := (RW0.out.below b8).kx hk9 (own_nem KR.out RW0.out.m) (fun k v b hf hvb e => own_ne_own KR.out (RW0.out.own hf) (by decide) b e hvb)
          have o9 : HB 25 w9 ob #[.int .i64 x.kd, .int .i64 x.ky, .int .i64 x.n] := (O.out.below b8).kx hk9 (own_ne2 KR.out O.out (by decide))
          have b9 : Below w.heap.size w w9 := (B.out.trans (b8.mono B.out.size)).trans (hk9.below (Nat.le_trans B.out.size b8.size) fun b hb e => by have := (KR.out.lt b e).1; omega)
          rw [hw8] at run
          have e2 : s.ks.map (Value.int .i64) ++ [.int .i64 x.ky] = (s.step x).ks.map (.int .i64) := by rw [e1, List.map_append]; rfl
          rw [e2] at ho9
          have REL := Lib.hid (And.intro ho9 (And.intro rw9 (And.intro o9 b9)))
          have RUN := Lib.hid run
          clear run rw9 o9 b9 ho9 hk9 r8 b8 hw8 e1 e2
          go_wp2_with (at_builtin; refine wpList_app_run rfl _ _ 26 rfl (.slice Ak nk ck) _ _ w9 rfl rfl RUN.out ?_)
          go_meet
          case rel => exact ⟨rfl, A', nk + 1, c', rfl, by have := LN.out; omega, REL.out.1, REL.out.2.1, REL.out.2.2.1, REL.out.2.2.2⟩
      case rest =>
        obtain ⟨rfl, Ak', nk', ck', rfl, hnk', hks', hrw', ho', hb'⟩ := hcut
        clear x1 RW0 KR O B HSM
        have RW0 := Lib.hid hrw'
        have KR := Lib.hid hks'
        have O := Lib.hid ho'
        have B := Lib.hid hb'
        have NK := Lib.hid hnk'
        have RL := Lib.hid (show r.length ≤ 20 ∧ r.length ≤ j from by have h1 := LN.out.2.2.2 x.ky; have := LN.out; rw [← HRR.out] at h1; omega)
        have HBK := Lib.hid (show ∀ b, (Value.slice A r.length c).ownBlock = some b → b ≠ ob from fun b h => OBN.out.1 _ _ b (HB1.out b h) h)
        have OWN := Lib.hid (show wc.ownsRow w.heap.size 25 3 (.slice A r.length c) r.length (r.flatMap opB) from by
          obtain ⟨A2, c2, h1, h2, -, -⟩ := hrw'.cur x.ky
          rw [← HRR.out] at h1 h2
          have h3 := CUR.out.symm.trans h1
          injection h3 with h3 h4 h5
          subst h3 h5
          exact h2)
        have KOB := Lib.hid (show ∀ b, (Value.slice Ak' nk' ck').ownBlock = some b → b ≠ ob from fun b h e => own_ne2 hks' ho' (by decide) (by rw [h, e]))
        clear hnk' hks' hrw' ho' hb'
        have HCP := Lib.hid (show r.length ≤ c from by
          obtain ⟨A1, c1, e, hle, -, -⟩ := own_reads (S := fun _ => True) OWN.out (fun _ _ => trivial)
          cases e
          exact hle)
        have hW1 : IntKind.i64.wrap ((r.length : Int) - 1) = zOf r.length := zOf_wrap _ (by have := RL.out; omega)
        go_wp2_with fail
        go_loopw [7, 9] (fun v7 v9 wr => ∃ (m : Nat) (y : BOp) (z : Int), v7 = .slice A m c ∧ v9 = .int .i64 z ∧ z = zOf m ∧ m ≤ r.length ∧ pushB (r.take m) y = pushB r x ∧ y.ok ∧ y.ky = x.ky ∧ HB 25 wr ob #[.int .i64 y.kd, .int .i64 y.ky, .int .i64 y.n] ∧ KX (fun b => b = ob) wc wr) (fun _ v9 _ => (intOf v9 + 1).toNat)
        case atStart => exact ⟨r.length, x, _, rfl, rfl, by first | rfl | exact hW1, Nat.le_refl _, by rw [List.take_of_length_le (Nat.le_refl _)], HXO.out, rfl, O.out, KX.refl _ _⟩
        case round =>
          obtain ⟨m, y, z, rfl, rfl, hz, hm, hpu, hyo, hyk, hoy, hkx⟩ := hrel
          clear hW1 O
          have PU := Lib.hid (And.intro hpu (And.intro hyo hyk))
          have OB := Lib.hid hoy
          have KK := Lib.hid hkx
          have MM := Lib.hid hm
          clear hpu hyo hyk hoy hkx hm
          rcases m with _ | p
          · obtain rfl : z = -1 := hz
            have FIN := Lib.hid (show pushB r x = r.take 0 ++ [y] from by rw [← PU.out.1]; rfl)
            go_upto_region 16 with fail
            refine wp_region_L (fun W => HB 25 W ob #[.int .i64 y.kd, .int .i64 y.ky, .int .i64 y.n]) [0, 1, 2, 3, 4] (by kernel_rfl) ?_
            have SW := Lib.hid (show HB 25 wr.drew ob #[.int .i64 y.kd, .int .i64 y.ky, .int .i64 y.n] from OB.out.kx (kx_drew (fun _ => False) wr) (fun h => h))
            have KV := Lib.hid (show KX (fun b => b = ob) wc wr.drew from KK.out.trans (kx_drew _ _))
            generalize wr.drew = wv at *
            clear OB KK
            refine OrdL.take (i := 0) (oi := ⟨some 62, _, _, _, _, _⟩) (v := .map (some mb)) rfl (by decide) (by kernel_rfl) (by kernel_rfl) (by kernel_rfl) (fun _ _ _ h => h) (Or.inl ⟨by rfl, ?_⟩) SW.out ?_
            · intro W' hW
              go_simp
            try simp only [Act.put, List.setIfInBounds_toArray, List.set_cons_zero, List.set_cons_succ]
            refine OrdL.take (i := 1) (oi := ⟨some 63, _, _, _, _, _⟩) (v := .pointer (some ⟨ob, 1, none⟩)) rfl (by decide) (by kernel_rfl) (by kernel_rfl) (by kernel_rfl) (fun _ _ _ h => h) (Or.inl ⟨by rfl, ?_⟩) SW.out ?_
            · intro W' hW
              go_simp
            try simp only [Act.put, List.setIfInBounds_toArray, List.set_cons_zero, List.set_cons_succ]
            refine OrdL.take (i := 2) (oi := ⟨some 64, _, _, _, _, _⟩) (v := .int .i64 y.ky) rfl (by decide) (by kernel_rfl) (by kernel_rfl) (by kernel_rfl) (fun _ _ _ h => h) (Or.inl ⟨by rfl, ?_⟩) SW.out ?_
            · intro W' hW
              have y1 : _ = some (Value.int .i64 y.ky) := HB.cell hW 1
              go_simp
            try simp only [Act.put, List.setIfInBounds_toArray, List.set_cons_zero, List.set_cons_succ]
            refine OrdL.take (i := 3) (oi := ⟨some 65, _, _, _, _, _⟩) (v := .slice A 0 c) rfl (by decide) (by kernel_rfl) (by kernel_rfl) (by kernel_rfl) (fun _ _ _ h => h) (Or.inl ⟨by rfl, ?_⟩) SW.out ?_
            · intro W' hW
              go_simp
            try simp only [Act.put, List.setIfInBounds_toArray, List.set_cons_zero, List.set_cons_succ]
            refine OrdL.take (i := 4) (oi := ⟨some 66, _, _, _, _, _⟩) (v := .agg #[.int .i64 y.kd, .int .i64 y.ky, .int .i64 y.n]) rfl (by decide) (by kernel_rfl) (by kernel_rfl) (by kernel_rfl) (fun _ _ _ h => h) (Or.inl ⟨by rfl, ?_⟩) SW.out ?_
            · intro W' hW
              have y0 : _ = some (Value.int .i64 y.kd) := HB.cell hW 0
              have y1 : _ = some (Value.int .i64 y.ky) := HB.cell hW 1
              have y2 : _ = some (Value.int .i64 y.n) := HB.cell hW 2
              go_simp
            try simp only [Act.put, List.setIfInBounds_toArray, List.set_cons_zero, List.set_cons_succ]
            refine OrdL.ready (rs := [5]) (by kernel_rfl) (by simp) ?_
            refine AllL.cons (o := ⟨some 67, _, _, _, _, _⟩) rfl (fun K hK => ?_) AllL.nil
            obtain ⟨wx, hwx⟩ : ∃ W, W = wv.alloc (.cells #[.int .i64 y.kd, .int .i64 y.ky, .int .i64 y.n] 25) := ⟨_, rfl⟩
            have bx : Below wv.heap.size wv wx := by rw [hwx]; exact below_alloc _ _
            have rx : Reads wx (fun _ => True) 3 (some ⟨wv.heap.size, 0, none⟩) 1 ([y].flatMap opB) := by rw [hwx]; exact Reads.new wv #[.int .i64 y.kd, .int .i64 y.ky, .int .i64 y.n] _ rfl trivial
            have ow0 : wv.ownsRow w.heap.size 25 3 (.slice A 0 c) 0 ((r.take (0)).flatMap opB) := by
              have h0 := own_cut (own_kx OWN.out KV.out fun b hb e => HBK.out b hb e) (show 0 ≤ r.length from MM.out)
              rw [opB_take] at h0
              exact h0
            have szv : w.heap.size ≤ wv.heap.size := Nat.le_trans B.out.size KV.out.size
            obtain ⟨A3, c3, wy, run, ho3, hk3, hw3⟩ := row_more (c := 1) ele_op (own_kx ow0 (KX.of_below (X := fun _ => False) bx) fun _ _ h => h) (Nat.le_trans szv bx.size) rx (opB_one _) (by have := MM.out; have := RL.out; omega) 22
            have SX := Lib.hid (SW.out.below bx)
            have SY := Lib.hid (show HB 25 wy ob #[.int .i64 y.kd, .int .i64 y.ky, .int .i64 y.n] from SX.out.kx hk3 (fun e => HBK.out ob (own_blk e) rfl))
            have HPB := Lib.hid (show pushB r x = r.take (0) ++ [y] ∧ (pushB r x).length = 0 + 1 from ⟨FIN.out, by rw [FIN.out, List.length_append, List.length_take, Nat.min_eq_left (show 0 ≤ r.length from MM.out)]; rfl⟩)
            rw [← List.flatMap_append, ← HPB.out.1, ← HPB.out.2] at ho3
            rw [← HPB.out.2] at run hw3
            have RWv := Lib.hid (show RW wv w.heap.size mb f s.row from RW0.out.kx KV.out (fun e => OBN.out.2.1 e) (fun k v b hf hvb => OBN.out.1 k v b hf hvb))
            have kxy : KX (fun b => (Value.slice A 0 c).ownBlock = some b) wv wy := (KX.of_below bx).trans hk3
            have IMy := Lib.hid (show IntMap wy mb f from RWv.out.m.keep (kxy.block mb RWv.out.m.lt (own_nem ow0 RWv.out.m)))
            have RUN := Lib.hid run
            have OW3 := Lib.hid (And.intro ho3 (And.intro kxy hw3))
            have KR2 := Lib.hid (show wy.ownsRow w.heap.size 2 1 (.slice Ak' nk' ck') nk' ((s.step x).ks.map (.int .i64)) from own_kx (own_kx KR.out KV.out fun b hb e => KOB.out b hb e) kxy fun b hb e => own_ne_own KR.out OWN.out (by decide) b hb (own_blk e))
            have BY := Lib.hid (show Below w.heap.size w wy from (B.out.trans (KV.out.below B.out.size fun b hb e => by have := OBN.out.2.2; omega)).trans (kxy.below szv fun b hb e => by have := (ow0.lt b e).1; omega))
            have BX := Lib.hid bx.size
            clear run ho3 kxy hw3 hk3 ow0 rx szv
            go_simp
            rw [← hwx]
            clear bx
            refine hK.out _ _ (fun _ => SX.out) ?_
            clear hK
            try simp only [Act.put, List.setIfInBounds_toArray, List.set_cons_zero, List.set_cons_succ]
            refine OrdL.ready (rs := [6]) (by kernel_rfl) (by simp) ?_
            refine AllL.cons (o := ⟨some 68, _, _, _, _, _⟩) rfl (fun K hK => ?_) AllL.nil
            refine step_app (.tmp 65) (.tmp 67) 22 rfl (.slice A (0) c) _ _ wy rfl rfl RUN.out ?_
            refine hK.out _ _ (fun _ => SY.out) ?_
            clear hK
            try simp only [Act.put, List.setIfInBounds_toArray, List.set_cons_zero, List.set_cons_succ]
            refine OrdL.ready (rs := [7]) (by kernel_rfl) (by simp) ?_
            refine AllL.cons (o := ⟨none, _, _, _, _, _⟩) rfl (fun K hK => ?_) AllL.nil
            refine step_mapUpdate (.tmp 62) (.tmp 64) (.tmp 68) rfl Tryz.underlying76 Tryz.underlying2 mb f IMy.out rfl y.ky rfl (.slice A3 (pushB r x).length c3) rfl (fun w9 hm9 hg9 hs9 => ?_)
            have hkm : KX (fun b => b = mb) wy w9 := KX.of_grown hg9 fun k e => (Option.some.inj e).symm
            rw [PU.out.2.2] at hm9
            have RW9 := Lib.hid (show RW w9 w.heap.size mb (upd f x.ky (.slice A3 (pushB r x).length c3)) (fun i => if i = x.ky then pushB r x else s.row i) from RWv.out.put (r := pushB r x) (k := x.ky) (A := A) (n := 0) (c := c) (fun b hb => ⟨_, HB1.out b (own_blk hb), own_blk hb⟩) (fun e => pushR_ne _ _ (List.reverse_eq_nil_iff.1 e)) OW3.out.1 OW3.out.2.1 (OW3.out.2.2.elim .inl fun h => .inr ⟨_, h, BX.out⟩) hm9 hkm)
            have KR9 := Lib.hid (show w9.ownsRow w.heap.size 2 1 (.slice Ak' nk' ck') nk' ((s.step x).ks.map (.int .i64)) from own_kx KR2.out hkm fun b hb e => own_nem KR2.out IMy.out (by rw [hb, e]))
            have B9 := Lib.hid (show Below w.heap.size w w9 from BY.out.trans (hkm.below BY.out.size fun b hb e => by have := NB.out; omega))
            clear hm9 hg9 hs9 hkm
            refine hK.out _ _ (fun h => of_ff (by kernel_rfl) h) ?_
            clear hK
            try simp only [Act.put, List.setIfInBounds_toArray, List.set_cons_zero, List.set_cons_succ]
            refine OrdL.done (by kernel_rfl) ?_ _
            go_wp2_with fail
            go_roundw
            case rel =>
              refine ⟨j + 1, nk', ck', Ak', upd f x.ky (.slice A3 (pushB r x).length c3), by go_num, rfl, LN.out.1, NK.out, ?_, by rw [HTK.out]; exact KR9.out, ?_, B9.out⟩
              · rw [HTK.out]
                have e : (s.step x).row = fun i => if i = x.ky then pushB r x else s.row i := by
                  funext i
                  show (if i = x.ky then pushB (s.row i) x else s.row i) = _
                  by_cases h : i = x.ky
                  · rw [if_pos h, if_pos h, h, HRR.out]
                  · rw [if_neg h, if_neg h]
                rw [e]
                exact RW9.out
              · intro k
                rw [HTK.out]
                show (if k = x.ky then pushB (s.row k) x else s.row k).length ≤ j + 1
                have h1 := HPB.out.2
                have h2 := MM.out
                have h3 := RL.out
                have h4 := LN.out.2.2.2 k
                split
                · rename_i h
                  rw [h, ← HRR.out]
                  omega
                · omega
            case measure =>
              have := LN.out
              show n - ((j + 1 : Nat) : Int).toNat < n - (j : Int).toNat
              omega
          · obtain rfl : z = (p : Int) := hz
            have hi4 : (0 : Int) ≤ (p : Int) := by omega
            have hp : p < r.length := MM.out
            obtain ⟨xr, hxr⟩ : ∃ xr, r[p]? = some xr := ⟨_, List.getElem?_eq_getElem hp⟩
            have HXR := Lib.hid (show xr.ok from by
              have h1 := bs_inv (l.take j) (fun o ho => HOK.out o (List.mem_of_mem_take ho))
              exact (h1.ok x.ky xr (by rw [← SEQ.out, ← HRR.out]; exact List.mem_of_getElem? hxr)).1)
            have HTP := Lib.hid (show r.take (p + 1) = r.take p ++ [xr] from by rw [List.take_add_one, hxr]; rfl)
            have rd : Reads wr (fun _ => True) 3 A r.length (r.flatMap opB) := .of_own (own_kx OWN.out KK.out fun b hb e => HBK.out b hb e) (fun _ _ => trivial)
            obtain ⟨g, q, hA, -, -, -, -, -⟩ := bop_cells rd hp hxr
            subst hA
            have rd2 : Reads wr (fun b => b = g) 3 (some ⟨g, q, none⟩) r.length (r.flatMap opB) := ⟨rd.1, fun hn => by
              obtain ⟨b1, q1, e, h1, -, h3⟩ := rd.2 hn
              cases e
              exact ⟨g, q, rfl, h1, rfl, h3⟩⟩
            obtain ⟨mg, hmg⟩ : ∃ v, v = (mergeB xr y).getD ⟨0, 0, 0⟩ := ⟨_, rfl⟩
            obtain ⟨ok2, hok2⟩ : ∃ v, v = (mergeB xr y).isSome := ⟨_, rfl⟩
            have HMG := Lib.hid (And.intro hmg hok2)
            have HPX := Lib.hid (And.intro hp hxr)
            have hi5 : (p : Int) < ((p + 1 : Nat) : Int) := by omega
            have hi6 : (p : Int) ≤ 20 := by have := RL.out; omega
            have KM := Lib.hid (show ∀ W, Calls Tryz.prog 23 #[.agg #[.int .i64 xr.kd, .int .i64 xr.ky, .int .i64 xr.n], .agg #[.int .i64 y.kd, .int .i64 y.ky, .int .i64 y.n]] W fun e w' => e = .returned (.tuple #[.agg #[.int .i64 mg.kd, .int .i64 mg.ky, .int .i64 mg.n], .bool ok2]) ∧ Below W.heap.size W w' from fun W => by
              have h0 := merge_any xr y HXR.out PU.out.2.1 W
              rw [← hmg, ← hok2] at h0
              exact h0)
            clear hmg hok2 hp hxr
            go_upto_region 13 with fail
            refine wp_region_L (fun W => HB 25 W ob #[.int .i64 y.kd, .int .i64 y.ky, .int .i64 y.n] ∧ Reads W (fun b => b = g) 3 (some ⟨g, q, none⟩) r.length (r.flatMap opB)) [0, 1, 2, 3, 4, 6, 7, 8] (by kernel_rfl) ?_
            have SW := Lib.hid (show HB 25 wr.drew ob #[.int .i64 y.kd, .int .i64 y.ky, .int .i64 y.n] ∧ Reads wr.drew (fun b => b = g) 3 (some ⟨g, q, none⟩) r.length (r.flatMap opB) from ⟨OB.out.kx (kx_drew (fun _ => False) wr) (fun h => h), rd2.below (Below.refl wr.heap.size wr).drew⟩)
            have KQ := Lib.hid (show KX (fun b => b = ob) wc wr.drew from KK.out.trans (kx_drew _ _))
            generalize wr.drew = wq at *
            clear rd rd2 KK OB
            refine OrdL.take (i := 0) (oi := ⟨some 48, _, _, _, _, _⟩) (v := .slice (some ⟨g, q, none⟩) (p + 1) c) rfl (by decide) (by kernel_rfl) (by kernel_rfl) (by kernel_rfl) (fun _ _ _ h => h) (Or.inl ⟨by rfl, ?_⟩) SW.out ?_
            · intro W' hW
              go_simp
            try simp only [Act.put, List.setIfInBounds_toArray, List.set_cons_zero, List.set_cons_succ]
            refine OrdL.take (i := 1) (oi := ⟨some 49, _, _, _, _, _⟩) (v := .int .i64 p) rfl (by decide) (by kernel_rfl) (by kernel_rfl) (by kernel_rfl) (fun _ _ _ h => h) (Or.inl ⟨by rfl, ?_⟩) SW.out ?_
            · intro W' hW
              go_simp
            try simp only [Act.put, List.setIfInBounds_toArray, List.set_cons_zero, List.set_cons_succ]
            refine OrdL.take (i := 2) (oi := ⟨some 50, _, _, _, _, _⟩) (v := .pointer (some ⟨g, q + p * 3, none⟩)) rfl (by decide) (by kernel_rfl) (by kernel_rfl) (by kernel_rfl) (fun _ _ _ h => h) (Or.inl ⟨by rfl, ?_⟩) SW.out ?_
            · intro W' hW
              go_simp
              try (intro hh; omega)
            try simp only [Act.put, List.setIfInBounds_toArray, List.set_cons_zero, List.set_cons_succ]
            refine OrdL.take (i := 3) (oi := ⟨some 51, _, _, _, _, _⟩) (v := .agg #[.int .i64 xr.kd, .int .i64 xr.ky, .int .i64 xr.n]) rfl (by decide) (by kernel_rfl) (by kernel_rfl) (by kernel_rfl) (fun _ _ _ h => h) (Or.inl ⟨by rfl, ?_⟩) SW.out ?_
            · intro W' hW
              obtain ⟨g1, q1, hA, -, -, z0, z1, z2⟩ := bop_cells hW.2 HPX.out.1 HPX.out.2
              cases hA
              go_simp
            try simp only [Act.put, List.setIfInBounds_toArray, List.set_cons_zero, List.set_cons_succ]
            refine OrdL.take (i := 4) (oi := ⟨some 52, _, _, _, _, _⟩) (v := .agg #[.int .i64 y.kd, .int .i64 y.ky, .int .i64 y.n]) rfl (by decide) (by kernel_rfl) (by kernel_rfl) (by kernel_rfl) (fun _ _ _ h => h) (Or.inl ⟨by rfl, ?_⟩) SW.out ?_
            · intro W' hW
              have y0 : _ = some (Value.int .i64 y.kd) := HB.cell hW.1 0
              have y1 : _ = some (Value.int .i64 y.ky) := HB.cell hW.1 1
              have y2 : _ = some (Value.int .i64 y.n) := HB.cell hW.1 2
              go_simp
            try simp only [Act.put, List.setIfInBounds_toArray, List.set_cons_zero, List.set_cons_succ]
            refine OrdL.ready (rs := [5, 9]) (by kernel_rfl) (by simp) ?_
            refine AllL.cons (o := ⟨some 53, _, _, _, _, _⟩) rfl (fun K hK => ?_) (AllL.cons (o := ⟨some 10, _, _, _, _, _⟩) rfl (fun K hK => ?_) AllL.nil)
            · go_simp
              refine (KM.out _).mono ?_
              rintro e wA ⟨rfl, hb⟩
              obtain h0 := SW.out
              clear SW
              have SW := Lib.hid (And.intro (h0.1.below hb) (h0.2.below hb))
              clear h0
              obtain h0 := KQ.out
              clear KQ
              have KQ := Lib.hid (h0.trans (KX.of_below hb))
              clear h0
              clear hb
              refine hK.out _ _ (fun _ => SW.out) ?_
              clear hK
              try simp only [Act.put, List.setIfInBounds_toArray, List.set_cons_zero, List.set_cons_succ]
              refine OrdL.take (i := 6) (oi := ⟨some 47, _, _, _, _, _⟩) (v := .tuple #[.agg #[.int .i64 mg.kd, .int .i64 mg.ky, .int .i64 mg.n], .bool ok2]) rfl (by decide) (by kernel_rfl) (by kernel_rfl) (by kernel_rfl) (fun _ _ _ h => h) (Or.inl ⟨by rfl, ?_⟩) SW.out ?_
              · intro W' hW
                go_simp
              try simp only [Act.put, List.setIfInBounds_toArray, List.set_cons_zero, List.set_cons_succ]
              refine OrdL.take (i := 7) (oi := ⟨some 54, _, _, _, _, _⟩) (v := .agg #[.int .i64 mg.kd, .int .i64 mg.ky, .int .i64 mg.n]) rfl (by decide) (by kernel_rfl) (by kernel_rfl) (by kernel_rfl) (fun _ _ _ h => h) (Or.inl ⟨by rfl, ?_⟩) SW.out ?_
              · intro W' hW
                go_simp
              try simp only [Act.put, List.setIfInBounds_toArray, List.set_cons_zero, List.set_cons_succ]
              refine OrdL.take (i := 8) (oi := ⟨some 55, _, _, _, _, _⟩) (v := .bool ok2) rfl (by decide) (by kernel_rfl) (by kernel_rfl) (by kernel_rfl) (fun _ _ _ h => h) (Or.inl ⟨by rfl, ?_⟩) SW.out ?_
              · intro W' hW
                go_simp
              try simp only [Act.put, List.setIfInBounds_toArray, List.set_cons_zero, List.set_cons_succ]
              refine OrdL.ready (rs := [9]) (by kernel_rfl) (by simp) ?_
              refine AllL.cons (o := ⟨some 10, _, _, _, _, _⟩) rfl (fun K hK => ?_) AllL.nil
              obtain ⟨pb, hpb⟩ : ∃ n, n = wA.heap.size := ⟨_, rfl⟩
              obtain ⟨wB, hwo⟩ : ∃ W, W = wA.alloc (.cells #[.int .i64 0, .int .i64 0, .int .i64 0] 25) := ⟨_, rfl⟩
              have hb : Below wA.heap.size wA wB := by rw [hwo]; exact below_alloc _ _
              have PB := Lib.hid (show HB 25 wB pb #[.int .i64 0, .int .i64 0, .int .i64 0] from by rw [hwo, hpb]; exact HB.new _ _ _)
              have PN := Lib.hid (show pb ≠ ob from by have := SW.out.1.lt; omega)
              have PG := Lib.hid (show pb ≠ g from by obtain ⟨b1, q1, e1, hlt1, -, -, -, -⟩ := bop_cells SW.out.2 HPX.out.1 HPX.out.2; cases e1; omega)
              have PW := Lib.hid (show wc.heap.size ≤ pb from by have := KQ.out.size; omega)
              obtain h0 := SW.out
              clear SW
              have SW := Lib.hid (And.intro (h0.1.below hb) (h0.2.below hb))
              clear h0
              obtain h0 := KQ.out
              clear KQ
              have KQ := Lib.hid (h0.trans (KX.of_below hb))
              clear h0
              go_simp
              rw [← hwo, ← hpb]
              clear hwo hpb hb
              refine hK.out _ _ (fun _ => SW.out) ?_
              clear hK
              try simp only [Act.put, List.setIfInBounds_toArray, List.set_cons_zero, List.set_cons_succ]
              refine OrdL.ready (rs := [10]) (by kernel_rfl) (by simp) ?_
              refine AllL.cons (o := ⟨none, _, _, _, _, _⟩) rfl (fun K hK => ?_) AllL.nil
              obtain ⟨ws, hwo⟩ : ∃ W, W = ((wB.setCell ⟨pb, 0, none⟩ (.int .i64 mg.kd)).setCell ⟨pb, 1, none⟩ (.int .i64 mg.ky)).setCell ⟨pb, 2, none⟩ (.int .i64 mg.n) := ⟨_, rfl⟩
              have hkp : KX (fun b => b = pb) wB ws := by
                rw [hwo]
                exact ((KX.of_grown (X := fun k => k = pb) (gr_put _ pb 0 _) fun k e => (Option.some.inj e).symm).trans (KX.of_grown (X := fun k => k = pb) (gr_put _ pb 1 _) fun k e => (Option.some.inj e).symm)).trans (KX.of_grown (X := fun k => k = pb) (gr_put _ pb 2 _) fun k e => (Option.some.inj e).symm)
              have HN := Lib.hid (show HB 25 ws pb #[.int .i64 mg.kd, .int .i64 mg.ky, .int .i64 mg.n] from by rw [hwo]; exact ((PB.out.set 0 _).set 1 _).set 2 _)
              have t0 : _ = some (Value.int .i64 0) := PB.out.cell 0
              have t1 : _ = some (Value.int .i64 0) := PB.out.cell 1
              have t2 : _ = some (Value.int .i64 0) := PB.out.cell 2
              have s0 := PB.out.free 0
              have s1 := PB.out.free 1
              have s2 := PB.out.free 2
              go_simp
              rw [← hwo]
              clear hwo s0 s1 s2 t0 t1 t2
              have SWs := Lib.hid (show HB 25 ws ob #[.int .i64 y.kd, .int .i64 y.ky, .int .i64 y.n] ∧ Reads ws (fun b => b = g) 3 (some ⟨g, q, none⟩) r.length (r.flatMap opB) from ⟨SW.out.1.kx hkp (fun e => PN.out e.symm), SW.out.2.keep hkp.size (fun p hp hS => World.cell?_of_block (hkp.block p.block hp (fun e => PG.out (e.symm.trans hS))))⟩)
              refine hK.out _ _ (fun _ => SWs.out) ?_
              clear hK
              try simp only [Act.put, List.setIfInBounds_toArray, List.set_cons_zero, List.set_cons_succ]
              refine OrdL.ready (rs := [11]) (by kernel_rfl) (by simp) ?_
              refine AllL.cons (o := ⟨some 11, _, _, _, _, _⟩) rfl (fun K hK => ?_) AllL.nil
              go_simp
              refine hK.out _ _ (fun h => of_ff (by kernel_rfl) h) ?_
              clear hK
              try simp only [Act.put, List.setIfInBounds_toArray, List.set_cons_zero, List.set_cons_succ]
              refine OrdL.done (by kernel_rfl) ?_ _
              have KS := Lib.hid (show KX (fun b => b = ob) wc ws from KQ.out.trans_new hkp (fun b hb e => by have := PW.out; omega))
              have OB := Lib.hid (SW.out.1.kx hkp (fun e => PN.out e.symm))
              clear hkp SW SWs KQ PB PG
              cases ok2 with
              | false =>
                have hst : mergeB xr y = none := opt_f HMG.out.2
                have FIN := Lib.hid (show pushB r x = r.take (p + 1) ++ [y] from by rw [← PU.out.1, HTP.out]; exact pushB_stop hst)
                clear hst
                go_upto_region 16 with fail
                refine wp_region_L (fun W => HB 25 W ob #[.int .i64 y.kd, .int .i64 y.ky, .int .i64 y.n]) [0, 1, 2, 3, 4] (by kernel_rfl) ?_
                have SW := Lib.hid (show HB 25 ws.drew ob #[.int .i64 y.kd, .int .i64 y.ky, .int .i64 y.n] from OB.out.kx (kx_drew (fun _ => False) ws) (fun h => h))
                have KV := Lib.hid (show KX (fun b => b = ob) wc ws.drew from KS.out.trans (kx_drew _ _))
                generalize ws.drew = wv at *
                clear OB KS
                refine OrdL.take (i := 0) (oi := ⟨some 62, _, _, _, _, _⟩) (v := .map (some mb)) rfl (by decide) (by kernel_rfl) (by kernel_rfl) (by kernel_rfl) (fun _ _ _ h => h) (Or.inl ⟨by rfl, ?_⟩) SW.out ?_
                · intro W' hW
                  go_simp
                try simp only [Act.put, List.setIfInBounds_toArray, List.set_cons_zero, List.set_cons_succ]
                refine OrdL.take (i := 1) (oi := ⟨some 63, _, _, _, _, _⟩) (v := .pointer (some ⟨ob, 1, none⟩)) rfl (by decide) (by kernel_rfl) (by kernel_rfl) (by kernel_rfl) (fun _ _ _ h => h) (Or.inl ⟨by rfl, ?_⟩) SW.out ?_
                · intro W' hW
                  go_simp
                try simp only [Act.put, List.setIfInBounds_toArray, List.set_cons_zero, List.set_cons_succ]
                refine OrdL.take (i := 2) (oi := ⟨some 64, _, _, _, _, _⟩) (v := .int .i64 y.ky) rfl (by decide) (by kernel_rfl) (by kernel_rfl) (by kernel_rfl) (fun _ _ _ h => h) (Or.inl ⟨by rfl, ?_⟩) SW.out ?_
                · intro W' hW
                  have y1 : _ = some (Value.int .i64 y.ky) := HB.cell hW 1
                  go_simp
                try simp only [Act.put, List.setIfInBounds_toArray, List.set_cons_zero, List.set_cons_succ]
                refine OrdL.take (i := 3) (oi := ⟨some 65, _, _, _, _, _⟩) (v := .slice (some ⟨g, q, none⟩) (p + 1) c) rfl (by decide) (by kernel_rfl) (by kernel_rfl) (by kernel_rfl) (fun _ _ _ h => h) (Or.inl ⟨by rfl, ?_⟩) SW.out ?_
                · intro W' hW
                  go_simp
                try simp only [Act.put, List.setIfInBounds_toArray, List.set_cons_zero, List.set_cons_succ]
                refine OrdL.take (i := 4) (oi := ⟨some 66, _, _, _, _, _⟩) (v := .agg #[.int .i64 y.kd, .int .i64 y.ky, .int .i64 y.n]) rfl (by decide) (by kernel_rfl) (by kernel_rfl) (by kernel_rfl) (fun _ _ _ h => h) (Or.inl ⟨by rfl, ?_⟩) SW.out ?_
                · intro W' hW
                  have y0 : _ = some (Value.int .i64 y.kd) := HB.cell hW 0
                  have y1 : _ = some (Value.int .i64 y.ky) := HB.cell hW 1
                  have y2 : _ = some (Value.int .i64 y.n) := HB.cell hW 2
                  go_simp
                try simp only [Act.put, List.setIfInBounds_toArray, List.set_cons_zero, List.set_cons_succ]
                refine OrdL.ready (rs := [5]) (by kernel_rfl) (by simp) ?_
                refine AllL.cons (o := ⟨some 67, _, _, _, _, _⟩) rfl (fun K hK => ?_) AllL.nil
                obtain ⟨wx, hwx⟩ : ∃ W, W = wv.alloc (.cells #[.int .i64 y.kd, .int .i64 y.ky, .int .i64 y.n] 25) := ⟨_, rfl⟩
                have bx : Below wv.heap.size wv wx := by rw [hwx]; exact below_alloc _ _
                have rx : Reads wx (fun _ => True) 3 (some ⟨wv.heap.size, 0, none⟩) 1 ([y].flatMap opB) := by rw [hwx]; exact Reads.new wv #[.int .i64 y.kd, .int .i64 y.ky, .int .i64 y.n] _ rfl trivial
                have ow0 : wv.ownsRow w.heap.size 25 3 (.slice (some ⟨g, q, none⟩) (p + 1) c) (p + 1) ((r.take ((p + 1))).flatMap opB) := by
                  have h0 := own_cut (own_kx OWN.out KV.out fun b hb e => HBK.out b hb e) (show (p + 1) ≤ r.length from MM.out)
                  rw [opB_take] at h0
                  exact h0
                have szv : w.heap.size ≤ wv.heap.size := Nat.le_trans B.out.size KV.out.size
                obtain ⟨A3, c3, wy, run, ho3, hk3, hw3⟩ := row_more (c := 1) ele_op (own_kx ow0 (KX.of_below (X := fun _ => False) bx) fun _ _ h => h) (Nat.le_trans szv bx.size) rx (opB_one _) (by have := MM.out; have := RL.out; omega) 22
                have SX := Lib.hid (SW.out.below bx)
                have SY := Lib.hid (show HB 25 wy ob #[.int .i64 y.kd, .int .i64 y.ky, .int .i64 y.n] from SX.out.kx hk3 (fun e => HBK.out ob (own_blk e) rfl))
                have HPB := Lib.hid (show pushB r x = r.take ((p + 1)) ++ [y] ∧ (pushB r x).length = (p + 1) + 1 from ⟨FIN.out, by rw [FIN.out, List.length_append, List.length_take, Nat.min_eq_left (show (p + 1) ≤ r.length from MM.out)]; rfl⟩)
                rw [← List.flatMap_append, ← HPB.out.1, ← HPB.out.2] at ho3
                rw [← HPB.out.2] at run hw3
                have RWv := Lib.hid (show RW wv w.heap.size mb f s.row from RW0.out.kx KV.out (fun e => OBN.out.2.1 e) (fun k v b hf hvb => OBN.out.1 k v b hf hvb))
                have kxy : KX (fun b => (Value.slice (some ⟨g, q, none⟩) (p + 1) c).ownBlock = some b) wv wy := (KX.of_below bx).trans hk3
                have IMy := Lib.hid (show IntMap wy mb f from RWv.out.m.keep (kxy.block mb RWv.out.m.lt (own_nem ow0 RWv.out.m)))
                have RUN := Lib.hid run
                have OW3 := Lib.hid (And.intro ho3 (And.intro kxy hw3))
                have KR2 := Lib.hid (show wy.ownsRow w.heap.size 2 1 (.slice Ak' nk' ck') nk' ((s.step x).ks.map (.int .i64)) from own_kx (own_kx KR.out KV.out fun b hb e => KOB.out b hb e) kxy fun b hb e => own_ne_own KR.out OWN.out (by decide) b hb (own_blk e))
                have BY := Lib.hid (show Below w.heap.size w wy from (B.out.trans (KV.out.below B.out.size fun b hb e => by have := OBN.out.2.2; omega)).trans (kxy.below szv fun b hb e => by have := (ow0.lt b e).1; omega))
                have BX := Lib.hid bx.size
                clear run ho3 kxy hw3 hk3 ow0 rx szv
                go_simp
                rw [← hwx]
                clear bx
                refine hK.out _ _ (fun _ => SX.out) ?_
                clear hK
                try simp only [Act.put, List.setIfInBounds_toArray, List.set_cons_zero, List.set_cons_succ]
                refine OrdL.ready (rs := [6]) (by kernel_rfl) (by simp) ?_
                refine AllL.cons (o := ⟨some 68, _, _, _, _, _⟩) rfl (fun K hK => ?_) AllL.nil
                refine step_app (.tmp 65) (.tmp 67) 22 rfl (.slice (some ⟨g, q, none⟩) ((p + 1)) c) _ _ wy rfl rfl RUN.out ?_
                refine hK.out _ _ (fun _ => SY.out) ?_
                clear hK
                try simp only [Act.put, List.setIfInBounds_toArray, List.set_cons_zero, List.set_cons_succ]
                refine OrdL.ready (rs := [7]) (by kernel_rfl) (by simp) ?_
                refine AllL.cons (o := ⟨none, _, _, _, _, _⟩) rfl (fun K hK => ?_) AllL.nil
                refine step_mapUpdate (.tmp 62) (.tmp 64) (.tmp 68) rfl Tryz.underlying76 Tryz.underlying2 mb f IMy.out rfl y.ky rfl (.slice A3 (pushB r x).length c3) rfl (fun w9 hm9 hg9 hs9 => ?_)
                have hkm : KX (fun b => b = mb) wy w9 := KX.of_grown hg9 fun k e => (Option.some.inj e).symm
                rw [PU.out.2.2] at hm9
                have RW9 := Lib.hid (show RW w9 w.heap.size mb (upd f x.ky (.slice A3 (pushB r x).length c3)) (fun i => if i = x.ky then pushB r x else s.row i) from RWv.out.put (r := pushB r x) (k := x.ky) (A := (some ⟨g, q, none⟩)) (n := (p + 1)) (c := c) (fun b hb => ⟨_, HB1.out b (own_blk hb), own_blk hb⟩) (fun e => pushR_ne _ _ (List.reverse_eq_nil_iff.1 e)) OW3.out.1 OW3.out.2.1 (OW3.out.2.2.elim .inl fun h => .inr ⟨_, h, BX.out⟩) hm9 hkm)
                have KR9 := Lib.hid (show w9.ownsRow w.heap.size 2 1 (.slice Ak' nk' ck') nk' ((s.step x).ks.map (.int .i64)) from own_kx KR2.out hkm fun b hb e => own_nem KR2.out IMy.out (by rw [hb, e]))
                have B9 := Lib.hid (show Below w.heap.size w w9 from BY.out.trans (hkm.below BY.out.size fun b hb e => by have := NB.out; omega))
                clear hm9 hg9 hs9 hkm
                refine hK.out _ _ (fun h => of_ff (by kernel_rfl) h) ?_
                clear hK
                try simp only [Act.put, List.setIfInBounds_toArray, List.set_cons_zero, List.set_cons_succ]
                refine OrdL.done (by kernel_rfl) ?_ _
                go_wp2_with fail
                go_roundw
                case rel =>
                  refine ⟨j + 1, nk', ck', Ak', upd f x.ky (.slice A3 (pushB r x).length c3), by go_num, rfl, LN.out.1, NK.out, ?_, by rw [HTK.out]; exact KR9.out, ?_, B9.out⟩
                  · rw [HTK.out]
                    have e : (s.step x).row = fun i => if i = x.ky then pushB r x else s.row i := by
                      funext i
                      show (if i = x.ky then pushB (s.row i) x else s.row i) = _
                      by_cases h : i = x.ky
                      · rw [if_pos h, if_pos h, h, HRR.out]
                      · rw [if_neg h, if_neg h]
                    rw [e]
                    exact RW9.out
                  · intro k
                    rw [HTK.out]
                    show (if k = x.ky then pushB (s.row k) x else s.row k).length ≤ j + 1
                    have h1 := HPB.out.2
                    have h2 := MM.out
                    have h3 := RL.out
                    have h4 := LN.out.2.2.2 k
                    split
                    · rename_i h
                      rw [h, ← HRR.out]
                      omega
                    · omega
                case measure =>
                  have := LN.out
                  show n - ((j + 1 : Nat) : Int).toNat < n - (j : Int).toNat
                  omega
              | true =>
                have hst : mergeB xr y = some mg := opt_t HMG.out
                have PU2 := Lib.hid (show pushB (r.take p) mg = pushB r x ∧ mg.ok ∧ mg.ky = x.ky from ⟨by rw [← pushB_snoc hst, ← HTP.out]; exact PU.out.1, (merge_ok hst HXR.out PU.out.2.1).1, by rw [(merge_ok hst HXR.out PU.out.2.1).2.1]; exact PU.out.2.2⟩)
                clear hst
                go_upto_region 15 with fail
                refine wp_region_L (fun W => HB 25 W pb #[.int .i64 mg.kd, .int .i64 mg.ky, .int .i64 mg.n]) [0, 1, 2, 3] (by kernel_rfl) ?_
                have SW := Lib.hid (show HB 25 ws.drew pb #[.int .i64 mg.kd, .int .i64 mg.ky, .int .i64 mg.n] from HN.out.kx (kx_drew (fun _ => False) ws) (fun h => h))
                have OB2 := Lib.hid (show HB 25 ws.drew ob #[.int .i64 y.kd, .int .i64 y.ky, .int .i64 y.n] from OB.out.kx (kx_drew (fun _ => False) ws) (fun h => h))
                have KQ := Lib.hid (show KX (fun b => b = ob) wc ws.drew from KS.out.trans (kx_drew _ _))
                generalize ws.drew = wt at *
                clear HN OB KS
                refine OrdL.take (i := 0) (oi := ⟨some 58, _, _, _, _, _⟩) (v := .slice (some ⟨g, q, none⟩) (p + 1) c) rfl (by decide) (by kernel_rfl) (by kernel_rfl) (by kernel_rfl) (fun _ _ _ h => h) (Or.inl ⟨by rfl, ?_⟩) SW.out ?_
                · intro W' hW
                  go_simp
                try simp only [Act.put, List.setIfInBounds_toArray, List.set_cons_zero, List.set_cons_succ]
                refine OrdL.take (i := 1) (oi := ⟨some 59, _, _, _, _, _⟩) (v := .int .i64 p) rfl (by decide) (by kernel_rfl) (by kernel_rfl) (by kernel_rfl) (fun _ _ _ h => h) (Or.inl ⟨by rfl, ?_⟩) SW.out ?_
                · intro W' hW
                  go_simp
                try simp only [Act.put, List.setIfInBounds_toArray, List.set_cons_zero, List.set_cons_succ]
                refine OrdL.take (i := 2) (oi := ⟨some 60, _, _, _, _, _⟩) (v := .slice (some ⟨g, q, none⟩) p c) rfl (by decide) (by kernel_rfl) (by kernel_rfl) (by kernel_rfl) (fun _ _ _ h => h) (Or.inl ⟨by rfl, ?_⟩) SW.out ?_
                · intro W' hW
                  have hc1 : (p : Int) ≤ (c : Int) := by have := HCP.out; have := HPX.out.1; omega
                  go_simp
                try simp only [Act.put, List.setIfInBounds_toArray, List.set_cons_zero, List.set_cons_succ]
                refine OrdL.take (i := 3) (oi := ⟨some 61, _, _, _, _, _⟩) (v := .agg #[.int .i64 mg.kd, .int .i64 mg.ky, .int .i64 mg.n]) rfl (by decide) (by kernel_rfl) (by kernel_rfl) (by kernel_rfl) (fun _ _ _ h => h) (Or.inl ⟨by rfl, ?_⟩) SW.out ?_
                · intro W' hW
                  have g0 : _ = some (Value.int .i64 mg.kd) := HB.cell hW 0
                  have g1 : _ = some (Value.int .i64 mg.ky) := HB.cell hW 1
                  have g2 : _ = some (Value.int .i64 mg.n) := HB.cell hW 2
                  go_simp
                try simp only [Act.put, List.setIfInBounds_toArray, List.set_cons_zero, List.set_cons_succ]
                refine OrdL.ready (rs := [4]) (by kernel_rfl) (by simp) ?_
                refine AllL.cons (o := ⟨some 7, _, _, _, _, _⟩) rfl (fun K hK => ?_) AllL.nil
                go_simp
                refine hK.out _ _ (fun _ => SW.out) ?_
                clear hK
                try simp only [Act.put, List.setIfInBounds_toArray, List.set_cons_zero, List.set_cons_succ]
                refine OrdL.ready (rs := [5]) (by kernel_rfl) (by simp) ?_
                refine AllL.cons (o := ⟨none, _, _, _, _, _⟩) rfl (fun K hK => ?_) AllL.nil
                obtain ⟨wu, hwo⟩ : ∃ W, W = ((wt.setCell ⟨ob, 0, none⟩ (.int .i64 mg.kd)).setCell ⟨ob, 1, none⟩ (.int .i64 mg.ky)).setCell ⟨ob, 2, none⟩ (.int .i64 mg.n) := ⟨_, rfl⟩
                have hkp : KX (fun b => b = ob) wt wu := by
                  rw [hwo]
                  exact ((KX.of_grown (X := fun k => k = ob) (gr_put _ ob 0 _) fun k e => (Option.some.inj e).symm).trans (KX.of_grown (X := fun k => k = ob) (gr_put _ ob 1 _) fun k e => (Option.some.inj e).symm)).trans (KX.of_grown (X := fun k => k = ob) (gr_put _ ob 2 _) fun k e => (Option.some.inj e).symm)
                have HN := Lib.hid (show HB 25 wu ob #[.int .i64 mg.kd, .int .i64 mg.ky, .int .i64 mg.n] from by rw [hwo]; exact ((OB2.out.set 0 _).set 1 _).set 2 _)
                have t0 : _ = some (Value.int .i64 y.kd) := OB2.out.cell 0
                have t1 : _ = some (Value.int .i64 y.ky) := OB2.out.cell 1
                have t2 : _ = some (Value.int .i64 y.n) := OB2.out.cell 2
                have s0 := OB2.out.free 0
                have s1 := OB2.out.free 1
                have s2 := OB2.out.free 2
                go_simp
                rw [← hwo]
                clear hwo s0 s1 s2 t0 t1 t2
                refine hK.out _ _ (fun h => of_ff (by kernel_rfl) h) ?_
                clear hK
                try simp only [Act.put, List.setIfInBounds_toArray, List.set_cons_zero, List.set_cons_succ]
                refine OrdL.done (by kernel_rfl) ?_ _
                have KU := Lib.hid (KQ.out.trans hkp)
                clear hkp SW OB2 KQ
                have hW2 : IntKind.i64.wrap ((p : Int) - 1) = zOf p := zOf_wrap _ (by have := MM.out; have := RL.out; omega)
                go_wp2_with fail
                go_roundw
                case rel => exact ⟨p, mg, _, rfl, rfl, by first | rfl | exact hW2, by have := MM.out; omega, PU2.out.1, PU2.out.2.1, PU2.out.2.2, HN.out, KU.out⟩
                case measure =>
                  have h1 : zOf p + 1 = p := by cases p with | zero => rfl | succ p => show ((p : Nat) : Int) + 1 = _; omega
                  first
                  | (show (zOf p + 1).toNat < ((p : Int) + 1).toNat; omega)
                  | (rw [hW2]; show (zOf p + 1).toNat < ((p : Int) + 1).toNat; omega)
            · obtain ⟨pb, hpb⟩ : ∃ n, n = wq.heap.size := ⟨_, rfl⟩
              obtain ⟨wA, hwo⟩ : ∃ W, W = wq.alloc (.cells #[.int .i64 0, .int .i64 0, .int .i64 0] 25) := ⟨_, rfl⟩
              have hb : Below wq.heap.size wq wA := by rw [hwo]; exact below_alloc _ _
              have PB := Lib.hid (show HB 25 wA pb #[.int .i64 0, .int .i64 0, .int .i64 0] from by rw [hwo, hpb]; exact HB.new _ _ _)
              have PN := Lib.hid (show pb ≠ ob from by have := SW.out.1.lt; omega)
              have PG := Lib.hid (show pb ≠ g from by obtain ⟨b1, q1, e1, hlt1, -, -, -, -⟩ := bop_cells SW.out.2 HPX.out.1 HPX.out.2; cases e1; omega)
              have PW := Lib.hid (show wc.heap.size ≤ pb from by have := KQ.out.size; omega)
              obtain h0 := SW.out
              clear SW
              have SW := Lib.hid (And.intro (h0.1.below hb) (h0.2.below hb))
              clear h0
              obtain h0 := KQ.out
              clear KQ
              have KQ := Lib.hid (h0.trans (KX.of_below hb))
              clear h0
              go_simp
              rw [← hwo, ← hpb]
              clear hwo hpb hb
              refine hK.out _ _ (fun _ => SW.out) ?_
              clear hK
              try simp only [Act.put, List.setIfInBounds_toArray, List.set_cons_zero, List.set_cons_succ]
              refine OrdL.ready (rs := [5]) (by kernel_rfl) (by simp) ?_
              refine AllL.cons (o := ⟨some 53, _, _, _, _, _⟩) rfl (fun K hK => ?_) AllL.nil
              go_simp
              refine (KM.out _).mono ?_
              rintro e wB ⟨rfl, hb⟩
              obtain h0 := SW.out
              clear SW
              have SW := Lib.hid (And.intro (h0.1.below hb) (h0.2.below hb))
              clear h0
              obtain h0 := KQ.out
              clear KQ
              have KQ := Lib.hid (h0.trans (KX.of_below hb))
              clear h0
              obtain h0 := PB.out
              clear PB
              have PB := Lib.hid (h0.below hb)
              clear h0
              clear hb
              refine hK.out _ _ (fun _ => SW.out) ?_
              clear hK
              try simp only [Act.put, List.setIfInBounds_toArray, List.set_cons_zero, List.set_cons_succ]
              refine OrdL.take (i := 6) (oi := ⟨some 47, _, _, _, _, _⟩) (v := .tuple #[.agg #[.int .i64 mg.kd, .int .i64 mg.ky, .int .i64 mg.n], .bool ok2]) rfl (by decide) (by kernel_rfl) (by kernel_rfl) (by kernel_rfl) (fun _ _ _ h => h) (Or.inl ⟨by rfl, ?_⟩) SW.out ?_
              · intro W' hW
                go_simp
              try simp only [Act.put, List.setIfInBounds_toArray, List.set_cons_zero, List.set_cons_succ]
              refine OrdL.take (i := 7) (oi := ⟨some 54, _, _, _, _, _⟩) (v := .agg #[.int .i64 mg.kd, .int .i64 mg.ky, .int .i64 mg.n]) rfl (by decide) (by kernel_rfl) (by kernel_rfl) (by kernel_rfl) (fun _ _ _ h => h) (Or.inl ⟨by rfl, ?_⟩) SW.out ?_
              · intro W' hW
                go_simp
              try simp only [Act.put, List.setIfInBounds_toArray, List.set_cons_zero, List.set_cons_succ]
              refine OrdL.take (i := 8) (oi := ⟨some 55, _, _, _, _, _⟩) (v := .bool ok2) rfl (by decide) (by kernel_rfl) (by kernel_rfl) (by kernel_rfl) (fun _ _ _ h => h) (Or.inl ⟨by rfl, ?_⟩) SW.out ?_
              · intro W' hW
                go_simp
              try simp only [Act.put, List.setIfInBounds_toArray, List.set_cons_zero, List.set_cons_succ]
              refine OrdL.ready (rs := [10]) (by kernel_rfl) (by simp) ?_
              refine AllL.cons (o := ⟨none, _, _, _, _, _⟩) rfl (fun K hK => ?_) AllL.nil
              obtain ⟨ws, hwo⟩ : ∃ W, W = ((wB.setCell ⟨pb, 0, none⟩ (.int .i64 mg.kd)).setCell ⟨pb, 1, none⟩ (.int .i64 mg.ky)).setCell ⟨pb, 2, none⟩ (.int .i64 mg.n) := ⟨_, rfl⟩
              have hkp : KX (fun b => b = pb) wB ws := by
                rw [hwo]
                exact ((KX.of_grown (X := fun k => k = pb) (gr_put _ pb 0 _) fun k e => (Option.some.inj e).symm).trans (KX.of_grown (X := fun k => k = pb) (gr_put _ pb 1 _) fun k e => (Option.some.inj e).symm)).trans (KX.of_grown (X := fun k => k = pb) (gr_put _ pb 2 _) fun k e => (Option.some.inj e).symm)
              have HN := Lib.hid (show HB 25 ws pb #[.int .i64 mg.kd, .int .i64 mg.ky, .int .i64 mg.n] from by rw [hwo]; exact ((PB.out.set 0 _).set 1 _).set 2 _)
              have t0 : _ = some (Value.int .i64 0) := PB.out.cell 0
              have t1 : _ = some (Value.int .i64 0) := PB.out.cell 1
              have t2 : _ = some (Value.int .i64 0) := PB.out.cell 2
              have s0 := PB.out.free 0
              have s1 := PB.out.free 1
              have s2 := PB.out.free 2
              go_simp
              rw [← hwo]
              clear hwo s0 s1 s2 t0 t1 t2
              have SWs := Lib.hid (show HB 25 ws ob #[.int .i64 y.kd, .int .i64 y.ky, .int .i64 y.n] ∧ Reads ws (fun b => b = g) 3 (some ⟨g, q, none⟩) r.length (r.flatMap opB) from ⟨SW.out.1.kx hkp (fun e => PN.out e.symm), SW.out.2.keep hkp.size (fun p hp hS => World.cell?_of_block (hkp.block p.block hp (fun e => PG.out (e.symm.trans hS))))⟩)
              refine hK.out _ _ (fun _ => SWs.out) ?_
              clear hK
              try simp only [Act.put, List.setIfInBounds_toArray, List.set_cons_zero, List.set_cons_succ]
              refine OrdL.ready (rs := [11]) (by kernel_rfl) (by simp) ?_
              refine AllL.cons (o := ⟨some 11, _, _, _, _, _⟩) rfl (fun K hK => ?_) AllL.nil
              go_simp
              refine hK.out _ _ (fun h => of_ff (by kernel_rfl) h) ?_
              clear hK
              try simp only [Act.put, List.setIfInBounds_toArray, List.set_cons_zero, List.set_cons_succ]
              refine OrdL.done (by kernel_rfl) ?_ _
              have KS := Lib.hid (show KX (fun b => b = ob) wc ws from KQ.out.trans_new hkp (fun b hb e => by have := PW.out; omega))
              have OB := Lib.hid (SW.out.1.kx hkp (fun e => PN.out e.symm))
              clear hkp SW SWs KQ PB PG
              cases ok2 with
              | false =>
                have hst : mergeB xr y = none := opt_f HMG.out.2
                have FIN := Lib.hid (show pushB r x = r.take (p + 1) ++ [y] from by rw [← PU.out.1, HTP.out]; exact pushB_stop hst)
                clear hst
                go_upto_region 16 with fail
                refine wp_region_L (fun W => HB 25 W ob #[.int .i64 y.kd, .int .i64 y.ky, .int .i64 y.n]) [0, 1, 2, 3, 4] (by kernel_rfl) ?_
                have SW := Lib.hid (show HB 25 ws.drew ob #[.int .i64 y.kd, .int .i64 y.ky, .int .i64 y.n] from OB.out.kx (kx_drew (fun _ => False) ws) (fun h => h))
                have KV := Lib.hid (show KX (fun b => b = ob) wc ws.drew from KS.out.trans (kx_drew _ _))
                generalize ws.drew = wv at *
                clear OB KS
                refine OrdL.take (i := 0) (oi := ⟨some 62, _, _, _, _, _⟩) (v := .map (some mb)) rfl (by decide) (by kernel_rfl) (by kernel_rfl) (by kernel_rfl) (fun _ _ _ h => h) (Or.inl ⟨by rfl, ?_⟩) SW.out ?_
                · intro W' hW
                  go_simp
                try simp only [Act.put, List.setIfInBounds_toArray, List.set_cons_zero, List.set_cons_succ]
                refine OrdL.take (i := 1) (oi := ⟨some 63, _, _, _, _, _⟩) (v := .pointer (some ⟨ob, 1, none⟩)) rfl (by decide) (by kernel_rfl) (by kernel_rfl) (by kernel_rfl) (fun _ _ _ h => h) (Or.inl ⟨by rfl, ?_⟩) SW.out ?_
                · intro W' hW
                  go_simp
                try simp only [Act.put, List.setIfInBounds_toArray, List.set_cons_zero, List.set_cons_succ]
                refine OrdL.take (i := 2) (oi := ⟨some 64, _, _, _, _, _⟩) (v := .int .i64 y.ky) rfl (by decide) (by kernel_rfl) (by kernel_rfl) (by kernel_rfl) (fun _ _ _ h => h) (Or.inl ⟨by rfl, ?_⟩) SW.out ?_
                · intro W' hW
                  have y1 : _ = some (Value.int .i64 y.ky) := HB.cell hW 1
                  go_simp
                try simp only [Act.put, List.setIfInBounds_toArray, List.set_cons_zero, List.set_cons_succ]
                refine OrdL.take (i := 3) (oi := ⟨some 65, _, _, _, _, _⟩) (v := .slice (some ⟨g, q, none⟩) (p + 1) c) rfl (by decide) (by kernel_rfl) (by kernel_rfl) (by kernel_rfl) (fun _ _ _ h => h) (Or.inl ⟨by rfl, ?_⟩) SW.out ?_
                · intro W' hW
                  go_simp
                try simp only [Act.put, List.setIfInBounds_toArray, List.set_cons_zero, List.set_cons_succ]
                refine OrdL.take (i := 4) (oi := ⟨some 66, _, _, _, _, _⟩) (v := .agg #[.int .i64 y.kd, .int .i64 y.ky, .int .i64 y.n]) rfl (by decide) (by kernel_rfl) (by kernel_rfl) (by kernel_rfl) (fun _ _ _ h => h) (Or.inl ⟨by rfl, ?_⟩) SW.out ?_
                · intro W' hW
                  have y0 : _ = some (Value.int .i64 y.kd) := HB.cell hW 0
                  have y1 : _ = some (Value.int .i64 y.ky) := HB.cell hW 1
                  have y2 : _ = some (Value.int .i64 y.n) := HB.cell hW 2
                  go_simp
                try simp only [Act.put, List.setIfInBounds_toArray, List.set_cons_zero, List.set_cons_succ]
                refine OrdL.ready (rs := [5]) (by kernel_rfl) (by simp) ?_
                refine AllL.cons (o := ⟨some 67, _, _, _, _, _⟩) rfl (fun K hK => ?_) AllL.nil
                obtain ⟨wx, hwx⟩ : ∃ W, W = wv.alloc (.cells #[.int .i64 y.kd, .int .i64 y.ky, .int .i64 y.n] 25) := ⟨_, rfl⟩
                have bx : Below wv.heap.size wv wx := by rw [hwx]; exact below_alloc _ _
                have rx : Reads wx (fun _ => True) 3 (some ⟨wv.heap.size, 0, none⟩) 1 ([y].flatMap opB) := by rw [hwx]; exact Reads.new wv #[.int .i64 y.kd, .int .i64 y.ky, .int .i64 y.n] _ rfl trivial
                have ow0 : wv.ownsRow w.heap.size 25 3 (.slice (some ⟨g, q, none⟩) (p + 1) c) (p + 1) ((r.take ((p + 1))).flatMap opB) := by
                  have h0 := own_cut (own_kx OWN.out KV.out fun b hb e => HBK.out b hb e) (show (p + 1) ≤ r.length from MM.out)
                  rw [opB_take] at h0
                  exact h0
                have szv : w.heap.size ≤ wv.heap.size := Nat.le_trans B.out.size KV.out.size
                obtain ⟨A3, c3, wy, run, ho3, hk3, hw3⟩ := row_more (c := 1) ele_op (own_kx ow0 (KX.of_below (X := fun _ => False) bx) fun _ _ h => h) (Nat.le_trans szv bx.size) rx (opB_one _) (by have := MM.out; have := RL.out; omega) 22
                have SX := Lib.hid (SW.out.below bx)
                have SY := Lib.hid (show HB 25 wy ob #[.int .i64 y.kd, .int .i64 y.ky, .int .i64 y.n] from SX.out.kx hk3 (fun e => HBK.out ob (own_blk e) rfl))
                have HPB := Lib.hid (show pushB r x = r.take ((p + 1)) ++ [y] ∧ (pushB r x).length = (p + 1) + 1 from ⟨FIN.out, by rw [FIN.out, List.length_append, List.length_take, Nat.min_eq_left (show (p + 1) ≤ r.length from MM.out)]; rfl⟩)
                rw [← List.flatMap_append, ← HPB.out.1, ← HPB.out.2] at ho3
                rw [← HPB.out.2] at run hw3
                have RWv := Lib.hid (show RW wv w.heap.size mb f s.row from RW0.out.kx KV.out (fun e => OBN.out.2.1 e) (fun k v b hf hvb => OBN.out.1 k v b hf hvb))
                have kxy : KX (fun b => (Value.slice (some ⟨g, q, none⟩) (p + 1) c).ownBlock = some b) wv wy := (KX.of_below bx).trans hk3
                have IMy := Lib.hid (show IntMap wy mb f from RWv.out.m.keep (kxy.block mb RWv.out.m.lt (own_nem ow0 RWv.out.m)))
                have RUN := Lib.hid run
                have OW3 := Lib.hid (And.intro ho3 (And.intro kxy hw3))
                have KR2 := Lib.hid (show wy.ownsRow w.heap.size 2 1 (.slice Ak' nk' ck') nk' ((s.step x).ks.map (.int .i64)) from own_kx (own_kx KR.out KV.out fun b hb e => KOB.out b hb e) kxy fun b hb e => own_ne_own KR.out OWN.out (by decide) b hb (own_blk e))
                have BY := Lib.hid (show Below w.heap.size w wy from (B.out.trans (KV.out.below B.out.size fun b hb e => by have := OBN.out.2.2; omega)).trans (kxy.below szv fun b hb e => by have := (ow0.lt b e).1; omega))
                have BX := Lib.hid bx.size
                clear run ho3 kxy hw3 hk3 ow0 rx szv
                go_simp
                rw [← hwx]
                clear bx
                refine hK.out _ _ (fun _ => SX.out) ?_
                clear hK
                try simp only [Act.put, List.setIfInBounds_toArray, List.set_cons_zero, List.set_cons_succ]
                refine OrdL.ready (rs := [6]) (by kernel_rfl) (by simp) ?_
                refine AllL.cons (o := ⟨some 68, _, _, _, _, _⟩) rfl (fun K hK => ?_) AllL.nil
                refine step_app (.tmp 65) (.tmp 67) 22 rfl (.slice (some ⟨g, q, none⟩) ((p + 1)) c) _ _ wy rfl rfl RUN.out ?_
                refine hK.out _ _ (fun _ => SY.out) ?_
                clear hK
                try simp only [Act.put, List.setIfInBounds_toArray, List.set_cons_zero, List.set_cons_succ]
                refine OrdL.ready (rs := [7]) (by kernel_rfl) (by simp) ?_
                refine AllL.cons (o := ⟨none, _, _, _, _, _⟩) rfl (fun K hK => ?_) AllL.nil
                refine step_mapUpdate (.tmp 62) (.tmp 64) (.tmp 68) rfl Tryz.underlying76 Tryz.underlying2 mb f IMy.out rfl y.ky rfl (.slice A3 (pushB r x).length c3) rfl (fun w9 hm9 hg9 hs9 => ?_)
                have hkm : KX (fun b => b = mb) wy w9 := KX.of_grown hg9 fun k e => (Option.some.inj e).symm
                rw [PU.out.2.2] at hm9
                have RW9 := Lib.hid (show RW w9 w.heap.size mb (upd f x.ky (.slice A3 (pushB r x).length c3)) (fun i => if i = x.ky then pushB r x else s.row i) from RWv.out.put (r := pushB r x) (k := x.ky) (A := (some ⟨g, q, none⟩)) (n := (p + 1)) (c := c) (fun b hb => ⟨_, HB1.out b (own_blk hb), own_blk hb⟩) (fun e => pushR_ne _ _ (List.reverse_eq_nil_iff.1 e)) OW3.out.1 OW3.out.2.1 (OW3.out.2.2.elim .inl fun h => .inr ⟨_, h, BX.out⟩) hm9 hkm)
                have KR9 := Lib.hid (show w9.ownsRow w.heap.size 2 1 (.slice Ak' nk' ck') nk' ((s.step x).ks.map (.int .i64)) from own_kx KR2.out hkm fun b hb e => own_nem KR2.out IMy.out (by rw [hb, e]))
                have B9 := Lib.hid (show Below w.heap.size w w9 from BY.out.trans (hkm.below BY.out.size fun b hb e => by have := NB.out; omega))
                clear hm9 hg9 hs9 hkm
                refine hK.out _ _ (fun h => of_ff (by kernel_rfl) h) ?_
                clear hK
                try simp only [Act.put, List.setIfInBounds_toArray, List.set_cons_zero, List.set_cons_succ]
                refine OrdL.done (by kernel_rfl) ?_ _
                go_wp2_with fail
                go_roundw
                case rel =>
                  refine ⟨j + 1, nk', ck', Ak', upd f x.ky (.slice A3 (pushB r x).length c3), by go_num, rfl, LN.out.1, NK.out, ?_, by rw [HTK.out]; exact KR9.out, ?_, B9.out⟩
                  · rw [HTK.out]
                    have e : (s.step x).row = fun i => if i = x.ky then pushB r x else s.row i := by
                      funext i
                      show (if i = x.ky then pushB (s.row i) x else s.row i) = _
                      by_cases h : i = x.ky
                      · rw [if_pos h, if_pos h, h, HRR.out]
                      · rw [if_neg h, if_neg h]
                    rw [e]
                    exact RW9.out
                  · intro k
                    rw [HTK.out]
                    show (if k = x.ky then pushB (s.row k) x else s.row k).length ≤ j + 1
                    have h1 := HPB.out.2
                    have h2 := MM.out
                    have h3 := RL.out
                    have h4 := LN.out.2.2.2 k
                    split
                    · rename_i h
                      rw [h, ← HRR.out]
                      omega
                    · omega
                case measure =>
                  have := LN.out
                  show n - ((j + 1 : Nat) : Int).toNat < n - (j : Int).toNat
                  omega
              | true =>
                have hst : mergeB xr y = some mg := opt_t HMG.out
                have PU2 := Lib.hid (show pushB (r.take p) mg = pushB r x ∧ mg.ok ∧ mg.ky = x.ky from ⟨by rw [← pushB_snoc hst, ← HTP.out]; exact PU.out.1, (merge_ok hst HXR.out PU.out.2.1).1, by rw [(merge_ok hst HXR.out PU.out.2.1).2.1]; exact PU.out.2.2⟩)
                clear hst
                go_upto_region 15 with fail
                refine wp_region_L (fun W => HB 25 W pb #[.int .i64 mg.kd, .int .i64 mg.ky, .int .i64 mg.n]) [0, 1, 2, 3] (by kernel_rfl) ?_
                have SW := Lib.hid (show HB 25 ws.drew pb #[.int .i64 mg.kd, .int .i64 mg.ky, .int .i64 mg.n] from HN.out.kx (kx_drew (fun _ => False) ws) (fun h => h))
                have OB2 := Lib.hid (show HB 25 ws.drew ob #[.int .i64 y.kd, .int .i64 y.ky, .int .i64 y.n] from OB.out.kx (kx_drew (fun _ => False) ws) (fun h => h))
                have KQ := Lib.hid (show KX (fun b => b = ob) wc ws.drew from KS.out.trans (kx_drew _ _))
                generalize ws.drew = wt at *
                clear HN OB KS
                refine OrdL.take (i := 0) (oi := ⟨some 58, _, _, _, _, _⟩) (v := .slice (some ⟨g, q, none⟩) (p + 1) c) rfl (by decide) (by kernel_rfl) (by kernel_rfl) (by kernel_rfl) (fun _ _ _ h => h) (Or.inl ⟨by rfl, ?_⟩) SW.out ?_
                · intro W' hW
                  go_simp
                try simp only [Act.put, List.setIfInBounds_toArray, List.set_cons_zero, List.set_cons_succ]
                refine OrdL.take (i := 1) (oi := ⟨some 59, _, _, _, _, _⟩) (v := .int .i64 p) rfl (by decide) (by kernel_rfl) (by kernel_rfl) (by kernel_rfl) (fun _ _ _ h => h) (Or.inl ⟨by rfl, ?_⟩) SW.out ?_
                · intro W' hW
                  go_simp
                try simp only [Act.put, List.setIfInBounds_toArray, List.set_cons_zero, List.set_cons_succ]
                refine OrdL.take (i := 2) (oi := ⟨some 60, _, _, _, _, _⟩) (v := .slice (some ⟨g, q, none⟩) p c) rfl (by decide) (by kernel_rfl) (by kernel_rfl) (by kernel_rfl) (fun _ _ _ h => h) (Or.inl ⟨by rfl, ?_⟩) SW.out ?_
                · intro W' hW
                  have hc1 : (p : Int) ≤ (c : Int) := by have := HCP.out; have := HPX.out.1; omega
                  go_simp
                try simp only [Act.put, List.setIfInBounds_toArray, List.set_cons_zero, List.set_cons_succ]
                refine OrdL.take (i := 3) (oi := ⟨some 61, _, _, _, _, _⟩) (v := .agg #[.int .i64 mg.kd, .int .i64 mg.ky, .int .i64 mg.n]) rfl (by decide) (by kernel_rfl) (by kernel_rfl) (by kernel_rfl) (fun _ _ _ h => h) (Or.inl ⟨by rfl, ?_⟩) SW.out ?_
                · intro W' hW
                  have g0 : _ = some (Value.int .i64 mg.kd) := HB.cell hW 0
                  have g1 : _ = some (Value.int .i64 mg.ky) := HB.cell hW 1
                  have g2 : _ = some (Value.int .i64 mg.n) := HB.cell hW 2
                  go_simp
                try simp only [Act.put, List.setIfInBounds_toArray, List.set_cons_zero, List.set_cons_succ]
                refine OrdL.ready (rs := [4]) (by kernel_rfl) (by simp) ?_
                refine AllL.cons (o := ⟨some 7, _, _, _, _, _⟩) rfl (fun K hK => ?_) AllL.nil
                go_simp
                refine hK.out _ _ (fun _ => SW.out) ?_
                clear hK
                try simp only [Act.put, List.setIfInBounds_toArray, List.set_cons_zero, List.set_cons_succ]
                refine OrdL.ready (rs := [5]) (by kernel_rfl) (by simp) ?_
                refine AllL.cons (o := ⟨none, _, _, _, _, _⟩) rfl (fun K hK => ?_) AllL.nil
                obtain ⟨wu, hwo⟩ : ∃ W, W = ((wt.setCell ⟨ob, 0, none⟩ (.int .i64 mg.kd)).setCell ⟨ob, 1, none⟩ (.int .i64 mg.ky)).setCell ⟨ob, 2, none⟩ (.int .i64 mg.n) := ⟨_, rfl⟩
                have hkp : KX (fun b => b = ob) wt wu := by
                  rw [hwo]
                  exact ((KX.of_grown (X := fun k => k = ob) (gr_put _ ob 0 _) fun k e => (Option.some.inj e).symm).trans (KX.of_grown (X := fun k => k = ob) (gr_put _ ob 1 _) fun k e => (Option.some.inj e).symm)).trans (KX.of_grown (X := fun k => k = ob) (gr_put _ ob 2 _) fun k e => (Option.some.inj e).symm)
                have HN := Lib.hid (show HB 25 wu ob #[.int .i64 mg.kd, .int .i64 mg.ky, .int .i64 mg.n] from by rw [hwo]; exact ((OB2.out.set 0 _).set 1 _).set 2 _)
                have t0 : _ = some (Value.int .i64 y.kd) := OB2.out.cell 0
                have t1 : _ = some (Value.int .i64 y.ky) := OB2.out.cell 1
                have t2 : _ = some (Value.int .i64 y.n) := OB2.out.cell 2
                have s0 := OB2.out.free 0
                have s1 := OB2.out.free 1
                have s2 := OB2.out.free 2
                go_simp
                rw [← hwo]
                clear hwo s0 s1 s2 t0 t1 t2
                refine hK.out _ _ (fun h => of_ff (by kernel_rfl) h) ?_
                clear hK
                try simp only [Act.put, List.setIfInBounds_toArray, List.set_cons_zero, List.set_cons_succ]
                refine OrdL.done (by kernel_rfl) ?_ _
                have KU := Lib.hid (KQ.out.trans hkp)
                clear hkp SW OB2 KQ
                have hW2 : IntKind.i64.wrap ((p : Int) - 1) = zOf p := zOf_wrap _ (by have := MM.out; have := RL.out; omega)
                go_wp2_with fail
                go_roundw
                case rel => exact ⟨p, mg, _, rfl, rfl, by first | rfl | exact hW2, by have := MM.out; omega, PU2.out.1, PU2.out.2.1, PU2.out.2.2, HN.out, KU.out⟩
                case measure =>
                  have h1 : zOf p + 1 = p := by cases p with | zero => rfl | succ p => show ((p : Nat) : Int) + 1 = _; omega
                  first
                  | (show (zOf p + 1).toNat < ((p : Int) + 1).toNat; omega)
                  | (rw [hW2]; show (zOf p + 1).toNat < ((p : Int) + 1).toNat; omega)
    · have hi3 : ¬ (j : Int) < (n : Int) := by omega
      obtain rfl : j = n := by omega
      rw [List.take_of_length_le (show l.length ≤ j by have := HL.out; omega)] at hrw hks hlen
      obtain ⟨s, hs⟩ : ∃ s, s = bsOf l := ⟨_, rfl⟩
      have HS := Lib.hid hs
      rw [← hs] at hrw hks hlen
      have HI := Lib.hid (show s.Inv l from by rw [hs]; exact bs_inv l HOK.out)
      have RW0 := Lib.hid hrw
      have KR := Lib.hid hks
      have B := Lib.hid hb
      have hnk20 : (nk : Int) ≤ 20 := by omega
      have KL := Lib.hid (show s.ks.length = nk ∧ nk ≤ 20 from ⟨by have := hks.1; rw [List.length_map, Nat.mul_one] at this; exact this, by omega⟩)
      clear hlt hrw hks hlen hnk hb hj hs hi3
      go_wp2_with fail
      go_loopw [12, 72] (fun v12 v72 wr => ∃ (i nr cr : Nat) (Ar : Option Addr), v72 = .int .i64 i ∧ v12 = .slice Ar nr cr ∧ i ≤ nk ∧ nr = ((s.ks.take i).flatMap s.row).length ∧ wr.ownsRow w.heap.size 25 3 (.slice Ar nr cr) nr (((s.ks.take i).flatMap s.row).flatMap opB) ∧ RW wr w.heap.size mb f s.row ∧ wr.ownsRow w.heap.size 2 1 (.slice Ak nk ck) nk (s.ks.map (.int .i64)) ∧ Below w.heap.size w wr ∧ (∀ k v b, f k = some v → v.ownBlock = some b → (Value.slice Ar nr cr).ownBlock ≠ some b)) (fun _ v72 _ => nk - (intOf v72).toNat)
      case atStart => exact ⟨0, 0, 0, none, rfl, rfl, Nat.zero_le _, rfl, World.ownsRow_nil _ _ _ _, RW0.out, KR.out, B.out, fun _ _ _ _ _ h => by cases h⟩
      case round =>
        obtain ⟨i, nr, cr, Ar, rfl, rfl, hi, hnr, hor, hrw, hks, hb, hne⟩ := hrel
        clear RW0 KR B
        have RW0 := Lib.hid hrw
        have KR := Lib.hid hks
        have B := Lib.hid hb
        have OR := Lib.hid (And.intro hor hne)
        have NR := Lib.hid (show nr = ((s.ks.take i).flatMap s.row).length ∧ nr ≤ 20 from ⟨hnr, by
          have h1 := HI.out.len
          have h2 : (s.ks.flatMap s.row).length = ((s.ks.take i).flatMap s.row).length + ((s.ks.drop i).flatMap s.row).length := by
            rw [← List.length_append, ← List.flatMap_append, List.take_append_drop]
          have := HL.out
          omega⟩)
        by_cases hlt : i < nk
        · have hi3 : (i : Int) < (nk : Int) := by omega
          obtain ⟨k, hk⟩ : ∃ k, s.ks[i]? = some k := ⟨_, List.getElem?_eq_getElem (by have := KL.out; omega)⟩
          obtain ⟨b, q, hA, -, -, hc⟩ := (Reads.of_own hks (S := fun _ => True) (fun _ _ => trivial)).2 (by omega)
          subst hA
          have z0 : wr.cell? ⟨b, q + i, none⟩ = some (.int .i64 k) := hc i _ (by rw [List.getElem?_map, hk]; rfl)
          obtain ⟨A2, c2, hcur, ho2, -, hblk⟩ := hrw.cur k
          obtain ⟨m, hm⟩ : ∃ m, m = (s.row k).length := ⟨_, rfl⟩
          rw [← hm] at hcur ho2 hblk
          have hm20 : m ≤ 20 := by
            by_cases h : s.row k = []
            · rw [hm, h]; exact Nat.zero_le _
            · have h1 := HI.out.len
              have h2 : (s.row k).length ≤ (s.ks.flatMap s.row).length := by
                exact flat_mem_le ((HI.out.iff k).2 h)
              have := HL.out
              omega
          obtain ⟨A3, c3, wn, run, ho3, hk3, hw3⟩ := row_more (c := c2) ele_op hor hb.size (Reads.of_own ho2 (S := fun _ => True) (fun _ _ => trivial)) (opB_one _) (by have := NR.out; omega) 22
          have e1 : (s.ks.take (i + 1)).flatMap s.row = (s.ks.take i).flatMap s.row ++ s.row k := by rw [List.take_add_one, hk, List.flatMap_append]; simp
          rw [← List.flatMap_append, ← e1] at ho3
          have hnr2 : nr + m = ((s.ks.take (i + 1)).flatMap s.row).length := by rw [e1, List.length_append, ← hm, ← NR.out.1]
          have REL := Lib.hid (show wn.ownsRow w.heap.size 2 1 (.slice (some ⟨b, q, none⟩) nk ck) nk (s.ks.map (.int .i64)) ∧ RW wn w.heap.size mb f s.row ∧ Below w.heap.size w wn ∧ (∀ k v b, f k = some v → v.ownBlock = some b → (Value.slice A3 (nr + m) c3).ownBlock ≠ some b) from
            ⟨own_kx hks hk3 (fun b hb e => own_ne_own hks hor (by decide) b hb e), hrw.kx hk3 (own_nem hor hrw.m) (fun k v b hf hvb e => hne k v b hf hvb e), hb.trans (hk3.below hb.size fun b hb' e => by have := (hor.lt b e).1; omega), fun k v b hf hvb e => by
              rcases hw3 with h | h
              · rw [h] at e; exact hne k v b hf hvb e
              · rw [h] at e; injection e with e; have := (hrw.lt hf hvb).2; omega⟩)
          have OR3 := Lib.hid (And.intro hnr2 ho3)
          have RUN := Lib.hid run
          have CUR := Lib.hid hcur
          have HLT := Lib.hid hlt
          clear hlt hc hrw hks hb hne hor hcur ho2 hblk run ho3 hk3 hw3 e1 hnr2 hnr hi hk hm hm20
          go_wp2_with (first | (at_lookup; refine look_val rfl _ _ 76 rfl 2 22 Tryz.underlying76 Tryz.underlying2 (.slice none 0 0) ops_zero mb f RW0.out.m rfl k rfl (.slice A2 m c2) CUR.out ?_) | (at_builtin; refine wpList_app_run rfl _ _ 22 rfl (.slice Ar nr cr) _ _ wn rfl rfl RUN.out ?_))
          go_roundw
          case rel => exact ⟨i + 1, nr + m, c3, A3, by go_num, rfl, HLT.out, OR3.out.1, OR3.out.2, REL.out.2.1, REL.out.1, REL.out.2.2.1, REL.out.2.2.2⟩
          case measure =>
            have := HLT.out
            show nk - ((i + 1 : Nat) : Int).toNat < nk - (i : Int).toNat
            omega
        · have hi3 : ¬ (i : Int) < (nk : Int) := by omega
          have e1 : (s.ks.take i).flatMap s.row = batB l := by rw [List.take_of_length_le (by have := KL.out; omega), HS.out]; rfl
          rw [e1] at hor hnr
          have OR2 := Lib.hid (And.intro hnr hor)
          clear hlt hrw hks hb hne hor hnr hi e1
          go_wp2
          go_ret
          exact ⟨Ar, nr, cr, rfl, OR2.out.1, OR2.out.2, B.out⟩
end Go.Proofs.YtkloaopjlbinpaaGreat
