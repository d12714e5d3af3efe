/- The walk of eliminate's apply. Condition: at most 100 values. -/
import Derived.Test.YtkloaopjlbinpaaGreatTeZ
set_option linter.unusedVariables false
set_option linter.unusedSimpArgs false
namespace Go.Proofs.YtkloaopjlbinpaaGreat
open Go.RowKit Go.MapKept

theorem results_tc {P : Program} {fn : Func} {t p : Tmp} {ty : TypeId} (h : fn.results = #[.tmp t, .cell p ty]) (tmps : Array Value) (w : World) (g : Nat) (tt : TypeId) (cs : Array Value) (fr : Nat × Nat) (d : TypeDesc)
    (hp : tmps.getD p undef = .pointer (some ⟨g, 0, none⟩)) (hg : w.heap[g]? = some (.cells cs tt fr))
    (hu : P.underlying ty = some d) (hd : (match d with | .struct _ | .array _ _ => true | _ => false) = true) (hi : (P.info? ty).map (·.size) = some cs.size) :
    (results fn tmps).run P w = .ok (.tuple #[tmps.getD t undef, .agg cs]) w := by
  have hp' : tmps[p]?.getD undef = .pointer (some ⟨g, 0, none⟩) := by simpa using hp
  simp [results, h, hp', asAddr, run_loadVar_row w g tt ty cs fr d hg hu hd hi, Sem.run_bind]
/-- append of one value onto a row of the call's own. -/
theorem app_i64 {w : World} {base : Nat} {v : Value} {l : List Int} (h : w.ownsRow base 2 1 v l.length (l.map (.int .i64))) (hl : l.length ≤ 100000) (hb : base ≤ w.heap.size) (k : Int) (ty : TypeId) :
    ∃ A c w', (Builtin.append_ #[26, 26] ty #[v, .slice (some ⟨w.heap.size, 0, none⟩) 1 1]).run Tryz.prog (w.alloc (.cells #[.int .i64 k] 2)) = .ok (.slice A (l.length + 1) c) w' ∧
      w'.ownsRow base 2 1 (.slice A (l.length + 1) c) (l ++ [k]).length ((l ++ [k]).map (.int .i64)) ∧ KX (fun b => v.ownBlock = some b) w w' ∧ ((Value.slice A (l.length + 1) c).ownBlock = v.ownBlock ∨ ∃ q, (Value.slice A (l.length + 1) c).ownBlock = some q ∧ w.heap.size ≤ q) := by
  have hb1 := below_alloc w (.cells #[.int .i64 k] 2)
  have hR : Reads (w.alloc (.cells #[.int .i64 k] 2)) (fun _ => True) 1 (some ⟨w.heap.size, 0, none⟩) 1 [.int .i64 k] := Reads.new w #[.int .i64 k] _ rfl trivial
  obtain ⟨i, i1, i2, i3, i4⟩ := i64_info
  obtain ⟨v', w', run, e2, e3, e4⟩ := run_append_any (P := Tryz.prog) (w.alloc (.cells #[.int .i64 k] 2)) base 26 ty 2 i _ 1 8 Tryz.underlying26 i1 i2 i3 i4 rfl (by omega) v l.length _ (World.ownsRow.kept h (below_grown hb1 none) (by cases v.ownBlock <;> simp)) (fun _ => True) _ 1 1 _ hR (by simp [Value.oneCell']) (by unfold maxLen; omega) (by omega) (Nat.le_trans hb hb1.size)
  obtain ⟨A, c, rfl, -, -, -⟩ := own_reads (S := fun _ => True) e2 (fun _ _ => trivial)
  refine ⟨A, c, w', run, ?_, (KX.of_below hb1).trans (KX.of_grown e3 fun k h => h), ?_⟩
  · rw [List.length_append, List.length_singleton, List.map_append]; exact e2
  · rcases e4 with e | e
    · exact .inl e
    · exact .inr ⟨_, e, by rw [World.size_alloc]; omega⟩
theorem KX.trans_new {X Y : Nat → Prop} {w w' w'' : World} (h : KX X w w') (k : KX Y w' w'') (hy : ∀ b, b < w.heap.size → ¬ Y b) : KX X w w'' :=
  ⟨k.os.trans h.os, k.tape.trans h.tape, k.output.trans h.output, Nat.le_trans h.size k.size, fun b hb hx => (k.block b (Nat.lt_of_lt_of_le hb h.size) (hy b hb)).trans (h.block b hb hx)⟩
set_option maxRecDepth 100000 in
set_option maxHeartbeats 6400000 in
theorem apply_push (w : World) (base : Nat) (v : Value) (l : List Int) (h : w.ownsRow (base) 2 1 v (l).length ((l).reverse.map (.int .i64))) (hl : l.length ≤ 100) (hb : base ≤ w.heap.size) (th x : Int) :
    Calls Tryz.prog 29 #[v, .agg #[.int .i64 th, .bool true, .int .i64 x]] w fun e w' => ∃ v', e = .returned (.tuple #[v', .agg #[.int .i64 (stE true (l)), .int .i64 (stV true x (l))]]) ∧ w'.ownsRow (base) 2 1 v' (stL true x (l)).length ((stL true x (l)).reverse.map (.int .i64)) ∧ KX (fun b => v.ownBlock = some b) w w' ∧ (v'.ownBlock = Value.ownBlock (v) ∨ ∃ q, v'.ownBlock = some q ∧ w.heap.size ≤ q) := by
  have HL := Lib.hid hl
  obtain ⟨A, c, rfl, -, -, -⟩ := own_reads (S := fun _ => True) h (fun _ _ => trivial)
  have OW := Lib.hid h
  clear h hl
  have NO := Lib.hid (show (l.reverse ++ [x]).length = (x :: l).length ∧ (l.reverse).length = l.length from by simp)
  obtain ⟨n, hn⟩ : ∃ n, n = l.length := ⟨_, rfl⟩
  rw [← hn]
  rw [← hn] at OW HL NO
  have HN := Lib.hid hn
  clear hn
  obtain ⟨W0, hW0⟩ : ∃ W, W = w.alloc (.cells #[.int .i64 th, .bool true, .int .i64 x] 39) := ⟨_, rfl⟩
  obtain ⟨W1, hW1⟩ : ∃ W, W = W0.alloc (.cells #[.int .i64 0, .int .i64 0] 46) := ⟨_, rfl⟩
  have hb0 : Below w.heap.size w W0 := by rw [hW0]; exact below_alloc _ _
  have hb1 : Below W0.heap.size W0 W1 := by rw [hW1]; exact below_alloc _ _
  have s0 : W0.heap.size = w.heap.size + 1 := by rw [hW0]; exact World.size_alloc ..
  have s1 : W1.heap.size = w.heap.size + 2 := by rw [hW1, World.size_alloc, s0]
  have B1 := Lib.hid (show Below w.heap.size w W1 from hb0.trans (hb1.mono hb0.size))
  have OB := Lib.hid (show HB 39 W1 w.heap.size #[.int .i64 th, .bool true, .int .i64 x] from HB.below (by rw [hW0]; exact HB.new _ _ _) hb1)
  have RB := Lib.hid (show HB 46 W1 (w.heap.size + 1) #[.int .i64 0, .int .i64 0] from by rw [hW1, ← s0]; exact HB.new _ _ _)
  have SZ1 := Lib.hid s1
  rw [hW0] at hW1
  have c1 : W1.cell? ⟨w.heap.size, 1, none⟩ = some (.bool true) := OB.out.cell 1
  have HB0 := Lib.hid hb
  clear hb0 hb1 s0 s1 hW0 hb
  go_enter Tryz.func29, Tryz.ntmps29
  go_upto_region 1 with fail
  rw [← hW1]
  clear hW1
  go_upto_region 3 with fail
  clear c1
  have OW1 := Lib.hid (own_kx OW.out (KX.of_below (X := fun _ => False) B1.out) (fun _ _ h => h))
  have KD : KX (fun _ => False) W1 W1.drew := ⟨rfl, rfl, rfl, Nat.le_refl _, fun _ _ _ => rfl⟩
  refine wp_region_held_drew (S := (fun W => HB 39 W w.heap.size #[.int .i64 th, .bool true, .int .i64 x])) (by kernel_rfl) (OB.out.kx KD fun h => h) (fun hHeld => ?_)
  have SW := Lib.hid hHeld
  have OQ := Lib.hid (own_kx OW1.out KD (fun _ _ h => h))
  have RQ := Lib.hid (RB.out.kx KD fun h => h)
  have BQ := Lib.hid (B1.out.drew)
  have ZQ := Lib.hid (show W1.drew.heap.size = w.heap.size + 2 from SZ1.out)
  clear hHeld KD OW1 RB B1 OB SZ1
  generalize W1.drew = wq at *
  have LTO := Lib.hid (show ∀ b, (Value.slice A n c).ownBlock = some b → b < w.heap.size from fun b h => (OW.out.lt b h).2)
  obtain ⟨A5, c5, w5, run, ho5, hk5, ow5⟩ := app_i64 (l := l.reverse) (show wq.ownsRow (base) 2 1 (.slice A n c) l.reverse.length ((l).reverse.map (.int .i64)) from by rw [NO.out.2, HN.out]; have := OQ.out; rw [HN.out] at this; exact this) (by rw [NO.out.2]; have := HL.out; omega) (by have := HB0.out; have := ZQ.out; omega) x 26
  rw [NO.out.2] at run ho5 ow5
  have KA5 := Lib.hid hk5
  have O5 := Lib.hid (show w5.ownsRow (base) 2 1 (.slice A5 (n + 1) c5) (x :: l).length ((x :: l).reverse.map (.int .i64)) from by rw [List.reverse_cons, ← NO.out.1]; exact ho5)
  have RUN := Lib.hid run
  have OWB := Lib.hid ow5
  have R5 := Lib.hid (RQ.out.kx hk5 (fun e => by have := LTO.out _ e; omega))
  have X5 := Lib.hid (SW.out.kx hk5 (fun e => by have := LTO.out _ e; omega))
  have XA := Lib.hid (SW.out.below (below_alloc wq (.cells #[.int .i64 x] 2)))
  clear run ho5 hk5 ow5 OQ RQ
  obtain ⟨n1, hn1⟩ : ∃ z, z = n + 1 := ⟨_, rfl⟩
  rw [← hn1] at RUN O5 OWB
  clear hn1
  refine wpAnyH_take (i := 0) (oi := ⟨some 12, _, _, _, _, _⟩) (v := .slice A n c) rfl (by kernel_rfl) (by kernel_rfl) (by kernel_rfl) (fun _ _ _ h => h) (Or.inl ⟨by rfl, ?_⟩) SW.out ?_
  · intro W' hW
    go_simp
  try simp only [Act.put, List.setIfInBounds_toArray, List.set_cons_zero, List.set_cons_succ]
  refine wpAnyH_take (i := 1) (oi := ⟨some 13, _, _, _, _, _⟩) (v := .pointer (some ⟨w.heap.size, 2, none⟩)) rfl (by kernel_rfl) (by kernel_rfl) (by kernel_rfl) (fun _ _ _ h => h) (Or.inl ⟨by rfl, ?_⟩) SW.out ?_
  · intro W' hW
    go_simp
  try simp only [Act.put, List.setIfInBounds_toArray, List.set_cons_zero, List.set_cons_succ]
  refine wpAnyH_take (i := 2) (oi := ⟨some 14, _, _, _, _, _⟩) (v := .int .i64 x) rfl (by kernel_rfl) (by kernel_rfl) (by kernel_rfl) (fun _ _ _ h => h) (Or.inl ⟨by rfl, ?_⟩) SW.out ?_
  · intro W' hW
    have c9 := HB.cell hW 2
    go_simp
  try simp only [Act.put, List.setIfInBounds_toArray, List.set_cons_zero, List.set_cons_succ]
  refine wpAnyH_take (i := 5) (oi := ⟨some 17, _, _, _, _, _⟩) (v := .pointer (some ⟨w.heap.size, 2, none⟩)) rfl (by kernel_rfl) (by kernel_rfl) (by kernel_rfl) (fun _ _ _ h => h) (Or.inl ⟨by rfl, ?_⟩) SW.out ?_
  · intro W' hW
    go_simp
  try simp only [Act.put, List.setIfInBounds_toArray, List.set_cons_zero, List.set_cons_succ]
  refine wpAnyH_take (i := 6) (oi := ⟨some 18, _, _, _, _, _⟩) (v := .int .i64 x) rfl (by kernel_rfl) (by kernel_rfl) (by kernel_rfl) (fun _ _ _ h => h) (Or.inl ⟨by rfl, ?_⟩) SW.out ?_
  · intro W' hW
    have c9 := HB.cell hW 2
    go_simp
  try simp only [Act.put, List.setIfInBounds_toArray, List.set_cons_zero, List.set_cons_succ]
  refine wpAnyH_take (i := 7) (oi := ⟨some 19, _, _, _, _, _⟩) (v := .agg #[.int .i64 0, .int .i64 x]) rfl (by kernel_rfl) (by kernel_rfl) (by kernel_rfl) (fun _ _ _ h => h) (Or.inl ⟨by rfl, ?_⟩) SW.out ?_
  · intro W' hW
    go_simp
  try simp only [Act.put, List.setIfInBounds_toArray, List.set_cons_zero, List.set_cons_succ]
  refine wpAnyH_ready (rs := [3]) (by kernel_rfl) (by simp) ?_
  refine AllReadyH.cons (o := ⟨some 15, _, _, _, _, _⟩) rfl (fun K hK => ?_) AllReadyH.nil
  go_simp
  refine hK.out _ _ XA.out (fun hHeld => ?_)
  clear hK hHeld
  try simp only [Act.put, List.setIfInBounds_toArray, List.set_cons_zero, List.set_cons_succ]
  refine wpAnyH_ready (rs := [4]) (by kernel_rfl) (by simp) ?_
  refine AllReadyH.cons (o := ⟨some 16, _, _, _, _, _⟩) rfl (fun K hK => ?_) AllReadyH.nil
  refine step_app (.tmp 12) (.tmp 15) 26 rfl (.slice A n c) _ _ w5 rfl rfl RUN.out ?_
  refine hK.out _ _ X5.out (fun hHeld => ?_)
  clear hK hHeld
  try simp only [Act.put, List.setIfInBounds_toArray, List.set_cons_zero, List.set_cons_succ]
  refine wpAnyH_ready (rs := [8]) (by kernel_rfl) (by simp) ?_
  refine AllReadyH.cons (o := ⟨some 4, _, _, _, _, _⟩) rfl (fun K hK => ?_) AllReadyH.nil
  go_simp
  refine hK.out _ _ X5.out (fun hHeld => ?_)
  clear hK hHeld
  try simp only [Act.put, List.setIfInBounds_toArray, List.set_cons_zero, List.set_cons_succ]
  have c80 : _ = some (Value.int .i64 0) := R5.out.cell 0
  have c81 : _ = some (Value.int .i64 0) := R5.out.cell 1
  have f80 := R5.out.free 0
  have f81 := R5.out.free 1
  refine wpAnyH_ready (rs := [9]) (by kernel_rfl) (by simp) ?_
  refine AllReadyH.cons (o := ⟨none, _, _, _, _, _⟩) rfl (fun K hK => ?_) AllReadyH.nil
  go_simp
  have hk6 : KX (fun b => b = w.heap.size + 1) w5 ((w5.setCell ⟨w.heap.size + 1, 0, none⟩ (.int .i64 0)).setCell ⟨w.heap.size + 1, 1, none⟩ (.int .i64 x)) := (KX.of_grown (gr_put _ _ _ _) fun k e => (Option.some.inj e).symm).trans (KX.of_grown (gr_put _ _ _ _) fun k e => (Option.some.inj e).symm)
  have R6 := Lib.hid (show HB 46 ((w5.setCell ⟨w.heap.size + 1, 0, none⟩ (.int .i64 0)).setCell ⟨w.heap.size + 1, 1, none⟩ (.int .i64 x)) (w.heap.size + 1) #[.int .i64 0, .int .i64 x] from (R5.out.set 0 (.int .i64 0)).set 1 (.int .i64 x))
  generalize (w5.setCell ⟨w.heap.size + 1, 0, none⟩ (.int .i64 0)).setCell ⟨w.heap.size + 1, 1, none⟩ (.int .i64 x) = w6 at *
  have X6 := Lib.hid (X5.out.kx hk6 (fun e => by omega))
  have HK6 := Lib.hid hk6
  clear hk6
  refine hK.out _ _ X6.out (fun hHeld => ?_)
  clear hK hHeld
  try simp only [Act.put, List.setIfInBounds_toArray, List.set_cons_zero, List.set_cons_succ]
  refine wpAnyH_done (by kernel_rfl) ?_ _
  clear SW XA X5 X6 RUN R5 c80 c81 f80 f81
  go_wp2_with fail
  refine bodyPost_ret (results_tc rfl _ _ (w.heap.size + 1) _ _ _ _ rfl R6.out Tryz.underlying46 rfl an_size) rfl ?_
  refine ⟨.slice A5 n1 c5, rfl, own_kx O5.out HK6.out (fun b hb e => ?_), ?_, ?_⟩
  · subst e
    rcases OWB.out with h | ⟨q, h, hq⟩
    · rw [h] at hb; have := LTO.out _ hb; omega
    · rw [h] at hb; have := Option.some.inj hb; have := ZQ.out; omega
  · exact ((KX.of_below BQ.out).trans (KA5.out.mono fun b _ h => h)).trans_new HK6.out (fun b hb e => by omega)
  · rcases OWB.out with h | ⟨q, h, hq⟩
    · exact .inl h
    · exact .inr ⟨q, h, by have := ZQ.out; omega⟩
set_option maxRecDepth 100000 in
set_option maxHeartbeats 6400000 in
theorem apply_none (w : World) (base : Nat) (v : Value) (h : w.ownsRow (base) 2 1 v (([] : List Int)).length ((([] : List Int)).reverse.map (.int .i64))) (hb : base ≤ w.heap.size) (th x : Int) :
    Calls Tryz.prog 29 #[v, .agg #[.int .i64 th, .bool false, .int .i64 x]] w fun e w' => ∃ v', e = .returned (.tuple #[v', .agg #[.int .i64 (stE false (([] : List Int))), .int .i64 (stV false x (([] : List Int)))]]) ∧ w'.ownsRow (base) 2 1 v' (stL false x (([] : List Int))).length ((stL false x (([] : List Int))).reverse.map (.int .i64)) ∧ KX (fun b => False) w w' ∧ (v'.ownBlock = Value.ownBlock (v) ∨ ∃ q, v'.ownBlock = some q ∧ w.heap.size ≤ q) := by
  have OW := Lib.hid h
  obtain ⟨A, c, rfl, -, -, -⟩ := own_reads (S := fun _ => True) h (fun _ _ => trivial)
  clear h
  obtain ⟨W0, hW0⟩ : ∃ W, W = w.alloc (.cells #[.int .i64 th, .bool false, .int .i64 x] 39) := ⟨_, rfl⟩
  obtain ⟨W1, hW1⟩ : ∃ W, W = W0.alloc (.cells #[.int .i64 0, .int .i64 0] 46) := ⟨_, rfl⟩
  have hb0 : Below w.heap.size w W0 := by rw [hW0]; exact below_alloc _ _
  have hb1 : Below W0.heap.size W0 W1 := by rw [hW1]; exact below_alloc _ _
  have s0 : W0.heap.size = w.heap.size + 1 := by rw [hW0]; exact World.size_alloc ..
  have s1 : W1.heap.size = w.heap.size + 2 := by rw [hW1, World.size_alloc, s0]
  have B1 := Lib.hid (show Below w.heap.size w W1 from hb0.trans (hb1.mono hb0.size))
  have OB := Lib.hid (show HB 39 W1 w.heap.size #[.int .i64 th, .bool false, .int .i64 x] from HB.below (by rw [hW0]; exact HB.new _ _ _) hb1)
  have RB := Lib.hid (show HB 46 W1 (w.heap.size + 1) #[.int .i64 0, .int .i64 0] from by rw [hW1, ← s0]; exact HB.new _ _ _)
  have SZ1 := Lib.hid s1
  rw [hW0] at hW1
  have c1 : W1.cell? ⟨w.heap.size, 1, none⟩ = some (.bool false) := OB.out.cell 1
  have HB0 := Lib.hid hb
  clear hb0 hb1 s0 s1 hW0 hb
  go_enter Tryz.func29, Tryz.ntmps29
  go_upto_region 1 with fail
  rw [← hW1]
  clear hW1
  go_upto_region 5 with fail
  clear c1
  have c80 : W1.cell? ⟨w.heap.size + 1, 0, none⟩ = some (.int .i64 0) := RB.out.cell 0
  have c81 : W1.cell? ⟨w.heap.size + 1, 1, none⟩ = some (.int .i64 0) := RB.out.cell 1
  have f80 := RB.out.free 0
  have f81 := RB.out.free 1
  have hk6 : KX (fun b => b = w.heap.size + 1) W1 ((W1.setCell ⟨w.heap.size + 1, 0, none⟩ (.int .i64 8)).setCell ⟨w.heap.size + 1, 1, none⟩ (.int .i64 0)) := (KX.of_grown (gr_put _ _ _ _) fun k e => (Option.some.inj e).symm).trans (KX.of_grown (gr_put _ _ _ _) fun k e => (Option.some.inj e).symm)
  have R6 := Lib.hid (show HB 46 ((W1.setCell ⟨w.heap.size + 1, 0, none⟩ (.int .i64 8)).setCell ⟨w.heap.size + 1, 1, none⟩ (.int .i64 0)) (w.heap.size + 1) #[.int .i64 8, .int .i64 0] from (RB.out.set 0 (.int .i64 8)).set 1 (.int .i64 0))
  have B6 := Lib.hid (show Below w.heap.size w ((W1.setCell ⟨w.heap.size + 1, 0, none⟩ (.int .i64 8)).setCell ⟨w.heap.size + 1, 1, none⟩ (.int .i64 0)) from B1.out.trans (hk6.below B1.out.size (fun b hb e => by omega)))
  clear hk6
  go_wp2_with fail
  refine bodyPost_ret (results_tc rfl _ _ (w.heap.size + 1) _ _ _ _ rfl R6.out Tryz.underlying46 rfl an_size) rfl ?_
  exact ⟨_, rfl, own_kx OW.out (KX.of_below (X := fun _ => False) B6.out) (fun _ _ h => h), KX.of_below B6.out, .inl rfl⟩
set_option maxRecDepth 100000 in
set_option maxHeartbeats 6400000 in
theorem apply_pop (w : World) (base : Nat) (v : Value) (y : Int) (l : List Int) (h : w.ownsRow (base) 2 1 v (y :: l).length ((y :: l).reverse.map (.int .i64))) (hl : (y :: l).length ≤ 100) (hb : base ≤ w.heap.size) (th x : Int) :
    Calls Tryz.prog 29 #[v, .agg #[.int .i64 th, .bool false, .int .i64 x]] w fun e w' => ∃ v', e = .returned (.tuple #[v', .agg #[.int .i64 (stE false (y :: l)), .int .i64 (stV false x (y :: l))]]) ∧ w'.ownsRow (base) 2 1 v' (stL false x (y :: l)).length ((stL false x (y :: l)).reverse.map (.int .i64)) ∧ KX (fun b => False) w w' ∧ (v'.ownBlock = Value.ownBlock (v) ∨ ∃ q, v'.ownBlock = some q ∧ w.heap.size ≤ q) := by
  have HL := Lib.hid hl
  have OW := Lib.hid h
  obtain ⟨g, c, rfl, hcell⟩ : ∃ g c, v = .slice (some ⟨g, 0, none⟩) (y :: l).length c ∧ w.cell? ⟨g, l.length, none⟩ = some (.int .i64 y) := by
    obtain ⟨A, c, rfl, -, -, hR⟩ := own_reads (S := fun _ => True) h (fun _ _ => trivial)
    rcases h.2 with ⟨e, -⟩ | ⟨g, cap, cur, e, -⟩
    · cases e
    · injection e with e1 e2 e3
      subst e1
      obtain ⟨b, q, e4, -, -, hc⟩ := hR.2 (Nat.succ_pos _)
      cases e4
      exact ⟨g, c, rfl, by have := hc l.length (.int .i64 y) (by rw [List.reverse_cons, List.map_append, List.getElem?_append_right (by simp)]; simp); rwa [Nat.zero_add] at this⟩
  have HC := Lib.hid hcell
  clear hcell
  have HSH := Lib.hid (show w.ownsRow (base) 2 1 (.slice (some ⟨g, 0, none⟩) l.length c) (l).length ((l).reverse.map (.int .i64)) from by
    refine ⟨by simp, .inr ?_⟩
    rcases h.2 with ⟨e, -⟩ | ⟨g', cap, cur, e, q1, q2, q3, q4, q5, q6⟩
    · cases e
    · injection e with e1 e2 e3
      injection e1 with e1
      injection e1 with e1
      subst e1
      subst e3
      refine ⟨g, c, cur, rfl, q1, q2, Nat.le_trans (Nat.le_succ _) q3, q4, q5, ?_⟩
      have e5 : cur.toList.take (l.length * 1) = (cur.toList.take ((y :: l).length * 1)).take (l.length * 1) := by rw [List.take_take, Nat.min_eq_left (by simp)]
      rw [e5, q6, List.reverse_cons, List.map_append, List.take_append_of_le_length (by simp), List.take_of_length_le (by simp)])
  have HCP := Lib.hid (show (y :: l).length ≤ c from by
    rcases h.2 with ⟨e, -⟩ | ⟨g', cap, cur, e, q1, q2, q3, q4, q5, q6⟩
    · cases e
    · injection e with e1 e2 e3
      rw [e3]; exact q3)
  obtain ⟨k, hk⟩ : ∃ k, k = l.length := ⟨_, rfl⟩
  have HK := Lib.hid hk
  rw [← hk] at HSH HC
  obtain ⟨n, hn⟩ : ∃ n, n = (y :: l).length := ⟨_, rfl⟩
  have HN := Lib.hid (show n = k + 1 from by rw [hn, hk]; rfl)
  rw [← hn] at HCP HL ⊢
  have hn0 : ¬ (n : Int) = 0 := by have := HN.out; omega
  have q1 : ((n : Int) == 0) = false := by simp; omega
  have wn : IntKind.i64.wrap ((n : Int) - 1) = (k : Int) := by rw [wrap_i64 _ (by have := HN.out; omega) (by have := HN.out; have := HL.out; omega)]; have := HN.out; omega
  have wn2 : wrap64 ((n : Int) - 1) = (k : Int) := by rw [← wn]; simp [IntKind.wrap_i64, wrap64]
  have kn : (k : Int) < (n : Int) := by have := HN.out; omega
  have kc : (k : Int) ≤ (c : Int) := by have := HN.out; have := HCP.out; omega
  clear h hl hk hn
  obtain ⟨W0, hW0⟩ : ∃ W, W = w.alloc (.cells #[.int .i64 th, .bool false, .int .i64 x] 39) := ⟨_, rfl⟩
  obtain ⟨W1, hW1⟩ : ∃ W, W = W0.alloc (.cells #[.int .i64 0, .int .i64 0] 46) := ⟨_, rfl⟩
  have hb0 : Below w.heap.size w W0 := by rw [hW0]; exact below_alloc _ _
  have hb1 : Below W0.heap.size W0 W1 := by rw [hW1]; exact below_alloc _ _
  have s0 : W0.heap.size = w.heap.size + 1 := by rw [hW0]; exact World.size_alloc ..
  have s1 : W1.heap.size = w.heap.size + 2 := by rw [hW1, World.size_alloc, s0]
  have B1 := Lib.hid (show Below w.heap.size w W1 from hb0.trans (hb1.mono hb0.size))
  have OB := Lib.hid (show HB 39 W1 w.heap.size #[.int .i64 th, .bool false, .int .i64 x] from HB.below (by rw [hW0]; exact HB.new _ _ _) hb1)
  have RB := Lib.hid (show HB 46 W1 (w.heap.size + 1) #[.int .i64 0, .int .i64 0] from by rw [hW1, ← s0]; exact HB.new _ _ _)
  have SZ1 := Lib.hid s1
  rw [hW0] at hW1
  have c1 : W1.cell? ⟨w.heap.size, 1, none⟩ = some (.bool false) := OB.out.cell 1
  have HB0 := Lib.hid hb
  clear hb0 hb1 s0 s1 hW0 hb
  go_enter Tryz.func29, Tryz.ntmps29
  go_upto_region 1 with fail
  rw [← hW1]
  clear hW1
  go_upto_region 6 with fail
  clear c1
  have OW1 := Lib.hid (own_kx HSH.out (KX.of_below (X := fun _ => False) B1.out) (fun _ _ h => h))
  have KD : KX (fun _ => False) W1 W1.drew := ⟨rfl, rfl, rfl, Nat.le_refl _, fun _ _ _ => rfl⟩
  refine wp_region_held_drew (S := (fun W => HB 39 W w.heap.size #[.int .i64 th, .bool false, .int .i64 x] ∧ W.cell? ⟨g, k, none⟩ = some (.int .i64 y))) (by kernel_rfl) ⟨OB.out.kx KD fun h => h, (B1.out.cell (show g < w.heap.size from (OW.out.lt g rfl).2)).trans HC.out⟩ (fun hHeld => ?_)
  have SW := Lib.hid hHeld
  have OQ := Lib.hid (own_kx OW1.out KD (fun _ _ h => h))
  have RQ := Lib.hid (RB.out.kx KD fun h => h)
  have BQ := Lib.hid (B1.out.drew)
  have LTG := Lib.hid (show g < w.heap.size from (OW.out.lt g rfl).2)
  clear hHeld KD OW1 RB B1 OB SZ1
  generalize W1.drew = wq at *
  refine wpAnyH_take (i := 0) (oi := ⟨some 25, _, _, _, _, _⟩) (v := .slice (some ⟨g, 0, none⟩) n c) rfl (by kernel_rfl) (by kernel_rfl) (by kernel_rfl) (fun _ _ _ h => h) (Or.inl ⟨by rfl, ?_⟩) SW.out ?_
  · intro W' hW
    go_simp
  try simp only [Act.put, List.setIfInBounds_toArray, List.set_cons_zero, List.set_cons_succ]
  refine wpAnyH_take (i := 1) (oi := ⟨some 26, _, _, _, _, _⟩) (v := .int .i64 n) rfl (by kernel_rfl) (by kernel_rfl) (by kernel_rfl) (fun _ _ _ h => h) (Or.inl ⟨by rfl, ?_⟩) SW.out ?_
  · intro W' hW
    go_simp
  try simp only [Act.put, List.setIfInBounds_toArray, List.set_cons_zero, List.set_cons_succ]
  refine wpAnyH_take (i := 2) (oi := ⟨some 27, _, _, _, _, _⟩) (v := .int .i64 k) rfl (by kernel_rfl) (by kernel_rfl) (by kernel_rfl) (fun _ _ _ h => h) (Or.inl ⟨by rfl, ?_⟩) SW.out ?_
  · intro W' hW
    go_simp
  try simp only [Act.put, List.setIfInBounds_toArray, List.set_cons_zero, List.set_cons_succ]
  refine wpAnyH_take (i := 3) (oi := ⟨some 28, _, _, _, _, _⟩) (v := .slice (some ⟨g, 0, none⟩) k c) rfl (by kernel_rfl) (by kernel_rfl) (by kernel_rfl) (fun _ _ _ h => h) (Or.inl ⟨by rfl, ?_⟩) SW.out ?_
  · intro W' hW
    go_simp
  try simp only [Act.put, List.setIfInBounds_toArray, List.set_cons_zero, List.set_cons_succ]
  refine wpAnyH_take (i := 4) (oi := ⟨some 29, _, _, _, _, _⟩) (v := .slice (some ⟨g, 0, none⟩) n c) rfl (by kernel_rfl) (by kernel_rfl) (by kernel_rfl) (fun _ _ _ h => h) (Or.inl ⟨by rfl, ?_⟩) SW.out ?_
  · intro W' hW
    go_simp
  try simp only [Act.put, List.setIfInBounds_toArray, List.set_cons_zero, List.set_cons_succ]
  refine wpAnyH_take (i := 5) (oi := ⟨some 30, _, _, _, _, _⟩) (v := .int .i64 n) rfl (by kernel_rfl) (by kernel_rfl) (by kernel_rfl) (fun _ _ _ h => h) (Or.inl ⟨by rfl, ?_⟩) SW.out ?_
  · intro W' hW
    go_simp
  try simp only [Act.put, List.setIfInBounds_toArray, List.set_cons_zero, List.set_cons_succ]
  refine wpAnyH_take (i := 6) (oi := ⟨some 31, _, _, _, _, _⟩) (v := .int .i64 k) rfl (by kernel_rfl) (by kernel_rfl) (by kernel_rfl) (fun _ _ _ h => h) (Or.inl ⟨by rfl, ?_⟩) SW.out ?_
  · intro W' hW
    go_simp
  try simp only [Act.put, List.setIfInBounds_toArray, List.set_cons_zero, List.set_cons_succ]
  refine wpAnyH_take (i := 7) (oi := ⟨some 32, _, _, _, _, _⟩) (v := .pointer (some ⟨g, k, none⟩)) rfl (by kernel_rfl) (by kernel_rfl) (by kernel_rfl) (fun _ _ _ h => h) (Or.inl ⟨by rfl, ?_⟩) SW.out ?_
  · intro W' hW
    go_simp
  try simp only [Act.put, List.setIfInBounds_toArray, List.set_cons_zero, List.set_cons_succ]
  refine wpAnyH_take (i := 8) (oi := ⟨some 33, _, _, _, _, _⟩) (v := .int .i64 y) rfl (by kernel_rfl) (by kernel_rfl) (by kernel_rfl) (fun _ _ _ h => h) (Or.inl ⟨by rfl, ?_⟩) SW.out ?_
  · intro W' hW
    have c9 := hW.2
    go_simp
  try simp only [Act.put, List.setIfInBounds_toArray, List.set_cons_zero, List.set_cons_succ]
  refine wpAnyH_take (i := 9) (oi := ⟨some 34, _, _, _, _, _⟩) (v := .agg #[.int .i64 0, .int .i64 y]) rfl (by kernel_rfl) (by kernel_rfl) (by kernel_rfl) (fun _ _ _ h => h) (Or.inl ⟨by rfl, ?_⟩) SW.out ?_
  · intro W' hW
    go_simp
  try simp only [Act.put, List.setIfInBounds_toArray, List.set_cons_zero, List.set_cons_succ]
  refine wpAnyH_ready (rs := [10]) (by kernel_rfl) (by simp) ?_
  refine AllReadyH.cons (o := ⟨some 4, _, _, _, _, _⟩) rfl (fun K hK => ?_) AllReadyH.nil
  go_simp
  refine hK.out _ _ SW.out (fun hHeld => ?_)
  clear hK hHeld
  try simp only [Act.put, List.setIfInBounds_toArray, List.set_cons_zero, List.set_cons_succ]
  have c80 : _ = some (Value.int .i64 0) := RQ.out.cell 0
  have c81 : _ = some (Value.int .i64 0) := RQ.out.cell 1
  have f80 := RQ.out.free 0
  have f81 := RQ.out.free 1
  refine wpAnyH_ready (rs := [11]) (by kernel_rfl) (by simp) ?_
  refine AllReadyH.cons (o := ⟨none, _, _, _, _, _⟩) rfl (fun K hK => ?_) AllReadyH.nil
  go_simp
  have hk6 : KX (fun b => b = w.heap.size + 1) wq ((wq.setCell ⟨w.heap.size + 1, 0, none⟩ (.int .i64 0)).setCell ⟨w.heap.size + 1, 1, none⟩ (.int .i64 y)) := (KX.of_grown (gr_put _ _ _ _) fun k e => (Option.some.inj e).symm).trans (KX.of_grown (gr_put _ _ _ _) fun k e => (Option.some.inj e).symm)
  have R6 := Lib.hid (show HB 46 ((wq.setCell ⟨w.heap.size + 1, 0, none⟩ (.int .i64 0)).setCell ⟨w.heap.size + 1, 1, none⟩ (.int .i64 y)) (w.heap.size + 1) #[.int .i64 0, .int .i64 y] from (RQ.out.set 0 (.int .i64 0)).set 1 (.int .i64 y))
  generalize (wq.setCell ⟨w.heap.size + 1, 0, none⟩ (.int .i64 0)).setCell ⟨w.heap.size + 1, 1, none⟩ (.int .i64 y) = w6 at *
  have X6 := Lib.hid (show (fun W => HB 39 W w.heap.size #[.int .i64 th, .bool false, .int .i64 x] ∧ W.cell? ⟨g, k, none⟩ = some (.int .i64 y)) w6 from ⟨SW.out.1.kx hk6 (fun e => by omega), (World.cell?_of_block (a := ⟨g, k, none⟩) (hk6.block g (Nat.lt_of_lt_of_le LTG.out BQ.out.size) (fun e => by have := LTG.out; omega))).trans SW.out.2⟩)
  have O6 := Lib.hid (own_kx OQ.out hk6 (fun b hb e => by have e1 : g = b := Option.some.inj hb; have := LTG.out; omega))
  have B6 := Lib.hid (BQ.out.trans (hk6.below BQ.out.size (fun b hb e => by omega)))
  clear hk6
  refine hK.out _ _ X6.out (fun hHeld => ?_)
  clear hK hHeld
  try simp only [Act.put, List.setIfInBounds_toArray, List.set_cons_zero, List.set_cons_succ]
  refine wpAnyH_done (by kernel_rfl) ?_ _
  clear SW X6 RQ c80 c81 f80 f81
  go_wp2_with fail
  refine bodyPost_ret (results_tc rfl _ _ (w.heap.size + 1) _ _ _ _ rfl R6.out Tryz.underlying46 rfl an_size) rfl ?_
  exact ⟨_, rfl, by have := O6.out; rw [HK.out] at this; rw [HK.out]; exact this, KX.of_below B6.out, .inl rfl⟩
end Go.Proofs.YtkloaopjlbinpaaGreat
