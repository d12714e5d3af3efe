/- The walks of the space's last, value, Get, Put, Mark. Condition: at most 100000 writes. -/
import Derived.Test.YtkloaopjlbinpaaGreatTeA
set_option linter.unusedVariables false
set_option linter.unusedSimpArgs false
namespace Go.Proofs.YtkloaopjlbinpaaGreat
open Go.RowKit Go.MapKept

theorem flat_get {α : Type} (sz : Nat) (enc : α → List Value) (he : ∀ x, (enc x).length = sz) : ∀ (l : List α) (i : Nat) (x : α), l[i]? = some x → ∀ r, r < sz → (l.flatMap enc)[i * sz + r]? = (enc x)[r]?
  | [], i, x, h, r, hr => by simp at h
  | y :: t, 0, x, h, r, hr => by
    obtain rfl : y = x := by simpa using h
    rw [List.flatMap_cons, Nat.zero_mul, Nat.zero_add, List.getElem?_append_left (by rw [he]; exact hr)]
  | y :: t, i + 1, x, h, r, hr => by
    rw [List.flatMap_cons, List.getElem?_append_right (by rw [he, Nat.succ_mul]; omega), he, show (i + 1) * sz + r - sz = i * sz + r by rw [Nat.succ_mul]; omega]
    exact flat_get sz enc he t i x (by simpa using h) r hr
theorem flat_len {α : Type} (sz : Nat) (enc : α → List Value) (he : ∀ x, (enc x).length = sz) (l : List α) : (l.flatMap enc).length = l.length * sz := by
  induction l with
  | nil => simp
  | cons a t ih => rw [List.flatMap_cons, List.length_append, he, ih, List.length_cons, Nat.succ_mul]; omega
/-- Where the last write to a location stands. -/
def LastAt (P : List (Int × Int)) (a r : Int) : Prop := (r = -1 ∧ ∀ p ∈ P, p.1 ≠ a) ∨ ∃ (i : Nat) (v : Int), r = i ∧ P[i]? = some (a, v) ∧ ∀ j p, i < j → P[j]? = some p → p.1 ≠ a
section
variable {X : Nat → Prop} {w : World} {base sb : Nat} {g : Mem} {R : Int → Bool} {P : List (Int × Int)}
/-- The writes' slice. -/
theorem Sp.row (h : Sp w X base sb g R P) : ∃ kb rb A c, HB 147 w sb (spU kb rb (.slice A P.length c)) ∧ IntMap w kb g.at ∧ P.length ≤ c ∧ Reads w (fun _ => True) 2 A P.length (P.flatMap putC) := by
  obtain ⟨⟨kb, rb, pv, h1, h2, h3, h4, -⟩, -⟩ := h
  obtain ⟨A, c, rfl, hc, hA, hR⟩ := own_reads (S := fun _ => True) h4 (fun _ _ => trivial)
  exact ⟨kb, rb, A, c, h1, h2, hc, hR⟩
theorem puts_at {A : Option Addr} (hR : Reads w (fun _ => True) 2 A P.length (P.flatMap putC)) {k : Nat} {p : Int × Int} (h : P[k]? = some p) :
    ∃ b q, A = some ⟨b, q, none⟩ ∧ w.cell? ⟨b, q + k * 2, none⟩ = some (.int .i64 p.1) ∧ w.cell? ⟨b, q + k * 2 + 1, none⟩ = some (.int .i64 p.2) := by
  obtain ⟨hk, -⟩ := List.getElem?_eq_some_iff.1 h
  obtain ⟨b, q, e, -, -, hc⟩ := hR.2 (by omega)
  refine ⟨b, q, e, ?_, ?_⟩
  · have := hc (k * 2 + 0) _ (by rw [flat_get 2 putC (fun _ => rfl) P k p h 0 (by omega)]; rfl)
    simpa using this
  · exact hc (k * 2 + 1) _ (by rw [flat_get 2 putC (fun _ => rfl) P k p h 1 (by omega)]; rfl)
end
theorem wrap_i64 (n : Int) (h1 : -9223372036854775808 ≤ n) (h2 : n < 9223372036854775808) : IntKind.i64.wrap n = n := by
  rw [IntKind.wrap_i64]; omega
set_option maxRecDepth 100000 in
set_option maxHeartbeats 6400000 in
theorem last_any {X : Nat → Prop} {w : World} {base sb : Nat} {g : Mem} {R : Int → Bool} {P : List (Int × Int)} (h : Sp w X base sb g R P) (hn : P.length ≤ 100000) (a : Int) :
    Calls Tryz.prog 75 #[.pointer (some ⟨sb, 0, none⟩), .int .i64 a] w fun e w' => ∃ r, e = .returned (.int .i64 r) ∧ LastAt P a r ∧ w' = w := by
  obtain ⟨kb, rb, A, c, h1, -, hc, hR⟩ := h.row
  have c2 : w.cell? ⟨sb, 2, none⟩ = some (.slice A P.length c) := h1.cell 2
  have HR := Lib.hid hR
  have HN := Lib.hid hn
  obtain ⟨n, hnn⟩ : ∃ n, n = P.length := ⟨_, rfl⟩
  rw [← hnn] at c2
  have NN := Lib.hid hnn
  have W0 : IntKind.i64.wrap ((n : Int) - 1) = (n : Int) - 1 := wrap_i64 _ (by omega) (by omega)
  clear h h1 hc hR hn hnn
  go_enter Tryz.func75, Tryz.ntmps75
  go_wp2_with fail
  clear W0
  go_loopw [5] (fun v5 wr => wr = w ∧ ∃ k : Nat, v5 = .int .i64 ((k : Int) - 1) ∧ k ≤ n ∧ ∀ j p, k ≤ j → P[j]? = some p → p.1 ≠ a) (fun v5 _ => (intOf v5 + 1).toNat)
  case atStart => exact ⟨rfl, n, rfl, Nat.le_refl _, fun j p hj hp => by have := (List.getElem?_eq_some_iff.1 hp).1; have := NN.out; omega⟩
  case round =>
    obtain ⟨rfl, k, rfl, hk, hl⟩ := hrel
    have HL := Lib.hid hl
    have HK := Lib.hid hk
    clear hl hk
    rcases k with _ | k
    · have h0 : ¬ ((0 : Int) ≤ ((0 : Nat) : Int) - 1) := by omega
      go_wp2
      go_ret
      exact ⟨-1, rfl, .inl ⟨rfl, fun p hp => by obtain ⟨j, hj⟩ := List.mem_iff_getElem?.1 hp; exact HL.out j p (Nat.zero_le _) hj⟩, rfl⟩
    · obtain ⟨p, hp⟩ : ∃ p, P[k]? = some p := ⟨_, List.getElem?_eq_getElem (by have := HK.out; have := NN.out; omega)⟩
      obtain ⟨b, q, rfl, hc0, hc1⟩ := puts_at HR.out hp
      have HP := Lib.hid hp
      rw [show ((k + 1 : Nat) : Int) - 1 = (k : Int) by omega]
      have h0 : (0 : Int) ≤ (k : Int) := by omega
      have h2 : (k : Int) < (n : Int) := by have := HK.out; omega
      have W1 : IntKind.i64.wrap ((k : Int) - 1) = (k : Int) - 1 := wrap_i64 _ (by omega) (by have := HK.out; have := NN.out; have := HN.out; omega)
      clear hp
      obtain ⟨x, v⟩ := p
      dsimp only at hc0 hc1
      by_cases hx : x = a
      · subst hx
        have hxx : (x == x) = true := beq_self_eq_true _
        go_wp2
        go_ret
        exact ⟨_, rfl, .inr ⟨k, v, rfl, HP.out, fun j p hj hp => HL.out j p (by omega) hp⟩, rfl⟩
      · have hxx : (x == a) = false := by simpa using hx
        have hxd : decide (x = a) = false := decide_eq_false hx
        have HX := Lib.hid hx
        clear hx
        go_wp2
        go_roundw
        case rel => exact ⟨trivial, k, rfl, by have := HK.out; omega, fun j p hj hp => by
          rcases Nat.lt_or_ge k j with h | h
          · exact HL.out j p (by omega) hp
          · obtain rfl : j = k := by omega
            rw [HP.out] at hp
            rw [← Option.some.inj hp]
            exact HX.out⟩
        case measure =>
          show ((k : Int) - 1 + 1).toNat < (((k : Int)) + 1).toNat
          omega
theorem word_field0 (x y z : Value) (w : World) : (Instr.field 96 (.agg #[x, y, z]) 0).run Tryz.prog w = .ok x w := by kernel_rfl
set_option maxRecDepth 100000 in
set_option maxHeartbeats 6400000 in
theorem value_any {X : Nat → Prop} {w : World} {base sb : Nat} {g : Mem} {R : Int → Bool} {P : List (Int × Int)} (h : Sp w X base sb g R P) (hn : P.length ≤ 100000) (a : Int) (ha : inM a) :
    Calls Tryz.prog 63 #[.pointer (some ⟨sb, 0, none⟩), .int .i64 a] w fun e w' => e = .returned (.tuple #[.int .i64 (cur g P a), .bool (wrt P a)]) ∧ w' = w := by
  have KL := Lib.hid (last_any h hn a)
  obtain ⟨kb, rb, A, c, h1, hm, hc, hR⟩ := h.row
  have c2 : w.cell? ⟨sb, 2, none⟩ = some (.slice A P.length c) := h1.cell 2
  have c0 : w.cell? ⟨sb, 0, none⟩ = some (.map (some kb)) := h1.cell 0
  have HR := Lib.hid hR
  have HM := Lib.hid hm
  have HG := Lib.hid (show (g.at a).getD (wdV 0 0) = .agg #[.int .i64 (g.val a), .int .u32 (g.ver a), .int .u32 0] by unfold Mem.at; rw [if_pos ha]; rfl)
  obtain ⟨n, hnn⟩ : ∃ n, n = P.length := ⟨_, rfl⟩
  rw [← hnn] at c2
  have NN := Lib.hid hnn
  obtain ⟨vv, hvv⟩ : ∃ vv, vv = cur g P a := ⟨_, rfl⟩
  obtain ⟨wb, hwb⟩ : ∃ vv, vv = wrt P a := ⟨_, rfl⟩
  have HV := Lib.hid hvv
  have HW := Lib.hid hwb
  rw [← hvv, ← hwb]
  clear h h1 hc hR hn hnn hm ha hvv hwb
  have hf0 := word_field0
  go_enter Tryz.func63, Tryz.ntmps63
  go_wp2_with fail
  refine KL.out.mono ?_
  rintro e w1 ⟨r, rfl, hl, hw⟩
  subst hw
  rcases hl with ⟨rfl, hl⟩ | ⟨i, v, rfl, hp, hl⟩
  · have HL := Lib.hid hl
    have h0 : ¬ ((0 : Int) ≤ -1) := by omega
    clear hl
    go_wp2_with (at_lookup; refine look_val rfl _ _ 34 rfl 51 96 Tryz.underlying34 Tryz.underlying51 (wdV 0 0) word_zero kb g.at HM.out rfl a rfl (.agg #[.int .i64 (g.val a), .int .u32 (g.ver a), .int .u32 0]) HG.out ?_)
    go_ret2
    exact ⟨by rw [HV.out, HW.out, cur_none g HL.out, wrt_none HL.out]; rfl, rfl⟩
  · obtain ⟨b, q, rfl, hc0, hc1⟩ := puts_at HR.out hp
    have HL := Lib.hid hl
    have HP := Lib.hid hp
    have h0 : (0 : Int) ≤ (i : Int) := by omega
    have h2 : (i : Int) < (n : Int) := by have := (List.getElem?_eq_some_iff.1 hp).1; have := NN.out; omega
    dsimp only at hc0 hc1
    clear hl hp
    go_wp2
    go_ret2
    exact ⟨by rw [HV.out, HW.out, cur_at g HP.out HL.out, wrt_some (List.mem_of_getElem? HP.out)]; rfl, rfl⟩
set_option maxRecDepth 100000 in
set_option maxHeartbeats 6400000 in
theorem get_any {X : Nat → Prop} {w : World} {base sb : Nat} {g : Mem} {R : Int → Bool} {P : List (Int × Int)} (h : Sp w X base sb g R P) (hn : P.length ≤ 100000) (a : Int) (ha : inM a) :
    Calls Tryz.prog 35 #[.pointer (some ⟨sb, 0, none⟩), .int .i64 a] w fun e w' => e = .returned (.int .i64 (cur g P a)) ∧ Sp w' X base sb g (rdU R a) P ∧ KX X w w' := by
  have KR := Lib.hid (reads_any h a ha)
  have KV := Lib.hid fun (W : World) (hS : Sp W X base sb g (rdU R a) P) => value_any hS hn a ha
  obtain ⟨vv, hvv⟩ : ∃ vv, vv = cur g P a := ⟨_, rfl⟩
  rw [← hvv] at KV ⊢
  clear h hn ha hvv
  go_enter Tryz.func35, Tryz.ntmps35
  go_wp2_with fail
  refine KR.out.mono ?_
  rintro e w1 ⟨rfl, hs, hk⟩
  have HS := Lib.hid hs
  have HK := Lib.hid hk
  clear hs hk
  go_wp2_with fail
  refine (KV.out w1 HS.out).mono ?_
  rintro e w2 ⟨rfl, hw⟩
  subst hw
  go_wp2
  go_ret
  exact ⟨rfl, HS.out, HK.out⟩
/-- append, its run known. -/
theorem wpList_app_run {P : Program} {w : World} {ops : Array Oper} {rest : List Oper} {o : Oper} {a : Act} {Q : Exit → Act → World → Prop} (hgd : o.guard = none) (s x : Operand) (t : TypeId)
    (ho : o.op = .call { callee := .builtin .append, args := #[s, x], argTypes := #[t, t] }) (v u v' : Value) (w' : World) (hs : a.eval s = v) (hx : a.eval x = u) (hrun : (Builtin.append_ #[t, t] o.type #[v, u]).run P w = .ok v' w')
    (h : wpList P ops Q rest (a.put o.dst v') w') : wpList P ops Q (o :: rest) a w :=
  wpList_plain hgd fun _ hK => by
    unfold Oper.wp execOp
    simp only [ho, resolve, invoke, builtin, Sem.run_bind, Sem.run_pure, Result.andThen_ok, List.map_toArray, List.map_cons, List.map_nil, hs, hx, hrun]
    exact hK _ _ h
theorem below_grown {w w' : World} (hb : Below w.heap.size w w') (row : Option Nat) : w.grownBy w' row := ⟨hb.os, hb.tape, hb.output, hb.size, fun k hk _ => hb.block k hk⟩
theorem put_info3 : (Tryz.prog.info? 151).map (fun i => (i.zero, i.size, i.bytes)) = some (some (.agg #[.int .i64 0, .int .i64 0]), 2, 16) := by kernel_rfl
theorem put_info : ∃ i, Tryz.prog.info? 151 = some i ∧ i.zero = some (.agg #[.int .i64 0, .int .i64 0]) ∧ i.size = 2 ∧ i.bytes = 16 := by
  obtain ⟨i, h1, h2⟩ := Option.map_eq_some_iff.1 put_info3
  injection h2 with h2 h3
  injection h3 with h3 h4
  exact ⟨i, h1, h2, h3, h4⟩
theorem puts_snoc (P : List (Int × Int)) (a v : Int) : P.flatMap putC ++ [.int .i64 a, .int .i64 v] = (P ++ [(a, v)]).flatMap putC := by
  rw [List.flatMap_append]; rfl
set_option maxRecDepth 100000 in
set_option maxHeartbeats 6400000 in
theorem put_any {X : Nat → Prop} {w : World} {base sb : Nat} {g : Mem} {R : Int → Bool} {P : List (Int × Int)} (h : Sp w X base sb g R P) (hX : ∀ b, w.heap.size ≤ b → X b) (hn : P.length ≤ 100000) (a v : Int) (ha : inM a) :
    Calls Tryz.prog 43 #[.pointer (some ⟨sb, 0, none⟩), .int .i64 a, .int .i64 v] w fun e w' => e = .returned (.tuple #[]) ∧ Sp w' X base sb g (rdU R a) (P ++ [(a, v)]) ∧ KX X w w' := by
  have KR := Lib.hid (reads_any h a ha)
  have HX := Lib.hid hX
  have HN := Lib.hid hn
  have HA := Lib.hid ha
  clear h hX hn ha
  go_enter Tryz.func43, Tryz.ntmps43
  go_wp2_with fail
  refine KR.out.mono ?_
  rintro e w1 ⟨rfl, hs, hk⟩
  have HK := Lib.hid hk
  have hsz := hk.size
  clear hk
  obtain ⟨⟨kb, rb, pv, h1, h2, h3, h4, h5, h6, h7, h8⟩, hp, hr⟩ := hs
  obtain ⟨wv, hwv⟩ : ∃ W, W = w1.alloc (.cells #[.int .i64 a, .int .i64 v] 151) := ⟨_, rfl⟩
  have hb : Below w1.heap.size w1 wv := by rw [hwv]; exact below_alloc _ _
  have hR : Reads wv (fun _ => True) 2 (some ⟨w1.heap.size, 0, none⟩) 1 [.int .i64 a, .int .i64 v] := by rw [hwv]; exact Reads.new w1 #[.int .i64 a, .int .i64 v] 151 rfl trivial
  obtain ⟨i, i1, i2, i3, i4⟩ := put_info
  obtain ⟨v', w2, run, e2, e3, e4⟩ := run_append_any (P := Tryz.prog) wv base 145 145 151 i _ 2 16 Tryz.underlying145 i1 i2 i3 i4 rfl (by omega) pv P.length _ (World.ownsRow.kept h4 (below_grown hb none) (by cases pv.ownBlock <;> simp)) (fun _ => True) _ 1 1 _ hR (by simp [Value.oneCell']) (by have := HN.out; unfold maxLen; omega) (by have := HN.out; omega) (Nat.le_trans h7.1 hb.size)
  rw [puts_snoc] at e2
  obtain ⟨A', c', hv', -⟩ := own_reads (S := fun _ => True) e2 (fun _ _ => trivial)
  subst hv'
  have hsb := h1.lt
  have h1v := h1.below hb
  have hox : ∀ k, pv.ownBlock = some k → k ≠ sb := fun k hk => (h8 k hk).2.2.2
  have h1w : HB 147 w2 sb (spU kb rb pv) := (e3.block sb h1v.lt (fun e => hox sb e.symm rfl)).trans h1v
  have c2 : w1.cell? ⟨sb, 2, none⟩ = some pv := h1.cell 2
  have c22 : w2.cell? ⟨sb, 2, none⟩ = some pv := h1w.cell 2
  have f22 : w2.frozen? ⟨sb, 2, none⟩ = false := h1w.free 2
  have gb := gr_put w2 sb 2 (.slice A' (P.length + 1) c')
  have hk12 : KX (fun b => pv.ownBlock = some b ∨ b = sb) w1 (w2.setCell ⟨sb, 2, none⟩ (.slice A' (P.length + 1) c')) :=
    (KX.of_below hb).trans (((KX.of_grown (X := fun b => pv.ownBlock = some b ∨ b = sb) e3 (fun k e => .inl e))).trans (KX.of_grown gb (fun k e => .inr (Option.some.inj e).symm)))
  have FIN := Lib.hid (show Sp (w2.setCell ⟨sb, 2, none⟩ (.slice A' (P.length + 1) c')) X base sb g (rdU R a) (P ++ [(a, v)]) ∧ KX X w1 (w2.setCell ⟨sb, 2, none⟩ (.slice A' (P.length + 1) c')) from by
    have l2 := h2.lt
    have l3 := h3.lt
    have hov : ∀ k, (Value.slice A' (P.length + 1) c').ownBlock = some k → X k ∧ k ≠ kb ∧ k ≠ rb ∧ k ≠ sb := fun k hk => by
      rcases e4 with e | e
      · rw [e] at hk; exact h8 k hk
      · rw [e] at hk
        obtain rfl := Option.some.inj hk
        have := hb.size
        exact ⟨HX.out _ (by omega), by omega, by omega, by omega⟩
    refine ⟨⟨⟨kb, rb, (.slice A' (P.length + 1) c'), ?_, ?_, ?_, ?_, h5, h6, ⟨Nat.le_trans h7.1 hk12.size, fun e => by simp at e⟩, hov⟩, ?_, hr⟩, hk12.mono fun b _ hb => ?_⟩
    · exact HB.set h1w 2 (.slice A' (P.length + 1) c')
    · exact h2.keep (hk12.block kb l2 (fun h => by
        rcases h with h | h
        · exact (h8 kb h).2.1 rfl
        · exact h5.2.2 h.symm))
    · exact h3.keep (hk12.block rb l3 (fun h => by
        rcases h with h | h
        · exact (h8 rb h).2.2.1 rfl
        · exact h5.2.1 h.symm))
    · rw [List.length_append, List.length_singleton]
      refine ⟨e2.1, ?_⟩
      rcases e2.2 with e | ⟨b, cap, c0, e0, q1, q2, q3⟩
      · exact .inl e
      · exact .inr ⟨b, cap, c0, e0, q1, (gb.block b (lt_of_block q2) (fun e => (hov b (by rw [e0]; rfl)).2.2.2 (Option.some.inj e))).trans q2, q3⟩
    · intro p hp2
      rcases List.mem_append.1 hp2 with h | h
      · exact hp p h
      · obtain rfl := List.mem_singleton.1 h
        exact ⟨HA.out, by unfold rdU; simp⟩
    · rcases hb with h | h
      · exact (h8 b h).1
      · rw [h]; exact h6.2.2)
  rw [hwv] at run
  clear h1 h2 h3 h4 h5 h6 h7 h8 hp hr hb hR i1 i2 i3 i4 e2 e3 e4 hsb h1v hox h1w gb hk12 hwv hsz
  go_wp2_with (at_builtin; refine wpList_app_run rfl _ _ 145 rfl pv _ _ w2 rfl rfl run ?_)
  first | go_end0 | go_ret
  exact ⟨rfl, FIN.out.1, HK.out.trans FIN.out.2⟩
set_option maxRecDepth 100000 in
theorem mark_any {X : Nat → Prop} {w : World} {base sb : Nat} {g : Mem} {R : Int → Bool} {P : List (Int × Int)} (h : Sp w X base sb g R P) :
    Calls Tryz.prog 40 #[.pointer (some ⟨sb, 0, none⟩)] w fun e w' => e = .returned (.int .i64 P.length) ∧ w' = w := by
  obtain ⟨kb, rb, A, c, h1, -, hc, hR⟩ := h.row
  have c2 : w.cell? ⟨sb, 2, none⟩ = some (.slice A P.length c) := h1.cell 2
  generalize P.length = n at *
  clear h h1 hc hR
  go_enter Tryz.func40, Tryz.ntmps40
  go_wp2
  go_ret
  exact ⟨rfl, rfl⟩
set_option maxRecDepth 100000 in
theorem back_zero {X : Nat → Prop} {w : World} {base sb : Nat} {g : Mem} {R : Int → Bool} (h : Sp w X base sb g R []) :
    Calls Tryz.prog 42 #[.pointer (some ⟨sb, 0, none⟩), .int .i64 0] w fun e w' => e = .returned (.tuple #[]) ∧ w' = w := by
  have KE := Lib.hid (ended_any h)
  obtain ⟨⟨kb, rb, pv, h1, h2, h3, h4, h5, h6, h7, h8⟩, hp, hr⟩ := h
  obtain rfl := h7.2 rfl
  have c2 : w.cell? ⟨sb, 2, none⟩ = some (.slice none 0 0) := h1.cell 2
  have f2 : w.frozen? ⟨sb, 2, none⟩ = false := h1.free 2
  have hsame := setCell_same h1 2 (.slice none 0 0) rfl
  clear h1 h2 h3 h4 h5 h6 h7 h8 hp hr
  go_enter Tryz.func42, Tryz.ntmps42
  go_wp2_with fail
  refine KE.out.mono ?_
  rintro e w1 ⟨rfl, hw⟩
  subst hw
  go_wp2
  first | go_end0 | go_ret
  exact ⟨rfl, rfl⟩
end Go.Proofs.YtkloaopjlbinpaaGreat
