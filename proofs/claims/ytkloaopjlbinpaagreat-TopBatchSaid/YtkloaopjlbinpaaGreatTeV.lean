/- The walk of eliminate's firsts. Condition: at most 20 operations. -/
import Derived.Test.YtkloaopjlbinpaaGreatTeU
set_option linter.unusedVariables false
set_option linter.unusedSimpArgs false
namespace Go.Proofs.YtkloaopjlbinpaaGreat
open Go.RowKit Go.MapKept

def nI (i : Nat) : Value := .int .i64 i
theorem int_info3 : (Tryz.prog.info? 3).map (fun i => (i.zero, i.size, i.bytes)) = some (some (.int .i64 0), 1, 8) := by kernel_rfl
theorem int_info : ∃ i, Tryz.prog.info? 3 = some i ∧ i.zero = some (.int .i64 0) ∧ i.size = 1 ∧ i.bytes = 8 := by
  obtain ⟨i, h1, h2⟩ := Option.map_eq_some_iff.1 int_info3
  injection h2 with h2 h3
  injection h3 with h3 h4
  exact ⟨i, h1, h2, h3, h4⟩
theorem bool_zero (w : World) : (zeroValue 4).run Tryz.prog w = .ok (.bool false) w := by kernel_rfl
/-- append of one index onto a row of the call's own. -/
theorem app_int {w : World} {base : Nat} {v : Value} {l : List Nat} (h : w.ownsRow base 3 1 v l.length (l.map nI)) (hl : l.length ≤ 100000) (hb : base ≤ w.heap.size) (k : Nat) (ty : TypeId) :
    ∃ A c w', (Builtin.append_ #[85, 85] ty #[v, .slice (some ⟨w.heap.size, 0, none⟩) 1 1]).run Tryz.prog (w.alloc (.cells #[.int .i64 k] 3)) = .ok (.slice A (l.length + 1) c) w' ∧
      w'.ownsRow base 3 1 (.slice A (l.length + 1) c) (l ++ [k]).length ((l ++ [k]).map nI) ∧ KX (fun b => v.ownBlock = some b) w w' ∧ ((Value.slice A (l.length + 1) c).ownBlock = v.ownBlock ∨ ∃ q, (Value.slice A (l.length + 1) c).ownBlock = some q ∧ w.heap.size < q) := by
  have hb1 := below_alloc w (.cells #[.int .i64 k] 3)
  have hR : Reads (w.alloc (.cells #[.int .i64 k] 3)) (fun _ => True) 1 (some ⟨w.heap.size, 0, none⟩) 1 [.int .i64 k] := Reads.new w #[.int .i64 k] _ rfl trivial
  obtain ⟨i, i1, i2, i3, i4⟩ := int_info
  obtain ⟨v', w', run, e2, e3, e4⟩ := run_append_any (P := Tryz.prog) (w.alloc (.cells #[.int .i64 k] 3)) base 85 ty 3 i _ 1 8 Tryz.underlying85 i1 i2 i3 i4 rfl (by omega) v l.length _ (World.ownsRow.kept h (below_grown hb1 none) (by cases v.ownBlock <;> simp)) (fun _ => True) _ 1 1 _ hR (by simp [Value.oneCell']) (by unfold maxLen; omega) (by omega) (Nat.le_trans hb hb1.size)
  obtain ⟨A, c, rfl, -, -, -⟩ := own_reads (S := fun _ => True) e2 (fun _ _ => trivial)
  refine ⟨A, c, w', run, ?_, (KX.of_below hb1).trans (KX.of_grown e3 fun k h => h), ?_⟩
  · rw [List.length_append, List.length_singleton, List.map_append]; exact e2
  · rcases e4 with e | e
    · exact .inl e
    · exact .inr ⟨_, e, by rw [World.size_alloc]; omega⟩
/-- Two rows share no memory. -/
def DJ (v u : Value) : Prop := ∀ b, v.ownBlock = some b → u.ownBlock ≠ some b
/-- A row of indices that is kept where others are changed. -/
theorem own_kx {X : Nat → Prop} {w w' : World} {base : Nat} {v : Value} {t : TypeId} {sz n : Nat} {xs : List Value} (h : w.ownsRow base t sz v n xs) (hk : KX X w w') (hx : ∀ b, v.ownBlock = some b → ¬ X b) : w'.ownsRow base t sz v n xs := by
  refine ⟨h.1, ?_⟩
  rcases h.2 with e | ⟨b, cap, c0, e, q1, q2, q3⟩
  · exact .inl e
  · exact .inr ⟨b, cap, c0, e, q1, (hk.block b (lt_of_block q2) (hx b (by rw [e]; rfl))).trans q2, q3⟩
theorem op_cells {w : World} {A : Option Addr} {n : Nat} {L : List Opn} (hR : Reads w (fun _ => True) 3 A n (L.flatMap opC)) {j : Nat} (hj : j < n) (hl : L.length = n) : ∃ b q, A = some ⟨b, q, none⟩ ∧ b < w.heap.size ∧ w.cell? ⟨b, q + j * 3, none⟩ = some (.int .i64 (oT L j)) ∧ w.cell? ⟨b, q + j * 3 + 1, none⟩ = some (.bool (oP L j)) ∧ w.cell? ⟨b, q + j * 3 + 2, none⟩ = some (.int .i64 (oV L j)) := by
  obtain ⟨b, q, rfl, hb, -, hc⟩ := hR.2 (by omega)
  have hx : L[j]? = some (L.getD j ⟨0, false, 0⟩) := by
    rw [List.getD_eq_getElem?_getD, List.getElem?_eq_getElem (by omega)]; rfl
  have h := fun r hr => flat_get 3 opC (fun _ => rfl) L j _ hx r hr
  exact ⟨b, q, rfl, hb, by have := hc (j * 3 + 0) _ (h 0 (by omega)); exact this, by have := hc (j * 3 + 1) _ (h 1 (by omega)); rw [← Nat.add_assoc] at this; exact this, by have := hc (j * 3 + 2) _ (h 2 (by omega)); rw [← Nat.add_assoc] at this; exact this⟩
set_option maxRecDepth 100000 in
set_option maxHeartbeats 6400000 in
theorem firsts_any (w : World) (A : Option Addr) (n c : Nat) (L : List Opn) (hl : L.length = n) (hn : n ≤ 20) (hA : Reads w (fun _ => True) 3 A n (L.flatMap opC)) :
    Calls Tryz.prog 59 #[.slice A n c] w fun e w' => ∃ v1 v2 : Value, e = .returned (.tuple #[v1, v2]) ∧ w'.ownsRow w.heap.size 3 1 v1 (fl true L n).length ((fl true L n).map nI) ∧ w'.ownsRow w.heap.size 3 1 v2 (fl false L n).length ((fl false L n).map nI) ∧ Below w.heap.size w w' := by
  have HL := Lib.hid hl
  have HN := Lib.hid hn
  have HA := Lib.hid hA
  have hn6 : (n : Int) ≤ 20 := by omega
  have hmm := @run_makeMap Tryz.prog
  obtain ⟨W1, hW1⟩ : ∃ W, W = w.alloc (.map #[] 0) := ⟨_, rfl⟩
  have b1 : Below w.heap.size w W1 := by rw [hW1]; exact below_alloc _ _
  have M1 := Lib.hid (show IntMap W1 w.heap.size (seenF L 0) from by rw [hW1, seen_zero]; exact IntMap.made w)
  have Z1 := Lib.hid (show w.heap.size + 1 ≤ W1.heap.size from by rw [hW1, World.size_alloc]; exact Nat.le_refl _)
  have B1 := Lib.hid b1
  clear b1 hl hn hA
  go_enter Tryz.func59, Tryz.ntmps59
  go_upto_region 2 with fail
  rw [← hW1]
  clear hW1 hmm
  go_wp2_with fail
  go_loopw [2, 3, 10] (fun v2 v3 v10 wr => ∃ j : Nat, v10 = .int .i64 j ∧ j ≤ n ∧ IntMap wr w.heap.size (seenF L j) ∧ wr.ownsRow w.heap.size 3 1 v2 (fl true L j).length ((fl true L j).map nI) ∧ wr.ownsRow w.heap.size 3 1 v3 (fl false L j).length ((fl false L j).map nI) ∧ DJ v2 v3 ∧ v2.ownBlock ≠ some w.heap.size ∧ v3.ownBlock ≠ some w.heap.size ∧ Below w.heap.size w wr ∧ w.heap.size + 1 ≤ wr.heap.size) (fun _ _ v10 _ => n - (intOf v10).toNat)
  case atStart => exact ⟨0, rfl, Nat.zero_le _, M1.out, World.ownsRow_nil _ _ _ _, World.ownsRow_nil _ _ _ _, (fun _ h => by cases h), (fun h => by cases h), (fun h => by cases h), B1.out, Z1.out⟩
  case round =>
    clear M1 B1 Z1
    obtain ⟨j, rfl, hj, hm, ho2, ho3, hdj, hn2, hn3, hb, hz⟩ := hrel
    have O2 := Lib.hid ho2
    have O3 := Lib.hid ho3
    have DD := Lib.hid hdj
    have N2 := Lib.hid (And.intro hn2 hn3)
    have BB := Lib.hid hb
    have ZZ := Lib.hid hz
    have MM := Lib.hid hm
    clear hm ho2 ho3 hdj hn2 hn3 hb hz
    by_cases hlt : j < n
    · have hi2 : (j : Int) < (n : Int) := by omega
      obtain ⟨b, q, rfl, hbl, d0, d1, d2⟩ := op_cells (HA.out.below BB.out) hlt HL.out
      obtain ⟨W2, hW2⟩ : ∃ W, W = wr.alloc (.cells #[.int .i64 (oT L j), .bool (oP L j), .int .i64 (oV L j)] 39) := ⟨_, rfl⟩
      have b2 : Below wr.heap.size wr W2 := by rw [hW2]; exact below_alloc _ _
      have h2 : HB 39 W2 wr.heap.size #[.int .i64 (oT L j), .bool (oP L j), .int .i64 (oV L j)] := by rw [hW2]; exact HB.new _ _ _
      have c0 : W2.cell? ⟨wr.heap.size, 0, none⟩ = some (.int .i64 (oT L j)) := h2.cell 0
      have P2 := Lib.hid h2
      have M2 := Lib.hid (MM.out.below b2)
      have B2 := Lib.hid (BB.out.trans (b2.mono BB.out.size))
      have Z2 := Lib.hid (show w.heap.size + 1 ≤ wr.heap.size ∧ wr.heap.size < W2.heap.size from ⟨ZZ.out, by rw [hW2, World.size_alloc]; omega⟩)
      have Q2 := Lib.hid (own_kx O2.out (KX.of_below (X := fun _ => False) b2) (fun _ _ h => h))
      have Q3 := Lib.hid (own_kx O3.out (KX.of_below (X := fun _ => False) b2) (fun _ _ h => h))
      have LT2 := Lib.hid (show (∀ b, u2.ownBlock = some b → b < wr.heap.size) ∧ (∀ b, u3.ownBlock = some b → b < wr.heap.size) from ⟨fun b h => (O2.out.lt b h).2, fun b h => (O3.out.lt b h).2⟩)
      have SG := Lib.hid (seen_get L j)
      have HLT := Lib.hid hlt
      clear b2 h2 hbl hlt hj O2 O3 MM BB ZZ
      go_upto_region 5 with fail
      rw [← hW2]
      clear hW2 d0 d1 d2
      cases hF : isF L j with
      | false =>
        have HF := Lib.hid hF
        rw [hF] at SG
        clear hF
        go_wp2_with (at_lookup; refine look_val rfl _ _ 140 rfl 3 4 Tryz.underlying140 Tryz.underlying3 (.bool false) bool_zero w.heap.size (seenF L j) M2.out rfl (oT L j) rfl (.bool true) SG.out ?_)
        have FT : ∀ b, fl b L (j + 1) = fl b L j := fun b => by rw [fl_step, HF.out]; rfl
        have Q2' := Lib.hid (show W2.ownsRow w.heap.size 3 1 u2 (fl true L (j + 1)).length ((fl true L (j + 1)).map nI) from by rw [FT]; exact Q2.out)
        have Q3' := Lib.hid (show W2.ownsRow w.heap.size 3 1 u3 (fl false L (j + 1)).length ((fl false L (j + 1)).map nI) from by rw [FT]; exact Q3.out)
        have M2' := Lib.hid (show IntMap W2 w.heap.size (seenF L (j + 1)) from by rw [seen_skip HF.out]; exact M2.out)
        go_roundw
        case rel => exact ⟨j + 1, by go_num, HLT.out, M2'.out, Q2'.out, Q3'.out, DD.out, N2.out.1, N2.out.2, B2.out, by have := Z2.out; omega⟩
        case measure =>
          have := HLT.out
          show n - ((j + 1 : Nat) : Int).toNat < n - (j : Int).toNat
          omega
      | true =>
        have HF := Lib.hid hF
        rw [hF] at SG
        clear hF
        go_upto_region 6 with (at_lookup; refine look_val rfl _ _ 140 rfl 3 4 Tryz.underlying140 Tryz.underlying3 (.bool false) bool_zero w.heap.size (seenF L j) M2.out rfl (oT L j) rfl (.bool false) SG.out ?_)
        go_upto_region 7 with (at_mapUpdate; refine wpList_mapUpdate_mine rfl _ _ _ 140 rfl 3 4 Tryz.underlying140 Tryz.underlying3 w.heap.size (seenF L j) M2.out rfl (oT L j) rfl (.bool true) rfl ?_; intro w3 hm3 hg3 hs3; clear hs3; have HM3 := Lib.hid hm3; have HG3 := Lib.hid hg3; clear hm3 hg3)
        have hk3 : KX (fun b => b = w.heap.size) W2 w3 := KX.of_grown HG3.out (fun k e => (Option.some.inj e).symm)
        have M3 := Lib.hid (show IntMap w3 w.heap.size (seenF L (j + 1)) from by rw [← seen_step HF.out]; exact HM3.out)
        have R2 := Lib.hid (own_kx Q2.out hk3 (fun b h e => N2.out.1 (e ▸ h)))
        have R3 := Lib.hid (own_kx Q3.out hk3 (fun b h e => N2.out.2 (e ▸ h)))
        have P3 := Lib.hid (P2.out.kx hk3 (fun e => by have := Z2.out; omega))
        have B3 := Lib.hid (B2.out.trans (hk3.below B2.out.size (fun b hb e => by omega)))
        have Z3 := Lib.hid (show wr.heap.size < w3.heap.size from Nat.lt_of_lt_of_le Z2.out.2 hk3.size)
        have c1 : w3.cell? ⟨wr.heap.size, 1, none⟩ = some (.bool (oP L j)) := P3.out.cell 1
        clear hk3 HM3 HG3 Q2 Q3 M2 P2 B2 SG
        have LN2 := Lib.hid (fl_len true L j)
        have LN3 := Lib.hid (fl_len false L j)
        cases hP : oP L j with
        | true =>
          have HP := Lib.hid hP
          rw [hP] at c1
          clear hP
          obtain ⟨A, c, w4, run, ho4, hk4, ow4⟩ := app_int R2.out (by have := LN2.out; have := HLT.out; have := HN.out; omega) (by have := Z3.out; have := Z2.out; omega) j 85
          have FS := Lib.hid (show fl true L (j + 1) = fl true L j ++ [j] from by rw [fl_step, HF.out, HP.out]; rfl)
          have FT := Lib.hid (show fl false L (j + 1) = fl false L j from by rw [fl_step, HF.out, HP.out]; rfl)
          have G1 := Lib.hid (show w4.ownsRow w.heap.size 3 1 (.slice A ((fl true L j).length + 1) c) (fl true L (j + 1)).length ((fl true L (j + 1)).map nI) from by rw [FS.out]; exact ho4)
          have G2 := Lib.hid (show w4.ownsRow w.heap.size 3 1 u3 (fl false L (j + 1)).length ((fl false L (j + 1)).map nI) from by rw [FT.out]; exact own_kx R3.out hk4 (fun b h e => DD.out b e h))
          have GD := Lib.hid (show DJ (.slice A ((fl true L j).length + 1) c) u3 from by
            intro b hb e
            rcases ow4 with h | ⟨q, h, hq⟩
            · exact DD.out b (h ▸ hb) e
            · rw [h] at hb
              have := Option.some.inj hb
              have := LT2.out.2 b e
              have := Z3.out
              omega)
          have GN := Lib.hid (show (Value.slice A ((fl true L j).length + 1) c).ownBlock ≠ some w.heap.size from fun e => by
            rcases ow4 with h | ⟨q, h, hq⟩
            · rw [h] at e; exact N2.out.1 e
            · rw [h] at e; have := Option.some.inj e; have := Z2.out; have := Z3.out; omega)
          have GB := Lib.hid (B3.out.trans (hk4.below B3.out.size (fun b hb e => by have := (R2.out.lt b e).1; omega)))
          have GM := Lib.hid (M3.out.keep (hk4.block _ M3.out.lt (fun e => N2.out.1 e)))
          have GZ := Lib.hid (show w.heap.size + 1 ≤ w4.heap.size from by have := Z2.out; have := Z3.out; have := hk4.size; omega)
          obtain ⟨dl, hdl⟩ : ∃ z, z = (fl true L j).length + 1 := ⟨_, rfl⟩
          rw [← hdl] at run G1 GD GN
          clear hdl ho4 hk4 ow4 B3 M3 R2 R3 DD LT2
          go_wp2_with (at_builtin; refine wpList_app_run rfl _ _ 85 rfl u2 _ _ w4 rfl rfl run ?_)
          go_roundw
          case rel => exact ⟨j + 1, by go_num, HLT.out, GM.out, G1.out, G2.out, GD.out, GN.out, N2.out.2, GB.out, GZ.out⟩
          case measure =>
            have := HLT.out
            show n - ((j + 1 : Nat) : Int).toNat < n - (j : Int).toNat
            omega
        | false =>
          have HP := Lib.hid hP
          rw [hP] at c1
          clear hP
          obtain ⟨A, c, w4, run, ho4, hk4, ow4⟩ := app_int R3.out (by have := LN3.out; have := HLT.out; have := HN.out; omega) (by have := Z3.out; have := Z2.out; omega) j 85
          have FS := Lib.hid (show fl false L (j + 1) = fl false L j ++ [j] from by rw [fl_step, HF.out, HP.out]; rfl)
          have FT := Lib.hid (show fl true L (j + 1) = fl true L j from by rw [fl_step, HF.out, HP.out]; rfl)
          have G1 := Lib.hid (show w4.ownsRow w.heap.size 3 1 (.slice A ((fl false L j).length + 1) c) (fl false L (j + 1)).length ((fl false L (j + 1)).map nI) from by rw [FS.out]; exact ho4)
          have G2 := Lib.hid (show w4.ownsRow w.heap.size 3 1 u2 (fl true L (j + 1)).length ((fl true L (j + 1)).map nI) from by rw [FT.out]; exact own_kx R2.out hk4 (fun b h e => DD.out b h e))
          have GD := Lib.hid (show DJ u2 (.slice A ((fl false L j).length + 1) c) from by
            intro b hb e
            rcases ow4 with h | ⟨q, h, hq⟩
            · exact DD.out b hb (h ▸ e)
            · rw [h] at e
              have := Option.some.inj e
              have := LT2.out.1 b hb
              have := Z3.out
              omega)
          have GN := Lib.hid (show (Value.slice A ((fl false L j).length + 1) c).ownBlock ≠ some w.heap.size from fun e => by
            rcases ow4 with h | ⟨q, h, hq⟩
            · rw [h] at e; exact N2.out.2 e
            · rw [h] at e; have := Option.some.inj e; have := Z2.out; have := Z3.out; omega)
          have GB := Lib.hid (B3.out.trans (hk4.below B3.out.size (fun b hb e => by have := (R3.out.lt b e).1; omega)))
          have GM := Lib.hid (M3.out.keep (hk4.block _ M3.out.lt (fun e => N2.out.2 e)))
          have GZ := Lib.hid (show w.heap.size + 1 ≤ w4.heap.size from by have := Z2.out; have := Z3.out; have := hk4.size; omega)
          obtain ⟨dl, hdl⟩ : ∃ z, z = (fl false L j).length + 1 := ⟨_, rfl⟩
          rw [← hdl] at run G1 GD GN
          clear hdl ho4 hk4 ow4 B3 M3 R2 R3 DD LT2
          go_wp2_with (at_builtin; refine wpList_app_run rfl _ _ 85 rfl u3 _ _ w4 rfl rfl run ?_)
          go_roundw
          case rel => exact ⟨j + 1, by go_num, HLT.out, GM.out, G2.out, G1.out, GD.out, N2.out.1, GN.out, GB.out, GZ.out⟩
          case measure =>
            have := HLT.out
            show n - ((j + 1 : Nat) : Int).toNat < n - (j : Int).toNat
            omega
    · have hi2 : ¬ (j : Int) < (n : Int) := by omega
      obtain rfl : j = n := by omega
      go_wp2_with fail
      go_ret2
      exact ⟨_, _, rfl, O2.out, O3.out, BB.out⟩
end Go.Proofs.YtkloaopjlbinpaaGreat
