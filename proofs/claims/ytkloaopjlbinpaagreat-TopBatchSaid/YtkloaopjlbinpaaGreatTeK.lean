/- The walk of the space's Entries. Conditions: at most 90000 writes; no version is the greatest. -/
import Derived.Test.YtkloaopjlbinpaaGreatTeJ
set_option linter.unusedVariables false
set_option linter.unusedSimpArgs false
namespace Go.Proofs.YtkloaopjlbinpaaGreat
open Go.RowKit Go.MapKept

def entOf (g : Mem) (P : List (Int × Int)) (k : Int) : Ent := ⟨k, g.val k, g.ver k, 0, cur g P k, wrt P k⟩
theorem wrt_false {P : List (Int × Int)} {a : Int} (h : wrt P a = false) : ∀ p ∈ P, p.1 ≠ a := fun p hp e => by
  subst e
  have := wrt_some (v := p.2) hp
  rw [h] at this
  cases this
theorem ent_ok {g : Mem} {P : List (Int × Int)} {k : Int} (hk : inM k) (hf : g.Fits 4294967294) : entE (entOf g P k) = 0 ∧ EntOk (entOf g P k) := by
  have h1 := hf k hk
  have h2 : 0 ≤ k ∧ k < 1120 := hk
  constructor
  · unfold entE entOf
    dsimp only
    rw [if_neg (by omega), if_neg (by simp), if_neg (by omega)]
    cases hw : wrt P k with
    | true => rw [if_neg (by simp)]
    | false => rw [if_neg (by rw [cur_none g (wrt_false hw)]; simp)]
  · exact ⟨⟨h1.1, by show g.ver k < 4294967296; omega⟩, by show (0 : Int) ≤ 0; omega, by show (0 : Int) < 4294967296; omega⟩
theorem chkL_ok {g : Mem} {P : List (Int × Int)} (hf : g.Fits 4294967294) : ∀ (L M : List Int), (M ++ L).Nodup → (∀ k ∈ L, inM k) → chkL (M.map (entOf g P)) (L.map (entOf g P)) = 0
  | [], M, _, _ => rfl
  | k :: L, M, hn, hi => by
    rw [List.map_cons, chkL, if_neg (by rw [(ent_ok (hi k List.mem_cons_self) hf).1]; simp), if_neg ?_]
    · have := chkL_ok (P := P) hf L (M ++ [k]) (by rw [List.append_assoc]; exact hn) (fun j hj => hi j (List.mem_cons_of_mem _ hj))
      rwa [List.map_append] at this
    · rw [List.any_eq_true]
      rintro ⟨y, hy, he⟩
      obtain ⟨j, hj, rfl⟩ := List.mem_map.1 hy
      have e : j = k := by simpa [entOf] using he
      rw [List.nodup_append] at hn
      exact hn.2.2 j hj k List.mem_cons_self e
theorem ent_info3 : (Tryz.prog.info? 101).map (fun i => (i.zero, i.size, i.bytes)) = some (some (.agg #[.int .i64 0, .int .i64 0, .int .u32 0, .int .u32 0, .int .i64 0, .bool false]), 6, 40) := by kernel_rfl
theorem ent_info : ∃ i, Tryz.prog.info? 101 = some i ∧ i.zero = some (.agg #[.int .i64 0, .int .i64 0, .int .u32 0, .int .u32 0, .int .i64 0, .bool false]) ∧ i.size = 6 ∧ i.bytes = 40 := by
  obtain ⟨i, h1, h2⟩ := Option.map_eq_some_iff.1 ent_info3
  injection h2 with h2 h3
  injection h3 with h3 h4
  exact ⟨i, h1, h2, h3, h4⟩
theorem app_ent {w : World} {base : Nat} {v : Value} {l : List Ent} (h : w.ownsRow base 101 6 v l.length (flatE l)) (hl : l.length ≤ 100000) (hb : base ≤ w.heap.size) (x : Ent) (ty : TypeId) :
    ∃ A c w', (Builtin.append_ #[63, 63] ty #[v, .slice (some ⟨w.heap.size, 0, none⟩) 1 1]).run Tryz.prog (w.alloc (entO x)) = .ok (.slice A (l.length + 1) c) w' ∧
      w'.ownsRow base 101 6 (.slice A (l.length + 1) c) (l ++ [x]).length (flatE (l ++ [x])) ∧ KX (fun b => v.ownBlock = some b) w w' := by
  have hb1 := below_alloc w (entO x)
  have hR : Reads (w.alloc (entO x)) (fun _ => True) 6 (some ⟨w.heap.size, 0, none⟩) 1 (entC x) := Reads.new w _ _ rfl trivial
  obtain ⟨i, i1, i2, i3, i4⟩ := ent_info
  obtain ⟨v', w', run, e2, e3, e4⟩ := run_append_any (P := Tryz.prog) (w.alloc (entO x)) base 63 ty 101 i _ 6 40 Tryz.underlying63 i1 i2 i3 i4 rfl (by omega) v l.length _ (World.ownsRow.kept h (below_grown hb1 none) (by cases v.ownBlock <;> simp)) (fun _ => True) _ 1 1 _ hR (by simp [entC, Value.oneCell']) (by unfold maxLen; omega) (by omega) (Nat.le_trans hb hb1.size)
  obtain ⟨A, c, rfl, -, -, -⟩ := own_reads (S := fun _ => True) e2 (fun _ _ => trivial)
  refine ⟨A, c, w', run, ?_, (KX.of_below hb1).trans (KX.of_grown e3 fun k h => h)⟩
  rw [List.length_append, List.length_singleton, show flatE (l ++ [x]) = flatE l ++ entC x by unfold flatE; rw [List.flatMap_append]; simp]
  exact e2
set_option maxRecDepth 100000 in
set_option maxHeartbeats 6400000 in
theorem entries_any {X : Nat → Prop} {w : World} {base sb : Nat} {g : Mem} {R : Int → Bool} {P : List (Int × Int)} (h : Sp w X base sb g R P) (hn : P.length ≤ 90000) (hf : g.Fits 4294967294) :
    Calls Tryz.prog 33 #[.pointer (some ⟨sb, 0, none⟩)] w fun e w' => ∃ L : List Int, L.Nodup ∧ (∀ k, k ∈ L ↔ R k = true) ∧ Below w.heap.size w w' ∧
      ((32 < L.length ∧ e = .returned (.tuple #[.slice none 0 0, .int .i64 15])) ∨ (∃ (A : Option Addr) (c : Nat), e = .returned (.tuple #[.slice A L.length c, .int .i64 0]) ∧ L.length ≤ c ∧ Ents w' (fun b => w.heap.size ≤ b) A L.length (L.map (entOf g P)))) := by
  have KE := Lib.hid (ended_any h)
  have KR := Lib.hid (reads_list h)
  have HS := Lib.hid h
  have HN := Lib.hid hn
  have HF := Lib.hid hf
  have HRR := Lib.hid h.reads
  clear h hn hf
  go_enter Tryz.func33, Tryz.ntmps33
  go_wp2_with fail
  refine KE.out.mono ?_
  rintro e w0 ⟨rfl, hw⟩
  subst hw
  go_wp2_with fail
  refine KR.out.mono ?_
  rintro e w1 ⟨lv, L, rfl, ho, hnd, hmem, hlen, hb⟩
  obtain ⟨A, c, hlv, hlc, -, hR⟩ := own_reads (S := fun _ => True) ho (fun _ _ => trivial)
  subst hlv
  have HR := Lib.hid hR
  have ND := Lib.hid hnd
  have MEM := Lib.hid hmem
  have LEN := Lib.hid hlen
  have B1 := Lib.hid hb
  have HIN := Lib.hid (show ∀ k ∈ L, inM k from fun k hk => HRR.out k ((hmem k).1 hk))
  obtain ⟨n, hnn⟩ : ∃ n, n = L.length := ⟨_, rfl⟩
  rw [← hnn] at hlen hlc hR HR ⊢
  have NN := Lib.hid hnn
  have hn6 : (n : Int) ≤ 1120 := by omega
  clear ho hnd hmem hlen hb hlc hR hnn KE KR
  go_wp2_with fail
  go_loopw [4, 15] (fun v4 v15 wr => ∃ k : Nat, v15 = .int .i64 k ∧ k ≤ n ∧ wr.ownsRow w1.heap.size 101 6 v4 k (flatE ((L.take k).map (entOf g P))) ∧ Below w1.heap.size w1 wr) (fun _ v15 _ => n - (intOf v15).toNat)
  case atStart => exact ⟨0, rfl, Nat.zero_le _, World.ownsRow_nil _ _ _ _, Below.refl _ _⟩
  case round =>
    obtain ⟨k, rfl, hk, ho, hb⟩ := hrel
    have OW := Lib.hid ho
    have BB := Lib.hid hb
    have BW := Lib.hid (B1.out.trans (hb.mono B1.out.size))
    clear ho hb
    by_cases hlt : k < n
    · have hi2 : (k : Int) < (n : Int) := by omega
      obtain ⟨x, hx⟩ : ∃ x, L[k]? = some x := ⟨_, List.getElem?_eq_getElem (by have := NN.out; omega)⟩
      obtain ⟨b, q, hA, hbl, -, hc⟩ := HR.out.2 (by omega)
      subst hA
      have d0 : wr.cell? ⟨b, q + k, none⟩ = some (.int .i64 x) := (BB.out.cell (p := ⟨b, q + k, none⟩) hbl).trans (hc k _ (by rw [List.getElem?_map, hx]; rfl))
      have hin := HIN.out x (List.mem_of_getElem? hx)
      have SPW := Lib.hid (HS.out.below BW.out)
      have KV := Lib.hid (value_any SPW.out (by have := HN.out; omega) x hin)
      obtain ⟨kb, rb, pv, q1, q2, -⟩ := SPW.out.ex
      have c0 : wr.cell? ⟨sb, 0, none⟩ = some (.map (some kb)) := q1.cell 0
      have HM := Lib.hid q2
      have HG := Lib.hid (show (g.at x).getD (wdV 0 0) = .agg #[.int .i64 (g.val x), .int .u32 (g.ver x), .int .u32 0] by unfold Mem.at; rw [if_pos hin]; rfl)
      have LL := Lib.hid (show ((L.take k).map (entOf g P)).length = k from by rw [List.length_map, List.length_take]; have := NN.out; omega)
      have TK := Lib.hid (show (L.take (k + 1)).map (entOf g P) = (L.take k).map (entOf g P) ++ [entOf g P x] from by rw [List.take_add_one, hx, List.map_append]; rfl)
      obtain ⟨A2, c2, w4, run, ho4, hk4⟩ := app_ent (l := (L.take k).map (entOf g P)) (v := u4) (by rw [LL.out]; exact OW.out) (by rw [LL.out]; omega) BB.out.size (entOf g P x) 63
      have FO := Lib.hid (show w4.ownsRow w1.heap.size 101 6 (.slice A2 (k + 1) c2) (k + 1) (flatE ((L.take (k + 1)).map (entOf g P))) from by
        rw [TK.out]
        have e := ho4
        rw [List.length_append, LL.out, List.length_singleton] at e
        exact e)
      have FB := Lib.hid (show Below w1.heap.size w1 w4 from BB.out.trans (hk4.below BB.out.size (fun b hb e => by have := (OW.out.lt b e).1; omega)))
      rw [LL.out] at run
      obtain ⟨dl, hdl⟩ : ∃ z, z = k + 1 := ⟨_, rfl⟩
      rw [← hdl] at run
      have FO2 := Lib.hid (show w4.ownsRow w1.heap.size 101 6 (.slice A2 dl c2) (k + 1) (flatE ((L.take (k + 1)).map (entOf g P))) from by rw [hdl]; exact FO.out)
      have HLT := Lib.hid hlt
      obtain ⟨vv, hvv⟩ : ∃ z, z = cur g P x := ⟨_, rfl⟩
      obtain ⟨wb, hwb⟩ : ∃ z, z = wrt P x := ⟨_, rfl⟩
      have run2 : (Builtin.append_ #[63, 63] 63 #[u4, .slice (some ⟨wr.heap.size, 0, none⟩) 1 1]).run Tryz.prog (wr.alloc (.cells #[.int .i64 x, .int .i64 (g.val x), .int .u32 (g.ver x), .int .u32 0, .int .i64 vv, .bool wb] 101)) = .ok (.slice A2 dl c2) w4 := by rw [hvv, hwb]; exact run
      rw [← hvv, ← hwb] at KV
      clear hx hbl hc hin q1 q2 ho4 hk4 hdl FO OW BB hk hlt TK LL run hvv hwb SPW
      go_wp2_with fail
      refine KV.out.mono ?_
      rintro e wz ⟨rfl, hw⟩
      subst hw
      go_wp2_with (first
        | (at_lookup; refine look_val rfl _ _ 34 rfl 51 96 Tryz.underlying34 Tryz.underlying51 (wdV 0 0) word_zero kb g.at HM.out rfl x rfl (.agg #[.int .i64 (g.val x), .int .u32 (g.ver x), .int .u32 0]) HG.out ?_)
        | (at_builtin; refine wpList_app_run rfl _ _ 63 rfl u4 _ _ w4 rfl rfl run2 ?_))
      go_roundw
      case rel => exact ⟨k + 1, by go_num, HLT.out, FO2.out, FB.out⟩
      case measure =>
        have := HLT.out
        show n - ((k + 1 : Nat) : Int).toNat < n - (k : Int).toNat
        omega
    · have hi2 : ¬ (k : Int) < (n : Int) := by omega
      have hkn : k = L.length := by have := NN.out; omega
      have TK := Lib.hid (show L.take k = L from List.take_of_length_le (by omega))
      have OW2 := Lib.hid (show wr.ownsRow w1.heap.size 101 6 u4 L.length (flatE (L.map (entOf g P))) from by have := OW.out; rw [TK.out] at this; rw [hkn] at this; exact this)
      obtain ⟨A3, c3, hv3, hc3, -, hR3⟩ := own_reads (S := fun b => w0.heap.size ≤ b) OW2.out (fun b hb => Nat.le_trans B1.out.size hb)
      subst hv3
      have HE := Lib.hid (show Ents wr (fun b => w0.heap.size ≤ b) A3 L.length (L.map (entOf g P)) from ⟨by rw [List.length_map], hR3⟩)
      have HC3 := Lib.hid hc3
      obtain ⟨ln, hln⟩ : ∃ z, z = L.length := ⟨_, rfl⟩
      rw [← hln] at HE HC3 ⊢
      have LN := Lib.hid hln
      clear hk hlt hkn OW OW2 TK hR3 hc3 hln
      by_cases h0 : ln = 0
      · subst h0
        go_wp2
        go_ret2
        exact ⟨L, ND.out, MEM.out, BW.out, .inr ⟨none, 0, by rw [← LN.out]; rfl, by rw [← LN.out]; exact Nat.le_refl _, by
          have hL : L = [] := List.eq_nil_of_length_eq_zero LN.out.symm
          subst hL
          exact ⟨rfl, Reads.none_⟩⟩⟩
      · have e0 : ((ln : Int) == 0) = false := by simpa using h0
        have e0d : decide ((ln : Int) = 0) = false := by simpa using h0
        have KC := Lib.hid (check_any A3 ln c3 (L.map (entOf g P)) wr HE.out (fun e he => by
          obtain ⟨k, hk, rfl⟩ := List.mem_map.1 he
          exact (ent_ok (HIN.out k hk) HF.out).2) (by have := LEN.out; have := NN.out; have := LN.out; omega) HC3.out)
        have CH := Lib.hid (show chk (L.map (entOf g P)) = if 32 < ln then 15 else 0 from by
          unfold chk
          rw [List.length_map, ← LN.out, if_neg h0]
          split
          · rfl
          · exact chkL_ok HF.out L [] ND.out HIN.out)
        by_cases h32 : 32 < ln
        · have CH2 := CH.out
          rw [if_pos h32] at CH2
          rw [CH2] at KC
          clear CH2 CH h0
          go_wp2_with fail
          refine KC.out.mono ?_
          rintro e w5 ⟨rfl, hb⟩
          have B5 := Lib.hid (BW.out.trans (hb.mono BW.out.size))
          clear hb
          go_wp2
          go_ret2
          exact ⟨L, ND.out, MEM.out, B5.out, .inl ⟨by rw [← LN.out]; exact h32, rfl⟩⟩
        · have CH2 := CH.out
          rw [if_neg h32] at CH2
          rw [CH2] at KC
          clear CH2 CH h0
          go_wp2_with fail
          refine KC.out.mono ?_
          rintro e w5 ⟨rfl, hb⟩
          have B5 := Lib.hid (BW.out.trans (hb.mono BW.out.size))
          have E5 := Lib.hid (HE.out.below hb)
          clear hb
          go_wp2
          go_ret2
          exact ⟨L, ND.out, MEM.out, B5.out, .inr ⟨A3, c3, by rw [← LN.out]; rfl, by rw [← LN.out]; exact HC3.out, by rw [← LN.out]; exact E5.out⟩⟩
end Go.Proofs.YtkloaopjlbinpaaGreat
