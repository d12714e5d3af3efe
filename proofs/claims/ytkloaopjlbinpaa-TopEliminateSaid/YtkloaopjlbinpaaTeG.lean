/- The walk of the stack's Walk over a space whose words hold a stack. Conditions: at most 70000 writes. -/
import Derived.Test.YtkloaopjlbinpaaTeF
set_option linter.unusedVariables false
set_option linter.unusedSimpArgs false
namespace Go.Proofs.Ytkloaopjlbinpaa
open Go.RowKit Go.MapKept

def lenOf (v : Value) : Nat := match v with | .slice _ n _ => n | _ => 0
theorem i64_info3 : (Try.prog.info? 2).map (fun i => (i.zero, i.size, i.bytes)) = some (some (.int .i64 0), 1, 8) := by kernel_rfl
theorem i64_info : ∃ i, Try.prog.info? 2 = some i ∧ i.zero = some (.int .i64 0) ∧ i.size = 1 ∧ i.bytes = 8 := by
  obtain ⟨i, h1, h2⟩ := Option.map_eq_some_iff.1 i64_info3
  injection h2 with h2 h3
  injection h3 with h3 h4
  exact ⟨i, h1, h2, h3, h4⟩
theorem own_int1 (v : Int) (t : TypeId) (w : World) : Reads (w.alloc (.cells #[.int .i64 v] t)) (fun _ => True) 1 (some ⟨w.heap.size, 0, none⟩) 1 [.int .i64 v] := Reads.new w #[.int .i64 v] t rfl trivial
set_option maxRecDepth 100000 in
set_option maxHeartbeats 6400000 in
theorem walk_any {X : Nat → Prop} {w : World} {base sb : Nat} {g : Mem} {P : List (Int × Int)} (h : SpE w X base sb g P) (hX : ∀ b, w.heap.size ≤ b → X b) (hn : P.length ≤ 70000) {l : List Int} {nh : Nat} (hs : StkI (cur g P) l nh) :
    Calls Try.prog 13 #[.pointer (some ⟨sb, 0, none⟩), .agg #[.int .i64 1, .int .i64 96, .int .i64 128], .int .i64 16] w fun e w' => ∃ v, e = .returned (.tuple #[v, .int .i64 0]) ∧ w'.ownsRow w.heap.size 2 1 v l.length (l.map (.int .i64)) ∧ SpE w' (fun b => X b ∧ v.ownBlock ≠ some b) base sb g P ∧ KX X w w' := by
  obtain ⟨W0, hW0⟩ : ∃ W, W = w.alloc (.cells #[.int .i64 1, .int .i64 96, .int .i64 128] 56) := ⟨_, rfl⟩
  have hb : Below w.heap.size w W0 := by rw [hW0]; exact below_alloc _ _
  have PB := Lib.hid (show HB 56 W0 w.heap.size #[.int .i64 1, .int .i64 96, .int .i64 128] from by rw [hW0]; exact HB.new _ _ _)
  have X1H := Lib.hid (show ∀ b, W0.heap.size ≤ b → X b ∧ b ≠ w.heap.size from fun b hb2 => by
    have e : W0.heap.size = w.heap.size + 1 := by rw [hW0]; exact World.size_alloc ..
    exact ⟨hX b (by omega), by omega⟩)
  have S0 := Lib.hid (((h).more (Y := fun b => X b ∧ b ≠ w.heap.size) fun b hb2 hx => ⟨hx, by omega⟩).below hb)
  have B := Lib.hid (KX.of_below (X := X) hb)
  clear hb
  have HN := Lib.hid hn
  obtain ⟨ns, fs, hs⟩ := hs
  have HS := Lib.hid hs
  have HLN := Lib.hid (show ns.length = l.length ∧ ns.length ≤ 128 from by
    have e := hs.vals
    rw [← e, List.length_map]
    exact ⟨rfl, by have := hs.cnt; have := hs.le; omega⟩)
  have W16 : IntKind.i64.wrap (16 + 0) = 16 := by decide
  clear h hX hn hs
  go_enter Try.func13, Try.ntmps13
  go_upto_region 1 with fail
  rw [← hW0]
  clear hW0
  go_wp2
  go_step3
  go_wp2_with fail
  refine (sget S0.out (by have := HN.out; omega) 16 (cur g P 16) (by decide) rfl).mono ?_
  rintro e w1 ⟨rfl, hs, hk⟩
  have S1 := Lib.hid hs
  obtain h0 := B.out
  clear B
  have B := Lib.hid (h0.trans (hk.mono fun b _ hb => hb.1))
  clear h0
  obtain h0 := PB.out
  clear PB
  have PB := Lib.hid (h0.kx hk (fun hb => hb.2 rfl))
  clear h0
  obtain h0 := X1H.out
  clear X1H
  have X1H := Lib.hid (fun b hb => h0 b (Nat.le_trans hk.size hb))
  clear h0
  clear hs hk
  go_wp2_with fail
  go_step3
  go_wp2_with fail
  clear W16
  go_loopw [8, 9] (fun v8 v9 wr => ∃ (k : Nat) (a : Int), v9 = .int .i64 a ∧ k ≤ ns.length ∧ Chain (cur g P) (ns.drop k) a ∧ wr.ownsRow w.heap.size 2 1 v8 k ((l.take k).map (.int .i64)) ∧ SpE wr (fun b => (X b ∧ b ≠ w.heap.size) ∧ v8.ownBlock ≠ some b) base sb g P ∧ HB 56 wr w.heap.size #[.int .i64 1, .int .i64 96, .int .i64 128] ∧ KX X w wr ∧ (∀ b, wr.heap.size ≤ b → X b ∧ b ≠ w.heap.size) ∧ v8.ownBlock ≠ some w.heap.size) (fun v8 _ _ => ns.length - lenOf v8)
  case atStart => exact ⟨0, _, rfl, Nat.zero_le _, HS.out.top, World.ownsRow_nil _ _ _ _, S1.out.more fun b _ h => ⟨h, fun hq => by cases hq⟩, PB.out, B.out, X1H.out, fun hq => by cases hq⟩
  case round =>
    clear S1 PB B X1H
    obtain ⟨k, a, rfl, hk, hc, ho, hs, hp, hb, hx, hne⟩ := hrel
    obtain ⟨A, c, hv, hkc, -, -⟩ := own_reads (S := fun _ => True) ho (fun _ _ => trivial)
    subst hv
    have OW := Lib.hid ho
    have S := Lib.hid hs
    have PB := Lib.hid hp
    have B := Lib.hid hb
    have X1H := Lib.hid hx
    have NE := Lib.hid hne
    clear ho hs hp hb hx hne
    have p0 : wr.cell? ⟨w.heap.size, 0, none⟩ = some (.int .i64 1) := PB.out.cell 0
    have p1 : wr.cell? ⟨w.heap.size, 1, none⟩ = some (.int .i64 96) := PB.out.cell 1
    have p2 : wr.cell? ⟨w.heap.size, 2, none⟩ = some (.int .i64 128) := PB.out.cell 2
    rcases Nat.lt_or_ge k ns.length with hlt | hge
    · obtain ⟨n, hn⟩ : ∃ n, ns[k]? = some n := ⟨_, List.getElem?_eq_getElem hlt⟩
      obtain ⟨x, hx⟩ : ∃ x, x = cur g P (adr n + 1) := ⟨_, rfl⟩
      obtain ⟨a2, ha2⟩ : ∃ x, x = cur g P (adr n) := ⟨_, rfl⟩
      rw [show ns.drop k = n :: ns.drop (k + 1) from by rw [List.drop_eq_getElem_cons hlt, (List.getElem?_eq_some_iff.1 hn).2]] at hc
      have HC := Lib.hid (show Chain (cur g P) (ns.drop (k + 1)) a2 from by rw [ha2]; exact hc.2)
      have HA := Lib.hid hc.1
      have HN8 := Lib.hid (show n < 128 from Nat.lt_of_lt_of_le (HS.out.lt n (List.mem_append_left _ (List.mem_of_getElem? hn))) HS.out.le)
      have HX := Lib.hid (show cur g P (a + 1) = x from by rw [hc.1, hx])
      have HA2 := Lib.hid (show cur g P a = a2 from by rw [hc.1, ha2])
      have HTK := Lib.hid (show l.take (k + 1) = l.take k ++ [x] from by
        rw [List.take_add_one, ← HS.out.vals, List.getElem?_map, hn, hx]
        rfl)
      have HIN := Lib.hid (show inM a ∧ inM (a + 1) from by have := HN8.out; rw [HA.out]; unfold inM adr; omega)
      have hpos : 96 ≤ a ∧ a < 2000 := by have := HN8.out; rw [HA.out]; unfold adr; omega
      have q1 : (a == 0) = false := by simp; omega
      have q2 : decide (a = 0) = false := by simp; omega
      have q3 : ¬ (128 : Int) ≤ (k : Int) := by have := HLN.out; omega
      have WA0 : IntKind.i64.wrap a = a := wrap_i64 _ (by omega) (by omega)
      have WA00 : wrap64 a = a := by rw [← WA0]; simp [IntKind.wrap_i64, wrap64]
      have WA1 : IntKind.i64.wrap (a + 1) = a + 1 := wrap_i64 _ (by omega) (by omega)
      have HLT := Lib.hid hlt
      have HK128 := Lib.hid (show k ≤ 128 from by have := HLN.out; omega)
      clear hlt hn hc hx ha2 hk hpos
      go_wp2_with fail
      refine (node_any n HN8.out a HA.out _).mono ?_
      rintro e w2 ⟨rfl, hb⟩
      obtain h0 := S.out
      clear S
      have S := Lib.hid (h0.below hb)
      clear h0
      obtain h0 := OW.out
      clear OW
      have OW := Lib.hid (World.ownsRow.kept h0 (below_grown hb none) (by cases hq : Value.ownBlock _ <;> simp))
      clear h0
      obtain h0 := PB.out
      clear PB
      have PB := Lib.hid (h0.below hb)
      clear h0
      obtain h0 := B.out
      clear B
      have B := Lib.hid (h0.trans (KX.of_below hb))
      clear h0
      obtain h0 := X1H.out
      clear X1H
      have X1H := Lib.hid (fun b hb2 => h0 b (Nat.le_trans hb.size hb2))
      clear h0
      clear hb p0 p1 p2
      have p2 : w2.cell? ⟨w.heap.size, 2, none⟩ = some (.int .i64 128) := PB.out.cell 2
      go_wp2_with fail
      refine (sget S.out (by have := HN.out; omega) (a + 1) x HIN.out.2 HX.out).mono ?_
      rintro e w3 ⟨rfl, hs, hk⟩
      clear S
      have S := Lib.hid hs
      obtain h0 := OW.out
      clear OW
      have OW := Lib.hid (show World.ownsRow _ w.heap.size 2 1 (.slice A k c) k ((l.take k).map (.int .i64)) from by
        refine ⟨h0.1, ?_⟩
        rcases h0.2 with e | ⟨b, cap, c0, e, q1, q2, q3⟩
        · exact .inl e
        · exact .inr ⟨b, cap, c0, e, q1, (hk.block b (lt_of_block q2) (fun hx => hx.2 (by rw [e]; rfl))).trans q2, q3⟩)
      clear h0
      obtain h0 := PB.out
      clear PB
      have PB := Lib.hid (h0.kx hk (fun hx => hx.1.2 rfl))
      clear h0
      obtain h0 := B.out
      clear B
      have B := Lib.hid (h0.trans (hk.mono fun b _ hx => hx.1.1))
      clear h0
      obtain h0 := X1H.out
      clear X1H
      have X1H := Lib.hid (fun b hb2 => h0 b (Nat.le_trans hk.size hb2))
      clear h0
      clear hk hs p2
      obtain ⟨wv, hwv⟩ : ∃ W, W = w3.alloc (.cells #[.int .i64 x] 2) := ⟨_, rfl⟩
      have hb : Below w3.heap.size w3 wv := by rw [hwv]; exact below_alloc _ _
      have hR : Reads wv (fun _ => True) 1 (some ⟨w3.heap.size, 0, none⟩) 1 [.int .i64 x] := by rw [hwv]; exact own_int1 x _ w3
      obtain h0 := S.out
      clear S
      have S := Lib.hid (h0.below hb)
      clear h0
      obtain h0 := OW.out
      clear OW
      have OW := Lib.hid (World.ownsRow.kept h0 (below_grown hb none) (by cases hq : Value.ownBlock _ <;> simp))
      clear h0
      obtain h0 := PB.out
      clear PB
      have PB := Lib.hid (h0.below hb)
      clear h0
      obtain h0 := B.out
      clear B
      have B := Lib.hid (h0.trans (KX.of_below hb))
      clear h0
      obtain h0 := X1H.out
      clear X1H
      have X1H := Lib.hid (fun b hb2 => h0 b (Nat.le_trans hb.size hb2))
      clear h0

      obtain ⟨i, i1, i2, i3, i4⟩ := i64_info
      obtain ⟨v', w4, run, e2, e3, e4⟩ := run_append_any (P := Try.prog) wv w.heap.size 22 22 2 i _ 1 8 Try.underlying22 i1 i2 i3 i4 rfl (by omega) (.slice A k c) k _ OW.out (fun _ => True) _ 1 1 _ hR (by simp [Value.oneCell']) (by have := HK128.out; unfold maxLen; omega) (by have := HK128.out; omega) B.out.size
      obtain ⟨A4, c4, hv4, -, -, -⟩ := own_reads (S := fun _ => True) e2 (fun _ _ => trivial)
      subst hv4
      have hsz4 := e3.size
      have S4 := Lib.hid (show SpE w4 (fun b => (X b ∧ b ≠ w.heap.size) ∧ (Value.slice A4 (k + 1) c4).ownBlock ≠ some b) base sb g P from
        ((S.out.more (Y := fun b => ((X b ∧ b ≠ w.heap.size) ∧ (Value.slice A4 (k + 1) c4).ownBlock ≠ some b) ∧ (Value.slice A k c).ownBlock ≠ some b) fun b hb2 hx => ⟨⟨hx.1, fun e => by
          rcases e4 with e5 | e5
          · rw [e5] at e; exact hx.2 e
          · rw [e5] at e; have := Option.some.inj e; omega⟩, hx.2⟩).kx (Y := fun b => (Value.slice A k c).ownBlock = some b) (KX.of_grown e3 fun k h => h) (fun b _ h => h.2)).more fun b _ h => h.1)
      have PB4 := Lib.hid (show HB 56 w4 w.heap.size #[.int .i64 1, .int .i64 96, .int .i64 128] from PB.out.kx (X := fun b => (Value.slice A k c).ownBlock = some b) (KX.of_grown e3 fun k h => h) NE.out)
      have NE4 := Lib.hid (show (Value.slice A4 (k + 1) c4).ownBlock ≠ some w.heap.size from fun e => by
        have hlt := PB.out.lt
        rcases e4 with e5 | e5
        · rw [e5] at e; exact NE.out e
        · rw [e5] at e; have := Option.some.inj e; omega)
      have OW4 := Lib.hid (show w4.ownsRow w.heap.size 2 1 (.slice A4 (k + 1) c4) (k + 1) ((l.take (k + 1)).map (.int .i64)) from by rw [HTK.out, List.map_append]; exact e2)
      have B4 := Lib.hid (show KX X w w4 from ⟨e3.os.trans B.out.os, e3.tape.trans B.out.tape, e3.output.trans B.out.output, Nat.le_trans B.out.size e3.size, fun b hb2 hx => (e3.block b (Nat.lt_of_lt_of_le hb2 B.out.size) (fun e => by have := (OW.out.lt b e.symm).1; omega)).trans (B.out.block b hb2 hx)⟩)
      have X4 := Lib.hid (fun b hb2 => X1H.out b (Nat.le_trans hsz4 hb2))
      rw [hwv] at run
      clear hwv hb hR i1 i2 i3 i4 e2 e3 e4 hsz4 OW S PB B X1H NE
      go_wp2_with (at_builtin; refine wpList_app_run rfl _ _ 22 rfl _ _ _ w4 rfl rfl run ?_)
      refine (sget S4.out (by have := HN.out; omega) a a2 HIN.out.1 HA2.out).mono ?_
      rintro e w5 ⟨rfl, hs, hk⟩
      clear S4
      obtain h0 := OW4.out
      clear OW4
      have OW5 := Lib.hid (show w5.ownsRow w.heap.size 2 1 (.slice A4 (k + 1) c4) (k + 1) ((l.take (k + 1)).map (.int .i64)) from by
        refine ⟨h0.1, ?_⟩
        rcases h0.2 with e | ⟨b, cap, c0, e, q1, q2, q3⟩
        · exact .inl e
        · exact .inr ⟨b, cap, c0, e, q1, (hk.block b (lt_of_block q2) (fun hx => hx.2 (by rw [e]; rfl))).trans q2, q3⟩)
      clear h0
      have S5 := Lib.hid hs
      have PB5 := Lib.hid (PB4.out.kx hk (fun hx => hx.1.2 rfl))
      have B5 := Lib.hid (B4.out.trans (hk.mono fun b _ hx => hx.1.1))
      have X5 := Lib.hid (fun b hb2 => X4.out b (Nat.le_trans hk.size hb2))
      clear hs hk run PB4 B4 X4
      go_wp2
      go_roundw
      case rel => exact ⟨k + 1, a2, rfl, HLT.out, HC.out, OW5.out, S5.out, PB5.out, B5.out, X5.out, NE4.out⟩
      case measure =>
        show ns.length - (k + 1) < ns.length - k
        have := HLT.out
        omega
    · obtain rfl : k = ns.length := by omega
      rw [List.drop_length] at hc
      have ha0 : a = 0 := hc
      subst ha0
      have HFI := Lib.hid (show (l.take ns.length).map (Value.int .i64) = l.map (.int .i64) from by rw [HLN.out.1, List.take_length])
      have HLL := Lib.hid HLN.out.1
      clear hge hk hkc
      go_wp2_with fail
      refine (node_zero _).mono ?_
      rintro e w2 ⟨rfl, hb⟩
      obtain h0 := S.out
      clear S
      have S := Lib.hid (h0.below hb)
      clear h0
      obtain h0 := OW.out
      clear OW
      have OW := Lib.hid (World.ownsRow.kept h0 (below_grown hb none) (by cases hq : Value.ownBlock _ <;> simp))
      clear h0
      obtain h0 := PB.out
      clear PB
      have PB := Lib.hid (h0.below hb)
      clear h0
      obtain h0 := B.out
      clear B
      have B := Lib.hid (h0.trans (KX.of_below hb))
      clear h0
      obtain h0 := X1H.out
      clear X1H
      have X1H := Lib.hid (fun b hb2 => h0 b (Nat.le_trans hb.size hb2))
      clear h0
      clear hb p0 p1 p2
      go_wp2
      try simp only [Exit.noGoto]
      go_ret2
      refine ⟨_, rfl, ?_, S.out.more fun b _ h => ⟨h.1.1, h.2⟩, B.out⟩
      have h0 := OW.out
      rw [HFI.out] at h0
      rw [← HLL.out]
      exact h0
end Go.Proofs.Ytkloaopjlbinpaa
