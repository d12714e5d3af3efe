/- The reference's leaf functions: Keywords, Signs, In, Name, Has, Empty. Condition: names are no longer than an int can say. -/
import Derived.Test.YthfjkdgaiaokdaaDoorSxY
set_option linter.unusedVariables false
set_option linter.unusedSimpArgs false
namespace Go.Proofs.YthfjkdgaiaokdaaDoor
open Go.RowKit

/-- A slice that reads as these strings. -/
def RS (w : World) (A : Option Addr) (n : Nat) (l : List Str) : Prop := n = l.length ∧ (0 < n → ∃ b q, A = some ⟨b, q, none⟩ ∧ b < w.heap.size ∧ ∀ i s, l[i]? = some s → w.cell? ⟨b, q + i, none⟩ = some (.string (bs s)))
theorem RS.below {w w' : World} {A : Option Addr} {n : Nat} {l : List Str} (h : RS w A n l) (hb : Below w.heap.size w w') : RS w' A n l :=
  ⟨h.1, fun hn => by
    obtain ⟨b, q, e, hlt, hc⟩ := h.2 hn
    exact ⟨b, q, e, Nat.lt_of_lt_of_le hlt hb.size, fun i s hs => by rw [World.cell?_of_block (a := ⟨b, q + i, none⟩) (hb.block b hlt)]; exact hc i s hs⟩⟩
theorem SS.rs {w : World} {S : Nat → Prop} {A : Option Addr} {n c : Nat} {l : List Str} (h : SS w S A n c l) : RS w A n l :=
  ⟨h.1, fun hn => by
    obtain ⟨b, q, e, hlt, _, hx⟩ := h.2.2 hn
    refine ⟨b, q, e, hlt, fun i s hs => ?_⟩
    obtain ⟨cs, ⟨s', hs', rfl⟩, hr⟩ := hx i (by rw [h.1]; exact (List.getElem?_eq_some_iff.1 hs).1)
    obtain rfl : s = s' := by rw [hs] at hs'; injection hs'
    simpa using hr 0 _ rfl⟩
theorem RS.take {w : World} {A : Option Addr} {n : Nat} {l : List Str} (h : RS w A n l) (k : Nat) (hk : k ≤ n) : RS w A k (l.take k) :=
  ⟨by rw [List.length_take, ← h.1]; omega, fun hk0 => by
    obtain ⟨b, q, e, hlt, hc⟩ := h.2 (by omega)
    exact ⟨b, q, e, hlt, fun i s hs => hc i s (by
      rw [List.getElem?_take] at hs
      split at hs
      · exact hs
      · cases hs)⟩⟩
theorem own_rs {w : World} {base : Nat} {v : Value} {L : List Str} (h : OwnS w base v L) : ∃ A c, v = .slice A L.length c ∧ RS w A L.length L := by
  obtain ⟨A, c, rfl, hc, hA, hR⟩ := own_reads (S := fun _ => True) h (fun _ _ => trivial)
  refine ⟨A, c, rfl, rfl, fun hn => ?_⟩
  obtain ⟨b, o, rfl, hb, _, hcell⟩ := hR.2 hn
  exact ⟨b, o, rfl, hb, fun i s hs => by
    have := hcell i (.string (bs s)) (by rw [List.getElem?_map, hs]; rfl)
    simpa [Addr.add] using this⟩
set_option maxRecDepth 100000 in
theorem rkeywords_any (w : World) : Calls Tryd.prog 39 #[] w fun e w' => ∃ v, e = .returned v ∧ OwnS w' w.heap.size v kwords ∧ Below w.heap.size w w' := by
  go_enter Tryd.func39, Tryd.ntmps39
  go_wp2
  go_ret
  exact ⟨_, rfl, ⟨rfl, .inr ⟨w.heap.size, 14, _, rfl, Nat.le_refl _, heap_alloc_new w _, by decide, by decide, rfl, rfl⟩⟩, (Below.refl _ _).alloc (Nat.le_refl _) _⟩
set_option maxRecDepth 100000 in
theorem rsigns_any (w : World) : Calls Tryd.prog 90 #[] w fun e w' => ∃ v, e = .returned v ∧ OwnS w' w.heap.size v sgns ∧ Below w.heap.size w w' := by
  go_enter Tryd.func90, Tryd.ntmps90
  go_wp2
  go_ret
  exact ⟨_, rfl, ⟨rfl, .inr ⟨w.heap.size, 13, _, rfl, Nat.le_refl _, heap_alloc_new w _, by decide, by decide, rfl, rfl⟩⟩, (Below.refl _ _).alloc (Nat.le_refl _) _⟩
set_option maxRecDepth 100000 in
theorem has_any (k : Int) (w : World) : Calls Tryd.prog 58 #[.int .i64 k] w fun e w' => e = .returned (.bool (hasX k)) ∧ w' = w := by
  unfold hasX
  rcases Classical.em (k = 4) with h0 | h0
  · subst h0
    go_enter Tryd.func58, Tryd.ntmps58
    go_wp2
    go_ret
    exact ⟨rfl, rfl⟩
  · have h1 : decide (k ≠ 4 ∧ k ≠ 6) = (k != 6) := by rw [Bool.eq_iff_iff]; simp [h0]
    rw [h1]
    have h2 : (k != 4) = true := by simp [h0]
    go_enter Tryd.func58, Tryd.ntmps58
    go_wp2
    go_ret
    exact ⟨rfl, rfl⟩
set_option maxRecDepth 100000 in
theorem in_any (A : Option Addr) (n c : Nat) (l : List Str) (s : Str) (w : World) (hl : RS w A n l) (hn : n ≤ 1000000) : Calls Tryd.prog 21 #[.slice A n c, .string (bs s)] w fun e w' => e = .returned (.bool (l.contains s)) ∧ w' = w := by
  have HL := Lib.hid hl
  have HLN := Lib.hid hl.1
  have hn6 : (n : Int) ≤ 1000000 := by omega
  obtain ⟨r, hr⟩ : ∃ r, r = l.contains s := ⟨_, rfl⟩
  rw [← hr]
  have HR := Lib.hid hr
  clear hl hr hn
  go_enter Tryd.func21, Tryd.ntmps21
  go_wp2_with fail
  go_loopw [5] (fun i wx => ∃ k : Nat, k ≤ l.length ∧ i = .int .i64 k ∧ Hid (r = (l.drop k).contains s) ∧ wx = w) (fun i _ => l.length - (intOf i).toNat)
  case atStart => exact ⟨0, Nat.zero_le _, rfl, Lib.hid HR.out, rfl⟩
  case round =>
    obtain ⟨k, hk, rfl, HE, rfl⟩ := hrel
    by_cases hlt : k < l.length
    · have hi2 : (k : Int) < (n : Int) := by have := HLN.out; omega
      obtain ⟨b, q, rfl, hb, hc⟩ := HL.out.2 (by have := HLN.out; omega)
      have e0 := hc k l[k] (List.getElem?_eq_getElem hlt)
      obtain ⟨x, hx⟩ : ∃ x, x = l[k] := ⟨_, rfl⟩
      rw [← hx] at e0
      have HQL := Lib.hid hlt
      have HD := Lib.hid (show r = (s == x || (l.drop (k + 1)).contains s) from by rw [HE.out, List.drop_eq_getElem_cons hlt, List.contains_cons, hx])
      clear hc hb hx hlt HE
      by_cases hs : x = s
      · subst hs
        have HR2 := Lib.hid (show r = true by rw [HD.out]; simp)
        go_wp2
        go_ret
        exact ⟨by rw [HR2.out]; rfl, rfl⟩
      · have HR2 := Lib.hid (show r = (l.drop (k + 1)).contains s by rw [HD.out, show (s == x) = false by simp [Ne.symm hs]]; rfl)
        have hs1 : ((bs x).toList == (bs s).toList) = false := by rw [bs_toList, bs_toList]; simp [hs]
        have hs2 : ¬ (bs x).toList = (bs s).toList := by rw [bs_toList, bs_toList]; exact hs
        go_wp2
        go_roundw
        case rel => exact ⟨k + 1, HQL.out, by go_num, HR2, by trivial⟩
        case measure => exact meas_up _ _ HQL.out
    · have hi2 : ¬ (k : Int) < (n : Int) := by have := HLN.out; omega
      have HR2 := Lib.hid (show r = false by rw [HE.out, List.drop_eq_nil_of_le (by omega)]; rfl)
      clear hlt hk HE
      go_wp2
      go_ret
      exact ⟨by rw [HR2.out]; rfl, rfl⟩
section
variable {P : Program} {ops : Array Oper} {rest : List Oper} {o : Oper} {a : Act} {w : World} {Q : Exit → Act → World → Prop} {d : Option Tmp} {t ty : TypeId} {x y : Operand} {pos : String}
theorem at_index_ {aft} {g} (h : wpList P ops Q (⟨d, .index t x y, ty, pos, aft, g⟩ :: rest) a w) : wpList P ops Q (⟨d, .index t x y, ty, pos, aft, g⟩ :: rest) a w := h
theorem wpList_index_str (hg : o.guard = none) (t : TypeId) (x y : Operand) (ho : o.op = .index t x y) (s : ByteArray) (k : Int) (u : Value) (hx : a.eval x = .string s) (hy : a.eval y = .int .i64 k)
    (hrun : (Instr.index t (.string s) (.int .i64 k)).run P w = .ok u w) (h : wpList P ops Q rest (a.put o.dst u) w) : wpList P ops Q (o :: rest) a w := by
  refine wpList_plain hg fun K' hK' => ?_
  unfold Oper.wp execOp
  simp [ho, hx, hy, hrun, Result.andThen]
  exact hK' _ _ h
end
theorem str_at (s : Str) (k : Nat) (hk : k < s.length) (w : World) : (Instr.index 9 (.string (bs s)) (.int .i64 (k : Int))).run Tryd.prog w = .ok (.int .u8 (s[k].toNat : Int)) w := by
  rw [run_index_string w 9 (bs s) .i64 (k : Int) Tryd.underlying9, dif_pos ⟨by omega, by rw [bs_size]; omega⟩]
  rfl
set_option maxRecDepth 100000 in
set_option maxHeartbeats 12800000 in
theorem name_any (s : Str) (w : World) (hs : s.length ≤ 1000000) : Calls Tryd.prog 20 #[.string (bs s)] w fun e w' => e = .returned (.bool (nameOk s)) ∧ Below w.heap.size w w' := by
  obtain ⟨r, hr⟩ : ∃ r, r = nameOk s := ⟨_, rfl⟩
  rw [← hr]
  unfold nameOk at hr
  have HR := Lib.hid hr
  have hsz := bs_size s
  have hs6 : (s.length : Int) ≤ 1000000 := by omega
  have K1 := Lib.hid (fun W => rkeywords_any W)
  clear hr hs
  go_enter Tryd.func20, Tryd.ntmps20
  go_wp2_with fail
  go_loopw [3] (fun i wr => ∃ k : Nat, k ≤ s.length ∧ i = .int .i64 k ∧ Hid (nameL 0 s = nameL k (s.drop k)) ∧ wr = w) (fun i _ => s.length - (intOf i).toNat)
  case atStart => exact ⟨0, by omega, rfl, Lib.hid rfl, rfl⟩
  case round =>
    obtain ⟨k, hk, rfl, HE, rfl⟩ := hrel
    by_cases hlt : k < s.length
    · have f0 := str_at s k hlt wr
      have hi1 : (k : Int) < (s.length : Int) := by omega
      obtain ⟨x, hx⟩ : ∃ x, x = s[k] := ⟨_, rfl⟩
      rw [← hx] at f0
      have HX := Lib.hid hx
      obtain ⟨n, hn⟩ : ∃ n : Int, n = (x.toNat : Int) := ⟨_, rfl⟩
      rw [← hn] at f0
      have F0 := Lib.hid f0
      have HN := Lib.hid hn
      have HQL := Lib.hid hlt
      have hn0 : 0 ≤ n := by omega
      have hn1 : n ≤ 255 := by have := x.toNat_lt; omega
      have HD := Lib.hid (nameL_drop k s hlt)
      have HG := Lib.hid (okB_iff k x)
      have HG1 := Lib.hid (fun (hg : okB k x = true) => show nameL 0 s = nameL (k + 1) (s.drop (k + 1)) by rw [HE.out, HD.out, ← HX.out, hg]; rfl)
      have HG0 := Lib.hid (fun (hg : okB k x = false) => show r = false by rw [HR.out, HE.out, HD.out, ← HX.out, hg]; rfl)
      clear HE HD HX
      clear hx hn f0 hlt
      rcases Nat.eq_zero_or_pos k with rfl | q0 <;> (first | (replace q0 : ¬ (k : Int) = 0 := by omega; have q01 : ((k : Int) == 0) = false := by simp [q0]) | skip) <;> rcases Classical.em (n < 48) with q1 | q1 <;> rcases Classical.em (57 < n) with q2 | q2 <;> (first | (exfalso; omega) | skip) <;>
        rcases Classical.em (65 ≤ n) with q3 | q3 <;> (first | (exfalso; omega) | skip) <;> rcases Classical.em (n ≤ 90) with q4 | q4 <;> (first | (exfalso; omega) | skip) <;>
        rcases eq95 n with ⟨q5, q5n⟩ | ⟨q5, q5n⟩ <;> (first | (exfalso; omega) | skip) <;> rcases Classical.em (97 ≤ n) with q6 | q6 <;> (first | (exfalso; omega) | skip) <;>
        rcases Classical.em (n ≤ 122) with q7 | q7 <;> (first | (exfalso; omega) | skip)
      all_goals first
        | (have HE2 := Lib.hid (HG1.out (HG.out.2 (by have := HN.out; omega)))
           clear HG1 HG0 HG
           go_wp2_with (with_reducible refine at_index_ (t := 9) ?_; refine wpList_index_str rfl _ _ _ rfl (bs s) _ (.int .u8 n) rfl rfl F0.out ?_)
           go_roundw
           case rel => exact ⟨_, HQL.out, by go_num, HE2, by trivial⟩
           case measure => exact meas_up _ _ HQL.out)
        | (have HE2 := Lib.hid (HG0.out (by rw [← Bool.not_eq_true, HG.out]; have := HN.out; omega))
           clear HG1 HG0 HG
           go_wp2_with (with_reducible refine at_index_ (t := 9) ?_; refine wpList_index_str rfl _ _ _ rfl (bs s) _ (.int .u8 n) rfl rfl F0.out ?_)
           go_ret
           exact ⟨by rw [HE2.out]; rfl, Below.refl _ _⟩)
    · have hge : ¬ (k : Int) < (s.length : Int) := by omega
      obtain rfl : k = s.length := by omega
      have HE2 := Lib.hid (show nameL 0 s = true by rw [HE.out, List.drop_length]; rfl)
      clear HE hlt hk
      by_cases h1 : 1 ≤ (s.length : Int)
      · by_cases h24 : (s.length : Int) ≤ 24
        · have HR2 := Lib.hid (show r = !kwords.contains s by rw [HR.out, HE2.out, decide_eq_true (show 1 ≤ s.length by omega), decide_eq_true (show s.length ≤ 24 by omega)]; rfl)
          go_wp2_with fail
          refine (K1.out _).mono ?_
          rintro e w1 ⟨v, rfl, ho, hb⟩
          obtain ⟨A, c, rfl, hrs⟩ := own_rs ho
          have K2 := Lib.hid (in_any A kwords.length c kwords s w1 hrs (by decide))
          have HB := Lib.hid hb
          obtain ⟨q, hq⟩ : ∃ q, q = kwords.contains s := ⟨_, rfl⟩
          rw [← hq] at K2 HR2
          clear ho hrs hb hq
          go_wp2_with fail
          refine K2.out.mono ?_
          rintro e w2 ⟨rfl, h⟩
          subst w2
          go_wp2
          go_ret
          exact ⟨by rw [HR2.out]; rfl, HB.out⟩
        · have HR2 := Lib.hid (show r = false by rw [HR.out, decide_eq_false (show ¬ s.length ≤ 24 by omega)]; simp)
          go_wp2
          go_ret
          exact ⟨by rw [HR2.out]; rfl, Below.refl _ _⟩
      · have HR2 := Lib.hid (show r = false by rw [HR.out, decide_eq_false (show ¬ 1 ≤ s.length by omega)]; simp)
        go_wp2
        go_ret
        exact ⟨by rw [HR2.out]; rfl, Below.refl _ _⟩
end Go.Proofs.YthfjkdgaiaokdaaDoor
