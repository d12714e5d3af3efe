/- The walk of the lexer's blank. Condition: at most 65536 bytes. The walk of the lexer's number. Conditions: the text is not empty and holds ASCII bytes alone, at most 65536; the variable strconv.ErrRange holds an interface. The walk of the lexer's next. Conditions: at most 65536 bytes; the package's tables are laid. The walk of lexer.Scan in one contract: it answers what scanL says. Condition: the package's tables are laid (LxW). The parser's state in memory; the walks of now, is, take, need, word, name. No condition beyond the state. The walks of the parser's is, take, need, word, name, number. No condition beyond the state. The walk of the parser's number. No condition beyond the state. -/
import Derived.Test.YtkakbidllpjopaaGreatDoorW02
import Derived.WalkMore
import Derived.Great.BuildSlice
import Derived.Laws.CopyOwn
import Derived.Test.YtkakbidllpjopaaGreatDoorW01
set_option linter.unusedVariables false
set_option linter.unusedSimpArgs false
namespace Go.Proofs.YtkakbidllpjopaaGreatDoor.Lx
open Go.RowKit

theorem meas_up (n k : Nat) (h : k < n) : n - ((k : Int) + 1).toNat < n - ((k : Int)).toNat := by omega
theorem blank_step {l : List UInt8} {k : Nat} (hk : k < l.length) (h : blankA false l = k + blankA false (l.drop k)) (hw : wsB l[k] = true) : blankA false l = (k + 1) + blankA false (l.drop (k + 1)) := by
  rw [List.drop_eq_getElem_cons hk] at h
  simp only [blankA, hw, if_true] at h
  omega
theorem blank_stop {l : List UInt8} {k : Nat} (hk : k < l.length) (h : blankA false l = k + blankA false (l.drop k)) (hw : wsB l[k] = false) (h35 : l[k] ≠ 35) : blankA false l = k := by
  rw [List.drop_eq_getElem_cons hk] at h
  simp only [blankA, hw, h35, if_false] at h
  simpa using h
theorem blank_idx (t : List UInt8) : (Lib.indexByte t 10 = -1 → blankA true t = t.length) ∧ ∀ o : Nat, Lib.indexByte t 10 = o → blankA true t = o + blankA false (t.drop o) := by
  induction t with
  | nil => exact ⟨fun _ => rfl, fun o h => by simp [Lib.indexByte] at h⟩
  | cons b t ih =>
    obtain ⟨h1, h2⟩ := ih
    unfold Lib.indexByte
    by_cases hb : b = 10
    · subst hb
      refine ⟨fun h => by simp at h, fun o h => ?_⟩
      have : o = 0 := by simp at h; omega
      subst this
      simp [blankA, wsB]
    · have hb' : (b == 10) = false := by simpa using hb
      rw [hb']
      simp only [Bool.false_eq_true, if_false]
      have hge := Lib.indexByte_ge t 10
      by_cases hm : Lib.indexByte t 10 = -1
      · rw [hm]
        refine ⟨fun _ => ?_, fun o h => by simp at h⟩
        simp only [blankA, hb, if_false, List.length_cons, h1 hm]
      · have hm' : (Lib.indexByte t 10 == -1) = false := by simpa using hm
        rw [hm']
        simp only [Bool.false_eq_true, if_false]
        refine ⟨fun h => by omega, fun o h => ?_⟩
        obtain ⟨o', rfl⟩ : ∃ o', o = o' + 1 := ⟨o - 1, by omega⟩
        simp only [blankA, hb, if_false, List.drop_succ_cons]
        have h3 := h2 o' (by omega)
        omega
theorem blank_hash {l : List UInt8} {k : Nat} (hk : k < l.length) (h : blankA false l = k + blankA false (l.drop k)) (h35 : l[k] = 35) :
    (Lib.indexByte (l.drop k) 10 = -1 → blankA false l = l.length) ∧ ∀ o : Nat, Lib.indexByte (l.drop k) 10 = o → 0 < o ∧ k + o ≤ l.length ∧ blankA false l = (k + o) + blankA false (l.drop (k + o)) := by
  obtain ⟨h1, h2⟩ := blank_idx (l.drop (k + 1))
  have hge := Lib.indexByte_ge (l.drop (k + 1)) 10
  have hle := blank_le l false
  have e : l.drop k = 35 :: l.drop (k + 1) := by rw [List.drop_eq_getElem_cons hk, h35]
  have e2 : blankA false (l.drop k) = blankA true (l.drop (k + 1)) + 1 := by rw [e]; simp [blankA, wsB]
  rw [e2] at h
  have e3 : Lib.indexByte (l.drop k) 10 = if Lib.indexByte (l.drop (k + 1)) 10 == -1 then -1 else Lib.indexByte (l.drop (k + 1)) 10 + 1 := by rw [e]; rfl
  rw [e3]
  by_cases hm : Lib.indexByte (l.drop (k + 1)) 10 = -1
  · rw [hm]
    have := h1 hm
    rw [List.length_drop] at this
    refine ⟨fun _ => by omega, fun o ho => by simp at ho⟩
  · have hm' : (Lib.indexByte (l.drop (k + 1)) 10 == -1) = false := by simpa using hm
    rw [hm']
    simp only [Bool.false_eq_true, if_false]
    refine ⟨fun h => by omega, fun o ho => ?_⟩
    obtain ⟨o', rfl⟩ : ∃ o', o = o' + 1 := ⟨o - 1, by omega⟩
    have h3 := h2 o' (by omega)
    have h4 : blankA false ((l.drop k).drop (o' + 1)) = blankA false ((l.drop (k + 1)).drop o') := by rw [e, List.drop_succ_cons]
    have h5 : o' < (l.drop (k + 1)).length := by
      have := (Lib.indexByte_some (l := l.drop (k + 1)) (c := 10) (o := o') (by omega)).1
      exact (List.getElem?_eq_some_iff.1 this).1
    rw [List.length_drop] at h5
    rw [show l.drop (k + (o' + 1)) = (l.drop k).drop (o' + 1) from List.drop_drop.symm, h4]
    exact ⟨by omega, by omega, by omega⟩

theorem ws_nat (b : UInt8) : wsB b = (decide (b.toNat = 32) || decide (b.toNat = 9) || decide (b.toNat = 10) || decide (b.toNat = 13)) := by
  have e : ∀ c : UInt8, (b == c) = decide (b.toNat = c.toNat) := fun c => by
    by_cases h : b = c
    · subst h; simp
    · have : ¬ b.toNat = c.toNat := fun e => h (UInt8.toNat_inj.1 e)
      rw [decide_eq_false this]
      simpa using h
  unfold wsB
  rw [e, e, e, e]
  rfl
theorem meas_more (n k o : Nat) (h : 0 < o) (h2 : k + o ≤ n) : n - ((k : Int) + (o : Int)).toNat < n - ((k : Int)).toNat := by omega

set_option maxRecDepth 100000 in
set_option maxHeartbeats 3200000 in
theorem blank_any (l : List UInt8) (w : World) (hl : l.length ≤ 65536) :
    Calls Tryz.prog 44 #[.string (bs l)] w fun e w' => e = .returned (.int .i64 (blankA false l)) ∧ w' = w := by
  have hsz := bs_size l
  have hli : (l.length : Int) ≤ 65536 := by omega
  clear hl
  go_enter Tryz.func44, Tryz.ntmps44
  go_wp2
  go_step3
  go_wp2
  go_step3
  go_wp2
  go_loopw [3] (fun i wr => ∃ k : Nat, k ≤ l.length ∧ i = .int .i64 k ∧ blankA false l = k + blankA false (l.drop k) ∧ wr = w) (fun i _ => l.length - (intOf i).toNat)
  case atStart => exact ⟨0, by omega, rfl, by rw [List.drop_zero, Nat.zero_add], rfl⟩
  case round =>
    obtain ⟨k, hk, rfl, hb, rfl⟩ := hrel
    by_cases hlt : k < l.length
    · skip
      have hi : (k : Int) < (l.length : Int) := by omega
      have hki : (k : Int) < ((bs l).size : Int) := by omega
      have hps : k < (bs l).size := hlt
      have HK := Lib.hid hlt
      have hws := ws_nat l[k]
      have h35 : l[k] = 35 ↔ (l[k]).toNat = 35 := by rw [← UInt8.toNat_inj]; rfl
      have hge : ((bs l)[k]'hps).toNat = (l[k]).toNat := rfl
      by_cases hc : (l[k]).toNat = 32 ∨ (l[k]).toNat = 9 ∨ (l[k]).toNat = 10 ∨ (l[k]).toNat = 13
      · have hwt : wsB l[k] = true := by rw [hws]; simpa [or_assoc] using hc
        have HST := Lib.hid (blank_step hlt hb hwt)
        clear hwt
        rcases hc with hc | hc | hc | hc
        all_goals (
          rw [hc] at hge
          clear hws h35 hc hb hlt
          go_wp2
          go_roundw
          case rel => exact ⟨k + 1, HK.out, by go_num, HST.out, by first | rfl | trivial⟩
          case measure => exact meas_up _ _ HK.out)
      · have hwf : wsB l[k] = false := by
          rw [hws]
          simp only [not_or] at hc
          simp [hc.1, hc.2.1, hc.2.2.1, hc.2.2.2]
        simp only [not_or] at hc
        obtain ⟨n1, n2, n3, n4⟩ := hc
        by_cases h5 : (l[k]).toNat = 35
        · obtain ⟨i1, i2⟩ := blank_hash hlt hb (h35.2 h5)
          rw [h5] at hge
          have I1 := Lib.hid i1
          have I2 := Lib.hid i2
          have HB := Lib.hid hb
          clear hws h35 h5 hb hlt n1 n2 n3 n4 hwf i1 i2
          go_wp2_with fail
          refine (Tryz.strings_IndexByte _ _ _).mono ?_
          rintro e w1 ⟨rfl, rfl⟩
          rw [show (bs l).extract k l.length = bs (l.drop k) from bs_tail l k, bs_list, show (10 : Int).toNat.toUInt8 = 10 from rfl]
          by_cases hm : Lib.indexByte (l.drop k) 10 = -1
          · have HF := Lib.hid (I1.out hm)
            rw [hm]
            clear I1 I2 hm
            go_wp2
            rw [Exit.noGoto_ret]
            go_ret
            exact ⟨by rw [HF.out]; rfl, rfl⟩
          · have hq := Lib.indexByte_ge (l.drop k) 10
            obtain ⟨o, ho⟩ : ∃ o : Nat, Lib.indexByte (l.drop k) 10 = o := ⟨(Lib.indexByte (l.drop k) 10).toNat, by omega⟩
            obtain ⟨o1, o2, o3⟩ := I2.out o ho
            rw [ho]
            have HF := Lib.hid o3
            have HO := Lib.hid (And.intro o1 o2)
            have o0 : (0 : Int) ≤ (o : Int) := by omega
            have o5 : (k : Int) + (o : Int) ≤ 65536 := by omega
            clear I1 I2 hm hq ho o1 o2 o3
            go_wp2
            go_roundw
            case rel => exact ⟨k + o, HO.out.2, by go_num, HF.out, by first | rfl | trivial⟩
            case measure => exact meas_more _ _ _ HO.out.1 HO.out.2
        · have HF := Lib.hid (blank_stop hlt hb hwf fun e => h5 (h35.1 e))
          have hne : ∀ v : Int, (v = 32 ∨ v = 9 ∨ v = 10 ∨ v = 13 ∨ v = 35) → ¬ ((l[k]).toNat : Int) = v := fun v hv => by omega
          have m1 := hne 32 (by decide)
          have m2 := hne 9 (by decide)
          have m3 := hne 10 (by decide)
          have m4 := hne 13 (by decide)
          have m5 := hne 35 (by decide)
          clear hws h35 hb n1 n2 n3 n4 hwf h5 hne
          generalize (l[k]).toNat = c at *
          clear hlt
          go_wp2
          rw [Exit.noGoto_ret]
          go_ret
          exact ⟨by rw [HF.out]; rfl, rfl⟩
    · skip
      have hi : (l.length : Int) ≤ (k : Int) := by omega
      obtain rfl : k = l.length := by omega
      have HF := Lib.hid (show blankA false l = l.length by rw [hb, List.drop_length]; rfl)
      clear hb hk hlt
      go_wp2
      rw [Exit.noGoto_ret]
      go_ret
      exact ⟨by rw [HF.out]; rfl, rfl⟩
end Go.Proofs.YtkakbidllpjopaaGreatDoor.Lx
namespace Go.Proofs.YtkakbidllpjopaaGreatDoor.Lx
open Go.RowKit

def stepV (n : Nat) (b : UInt8) : Nat := 10 * n + (b.toNat - 48)
theorem fold_ge (l : List UInt8) : ∀ a, a ≤ l.foldl stepV a := by
  induction l with
  | nil => intro a; exact Nat.le_refl _
  | cons b t ih =>
    intro a
    rw [List.foldl_cons]
    have := ih (stepV a b)
    unfold stepV at *
    omega
theorem parse_m (l : List UInt8) : l.all digB = true → ∀ a, a ≤ 18446744073709551615 → Lib.parseUintM 18446744073709551615 a l = if l.foldl stepV a ≤ 18446744073709551615 then .ok (l.foldl stepV a) else .range := by
  induction l with
  | nil => intro _ a h; rw [List.foldl_nil, if_pos h]; rfl
  | cons b t ih =>
    intro hd a h
    rw [List.all_cons, Bool.and_eq_true] at hd
    have hb : 48 ≤ b.toNat ∧ b.toNat ≤ 57 := by
      have := hd.1
      unfold digB digN at this
      simpa using this
    rw [List.foldl_cons]
    have hge := fold_ge t (stepV a b)
    have e : a * 10 + (b.toNat - 48) = stepV a b := by unfold stepV; omega
    unfold Lib.parseUintM
    rw [if_pos hb, e]
    by_cases h1 : 1844674407370955162 ≤ a
    · rw [if_pos h1, if_neg (by unfold stepV at *; omega)]
    · rw [if_neg h1]
      by_cases h2 : 18446744073709551615 < stepV a b
      · rw [if_pos h2, if_neg (by omega)]
      · rw [if_neg h2, ih hd.2 _ (by omega)]
theorem parse_i (l : List UInt8) (h : l.all digB = true) (hne : l ≠ []) : Lib.parseIntB 64 l = if numV l ≤ 9223372036854775807 then .ok ((numV l : Nat) : Int) else .range := by
  cases l with
  | nil => exact absurd rfl hne
  | cons b t =>
    have hb : 48 ≤ b.toNat ∧ b.toNat ≤ 57 := by
      rw [List.all_cons, Bool.and_eq_true] at h
      have := h.1
      unfold digB digN at this
      simpa using this
    have hp := parse_m (b :: t) h 0 (by omega)
    have hv : (b :: t).foldl stepV 0 = numV (b :: t) := rfl
    rw [hv] at hp
    unfold Lib.parseIntB Lib.parseUintB
    have n1 : ¬ (b.toNat = 43 ∨ b.toNat = 45) := by omega
    have n2 : ¬ b.toNat = 45 := by omega
    simp only [if_neg n1]
    rw [if_neg (by simp), show (2 ^ 64 - 1 : Nat) = 18446744073709551615 by decide, hp]
    by_cases h1 : numV (b :: t) ≤ 18446744073709551615
    · rw [if_pos h1]
      simp only [show (2 ^ (64 - 1) : Nat) = 9223372036854775808 by decide]
      by_cases h2 : numV (b :: t) ≤ 9223372036854775807
      · rw [if_pos h2, if_neg (by omega), if_neg (by omega), if_neg n2]
      · rw [if_neg h2, if_pos ⟨n2, by omega⟩]
    · rw [if_neg h1, if_neg (by omega)]
theorem take_all (l : List UInt8) (k : Nat) (hk : k < l.length) (h : (l.take k).all digB = true) : (digB l[k] = true → (l.take (k + 1)).all digB = true) ∧ (digB l[k] = false → l.all digB = false) := by
  rw [List.take_succ_eq_append_getElem hk]
  refine ⟨fun g => ?_, fun g => ?_⟩
  · rw [List.all_append, h, List.all_cons, g]; rfl
  · cases hq : l.all digB with
    | false => rfl
    | true =>
      rw [List.all_eq_true] at hq
      rw [hq _ (List.getElem_mem hk)] at g
      cases g

theorem head_get {l : List UInt8} (h : 0 < l.length) : l.head? = some l[0] := by
  cases l with
  | nil => cases h
  | cons b t => rfl
theorem iter_or {w w1 w' : World} {b : TypeId} (h : Below w.heap.size w w1) (hw : w' = w1 ∨ ∃ t, w' = Lib.bytesWorld w1 b t) : Below w.heap.size w w' := by
  rcases hw with rfl | ⟨t, rfl⟩
  · exact h
  · exact h.trans ((Lib.bytesWorld_below _ _ _).mono h.size)

set_option maxRecDepth 100000 in
set_option maxHeartbeats 3200000 in
theorem number_any (l : List UInt8) (w : World) (hne : l ≠ []) (hlo : ∀ b ∈ l, b.toNat < 128) (hl : l.length ≤ 65536) (ev : Value) (hv : w.cell? ⟨5, 0, none⟩ = some ev) (hev : ev = .nilIface ∨ ∃ te pe, ev = .iface te pe) :
    Calls Tryz.prog 78 #[.string (bs l)] w fun e w' => e = .returned (.int .i64 (numE l)) ∧ Below w.heap.size w w' := by
  have hsz := bs_size l
  have hli : (l.length : Int) ≤ 65536 := by omega
  have HLO := Lib.hid hlo
  have HV := Lib.hid hv
  have HEV := Lib.hid hev
  have HNE := Lib.hid hne
  have HL := Lib.hid hl
  clear hl hlo hv hev hne
  go_enter Tryz.func78, Tryz.ntmps78
  go_wp2
  go_loopw [4] (fun _ wr => ∃ k : Nat, k ≤ l.length ∧ (l.take k).all digB = true ∧ wr = w.iter (bs l) k) (fun _ wr => l.length - wr.iterPos w.heap.size)
  case atStart => exact ⟨0, by omega, by simp, rfl⟩
  case round =>
    obtain ⟨k, hk, ht, rfl⟩ := hrel
    by_cases hp : k < l.length
    · skip
      have hps : k < (bs l).size := hp
      have HK := Lib.hid hp
      obtain ⟨s1, s2⟩ := take_all l k hp ht
      have hnx : ∀ ty, (Instr.next (.pointer (some ⟨w.heap.size, 0, none⟩)) true ty).run Tryz.prog (w.iter (bs l) k) = .ok (.tuple #[.bool true, .int .i64 k, .int .i32 (l[k]).toNat]) (w.iter (bs l) (k + 1)) := fun ty => run_next_ascii w (bs l) k ty hps (HLO.out _ (List.getElem_mem hp))
      have HD := Lib.hid (digit_any ((l[k]).toNat : Int) (w.iter (bs l) (k + 1)))
      rw [digZ_nat] at HD
      by_cases h2 : digN (l[k]).toNat = true
      · have S1 := Lib.hid (s1 h2)
        rw [h2] at HD
        clear s1 s2 h2 ht
        generalize (l[k]).toNat = c at *
        clear hps hp
        go_wp2_with fail
        refine HD.out.mono ?_
        rintro e w1 ⟨rfl, rfl⟩
        go_wp2
        go_roundw
        case rel => exact ⟨k + 1, HK.out, S1.out, rfl⟩
        case measure => rw [World.iterPos_iter, World.iterPos_iter]; have := HK.out; omega
      · have h2f : digN (l[k]).toNat = false := by simpa using h2
        have S2 := Lib.hid (s2 h2f)
        rw [h2f] at HD
        clear s1 s2 h2 h2f ht
        generalize (l[k]).toNat = c at *
        clear hps hp
        go_wp2_with fail
        refine HD.out.mono ?_
        rintro e w1 ⟨rfl, rfl⟩
        go_wp2
        go_ret
        exact ⟨by unfold numE; rw [S2.out, if_neg (by decide)]; rfl, iter_below _ _ _⟩
    · skip
      have hps : ¬ k < (bs l).size := hp
      have hnx : ∀ ty, (Instr.next (.pointer (some ⟨w.heap.size, 0, none⟩)) true ty).run Tryz.prog (w.iter (bs l) k) = _ := fun ty => run_next_end w (bs l) k ty hps
      obtain rfl : k = l.length := by omega
      rw [List.take_length] at ht
      have HT := Lib.hid ht
      have hpi := parse_i l ht HNE.out
      have HNX := Lib.hid (show ¬ (1 < l.length ∧ l.head? = some 48) → numE l = if numV l ≤ 9223372036854775807 then 0 else 3 from fun h => by unfold numE; rw [if_pos ht, if_neg h])
      have HN5 := Lib.hid (show (1 < l.length ∧ l.head? = some 48) → numE l = 5 from fun h => by unfold numE; rw [if_pos ht, if_pos h])
      have hlen : 0 < l.length := List.length_pos_iff.2 HNE.out
      have h0s : 0 < (bs l).size := hlen
      have hhead : l.head? = some l[0] := head_get hlen
      have hc48 : l[0] = 48 ↔ (l[0]).toNat = 48 := by rw [← UInt8.toNat_inj]; rfl
      have hge : ((bs l)[0]'h0s).toNat = (l[0]).toNat := rfl
      have hbel := iter_below w (bs l) l.length
      have hx4 : (w.iter (bs l) l.length).cell? ⟨5, 0, none⟩ = some ev := (hbel.cell (p := ⟨5, 0, none⟩) (World.block_lt_of_cell? _ _ HV.out)).trans HV.out
      clear hps hp ht hk
      by_cases h1 : 1 < l.length
      · have h1i : (1 : Int) < (l.length : Int) := by omega
        by_cases h2 : (l[0]).toNat = 48
        · have HF := Lib.hid (HN5.out ⟨h1, by rw [hhead, hc48.2 h2]⟩)
          rw [h2] at hge
          clear h1 h2 hhead hc48 hpi HN5 HNX hx4 hbel
          go_wp2
          go_ret
          exact ⟨by rw [HF.out]; rfl, iter_below _ _ _⟩
        · have HF := Lib.hid (HNX.out fun h => h2 (hc48.1 (by have := h.2; rw [hhead] at this; exact Option.some.inj this)))
          have h2i : ¬ ((l[0]).toNat : Int) = 48 := by omega
          clear HN5 HNX hhead hc48 h1 h2
          generalize (l[0]).toNat = c at *
          by_cases hm : numV l ≤ 9223372036854775807
          · rw [if_pos hm] at hpi HF
            clear hm hx4
            go_wp2_with fail
            refine (Tryz.strconv_ParseInt_10_at64_ok (bs l) (by have := HL.out; omega) _ hpi _).mono ?_
            rintro e w1 ⟨rfl, hw⟩
            have HB := Lib.hid (iter_or hbel hw)
            clear hw hbel hpi
            go_wp2
            go_ret
            exact ⟨by rw [HF.out]; rfl, HB.out⟩
          · rw [if_neg hm] at hpi HF
            clear hm
            go_wp2_with fail
            refine (Tryz.strconv_ParseInt_10_at64_range (bs l) (by have := HL.out; omega) hpi ev _ hx4 HEV.out).mono ?_
            rintro e w1 ⟨N, rfl, _, _, hb⟩
            have HB := Lib.hid (hbel.trans (hb.mono hbel.size))
            clear hb hbel hpi hx4
            go_wp2
            go_ret
            exact ⟨by rw [HF.out]; rfl, HB.out⟩
      · have h1i : (l.length : Int) ≤ 1 := by omega
        have HF := Lib.hid (HNX.out fun h => h1 h.1)
        clear HN5 HNX hhead hc48 h1 hge
        by_cases hm : numV l ≤ 9223372036854775807
        · rw [if_pos hm] at hpi HF
          clear hm hx4
          go_wp2_with fail
          refine (Tryz.strconv_ParseInt_10_at64_ok (bs l) (by have := HL.out; omega) _ hpi _).mono ?_
          rintro e w1 ⟨rfl, hw⟩
          have HB := Lib.hid (iter_or hbel hw)
          clear hw hbel hpi
          go_wp2
          go_ret
          exact ⟨by rw [HF.out]; rfl, HB.out⟩
        · rw [if_neg hm] at hpi HF
          clear hm
          go_wp2_with fail
          refine (Tryz.strconv_ParseInt_10_at64_range (bs l) (by have := HL.out; omega) hpi ev _ hx4 HEV.out).mono ?_
          rintro e w1 ⟨N, rfl, _, _, hb⟩
          have HB := Lib.hid (hbel.trans (hb.mono hbel.size))
          clear hb hbel hpi hx4
          go_wp2
          go_ret
          exact ⟨by rw [HF.out]; rfl, HB.out⟩
end Go.Proofs.YtkakbidllpjopaaGreatDoor.Lx
namespace Go.Proofs.YtkakbidllpjopaaGreatDoor.Lx
open Go.RowKit

/-- What the lexer's package variables hold, and strconv.ErrRange. -/
structure LxW (w : World) : Prop where
  kw : ∃ t fr, w.heap[0]? = some (.cells (kws.map fun x => Value.string (bs x)).toArray t fr)
  sg : ∃ t fr, w.heap[1]? = some (.cells (sgs.map fun x => Value.string (bs x)).toArray t fr)
  er : ∃ ev, w.cell? ⟨5, 0, none⟩ = some ev ∧ (ev = .nilIface ∨ ∃ te pe, ev = .iface te pe)
theorem LxW.below {w w' : World} (h : LxW w) (hb : Below w.heap.size w w') : LxW w' := by
  obtain ⟨⟨t1, f1, h1⟩, ⟨t2, f2, h2⟩, ev, h3, h4⟩ := h
  exact ⟨⟨t1, f1, (hb.block _ (lt_of_block h1)).trans h1⟩, ⟨t2, f2, (hb.block _ (lt_of_block h2)).trans h2⟩, ev, (hb.cell (p := ⟨5, 0, none⟩) (World.block_lt_of_cell? _ _ h3)).trans h3, h4⟩
theorem LxW.kcell {w : World} (h : LxW w) (j : Nat) (hj : j < (kws.map bs).length) : w.cell? ⟨0, 0 + j, none⟩ = some (.string ((kws.map bs).getD j ByteArray.empty)) := by
  obtain ⟨t1, f1, h1⟩ := h.kw
  rw [Nat.zero_add, cell_of_row _ _ _ _ _ _ h1, List.getElem?_toArray, List.getElem?_map, List.getD_eq_getElem?_getD, List.getElem?_map]
  rw [List.length_map] at hj
  rw [List.getElem?_eq_getElem hj]
  rfl
theorem has_kw (x : List UInt8) : Lib.containsS ((kws.map bs).take 14) (bs x) = kws.contains x := by
  have e : (kws.map bs).take 14 = kws.map bs := rfl
  rw [e]
  by_cases h : kws.contains x = true
  · rw [h, Lib.containsS_iff]
    exact List.mem_map_of_mem (List.contains_iff_mem.1 h)
  · have hf : kws.contains x = false := by simpa using h
    rw [hf]
    cases hq : Lib.containsS (kws.map bs) (bs x) with
    | false => rfl
    | true =>
      rw [Lib.containsS_iff] at hq
      obtain ⟨y, hy, he⟩ := List.mem_map.1 hq
      rw [bs_inj he] at hy
      exact absurd (List.contains_iff_mem.2 hy) h
theorem word_ascii (l : List UInt8) : ∀ b ∈ word l, b.toNat < 128 := by
  unfold word
  induction l with
  | nil => intro b hb; cases hb
  | cons a t ih =>
    intro b hb
    rw [List.takeWhile_cons] at hb
    by_cases ha : partB a = true
    · rw [if_pos ha] at hb
      rcases List.mem_cons.1 hb with rfl | hb
      · exact part_low ha
      · exact ih b hb
    · rw [if_neg ha] at hb; cases hb
theorem bs_toList (l : List UInt8) : (bs l).toList = l := Lib.toList_data (bs l)
theorem sgs_at (k : Nat) (hk : k < 19) : (sgs.map fun x => Value.string (bs x)).toArray[k]? = some (.string (bs (sgs.getD k []))) := by
  have hk' : k < sgs.length := hk
  rw [List.getElem?_toArray, List.getElem?_map, List.getElem?_eq_getElem hk', List.getD_eq_getElem?_getD, List.getElem?_eq_getElem hk']
  rfl
theorem sgs_size : (sgs.map fun x => Value.string (bs x)).toArray.size = 19 := rfl
theorem Tryz.size150 : (Tryz.prog.info? 150).map (·.size) = some 19 := by kernel_rfl
theorem idx_run (SA : Array Value) (k : Nat) (s : ByteArray) (hk : k < 19) (hat : SA[k]? = some (.string s)) (W : World) : (Instr.index 150 (.agg SA) (.int .i64 k)).run Tryz.prog W = .ok (.string s) W := by
  have h1 : (0 : Int) ≤ (k : Int) ∧ (k : Int) < ((19 : Nat) : Int) := by omega
  simp [Instr.index, asIntOf, run_underlying Tryz.underlying150, h1, hat, part, Tryz.isAgg9, Tryz.sizeOf9, Result.andThen]
  exact fun h => absurd h (by omega)
theorem find_first {α : Type} (p : α → Bool) (z : α) : ∀ (l : List α) (k : Nat), k < l.length → (∀ j, j < k → p (l.getD j z) = false) → p (l.getD k z) = true → l.find? p = some (l.getD k z) := by
  intro l
  induction l with
  | nil => intro k hk; cases hk
  | cons a t ih =>
    intro k hk h1 h2
    cases k with
    | zero =>
      have h2 : p a = true := h2
      rw [List.find?_cons_of_pos h2]; rfl
    | succ k =>
      have h0 := h1 0 (by omega)
      rw [List.find?_cons_of_neg (by rw [show (a :: t).getD 0 z = a from rfl] at h0; rw [h0]; decide)]
      exact ih k (by simpa using hk) (fun j hj => h1 (j + 1) (by omega)) h2
theorem sgs_find (l : List UInt8) (k : Nat) (hk : k < 19) (h1 : ∀ j, j < k → (sgs.getD j []).isPrefixOf l = false) (h2 : (sgs.getD k []).isPrefixOf l = true) : sgs.find? (fun x => x.isPrefixOf l) = some (sgs.getD k []) :=
  find_first (fun x => x.isPrefixOf l) [] sgs k hk h1 h2
theorem sgs_none (l : List UInt8) (h1 : ∀ j, j < 19 → (sgs.getD j []).isPrefixOf l = false) : sgs.find? (fun x => x.isPrefixOf l) = none := by
  rw [List.find?_eq_none]
  intro x hx
  obtain ⟨j, hj, rfl⟩ := List.mem_iff_getElem.1 hx
  have := h1 j hj
  rw [List.getD_eq_getElem?_getD, List.getElem?_eq_getElem hj] at this
  rw [show sgs[j] = (some sgs[j]).getD [] from rfl, this]
  decide
def tokV (t : Int × List UInt8 × Int) : Value := .tuple #[.agg #[.int .i64 t.1, .string (bs t.2.1), .int .i64 0], .int .i64 t.2.2]
theorem word_len (l : List UInt8) : (word l).length ≤ l.length := (word_prefix l).length_le

theorem not_frozen {w : World} {b : Nat} {cs : Array Value} {t : TypeId} (h : w.heap[b]? = some (.cells cs t (0, 0))) (o : Nat) : w.frozen? ⟨b, o, none⟩ = false := by simp [World.frozen?, h]
def Touch (g : Nat) (w w' : World) : Prop := ∃ cs, w' = w.setRow g cs
theorem Touch.size {g : Nat} {w w' : World} (h : Touch g w w') : w'.heap.size = w.heap.size := by
  obtain ⟨cs, rfl⟩ := h
  simp [World.setRow]
theorem Touch.block {g b : Nat} {w w' : World} (h : Touch g w w') (hb : b ≠ g) : w'.heap[b]? = w.heap[b]? := by
  obtain ⟨cs, rfl⟩ := h
  exact setRow_other w g b cs hb
theorem Touch.below {g B : Nat} {w0 w w' : World} (h : Touch g w w') (hb : Below B w0 w) (hB : B ≤ g) : Below B w0 w' := by
  obtain ⟨cs, rfl⟩ := h
  exact below_setRow hb hB cs
section
variable {P : Program} {ops : Array Oper} {rest : List Oper} {a : Act} {w : World} {Q : Exit → Act → World → Prop} {d : Option Tmp} {ty t : TypeId} {pos : String} {x y : Operand}
theorem at_store_ {aft} {g} (h : wpList P ops Q (⟨d, .store t x y, ty, pos, aft, g⟩ :: rest) a w) : wpList P ops Q (⟨d, .store t x y, ty, pos, aft, g⟩ :: rest) a w := h
theorem at_load_ {aft} {g} (h : wpList P ops Q (⟨d, .load t x, ty, pos, aft, g⟩ :: rest) a w) : wpList P ops Q (⟨d, .load t x, ty, pos, aft, g⟩ :: rest) a w := h
theorem at_alloc_ {aft} {g} (h : wpList P ops Q (⟨d, .alloc t, ty, pos, aft, g⟩ :: rest) a w) : wpList P ops Q (⟨d, .alloc t, ty, pos, aft, g⟩ :: rest) a w := h
end
/-- A variable of the type Token, in memory. -/
def Box (w : World) (g : Nat) (u0 u1 u2 : Value) : Prop := w.heap[g]? = some (.cells #[u0, u1, u2] 63 (0, 0))
theorem Box.below {w w' : World} {g : Nat} {u0 u1 u2 : Value} (h : Box w g u0 u1 u2) (hb : Below w.heap.size w w') : Box w' g u0 u1 u2 := (hb.block _ (lt_of_block h)).trans h
theorem Box.cells {w : World} {g : Nat} {u0 u1 u2 : Value} (h : Box w g u0 u1 u2) : w.cell? ⟨g, 0, none⟩ = some u0 ∧ w.cell? ⟨g, 1, none⟩ = some u1 ∧ w.cell? ⟨g, 2, none⟩ = some u2 := by
  refine ⟨?_, ?_, ?_⟩ <;> (rw [cell_of_row _ _ _ _ _ _ h]; rfl)
theorem Tryz.size63 : (Tryz.prog.info? 63).map (·.size) = some 3 := by kernel_rfl
theorem Box.load {w : World} {g : Nat} {u0 u1 u2 : Value} (h : Box w g u0 u1 u2) : (loadVar 63 ⟨g, 0, none⟩).run Tryz.prog w = .ok (.agg #[u0, u1, u2]) w :=
  run_loadVar_row w g _ _ _ _ _ h Tryz.underlying63 rfl Tryz.size63
section
variable {ops : Array Oper} {rest : List Oper} {a : Act} {w : World} {Q : Exit → Act → World → Prop} {o : Oper} {u0 u1 u2 v0 v1 v2 : Value}
theorem put_box (hg : o.guard = none) (x y : Operand) (ho : o.op = .store 63 x y) (hd : o.dst = none) (g : Nat) (hx : a.eval x = .pointer (some ⟨g, 0, none⟩)) (hy : a.eval y = .agg #[v0, v1, v2])
    (h0 : Box w g u0 u1 u2) (h1 : (#[v0, v1, v2] : Array Value).all (·.oneCell') = true) (k : ∀ w', Box w' g v0 v1 v2 → Touch g w w' → wpList Tryz.prog ops Q rest a w') : wpList Tryz.prog ops Q (o :: rest) a w :=
  wpList_store_rowTo hg _ x y ho hd g _ hx hy 63 _ h0 Tryz.size63 rfl h1 (k _ (setRow_heap _ _ _ _ _ _ h0) ⟨_, rfl⟩)
theorem get_box (hg : o.guard = none) (x : Operand) (ho : o.op = .load 63 x) (g : Nat) (hx : a.eval x = .pointer (some ⟨g, 0, none⟩)) (h0 : Box w g u0 u1 u2)
    (h : wpList Tryz.prog ops Q rest (a.put o.dst (.agg #[u0, u1, u2])) w) : wpList Tryz.prog ops Q (o :: rest) a w :=
  wpList_load_row hg _ x ho g hx _ _ _ _ h0 Tryz.underlying63 rfl Tryz.size63 h
end
set_option maxRecDepth 100000 in
set_option maxHeartbeats 6400000 in
theorem next_num (l : List UInt8) (w : World) (hl : l.length ≤ 65536) (hw : LxW w) (hd : headDig (word l) = true) :
    Calls Tryz.prog 45 #[.string (bs l)] w fun e w' => e = .returned (tokV (nextT l)) ∧ Below w.heap.size w w' := by
  have HN := Lib.hid (show nextT l = (2, word l, numE (word l)) by unfold nextT; rw [if_pos hd])
  have HW := Lib.hid hw
  have HWL := Lib.hid (Nat.le_trans (word_len l) hl)
  have HWA := Lib.hid (word_ascii l)
  have HR := Lib.hid fun w => run_any l w
  generalize word l = wd at *
  cases wd with
  | nil => cases hd
  | cons b t =>
    have hdig : digN b.toNat = true := hd
    have HD := Lib.hid fun w => digit_any (b.toNat : Int) w
    have hx0 : 0 < (bs (b :: t)).size := by rw [bs_size]; simp
    have hge : ((bs (b :: t))[0]'hx0).toNat = b.toNat := rfl
    have hsz : (bs (b :: t)).size = t.length + 1 := rfl
    have he : (bs (b :: t)).toList = b :: t := bs_toList _
    have hwr : wrap32 (b.toNat : Int) = b.toNat := by have := HWA.out b (.head _); simp [wrap32]; omega
    rw [digZ_nat, hdig] at HD
    clear hw hl hd hdig
    generalize b.toNat = c at *
    go_enter Tryz.func45, Tryz.ntmps45
    go_wp2_with fail
    refine (HR.out _).mono ?_
    rintro e w1 ⟨rfl, hb⟩
    have HB := Lib.hid (((Below.refl _ _).alloc (Nat.le_refl _) _ : Below w.heap.size w (w.alloc (.cells #[.int .i64 0, .string { data := #[] }, .int .i64 0] 63))).trans (hb.mono (by simp)))
    have HX := Lib.hid (show Box w1 w.heap.size (.int .i64 0) (.string { data := #[] }) (.int .i64 0) from (hb.block w.heap.size (by simp)).trans (heap_alloc_new w _))
    have HW1 := Lib.hid (HW.out.below HB.out)
    clear hb HW HR
    go_wp2_with fail
    refine (HD.out _).mono ?_
    rintro e w2 ⟨rfl, rfl⟩
    go_wp2_with fail
    obtain ⟨ev, hv, hev⟩ := HW1.out.er
    refine (number_any (b :: t) w2 (by simp) HWA.out HWL.out ev hv hev).mono ?_
    rintro e w3 ⟨rfl, hb⟩
    have HB3 := Lib.hid (HB.out.trans (hb.mono HB.out.size))
    have HX3 := Lib.hid (HX.out.below hb)
    clear hb hv hev HB HW1 HX
    go_wp2_with (with_reducible refine at_store_ (t := 63) ?_; refine Hid.out ?_)
    refine Lib.hid ?_
    refine put_box (v0 := .int .i64 2) (v1 := .string (bs (b :: t))) (v2 := .int .i64 0) rfl (.tmp 2) (.tmp 19) rfl rfl w.heap.size rfl rfl HX3.out (by simp [Value.oneCell']) ?_
    intro wz hx ht
    have HL := hx.load
    have HBz := Lib.hid (ht.below HB3.out (Nat.le_refl _))
    clear hx ht HX3 HB3
    go_wp2
    refine bodyPost_ret (v := .tuple #[.agg #[.int .i64 2, .string (bs (b :: t)), .int .i64 0], .int .i64 (numE (b :: t))]) ?_ rfl ⟨by rw [HN.out]; rfl, HBz.out⟩
    simp [results, Tryz.results45, asAddr, HL, Result.andThen]

set_option maxRecDepth 100000 in
set_option maxHeartbeats 6400000 in
theorem next_kw (l : List UInt8) (w : World) (hl : l.length ≤ 65536) (hw : LxW w) (hd : headDig (word l) = false) (hk : kws.contains (word l) = true) :
    Calls Tryz.prog 45 #[.string (bs l)] w fun e w' => e = .returned (tokV (nextT l)) ∧ Below w.heap.size w w' := by
  have HN := Lib.hid (show nextT l = (4, word l, 0) by unfold nextT; rw [if_neg (by rw [hd]; decide), if_pos hk])
  have HW := Lib.hid hw
  have HWL := Lib.hid (Nat.le_trans (word_len l) hl)
  have HWA := Lib.hid (word_ascii l)
  have HR := Lib.hid fun w => run_any l w
  have HK := Lib.hid hk
  generalize word l = wd at *
  cases wd with
  | nil => cases hk
  | cons b t =>
    clear hk
    have hdig : digN b.toNat = false := by simpa [headDig, digB] using hd
    have HD := Lib.hid fun w => digit_any (b.toNat : Int) w
    have hx0 : 0 < (bs (b :: t)).size := by rw [bs_size]; simp
    have hge : ((bs (b :: t))[0]'hx0).toNat = b.toNat := rfl
    have hsz : (bs (b :: t)).size = t.length + 1 := rfl
    have he : (bs (b :: t)).toList = b :: t := bs_toList _
    have hwr : wrap32 (b.toNat : Int) = b.toNat := by have := HWA.out b (.head _); simp [wrap32]; omega
    rw [digZ_nat, hdig] at HD
    clear hw hl hd hdig
    generalize b.toNat = c at *
    go_enter Tryz.func45, Tryz.ntmps45
    go_wp2_with fail
    refine (HR.out _).mono ?_
    rintro e w1 ⟨rfl, hb⟩
    have HB := Lib.hid (((Below.refl _ _).alloc (Nat.le_refl _) _ : Below w.heap.size w (w.alloc (.cells #[.int .i64 0, .string { data := #[] }, .int .i64 0] 63))).trans (hb.mono (by simp)))
    have HX := Lib.hid (show Box w1 w.heap.size (.int .i64 0) (.string { data := #[] }) (.int .i64 0) from (hb.block w.heap.size (by simp)).trans (heap_alloc_new w _))
    have HW1 := Lib.hid (HW.out.below HB.out)
    clear hb HW HR
    go_wp2_with fail
    refine (HD.out _).mono ?_
    rintro e w2 ⟨rfl, rfl⟩
    go_wp2_with fail
    refine (Tryz.slices_Contains_string 0 0 14 14 (kws.map bs) (bs (b :: t)) _ (by decide) (by decide) (fun j hj => HW1.out.kcell j hj)).mono ?_
    rintro e w4 ⟨rfl, rfl⟩
    rw [has_kw, HK.out]
    go_wp2_with (with_reducible refine at_store_ (t := 63) ?_; refine Hid.out ?_)
    refine Lib.hid ?_
    refine put_box (v0 := .int .i64 4) (v1 := .string (bs (b :: t))) (v2 := .int .i64 0) rfl (.tmp 2) (.tmp 27) rfl rfl w.heap.size rfl rfl HX.out (by simp [Value.oneCell']) ?_
    intro wz hx ht
    have HL := hx.load
    have HBz := Lib.hid (ht.below HB.out (Nat.le_refl _))
    clear hx ht HX HB
    go_wp2
    refine bodyPost_ret (v := .tuple #[.agg #[.int .i64 4, .string (bs (b :: t)), .int .i64 0], .int .i64 0]) ?_ rfl ⟨by rw [HN.out]; rfl, HBz.out⟩
    simp [results, Tryz.results45, asAddr, HL, Result.andThen]

set_option maxRecDepth 100000 in
set_option maxHeartbeats 6400000 in
theorem next_long (l : List UInt8) (w : World) (hl : l.length ≤ 65536) (hw : LxW w) (hd : headDig (word l) = false) (hk : kws.contains (word l) = false) (hlong : 24 < (word l).length) :
    Calls Tryz.prog 45 #[.string (bs l)] w fun e w' => e = .returned (tokV (nextT l)) ∧ Below w.heap.size w w' := by
  have HN := Lib.hid (show nextT l = (0, [], 16) by unfold nextT; rw [if_neg (by rw [hd]; decide), if_neg (by rw [hk]; decide), if_pos hlong])
  have HW := Lib.hid hw
  have HWL := Lib.hid (Nat.le_trans (word_len l) hl)
  have HWA := Lib.hid (word_ascii l)
  have HR := Lib.hid fun w => run_any l w
  have HK := Lib.hid hk
  generalize word l = wd at *
  cases wd with
  | nil => exact absurd hlong (by decide)
  | cons b t =>
    have hli : (24 : Int) < (t.length : Int) + 1 := by simp at hlong; omega
    have HLI := Lib.hid hli
    clear hk hlong
    have hdig : digN b.toNat = false := by simpa [headDig, digB] using hd
    have HD := Lib.hid fun w => digit_any (b.toNat : Int) w
    have hx0 : 0 < (bs (b :: t)).size := by rw [bs_size]; simp
    have hge : ((bs (b :: t))[0]'hx0).toNat = b.toNat := rfl
    have hsz : (bs (b :: t)).size = t.length + 1 := rfl
    have he : (bs (b :: t)).toList = b :: t := bs_toList _
    have hwr : wrap32 (b.toNat : Int) = b.toNat := by have := HWA.out b (.head _); simp [wrap32]; omega
    rw [digZ_nat, hdig] at HD
    clear hw hl hd hdig
    generalize b.toNat = c at *
    go_enter Tryz.func45, Tryz.ntmps45
    go_wp2_with fail
    refine (HR.out _).mono ?_
    rintro e w1 ⟨rfl, hb⟩
    have HB := Lib.hid (((Below.refl _ _).alloc (Nat.le_refl _) _ : Below w.heap.size w (w.alloc (.cells #[.int .i64 0, .string { data := #[] }, .int .i64 0] 63))).trans (hb.mono (by simp)))
    have HX := Lib.hid (show Box w1 w.heap.size (.int .i64 0) (.string { data := #[] }) (.int .i64 0) from (hb.block w.heap.size (by simp)).trans (heap_alloc_new w _))
    have HW1 := Lib.hid (HW.out.below HB.out)
    clear hb HW HR
    go_wp2_with fail
    refine (HD.out _).mono ?_
    rintro e w2 ⟨rfl, rfl⟩
    go_wp2_with fail
    refine (Tryz.slices_Contains_string 0 0 14 14 (kws.map bs) (bs (b :: t)) _ (by decide) (by decide) (fun j hj => HW1.out.kcell j hj)).mono ?_
    rintro e w4 ⟨rfl, rfl⟩
    rw [has_kw, HK.out]
    go_wp2_with (with_reducible refine at_store_ (t := 63) ?_; refine Hid.out ?_)
    refine Lib.hid ?_
    refine put_box (v0 := .int .i64 0) (v1 := .string { data := #[] }) (v2 := .int .i64 0) rfl (.tmp 2) (.tmp 32) rfl rfl w.heap.size rfl rfl HX.out (by simp [Value.oneCell']) ?_
    intro wz hx ht
    have HL := hx.load
    have HBz := Lib.hid (ht.below HB.out (Nat.le_refl _))
    clear hx ht HX HB
    go_wp2
    refine bodyPost_ret (v := .tuple #[.agg #[.int .i64 0, .string { data := #[] }, .int .i64 0], .int .i64 16]) ?_ rfl ⟨by rw [HN.out]; rfl, HBz.out⟩
    simp [results, Tryz.results45, asAddr, HL, Result.andThen]

set_option maxRecDepth 100000 in
set_option maxHeartbeats 6400000 in
theorem next_name (l : List UInt8) (w : World) (hl : l.length ≤ 65536) (hw : LxW w) (hd : headDig (word l) = false) (hk : kws.contains (word l) = false) (hlong : ¬ 24 < (word l).length) (hne : word l ≠ []) :
    Calls Tryz.prog 45 #[.string (bs l)] w fun e w' => e = .returned (tokV (nextT l)) ∧ Below w.heap.size w w' := by
  have HN := Lib.hid (show nextT l = (1, word l, 0) by unfold nextT; rw [if_neg (by rw [hd]; decide), if_neg (by rw [hk]; decide), if_neg hlong, if_pos hne])
  have HW := Lib.hid hw
  have HWL := Lib.hid (Nat.le_trans (word_len l) hl)
  have HWA := Lib.hid (word_ascii l)
  have HR := Lib.hid fun w => run_any l w
  have HK := Lib.hid hk
  generalize word l = wd at *
  cases wd with
  | nil => exact absurd rfl hne
  | cons b t =>
    have hli : (t.length : Int) + 1 ≤ 24 := by simp at hlong; omega
    clear hk hlong hne
    have hdig : digN b.toNat = false := by simpa [headDig, digB] using hd
    have HD := Lib.hid fun w => digit_any (b.toNat : Int) w
    have hx0 : 0 < (bs (b :: t)).size := by rw [bs_size]; simp
    have hge : ((bs (b :: t))[0]'hx0).toNat = b.toNat := rfl
    have hsz : (bs (b :: t)).size = t.length + 1 := rfl
    have he : (bs (b :: t)).toList = b :: t := bs_toList _
    have hwr : wrap32 (b.toNat : Int) = b.toNat := by have := HWA.out b (.head _); simp [wrap32]; omega
    rw [digZ_nat, hdig] at HD
    clear hw hl hd hdig
    generalize b.toNat = c at *
    go_enter Tryz.func45, Tryz.ntmps45
    go_wp2_with fail
    refine (HR.out _).mono ?_
    rintro e w1 ⟨rfl, hb⟩
    have HB := Lib.hid (((Below.refl _ _).alloc (Nat.le_refl _) _ : Below w.heap.size w (w.alloc (.cells #[.int .i64 0, .string { data := #[] }, .int .i64 0] 63))).trans (hb.mono (by simp)))
    have HX := Lib.hid (show Box w1 w.heap.size (.int .i64 0) (.string { data := #[] }) (.int .i64 0) from (hb.block w.heap.size (by simp)).trans (heap_alloc_new w _))
    have HW1 := Lib.hid (HW.out.below HB.out)
    clear hb HW HR
    go_wp2_with fail
    refine (HD.out _).mono ?_
    rintro e w2 ⟨rfl, rfl⟩
    go_wp2_with fail
    refine (Tryz.slices_Contains_string 0 0 14 14 (kws.map bs) (bs (b :: t)) _ (by decide) (by decide) (fun j hj => HW1.out.kcell j hj)).mono ?_
    rintro e w4 ⟨rfl, rfl⟩
    rw [has_kw, HK.out]
    go_wp2_with (with_reducible refine at_store_ (t := 63) ?_; refine Hid.out ?_)
    refine Lib.hid ?_
    refine put_box (v0 := .int .i64 1) (v1 := .string (bs (b :: t))) (v2 := .int .i64 0) rfl (.tmp 2) (.tmp 37) rfl rfl w.heap.size rfl rfl HX.out (by simp [Value.oneCell']) ?_
    intro wz hx ht
    have HL := hx.load
    have HBz := Lib.hid (ht.below HB.out (Nat.le_refl _))
    clear hx ht HX HB
    go_wp2
    refine bodyPost_ret (v := .tuple #[.agg #[.int .i64 1, .string (bs (b :: t)), .int .i64 0], .int .i64 0]) ?_ rfl ⟨by rw [HN.out]; rfl, HBz.out⟩
    simp [results, Tryz.results45, asAddr, HL, Result.andThen]

set_option maxRecDepth 100000 in
set_option maxHeartbeats 6400000 in
theorem next_sign (l : List UInt8) (w : World) (hl : l.length ≤ 65536) (hw : LxW w) (hne : word l = []) :
    Calls Tryz.prog 45 #[.string (bs l)] w fun e w' => e = .returned (tokV (nextT l)) ∧ Below w.heap.size w w' := by
  have HN := Lib.hid (show nextT l = match sgs.find? (fun x => x.isPrefixOf l) with | some x => (3, x, 0) | none => (0, [], 5) by unfold nextT; rw [hne]; rfl)
  have HW := Lib.hid hw
  have HWL := Lib.hid (Nat.le_trans (word_len l) hl)
  have HWA := Lib.hid (word_ascii l)
  have HR := Lib.hid fun w => run_any l w
  have HK := Lib.hid (show kws.contains ([] : List UInt8) = false by decide)
  rw [hne] at HR HWL HWA
  have he : (bs ([] : List UInt8)).toList = [] := bs_toList _
  have hsz : (bs ([] : List UInt8)).size = 0 := rfl
  clear hw hne
  go_enter Tryz.func45, Tryz.ntmps45
  go_wp2_with fail
  refine (HR.out _).mono ?_
  rintro e w1 ⟨rfl, hb⟩
  have HB := Lib.hid (((Below.refl _ _).alloc (Nat.le_refl _) _ : Below w.heap.size w (w.alloc (.cells #[.int .i64 0, .string { data := #[] }, .int .i64 0] 63))).trans (hb.mono (by simp)))
  have HX := Lib.hid (show Box w1 w.heap.size (.int .i64 0) (.string { data := #[] }) (.int .i64 0) from (hb.block w.heap.size (by simp)).trans (heap_alloc_new w _))
  have HW1 := Lib.hid (HW.out.below HB.out)
  clear hb HW HR
  go_wp2_with fail
  refine (Tryz.slices_Contains_string 0 0 14 14 (kws.map bs) (bs ([] : List UInt8)) _ (by decide) (by decide) (fun j hj => HW1.out.kcell j hj)).mono ?_
  rintro e w4 ⟨rfl, rfl⟩
  rw [has_kw, HK.out]
  obtain ⟨ts, fs, hs⟩ := HW1.out.sg
  have HSA := Lib.hid sgs_at
  have hss := sgs_size
  generalize (sgs.map fun x => Value.string (bs x)).toArray = SA at *
  go_wp2_with (with_reducible refine at_load_ (t := 150) ?_; refine wpList_load_row rfl _ _ rfl 1 rfl ts SA fs _ hs Tryz.underlying150 rfl (by rw [hss]; exact Tryz.size150) ?_)
  clear hs HW1
  try simp only [Act.put, List.setIfInBounds_toArray, List.set_cons_zero, List.set_cons_succ]
  go_wp2
  go_loopw [39] (fun i wr => ∃ k : Nat, k ≤ 19 ∧ i = .int .i64 k ∧ Hid (∀ j, j < k → (sgs.getD j []).isPrefixOf l = false) ∧ wr = w4) (fun i _ => 19 - (intOf i).toNat)
  case atStart => exact ⟨0, by omega, rfl, Lib.hid (fun j hj => absurd hj (by omega)), rfl⟩
  case round =>
    obtain ⟨k, hk, rfl, HP, rfl⟩ := hrel
    by_cases hlt : k < 19
    · skip
      have hki : (k : Int) < 19 := by omega
      have hks : k < SA.size := by omega
      have HK2 := Lib.hid hlt
      have hat := HSA.out k hlt
      have hix := fun W => idx_run SA k _ hlt hat W
      clear hk hat hks
      cases hpx : (sgs.getD k []).isPrefixOf l with
      | true =>
        have HF := Lib.hid (sgs_find l k hlt HP.out hpx)
        have HPX := Lib.hid hpx
        clear hpx hlt HP
        generalize sgs.getD k [] = x at *
        go_wp2_with fail
        refine (Tryz.strings_HasPrefix _ _ _).mono ?_
        rintro e w5 ⟨rfl, rfl⟩
        rw [show Lib.hasPrefix (bs l).data.toList (bs x).data.toList = true from HPX.out]
        go_wp2_with (with_reducible refine at_store_ (t := 63) ?_; refine Hid.out ?_)
        refine Lib.hid ?_
        refine put_box (v0 := .int .i64 3) (v1 := .string (bs x)) (v2 := .int .i64 0) rfl (.tmp 2) (.tmp 46) rfl rfl w.heap.size rfl rfl HX.out (by simp [Value.oneCell']) ?_
        intro wz hx ht
        have HL := hx.load
        have HBz := Lib.hid (ht.below HB.out (Nat.le_refl _))
        clear hx ht HX HB
        go_wp2
        refine bodyPost_ret (v := .tuple #[.agg #[.int .i64 3, .string (bs x), .int .i64 0], .int .i64 0]) ?_ rfl ⟨by rw [HN.out, HF.out]; rfl, HBz.out⟩
        simp [results, Tryz.results45, asAddr, HL, Result.andThen]
      | false =>
        have HPX := Lib.hid hpx
        have HPN := Lib.hid (show ∀ j, j < k + 1 → (sgs.getD j []).isPrefixOf l = false from fun j hj => by
          by_cases e : j = k
          · rw [e]; exact hpx
          · exact HP.out j (by omega))
        clear hpx hlt HP
        generalize sgs.getD k [] = x at *
        go_wp2_with fail
        refine (Tryz.strings_HasPrefix _ _ _).mono ?_
        rintro e w5 ⟨rfl, rfl⟩
        rw [show Lib.hasPrefix (bs l).data.toList (bs x).data.toList = false from HPX.out]
        go_wp2
        go_roundw
        case rel => exact ⟨k + 1, HK2.out, by go_num, HPN, by first | rfl | trivial⟩
        case measure => exact meas_up _ _ HK2.out
    · skip
      obtain rfl : k = 19 := by omega
      have HF := Lib.hid (sgs_none l HP.out)
      have hki : ¬ ((19 : Nat) : Int) < 19 := by omega
      clear hk hlt HP
      rw [show ((19 : Nat) : Int) = 19 from rfl]
      go_wp2_with (with_reducible refine at_store_ (t := 63) ?_; refine Hid.out ?_)
      refine Lib.hid ?_
      refine put_box (v0 := .int .i64 0) (v1 := .string { data := #[] }) (v2 := .int .i64 0) rfl (.tmp 2) (.tmp 48) rfl rfl w.heap.size rfl rfl HX.out (by simp [Value.oneCell']) ?_
      intro wz hx ht
      have HL := hx.load
      have HBz := Lib.hid (ht.below HB.out (Nat.le_refl _))
      clear hx ht HX HB
      go_wp2
      refine bodyPost_ret (v := .tuple #[.agg #[.int .i64 0, .string { data := #[] }, .int .i64 0], .int .i64 5]) ?_ rfl ⟨by rw [HN.out, HF.out]; rfl, HBz.out⟩
      simp [results, Tryz.results45, asAddr, HL, Result.andThen]
theorem next_any (l : List UInt8) (w : World) (hl : l.length ≤ 65536) (hw : LxW w) :
    Calls Tryz.prog 45 #[.string (bs l)] w fun e w' => e = .returned (tokV (nextT l)) ∧ Below w.heap.size w w' := by
  cases hd : headDig (word l) with
  | true => exact next_num l w hl hw hd
  | false =>
    cases hk : kws.contains (word l) with
    | true => exact next_kw l w hl hw hd hk
    | false =>
      by_cases hlong : 24 < (word l).length
      · exact next_long l w hl hw hd hk hlong
      · by_cases hne : word l = []
        · exact next_sign l w hl hw hne
        · exact next_name l w hl hw hd hk hlong hne
end Go.Proofs.YtkakbidllpjopaaGreatDoor.Lx
namespace Go.Proofs.YtkakbidllpjopaaGreatDoor.Lx
open Go.RowKit

theorem own_keep' {w w' : World} {base : Nat} {e : TypeId} {size : Nat} {v : Value} {n : Nat} {xs : List Value} (h : w.ownsRow base e size v n xs) (hk : ∀ b, v.ownBlock = some b → w'.heap[b]? = w.heap[b]?) : w'.ownsRow base e size v n xs := by
  refine ⟨h.1, ?_⟩
  rcases h.2 with h2 | ⟨g, cap, cur, rfl, hb, hh, hrest⟩
  · exact .inl h2
  · exact .inr ⟨g, cap, cur, rfl, hb, (hk g rfl).trans hh, hrest⟩
theorem own_below {w w' : World} {base : Nat} {e : TypeId} {size : Nat} {v : Value} {n : Nat} {xs : List Value} (h : w.ownsRow base e size v n xs) (hb : Below w.heap.size w w') : w'.ownsRow base e size v n xs :=
  own_keep' h fun b hb' => hb.block b (h.lt b hb').2
def tokC (t : Tok) : List Value := [.int .i64 t.kind, .string (bs t.text), .int .i64 t.off]
theorem tokC_one (t : Tok) : ∀ u ∈ tokC t, u.oneCell' = true := by
  intro u hu
  simp [tokC] at hu
  rcases hu with rfl | rfl | rfl <;> rfl
theorem Tryz.info63 : (Tryz.prog.info? 63).map (fun i => (i.zero, i.size, i.bytes)) = some (some (.agg #[.int .i64 0, .string { data := #[] }, .int .i64 0]), 3, 32) := by kernel_rfl
theorem tok_zero (w : World) : (zeroValue 63).run Tryz.prog w = .ok (.agg #[.int .i64 0, .string { data := #[] }, .int .i64 0]) w := by
  simp [go_sem]
section
variable {P : Program} {ops : Array Oper} {rest : List Oper} {a : Act} {w : World} {Q : Exit → Act → World → Prop}
theorem wpList_alloc_mine {o : Oper} (hg : o.guard = none) (t : TypeId) (ho : o.op = .alloc t) (dst : Option Tmp) (hd : o.dst = dst)
    (cs : Array Value) (hz : ∀ w, (zeroValue t).run P w = .ok (.agg cs) w) (hc : (Value.agg cs).cells = cs)
    (h : wpList P ops Q rest (a.put dst (.pointer (some ⟨w.heap.size, 0, none⟩))) (w.alloc (.cells cs t))) : wpList P ops Q (o :: rest) a w := by
  subst hd
  refine wpList_plain hg fun K hK => ?_
  unfold Oper.wp execOp
  simp only [ho]
  simp [Instr.alloc, hz, hc, Result.andThen]
  exact hK _ _ h
theorem alloc_tok {o : Oper} (hg : o.guard = none) (ho : o.op = .alloc 63) (k : ∀ w', Box w' w.heap.size (.int .i64 0) (.string { data := #[] }) (.int .i64 0) → Below w.heap.size w w' → wpList Tryz.prog ops Q rest (a.put o.dst (.pointer (some ⟨w.heap.size, 0, none⟩))) w') : wpList Tryz.prog ops Q (o :: rest) a w := by
  refine wpList_alloc_mine hg 63 ho _ rfl _ tok_zero rfl ?_
  exact k _ (heap_alloc_new _ _) ((Below.refl _ _).alloc (Nat.le_refl _) _)
end
theorem Box.set2 {w : World} {g : Nat} {u0 u1 u2 : Value} (h : Box w g u0 u1 u2) (v : Value) : Box (w.setCell ⟨g, 2, none⟩ v) g u0 u1 v ∧ Touch g w (w.setCell ⟨g, 2, none⟩ v) := by
  rw [setCell_eq_setRow w g 2 _ _ _ v h]
  exact ⟨setRow_heap _ _ _ _ _ _ h, _, rfl⟩
theorem Touch.own {g : Nat} {w w' : World} (t : Touch g w w') {base : Nat} {e : TypeId} {size : Nat} {v : Value} {n : Nat} {xs : List Value} (h : w.ownsRow base e size v n xs) (hg : ∀ b, v.ownBlock = some b → b ≠ g) : w'.ownsRow base e size v n xs :=
  own_keep' h fun b hb => t.block (hg b hb)

theorem scanG_succ (f k : Nat) (l : List UInt8) : scanG (f + 1) k l = if l = [] then .ok [] else if (nextT l).2.2 ≠ 0 then .error (k, (nextT l).2.2) else match scanG f (k + (nextT l).2.1.length + blankA false (l.drop (nextT l).2.1.length)) ((l.drop (nextT l).2.1.length).drop (blankA false (l.drop (nextT l).2.1.length))) with
    | .error e => .error e
    | .ok ts => .ok (⟨(nextT l).1, (nextT l).2.1, k⟩ :: ts) := rfl
def preT (acc : List Tok) : Except (Nat × Int) (List Tok) → Except (Nat × Int) (List Tok)
  | .error e => .error e
  | .ok ts => .ok (acc ++ ts)
/-- Where Scan stands: at offset k, with the tokens acc. -/
def ScI (l : List UInt8) (k : Nat) (acc : List Tok) : Prop := ∀ f, l.length < f → scanR l = preT acc (scanG f k (l.drop k))
theorem sc_start (l : List UInt8) : ScI l (blankA false l) [] := by
  intro f hf
  unfold scanR
  rw [scanG_fuel (l.length + 1) f _ _ (by rw [List.length_drop]; omega) (by rw [List.length_drop]; omega)]
  cases scanG f (blankA false l) (l.drop (blankA false l)) <;> rfl
theorem sc_step {l : List UInt8} {k : Nat} {acc : List Tok} (h : ScI l k acc) (hk : k < l.length) (he : (nextT (l.drop k)).2.2 = 0) :
    ScI l (k + (nextT (l.drop k)).2.1.length + blankA false (l.drop (k + (nextT (l.drop k)).2.1.length))) (acc ++ [⟨(nextT (l.drop k)).1, (nextT (l.drop k)).2.1, k⟩]) := by
  intro f hf
  have h1 := h (f + 1) (by omega)
  rw [h1, scanG_succ]
  rw [if_neg (by intro e; have := congrArg List.length e; simp at this; omega), if_neg (by rw [he]; exact fun x => x rfl), List.drop_drop, List.drop_drop]
  generalize scanG f _ _ = r
  cases r with
  | error e => rfl
  | ok ts => simp [preT]
theorem sc_err {l : List UInt8} {k : Nat} {acc : List Tok} (h : ScI l k acc) (hk : k < l.length) (he : (nextT (l.drop k)).2.2 ≠ 0) (h6 : l.length ≤ 65536) : scanL l = ([], k, (nextT (l.drop k)).2.2) := by
  have h1 := h (l.length + 1) (by omega)
  rw [scanG_succ] at h1
  rw [if_neg (by intro e; have := congrArg List.length e; simp at this; omega), if_pos he] at h1
  unfold scanL
  rw [if_neg (by omega), h1]
  rfl
theorem sc_end {l : List UInt8} {acc : List Tok} (h : ScI l l.length acc) (h6 : l.length ≤ 65536) : scanL l = (acc ++ [⟨0, [], l.length⟩], 0, 0) := by
  have h1 := h (l.length + 1) (by omega)
  rw [scanG_succ] at h1
  rw [List.drop_length, if_pos rfl] at h1
  unfold scanL
  rw [if_neg (by omega), h1]
  simp [preT]
theorem sc_more {l : List UInt8} {k : Nat} (hk : k < l.length) (he : (nextT (l.drop k)).2.2 = 0) : 0 < (nextT (l.drop k)).2.1.length ∧ k + (nextT (l.drop k)).2.1.length + blankA false (l.drop (k + (nextT (l.drop k)).2.1.length)) ≤ l.length := by
  obtain ⟨h1, h2⟩ := next_text he
  have h3 := h1.length_le
  have h4 : 0 < (nextT (l.drop k)).2.1.length := List.length_pos_iff.2 h2
  have h5 := blank_le (l.drop (k + (nextT (l.drop k)).2.1.length)) false
  rw [List.length_drop] at h3 h5
  omega

set_option maxRecDepth 100000 in
set_option maxHeartbeats 6400000 in
theorem scan_any (l : List UInt8) (w : World) (hw : LxW w) (hmax : l.length ≤ 9223372036854775807) :
    Calls Tryz.prog 21 #[.string (bs l)] w fun e w' => ∃ v, e = .returned (.tuple #[v, .int .i64 ((scanL l).2.1 : Int), .int .i64 (scanL l).2.2]) ∧ w'.ownsRow w.heap.size 63 3 v (scanL l).1.length ((scanL l).1.flatMap tokC) ∧ Below w.heap.size w w' := by
  obtain ⟨ie, hie0, hie1, hie2, hie3⟩ := info_parts Tryz.info63
  have hsz := bs_size l
  have HW := Lib.hid hw
  by_cases h6 : 65536 < l.length
  · have h6i : (65536 : Int) < (l.length : Int) := by omega
    have HF := Lib.hid (show scanL l = ([], 0, 7) by unfold scanL; rw [if_pos h6])
    clear hw h6 hmax
    go_enter Tryz.func21, Tryz.ntmps21
    go_wp2
    go_ret3
    exact ⟨.slice none 0 0, by rw [HF.out]; rfl, by rw [HF.out]; exact World.ownsRow_nil _ _ _ _, Below.refl _ _⟩
  · have h6i : (l.length : Int) ≤ 65536 := by omega
    have H6 := Lib.hid (show l.length ≤ 65536 by omega)
    have HB0 := Lib.hid (blank_le l false)
    have HS0 := Lib.hid (sc_start l)
    clear hw h6 hmax
    go_enter Tryz.func21, Tryz.ntmps21
    go_wp2_with fail
    refine (blank_any l w H6.out).mono ?_
    rintro e w1 ⟨rfl, rfl⟩
    generalize blankA false l = k0 at *
    go_wp2
    go_loopw [5, 6] (fun v i wr => ∃ (k : Nat) (acc : List Tok), k ≤ l.length ∧ i = .int .i64 k ∧ Hid (ScI l k acc) ∧ Hid (acc.length ≤ k) ∧ Hid (wr.ownsRow w1.heap.size 63 3 v acc.length (acc.flatMap tokC)) ∧ Hid (Below w1.heap.size w1 wr)) (fun _ i _ => l.length - (intOf i).toNat)
    case atStart => exact ⟨k0, [], HB0.out, rfl, HS0, Lib.hid (by simp), Lib.hid (World.ownsRow_nil _ _ _ _), Lib.hid (Below.refl _ _)⟩
    case round =>
      clear HB0 HS0
      obtain ⟨k, acc, hk, rfl, HS, HA, HO, HB⟩ := hrel
      by_cases hlt : k < l.length
      · skip
        have hi : (k : Int) < (l.length : Int) := by omega
        have HK := Lib.hid hlt
        have HW1 := Lib.hid (HW.out.below HB.out)
        have hki : (k : Int) ≤ ((bs l).size : Int) := by omega
        have HNX := Lib.hid fun W (h : LxW W) => next_any (l.drop k) W (by rw [List.length_drop]; have := H6.out; omega) h
        have HST := Lib.hid fun e => sc_step HS.out hlt e
        have HER := Lib.hid fun e => sc_err HS.out hlt e H6.out
        have HMO := Lib.hid fun e => sc_more hlt e
        clear hk hlt
        generalize hnt : nextT (l.drop k) = t at *
        obtain ⟨tk, tx, te⟩ := t
        clear hnt
        unfold tokV at HNX
        dsimp only at HNX HST HER HMO
        go_wp2_with fail
        rw [show (bs l).extract k l.length = bs (l.drop k) from bs_tail l k]
        refine (HNX.out _ HW1.out).mono ?_
        rintro e wb ⟨rfl, hb⟩
        have OB := Lib.hid (own_below HO.out hb)
        have BB := Lib.hid (HB.out.trans (hb.mono HB.out.size))
        have HWb := Lib.hid (HW1.out.below hb)
        have HLT := Lib.hid (show ∀ b, u5.ownBlock = some b → b < wb.heap.size from fun b hbk => Nat.lt_of_lt_of_le (HO.out.lt b hbk).2 hb.size)
        clear hb HO HB HW1 HNX
        go_wp2_with (with_reducible refine at_alloc_ (t := 63) ?_; refine alloc_tok rfl rfl ?_)
        intro wc hx hb
        have X1 := Lib.hid hx
        have OC := Lib.hid (own_below OB.out hb)
        have BC := Lib.hid (BB.out.trans (hb.mono BB.out.size))
        have HWc := Lib.hid (HWb.out.below hb)
        have HQ := Lib.hid BB.out.size
        have HQ2 := Lib.hid X1.out
        clear hx hb OB BB HWb HQ2
        generalize wb.heap.size = q at *
        go_wp2_with (with_reducible refine at_store_ (t := 63) ?_; refine Hid.out ?_)
        refine Lib.hid ?_
        refine put_box (v0 := .int .i64 tk) (v1 := .string (bs tx)) (v2 := .int .i64 0) rfl (.tmp 7) (.tmp 23) rfl rfl q rfl rfl X1.out (by simp [Value.oneCell']) ?_
        intro wd hx ht
        have X2 := Lib.hid hx
        have OD := Lib.hid (ht.own OC.out fun b hb => by have := HLT.out b hb; omega)
        have BD := Lib.hid (ht.below BC.out HQ.out)
        clear hx ht OC BC HWc X1
        have HWd := Lib.hid (HW.out.below BD.out)
        by_cases he : te = 0
        · subst he
          have HST2 := Lib.hid (HST.out rfl)
          obtain ⟨m1, m2⟩ := HMO.out rfl
          have HM := Lib.hid (And.intro m1 m2)
          clear HST HER HMO m1 m2
          obtain ⟨x0, x1, x2⟩ := X2.out.cells
          have hz : ∀ i, wd.frozen? ⟨q, i, none⟩ = false := fun i => not_frozen X2.out i
          obtain ⟨hx3, ht3⟩ := X2.out.set2 (.int .i64 k)
          have X3 := Lib.hid hx3
          have OE := Lib.hid (ht3.own OD.out fun b hb => by have := HLT.out b hb; omega)
          have BE := Lib.hid (ht3.below BD.out HQ.out)
          clear hx3 ht3
          go_wp2_with (with_reducible refine at_load_ (t := 63) ?_; refine Hid.out ?_)
          refine Lib.hid ?_
          clear x0 x1 x2 hz X2 OD BD HWd
          generalize wd.setCell ⟨q, 2, none⟩ (.int .i64 k) = we at *
          refine get_box rfl (.tmp 7) rfl q rfl X3.out ?_
          try simp only [Act.put, List.setIfInBounds_toArray, List.set_cons_zero, List.set_cons_succ]
          have HNR := Lib.hid (Reads.new (S := fun _ => True) (size := 3) (n := 1) we #[.int .i64 tk, .string (bs tx), .int .i64 k] 63 rfl trivial)
          go_wp2_with (at_builtin; (refine wpList_append_any rfl (.tmp 31) (.tmp 33) 59 rfl w1.heap.size 63 ie _ 3 32 Tryz.underlying59 hie0 hie1 hie2 hie3 rfl (by omega) u5 _ _ rfl (OE.out.alloc _) _ _ 1 1 _ rfl HNR.out ?m1 ?m2 ?m3 ?m4 ?m5))
          case m1 => exact ⟨rfl, rfl, rfl⟩
          case m2 => have := HA.out; have := HK.out; have := H6.out; simp only [maxLen]; omega
          case m3 => have := HA.out; have := HK.out; have := H6.out; omega
          case m4 => have := BE.out.size; simp; omega
          case m5 =>
            intro v' wf ho hg _
            have hbx : Below we.heap.size we (we.alloc (.cells #[.int .i64 tk, .string (bs tx), .int .i64 k] 63)) := (Below.refl _ _).alloc (Nat.le_refl _) _
            have OF := Lib.hid (show wf.ownsRow w1.heap.size 63 3 v' (acc ++ [(⟨tk, tx, k⟩ : Tok)]).length ((acc ++ [(⟨tk, tx, k⟩ : Tok)]).flatMap tokC) from by rw [List.length_append, List.flatMap_append]; exact ho)
            have XF := Lib.hid (show Box wf q (.int .i64 tk) (.string (bs tx)) (.int .i64 k) from (hg.block q (Nat.lt_of_lt_of_le (lt_of_block X3.out) hbx.size) (fun e => by have := HLT.out q e.symm; omega)).trans ((hbx.block q (lt_of_block X3.out)).trans X3.out))
            have BF := Lib.hid (Below.grown (BE.out.alloc BE.out.size _) hg (Nat.le_trans BE.out.size hbx.size) (fun j hj => (OE.out.lt j hj).1))
            clear ho hg hbx HNR OE X3 BE HLT
            have x1 := XF.out.cells.2.1
            clear XF
            have htx : (bs tx).size = tx.length := bs_size tx
            have HKN := Lib.hid (show k + tx.length ≤ l.length by have := HM.out.2; omega)
            have hkn : (k : Int) + (tx.length : Int) ≤ 65536 := by have := HM.out.2; have := H6.out; omega
            have hkz : (k : Int) + (tx.length : Int) ≤ (l.length : Int) := by have := HKN.out; omega
            have hk00 : (0 : Int) ≤ (k : Int) + (tx.length : Int) := by omega
            have htn : ((k : Int) + (tx.length : Int)).toNat = k + tx.length := by omega
            go_wp2_with fail
            rw [show (bs l).extract (k + tx.length) l.length = bs (l.drop (k + tx.length)) from bs_tail l _]
            refine (blank_any (l.drop (k + tx.length)) wf (by rw [List.length_drop]; have := H6.out; omega)).mono ?_
            rintro e wg ⟨rfl, rfl⟩
            generalize blankA false (l.drop (k + tx.length)) = bn at *
            have hbn : (k : Int) + (tx.length : Int) + (bn : Int) ≤ 65536 := by have := HM.out.2; have := H6.out; omega
            clear x1 htn
            go_wp2
            go_roundw
            case rel => exact ⟨k + tx.length + bn, acc ++ [⟨tk, tx, k⟩], HM.out.2, by go_num, HST2, Lib.hid (by rw [List.length_append, List.length_singleton]; have := HA.out; have := HM.out.1; omega), OF, BF⟩
            case measure => have := HM.out; have := HK.out; show l.length - ((k : Int) + (tx.length : Int) + (bn : Int)).toNat < l.length - (k : Int).toNat; omega
        · have HF := Lib.hid (HER.out he)
          have hne : ¬ te = 0 := he
          clear HST HER HMO he
          go_wp2
          go_ret3
          exact ⟨.slice none 0 0, by rw [HF.out]; rfl, by rw [HF.out]; exact World.ownsRow_nil _ _ _ _, BD.out⟩
      · skip
        obtain rfl : k = l.length := by omega
        have HF := Lib.hid (sc_end HS.out H6.out)
        clear hk hlt HS
        have HNR := Lib.hid (Reads.new (S := fun _ => True) (size := 3) (n := 1) wr #[.int .i64 0, .string { data := #[] }, .int .i64 (l.length : Int)] 63 rfl trivial)
        go_wp2_with (at_builtin; (refine wpList_append_any rfl (.tmp 46) (.tmp 50) 59 rfl w1.heap.size 63 ie _ 3 32 Tryz.underlying59 hie0 hie1 hie2 hie3 rfl (by omega) u5 _ _ rfl (HO.out.alloc _) _ _ 1 1 _ rfl HNR.out ?m1 ?m2 ?m3 ?m4 ?m5))
        case m1 => first | exact ⟨rfl, rfl, rfl⟩ | exact tokC_one ⟨0, [], l.length⟩
        case m2 => have := HA.out; have := H6.out; simp only [maxLen]; omega
        case m3 => have := HA.out; have := H6.out; omega
        case m4 => have := HB.out.size; simp; omega
        case m5 =>
          intro v' wf ho hg _
          have OF := Lib.hid (show wf.ownsRow w1.heap.size 63 3 v' (acc ++ [(⟨0, [], l.length⟩ : Tok)]).length ((acc ++ [(⟨0, [], l.length⟩ : Tok)]).flatMap tokC) from by rw [List.length_append, List.flatMap_append]; exact ho)
          have BF := Lib.hid (Below.grown (HB.out.alloc HB.out.size _) hg (Nat.le_trans HB.out.size (by simp)) (fun j hj => (HO.out.lt j hj).1))
          clear ho hg HNR HO HB
          go_wp2
          go_ret3
          exact ⟨v', by rw [HF.out]; rfl, by rw [HF.out]; exact OF.out, BF.out⟩
end Go.Proofs.YtkakbidllpjopaaGreatDoor.Lx
namespace Go.Proofs.YtkakbidllpjopaaGreatDoor
open Go.RowKit

/-- A token without its place. -/
def tkq (t : Lx.Tok) : Tk := (t.kind, t.text)
/-- The tokens end with an end token. -/
def Ends : List Tk → Prop
  | [] => False
  | [t] => t.1 = 0
  | _ :: u :: r => Ends (u :: r)
theorem Ends.tail {R : List Tk} (h : Ends R) (hk : kindT R ≠ 0) : Ends R.tail := by
  match R, h, hk with
  | [t], h, hk => exact absurd h hk
  | _ :: u :: r, h, _ => exact h
theorem Ends.ne {R : List Tk} (h : Ends R) : R ≠ [] := by rintro rfl; exact h
theorem isT_kind {s : Str} {R : List Tk} (h : isT s R = true) : kindT R = 3 ∨ kindT R = 4 := by
  cases R with
  | nil => cases h
  | cons t r =>
    unfold isT at h
    simp only [Bool.and_eq_true, Bool.or_eq_true, beq_iff_eq] at h
    exact h.1
/-- What is known of the lexer's tokens. -/
structure Lok (L : List Lx.Tok) : Prop where
  num : ∀ t ∈ L, t.kind = 2 → Lx.numE t.text = 0 ∧ t.text ≠ []
  len : L.length ≤ 70000
  txt : ∀ t ∈ L, t.text.length ≤ 65536
/-- strconv's variable for a wrong text. -/
def ES (g : Nat) (w : World) : Prop := 4 ≠ g ∧ ∃ ev, w.cell? ⟨4, 0, none⟩ = some ev ∧ (ev = .nilIface ∨ ∃ te pe, ev = .iface te pe)
theorem ES.keep {g : Nat} {w w' : World} (h : ES g w) (hk : ∀ b, b < w.heap.size → b ≠ g → w'.heap[b]? = w.heap[b]?) : ES g w' := by
  obtain ⟨h1, ev, h2, h3⟩ := h
  exact ⟨h1, ev, (World.cell?_of_block (a := ⟨4, 0, none⟩) (hk _ (World.block_lt_of_cell? _ _ h2) h1)).trans h2, h3⟩
/-- The parser at block g: its tokens L lie at A; it stands before the tokens R. -/
structure PS (L : List Lx.Tok) (A : Option Addr) (n c g : Nat) (w : World) (i : Nat) (bad : Bool) (R : List Tk) : Prop where
  ok : Lok L
  len : n = L.length
  cap : n ≤ c
  row : ∃ b q, A = some ⟨b, q, none⟩ ∧ b < w.heap.size ∧ b ≠ g ∧ ∀ (j : Nat) (t : Lx.Tok), L[j]? = some t → w.rangeAt b (q + j * 3) [.int .i64 t.kind, .string (bs t.text), .int .i64 t.off]
  st : w.heap[g]? = some (.cells #[.slice A n c, .int .i64 i, .bool bad] 117 (0, 0))
  at_ : (L.map tkq).drop i = R
  ends : Ends R
  es : ES g w
section
variable {L : List Lx.Tok} {A : Option Addr} {n c g : Nat} {w w' : World} {i : Nat} {bad : Bool} {R : List Tk}
theorem PS.lt (h : PS L A n c g w i bad R) : g < w.heap.size := lt_of_block h.st
theorem PS.next (h : PS L A n c g w i bad R) (hb : Below w.heap.size w w') : PS L A n c g w' i bad R := by
  obtain ⟨b, q, e, h1, h2, h3⟩ := h.row
  exact ⟨h.ok, h.len, h.cap, ⟨b, q, e, Nat.lt_of_lt_of_le h1 hb.size, h2, fun j t ht => rangeAt_keep (h3 j t ht) (hb.block b h1)⟩, (hb.block g h.lt).trans h.st, h.at_, h.ends, h.es.keep fun b hb' _ => hb.block b hb'⟩
theorem PS.cells (h : PS L A n c g w i bad R) : w.cell? ⟨g, 0, none⟩ = some (.slice A n c) ∧ w.cell? ⟨g, 1, none⟩ = some (.int .i64 i) ∧ w.cell? ⟨g, 2, none⟩ = some (.bool bad) :=
  ⟨by rw [cell_of_row _ _ _ _ _ _ h.st]; rfl, by rw [cell_of_row _ _ _ _ _ _ h.st]; rfl, by rw [cell_of_row _ _ _ _ _ _ h.st]; rfl⟩
theorem PS.free (h : PS L A n c g w i bad R) (j : Nat) : w.frozen? ⟨g, j, none⟩ = false := by simp [World.frozen?, h.st]
/-- The token before which the parser stands. -/
theorem PS.tok (h : PS L A n c g w i bad R) : ∃ t b q, L[i]? = some t ∧ A = some ⟨b, q, none⟩ ∧ i < n ∧ t ∈ L ∧ (∃ T, R = tkq t :: T) ∧ b ≠ g ∧ b < w.heap.size ∧ w.rangeAt b (q + i * 3) [.int .i64 t.kind, .string (bs t.text), .int .i64 t.off] := by
  obtain ⟨b, q, e, h1, h2, h3⟩ := h.row
  have hn := h.ends.ne
  have hi : i < L.length := by
    rcases Nat.lt_or_ge i L.length with h0 | h0
    · exact h0
    · exfalso
      apply hn
      rw [← h.at_]
      exact List.drop_of_length_le (by rw [List.length_map]; exact h0)
  refine ⟨L[i], b, q, List.getElem?_eq_getElem hi, e, by rw [h.len]; exact hi, List.getElem_mem hi, ⟨(L.map tkq).drop (i + 1), ?_⟩, h2, h1, h3 i _ (List.getElem?_eq_getElem hi)⟩
  rw [← h.at_, List.drop_eq_getElem_cons (by rw [List.length_map]; exact hi)]
  congr 1
  exact List.getElem_map ..
theorem PS.lim (h : PS L A n c g w i bad R) : i < 70000 := by
  obtain ⟨t, b, q, h1, _⟩ := h.tok
  have := (List.getElem?_eq_some_iff.1 h1).1
  have := h.ok.len
  omega
theorem PS.set1 (h : PS L A n c g w i bad R) (hk : kindT R ≠ 0) : PS L A n c g (w.setCell ⟨g, 1, none⟩ (.int .i64 ((i : Int) + 1))) (i + 1) bad R.tail := by
  obtain ⟨b, q, e, h1, h2, h3⟩ := h.row
  refine ⟨h.ok, h.len, h.cap, ⟨b, q, e, by simpa using h1, h2, fun j t ht => rangeAt_keep (h3 j t ht) (Below.heap_setCell _ _ _ b (fun e => h2 (by first | exact e | exact e.symm)))⟩, ?_, ?_, h.ends.tail hk, h.es.keep fun b _ hg => Below.heap_setCell _ _ _ b (fun e => hg (by first | exact e | exact e.symm))⟩
  · rw [setCell_eq_setRow w g 1 _ _ _ _ h.st]
    exact setRow_heap _ _ _ _ _ _ h.st
  · rw [← h.at_, List.tail_drop]
theorem PS.set2 (h : PS L A n c g w i bad R) : PS L A n c g (w.setCell ⟨g, 2, none⟩ (.bool true)) i true R := by
  obtain ⟨b, q, e, h1, h2, h3⟩ := h.row
  refine ⟨h.ok, h.len, h.cap, ⟨b, q, e, by simpa using h1, h2, fun j t ht => rangeAt_keep (h3 j t ht) (Below.heap_setCell _ _ _ b (fun e => h2 (by first | exact e | exact e.symm)))⟩, ?_, h.at_, h.ends, h.es.keep fun b _ hg => Below.heap_setCell _ _ _ b (fun e => hg (by first | exact e | exact e.symm))⟩
  rw [setCell_eq_setRow w g 2 _ _ _ _ h.st]
  exact setRow_heap _ _ _ _ _ _ h.st
theorem gr_put (W : World) (b j : Nat) (v : Value) : W.grownBy (W.setCell ⟨b, j, none⟩ v) (some b) :=
  ⟨rfl, rfl, rfl, by simp, fun k hk hne => Below.heap_setCell _ _ _ k (fun e => hne (by rw [e]))⟩
end
/-- The state, the index hidden. -/
def PSx (L : List Lx.Tok) (A : Option Addr) (n c g : Nat) (w : World) (bad : Bool) (R : List Tk) : Prop := ∃ i, PS L A n c g w i bad R
section
variable {L : List Lx.Tok} {A : Option Addr} {n c g : Nat} {w w' : World} {bad : Bool} {R : List Tk}
theorem PSx.next (h : PSx L A n c g w bad R) (hb : Below w.heap.size w w') : PSx L A n c g w' bad R := by obtain ⟨i, h⟩ := h; exact ⟨i, h.next hb⟩
theorem PSx.lt (h : PSx L A n c g w bad R) : g < w.heap.size := by obtain ⟨i, h⟩ := h; exact h.lt
theorem PSx.ends (h : PSx L A n c g w bad R) : Ends R := by obtain ⟨i, h⟩ := h; exact h.ends
/-- Where the token lies before which the parser stands. -/
def offAt (L : List Lx.Tok) (R : List Tk) : Int := ((L.getD (L.length - R.length) ⟨0, [], 0⟩).off : Int)
theorem PS.offAt {i : Nat} {t : Lx.Tok} (h : PS L A n c g w i bad R) (ht : L[i]? = some t) : (t.off : Int) = offAt L R := by
  have hi := (List.getElem?_eq_some_iff.1 ht).1
  unfold Proofs.YtkakbidllpjopaaGreatDoor.offAt
  have hl : R.length = L.length - i := by rw [← h.at_, List.length_drop, List.length_map]
  rw [show L.length - R.length = i by omega, List.getD_eq_getElem?_getD, ht]
  rfl
end
set_option maxRecDepth 100000 in
set_option maxHeartbeats 12800000 in
theorem now_any (L : List Lx.Tok) (A : Option Addr) (n c g : Nat) (w : World) (bad : Bool) (R : List Tk) (h : PSx L A n c g w bad R) :
    Calls Tryz.prog 48 #[.pointer (some ⟨g, 0, none⟩)] w fun e w' => e = .returned (.agg #[.int .i64 (kindT R), .string (bs (textT R)), .int .i64 (offAt L R)]) ∧ Below w.heap.size w w' := by
  obtain ⟨i, h⟩ := h
  obtain ⟨t, b, q, h1, rfl, h2, h3, ⟨T, rfl⟩, h5, h6, h7⟩ := h.tok
  have HO := Lib.hid (h.offAt h1)
  obtain ⟨ofs, hofs⟩ : ∃ z : Int, z = offAt L (tkq t :: T) := ⟨_, rfl⟩
  rw [← hofs] at HO ⊢
  show Calls _ _ _ _ fun e w' => e = .returned (.agg #[.int .i64 t.kind, .string (bs t.text), .int .i64 ofs]) ∧ _
  clear hofs
  obtain ⟨tk, tx, tof⟩ := t
  have ho : (tof : Int) = ofs := HO.out
  dsimp only at h7 ⊢
  rw [ho] at h7
  clear ho HO
  have hi2 : (i : Int) < (n : Int) := by omega
  have hb0 : Below w.heap.size w (w.alloc (.cells #[.int .i64 0, .string { data := #[] }, .int .i64 0] 63)) := (Below.refl w.heap.size w).alloc (Nat.le_refl _) _
  have h8 := h.next hb0
  obtain ⟨c0, c1, c2⟩ := (h8.next (Below.refl _ _).drew).cells
  have hr := rangeAt_keep h7 (w' := (w.alloc (.cells #[.int .i64 0, .string { data := #[] }, .int .i64 0] 63)).drew) (hb0.block b h6)
  have r0 : (w.alloc (.cells #[.int .i64 0, .string { data := #[] }, .int .i64 0] 63)).drew.cell? ⟨b, q + i * 3, none⟩ = some (.int .i64 tk) := hr 0 _ rfl
  have r1 : (w.alloc (.cells #[.int .i64 0, .string { data := #[] }, .int .i64 0] 63)).drew.cell? ⟨b, q + i * 3 + 1, none⟩ = some (.string (bs tx)) := hr 1 _ rfl
  have r2 : (w.alloc (.cells #[.int .i64 0, .string { data := #[] }, .int .i64 0] 63)).drew.cell? ⟨b, q + i * 3 + 2, none⟩ = some (.int .i64 ofs) := hr 2 _ rfl
  have HB := Lib.hid hb0
  clear h h1 h2 h3 h5 h6 h7 h8 hr hb0
  go_enter Tryz.func48, Tryz.ntmps48
  go_upto_region 1 with fail
  go_region
  go_wp2
  have HZ := heap_alloc_new w (.cells #[.int .i64 tk, .string (bs tx), .int .i64 ofs] 63)
  have HZ0 : (w.alloc (.cells #[.int .i64 tk, .string (bs tx), .int .i64 ofs] 63)).drew.cell? ⟨w.heap.size, 0, none⟩ = some (.int .i64 tk) := (cell_of_row (w.alloc (.cells #[.int .i64 tk, .string (bs tx), .int .i64 ofs] 63)) _ _ _ _ _ HZ).trans rfl
  refine bodyPost_ret (results_cell_row rfl _ _ w.heap.size _ _ _ _ rfl HZ Tryz.underlying63 rfl (by first | rfl | kernel_rfl)) rfl ⟨rfl, ((Below.refl _ _).alloc (Nat.le_refl _) _).drew⟩
@[go_sem] theorem fld0 (a : Int) (s : ByteArray) (o : Int) (w : World) : (Instr.field 63 (.agg #[.int .i64 a, .string s, .int .i64 o]) 0).run Tryz.prog w = .ok (.int .i64 a) w := by kernel_rfl
@[go_sem] theorem fld1 (a : Int) (s : ByteArray) (o : Int) (w : World) : (Instr.field 63 (.agg #[.int .i64 a, .string s, .int .i64 o]) 1).run Tryz.prog w = .ok (.string s) w := by kernel_rfl
@[go_sem] theorem fld2 (a : Int) (s : ByteArray) (o : Int) (w : World) : (Instr.field 63 (.agg #[.int .i64 a, .string s, .int .i64 o]) 2).run Tryz.prog w = .ok (.int .i64 o) w := by kernel_rfl
end Go.Proofs.YtkakbidllpjopaaGreatDoor
namespace Go.Proofs.YtkakbidllpjopaaGreatDoor
open Go.RowKit

/-- Whether a sign or keyword is taken. -/
def tk (bad : Bool) (s : Str) (R : List Tk) : Bool := !bad && isT s R
theorem isT_eq (s : Str) {R : List Tk} (h : R ≠ []) : isT s R = ((kindT R == 3 || kindT R == 4) && textT R == s) := by
  cases R with
  | nil => exact absurd rfl h
  | cons t r => rfl
set_option maxRecDepth 100000 in
set_option maxHeartbeats 12800000 in
theorem is_any (L : List Lx.Tok) (A : Option Addr) (n c g : Nat) (w : World) (bad : Bool) (R : List Tk) (h : PSx L A n c g w bad R) (s : Str) :
    Calls Tryz.prog 87 #[.pointer (some ⟨g, 0, none⟩), .string (bs s)] w fun e w' => e = .returned (.bool (tk bad s R)) ∧ Below w.heap.size w w' := by
  have K := Lib.hid (now_any L A n c g w bad R h)
  have hne := h.ends.ne
  have HE := Lib.hid (show tk bad s R = (!bad && ((kindT R == 3 || kindT R == 4) && textT R == s)) by unfold tk; rw [isT_eq s hne])
  have HT := Lib.hid (bs_toList (textT R))
  have HS := Lib.hid (bs_toList s)
  obtain ⟨i, hi⟩ := h
  have HP := Lib.hid hi
  generalize tk bad s R = T at *
  generalize offAt L R = ofs at *
  have HBT := Lib.hid (show (bs (textT R)).toList = textT R from bs_toList _)
  generalize hkk : kindT R = kk at *
  generalize htt : textT R = tt at *
  clear hi hne
  go_enter Tryz.func87, Tryz.ntmps87
  go_wp2_with fail
  refine K.out.mono ?_
  rintro e w1 ⟨rfl, hb⟩
  have h1 := HP.out.next (hb.alloc hb.size (.cells #[.int .i64 kk, .string (bs tt), .int .i64 ofs] 63))
  have HB := Lib.hid (hb.alloc hb.size (.cells #[.int .i64 kk, .string (bs tt), .int .i64 ofs] 63))
  obtain ⟨c0, c1, c2⟩ := h1.cells
  clear K h1 hb hkk htt HP
  cases bad with
  | true =>
    obtain rfl : T = false := HE.out
    go_wp2
    go_ret
    exact ⟨rfl, HB.out⟩
  | false =>
    by_cases h3 : kk = 3
    · subst h3
      by_cases ht : tt = s
      · subst ht
        obtain rfl : T = true := HE.out.trans (by simp)
        have q : ((bs tt).toList == (bs tt).toList) = true := beq_self_eq_true _
        go_wp2
        go_ret
        exact ⟨rfl, HB.out⟩
      · obtain rfl : T = false := HE.out.trans (by simp [ht])
        have q : ((bs tt).toList == (bs s).toList) = false := by rw [HBT.out, HS.out]; simp [ht]
        have q2 : ¬ (bs tt).toList = (bs s).toList := by rw [HBT.out, HS.out]; exact ht
        go_wp2
        go_ret
        exact ⟨rfl, HB.out⟩
    · have h31 : (kk == 3) = false := by simp [h3]
      by_cases h4 : kk = 4
      · subst h4
        by_cases ht : tt = s
        · subst ht
          obtain rfl : T = true := HE.out.trans (by simp)
          have q : ((bs tt).toList == (bs tt).toList) = true := beq_self_eq_true _
          go_wp2
          go_ret
          exact ⟨rfl, HB.out⟩
        · obtain rfl : T = false := HE.out.trans (by simp [ht])
          have q : ((bs tt).toList == (bs s).toList) = false := by rw [HBT.out, HS.out]; simp [ht]
          have q2 : ¬ (bs tt).toList = (bs s).toList := by rw [HBT.out, HS.out]; exact ht
          go_wp2
          go_ret
          exact ⟨rfl, HB.out⟩
      · have h41 : (kk == 4) = false := by simp [h4]
        obtain rfl : T = false := HE.out.trans (by simp [h31, h41])
        go_wp2
        go_ret
        exact ⟨rfl, HB.out⟩
/-- The tokens behind a taking. -/
def tkR (bad : Bool) (s : Str) (R : List Tk) : List Tk := if tk bad s R = true then R.tail else R
theorem tk_kind {bad : Bool} {s : Str} {R : List Tk} (h : tk bad s R = true) : kindT R ≠ 0 := by
  unfold tk at h
  simp only [Bool.and_eq_true] at h
  rcases isT_kind h.2 with e | e <;> rw [e] <;> decide
set_option maxRecDepth 100000 in
set_option maxHeartbeats 12800000 in
theorem take_any (L : List Lx.Tok) (A : Option Addr) (n c g : Nat) (w : World) (bad : Bool) (R : List Tk) (h : PSx L A n c g w bad R) (s : Str) :
    Calls Tryz.prog 53 #[.pointer (some ⟨g, 0, none⟩), .string (bs s)] w fun e w' => e = .returned (.bool (tk bad s R)) ∧ PSx L A n c g w' bad (tkR bad s R) ∧ w.grownBy w' (some g) := by
  have K := Lib.hid (is_any L A n c g w bad R h s)
  have HK := Lib.hid (show tk bad s R = true → kindT R ≠ 0 from tk_kind)
  obtain ⟨i, hi⟩ := h
  have HP := Lib.hid hi
  have HR := Lib.hid (show tkR bad s R = if tk bad s R = true then R.tail else R from rfl)
  have hl := hi.lim
  have hw1 : IntKind.i64.wrap ((i : Int) + 1) = (i : Int) + 1 := by simp [IntKind.wrap, IntKind.bits, IntKind.signed]; omega
  generalize tkR bad s R = R' at *
  generalize tk bad s R = T at *
  clear hi hl
  go_enter Tryz.func53, Tryz.ntmps53
  go_wp2_with fail
  refine K.out.mono ?_
  rintro e w1 ⟨rfl, hb⟩
  have HP1 := Lib.hid (HP.out.next hb)
  have HG := Lib.hid (Below.grown_ hb (some g))
  clear K hb HP
  cases T with
  | false =>
    obtain rfl : R' = R := HR.out
    go_wp2
    go_ret
    exact ⟨rfl, ⟨_, HP1.out⟩, HG.out⟩
  | true =>
    obtain rfl : R' = R.tail := HR.out
    obtain ⟨c0, c1, c2⟩ := HP1.out.cells
    have hf := HP1.out.free 1
    have H2 := Lib.hid (HP1.out.set1 (HK.out rfl))
    go_wp2
    go_ret
    exact ⟨rfl, ⟨_, H2.out⟩, World.grownBy.trans HG.out (gr_put _ _ _ _)⟩
set_option maxRecDepth 100000 in
set_option maxHeartbeats 12800000 in
theorem need_any (L : List Lx.Tok) (A : Option Addr) (n c g : Nat) (w : World) (bad : Bool) (R : List Tk) (h : PSx L A n c g w bad R) (s : Str) (q : Nat) (hq : q < w.heap.size) (hqg : q ≠ g) (hc : w.cell? ⟨q, 0, none⟩ = some (.string (bs s))) :
    Calls Tryz.prog 55 #[.pointer (some ⟨g, 0, none⟩), .slice (some ⟨q, 0, none⟩) 1 1] w fun e w' => e = .returned (.tuple #[]) ∧ PSx L A n c g w' (bad || !isT s R) (tkR bad s R) ∧ w.grownBy w' (some g) := by
  have K := Lib.hid (take_any L A n c g w bad R h s)
  have HB := Lib.hid (show tk bad s R = false → (bad || !isT s R) = true from fun e => by
    unfold tk at e
    cases bad <;> simp_all)
  have HB2 := Lib.hid (show tk bad s R = true → (bad || !isT s R) = bad from fun e => by
    unfold tk at e
    cases bad <;> simp_all)
  generalize (bad || !isT s R) = b2 at *
  generalize tkR bad s R = R' at *
  generalize tk bad s R = T at *
  have hb0 : w.grownBy w (some g) := World.grownBy.refl _ _
  clear h
  go_enter Tryz.func55, Tryz.ntmps55
  go_wp2_with fail
  go_loopw [8] (fun i wr => (i = .int .i64 0 ∧ wr = w) ∨ (i = .int .i64 1 ∧ T = true ∧ PSx L A n c g wr b2 R' ∧ w.grownBy wr (some g))) (fun i _ => 1 - (intOf i).toNat)
  case atStart => exact .inl ⟨rfl, rfl⟩
  case round =>
    rcases hrel with ⟨rfl, rfl⟩ | ⟨rfl, hT, hP, hg⟩
    · go_wp2_with fail
      refine K.out.mono ?_
      rintro e w1 ⟨rfl, hP, hg⟩
      have HP := Lib.hid hP
      have HG := Lib.hid hg
      clear hc hP hg K
      cases T with
      | true =>
        obtain rfl : b2 = bad := HB2.out rfl
        go_wp2
        go_roundw
        case rel => exact .inr ⟨by first | rfl | trivial, by first | rfl | trivial, HP.out, HG.out⟩
        case measure => simp [intOf]
      | false =>
        obtain rfl : b2 = true := HB.out rfl
        obtain ⟨i, hP⟩ := HP.out
        have HP2 := Lib.hid hP.set2
        obtain ⟨c0, c1, c2⟩ := hP.cells
        have hf := hP.free 2
        clear hP HP
        go_wp2
        (try simp only [Exit.inBlock, Exit.then])
        refine bodyPost_ret (results_none rfl _ _ _) rfl ?_
        exact ⟨rfl, ⟨_, HP2.out⟩, World.grownBy.trans HG.out (gr_put _ _ _ _)⟩
    · have HP := Lib.hid hP
      have HG := Lib.hid hg
      clear hP hg
      go_wp2
      go_end0
      exact ⟨rfl, HP.out, HG.out⟩
/-- What word answers: a text; whether it fails; the tokens behind. -/
def wdS (bad : Bool) (k : Int) (R : List Tk) : Str := if bad = true ∨ kindT R ≠ k then [] else textT R
def wdB (bad : Bool) (k : Int) (R : List Tk) : Bool := bad || !(kindT R == k)
def wdR (bad : Bool) (k : Int) (R : List Tk) : List Tk := if bad = true ∨ kindT R ≠ k then R else R.tail
set_option maxRecDepth 100000 in
set_option maxHeartbeats 12800000 in
theorem word_any (L : List Lx.Tok) (A : Option Addr) (n c g : Nat) (w : World) (bad : Bool) (R : List Tk) (h : PSx L A n c g w bad R) (k : Int) (hk0 : k ≠ 0) :
    Calls Tryz.prog 88 #[.pointer (some ⟨g, 0, none⟩), .int .i64 k] w fun e w' => e = .returned (.string (bs (wdS bad k R))) ∧ PSx L A n c g w' (wdB bad k R) (wdR bad k R) ∧ w.grownBy w' (some g) := by
  have K := Lib.hid (show ∀ W, Below w.heap.size w W → _ from fun W hb => now_any L A n c g W bad R (h.next hb))
  obtain ⟨i, hi⟩ := h
  have HP := Lib.hid (show ∀ W, Below w.heap.size w W → PS L A n c g W i bad R from fun W hb => hi.next hb)
  have hl := hi.lim
  have hw1 : IntKind.i64.wrap ((i : Int) + 1) = (i : Int) + 1 := by simp [IntKind.wrap, IntKind.bits, IntKind.signed]; omega
  obtain ⟨c0, c1, c2⟩ := hi.cells
  have hf := hi.free 2
  have HK0 := Lib.hid hk0
  clear hi hl hk0
  cases bad with
  | true =>
    have HP2 := Lib.hid (HP.out w (Below.refl _ _)).set2
    have e1 : wdS true k R = [] := if_pos (.inl rfl)
    have e2 : wdB true k R = true := rfl
    have e3 : wdR true k R = R := if_pos (.inl rfl)
    rw [e1, e2, e3]
    clear K HP e1 e2 e3
    go_enter Tryz.func88, Tryz.ntmps88
    go_wp2
    go_ret
    exact ⟨rfl, ⟨_, HP2.out⟩, gr_put _ _ _ _⟩
  | false =>
    generalize hofs : offAt L R = ofs at *
    by_cases hk : kindT R = k
    · have e1 : wdS false k R = textT R := if_neg (by rintro (h | h); cases h; exact h hk)
      have e2 : wdB false k R = false := by simp [wdB, hk]
      have e3 : wdR false k R = R.tail := if_neg (by rintro (h | h); cases h; exact h hk)
      rw [e1, e2, e3]
      have HKR := Lib.hid (show kindT R ≠ 0 by rw [hk]; exact HK0.out)
      rw [hk] at K
      generalize textT R = tt at *
      have hkk : (k == k) = true := beq_self_eq_true k
      have hkk2 : (k != k) = false := by simp
      clear e1 e2 e3 hk hofs
      go_enter Tryz.func88, Tryz.ntmps88
      go_wp2_with fail
      refine (K.out w (Below.refl _ _)).mono ?_
      rintro e w1 ⟨rfl, hb⟩
      have HB1 := Lib.hid hb
      clear hb
      go_wp2_with fail
      refine (K.out w1 HB1.out).mono ?_
      rintro e w2 ⟨rfl, hb⟩
      have HB2 := Lib.hid (HB1.out.trans (hb.mono HB1.out.size))
      clear hb c0 c1 c2 hf
      have h2 := HP.out w2 HB2.out
      obtain ⟨c0, c1, c2⟩ := h2.cells
      have hf := h2.free 1
      have H3 := Lib.hid (h2.set1 HKR.out)
      clear h2 K HP
      go_wp2
      go_ret
      exact ⟨rfl, ⟨_, H3.out⟩, World.grownBy.trans (Below.grown_ HB2.out _) (gr_put _ _ _ _)⟩
    · have e1 : wdS false k R = [] := if_pos (.inr hk)
      have e2 : wdB false k R = true := by simp [wdB, hk]
      have e3 : wdR false k R = R := if_pos (.inr hk)
      rw [e1, e2, e3]
      have hkk : (kindT R != k) = true := by simp [hk]
      generalize textT R = tt at *
      generalize kindT R = kk at *
      clear e1 e2 e3 hk hofs hf
      go_enter Tryz.func88, Tryz.ntmps88
      go_wp2_with fail
      refine (K.out w (Below.refl _ _)).mono ?_
      rintro e w1 ⟨rfl, hb⟩
      have h2 := HP.out w1 hb
      have HB2 := Lib.hid hb
      clear c0 c1 c2
      obtain ⟨c0, c1, c2⟩ := h2.cells
      have hf := h2.free 2
      have H3 := Lib.hid h2.set2
      clear h2 K HP hb
      go_wp2
      go_ret
      exact ⟨rfl, ⟨_, H3.out⟩, World.grownBy.trans (Below.grown_ HB2.out _) (gr_put _ _ _ _)⟩
set_option maxRecDepth 100000 in
set_option maxHeartbeats 12800000 in
theorem name_any (L : List Lx.Tok) (A : Option Addr) (n c g : Nat) (w : World) (bad : Bool) (R : List Tk) (h : PSx L A n c g w bad R) :
    Calls Tryz.prog 54 #[.pointer (some ⟨g, 0, none⟩)] w fun e w' => e = .returned (.string (bs (wdS bad 1 R))) ∧ PSx L A n c g w' (wdB bad 1 R) (wdR bad 1 R) ∧ w.grownBy w' (some g) := by
  have K := Lib.hid (word_any L A n c g w bad R h 1 (by decide))
  clear h
  generalize wdS bad 1 R = s at *
  generalize wdB bad 1 R = b at *
  generalize wdR bad 1 R = R' at *
  go_enter Tryz.func54, Tryz.ntmps54
  go_wp2_with fail
  refine K.out.mono ?_
  rintro e w1 ⟨rfl, hP, hg⟩
  go_wp2
  go_ret
  exact ⟨rfl, hP, hg⟩
end Go.Proofs.YtkakbidllpjopaaGreatDoor
namespace Go.Proofs.YtkakbidllpjopaaGreatDoor
open Go.RowKit

/-- What number answers. -/
def nbV (bad : Bool) (R : List Tk) : Int := if bad = true ∨ kindT R ≠ 2 then 0 else numT (textT R)
theorem num_text {l : Str} (h : Lx.numE l = 0) (hne : l ≠ []) : Lib.parseIntB 64 l = .ok (numT l) := by
  unfold Lx.numE at h
  split at h
  · rename_i ha
    split at h
    · cases h
    · split at h
      · rename_i hm
        rw [Lx.parse_i l ha hne, if_pos hm]
        rfl
      · cases h
  · cases h
set_option maxRecDepth 100000 in
set_option maxHeartbeats 12800000 in
theorem number_any (L : List Lx.Tok) (A : Option Addr) (n c g : Nat) (w : World) (bad : Bool) (R : List Tk) (h : PSx L A n c g w bad R) :
    Calls Tryz.prog 115 #[.pointer (some ⟨g, 0, none⟩)] w fun e w' => e = .returned (.int .i64 (nbV bad R)) ∧ PSx L A n c g w' (wdB bad 2 R) (wdR bad 2 R) ∧ w.grownBy w' (some g) := by
  have K := Lib.hid (word_any L A n c g w bad R h 2 (by decide))
  have hx : (wdS bad 2 R = [] ∧ nbV bad R = 0) ∨ (Lib.parseIntB 64 (wdS bad 2 R) = .ok (nbV bad R) ∧ (wdS bad 2 R).length ≤ 65536) := by
    unfold wdS nbV
    by_cases hb : bad = true ∨ kindT R ≠ 2
    · rw [if_pos hb, if_pos hb]; exact .inl ⟨rfl, rfl⟩
    · rw [if_neg hb, if_neg hb]
      right
      obtain ⟨i, hi⟩ := h
      obtain ⟨t, b, q, h1, h2, h3, h4, ⟨T, rfl⟩, _⟩ := hi.tok
      have hk : t.kind = 2 := Classical.not_not.1 fun e => hb (.inr e)
      obtain ⟨e1, e2⟩ := hi.ok.num t h4 hk
      exact ⟨num_text e1 e2, hi.ok.txt t h4⟩
  have hes : ∀ w' b R', PSx L A n c g w' b R' → ES g w' := fun w' b R' h => by obtain ⟨i, h⟩ := h; exact h.es
  have HX := Lib.hid hx
  clear h hx
  generalize wdS bad 2 R = s at *
  generalize nbV bad R = v at *
  generalize wdB bad 2 R = b at *
  generalize wdR bad 2 R = R' at *
  go_enter Tryz.func115, Tryz.ntmps115
  go_wp2_with fail
  refine K.out.mono ?_
  rintro e w1 ⟨rfl, hP, hg⟩
  have HP := Lib.hid hP
  have HG := Lib.hid hg
  clear hP hg K
  rcases HX.out with ⟨rfl, rfl⟩ | ⟨hp, hl⟩
  · obtain ⟨_, ev, he1, he2⟩ := hes _ _ _ HP.out
    have HE2 := Lib.hid he2
    clear hes HX he2
    go_wp2_with fail
    refine (Tryz.strconv_ParseInt_10_at64_syntax (bs []) (by rw [bs_size]; decide) (by rw [bs_list]; rfl) ev _ he1 HE2.out).mono ?_
    rintro e w2 ⟨N, rfl, _, _, hb⟩
    have HP2 := Lib.hid (HP.out.next hb)
    have HG2 := Lib.hid (World.grownBy.trans HG.out (Below.grown_ hb (some g)))
    clear hb he1
    go_wp2
    go_ret
    exact ⟨rfl, HP2.out, HG2.out⟩
  · have HLN := Lib.hid (show (bs s).size ≤ 65536 by rw [bs_size]; exact hl)
    have HPI := Lib.hid (show Lib.parseIntB 64 (bs s).data.toList = .ok v by rw [bs_list]; exact hp)
    clear hes HX hp hl
    go_wp2_with fail
    refine (Tryz.strconv_ParseInt_10_at64_ok (bs s) (by have := HLN.out; omega) _ HPI.out _).mono ?_
    rintro e w2 ⟨rfl, hw⟩
    have hb : Below w1.heap.size w1 w2 := Lx.iter_or (Below.refl _ _) hw
    have HP2 := Lib.hid (HP.out.next hb)
    have HG2 := Lib.hid (World.grownBy.trans HG.out (Below.grown_ hb (some g)))
    clear hb hw
    go_wp2
    go_ret
    exact ⟨rfl, HP2.out, HG2.out⟩
end Go.Proofs.YtkakbidllpjopaaGreatDoor
