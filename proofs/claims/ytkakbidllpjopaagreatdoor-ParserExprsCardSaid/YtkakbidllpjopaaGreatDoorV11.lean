/- The walk of the reference's Scan in one contract: it answers what scanL says. Condition: at most 65536 bytes. The reference parser's tokens with three ends behind them; the walk of its Expr. No condition beyond 65536 bytes. The text form of syntax trees, in plain Lean; the shape of a valid expression. No condition. Contracts of Go's library at this translation, out of the kit's shelf. No condition beyond the contracts' own. The walks of Expr.operand and list (printed by wip/gensxq.py). Conditions: valid expressions; the library's tables are laid (SxW); at most 100000 parts. -/
import Derived.Test.YtkakbidllpjopaaGreatDoorV10
import Derived.Test.YtkakbidllpjopaaGreatDoorV07
import Derived.Test.YtkakbidllpjopaaGreatDoorV01
import Derived.Lib.ItoaLen
import Derived.Shelf.Strings.Builder1
import Derived.Shelf.Strings.Builder2
import Derived.Shelf.Strings.OnBuilder
import Derived.Shelf.Small.Wraps
import Derived.Shelf.Strings.BuilderF
import Derived.Shelf.Strings.BuilderK
import Derived.Shelf.Strings.Builder2Cap
import Derived.Shelf.Strconv.Itoa0
import Derived.Shelf.Strconv.Itoa1
import Derived.Shelf.LaysM
import Derived.Shelf.Strconv.Itoa2
import Derived.Shelf.Strconv.Itoa3
import Derived.Shelf.Strconv.Itoa4
import Derived.Shelf.Strings.Prefix
import Derived.Shelf.Bits.Mul64
import Derived.Shelf.Strings.Repeat
import Derived.Shelf.Strings.BuilderCap
import Derived.Shelf.Slices.Turned
import Derived.Shelf.Slices.Equal
import Derived.Ground.Names2Prog
import Derived.Shelf.Slices.Clone
import Derived.Shelf.Slices.Empties2
import Derived.Ground.SlgnProg
import Derived.Shelf.SlicesE.Clone
import Derived.Test.YtkakbidllpjopaaGreatDoorProg
import Derived.Laws.Concat
import Derived.Lib.AppendIntMem
set_option linter.unusedVariables false
set_option linter.unusedSimpArgs false
namespace Go.Proofs.YtkakbidllpjopaaGreatDoor.Lx
open Go.RowKit

theorem Tryz.info93 : (Tryz.prog.info? 93).map (fun i => (i.zero, i.size, i.bytes)) = some (some (.agg #[.int .i64 0, .string { data := #[] }, .int .i64 0]), 3, 32) := by kernel_rfl
theorem rkeys_at (w : World) : Calls Tryz.prog 63 #[] w fun e w' => ∃ g, e = .returned (.slice (some ⟨g, 0, none⟩) 14 14) ∧ w'.heap[g]? = some (.cells (strRow kws) 9 (0, 0)) ∧ Below w.heap.size w w' :=
 (rkeys_any w).mono fun e w' h => ⟨_, h.1, by rw [h.2]; exact heap_alloc_new _ _, by rw [h.2]; exact (Below.refl _ _).alloc (Nat.le_refl _) _⟩

set_option maxRecDepth 100000 in
set_option maxHeartbeats 12800000 in
theorem rscan_any (l : List UInt8) (w : World) (hl : l.length ≤ 65536) :
  Calls Tryz.prog 31 #[.string (bs l)] w fun e w' => ∃ v, e = .returned (.tuple #[v, .int .i64 ((scanL l).2.1 : Int), .int .i64 (scanL l).2.2]) ∧ w'.ownsRow w.heap.size 93 3 v (scanL l).1.length ((scanL l).1.flatMap tokC) ∧ Below w.heap.size w w' := by
 obtain ⟨ie, hie0, hie1, hie2, hie3⟩ := info_parts Tryz.info93
 have hsz := bs_size l
 have h6i : (l.length : Int) ≤ 65536 := by omega
 have H6 := Lib.hid hl
 have HS0 := Lib.hid (rf_start l)
 clear hl
 go_enter Tryz.func31, Tryz.ntmps31
 go_wp2
 go_loopw [5, 6] (fun v i wr => ∃ (k : Nat) (acc : List Tok), k ≤ l.length ∧ i = .int .i64 k ∧ Hid (RfI false l k acc) ∧ Hid (acc.length ≤ k) ∧ Hid (wr.ownsRow w.heap.size 93 3 v acc.length (acc.flatMap tokC)) ∧ Hid (Below w.heap.size w wr)) (fun _ i _ => l.length - (intOf i).toNat)
 case atStart => exact ⟨0, [], by omega, rfl, HS0, Lib.hid (by simp), Lib.hid (World.ownsRow_nil _ _ _ _), Lib.hid (Below.refl _ _)⟩
 case round =>
  clear HS0
  obtain ⟨k, acc, hk, rfl, HS, HA, HO, HB⟩ := hrel
  by_cases hlt : k < l.length
  ·skip
   have hi : (k : Int) < (l.length : Int) := by omega
   have hps : k < (bs l).size := hlt
   have HK := Lib.hid hlt
   have LWS := Lib.hid fun h => rf_ws HS.out hlt h
   have LHA := Lib.hid fun h => rf_hash HS.out hlt h
   have LTK := Lib.hid fun h h2 => rf_tok HS.out hlt h h2
   have LWO := Lib.hid fun (h0 : ScI l k acc) h => rf_word h0 hlt H6.out h
   have LSG := Lib.hid fun (h0 : ScI l k acc) h => rf_sign h0 hlt H6.out h
   have hge : ((bs l)[k]'hps).toNat = (l[k]'hlt).toNat := rfl
   generalize l[k]'hlt = b at *
   have hws := ws_nat b
   have h35 : b = 35 ↔ b.toNat = 35 := by rw [← UInt8.toNat_inj]; rfl
   by_cases hc : b.toNat = 32 ∨ b.toNat = 9 ∨ b.toNat = 10 ∨ b.toNat = 13
   ·have HF := Lib.hid (LWS.out (by rw [hws]; simpa [or_assoc] using hc))
    clear hws h35 HS LWS LHA LTK LWO LSG
    rcases hc with hc | hc | hc | hc
    all_goals (
     rw [hc] at hge
     clear hc hlt hk
     go_wp2
     go_roundw
     case rel => exact ⟨k + 1, acc, HK.out, by go_num, HF, Lib.hid (Nat.le_succ_of_le HA.out), HO, HB⟩
     case measure => exact meas_up _ _ HK.out)
   ·have hwf : wsB b = false := by
     rw [hws]
     simp only [not_or] at hc
     simp [hc.1, hc.2.1, hc.2.2.1, hc.2.2.2]
    simp only [not_or] at hc
    obtain ⟨n1, n2, n3, n4⟩ := hc
    by_cases h5 : b.toNat = 35
    ·have HF := Lib.hid (LHA.out (h35.2 h5))
     have HN10 := Lib.hid n3
     rw [h5] at hge
     have hge0 := Lib.hid (show (35 : Nat) = (l[k]'HK.out).toNat from hge.symm)
     clear LWS LHA LTK LWO LSG hws h35 h5 n1 n2 n3 n4 hwf HS hlt hk hi
     go_wp2
     go_loopw [6] (fun i wq => ∃ k2 : Nat, k ≤ k2 ∧ k2 ≤ l.length ∧ i = .int .i64 k2 ∧ Hid (RfI true l k2 acc) ∧ wq = wr) (fun i _ => l.length - (intOf i).toNat)
     case atStart => exact ⟨k, Nat.le_refl _, Nat.le_of_lt HK.out, rfl, HF, rfl⟩
     case round =>
      have HX10 := Lib.hid (show (l[k]'HK.out).toNat ≠ 10 from hge0.out ▸ (by decide : (35 : Nat) ≠ 10))
      clear HF hge hps hge0 HN10
      obtain ⟨k2, hkk, hk2, rfl, HC, rfl⟩ := hrel
      by_cases hlt2 : k2 < l.length
      ·have hi2 : (k2 : Int) < (l.length : Int) := by omega
       have hps2 : k2 < (bs l).size := hlt2
       have HK2 := Lib.hid hlt2
       have hge2 : ((bs l)[k2]'hps2).toNat = (l[k2]).toNat := rfl
       have h10 : l[k2] = 10 ↔ (l[k2]).toNat = 10 := by rw [← UInt8.toNat_inj]; rfl
       by_cases hc : (l[k2]).toNat = 10
       ·have HF := Lib.hid (rf_out HC.out hlt2 (h10.2 hc))
        have HKK := Lib.hid (show k < k2 from by
         rcases Nat.lt_or_eq_of_le hkk with h | h
         ·exact h
         ·subst h; exact absurd hc HX10.out)
        rw [hc] at hge2
        clear h10 hc HC HX10 hlt2 hk2 hkk
        go_wp2
        go_roundw
        case rel => exact ⟨k2, acc, Nat.le_of_lt HK2.out, by go_num, HF, Lib.hid (by have := HA.out; have := HKK.out; omega), HO, HB⟩
        case measure => have := HKK.out; have := HK.out; show l.length - (k2 : Int).toNat < l.length - (k : Int).toNat; omega
       ·have HF := Lib.hid (rf_in HC.out hlt2 (fun e => hc (h10.1 e)))
        have HKK := Lib.hid hkk
        generalize (l[k2]).toNat = c at *
        have hci : ¬ (c : Int) = 10 := by omega
        clear h10 hc HC HX10 hlt2 hk2 hkk
        go_wp2
        go_roundw
        case rel => exact ⟨k2 + 1, by have := HKK.out; omega, HK2.out, by go_num, HF, by first | rfl | trivial⟩
        case measure => exact meas_up _ _ HK2.out
      ·obtain rfl : k2 = l.length := by omega
       have HF := Lib.hid (rf_over HC.out)
       clear HC HX10 hlt2 hk2 hkk
       go_wp2
       go_roundw
       case rel => exact ⟨l.length, acc, Nat.le_refl _, by go_num, HF, Lib.hid (by have := HA.out; have := HK.out; omega), HO, HB⟩
       case measure => have := HK.out; show l.length - (l.length : Int).toNat < l.length - (k : Int).toNat; omega
    ·have HT := Lib.hid (LTK.out hwf (fun e => h5 (h35.1 e)))
     clear HS LWS LHA LTK
     have hne : ∀ v : Int, (v = 32 ∨ v = 9 ∨ v = 10 ∨ v = 13 ∨ v = 35) → ¬ (b.toNat : Int) = v := fun v hv => by omega
     have m1 := hne 32 (by decide)
     have m2 := hne 9 (by decide)
     have m3 := hne 10 (by decide)
     have m4 := hne 13 (by decide)
     have m5 := hne 35 (by decide)
     have f1 := beq_eq_false_iff_ne.2 m1
     have f2 := beq_eq_false_iff_ne.2 m2
     have f3 := beq_eq_false_iff_ne.2 m3
     have f4 := beq_eq_false_iff_ne.2 m4
     have f5 := beq_eq_false_iff_ne.2 m5
     clear hws h35 hwf hne n1 n2 n3 n4 h5 m1 m2 m3 m4 m5
     cases hp : partN b.toNat with
     | true =>
      obtain ⟨q1, q2, q3, q4, q5, q6, q7, q8⟩ := LWO.out HT.out hp
      have HWI := Lib.hid (show k + (word (l.drop k)).length = k + (word (l.drop k)).length from rfl)
      obtain ⟨k2', hk2'⟩ : ∃ k2', k2' = k + (word (l.drop k)).length := ⟨_, rfl⟩
      rw [← hk2'] at q2 q3 q4 q6 q7
      have HQ := Lib.hid hk2'
      have HM0 := Lib.hid (show k < k2' ∧ k2' ≤ l.length from ⟨by omega, q2⟩)
      have HNUM := Lib.hid q4
      have HBAD := Lib.hid q5
      have HKW := Lib.hid q6
      have HNAME := Lib.hid q7
      have HLONG := Lib.hid q8
      have HWL := Lib.hid (show (word (l.drop k)).length ≤ 65536 by have := H6.out; omega)
      have HWN := Lib.hid (show word (l.drop k) ≠ [] from fun e => by rw [e] at q1; simp at q1)
      have hext := q3
      have HP := Lib.hid (rpart_any b.toNat wr)
      rw [hp] at HP
      clear q1 q2 q3 q4 q5 q6 q7 q8 hk2' HT hp HWI hlt hk LWO LSG
      generalize b.toNat = c at *
      generalize hW : word (l.drop k) = W at *
      have HW0 := Lib.hid hW
      clear hW
      go_wp2_with fail
      refine HP.out.mono ?_
      rintro e w1 ⟨rfl, rfl⟩
      clear HP
      go_wp2
      go_loopw [8] (fun i wr => ∃ k3 : Nat, k ≤ k3 ∧ k3 ≤ l.length ∧ i = .int .i64 k3 ∧ Hid (k3 + (word (l.drop k3)).length = k2') ∧ wr = w1) (fun i _ => l.length - (intOf i).toNat)
      case atStart => exact ⟨k, Nat.le_refl _, Nat.le_of_lt HK.out, rfl, Lib.hid (by rw [HW0.out]; exact HQ.out.symm), rfl⟩
      case round =>
       obtain ⟨k3, hkk, hk3, rfl, HC, rfl⟩ := hrel
       by_cases hlt2 : k3 < l.length
       ·have hi2 : (k3 : Int) < (l.length : Int) := by omega
        have hps2 : k3 < (bs l).size := hlt2
        have HK2 := Lib.hid hlt2
        have hge2 : ((bs l)[k3]'hps2).toNat = (l[k3]).toNat := rfl
        have HP := Lib.hid fun W => (rpart_any (l[k3]).toNat W)
        cases hp : partN (l[k3]).toNat with
        | true =>
         have HC2 := Lib.hid (show k3 + 1 + (word (l.drop (k3 + 1))).length = k2' by have h1 := HC.out; have h2 := word_more hlt2 hp; omega)
         have HKK := Lib.hid hkk
         simp only [hp] at HP
         generalize (l[k3]).toNat = c2 at *
         clear hlt2 hk3 hkk HC hp
         go_wp2_with fail
         refine (HP.out _).mono ?_
         rintro e w2 ⟨rfl, rfl⟩
         go_wp2
         go_roundw
         case rel => exact ⟨k3 + 1, by have := HKK.out; omega, HK2.out, by go_num, HC2, by first | rfl | trivial⟩
         case measure => exact meas_up _ _ HK2.out
        | false =>
         have hrest : k3 = k2' := by have h1 := HC.out; rw [word_none hlt2 hp] at h1; simpa using h1
         simp only [hp] at HP
         generalize (l[k3]).toNat = c2 at *
         subst hrest
         have HM := HM0
         have hkk2 : (k : Int) ≤ (k3 : Int) := by omega
         clear hlt2 hkk HC hp hk3 HM0 HQ
         go_wp2_with fail
         refine (HP.out _).mono ?_
         rintro e w2 ⟨rfl, rfl⟩
         clear HP
         have hrest := hge2
         clear hrest
         have hWz : (bs W).size = W.length := bs_size W
         go_wp2_with fail
         refine (rdigit_any c _).mono ?_
         rintro e w1 ⟨rfl, rfl⟩
         cases hd : digN c with
         | true =>
          have HE := Lib.hid fun h => HNUM.out hd h
          have HX := Lib.hid fun h => HBAD.out hd h
          clear HNUM HBAD HKW HNAME HLONG hd
          go_wp2_with fail
          refine (rnumber_any W _ HWL.out HWN.out).mono ?_
          rintro e w2 ⟨rfl, rfl⟩
          generalize numE W = er at *
          by_cases he : er = 0
          ·subst he
           have HF := Lib.hid (HE.out rfl)
           clear HE HX
           have HNR := Lib.hid fun WW => (Reads.new (S := fun _ => True) (size := 3) (n := 1) WW #[.int .i64 2, .string (bs W), .int .i64 k] 93 rfl trivial)
           go_wp2_with (at_builtin; (refine wpList_append_any rfl (.tmp 87) (.tmp 92) 90 rfl w.heap.size 93 ie _ 3 32 Tryz.underlying90 hie0 hie1 hie2 hie3 rfl (by omega) u5 _ _ rfl (HO.out.alloc _) _ _ 1 1 _ rfl (HNR.out _) ?m1 ?m2 ?m3 ?m4 ?m5))
           case m1 => first | exact ⟨rfl, rfl, rfl⟩ | exact tokC_one ⟨2, W, k⟩
           case m2 => have := HA.out; have := H6.out; simp only [maxLen]; omega
           case m3 => have := HA.out; have := H6.out; omega
           case m4 => have := HB.out.size; simp; omega
           case m5 =>
            intro v' wf ho hg _
            have BF := Lib.hid (Below.grown (HB.out.alloc HB.out.size _) hg (Nat.le_trans HB.out.size (by simp)) (fun j hj => (HO.out.lt j hj).1))
            have OF := Lib.hid (show wf.ownsRow w.heap.size 93 3 v' (acc ++ [(⟨2, W, k⟩ : Tok)]).length ((acc ++ [(⟨2, W, k⟩ : Tok)]).flatMap tokC) from by rw [List.length_append, List.flatMap_append]; exact ho)
            clear ho hg HNR HO HB
            go_wp2
            go_roundw
            case rel => exact ⟨k3, acc ++ [⟨2, W, k⟩], HM.out.2, by go_num, HF, Lib.hid (by rw [List.length_append, List.length_singleton]; have := HA.out; have := HM.out.1; omega), OF, BF⟩
            case measure => have := HM.out; have := HK.out; show l.length - (k3 : Int).toNat < l.length - (k : Int).toNat; omega
          ·have HF := Lib.hid (HX.out he)
           have hne := beq_eq_false_iff_ne.2 he
           clear HE HX he
           go_wp2
           go_ret3
           exact ⟨.slice none 0 0, by rw [HF.out]; rfl, by rw [HF.out]; exact World.ownsRow_nil _ _ _ _, HB.out⟩
         | false =>
          have HE := Lib.hid fun h => HKW.out hd h
          have HX := Lib.hid fun h => HNAME.out hd h
          have HY := Lib.hid fun h => HLONG.out hd h
          clear HNUM HBAD HKW HNAME HLONG hd
          go_wp2_with fail
          refine (rkeys_at _).mono ?_
          rintro e w2 ⟨rb, rfl, hr, hb⟩
          have HR := Lib.hid hr
          have HB2 := Lib.hid (HB.out.trans (hb.mono HB.out.size))
          have HO2 := Lib.hid (own_below HO.out hb)
          clear hr hb HO HB
          go_wp2_with fail
          refine (rhas_any kws W rb 14 _ _ _ rfl (by decide) HR.out).mono ?_
          rintro e w3 ⟨rfl, rfl⟩
          clear HR
          cases hc : kws.contains W with
          | true =>
           have HF := Lib.hid (HE.out hc)
           clear HE HX HY hc
           have HNR := Lib.hid fun WW => (Reads.new (S := fun _ => True) (size := 3) (n := 1) WW #[.int .i64 4, .string (bs W), .int .i64 k] 93 rfl trivial)
           go_wp2_with (at_builtin; (refine wpList_append_any rfl (.tmp 87) (.tmp 92) 90 rfl w.heap.size 93 ie _ 3 32 Tryz.underlying90 hie0 hie1 hie2 hie3 rfl (by omega) u5 _ _ rfl (HO2.out.alloc _) _ _ 1 1 _ rfl (HNR.out _) ?m1 ?m2 ?m3 ?m4 ?m5))
           case m1 => first | exact ⟨rfl, rfl, rfl⟩ | exact tokC_one ⟨4, W, k⟩
           case m2 => have := HA.out; have := H6.out; simp only [maxLen]; omega
           case m3 => have := HA.out; have := H6.out; omega
           case m4 => have := HB2.out.size; simp; omega
           case m5 =>
            intro v' wf ho hg _
            have BF := Lib.hid (Below.grown (HB2.out.alloc HB2.out.size _) hg (Nat.le_trans HB2.out.size (by simp)) (fun j hj => (HO2.out.lt j hj).1))
            have OF := Lib.hid (show wf.ownsRow w.heap.size 93 3 v' (acc ++ [(⟨4, W, k⟩ : Tok)]).length ((acc ++ [(⟨4, W, k⟩ : Tok)]).flatMap tokC) from by rw [List.length_append, List.flatMap_append]; exact ho)
            clear ho hg HNR HO2 HB2
            go_wp2
            go_roundw
            case rel => exact ⟨k3, acc ++ [⟨4, W, k⟩], HM.out.2, by go_num, HF, Lib.hid (by rw [List.length_append, List.length_singleton]; have := HA.out; have := HM.out.1; omega), OF, BF⟩
            case measure => have := HM.out; have := HK.out; show l.length - (k3 : Int).toNat < l.length - (k : Int).toNat; omega
          | false =>
           by_cases hlong : 24 < W.length
           ·have HF := Lib.hid (HY.out hc hlong)
            have hli2 : (24 : Int) < (W.length : Int) := by omega
            clear HE HX HY hc hlong
            go_wp2
            go_ret3
            exact ⟨.slice none 0 0, by rw [HF.out]; rfl, by rw [HF.out]; exact World.ownsRow_nil _ _ _ _, HB2.out⟩
           ·have HF := Lib.hid (HX.out hc (by omega))
            have hli2 : ¬ (24 : Int) < (W.length : Int) := by omega
            clear HE HX HY hc hlong
            have HNR := Lib.hid fun WW => (Reads.new (S := fun _ => True) (size := 3) (n := 1) WW #[.int .i64 1, .string (bs W), .int .i64 k] 93 rfl trivial)
            go_wp2_with (at_builtin; (refine wpList_append_any rfl (.tmp 87) (.tmp 92) 90 rfl w.heap.size 93 ie _ 3 32 Tryz.underlying90 hie0 hie1 hie2 hie3 rfl (by omega) u5 _ _ rfl (HO2.out.alloc _) _ _ 1 1 _ rfl (HNR.out _) ?m1 ?m2 ?m3 ?m4 ?m5))
            case m1 => first | exact ⟨rfl, rfl, rfl⟩ | exact tokC_one ⟨1, W, k⟩
            case m2 => have := HA.out; have := H6.out; simp only [maxLen]; omega
            case m3 => have := HA.out; have := H6.out; omega
            case m4 => have := HB2.out.size; simp; omega
            case m5 =>
             intro v' wf ho hg _
             have BF := Lib.hid (Below.grown (HB2.out.alloc HB2.out.size _) hg (Nat.le_trans HB2.out.size (by simp)) (fun j hj => (HO2.out.lt j hj).1))
             have OF := Lib.hid (show wf.ownsRow w.heap.size 93 3 v' (acc ++ [(⟨1, W, k⟩ : Tok)]).length ((acc ++ [(⟨1, W, k⟩ : Tok)]).flatMap tokC) from by rw [List.length_append, List.flatMap_append]; exact ho)
             clear ho hg HNR HO2 HB2
             go_wp2
             go_roundw
             case rel => exact ⟨k3, acc ++ [⟨1, W, k⟩], HM.out.2, by go_num, HF, Lib.hid (by rw [List.length_append, List.length_singleton]; have := HA.out; have := HM.out.1; omega), OF, BF⟩
             case measure => have := HM.out; have := HK.out; show l.length - (k3 : Int).toNat < l.length - (k : Int).toNat; omega
       ·obtain rfl : k3 = l.length := by omega
        have hrest : l.length = k2' := by have h1 := HC.out; rw [List.drop_length] at h1; simpa [word] using h1
        subst hrest
        have HM := HM0
        have hkk2 : (k : Int) ≤ (l.length : Int) := by omega
        have hrest := hkk2
        clear hlt2 hkk HC hk3 HM0 HQ
        clear hrest
        have hWz : (bs W).size = W.length := bs_size W
        go_wp2_with fail
        refine (rdigit_any c _).mono ?_
        rintro e w1 ⟨rfl, rfl⟩
        cases hd : digN c with
        | true =>
         have HE := Lib.hid fun h => HNUM.out hd h
         have HX := Lib.hid fun h => HBAD.out hd h
         clear HNUM HBAD HKW HNAME HLONG hd
         go_wp2_with fail
         refine (rnumber_any W _ HWL.out HWN.out).mono ?_
         rintro e w2 ⟨rfl, rfl⟩
         generalize numE W = er at *
         by_cases he : er = 0
         ·subst he
          have HF := Lib.hid (HE.out rfl)
          clear HE HX
          have HNR := Lib.hid fun WW => (Reads.new (S := fun _ => True) (size := 3) (n := 1) WW #[.int .i64 2, .string (bs W), .int .i64 k] 93 rfl trivial)
          go_wp2_with (at_builtin; (refine wpList_append_any rfl (.tmp 87) (.tmp 92) 90 rfl w.heap.size 93 ie _ 3 32 Tryz.underlying90 hie0 hie1 hie2 hie3 rfl (by omega) u5 _ _ rfl (HO.out.alloc _) _ _ 1 1 _ rfl (HNR.out _) ?m1 ?m2 ?m3 ?m4 ?m5))
          case m1 => first | exact ⟨rfl, rfl, rfl⟩ | exact tokC_one ⟨2, W, k⟩
          case m2 => have := HA.out; have := H6.out; simp only [maxLen]; omega
          case m3 => have := HA.out; have := H6.out; omega
          case m4 => have := HB.out.size; simp; omega
          case m5 =>
           intro v' wf ho hg _
           have BF := Lib.hid (Below.grown (HB.out.alloc HB.out.size _) hg (Nat.le_trans HB.out.size (by simp)) (fun j hj => (HO.out.lt j hj).1))
           have OF := Lib.hid (show wf.ownsRow w.heap.size 93 3 v' (acc ++ [(⟨2, W, k⟩ : Tok)]).length ((acc ++ [(⟨2, W, k⟩ : Tok)]).flatMap tokC) from by rw [List.length_append, List.flatMap_append]; exact ho)
           clear ho hg HNR HO HB
           go_wp2
           go_roundw
           case rel => exact ⟨l.length, acc ++ [⟨2, W, k⟩], HM.out.2, by go_num, HF, Lib.hid (by rw [List.length_append, List.length_singleton]; have := HA.out; have := HM.out.1; omega), OF, BF⟩
           case measure => have := HM.out; have := HK.out; show l.length - (l.length : Int).toNat < l.length - (k : Int).toNat; omega
         ·have HF := Lib.hid (HX.out he)
          have hne := beq_eq_false_iff_ne.2 he
          clear HE HX he
          go_wp2
          go_ret3
          exact ⟨.slice none 0 0, by rw [HF.out]; rfl, by rw [HF.out]; exact World.ownsRow_nil _ _ _ _, HB.out⟩
        | false =>
         have HE := Lib.hid fun h => HKW.out hd h
         have HX := Lib.hid fun h => HNAME.out hd h
         have HY := Lib.hid fun h => HLONG.out hd h
         clear HNUM HBAD HKW HNAME HLONG hd
         go_wp2_with fail
         refine (rkeys_at _).mono ?_
         rintro e w2 ⟨rb, rfl, hr, hb⟩
         have HR := Lib.hid hr
         have HB2 := Lib.hid (HB.out.trans (hb.mono HB.out.size))
         have HO2 := Lib.hid (own_below HO.out hb)
         clear hr hb HO HB
         go_wp2_with fail
         refine (rhas_any kws W rb 14 _ _ _ rfl (by decide) HR.out).mono ?_
         rintro e w3 ⟨rfl, rfl⟩
         clear HR
         cases hc : kws.contains W with
         | true =>
          have HF := Lib.hid (HE.out hc)
          clear HE HX HY hc
          have HNR := Lib.hid fun WW => (Reads.new (S := fun _ => True) (size := 3) (n := 1) WW #[.int .i64 4, .string (bs W), .int .i64 k] 93 rfl trivial)
          go_wp2_with (at_builtin; (refine wpList_append_any rfl (.tmp 87) (.tmp 92) 90 rfl w.heap.size 93 ie _ 3 32 Tryz.underlying90 hie0 hie1 hie2 hie3 rfl (by omega) u5 _ _ rfl (HO2.out.alloc _) _ _ 1 1 _ rfl (HNR.out _) ?m1 ?m2 ?m3 ?m4 ?m5))
          case m1 => first | exact ⟨rfl, rfl, rfl⟩ | exact tokC_one ⟨4, W, k⟩
          case m2 => have := HA.out; have := H6.out; simp only [maxLen]; omega
          case m3 => have := HA.out; have := H6.out; omega
          case m4 => have := HB2.out.size; simp; omega
          case m5 =>
           intro v' wf ho hg _
           have BF := Lib.hid (Below.grown (HB2.out.alloc HB2.out.size _) hg (Nat.le_trans HB2.out.size (by simp)) (fun j hj => (HO2.out.lt j hj).1))
           have OF := Lib.hid (show wf.ownsRow w.heap.size 93 3 v' (acc ++ [(⟨4, W, k⟩ : Tok)]).length ((acc ++ [(⟨4, W, k⟩ : Tok)]).flatMap tokC) from by rw [List.length_append, List.flatMap_append]; exact ho)
           clear ho hg HNR HO2 HB2
           go_wp2
           go_roundw
           case rel => exact ⟨l.length, acc ++ [⟨4, W, k⟩], HM.out.2, by go_num, HF, Lib.hid (by rw [List.length_append, List.length_singleton]; have := HA.out; have := HM.out.1; omega), OF, BF⟩
           case measure => have := HM.out; have := HK.out; show l.length - (l.length : Int).toNat < l.length - (k : Int).toNat; omega
         | false =>
          by_cases hlong : 24 < W.length
          ·have HF := Lib.hid (HY.out hc hlong)
           have hli2 : (24 : Int) < (W.length : Int) := by omega
           clear HE HX HY hc hlong
           go_wp2
           go_ret3
           exact ⟨.slice none 0 0, by rw [HF.out]; rfl, by rw [HF.out]; exact World.ownsRow_nil _ _ _ _, HB2.out⟩
          ·have HF := Lib.hid (HX.out hc (by omega))
           have hli2 : ¬ (24 : Int) < (W.length : Int) := by omega
           clear HE HX HY hc hlong
           have HNR := Lib.hid fun WW => (Reads.new (S := fun _ => True) (size := 3) (n := 1) WW #[.int .i64 1, .string (bs W), .int .i64 k] 93 rfl trivial)
           go_wp2_with (at_builtin; (refine wpList_append_any rfl (.tmp 87) (.tmp 92) 90 rfl w.heap.size 93 ie _ 3 32 Tryz.underlying90 hie0 hie1 hie2 hie3 rfl (by omega) u5 _ _ rfl (HO2.out.alloc _) _ _ 1 1 _ rfl (HNR.out _) ?m1 ?m2 ?m3 ?m4 ?m5))
           case m1 => first | exact ⟨rfl, rfl, rfl⟩ | exact tokC_one ⟨1, W, k⟩
           case m2 => have := HA.out; have := H6.out; simp only [maxLen]; omega
           case m3 => have := HA.out; have := H6.out; omega
           case m4 => have := HB2.out.size; simp; omega
           case m5 =>
            intro v' wf ho hg _
            have BF := Lib.hid (Below.grown (HB2.out.alloc HB2.out.size _) hg (Nat.le_trans HB2.out.size (by simp)) (fun j hj => (HO2.out.lt j hj).1))
            have OF := Lib.hid (show wf.ownsRow w.heap.size 93 3 v' (acc ++ [(⟨1, W, k⟩ : Tok)]).length ((acc ++ [(⟨1, W, k⟩ : Tok)]).flatMap tokC) from by rw [List.length_append, List.flatMap_append]; exact ho)
            clear ho hg HNR HO2 HB2
            go_wp2
            go_roundw
            case rel => exact ⟨l.length, acc ++ [⟨1, W, k⟩], HM.out.2, by go_num, HF, Lib.hid (by rw [List.length_append, List.length_singleton]; have := HA.out; have := HM.out.1; omega), OF, BF⟩
            case measure => have := HM.out; have := HK.out; show l.length - (l.length : Int).toNat < l.length - (k : Int).toNat; omega
     | false =>
      have HSG := Lib.hid (LSG.out HT.out hp)
      have HP := Lib.hid (rpart_any b.toNat wr)
      rw [hp] at HP
      generalize b.toNat = c at *
      clear hp hlt hk HT LSG LWO
      go_wp2_with fail
      refine HP.out.mono ?_
      rintro e w1 ⟨rfl, rfl⟩
      clear HP
      have HRS := Lib.hid (rsign_any (l.drop k) w1 (by have := H6.out; rw [List.length_drop]; omega))
      generalize sgB 19 (l.drop k) = W at *
      obtain ⟨q1, q2, q3, q4⟩ := HSG.out
      have HM1 := Lib.hid q1
      have HY := Lib.hid q3
      have HX := Lib.hid q4
      have hW2 : (W.length : Int) ≤ 2 := by omega
      have hkW : (k : Int) + (W.length : Int) ≤ 65536 := by have := H6.out; omega
      clear q1 q2 q3 q4 HSG
      go_wp2_with fail
      rw [show (bs l).extract k l.length = bs (l.drop k) from bs_tail l k]
      refine HRS.out.mono ?_
      rintro e w2 ⟨rfl, hb⟩
      have HB2 := Lib.hid (HB.out.trans (hb.mono HB.out.size))
      have HO2 := Lib.hid (own_below HO.out hb)
      clear hb HB HO HRS
      have hWl : (bs W).toList = W := bs_toList W
      have hWz : (bs W).size = W.length := bs_size W
      by_cases hWn : W = []
      ·have HF := Lib.hid (HX.out hWn)
       subst hWn
       clear HX HY
       go_wp2
       go_ret3
       exact ⟨.slice none 0 0, by rw [HF.out]; rfl, by rw [HF.out]; exact World.ownsRow_nil _ _ _ _, HB2.out⟩
      ·have HF := Lib.hid (HY.out hWn)
       have HM := Lib.hid (show 0 < W.length ∧ k + W.length ≤ l.length from ⟨List.length_pos_iff.2 hWn, HM1.out⟩)
       have hWe : W.isEmpty = false := by simpa using hWn
       clear HX HY HM1
       have HNR := Lib.hid fun WW => (Reads.new (S := fun _ => True) (size := 3) (n := 1) WW #[.int .i64 3, .string (bs W), .int .i64 k] 93 rfl trivial)
       go_wp2_with (at_builtin; (refine wpList_append_any rfl (.tmp 102) (.tmp 106) 90 rfl w.heap.size 93 ie _ 3 32 Tryz.underlying90 hie0 hie1 hie2 hie3 rfl (by omega) u5 _ _ rfl (HO2.out.alloc _) _ _ 1 1 _ rfl (HNR.out _) ?m1 ?m2 ?m3 ?m4 ?m5))
       case m1 => first | exact ⟨rfl, rfl, rfl⟩ | exact tokC_one ⟨3, W, k⟩
       case m2 => have := HA.out; have := H6.out; simp only [maxLen]; omega
       case m3 => have := HA.out; have := H6.out; omega
       case m4 => have := HB2.out.size; simp; omega
       case m5 =>
        intro v' wf ho hg _
        have BF := Lib.hid (Below.grown (HB2.out.alloc HB2.out.size _) hg (Nat.le_trans HB2.out.size (by simp)) (fun j hj => (HO2.out.lt j hj).1))
        have OF := Lib.hid (show wf.ownsRow w.heap.size 93 3 v' (acc ++ [(⟨3, W, k⟩ : Tok)]).length ((acc ++ [(⟨3, W, k⟩ : Tok)]).flatMap tokC) from by rw [List.length_append, List.flatMap_append]; exact ho)
        clear ho hg HNR HO2 HB2
        go_wp2
        go_roundw
        case rel => exact ⟨k + W.length, acc ++ [⟨3, W, k⟩], HM.out.2, by go_num, HF, Lib.hid (by rw [List.length_append, List.length_singleton]; have := HA.out; have := HM.out.1; omega), OF, BF⟩
        case measure => have := HM.out; have := HK.out; show l.length - ((k : Int) + (W.length : Int)).toNat < l.length - (k : Int).toNat; omega
  ·skip
   obtain rfl : k = l.length := by omega
   have HF := Lib.hid (rf_end HS.out H6.out)
   clear hk hlt HS
   have HNR := Lib.hid fun WW => (Reads.new (S := fun _ => True) (size := 3) (n := 1) WW #[.int .i64 0, .string ({ data := #[] }), .int .i64 (l.length : Int)] 93 rfl trivial)
   go_wp2_with (at_builtin; (refine wpList_append_any rfl (.tmp 112) (.tmp 116) 90 rfl w.heap.size 93 ie _ 3 32 Tryz.underlying90 hie0 hie1 hie2 hie3 rfl (by omega) u5 _ _ rfl (HO.out.alloc _) _ _ 1 1 _ rfl (HNR.out _) ?m1 ?m2 ?m3 ?m4 ?m5))
   case m1 => first | exact ⟨rfl, rfl, rfl⟩ | exact tokC_one ⟨0, [], l.length⟩
   case m2 => have := HA.out; have := H6.out; simp only [maxLen]; omega
   case m3 => have := HA.out; have := H6.out; omega
   case m4 => have := HB.out.size; simp; omega
   case m5 =>
    intro v' wf ho hg _
    have BF := Lib.hid (Below.grown (HB.out.alloc HB.out.size _) hg (Nat.le_trans HB.out.size (by simp)) (fun j hj => (HO.out.lt j hj).1))
    have OF := Lib.hid (show wf.ownsRow w.heap.size 93 3 v' (acc ++ [(⟨0, [], l.length⟩ : Tok)]).length ((acc ++ [(⟨0, [], l.length⟩ : Tok)]).flatMap tokC) from by rw [List.length_append, List.flatMap_append]; exact ho)
    clear ho hg HNR HO HB
    go_wp2
    go_ret3
    exact ⟨v', by rw [HF.out]; rfl, by rw [HF.out]; exact OF.out, BF.out⟩
end Go.Proofs.YtkakbidllpjopaaGreatDoor.Lx
namespace Go.Proofs.YtkakbidllpjopaaGreatDoor
open Go.RowKit

theorem last_tok {s : Str} (h : (Lx.scanL s).2.2 = 0) : ∃ us z, (Lx.scanL s).1 = us ++ [z] ∧ z.kind = 0 ∧ z.text = [] := by
 have hok := scan_ok h
 unfold Lx.scanL at *
 split at h
 ·cases h
 rename_i hl
 rw [if_neg hl] at hok ⊢
 cases hs : Lx.scanR s with
 | error e =>
  rw [hs] at hok
  exact absurd hok.2.1 (fun e => e)
 | ok us => exact ⟨us, ⟨0, [], s.length⟩, rfl, rfl, rfl⟩
theorem rs_of {L : List Lx.Tok} {z : Lx.Tok} {w : World} {base : Nat} {v : Value} (h1 : Lok L) (h2 : Ends (L.map tkq)) (hk : z.kind = 0) (ht : z.text = []) (ho : w.ownsRow base 93 3 v (L.length + 3) ((L ++ [z, z, z]).flatMap Lx.tokC)) :
  ∃ tb tq tc, v = .slice (some ⟨tb, tq, none⟩) (L.length + 3) tc ∧ RS L tb tq (L.length + 3) tc w ∧ base ≤ tb := by
 obtain ⟨A, c, rfl, hc, hA, hR⟩ := own_reads (S := fun b => base ≤ b) ho (fun _ h => h)
 obtain ⟨b, q, rfl, hb, hS, hcell⟩ := hR.2 (by omega)
 refine ⟨b, q, c, rfl, ⟨h1, rfl, h2, hb, fun j hj => ?_⟩, hS⟩
 have hj2 : j < (L ++ [z, z, z]).length := by rw [List.length_append]; exact hj
 have hx : (L ++ [z, z, z])[j]? = some ((L ++ [z, z, z])[j]'hj2) := List.getElem?_eq_getElem hj2
 have hrow : w.rangeAt b (q + j * 3) (Lx.tokC ((L ++ [z, z, z])[j]'hj2)) := fun r u hu => by
  have e := flatG 3 ((L ++ [z, z, z]).map Lx.tokC) (fun cs h => by obtain ⟨t, -, rfl⟩ := List.mem_map.1 h; rfl) j _ (by rw [List.getElem?_map, hx]; rfl) r u hu
  rw [← List.flatMap_def] at e
  have := hcell _ _ e
  rwa [show q + j * 3 + r = q + (j * 3 + r) by omega]
 by_cases hl : j < L.length
 ·have e1 : (L ++ [z, z, z])[j]'hj2 = L[j] := List.getElem_append_left hl
  have e2 : (L.map tkq).drop j = tkq L[j] :: (L.map tkq).drop (j + 1) := by
   rw [List.drop_eq_getElem_cons (by rw [List.length_map]; exact hl), List.getElem_map]
  rw [e1] at hrow
  rw [e2]
  exact ⟨(L[j].off : Int), hrow, fun _ => by rw [List.getD_eq_getElem?_getD, List.getElem?_eq_getElem hl]; rfl⟩
 ·have e1 : (L ++ [z, z, z])[j]'hj2 = z := by
   rw [List.getElem_append_right (by omega)]
   have h4 : ∀ k (h : k < [z, z, z].length), [z, z, z][k]'h = z := fun k h => by
    match k, h with
    | 0, _ => rfl
    | 1, _ => rfl
    | 2, _ => rfl
   exact h4 _ _
  have e2 : (L.map tkq).drop j = [] := List.drop_of_length_le (by rw [List.length_map]; omega)
  rw [e1] at hrow
  rw [e2]
  refine ⟨(z.off : Int), ?_, fun h => absurd h hl⟩
  unfold Lx.tokC at hrow
  rw [hk, ht] at hrow
  exact hrow
theorem at_off {L : List Lx.Tok} {j : Nat} {r : List Tk} (h : AtR L j r) : ((L.getD j ⟨0, [], 0⟩).off : Int) = offAt L r := by
 unfold offAt
 have h1 := h.len
 have h2 := h.lt
 rw [show L.length - r.length = j by omega]
theorem apk_rt : AppOk 90 93 3 := AppOk.mk_ Tryz.underlying90 (by omega) (by kernel_rfl)
/-- append of three tokens onto the row. -/
theorem app3 {w : World} {base : Nat} {ty : TypeId} {v : Value} {L : List Lx.Tok} {z : Lx.Tok} (hl : L.length ≤ 70000) (ho : w.ownsRow base 93 3 v L.length (L.flatMap Lx.tokC)) (q : Nat) (hq : q < w.heap.size) (hr : w.rangeAt q 0 (Lx.tokC z ++ (Lx.tokC z ++ Lx.tokC z))) (hb : base ≤ w.heap.size) :
  ∃ v' w', (Builtin.append_ #[90, 90] ty #[v, .slice (some ⟨q, 0, none⟩) 3 3]).run Tryz.prog w = .ok v' w' ∧ w'.ownsRow base 93 3 v' (L.length + 3) ((L ++ [z, z, z]).flatMap Lx.tokC) ∧ w.grownBy w' v.ownBlock := by
 obtain ⟨ht, hs0, i, zz, bytes, hi, hz, his, hib, hzs, hbb⟩ := apk_rt
 have hR : Reads w (fun _ => True) 3 (some ⟨q, 0, none⟩) 3 (Lx.tokC z ++ (Lx.tokC z ++ Lx.tokC z)) := ⟨rfl, fun _ => ⟨q, 0, rfl, hq, trivial, fun j y hy => by have := hr j y hy; simpa using this⟩⟩
 have h1 : ∀ u ∈ Lx.tokC z ++ (Lx.tokC z ++ Lx.tokC z), u.oneCell' = true := fun u hu => by
  rcases List.mem_append.1 hu with h | h
  ·exact Lx.tokC_one z u h
  ·rcases List.mem_append.1 h with h | h <;> exact Lx.tokC_one z u h
 obtain ⟨v', w', e1, e2, e3, -⟩ := run_append_any (P := Tryz.prog) w base 90 ty 93 i zz 3 bytes ht hi hz his hib hzs hs0 v L.length _ ho (fun _ => True) _ 3 3 _ hR h1 (by simp only [maxLen]; omega) (Nat.le_trans (Nat.mul_le_mul (show L.length + 3 ≤ 100000 by omega) hbb) (by omega)) hb
 refine ⟨v', w', e1, ?_, e3⟩
 rw [List.flatMap_append]
 simpa using e2
theorem last_cells {us : List Lx.Tok} {z : Lx.Tok} {w : World} {base g cap nl : Nat} (hn : nl = us.length + 1) (ho : w.ownsRow base 93 3 (.slice (some ⟨g, 0, none⟩) nl cap) nl ((us ++ [z]).flatMap Lx.tokC)) :
  w.cell? ⟨g, us.length * 3, none⟩ = some (.int .i64 z.kind) ∧ w.cell? ⟨g, us.length * 3 + 1, none⟩ = some (.string (bs z.text)) ∧ w.cell? ⟨g, us.length * 3 + 2, none⟩ = some (.int .i64 (z.off : Int)) := by
 obtain ⟨A, c, h1, hc, hA, hR⟩ := own_reads (S := fun b => base ≤ b) ho (fun _ h => h)
 obtain ⟨b, q, h2, hb, hS, hcell⟩ := hR.2 (by omega)
 subst h2
 injection h1 with h1
 injection h1 with h1
 injection h1 with h1 h3
 subst h1
 subst h3
 have key : ∀ (r : Nat) (u : Value), (Lx.tokC z)[r]? = some u → w.cell? ⟨g, us.length * 3 + r, none⟩ = some u := fun r u hu => by
  have e := flatG 3 ((us ++ [z]).map Lx.tokC) (fun cs h => by obtain ⟨t, -, rfl⟩ := List.mem_map.1 h; rfl) us.length _ (by rw [List.getElem?_map, List.getElem?_append_right (Nat.le_refl _), Nat.sub_self]; rfl) r u hu
  rw [← List.flatMap_def] at e
  have := hcell _ _ e
  rwa [Nat.zero_add] at this
 exact ⟨key 0 _ rfl, key 1 _ rfl, key 2 _ rfl⟩
/-- What Expr answers. -/
def rpE (s : Str) : Ex × Int × Int :=
 if (Lx.scanL s).2.2 ≠ 0 then (emE, ((Lx.scanL s).2.1 : Int), (Lx.scanL s).2.2)
 else match pX ((Lx.scanL s).1.map tkq) with
  | .bad r => (emE, offAt (Lx.scanL s).1 r, 5)
  | .ok e _ => (e, 0, 0)
theorem rpE_err {s : Str} (h : (Lx.scanL s).2.2 ≠ 0) : rpE s = (emE, ((Lx.scanL s).2.1 : Int), (Lx.scanL s).2.2) := if_pos h
theorem rpE_bad {s : Str} {r : List Tk} (h : (Lx.scanL s).2.2 = 0) (hp : pX ((Lx.scanL s).1.map tkq) = .bad r) : rpE s = (emE, offAt (Lx.scanL s).1 r, 5) := by
 unfold rpE
 rw [if_neg (by rw [h]; simp), hp]
theorem rpE_ok {s : Str} {r : List Tk} {e : Ex} (h : (Lx.scanL s).2.2 = 0) (hp : pX ((Lx.scanL s).1.map tkq) = .ok e r) : rpE s = (e, 0, 0) := by
 unfold rpE
 rw [if_neg (by rw [h]; simp), hp]
set_option maxRecDepth 100000 in
set_option maxHeartbeats 12800000 in
theorem rExpr_any (s : Str) (w : World) (hl : s.length ≤ 65536) : Calls Tryz.prog 19 #[.string (bs s)] w fun e w' => ∃ cs : List Value, e = .returned (.tuple #[.agg cs.toArray, .int .i64 (rpE s).2.1, .int .i64 (rpE s).2.2]) ∧ XV w' (fun b => w.heap.size ≤ b) (rpE s).1 cs ∧ Below w.heap.size w w' := by
 obtain ⟨w0, hw0⟩ : ∃ W, W = w.alloc (.cells #[.int .i64 0, .int .i64 0, .string { data := #[] }, .string { data := #[] }, .slice none 0 0, .slice none 0 0] 54) := ⟨_, rfl⟩
 have hb : Below w.heap.size w w0 := by rw [hw0]; exact (Below.refl _ _).alloc (Nat.le_refl _) _
 have HSZ := Lib.hid (show w.heap.size < w0.heap.size from by rw [hw0, World.size_alloc]; omega)
 have X0 := Lib.hid (show HB 54 w0 w.heap.size #[.int .i64 0, .int .i64 0, .string { data := #[] }, .string { data := #[] }, .slice none 0 0, .slice none 0 0] from by rw [hw0]; exact heap_alloc_new w _)
 have B00 := Lib.hid hb
 obtain ⟨k0, hk0⟩ : ∃ z : Int, z = ((Lx.scanL s).2.1 : Int) := ⟨_, rfl⟩
 obtain ⟨er, her⟩ : ∃ z : Int, z = (Lx.scanL s).2.2 := ⟨_, rfl⟩
 have KS := Lib.hid (show Calls Tryz.prog 31 #[.string (bs s)] w0 fun e w' => ∃ v, e = .returned (.tuple #[v, .int .i64 k0, .int .i64 er]) ∧ w'.ownsRow w0.heap.size 93 3 v (Lx.scanL s).1.length ((Lx.scanL s).1.flatMap Lx.tokC) ∧ Below w0.heap.size w0 w' from by rw [hk0, her]; exact Lx.rscan_any s w0 hl)
 have HK0 := Lib.hid hk0
 have HER := Lib.hid her
 clear hb hk0 her hl
 go_enter Tryz.func19, Tryz.ntmps19
 go_upto_region 1 with fail
 rw [← hw0]
 clear hw0
 go_wp2_with fail
 refine KS.out.mono ?_
 rintro e w1 ⟨v, rfl, ho, hb⟩
 have B := Lib.hid hb
 clear hb KS
 by_cases he : er = 0
 ·subst he
  have HE := Lib.hid HER.out.symm
  obtain ⟨us, ⟨zk, zt, zo⟩, hL, hz1, hz2⟩ := last_tok HER.out.symm
  obtain rfl : zk = 0 := hz1
  obtain rfl : zt = [] := hz2
  obtain ⟨hlok, hends, -, -, -, -⟩ := scan_ok HER.out.symm
  have LOK := Lib.hid hlok
  have ENDS := Lib.hid hends
  obtain ⟨nl, hnl⟩ : ∃ k, k = (Lx.scanL s).1.length := ⟨_, rfl⟩
  obtain ⟨nn, hnn⟩ : ∃ k, k = (Lx.scanL s).1.length + 3 := ⟨_, rfl⟩
  obtain ⟨m, hm⟩ : ∃ k, k = us.length := ⟨_, rfl⟩
  have hlm : nl = us.length + 1 := by rw [hnl, hL]; simp
  have NL := Lib.hid hnl
  have NN := Lib.hid hnn
  rw [← hnl] at ho
  obtain ⟨g, cap, rfl, hg⟩ : ∃ g cap, v = .slice (some ⟨g, 0, none⟩) nl cap ∧ w0.heap.size ≤ g := by
   rcases ho.2 with ⟨-, h0⟩ | ⟨g, cap, cur, h1, h2, -⟩
   ·omega
   ·exact ⟨g, cap, h1, h2⟩
  have HG := Lib.hid hg
  have OW := Lib.hid ho
  rw [hL] at ho
  have hz := last_cells hlm ho
  rw [← hm] at hz
  have HZ := Lib.hid hz
  have hlen := hlok.len
  have bm : (m : Int) < (nl : Int) := by omega
  have WM : IntKind.i64.wrap ((nl : Int) - 1) = (m : Int) := by simp [IntKind.wrap, IntKind.bits, IntKind.signed]; omega
  clear ho hz hg hlm hnl hnn hL hlok hends hm hlen
  go_upto_region 4 with fail
  go_cut [5] from 22 (fun v5 wz => True ∧ ∃ tb tq tc, v5 = .slice (some ⟨tb, tq, none⟩) nn tc ∧ RS (Lx.scanL s).1 tb tq nn tc wz ∧ Below w0.heap.size w0 wz)
  case first =>
   rename_i J0 K0 hR0 hK0
   refine wp_region_held_drew (S := fun W => True) (by kernel_rfl) trivial (fun hHeld => ?_)
   have OQ := Lib.hid (World.ownsRow.kept OW.out (Below.grown_ (Below.refl w1.heap.size w1).drew none) (.inr (by simp [Value.ownBlock])))
   have B1 := Lib.hid (B.out.trans ((Below.refl w1.heap.size w1).drew.mono B.out.size))
   have HZQ := Lib.hid (show w1.drew.cell? ⟨g, m * 3, none⟩ = some (.int .i64 0) ∧ w1.drew.cell? ⟨g, m * 3 + 1, none⟩ = some (.string (bs [])) ∧ w1.drew.cell? ⟨g, m * 3 + 2, none⟩ = some (.int .i64 zo) from HZ.out)
   generalize w1.drew = wq at *
   clear OW B HZ hHeld
   refine wpAnyH_take (i := 0) (oi := ⟨some 22, _, _, _, _, _⟩) (v := .slice (some ⟨g, 0, none⟩) nl cap) rfl (by kernel_rfl) (by kernel_rfl) (by kernel_rfl) (fun _ _ _ h => h) (Or.inl ⟨by rfl, ?_⟩) trivial ?_
   ·intro W' hW
    go_simp
   try simp only [Act.put, List.setIfInBounds_toArray, List.set_cons_zero, List.set_cons_succ]
   refine wpAnyH_take (i := 1) (oi := ⟨some 23, _, _, _, _, _⟩) (v := .slice (some ⟨g, 0, none⟩) nl cap) rfl (by kernel_rfl) (by kernel_rfl) (by kernel_rfl) (fun _ _ _ h => h) (Or.inl ⟨by rfl, ?_⟩) trivial ?_
   ·intro W' hW
    go_simp
   try simp only [Act.put, List.setIfInBounds_toArray, List.set_cons_zero, List.set_cons_succ]
   refine wpAnyH_take (i := 2) (oi := ⟨some 24, _, _, _, _, _⟩) (v := .slice (some ⟨g, 0, none⟩) nl cap) rfl (by kernel_rfl) (by kernel_rfl) (by kernel_rfl) (fun _ _ _ h => h) (Or.inl ⟨by rfl, ?_⟩) trivial ?_
   ·intro W' hW
    go_simp
   try simp only [Act.put, List.setIfInBounds_toArray, List.set_cons_zero, List.set_cons_succ]
   refine wpAnyH_take (i := 3) (oi := ⟨some 25, _, _, _, _, _⟩) (v := .int .i64 nl) rfl (by kernel_rfl) (by kernel_rfl) (by kernel_rfl) (fun _ _ _ h => h) (Or.inl ⟨by rfl, ?_⟩) trivial ?_
   ·intro W' hW
    go_simp
   try simp only [Act.put, List.setIfInBounds_toArray, List.set_cons_zero, List.set_cons_succ]
   refine wpAnyH_take (i := 4) (oi := ⟨some 26, _, _, _, _, _⟩) (v := .int .i64 m) rfl (by kernel_rfl) (by kernel_rfl) (by kernel_rfl) (fun _ _ _ h => h) (Or.inl ⟨by rfl, ?_⟩) trivial ?_
   ·intro W' hW
    go_simp
   try simp only [Act.put, List.setIfInBounds_toArray, List.set_cons_zero, List.set_cons_succ]
   refine wpAnyH_take (i := 5) (oi := ⟨some 27, _, _, _, _, _⟩) (v := .pointer (some ⟨g, m * 3, none⟩)) rfl (by kernel_rfl) (by kernel_rfl) (by kernel_rfl) (fun _ _ _ h => h) (Or.inl ⟨by rfl, ?_⟩) trivial ?_
   ·intro W' hW
    go_simp
   try simp only [Act.put, List.setIfInBounds_toArray, List.set_cons_zero, List.set_cons_succ]
   refine wpAnyH_take (i := 7) (oi := ⟨some 29, _, _, _, _, _⟩) (v := .slice (some ⟨g, 0, none⟩) nl cap) rfl (by kernel_rfl) (by kernel_rfl) (by kernel_rfl) (fun _ _ _ h => h) (Or.inl ⟨by rfl, ?_⟩) trivial ?_
   ·intro W' hW
    go_simp
   try simp only [Act.put, List.setIfInBounds_toArray, List.set_cons_zero, List.set_cons_succ]
   refine wpAnyH_take (i := 8) (oi := ⟨some 30, _, _, _, _, _⟩) (v := .slice (some ⟨g, 0, none⟩) nl cap) rfl (by kernel_rfl) (by kernel_rfl) (by kernel_rfl) (fun _ _ _ h => h) (Or.inl ⟨by rfl, ?_⟩) trivial ?_
   ·intro W' hW
    go_simp
   try simp only [Act.put, List.setIfInBounds_toArray, List.set_cons_zero, List.set_cons_succ]
   refine wpAnyH_take (i := 9) (oi := ⟨some 31, _, _, _, _, _⟩) (v := .int .i64 nl) rfl (by kernel_rfl) (by kernel_rfl) (by kernel_rfl) (fun _ _ _ h => h) (Or.inl ⟨by rfl, ?_⟩) trivial ?_
   ·intro W' hW
    go_simp
   try simp only [Act.put, List.setIfInBounds_toArray, List.set_cons_zero, List.set_cons_succ]
   refine wpAnyH_take (i := 10) (oi := ⟨some 32, _, _, _, _, _⟩) (v := .int .i64 m) rfl (by kernel_rfl) (by kernel_rfl) (by kernel_rfl) (fun _ _ _ h => h) (Or.inl ⟨by rfl, ?_⟩) trivial ?_
   ·intro W' hW
    go_simp
   try simp only [Act.put, List.setIfInBounds_toArray, List.set_cons_zero, List.set_cons_succ]
   refine wpAnyH_take (i := 11) (oi := ⟨some 33, _, _, _, _, _⟩) (v := .pointer (some ⟨g, m * 3, none⟩)) rfl (by kernel_rfl) (by kernel_rfl) (by kernel_rfl) (fun _ _ _ h => h) (Or.inl ⟨by rfl, ?_⟩) trivial ?_
   ·intro W' hW
    go_simp
   try simp only [Act.put, List.setIfInBounds_toArray, List.set_cons_zero, List.set_cons_succ]
   refine wpAnyH_take (i := 13) (oi := ⟨some 35, _, _, _, _, _⟩) (v := .slice (some ⟨g, 0, none⟩) nl cap) rfl (by kernel_rfl) (by kernel_rfl) (by kernel_rfl) (fun _ _ _ h => h) (Or.inl ⟨by rfl, ?_⟩) trivial ?_
   ·intro W' hW
    go_simp
   try simp only [Act.put, List.setIfInBounds_toArray, List.set_cons_zero, List.set_cons_succ]
   refine wpAnyH_take (i := 14) (oi := ⟨some 36, _, _, _, _, _⟩) (v := .slice (some ⟨g, 0, none⟩) nl cap) rfl (by kernel_rfl) (by kernel_rfl) (by kernel_rfl) (fun _ _ _ h => h) (Or.inl ⟨by rfl, ?_⟩) trivial ?_
   ·intro W' hW
    go_simp
   try simp only [Act.put, List.setIfInBounds_toArray, List.set_cons_zero, List.set_cons_succ]
   refine wpAnyH_take (i := 15) (oi := ⟨some 37, _, _, _, _, _⟩) (v := .int .i64 nl) rfl (by kernel_rfl) (by kernel_rfl) (by kernel_rfl) (fun _ _ _ h => h) (Or.inl ⟨by rfl, ?_⟩) trivial ?_
   ·intro W' hW
    go_simp
   try simp only [Act.put, List.setIfInBounds_toArray, List.set_cons_zero, List.set_cons_succ]
   refine wpAnyH_take (i := 16) (oi := ⟨some 38, _, _, _, _, _⟩) (v := .int .i64 m) rfl (by kernel_rfl) (by kernel_rfl) (by kernel_rfl) (fun _ _ _ h => h) (Or.inl ⟨by rfl, ?_⟩) trivial ?_
   ·intro W' hW
    go_simp
   try simp only [Act.put, List.setIfInBounds_toArray, List.set_cons_zero, List.set_cons_succ]
   refine wpAnyH_take (i := 17) (oi := ⟨some 39, _, _, _, _, _⟩) (v := .pointer (some ⟨g, m * 3, none⟩)) rfl (by kernel_rfl) (by kernel_rfl) (by kernel_rfl) (fun _ _ _ h => h) (Or.inl ⟨by rfl, ?_⟩) trivial ?_
   ·intro W' hW
    go_simp
   try simp only [Act.put, List.setIfInBounds_toArray, List.set_cons_zero, List.set_cons_succ]
   refine wpAnyH_ready (rs := [6, 12, 18]) (by kernel_rfl) (by simp) ?_
   refine AllReadyH.cons (o := ⟨some 28, _, _, _, _, _⟩) rfl (fun K hK => ?_) (AllReadyH.cons (o := ⟨some 34, _, _, _, _, _⟩) rfl (fun K hK => ?_) (AllReadyH.cons (o := ⟨some 40, _, _, _, _, _⟩) rfl (fun K hK => ?_) (AllReadyH.nil)))
   ·obtain ⟨z0, z1, z2⟩ := HZQ.out
    go_simp
    clear z0 z1 z2
    refine hK.out _ _ trivial (fun hHeld => ?_)
    clear hK hHeld
    try simp only [Act.put, List.setIfInBounds_toArray, List.set_cons_zero, List.set_cons_succ]
    refine wpAnyH_ready (rs := [12, 18]) (by kernel_rfl) (by simp) ?_
    refine AllReadyH.cons (o := ⟨some 34, _, _, _, _, _⟩) rfl (fun K hK => ?_) (AllReadyH.cons (o := ⟨some 40, _, _, _, _, _⟩) rfl (fun K hK => ?_) (AllReadyH.nil))
    ·obtain ⟨z0, z1, z2⟩ := HZQ.out
     go_simp
     clear z0 z1 z2
     refine hK.out _ _ trivial (fun hHeld => ?_)
     clear hK hHeld
     try simp only [Act.put, List.setIfInBounds_toArray, List.set_cons_zero, List.set_cons_succ]
     refine wpAnyH_ready (rs := [18]) (by kernel_rfl) (by simp) ?_
     refine AllReadyH.cons (o := ⟨some 40, _, _, _, _, _⟩) rfl (fun K hK => ?_) (AllReadyH.nil)
     ·obtain ⟨z0, z1, z2⟩ := HZQ.out
      go_simp
      clear z0 z1 z2
      refine hK.out _ _ trivial (fun hHeld => ?_)
      clear hK hHeld
      try simp only [Act.put, List.setIfInBounds_toArray, List.set_cons_zero, List.set_cons_succ]
      refine wpAnyH_ready (rs := [19]) (by kernel_rfl) (by simp) ?_
      refine AllReadyH.cons (o := ⟨some 41, _, _, _, _, _⟩) rfl (fun K hK => ?_) AllReadyH.nil
      go_simp
      obtain ⟨wv, hwv⟩ : ∃ W, W = wq.alloc (.cells #[.int .i64 0, .string (bs []), .int .i64 zo, .int .i64 0, .string (bs []), .int .i64 zo, .int .i64 0, .string (bs []), .int .i64 zo] 93) := ⟨_, rfl⟩
      have hbv : Below wq.heap.size wq wv := by rw [hwv]; exact (Below.refl _ _).alloc (Nat.le_refl _) _
      have hrv : wv.heap[wq.heap.size]? = some (.cells #[.int .i64 0, .string (bs []), .int .i64 zo, .int .i64 0, .string (bs []), .int .i64 zo, .int .i64 0, .string (bs []), .int .i64 zo] 93 (0, 0)) := by rw [hwv]; exact heap_alloc_new wq _
      obtain ⟨v', w', e1, e2, e3⟩ := app3 (z := ⟨0, [], zo⟩) (ty := 90) (v := .slice (some ⟨g, 0, none⟩) nl cap) LOK.out.len (by rw [← NL.out]; exact World.ownsRow.kept OQ.out (Below.grown_ hbv none) (.inr (by simp [Value.ownBlock]))) wq.heap.size (lt_of_block hrv) (range_new (cs := Lx.tokC ⟨0, [], zo⟩ ++ (Lx.tokC ⟨0, [], zo⟩ ++ Lx.tokC ⟨0, [], zo⟩)) hrv) (Nat.le_trans B1.out.size hbv.size)
      have hbB := (B1.out.trans (hbv.mono B1.out.size)).grown e3 (Nat.le_trans B1.out.size hbv.size) (fun q hq => by obtain rfl : g = q := Option.some.inj hq; exact HG.out)
      rw [← hwv]
      clear hwv
      refine hK.out _ _ trivial (fun hHeld => ?_)
      clear hK hHeld
      try simp only [Act.put, List.setIfInBounds_toArray, List.set_cons_zero, List.set_cons_succ]
      refine wpAnyH_ready (rs := [20]) (by kernel_rfl) (by simp) ?_
      refine AllReadyH.cons (o := ⟨some 42, _, _, _, _, _⟩) rfl (fun K hK => ?_) AllReadyH.nil
      refine step_app rfl (.tmp 22) (.tmp 41) 90 rfl _ _ rfl rfl e1 ?_
      refine hK.out _ _ trivial (fun hHeld => ?_)
      clear hK hHeld
      try simp only [Act.put, List.setIfInBounds_toArray, List.set_cons_zero, List.set_cons_succ]
      refine wpAnyH_take (i := 21) (oi := ⟨some 5, _, _, _, _, _⟩) (v := v') rfl (by kernel_rfl) (by kernel_rfl) (by kernel_rfl) (fun _ _ _ h => h) (Or.inl ⟨by rfl, ?_⟩) trivial ?_
      ·intro W' hW
       go_simp
      try simp only [Act.put, List.setIfInBounds_toArray, List.set_cons_zero, List.set_cons_succ]
      refine wpAnyH_done (by kernel_rfl) ?_ _
      refine hK0 _ _ (Met.intro (hR0 _ _ ?_))
      (repeat apply Exists.intro)
      refine ⟨?rel, rfl⟩
      case rel =>
       refine ⟨trivial, ?_⟩
       obtain ⟨tb, tq, tc, a1, a2, -⟩ := rs_of LOK.out ENDS.out rfl rfl e2
       rw [NN.out]
       exact ⟨tb, tq, tc, a1, a2, hbB⟩
    ·obtain ⟨z0, z1, z2⟩ := HZQ.out
     go_simp
     clear z0 z1 z2
     refine hK.out _ _ trivial (fun hHeld => ?_)
     clear hK hHeld
     try simp only [Act.put, List.setIfInBounds_toArray, List.set_cons_zero, List.set_cons_succ]
     refine wpAnyH_ready (rs := [12]) (by kernel_rfl) (by simp) ?_
     refine AllReadyH.cons (o := ⟨some 34, _, _, _, _, _⟩) rfl (fun K hK => ?_) (AllReadyH.nil)
     ·obtain ⟨z0, z1, z2⟩ := HZQ.out
      go_simp
      clear z0 z1 z2
      refine hK.out _ _ trivial (fun hHeld => ?_)
      clear hK hHeld
      try simp only [Act.put, List.setIfInBounds_toArray, List.set_cons_zero, List.set_cons_succ]
      refine wpAnyH_ready (rs := [19]) (by kernel_rfl) (by simp) ?_
      refine AllReadyH.cons (o := ⟨some 41, _, _, _, _, _⟩) rfl (fun K hK => ?_) AllReadyH.nil
      go_simp
      obtain ⟨wv, hwv⟩ : ∃ W, W = wq.alloc (.cells #[.int .i64 0, .string (bs []), .int .i64 zo, .int .i64 0, .string (bs []), .int .i64 zo, .int .i64 0, .string (bs []), .int .i64 zo] 93) := ⟨_, rfl⟩
      have hbv : Below wq.heap.size wq wv := by rw [hwv]; exact (Below.refl _ _).alloc (Nat.le_refl _) _
      have hrv : wv.heap[wq.heap.size]? = some (.cells #[.int .i64 0, .string (bs []), .int .i64 zo, .int .i64 0, .string (bs []), .int .i64 zo, .int .i64 0, .string (bs []), .int .i64 zo] 93 (0, 0)) := by rw [hwv]; exact heap_alloc_new wq _
      obtain ⟨v', w', e1, e2, e3⟩ := app3 (z := ⟨0, [], zo⟩) (ty := 90) (v := .slice (some ⟨g, 0, none⟩) nl cap) LOK.out.len (by rw [← NL.out]; exact World.ownsRow.kept OQ.out (Below.grown_ hbv none) (.inr (by simp [Value.ownBlock]))) wq.heap.size (lt_of_block hrv) (range_new (cs := Lx.tokC ⟨0, [], zo⟩ ++ (Lx.tokC ⟨0, [], zo⟩ ++ Lx.tokC ⟨0, [], zo⟩)) hrv) (Nat.le_trans B1.out.size hbv.size)
      have hbB := (B1.out.trans (hbv.mono B1.out.size)).grown e3 (Nat.le_trans B1.out.size hbv.size) (fun q hq => by obtain rfl : g = q := Option.some.inj hq; exact HG.out)
      rw [← hwv]
      clear hwv
      refine hK.out _ _ trivial (fun hHeld => ?_)
      clear hK hHeld
      try simp only [Act.put, List.setIfInBounds_toArray, List.set_cons_zero, List.set_cons_succ]
      refine wpAnyH_ready (rs := [20]) (by kernel_rfl) (by simp) ?_
      refine AllReadyH.cons (o := ⟨some 42, _, _, _, _, _⟩) rfl (fun K hK => ?_) AllReadyH.nil
      refine step_app rfl (.tmp 22) (.tmp 41) 90 rfl _ _ rfl rfl e1 ?_
      refine hK.out _ _ trivial (fun hHeld => ?_)
      clear hK hHeld
      try simp only [Act.put, List.setIfInBounds_toArray, List.set_cons_zero, List.set_cons_succ]
      refine wpAnyH_take (i := 21) (oi := ⟨some 5, _, _, _, _, _⟩) (v := v') rfl (by kernel_rfl) (by kernel_rfl) (by kernel_rfl) (fun _ _ _ h => h) (Or.inl ⟨by rfl, ?_⟩) trivial ?_
      ·intro W' hW
       go_simp
      try simp only [Act.put, List.setIfInBounds_toArray, List.set_cons_zero, List.set_cons_succ]
      refine wpAnyH_done (by kernel_rfl) ?_ _
      refine hK0 _ _ (Met.intro (hR0 _ _ ?_))
      (repeat apply Exists.intro)
      refine ⟨?rel, rfl⟩
      case rel =>
       refine ⟨trivial, ?_⟩
       obtain ⟨tb, tq, tc, a1, a2, -⟩ := rs_of LOK.out ENDS.out rfl rfl e2
       rw [NN.out]
       exact ⟨tb, tq, tc, a1, a2, hbB⟩
   ·obtain ⟨z0, z1, z2⟩ := HZQ.out
    go_simp
    clear z0 z1 z2
    refine hK.out _ _ trivial (fun hHeld => ?_)
    clear hK hHeld
    try simp only [Act.put, List.setIfInBounds_toArray, List.set_cons_zero, List.set_cons_succ]
    refine wpAnyH_ready (rs := [6, 18]) (by kernel_rfl) (by simp) ?_
    refine AllReadyH.cons (o := ⟨some 28, _, _, _, _, _⟩) rfl (fun K hK => ?_) (AllReadyH.cons (o := ⟨some 40, _, _, _, _, _⟩) rfl (fun K hK => ?_) (AllReadyH.nil))
    ·obtain ⟨z0, z1, z2⟩ := HZQ.out
     go_simp
     clear z0 z1 z2
     refine hK.out _ _ trivial (fun hHeld => ?_)
     clear hK hHeld
     try simp only [Act.put, List.setIfInBounds_toArray, List.set_cons_zero, List.set_cons_succ]
     refine wpAnyH_ready (rs := [18]) (by kernel_rfl) (by simp) ?_
     refine AllReadyH.cons (o := ⟨some 40, _, _, _, _, _⟩) rfl (fun K hK => ?_) (AllReadyH.nil)
     ·obtain ⟨z0, z1, z2⟩ := HZQ.out
      go_simp
      clear z0 z1 z2
      refine hK.out _ _ trivial (fun hHeld => ?_)
      clear hK hHeld
      try simp only [Act.put, List.setIfInBounds_toArray, List.set_cons_zero, List.set_cons_succ]
      refine wpAnyH_ready (rs := [19]) (by kernel_rfl) (by simp) ?_
      refine AllReadyH.cons (o := ⟨some 41, _, _, _, _, _⟩) rfl (fun K hK => ?_) AllReadyH.nil
      go_simp
      obtain ⟨wv, hwv⟩ : ∃ W, W = wq.alloc (.cells #[.int .i64 0, .string (bs []), .int .i64 zo, .int .i64 0, .string (bs []), .int .i64 zo, .int .i64 0, .string (bs []), .int .i64 zo] 93) := ⟨_, rfl⟩
      have hbv : Below wq.heap.size wq wv := by rw [hwv]; exact (Below.refl _ _).alloc (Nat.le_refl _) _
      have hrv : wv.heap[wq.heap.size]? = some (.cells #[.int .i64 0, .string (bs []), .int .i64 zo, .int .i64 0, .string (bs []), .int .i64 zo, .int .i64 0, .string (bs []), .int .i64 zo] 93 (0, 0)) := by rw [hwv]; exact heap_alloc_new wq _
      obtain ⟨v', w', e1, e2, e3⟩ := app3 (z := ⟨0, [], zo⟩) (ty := 90) (v := .slice (some ⟨g, 0, none⟩) nl cap) LOK.out.len (by rw [← NL.out]; exact World.ownsRow.kept OQ.out (Below.grown_ hbv none) (.inr (by simp [Value.ownBlock]))) wq.heap.size (lt_of_block hrv) (range_new (cs := Lx.tokC ⟨0, [], zo⟩ ++ (Lx.tokC ⟨0, [], zo⟩ ++ Lx.tokC ⟨0, [], zo⟩)) hrv) (Nat.le_trans B1.out.size hbv.size)
      have hbB := (B1.out.trans (hbv.mono B1.out.size)).grown e3 (Nat.le_trans B1.out.size hbv.size) (fun q hq => by obtain rfl : g = q := Option.some.inj hq; exact HG.out)
      rw [← hwv]
      clear hwv
      refine hK.out _ _ trivial (fun hHeld => ?_)
      clear hK hHeld
      try simp only [Act.put, List.setIfInBounds_toArray, List.set_cons_zero, List.set_cons_succ]
      refine wpAnyH_ready (rs := [20]) (by kernel_rfl) (by simp) ?_
      refine AllReadyH.cons (o := ⟨some 42, _, _, _, _, _⟩) rfl (fun K hK => ?_) AllReadyH.nil
      refine step_app rfl (.tmp 22) (.tmp 41) 90 rfl _ _ rfl rfl e1 ?_
      refine hK.out _ _ trivial (fun hHeld => ?_)
      clear hK hHeld
      try simp only [Act.put, List.setIfInBounds_toArray, List.set_cons_zero, List.set_cons_succ]
      refine wpAnyH_take (i := 21) (oi := ⟨some 5, _, _, _, _, _⟩) (v := v') rfl (by kernel_rfl) (by kernel_rfl) (by kernel_rfl) (fun _ _ _ h => h) (Or.inl ⟨by rfl, ?_⟩) trivial ?_
      ·intro W' hW
       go_simp
      try simp only [Act.put, List.setIfInBounds_toArray, List.set_cons_zero, List.set_cons_succ]
      refine wpAnyH_done (by kernel_rfl) ?_ _
      refine hK0 _ _ (Met.intro (hR0 _ _ ?_))
      (repeat apply Exists.intro)
      refine ⟨?rel, rfl⟩
      case rel =>
       refine ⟨trivial, ?_⟩
       obtain ⟨tb, tq, tc, a1, a2, -⟩ := rs_of LOK.out ENDS.out rfl rfl e2
       rw [NN.out]
       exact ⟨tb, tq, tc, a1, a2, hbB⟩
    ·obtain ⟨z0, z1, z2⟩ := HZQ.out
     go_simp
     clear z0 z1 z2
     refine hK.out _ _ trivial (fun hHeld => ?_)
     clear hK hHeld
     try simp only [Act.put, List.setIfInBounds_toArray, List.set_cons_zero, List.set_cons_succ]
     refine wpAnyH_ready (rs := [6]) (by kernel_rfl) (by simp) ?_
     refine AllReadyH.cons (o := ⟨some 28, _, _, _, _, _⟩) rfl (fun K hK => ?_) (AllReadyH.nil)
     ·obtain ⟨z0, z1, z2⟩ := HZQ.out
      go_simp
      clear z0 z1 z2
      refine hK.out _ _ trivial (fun hHeld => ?_)
      clear hK hHeld
      try simp only [Act.put, List.setIfInBounds_toArray, List.set_cons_zero, List.set_cons_succ]
      refine wpAnyH_ready (rs := [19]) (by kernel_rfl) (by simp) ?_
      refine AllReadyH.cons (o := ⟨some 41, _, _, _, _, _⟩) rfl (fun K hK => ?_) AllReadyH.nil
      go_simp
      obtain ⟨wv, hwv⟩ : ∃ W, W = wq.alloc (.cells #[.int .i64 0, .string (bs []), .int .i64 zo, .int .i64 0, .string (bs []), .int .i64 zo, .int .i64 0, .string (bs []), .int .i64 zo] 93) := ⟨_, rfl⟩
      have hbv : Below wq.heap.size wq wv := by rw [hwv]; exact (Below.refl _ _).alloc (Nat.le_refl _) _
      have hrv : wv.heap[wq.heap.size]? = some (.cells #[.int .i64 0, .string (bs []), .int .i64 zo, .int .i64 0, .string (bs []), .int .i64 zo, .int .i64 0, .string (bs []), .int .i64 zo] 93 (0, 0)) := by rw [hwv]; exact heap_alloc_new wq _
      obtain ⟨v', w', e1, e2, e3⟩ := app3 (z := ⟨0, [], zo⟩) (ty := 90) (v := .slice (some ⟨g, 0, none⟩) nl cap) LOK.out.len (by rw [← NL.out]; exact World.ownsRow.kept OQ.out (Below.grown_ hbv none) (.inr (by simp [Value.ownBlock]))) wq.heap.size (lt_of_block hrv) (range_new (cs := Lx.tokC ⟨0, [], zo⟩ ++ (Lx.tokC ⟨0, [], zo⟩ ++ Lx.tokC ⟨0, [], zo⟩)) hrv) (Nat.le_trans B1.out.size hbv.size)
      have hbB := (B1.out.trans (hbv.mono B1.out.size)).grown e3 (Nat.le_trans B1.out.size hbv.size) (fun q hq => by obtain rfl : g = q := Option.some.inj hq; exact HG.out)
      rw [← hwv]
      clear hwv
      refine hK.out _ _ trivial (fun hHeld => ?_)
      clear hK hHeld
      try simp only [Act.put, List.setIfInBounds_toArray, List.set_cons_zero, List.set_cons_succ]
      refine wpAnyH_ready (rs := [20]) (by kernel_rfl) (by simp) ?_
      refine AllReadyH.cons (o := ⟨some 42, _, _, _, _, _⟩) rfl (fun K hK => ?_) AllReadyH.nil
      refine step_app rfl (.tmp 22) (.tmp 41) 90 rfl _ _ rfl rfl e1 ?_
      refine hK.out _ _ trivial (fun hHeld => ?_)
      clear hK hHeld
      try simp only [Act.put, List.setIfInBounds_toArray, List.set_cons_zero, List.set_cons_succ]
      refine wpAnyH_take (i := 21) (oi := ⟨some 5, _, _, _, _, _⟩) (v := v') rfl (by kernel_rfl) (by kernel_rfl) (by kernel_rfl) (fun _ _ _ h => h) (Or.inl ⟨by rfl, ?_⟩) trivial ?_
      ·intro W' hW
       go_simp
      try simp only [Act.put, List.setIfInBounds_toArray, List.set_cons_zero, List.set_cons_succ]
      refine wpAnyH_done (by kernel_rfl) ?_ _
      refine hK0 _ _ (Met.intro (hR0 _ _ ?_))
      (repeat apply Exists.intro)
      refine ⟨?rel, rfl⟩
      case rel =>
       refine ⟨trivial, ?_⟩
       obtain ⟨tb, tq, tc, a1, a2, -⟩ := rs_of LOK.out ENDS.out rfl rfl e2
       rw [NN.out]
       exact ⟨tb, tq, tc, a1, a2, hbB⟩
   ·obtain ⟨z0, z1, z2⟩ := HZQ.out
    go_simp
    clear z0 z1 z2
    refine hK.out _ _ trivial (fun hHeld => ?_)
    clear hK hHeld
    try simp only [Act.put, List.setIfInBounds_toArray, List.set_cons_zero, List.set_cons_succ]
    refine wpAnyH_ready (rs := [6, 12]) (by kernel_rfl) (by simp) ?_
    refine AllReadyH.cons (o := ⟨some 28, _, _, _, _, _⟩) rfl (fun K hK => ?_) (AllReadyH.cons (o := ⟨some 34, _, _, _, _, _⟩) rfl (fun K hK => ?_) (AllReadyH.nil))
    ·obtain ⟨z0, z1, z2⟩ := HZQ.out
     go_simp
     clear z0 z1 z2
     refine hK.out _ _ trivial (fun hHeld => ?_)
     clear hK hHeld
     try simp only [Act.put, List.setIfInBounds_toArray, List.set_cons_zero, List.set_cons_succ]
     refine wpAnyH_ready (rs := [12]) (by kernel_rfl) (by simp) ?_
     refine AllReadyH.cons (o := ⟨some 34, _, _, _, _, _⟩) rfl (fun K hK => ?_) (AllReadyH.nil)
     ·obtain ⟨z0, z1, z2⟩ := HZQ.out
      go_simp
      clear z0 z1 z2
      refine hK.out _ _ trivial (fun hHeld => ?_)
      clear hK hHeld
      try simp only [Act.put, List.setIfInBounds_toArray, List.set_cons_zero, List.set_cons_succ]
      refine wpAnyH_ready (rs := [19]) (by kernel_rfl) (by simp) ?_
      refine AllReadyH.cons (o := ⟨some 41, _, _, _, _, _⟩) rfl (fun K hK => ?_) AllReadyH.nil
      go_simp
      obtain ⟨wv, hwv⟩ : ∃ W, W = wq.alloc (.cells #[.int .i64 0, .string (bs []), .int .i64 zo, .int .i64 0, .string (bs []), .int .i64 zo, .int .i64 0, .string (bs []), .int .i64 zo] 93) := ⟨_, rfl⟩
      have hbv : Below wq.heap.size wq wv := by rw [hwv]; exact (Below.refl _ _).alloc (Nat.le_refl _) _
      have hrv : wv.heap[wq.heap.size]? = some (.cells #[.int .i64 0, .string (bs []), .int .i64 zo, .int .i64 0, .string (bs []), .int .i64 zo, .int .i64 0, .string (bs []), .int .i64 zo] 93 (0, 0)) := by rw [hwv]; exact heap_alloc_new wq _
      obtain ⟨v', w', e1, e2, e3⟩ := app3 (z := ⟨0, [], zo⟩) (ty := 90) (v := .slice (some ⟨g, 0, none⟩) nl cap) LOK.out.len (by rw [← NL.out]; exact World.ownsRow.kept OQ.out (Below.grown_ hbv none) (.inr (by simp [Value.ownBlock]))) wq.heap.size (lt_of_block hrv) (range_new (cs := Lx.tokC ⟨0, [], zo⟩ ++ (Lx.tokC ⟨0, [], zo⟩ ++ Lx.tokC ⟨0, [], zo⟩)) hrv) (Nat.le_trans B1.out.size hbv.size)
      have hbB := (B1.out.trans (hbv.mono B1.out.size)).grown e3 (Nat.le_trans B1.out.size hbv.size) (fun q hq => by obtain rfl : g = q := Option.some.inj hq; exact HG.out)
      rw [← hwv]
      clear hwv
      refine hK.out _ _ trivial (fun hHeld => ?_)
      clear hK hHeld
      try simp only [Act.put, List.setIfInBounds_toArray, List.set_cons_zero, List.set_cons_succ]
      refine wpAnyH_ready (rs := [20]) (by kernel_rfl) (by simp) ?_
      refine AllReadyH.cons (o := ⟨some 42, _, _, _, _, _⟩) rfl (fun K hK => ?_) AllReadyH.nil
      refine step_app rfl (.tmp 22) (.tmp 41) 90 rfl _ _ rfl rfl e1 ?_
      refine hK.out _ _ trivial (fun hHeld => ?_)
      clear hK hHeld
      try simp only [Act.put, List.setIfInBounds_toArray, List.set_cons_zero, List.set_cons_succ]
      refine wpAnyH_take (i := 21) (oi := ⟨some 5, _, _, _, _, _⟩) (v := v') rfl (by kernel_rfl) (by kernel_rfl) (by kernel_rfl) (fun _ _ _ h => h) (Or.inl ⟨by rfl, ?_⟩) trivial ?_
      ·intro W' hW
       go_simp
      try simp only [Act.put, List.setIfInBounds_toArray, List.set_cons_zero, List.set_cons_succ]
      refine wpAnyH_done (by kernel_rfl) ?_ _
      refine hK0 _ _ (Met.intro (hR0 _ _ ?_))
      (repeat apply Exists.intro)
      refine ⟨?rel, rfl⟩
      case rel =>
       refine ⟨trivial, ?_⟩
       obtain ⟨tb, tq, tc, a1, a2, -⟩ := rs_of LOK.out ENDS.out rfl rfl e2
       rw [NN.out]
       exact ⟨tb, tq, tc, a1, a2, hbB⟩
    ·obtain ⟨z0, z1, z2⟩ := HZQ.out
     go_simp
     clear z0 z1 z2
     refine hK.out _ _ trivial (fun hHeld => ?_)
     clear hK hHeld
     try simp only [Act.put, List.setIfInBounds_toArray, List.set_cons_zero, List.set_cons_succ]
     refine wpAnyH_ready (rs := [6]) (by kernel_rfl) (by simp) ?_
     refine AllReadyH.cons (o := ⟨some 28, _, _, _, _, _⟩) rfl (fun K hK => ?_) (AllReadyH.nil)
     ·obtain ⟨z0, z1, z2⟩ := HZQ.out
      go_simp
      clear z0 z1 z2
      refine hK.out _ _ trivial (fun hHeld => ?_)
      clear hK hHeld
      try simp only [Act.put, List.setIfInBounds_toArray, List.set_cons_zero, List.set_cons_succ]
      refine wpAnyH_ready (rs := [19]) (by kernel_rfl) (by simp) ?_
      refine AllReadyH.cons (o := ⟨some 41, _, _, _, _, _⟩) rfl (fun K hK => ?_) AllReadyH.nil
      go_simp
      obtain ⟨wv, hwv⟩ : ∃ W, W = wq.alloc (.cells #[.int .i64 0, .string (bs []), .int .i64 zo, .int .i64 0, .string (bs []), .int .i64 zo, .int .i64 0, .string (bs []), .int .i64 zo] 93) := ⟨_, rfl⟩
      have hbv : Below wq.heap.size wq wv := by rw [hwv]; exact (Below.refl _ _).alloc (Nat.le_refl _) _
      have hrv : wv.heap[wq.heap.size]? = some (.cells #[.int .i64 0, .string (bs []), .int .i64 zo, .int .i64 0, .string (bs []), .int .i64 zo, .int .i64 0, .string (bs []), .int .i64 zo] 93 (0, 0)) := by rw [hwv]; exact heap_alloc_new wq _
      obtain ⟨v', w', e1, e2, e3⟩ := app3 (z := ⟨0, [], zo⟩) (ty := 90) (v := .slice (some ⟨g, 0, none⟩) nl cap) LOK.out.len (by rw [← NL.out]; exact World.ownsRow.kept OQ.out (Below.grown_ hbv none) (.inr (by simp [Value.ownBlock]))) wq.heap.size (lt_of_block hrv) (range_new (cs := Lx.tokC ⟨0, [], zo⟩ ++ (Lx.tokC ⟨0, [], zo⟩ ++ Lx.tokC ⟨0, [], zo⟩)) hrv) (Nat.le_trans B1.out.size hbv.size)
      have hbB := (B1.out.trans (hbv.mono B1.out.size)).grown e3 (Nat.le_trans B1.out.size hbv.size) (fun q hq => by obtain rfl : g = q := Option.some.inj hq; exact HG.out)
      rw [← hwv]
      clear hwv
      refine hK.out _ _ trivial (fun hHeld => ?_)
      clear hK hHeld
      try simp only [Act.put, List.setIfInBounds_toArray, List.set_cons_zero, List.set_cons_succ]
      refine wpAnyH_ready (rs := [20]) (by kernel_rfl) (by simp) ?_
      refine AllReadyH.cons (o := ⟨some 42, _, _, _, _, _⟩) rfl (fun K hK => ?_) AllReadyH.nil
      refine step_app rfl (.tmp 22) (.tmp 41) 90 rfl _ _ rfl rfl e1 ?_
      refine hK.out _ _ trivial (fun hHeld => ?_)
      clear hK hHeld
      try simp only [Act.put, List.setIfInBounds_toArray, List.set_cons_zero, List.set_cons_succ]
      refine wpAnyH_take (i := 21) (oi := ⟨some 5, _, _, _, _, _⟩) (v := v') rfl (by kernel_rfl) (by kernel_rfl) (by kernel_rfl) (fun _ _ _ h => h) (Or.inl ⟨by rfl, ?_⟩) trivial ?_
      ·intro W' hW
       go_simp
      try simp only [Act.put, List.setIfInBounds_toArray, List.set_cons_zero, List.set_cons_succ]
      refine wpAnyH_done (by kernel_rfl) ?_ _
      refine hK0 _ _ (Met.intro (hR0 _ _ ?_))
      (repeat apply Exists.intro)
      refine ⟨?rel, rfl⟩
      case rel =>
       refine ⟨trivial, ?_⟩
       obtain ⟨tb, tq, tc, a1, a2, -⟩ := rs_of LOK.out ENDS.out rfl rfl e2
       rw [NN.out]
       exact ⟨tb, tq, tc, a1, a2, hbB⟩
  case rest =>
   obtain ⟨-, tb, tq, tc, rfl, hs, hb⟩ := hcut
   have SC := Lib.hid hs
   have B := Lib.hid hb
   clear hs hb
   have A0 := Lib.hid (show AtR (Lx.scanL s).1 0 ((Lx.scanL s).1.map tkq) from ⟨List.drop_zero, ENDS.out.ne⟩)
   have EN := Lib.hid SC.out.ends
   have KX := Lib.hid ((rexpr_any wc 0 _ SC.out A0.out : Calls Tryz.prog 42 #[.slice (some ⟨tb, tq, none⟩) nn tc, .int .i64 0, .int .i64 0] wc (RX (Lx.scanL s).1 wc (pE ((Lx.scanL s).1.map tkq)))))
   go_wp2_with fail
   refine KX.out.mono ?_
   rintro e w3 ⟨x1, cs, nx1, bd1, rfl, hv, hb, hr⟩
   obtain ⟨k1, n1, s1, m1, A1, na1, ca1, O1, no1, co1, rfl⟩ := hv.cells6
   rw [show (exC k1 n1 s1 m1 A1 na1 ca1 O1 no1 co1).toArray = #[.int .i64 k1, .int .i64 n1, .string (bs s1), .string (bs m1), .slice A1 na1 ca1, .slice O1 no1 co1] from rfl]
   obtain ⟨v3, hv3⟩ : ∃ W, W = w3.alloc (.cells #[.int .i64 k1, .int .i64 n1, .string (bs s1), .string (bs m1), .slice A1 na1 ca1, .slice O1 no1 co1] 54) := ⟨_, rfl⟩
   have hb2 : Below w3.heap.size w3 v3 := by rw [hv3]; exact (Below.refl _ _).alloc (Nat.le_refl _) _
   have HR1 := Lib.hid hr
   have YB1 := Lib.hid (show HB 54 v3 w3.heap.size #[.int .i64 k1, .int .i64 n1, .string (bs s1), .string (bs m1), .slice A1 na1 ca1, .slice O1 no1 co1] from by rw [hv3]; exact heap_alloc_new w3 _)
   have HO1 := Lib.hid (show w0.heap.size ≤ w3.heap.size from Nat.le_trans B.out.size hb.size)
   have V1 := Lib.hid ((hv.more (S' := fun k => w0.heap.size ≤ k) fun k _ hk => Nat.le_trans B.out.size hk).below hb2)
   obtain h0 := SC.out
   clear SC
   have SC := Lib.hid (h0.below hb)
   clear h0
   obtain h0 := B.out
   clear B
   have B := Lib.hid (h0.trans (hb.mono h0.size))
   clear h0
   obtain h0 := SC.out
   clear SC
   have SC := Lib.hid (h0.below hb2)
   clear h0
   obtain h0 := B.out
   clear B
   have B := Lib.hid (h0.trans (hb2.mono h0.size))
   clear h0
   clear hv hb hr hb2 KX
   go_upto_region 6 with fail
   rw [← hv3]
   clear hv3
   generalize w3.heap.size = yb1 at *
   rcases HR1.out.cases with ⟨r, j, hP, rfl, rfl, hA⟩ | ⟨r, j, hP, rfl, hA⟩
   ·have AR := Lib.hid hA
    have HP := Lib.hid hP
    clear hP hA HR1
    obtain ⟨b0, off0, c00, c01, c02⟩ := SC.out.cells AR.out.k
    by_cases hk : kindT r = 0
    ·have K0 := Lib.hid hk
     rw [hk] at c00
     clear hk
     have HT := Lib.hid (rpE_ok HE.out (pX_ok HP.out K0.out))
     go_wp2_with (with_reducible refine at_load_ (t := 54) ?_; refine Hid.out ?_)
     refine Lib.hid ?_
     refine wpList_load_row rfl _ _ rfl yb1 rfl _ _ _ _ YB1.out Tryz.underlying54 rfl rx_size ?_
     have X := Lib.hid (X0.out.below B.out)
     go_wp2_with (with_reducible refine at_store_ (t := 54) ?_; refine Hid.out ?_)
     refine Lib.hid ?_
     refine hb_put rfl _ _ rfl rfl w.heap.size rfl rfl rx_size (by simp [Value.oneCell']) X.out rfl ?_
     intro wz hxz hgz hsz
     clear hsz
     have XZ := Lib.hid hxz
     have GZ := Lib.hid hgz
     have BZ := Lib.hid ((B00.out.trans (B.out.mono B00.out.size)).trans (below_gr hgz (B := w.heap.size) (Nat.le_trans B00.out.size B.out.size) (Nat.le_refl _)))
     clear hxz hgz X
     go_wp2_with fail
     refine bodyPost_ret (results_row3 rfl _ _ w.heap.size _ _ _ _ rfl XZ.out Tryz.underlying54 rfl rx_size _ _ rfl rfl) rfl ?_
     rw [HT.out]
     exact ⟨_, rfl, (V1.out.gr (S' := fun b => w.heap.size ≤ b) GZ.out (fun b _ (hb : w0.heap.size ≤ b) => ⟨by have := HSZ.out; omega, by have := HSZ.out; omega⟩)), BZ.out⟩
    ·have K0 := Lib.hid hk
     have e1 : (kindT r != 0) = true := by simpa using hk
     have e2 : decide (kindT r = 0) = false := by simpa using hk
     have e3 : (0 : Int) ≤ (j : Int) := by omega
     clear hk
     go_wp2_with fail
     refine (rat_any _ j SC.out AR.out.lt).mono ?_
     rintro e wy ⟨rfl, rfl⟩
     rw [at_off AR.out]
     have HT := Lib.hid (rpE_bad HE.out (pX_end HP.out K0.out))
     have X := Lib.hid (X0.out.below B.out)
     go_wp2_with (with_reducible refine at_store_ (t := 54) ?_; refine Hid.out ?_)
     refine Lib.hid ?_
     refine hb_put rfl _ _ rfl rfl w.heap.size rfl rfl rx_size (by simp [Value.oneCell']) X.out rfl ?_
     intro wz hxz hgz hsz
     clear hsz
     have XZ := Lib.hid hxz
     have GZ := Lib.hid hgz
     have BZ := Lib.hid ((B00.out.trans (B.out.mono B00.out.size)).trans (below_gr hgz (B := w.heap.size) (Nat.le_trans B00.out.size B.out.size) (Nat.le_refl _)))
     clear hxz hgz X
     go_wp2_with fail
     refine bodyPost_ret (results_row3 rfl _ _ w.heap.size _ _ _ _ rfl XZ.out Tryz.underlying54 rfl rx_size _ _ rfl rfl) rfl ?_
     rw [HT.out]
     exact ⟨_, rfl, xve _ _, BZ.out⟩
   ·have AR := Lib.hid hA
    have HP := Lib.hid hP
    clear hP hA HR1
    have eb : ¬ ((j : Int) < 0) := by omega
    have e3 : (0 : Int) ≤ (j : Int) := by omega
    go_wp2_with fail
    refine (rat_any _ j SC.out AR.out.lt).mono ?_
    rintro e wy ⟨rfl, rfl⟩
    rw [at_off AR.out]
    have HT := Lib.hid (rpE_bad HE.out (pX_bad HP.out))
    have X := Lib.hid (X0.out.below B.out)
    go_wp2_with (with_reducible refine at_store_ (t := 54) ?_; refine Hid.out ?_)
    refine Lib.hid ?_
    refine hb_put rfl _ _ rfl rfl w.heap.size rfl rfl rx_size (by simp [Value.oneCell']) X.out rfl ?_
    intro wz hxz hgz hsz
    clear hsz
    have XZ := Lib.hid hxz
    have GZ := Lib.hid hgz
    have BZ := Lib.hid ((B00.out.trans (B.out.mono B00.out.size)).trans (below_gr hgz (B := w.heap.size) (Nat.le_trans B00.out.size B.out.size) (Nat.le_refl _)))
    clear hxz hgz X
    go_wp2_with fail
    refine bodyPost_ret (results_row3 rfl _ _ w.heap.size _ _ _ _ rfl XZ.out Tryz.underlying54 rfl rx_size _ _ rfl rfl) rfl ?_
    rw [HT.out]
    exact ⟨_, rfl, xve _ _, BZ.out⟩
 ·have e1 : (er != 0) = true := by simpa using he
  have e2 : decide (er = 0) = false := by simpa using he
  have HE := Lib.hid (show (Lx.scanL s).2.2 ≠ 0 from by rw [← HER.out]; exact he)
  clear he
  have HT := Lib.hid (rpE_err HE.out)
  rw [← HK0.out, ← HER.out] at HT
  clear ho
  have X := Lib.hid (X0.out.below B.out)
  go_wp2_with (with_reducible refine at_store_ (t := 54) ?_; refine Hid.out ?_)
  refine Lib.hid ?_
  refine hb_put rfl _ _ rfl rfl w.heap.size rfl rfl rx_size (by simp [Value.oneCell']) X.out rfl ?_
  intro wz hxz hgz hsz
  clear hsz
  have XZ := Lib.hid hxz
  have GZ := Lib.hid hgz
  have BZ := Lib.hid ((B00.out.trans (B.out.mono B00.out.size)).trans (below_gr hgz (B := w.heap.size) (Nat.le_trans B00.out.size B.out.size) (Nat.le_refl _)))
  clear hxz hgz X
  go_wp2_with fail
  refine bodyPost_ret (results_row3 rfl _ _ w.heap.size _ _ _ _ rfl XZ.out Tryz.underlying54 rfl rx_size _ _ rfl rfl) rfl ?_
  rw [HT.out]
  exact ⟨_, rfl, xve _ _, BZ.out⟩
end Go.Proofs.YtkakbidllpjopaaGreatDoor
namespace Go.Proofs.YtkakbidllpjopaaGreatDoor
open Go.RowKit

/-- An operand's text out of the expression's. -/
def par (e : Ex) (t : Str) : Str := if e.kind = 5 ∨ e.kind = 3 ∨ e.kind = 4 ∨ (e.kind = 6 ∧ 0 < e.orr.length) then [40] ++ t ++ [41] else t
mutual
def txE : Ex → Str
 | .mk k n s m a o => if k = 0 then Lib.itoa n else if k = 1 then Lib.formatBool (decide (n = 1)) else if k = 2 then s
  else if k = 3 then [110, 111, 116, 32] ++ (opEs a).headD [] else if k = 4 then [45] ++ (opEs a).headD []
  else if k = 5 then (opEs a).headD [] ++ [32] ++ m ++ [32] ++ ((opEs a).drop 1).headD []
  else if k = 7 then [104, 111, 115, 116, 46] ++ s ++ [40] ++ Lib.join (txEs a) [44, 32] ++ [41]
  else s ++ [46] ++ m ++ [40] ++ Lib.join (txEs a) [44, 32] ++ [41] ++ (if o.length = 0 then [] else [32, 101, 108, 115, 101, 32] ++ (opEs o).headD [])
def txEs : List Ex → List Str
 | [] => []
 | e :: t => txE e :: txEs t
def opEs : List Ex → List Str
 | [] => []
 | e :: t => par e (txE e) :: opEs t
end
/-- An operand's text. -/
def opE (e : Ex) : Str := par e (txE e)
theorem txEs_map : ∀ l : List Ex, txEs l = l.map txE
 | [] => by rw [txEs]; rfl
 | e :: t => by rw [txEs, txEs_map t]; rfl
theorem opEs_map : ∀ l : List Ex, opEs l = l.map opE
 | [] => by rw [opEs]; rfl
 | e :: t => by rw [opEs, opEs_map t]; rfl
mutual
/-- Its numbers are int64. -/
def Ex.Wd : Ex → Prop
 | .mk _ n _ _ a o => InR n ∧ Ex.Wds a ∧ Ex.Wds o
def Ex.Wds : List Ex → Prop
 | [] => True
 | e :: t => e.Wd ∧ Ex.Wds t
end
theorem Ex.Wds_mem : ∀ {l : List Ex}, Ex.Wds l → ∀ e ∈ l, e.Wd
 | a :: t, h, e, he => by
  rw [Ex.Wds] at h
  rcases List.mem_cons.1 he with rfl | he
  ·exact h.1
  ·exact Ex.Wds_mem h.2 e he
mutual
theorem XV.wd {w : World} {S : Nat → Prop} : ∀ {e : Ex} {cs : List Value}, XV w S e cs → e.Wd
 | .mk k n s m a o, cs, h => by
  rw [XV] at h
  obtain ⟨A, na, ca, O, no, co, _, h0, h2, h3, h4, h5⟩ := h
  rw [Ex.Wd]
  refine ⟨h0, ?_, ?_⟩
  ·cases a with
   | nil => rw [Ex.Wds]; trivial
   | cons e t =>
    obtain ⟨b, q, _, _, _, hx⟩ := h4 (by rw [h2.1]; simp)
    exact XLf.wd hx
  ·cases o with
   | nil => rw [Ex.Wds]; trivial
   | cons e t =>
    obtain ⟨b, q, _, _, _, hx⟩ := h5 (by rw [h3.1]; simp)
    exact XLf.wd hx
theorem XLf.wd {w : World} {S : Nat → Prop} {b q : Nat} : ∀ {i : Nat} {l : List Ex}, XLf w S b q i l → Ex.Wds l
 | _, [], _ => by rw [Ex.Wds]; trivial
 | i, e :: t, h => by
  rw [XLf] at h
  obtain ⟨⟨cs, h1, _⟩, h3⟩ := h
  rw [Ex.Wds]
  exact ⟨XV.wd h1, XLf.wd h3⟩
end
theorem chkEs_all {d : Int} : ∀ {l : List Ex}, chkEs d l = 0 → ∀ x ∈ l, chkE d x = 0
 | [], _, x, h => by cases h
 | e :: t, h, x, hx => by
  rw [chkEs] at h
  split at h
  ·exact absurd h (by assumption)
  ·rename_i h3
   rcases List.mem_cons.1 hx with rfl | hx
   ·exact Classical.not_not.1 h3
   ·exact chkEs_all h x hx
/-- What a valid expression's fields are. -/
theorem chkE_fields {d k n : Int} {s m : Str} {a o : List Ex} (h : chkE d (.mk k n s m a o) = 0) : d ≤ 12 ∧ 0 ≤ k ∧ k ≤ 7 ∧ formE (.mk k n s m a o) = true ∧ ((k = 2 ∨ 6 ≤ k) → nameOk s = true) ∧ (k = 6 → nameOk m = true) ∧ (k ≤ 1 → 0 ≤ n ∧ (k = 1 → n ≤ 1)) ∧ (∀ x ∈ a, chkE (d + 1) x = 0) ∧ (∀ x ∈ o, chkE (d + 1) x = 0) := by
 rw [chkE] at h
 split at h
 ·exact absurd h (by assumption)
 rename_i h0
 have hh : headE d (.mk k n s m a o) = 0 := Classical.not_not.1 h0
 split at h
 ·exact absurd h (by assumption)
 rename_i h1
 have ha := chkEs_all (Classical.not_not.1 h1)
 have ho := chkEs_all h
 clear h h0 h1
 have e : headE d (.mk k n s m a o) = if 12 < d then 18 else if k < 0 ∨ 7 < k then 2 else if formE (.mk k n s m a o) = false then 5 else if ((k = 2 ∨ 6 ≤ k) ∧ nameOk s = false) ∨ (k = 6 ∧ nameOk m = false) then 16 else if k ≤ 1 ∧ (n < 0 ∨ (k = 1 ∧ 1 < n)) then 3 else 0 := rfl
 rw [e] at hh
 split at hh
 ·cases hh
 split at hh
 ·cases hh
 split at hh
 ·cases hh
 split at hh
 ·cases hh
 split at hh
 ·cases hh
 rename_i e1 e2 e3 e4 e5
 refine ⟨by omega, by omega, by omega, by simpa using e3, fun hk => ?_, fun hk => ?_, fun hk => ?_, ha, ho⟩
 ·cases hq : nameOk s with
  | true => rfl
  | false => exact absurd (.inl ⟨hk, hq⟩) e4
 ·cases hq : nameOk m with
  | true => rfl
  | false => exact absurd (.inr ⟨hk, hq⟩) e4
 ·omega
/-- The shapes of valid expressions. -/
inductive Shape (d : Int) : Ex → Prop where
 | num (n : Int) (h : 0 ≤ n) : Shape d (.mk 0 n [] [] [] [])
 | bool (n : Int) (h : n = 0 ∨ n = 1) : Shape d (.mk 1 n [] [] [] [])
 | var (s : Str) (h : nameOk s = true) : Shape d (.mk 2 0 s [] [] [])
 | not (x : Ex) (h : chkE (d + 1) x = 0) : Shape d (.mk 3 0 [] [] [x] [])
 | neg (x : Ex) (h : chkE (d + 1) x = 0) : Shape d (.mk 4 0 [] [] [x] [])
 | bin (m : Str) (x y : Ex) (hm : sgns.contains m = true) (h1 : chkE (d + 1) x = 0) (h2 : chkE (d + 1) y = 0) : Shape d (.mk 5 0 [] m [x, y] [])
 | call (s m : Str) (a o : List Ex) (hs : nameOk s = true) (hm : nameOk m = true) (ha : a.length ≤ 4) (h1 : ∀ x ∈ a, chkE (d + 1) x = 0) (ho : o.length ≤ 1) (h2 : ∀ x ∈ o, chkE (d + 1) x = 0) : Shape d (.mk 6 0 s m a o)
 | host (s : Str) (a : List Ex) (hs : nameOk s = true) (ha : a.length ≤ 4) (h1 : ∀ x ∈ a, chkE (d + 1) x = 0) : Shape d (.mk 7 0 s [] a [])
theorem shape_of {d : Int} {e : Ex} (h : chkE d e = 0) : Shape d e ∧ d ≤ 12 := by
 obtain ⟨k, n, s, m, a, o⟩ := e
 obtain ⟨hd, hk0, hk7, hf, hs, hm, hn, ha, ho⟩ := chkE_fields h
 refine ⟨?_, hd⟩
 rw [formE_mk] at hf
 by_cases e0 : k = 0 ∨ k = 1
 ·rw [if_pos e0] at hf
  simp only [Bool.and_eq_true, decide_eq_true_eq, beq_iff_eq, List.length_eq_zero_iff] at hf
  obtain ⟨⟨⟨rfl, rfl⟩, rfl⟩, rfl⟩ := hf
  rcases e0 with rfl | rfl
  ·exact .num n (hn (by decide)).1
  ·have := hn (by decide)
   exact .bool n (by omega)
 rw [if_neg e0] at hf
 by_cases e2 : k = 2
 ·rw [if_pos e2] at hf
  simp only [Bool.and_eq_true, decide_eq_true_eq, beq_iff_eq, List.length_eq_zero_iff] at hf
  obtain ⟨⟨⟨rfl, rfl⟩, rfl⟩, rfl⟩ := hf
  subst e2
  exact .var s (hs (.inl rfl))
 rw [if_neg e2] at hf
 by_cases e3 : k = 3 ∨ k = 4
 ·rw [if_pos e3] at hf
  simp only [Bool.and_eq_true, decide_eq_true_eq, beq_iff_eq, List.length_eq_zero_iff] at hf
  obtain ⟨⟨⟨⟨rfl, rfl⟩, rfl⟩, hl⟩, rfl⟩ := hf
  obtain ⟨x, rfl⟩ := List.length_eq_one_iff.1 hl
  rcases e3 with rfl | rfl
  ·exact .not x (ha x (by simp))
  ·exact .neg x (ha x (by simp))
 rw [if_neg e3] at hf
 by_cases e5 : k = 5
 ·rw [if_pos e5] at hf
  simp only [Bool.and_eq_true, decide_eq_true_eq, beq_iff_eq, List.length_eq_zero_iff] at hf
  obtain ⟨⟨⟨⟨rfl, rfl⟩, hc⟩, hl⟩, rfl⟩ := hf
  obtain ⟨x, y, rfl⟩ : ∃ x y, a = [x, y] := by
   match a, hl with
   | [x, y], _ => exact ⟨x, y, rfl⟩
  subst e5
  exact .bin m x y hc (ha x (by simp)) (ha y (by simp))
 rw [if_neg e5] at hf
 by_cases e6 : k = 6
 ·rw [if_pos e6] at hf
  simp only [Bool.and_eq_true, decide_eq_true_eq, beq_iff_eq, List.length_eq_zero_iff] at hf
  obtain ⟨⟨rfl, hl⟩, hl2⟩ := hf
  subst e6
  exact .call s m a o (hs (.inr (by decide))) (hm rfl) hl ha hl2 ho
 rw [if_neg e6] at hf
 simp only [Bool.and_eq_true, decide_eq_true_eq, beq_iff_eq, List.length_eq_zero_iff] at hf
 obtain ⟨⟨⟨rfl, rfl⟩, hl⟩, rfl⟩ := hf
 obtain rfl : k = 7 := by omega
 exact .host s a (hs (.inr (by decide))) hl ha
theorem name_len {s : Str} (h : nameOk s = true) : s.length ≤ 24 := by
 unfold nameOk at h
 simp only [Bool.and_eq_true, decide_eq_true_eq] at h
 exact h.1.2
theorem sgn_len {m : Str} (h : sgns.contains m = true) : m.length ≤ 3 := by
 have h2 : ∀ x ∈ sgns, x.length ≤ 3 := by decide
 exact h2 m (by simpa using h)
theorem par_len (e : Ex) (t : Str) : (par e t).length ≤ t.length + 2 := by
 unfold par
 split <;> simp
theorem join_len (sep : Str) : ∀ l : List Str, (Lib.join l sep).length ≤ (l.map List.length).sum + l.length * sep.length
 | [] => by simp [Lib.join, List.intercalate]
 | [x] => by simp [Lib.join, List.intercalate]
 | x :: y :: t => by
  have ih := join_len sep (y :: t)
  have e : Lib.join (x :: y :: t) sep = x ++ sep ++ Lib.join (y :: t) sep := by simp [Lib.join, List.intercalate]
  rw [e]
  simp only [List.length_append, List.map_cons, List.sum_cons, List.length_cons] at ih ⊢
  rw [Nat.succ_mul]
  omega
theorem bool_len (b : Bool) : (Lib.formatBool b).length ≤ 5 := by cases b <;> decide
theorem sizes_sum : ∀ l : List Ex, Ex.sizes l = (l.map Ex.size).sum
 | [] => by rw [Ex.sizes]; rfl
 | e :: t => by rw [Ex.sizes, sizes_sum t]; simp
theorem sum_le {α : Type} (f g : α → Nat) (c : Nat) : ∀ l : List α, (∀ x ∈ l, f x ≤ c * g x) → (l.map f).sum ≤ c * (l.map g).sum
 | [], _ => by simp
 | x :: t, h => by
  have h1 := h x (by simp)
  have h2 := sum_le f g c t fun y hy => h y (by simp [hy])
  simp only [List.map_cons, List.sum_cons, Nat.mul_add]
  omega
theorem txE_len (e : Ex) : ∀ d, chkE d e = 0 → e.Wd → (txE e).length ≤ 130 * e.size := by
 obtain ⟨N, hN⟩ : ∃ N, N = e.size := ⟨_, rfl⟩
 induction N using Nat.strongRecOn generalizing e with
 | _ N ih =>
  intro d h hw
  rcases (shape_of h).1 with ⟨n, hn⟩ | ⟨n, hn⟩ | ⟨s, hs⟩ | ⟨x, hx⟩ | ⟨x, hx⟩ | ⟨m, x, y, hm, hx, hy⟩ | ⟨s, m, a, o, hs, hm, ha, h1, ho, h2⟩ | ⟨s, a, hs, ha, h1⟩
  ·rw [Ex.Wd] at hw
   have := Lib.itoa_length_le n hw.1.1 hw.1.2
   rw [txE, Ex.size, if_pos rfl, Ex.sizes]
   omega
  ·have := bool_len (decide (n = 1))
   rw [txE, Ex.size, if_neg (by decide), if_pos rfl, Ex.sizes]
   omega
  ·have := name_len hs
   simp only [txE, Ex.size, Ex.sizes]
   simp
   omega
  all_goals rw [Ex.Wd] at hw
  ·have hwx := Ex.Wds_mem hw.2.1 x (by simp)
   rw [Ex.size, Ex.sizes, Ex.sizes] at hN
   have := ih x.size (by omega) x rfl _ hx hwx
   have h3 := par_len x (txE x)
   simp only [txE, opEs, Ex.size, Ex.sizes]
   simp
   omega
  ·have hwx := Ex.Wds_mem hw.2.1 x (by simp)
   rw [Ex.size, Ex.sizes, Ex.sizes] at hN
   have := ih x.size (by omega) x rfl _ hx hwx
   have h3 := par_len x (txE x)
   simp only [txE, opEs, Ex.size, Ex.sizes]
   simp
   omega
  ·have hwx := Ex.Wds_mem hw.2.1 x (by simp)
   have hwy := Ex.Wds_mem hw.2.1 y (by simp)
   rw [Ex.size, Ex.sizes, Ex.sizes, Ex.sizes] at hN
   have h1 := ih x.size (by omega) x rfl _ hx hwx
   have h2 := ih y.size (by omega) y rfl _ hy hwy
   have h3 := par_len x (txE x)
   have h4 := par_len y (txE y)
   have h5 := sgn_len hm
   simp only [txE, opEs, Ex.size, Ex.sizes]
   simp
   omega
  ·have hA : (a.map fun x => (txE x).length).sum ≤ 130 * (a.map Ex.size).sum := sum_le _ _ _ _ fun x hx => ih x.size (by
    have := Ex.sizes_mem hx
    rw [hN, Ex.size]; omega) x rfl _ (h1 x hx) (Ex.Wds_mem hw.2.1 x hx)
   have hj := join_len [44, 32] (txEs a)
   rw [txEs_map, List.map_map, List.length_map] at hj
   have hj' : (Lib.join (a.map txE) [44, 32]).length ≤ (a.map fun x => (txE x).length).sum + a.length * 2 := hj
   have n1 := name_len hs
   have n2 := name_len hm
   have hO : (if o.length = 0 then [] else [32, 101, 108, 115, 101, 32] ++ (opEs o).headD []).length ≤ 130 * Ex.sizes o + 8 := by
    match o, ho, h2, hN with
    | [], _, _, _ => simp
    | [x], _, h2, hN =>
     have h3 := ih x.size (by rw [hN, Ex.size, Ex.sizes, Ex.sizes]; omega) x rfl _ (h2 x (by simp)) (Ex.Wds_mem hw.2.2 x (by simp))
     have h4 := par_len x (txE x)
     simp only [opEs, Ex.sizes]
     simp
     omega
   rw [txE, Ex.size, sizes_sum a, txEs_map]
   rw [if_neg (by decide), if_neg (by decide), if_neg (by decide), if_neg (by decide), if_neg (by decide), if_neg (by decide), if_neg (by decide)]
   simp only [List.length_append, List.length_cons, List.length_nil] at hO ⊢
   omega
  ·have hA : (a.map fun x => (txE x).length).sum ≤ 130 * (a.map Ex.size).sum := sum_le _ _ _ _ fun x hx => ih x.size (by
    have := Ex.sizes_mem hx
    rw [hN, Ex.size]; omega) x rfl _ (h1 x hx) (Ex.Wds_mem hw.2.1 x hx)
   have hj := join_len [44, 32] (txEs a)
   rw [txEs_map, List.map_map, List.length_map] at hj
   have hj' : (Lib.join (a.map txE) [44, 32]).length ≤ (a.map fun x => (txE x).length).sum + a.length * 2 := hj
   have n1 := name_len hs
   rw [txE, Ex.size, sizes_sum a, txEs_map]
   rw [if_neg (by decide), if_neg (by decide), if_neg (by decide), if_neg (by decide), if_neg (by decide), if_neg (by decide), if_pos rfl]
   simp only [List.length_append, List.length_cons, List.length_nil]
   omega
end Go.Proofs.YtkakbidllpjopaaGreatDoor
namespace Go.Proofs
open Go.Shelf
def Tryz.lays105_ren : Go.Shelf.Ren := ⟨fun | 105 => 50 | 212 => 83 | 99 => 80 | 165 => 51 | 166 => 49 | 170 => 28 | 169 => 29 | 263 => 107 | 264 => 108 | 206 => 104 | 240 => 82 | 241 => 84 | 276 => 106 | 277 => 109 | n => n, fun | 9 => 9 | 3 => 3 | 4 => 4 | 20 => 20 | 0 => 0 | 46 => 151 | 109 => 152 | 5 => 5 | 72 => 79 | 76 => 123 | 51 => 169 | 146 => 170 | 53 => 157 | 148 => 172 | 70 => 77 | 37 => 58 | 75 => 122 | 127 => 128 | 164 => 167 | 80 => 88 | n => n, fun | n => n⟩
theorem Tryz.lays105 : Go.Proofs.Lays.n105 Tryz.prog Tryz.lays105_ren := {
 mixed := by kernel_rfl
 f99 := Tryz.func80.trans (congrArg some (by kernel_rfl))
 f105 := Tryz.func50.trans (congrArg some (by kernel_rfl))
 f165 := Tryz.func51.trans (congrArg some (by kernel_rfl))
 f166 := Tryz.func49.trans (congrArg some (by kernel_rfl))
 f169 := Tryz.func29.trans (congrArg some (by kernel_rfl))
 f170 := Tryz.func28.trans (congrArg some (by kernel_rfl))
 f206 := Tryz.func104.trans (congrArg some (by kernel_rfl))
 f212 := Tryz.func83.trans (congrArg some (by kernel_rfl))
 f240 := Tryz.func82.trans (congrArg some (by kernel_rfl))
 f241 := Tryz.func84.trans (congrArg some (by kernel_rfl))
 f263 := Tryz.func107.trans (congrArg some (by kernel_rfl))
 f264 := Tryz.func108.trans (congrArg some (by kernel_rfl))
 f276 := Tryz.func106.trans (congrArg some (by kernel_rfl))
 f277 := Tryz.func109.trans (congrArg some (by kernel_rfl))
 t0 := Tryz.underlying0
 a0 := Tryz.isAgg0
 z0 := Tryz.sizeOf0
 v0 := Tryz.zeroValue0
 t3 := Tryz.underlying3
 a3 := Tryz.isAgg3
 z3 := Tryz.sizeOf3
 v3 := Tryz.zeroValue3
 t4 := Tryz.underlying4
 a4 := Tryz.isAgg4
 z4 := Tryz.sizeOf4
 v4 := Tryz.zeroValue4
 t5 := Tryz.underlying5
 a5 := Tryz.isAgg5
 z5 := Tryz.sizeOf5
 v5 := Tryz.zeroValue5
 t9 := Tryz.underlying9
 a9 := Tryz.isAgg9
 z9 := Tryz.sizeOf9
 v9 := Tryz.zeroValue9
 t20 := Tryz.underlying20
 a20 := Tryz.isAgg20
 z20 := Tryz.sizeOf20
 v20 := Tryz.zeroValue20
 t37 := Tryz.underlying58
 a37 := Tryz.isAgg58
 z37 := Tryz.sizeOf58
 v37 := Tryz.zeroValue58
 t46 := Tryz.underlying151
 a46 := Tryz.isAgg151
 z46 := Tryz.sizeOf151
 v46 := Tryz.zeroValue151
 t51 := Tryz.underlying169
 a51 := Tryz.isAgg169
 z51 := Tryz.sizeOf169
 v51 := Tryz.zeroValue169
 t53 := Tryz.underlying157
 a53 := Tryz.isAgg157
 z53 := Tryz.sizeOf157
 v53 := Tryz.zeroValue157
 t70 := Tryz.underlying77
 a70 := Tryz.isAgg77
 z70 := Tryz.sizeOf77
 v70 := Tryz.zeroValue77
 t72 := Tryz.underlying79
 a72 := Tryz.isAgg79
 z72 := Tryz.sizeOf79
 v72 := Tryz.zeroValue79
 t75 := Tryz.underlying122
 a75 := Tryz.isAgg122
 z75 := Tryz.sizeOf122
 v75 := Tryz.zeroValue122
 t76 := Tryz.underlying123
 a76 := Tryz.isAgg123
 z76 := Tryz.sizeOf123
 v76 := Tryz.zeroValue123
 t109 := Tryz.underlying152
 a109 := Tryz.isAgg152
 z109 := Tryz.sizeOf152
 v109 := Tryz.zeroValue152
 t127 := Tryz.underlying128
 a127 := Tryz.isAgg128
 z127 := Tryz.sizeOf128
 v127 := Tryz.zeroValue128
 t146 := Tryz.underlying170
 a146 := Tryz.isAgg170
 z146 := Tryz.sizeOf170
 v146 := Tryz.zeroValue170
 t148 := Tryz.underlying172
 a148 := Tryz.isAgg172
 z148 := Tryz.sizeOf172
 v148 := Tryz.zeroValue172
 t164 := Tryz.underlying167
 a164 := Tryz.isAgg167
 z164 := Tryz.sizeOf167
 v164 := Tryz.zeroValue167 }
theorem Tryz.Builder_Extra_105 : Builder.Extra Tryz.prog Tryz.lays105_ren := {
 sizeBuilder := by kernel_rfl
 liesBuilder := by kernel_rfl
 t5 := Tryz.underlying5
 a5 := Tryz.isAgg5
 z5 := Tryz.sizeOf5
 v5 := Tryz.zeroValue5
 infoByte := by kernel_rfl
 cellsByte := by kernel_rfl
 sizeByte := by kernel_rfl
 neB5 := by decide }
open Go.RowKit Go.Sort Go.Lib in
theorem Tryz.strings_Repeat (s : ByteArray) (c : Nat) (w : World) (hc : c ≤ 9223372036854775807) (hlen : s.size * c ≤ 140737488355328) :
  Calls Tryz.prog 50 #[.string s, .int .i64 c] w fun e w' => e = .returned (.string ⟨(Lib.repeatL s.data.toList c).toArray⟩) ∧ Below w.heap.size w w' := Any.strings_Repeat Tryz.lays105 Tryz.Builder_Extra_105 s c w hc hlen
def Tryz.lays121_ren : Go.Shelf.Ren := ⟨fun | 121 => 110 | 214 => 129 | n => n, fun | 4 => 4 | 9 => 9 | n => n, fun | n => n⟩
theorem Tryz.lays121 : Go.Proofs.Lays.n121 Tryz.prog Tryz.lays121_ren := {
 mixed := by kernel_rfl
 f121 := Tryz.func110.trans (congrArg some (by kernel_rfl))
 f214 := Tryz.func129.trans (congrArg some (by kernel_rfl))
 t4 := Tryz.underlying4
 a4 := Tryz.isAgg4
 z4 := Tryz.sizeOf4
 v4 := Tryz.zeroValue4
 t9 := Tryz.underlying9
 a9 := Tryz.isAgg9
 z9 := Tryz.sizeOf9
 v9 := Tryz.zeroValue9 }
open Go.RowKit Go.Sort Go.Lib in
theorem Tryz.strconv_FormatBool (b : Bool) (w : World) :
  Calls Tryz.prog 110 #[.bool b] w fun e w' => e = .returned (.string ⟨(Lib.formatBool b).toArray⟩) ∧ w' = w := Any.strconv_FormatBool Tryz.lays121 b w
end Go.Proofs
namespace Go.Proofs.YtkakbidllpjopaaGreatDoor
open Go.RowKit

/-- A row of the call's own that holds strings. -/
abbrev OwnS (w : World) (base : Nat) (v : Value) (L : List (List UInt8)) : Prop := w.ownsRow base 9 1 v L.length (L.map fun x => Value.string (bs x))
theorem Tryz.infoS3 : (Tryz.prog.info? 9).map (fun i => (i.zero, i.size, i.bytes)) = some (some (.string ⟨#[]⟩), 1, 16) := by kernel_rfl
theorem infoS : ∃ i, Tryz.prog.info? 9 = some i ∧ i.zero = some (.string ⟨#[]⟩) ∧ i.size = 1 ∧ i.bytes = 16 := by
 obtain ⟨i, h1, h2⟩ := Option.map_eq_some_iff.1 Tryz.infoS3
 injection h2 with h2 h3
 injection h3 with h3 h4
 exact ⟨i, h1, h2, h3, h4⟩
theorem OwnS.below {w w' : World} {base : Nat} {v : Value} {L : List (List UInt8)} (h : OwnS w base v L) (hb : Below w.heap.size w w') : OwnS w' base v L :=
 World.ownsRow.kept (row := none) h ⟨hb.os, hb.tape, hb.output, hb.size, fun k hk _ => hb.block k hk⟩ (by cases hv : v.ownBlock <;> simp)
set_option maxRecDepth 100000 in
/-- append of one string onto a row of the call's own. -/
theorem as_any {w : World} {ops : Array Oper} {rest : List Oper} {o : Oper} {a : Act} {Q : Exit → Act → World → Prop} (hgd : o.guard = none) (s x : Operand)
  (ho : o.op = .call { callee := .builtin .append, args := #[s, x], argTypes := #[22, 22] }) (base : Nat) (v : Value) (L : List (List UInt8)) (hs : a.eval s = v) (hO : OwnS w base v L)
  (q : Nat) (u : List UInt8) (hx : a.eval x = .slice (some ⟨q, 0, none⟩) 1 1) (hq : q < w.heap.size) (hc : w.cell? ⟨q, 0, none⟩ = some (.string (bs u))) (h1 : L.length + 1 ≤ 100000) (hb : base ≤ w.heap.size)
  (h : ∀ v' w', OwnS w' base v' (L ++ [u]) → w.grownBy w' v.ownBlock → (v'.ownBlock = v.ownBlock ∨ v'.ownBlock = some w.heap.size) → wpList Tryz.prog ops Q rest (a.put o.dst v') w') : wpList Tryz.prog ops Q (o :: rest) a w := by
 obtain ⟨ie, hie0, hie1, hie2, hie3⟩ := infoS
 have hR : Reads w (fun _ => True) 1 (some ⟨q, 0, none⟩) 1 [Value.string (bs u)] := ⟨rfl, fun _ => ⟨q, 0, rfl, hq, trivial, fun j y hy => by
  obtain rfl : j = 0 := by have := (List.getElem?_eq_some_iff.1 hy).1; simpa using this
  injection hy with hy
  subst hy
  exact hc⟩⟩
 refine wpList_append_any hgd s x 22 ho base 9 ie _ 1 16 Tryz.underlying22 hie0 hie1 hie2 hie3 rfl (by omega) v L.length _ hs hO (fun _ => True) _ 1 1 _ hx hR (by intro u hu; rw [List.mem_singleton.1 hu]; rfl) (by simp only [maxLen]; omega) (by omega) hb ?_
 intro v' w' h2 h3 h4
 refine h v' w' ?_ h3 h4
 show w'.ownsRow base _ 1 v' (L ++ [u]).length ((L ++ [u]).map fun x => Value.string (bs x))
 rw [List.map_append, List.length_append]
 exact h2
theorem join_own {w : World} {base : Nat} {v : Value} {L : List (List UInt8)} (h : OwnS w base v L) (sep : List UInt8) (hN : L.length ≤ 100000) (hlen : (Lib.join L sep).length ≤ 100000000) :
  Calls Tryz.prog 26 #[v, .string (bs sep)] w fun e w' => e = .returned (.string (bs (Lib.join L sep))) ∧ Below w.heap.size w w' := by
 obtain ⟨A, c, rfl, hc, hA, hR⟩ := own_reads (S := fun _ => True) h (fun _ _ => trivial)
 cases L with
 | nil =>
  refine (Tryz.strings_Join_none A c (bs sep) w).mono ?_
  rintro e w' ⟨rfl, rfl⟩
  exact ⟨rfl, Below.refl _ _⟩
 | cons x t =>
  obtain ⟨b, o, rfl, hb, _, hcell⟩ := hR.2 (by simp)
  have e : ((x :: t).map bs).map (fun s => s.data.toList) = x :: t := by
   rw [List.map_map]
   exact (List.map_congr_left fun y _ => rfl).trans (List.map_id _)
  have hJ := Tryz.strings_Join b o c ((x :: t).map bs) (bs sep) w (fun j y hy => by
   rw [List.getElem?_map] at hy
   obtain ⟨z, hz, rfl⟩ := Option.map_eq_some_iff.1 hy
   exact hcell j _ (by rw [List.getElem?_map, hz]; rfl)) hb (by rw [List.length_map]; omega) (by rw [List.length_map]; exact hc) (by rw [e, bs_list]; omega)
  rw [e, bs_list, List.length_map] at hJ
  exact hJ

theorem own_bz {wo wb W : World} {base : Nat} {v : Value} {L : List (List UInt8)} {o : Obj} (h : OwnS wo base v L) (hk : Below wo.heap.size wo wb) (hb : Bz wb W) : OwnS (W.alloc o) base v L :=
 OwnS.below (OwnS.below (OwnS.below h hk) hb.b) ((Below.refl _ _).alloc (Nat.le_refl _) _)
theorem lt_new (W : World) (o : Obj) : W.heap.size < (W.alloc o).heap.size := by simp
theorem cell_new (W : World) (v : Value) {t : TypeId} : (W.alloc (.cells #[v] t)).cell? ⟨W.heap.size, 0, none⟩ = some v := by rw [World.cell?_alloc_at _ _ _ _ rfl]; rfl
theorem size_bz {w wo wb W : World} {o : Obj} (h : Below w.heap.size w wo) (hk : Below wo.heap.size wo wb) (hb : Bz wb W) : w.heap.size ≤ (W.alloc o).heap.size := by
 have h1 := h.size
 have h2 := hk.size
 have h3 := hb.b.size
 simp
 omega
theorem below_bz {w wb W w4 : World} {o : Obj} {v : Value} (h : Below w.heap.size w wb) (hb : Bz wb W) (hg : (W.alloc o).grownBy w4 v.ownBlock) (hv : ∀ q, v.ownBlock = some q → w.heap.size ≤ q) : Below w.heap.size w w4 := by
 have h1 := h.trans (hb.b.mono h.size)
 exact (h1.alloc h1.size o).grown hg (by have := h1.size; simp; omega) hv


def TextAt (e : Ex) : Prop := ∀ (d : Int) (w : World) (S : Nat → Prop) (cs : List Value), SxW w → chkE d e = 0 → e.size ≤ 100000 → XV w S e cs → Calls Tryz.prog 85 #[.agg cs.toArray] w fun e' w' => e' = .returned (.string (bs (txE e))) ∧ Below w.heap.size w w'
def OperAt (e : Ex) : Prop := ∀ (d : Int) (w : World) (S : Nat → Prop) (cs : List Value), SxW w → chkE d e = 0 → e.size ≤ 100000 → XV w S e cs → Calls Tryz.prog 111 #[.agg cs.toArray] w fun e' w' => e' = .returned (.string (bs (opE e))) ∧ Below w.heap.size w w'
def ListAt (l : List Ex) : Prop := ∀ (d : Int) (w : World) (S : Nat → Prop) (A : Option Addr) (n c : Nat), SxW w → (∀ x ∈ l, chkE d x = 0) → Ex.sizes l ≤ 100000 → XL w S A n c l → Calls Tryz.prog 112 #[.slice A n c] w fun e' w' => e' = .returned (.string (bs (Lib.join (l.map txE) [44, 32]))) ∧ Below w.heap.size w w'
theorem add_big (x y : List UInt8) (h : x.length + y.length ≤ 1000000000) (w : World) : (Op.stringOp .add (bs x) (bs y)).run Tryz.prog w = .ok (.string (bs (x ++ y))) w := by
 unfold bs
 rw [run_string_add_sum w _ _ (by simp [ByteArray.size]; omega)]
 congr 2
theorem fmtI_any (n : Int) (h : InR n) (w : World) (hp : SxW w) :
  Calls Tryz.prog 86 #[.int .i64 n, .int .i64 10] w fun e w' => e = .returned (.string (bs (Lib.itoa n))) ∧ Below w.heap.size w w' :=
 (Go.Proofs.Any.strconv_FormatInt_10 Tryz.laysM173 n h.1 h.2 w hp.pow).mono fun e w' ⟨he, k, os, hw⟩ => ⟨he, hw ▸ Lib.below_grow _ w (Nat.le_refl _) k os⟩

set_option maxRecDepth 100000 in
set_option maxHeartbeats 12800000 in
theorem operand_par (k n : Int) (s m : Str) (a o : List Ex) (d : Int) (w : World) (S : Nat → Prop) (cs : List Value) (hw : SxW w) (hc : chkE d (.mk k n s m a o) = 0) (hz : (Ex.mk k n s m a o).size ≤ 100000) (hx : XV w S (.mk k n s m a o) cs) (ih : TextAt (.mk k n s m a o)) :
  Calls Tryz.prog 111 #[.agg cs.toArray] w fun e' w' => e' = .returned (.string (bs (opE (.mk k n s m a o)))) ∧ Below w.heap.size w w' := by
 have hb := (Below.refl w.heap.size w).alloc (Nat.le_refl _) (.cells cs.toArray 27)
 have HT := Lib.hid (ih d _ S cs (hw.below hb) hc hz (hx.below hb))
 have HB := Lib.hid hb
 have hlen := txE_len _ d hc hx.wd
 obtain ⟨A, na, ca, O, no, co, rfl, hA, hO⟩ := hx.open_
 obtain ⟨t, ht⟩ : ∃ t, t = txE (.mk k n s m a o) := ⟨_, rfl⟩
 have e : opE (.mk k n s m a o) = if k = 5 ∨ k = 3 ∨ k = 4 ∨ (k = 6 ∧ 0 < no) then [40] ++ t ++ [41] else t := by
  rw [ht, hO.1.1]; rfl
 rw [← ht] at HT hlen
 obtain ⟨T, hT⟩ : ∃ T, T = opE (.mk k n s m a o) := ⟨_, rfl⟩
 rw [← hT]
 rw [e] at hT
 obtain ⟨c1, hc1⟩ : ∃ c, c = ([40] : Str) ++ t := ⟨_, rfl⟩
 have lc1 : c1.length = 1 + t.length := by rw [hc1]; exact List.length_append
 have jc1 : ∀ w, (Op.stringOp .add (⟨#[40]⟩ : ByteArray) (bs t)).run Tryz.prog w = .ok (.string (bs c1)) w := fun w => by rw [hc1]; exact add_big ([40] : Str) t (by first | omega | (simp; omega)) w
 obtain ⟨c2, hc2⟩ : ∃ c, c = c1 ++ ([41] : Str) := ⟨_, rfl⟩
 have lc2 : c2.length = c1.length + 1 := by rw [hc2]; exact List.length_append
 have jc2 : ∀ w, (Op.stringOp .add (bs c1) (⟨#[41]⟩ : ByteArray)).run Tryz.prog w = .ok (.string (bs c2)) w := fun w => by rw [hc2]; exact add_big c1 ([41] : Str) (by first | omega | (simp; omega)) w
 have hcc : c2 = [40] ++ t ++ [41] := by rw [hc2, hc1]
 rw [← hcc] at hT
 clear hb hw hc hz hx ih hA hO e ht hlen hc1 hc2 lc1 lc2 hcc
 unfold exC at HT HB ⊢
 by_cases k5 : k = 5
 ·subst k5
  obtain rfl : T = c2 := by rw [hT, if_pos (by omega)]
  clear hT
  go_enter Tryz.func111, Tryz.ntmps111
  go_wp2_with fail
  refine HT.out.mono ?_
  rintro e w1 ⟨rfl, hb⟩
  go_wp2
  go_ret
  exact ⟨rfl, below_new hb⟩
 by_cases k3 : k = 3
 ·subst k3
  obtain rfl : T = c2 := by rw [hT, if_pos (by omega)]
  clear hT
  go_enter Tryz.func111, Tryz.ntmps111
  go_wp2_with fail
  refine HT.out.mono ?_
  rintro e w1 ⟨rfl, hb⟩
  go_wp2
  go_ret
  exact ⟨rfl, below_new hb⟩
 by_cases k4 : k = 4
 ·subst k4
  obtain rfl : T = c2 := by rw [hT, if_pos (by omega)]
  clear hT
  go_enter Tryz.func111, Tryz.ntmps111
  go_wp2_with fail
  refine HT.out.mono ?_
  rintro e w1 ⟨rfl, hb⟩
  go_wp2
  go_ret
  exact ⟨rfl, below_new hb⟩
 by_cases k6 : k = 6
 ·subst k6
  by_cases no0 : 0 < (no : Int)
  ·obtain rfl : T = c2 := by rw [hT, if_pos (by omega)]
   clear hT
   go_enter Tryz.func111, Tryz.ntmps111
   go_wp2_with fail
   refine HT.out.mono ?_
   rintro e w1 ⟨rfl, hb⟩
   go_wp2
   go_ret
   exact ⟨rfl, below_new hb⟩
  ·obtain rfl : T = t := by rw [hT, if_neg (by omega)]
   clear hT jc1 jc2
   go_enter Tryz.func111, Tryz.ntmps111
   go_wp2_with fail
   refine HT.out.mono ?_
   rintro e w1 ⟨rfl, hb⟩
   go_wp2
   go_ret
   exact ⟨rfl, below_new hb⟩
 ·obtain rfl : T = t := by rw [hT, if_neg (by omega)]
  have k51 : (k == 5) = false := by simp [k5]
  have k31 : (k == 3) = false := by simp [k3]
  have k41 : (k == 4) = false := by simp [k4]
  have k61 : (k == 6) = false := by simp [k6]
  clear hT jc1 jc2 k5 k3 k4 k6
  go_enter Tryz.func111, Tryz.ntmps111
  go_wp2_with fail
  refine HT.out.mono ?_
  rintro e w1 ⟨rfl, hb⟩
  go_wp2
  go_ret
  exact ⟨rfl, below_new hb⟩
theorem operAt_of {e : Ex} (h : TextAt e) : OperAt e := by
 obtain ⟨k, n, s, m, a, o⟩ := e
 exact fun d w S cs hw hc hz hx => operand_par k n s m a o d w S cs hw hc hz hx h
theorem texts_len {l : List Ex} {d : Int} (h : ∀ x ∈ l, chkE d x = 0) (hw : Ex.Wds l) (hz : Ex.sizes l ≤ 100000) : (Lib.join (l.map txE) [44, 32]).length ≤ 130 * Ex.sizes l + l.length * 2 := by
 have hA : (l.map fun x => (txE x).length).sum ≤ 130 * (l.map Ex.size).sum := sum_le _ _ _ _ fun x hx => txE_len x d (h x hx) (Ex.Wds_mem hw x hx)
 have hj := join_len [44, 32] (l.map txE)
 rw [List.map_map, List.length_map] at hj
 have hj' : (Lib.join (l.map txE) [44, 32]).length ≤ (l.map fun x => (txE x).length).sum + l.length * 2 := hj
 rw [sizes_sum]
 omega
theorem XL.wds {w : World} {S : Nat → Prop} {A : Option Addr} {n c : Nat} {l : List Ex} (h : XL w S A n c l) : Ex.Wds l := by
 cases l with
 | nil => rw [Ex.Wds]; trivial
 | cons e t =>
  obtain ⟨b, q, _, _, _, hx⟩ := h.2 (by rw [h.1.1]; simp)
  exact XLf.wd hx
theorem Ex.len_sizes : ∀ (l : List Ex), l.length ≤ Ex.sizes l
 | [] => Nat.zero_le _
 | e :: t => by
  have := Ex.len_sizes t
  obtain ⟨k, n, s, m, a, o⟩ := e
  rw [Ex.sizes, Ex.size, List.length_cons]
  omega
set_option maxRecDepth 100000 in
set_option maxHeartbeats 12800000 in
theorem listAt_of {l : List Ex} (h : ∀ x ∈ l, TextAt x) : ListAt l := by
 intro d w S A n c hw hc hz hl
 have HIN := Lib.hid h
 have HL := Lib.hid hl
 have HLN := Lib.hid hl.1.1
 have HWS := Lib.hid hw
 have HC := Lib.hid hc
 have HZ := Lib.hid hz
 have hn6 : (n : Int) ≤ 100000 := by have := hl.1.1; have := Ex.len_sizes l; omega
 have HJL := Lib.hid (texts_len hc hl.wds hz)
 have HO0 := Lib.hid (show OwnS w w.heap.size (.slice none 0 0) ((l.take 0).map txE) from World.ownsRow_nil _ _ _ _)
 have HB0 := Lib.hid (Below.refl w.heap.size w)
 obtain ⟨T, hT⟩ : ∃ T, T = Lib.join (l.map txE) [44, 32] := ⟨_, rfl⟩
 rw [← hT]
 have HT := Lib.hid hT
 clear h hl hw hc hz hT
 go_enter Tryz.func112, Tryz.ntmps112
 go_wp2_with fail
 go_loopw [3, 8] (fun vv i wr => ∃ k : Nat, k ≤ l.length ∧ i = .int .i64 k ∧ Hid (OwnS wr w.heap.size vv ((l.take k).map txE)) ∧ Hid (Below w.heap.size w wr)) (fun _ i _ => l.length - (intOf i).toNat)
 case atStart => exact ⟨0, Nat.zero_le _, rfl, HO0, HB0⟩
 case round =>
  clear HO0 HB0
  obtain ⟨k, hk, rfl, HO, HB⟩ := hrel
  by_cases hlt : k < l.length
  ·have hi2 : (k : Int) < (n : Int) := by have := HLN.out; omega
   obtain ⟨x, b, off, cs, hx, rfl, hb, hS, hxv, hrow⟩ := HL.out.at k (by have := HLN.out; omega)
   have HQL := Lib.hid hlt
   have HXQ := Lib.hid hx
   have hmem := List.mem_of_getElem? hx
   have hbb := HB.out.alloc HB.out.size (.cells cs.toArray 27)
   have HTX := Lib.hid (HIN.out x hmem d _ S cs (HWS.out.below hbb) (HC.out x hmem) (by have := Ex.sizes_mem hmem; have := HZ.out; omega) (hxv.below hbb))
   have HBB := Lib.hid hbb
   obtain ⟨t, ht⟩ : ∃ t, t = txE x := ⟨_, rfl⟩
   rw [← ht] at HTX
   have HSN := Lib.hid (show (l.take (k + 1)).map txE = (l.take k).map txE ++ [t] by rw [List.take_add_one, hx, ht]; simp)
   have hrow2 := rangeAt_keep hrow (HB.out.block b hb)
   obtain ⟨xk, xn, xs, xm, xa, xo⟩ := x
   obtain ⟨A2, na2, ca2, O2, no2, co2, rfl, -, -⟩ := hxv.open_
   obtain ⟨e0, e1, e2, e3, e4, e5⟩ := exC_at hrow2
   have HK1 := Lib.hid (show Below wr.heap.size wr (wr.alloc (.cells (exC xk xn xs xm A2 na2 ca2 O2 no2 co2).toArray 27)) from (Below.refl _ _).alloc (Nat.le_refl _) _)
   clear hx hb hS hxv hrow hrow2 hlt hmem hbb ht
   unfold exC at HTX HBB HK1
   have HM := Lib.hid (show ((l.take k).map txE).length ≤ 100000 by rw [List.length_map, List.length_take]; have := Ex.len_sizes l; have := HZ.out; omega)
   have HLTK := Lib.hid (show ((l.take k).map txE).length + 1 ≤ 100000 by rw [List.length_map, List.length_take]; have := Ex.len_sizes l; have := HZ.out; have := HQL.out; omega)
   go_wp2_with fail
   refine HTX.out.mono ?_
   rintro e wo ⟨rfl, hbo⟩
   have zo : Bz (wr.alloc (.cells #[.int .i64 xk, .int .i64 xn, .string (bs xs), .string (bs xm), .slice A2 na2 ca2, .slice O2 no2 co2] 27)) wo := ⟨hbo⟩
   clear hbo e0 e1 e2 e3 e4 e5 HTX
   go_wp2_with ((at_builtin; refine as_any rfl (.tmp 12) (.tmp 15) rfl w.heap.size _ ((l.take k).map txE) rfl ?_ _ t rfl (lt_new _ _) (cell_new _ _) HLTK.out ?_ ?_))
   rotate_left
   rotate_left
   intro v3 w4 ho hg hv
   have hB4 := below_bz HBB.out (by assumption) hg (fun q hq => (HO.out.lt q hq).1)
   have HO4 := Lib.hid ho
   have HB4 := Lib.hid hB4
   clear ho hg hv hB4
   go_wp2
   go_roundw
   case rel => exact ⟨k + 1, HQL.out, by go_num, Lib.hid (by rw [HSN.out, List.map_take]; exact HO4.out), HB4⟩
   case measure => exact meas_up _ _ HQL.out
   ·exact own_bz HO.out HK1.out (by assumption)
   ·exact size_bz HB.out HK1.out (by assumption)
  ·have hi2 : ¬ (k : Int) < (n : Int) := by have := HLN.out; omega
   have HF := Lib.hid (show l.take k = l from List.take_of_length_le (by omega))
   rw [HF.out] at HO
   have C4 := Lib.hid (join_own HO.out [44, 32] (by rw [List.length_map]; have := Ex.len_sizes l; have := HZ.out; omega) (by have := HJL.out; have := Ex.len_sizes l; have := HZ.out; omega))
   rw [← HT.out] at C4
   have C5 : Hid (∀ x : Unit, Calls Tryz.prog 26 #[_, .string ⟨#[44, 32]⟩] wr fun e w' => e = .returned (.string (bs T)) ∧ Below wr.heap.size wr w') := Lib.hid (fun _ => C4.out)
   clear C4 HT hlt hk
   go_wp2_with fail
   refine (C5.out ()).mono ?_
   rintro e w9 ⟨rfl, hb⟩
   have HB9 := Lib.hid (HB.out.trans (hb.mono HB.out.size))
   clear hb
   go_wp2
   go_ret
   exact ⟨rfl, HB9.out⟩
end Go.Proofs.YtkakbidllpjopaaGreatDoor
