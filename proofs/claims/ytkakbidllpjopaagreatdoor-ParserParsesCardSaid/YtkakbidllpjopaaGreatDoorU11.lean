/- The walk of the reference's Scan in one contract: it answers what scanL says. Condition: at most 65536 bytes. The reference parser's tokens with three ends behind them; the walk of its Expr. No condition beyond 65536 bytes. The walk of the reference parser's Parse. No condition beyond 65536 bytes. -/
import Derived.Test.YtkakbidllpjopaaGreatDoorU10
set_option linter.unusedVariables false
set_option linter.unusedSimpArgs false
set_option maxRecDepth 100000
set_option maxHeartbeats 12800000
namespace Go.Proofs.YtkakbidllpjopaaGreatDoor.Lx
open Go.RowKit
theorem Tryz.info93 : (Tryz.prog.info? 93).map (fun i => (i.zero, i.size, i.bytes)) = some (some (.agg #[.int .i64 0, .string { data := #[] }, .int .i64 0]), 3, 32) := by kernel_rfl
theorem rkeys_at (w : World) : Calls Tryz.prog 63 #[] w fun e w' => ∃ g, e = .returned (.slice (some ⟨g, 0, none⟩) 14 14) /\ w'.heap[g]? = some (.cells (strRow kws) 9 (0, 0)) /\ Below w.heap.size w w' :=
 (rkeys_any w).mono fun e w' h => ⟨_, h.1, by rw [h.2]; exact heap_alloc_new _ _, by rw [h.2]; exact (Below.refl _ _).alloc (Nat.le_refl _) _⟩
theorem rscan_any (l : List UInt8) (w : World) (hl : l.length <= 65536) :
  Calls Tryz.prog 31 #[.string (bs l)] w fun e w' => ∃ v, e = .returned (.tuple #[v, .int .i64 ((scanL l).2.1 : Int), .int .i64 (scanL l).2.2]) /\ w'.ownsRow w.heap.size 93 3 v (scanL l).1.length ((scanL l).1.flatMap tokC) /\ Below w.heap.size w w' := by
 obtain ⟨ie, hie0, hie1, hie2, hie3⟩ := info_parts Tryz.info93
 have hsz := bs_size l
 have h6i : (l.length : Int) <= 65536 := by omega
 have H6 := hI hl
 have HS0 := hI (rf_start l)
 clear hl
 go_enter Tryz.func31, Tryz.ntmps31
 go_wp2
 go_loopw [5, 6] (fun v i wr => ∃ (k : Nat) (acc : List Tok), k <= l.length /\ i = .int .i64 k /\ Hid (RfI false l k acc) /\ Hid (acc.length <= k) /\ Hid (wr.ownsRow w.heap.size 93 3 v acc.length (acc.flatMap tokC)) /\ Hid (Below w.heap.size w wr)) (fun _ i _ => l.length - (intOf i).toNat)
 case atStart => exact ⟨0, [], by omega, rfl, HS0, hI (by simp), hI (World.ownsRow_nil _ _ _ _), hI (Below.refl _ _)⟩
 case round =>
  clear HS0
  obtain ⟨k, acc, hk, rfl, HS, HA, HO, HB⟩ := hrel
  by_cases hlt : k < l.length
  ·skip
   have hi : (k : Int) < (l.length : Int) := by omega
   have hps : k < (bs l).size := hlt
   have HK := hI hlt
   have LWS := hI fun h => rf_ws HS.out hlt h
   have LHA := hI fun h => rf_hash HS.out hlt h
   have LTK := hI fun h h2 => rf_tok HS.out hlt h h2
   have LWO := hI fun (h0 : ScI l k acc) h => rf_word h0 hlt H6.out h
   have LSG := hI fun (h0 : ScI l k acc) h => rf_sign h0 hlt H6.out h
   have hge : ((bs l)[k]'hps).toNat = (l[k]'hlt).toNat := rfl
   generalize l[k]'hlt = b at *
   have hws := ws_nat b
   have h35 : b = 35 ↔ b.toNat = 35 := by rw [<- UInt8.toNat_inj]; rfl
   by_cases hc : b.toNat = 32 ∨ b.toNat = 9 ∨ b.toNat = 10 ∨ b.toNat = 13
   ·have HF := hI (LWS.out (by rw [hws]; simpa [or_assoc] using hc))
    clear hws h35 HS LWS LHA LTK LWO LSG
    rcases hc with hc | hc | hc | hc
    all_goals (
     rw [hc] at hge
     clear hc hlt hk
     go_wp2
     go_roundw
     case rel => exact ⟨k + 1, acc, HK.out, by go_num, HF, hI (Nat.le_succ_of_le HA.out), HO, HB⟩
     case measure => exact meas_up _ _ HK.out)
   have hwf : wsB b = false := by
    rw [hws]
    simp only [not_or] at hc
    simp [hc.1, hc.2.1, hc.2.2.1, hc.2.2.2]
   simp only [not_or] at hc
   obtain ⟨n1, n2, n3, n4⟩ := hc
   by_cases h5 : b.toNat = 35
   ·have HF := hI (LHA.out (h35.2 h5))
    have HN10 := hI n3
    rw [h5] at hge
    have hge0 := hI (show (35 : Nat) = (l[k]'HK.out).toNat from hge.symm)
    clear LWS LHA LTK LWO LSG hws h35 h5 n1 n2 n3 n4 hwf HS hlt hk hi
    go_wp2
    go_loopw [6] (fun i wq => ∃ k2 : Nat, k <= k2 /\ k2 <= l.length /\ i = .int .i64 k2 /\ Hid (RfI true l k2 acc) /\ wq = wr) (fun i _ => l.length - (intOf i).toNat)
    case atStart => exact ⟨k, Nat.le_refl _, Nat.le_of_lt HK.out, rfl, HF, rfl⟩
    case round =>
     have HX10 := hI (show (l[k]'HK.out).toNat ≠ 10 from hge0.out ▸ (by decide : (35 : Nat) ≠ 10))
     clear HF hge hps hge0 HN10
     obtain ⟨k2, hkk, hk2, rfl, HC, rfl⟩ := hrel
     by_cases hlt2 : k2 < l.length
     ·have hi2 : (k2 : Int) < (l.length : Int) := by omega
      have hps2 : k2 < (bs l).size := hlt2
      have HK2 := hI hlt2
      have hge2 : ((bs l)[k2]'hps2).toNat = (l[k2]).toNat := rfl
      have h10 : l[k2] = 10 ↔ (l[k2]).toNat = 10 := by rw [<- UInt8.toNat_inj]; rfl
      by_cases hc : (l[k2]).toNat = 10
      ·have HF := hI (rf_out HC.out hlt2 (h10.2 hc))
       have HKK := hI (show k < k2 from by
        rcases Nat.lt_or_eq_of_le hkk with h | h
        ·exact h
        subst h; exact absurd hc HX10.out)
       rw [hc] at hge2
       clear h10 hc HC HX10 hlt2 hk2 hkk
       go_wp2
       go_roundw
       case rel => exact ⟨k2, acc, Nat.le_of_lt HK2.out, by go_num, HF, hI (by have := HA.out; have := HKK.out; omega), HO, HB⟩
       case measure => have := HKK.out; have := HK.out; show l.length - (k2 : Int).toNat < l.length - (k : Int).toNat; omega
      have HF := hI (rf_in HC.out hlt2 (fun e => hc (h10.1 e)))
      have HKK := hI hkk
      generalize (l[k2]).toNat = c at *
      have hci : ¬ (c : Int) = 10 := by omega
      clear h10 hc HC HX10 hlt2 hk2 hkk
      go_wp2
      go_roundw
      case rel => exact ⟨k2 + 1, by have := HKK.out; omega, HK2.out, by go_num, HF, by first | rfl | trivial⟩
      case measure => exact meas_up _ _ HK2.out
     obtain rfl : k2 = l.length := by omega
     have HF := hI (rf_over HC.out)
     clear HC HX10 hlt2 hk2 hkk
     go_wp2
     go_roundw
     case rel => exact ⟨l.length, acc, Nat.le_refl _, by go_num, HF, hI (by have := HA.out; have := HK.out; omega), HO, HB⟩
     case measure => have := HK.out; show l.length - (l.length : Int).toNat < l.length - (k : Int).toNat; omega
   have HT := hI (LTK.out hwf (fun e => h5 (h35.1 e)))
   clear HS LWS LHA LTK
   have hne : ∀ v : Int, (v = 32 ∨ v = 9 ∨ v = 10 ∨ v = 13 ∨ v = 35) -> ¬ (b.toNat : Int) = v := fun v hv => by omega
   have m1 := hne 32 (by decide)
   have m2 := hne 9 (by decide)
   have m3 := hne 10 (by decide)
   have m4 := hne 13 (by decide)
   have m5 := hne 35 (by decide)
   have f1 := beq_eq_false_iff_ne.2 m1
   have f2 := beq_eq_false_iff_ne.2 m2
   have f3 := beq_eq_false_iff_ne.2 m3
   have f4 := beq_eq_false_iff_ne.2 m4
   have f5 := beq_eq_false_iff_ne.2 m5
   clear hws h35 hwf hne n1 n2 n3 n4 h5 m1 m2 m3 m4 m5
   cases hp : partN b.toNat with
   | true =>
    obtain ⟨q1, q2, q3, q4, q5, q6, q7, q8⟩ := LWO.out HT.out hp
    have HWI := hI (show k + (word (l.drop k)).length = k + (word (l.drop k)).length from rfl)
    obtain ⟨k2', hk2'⟩ : ∃ k2', k2' = k + (word (l.drop k)).length := ⟨_, rfl⟩
    rw [<- hk2'] at q2 q3 q4 q6 q7
    have HQ := hI hk2'
    have HM0 := hI (show k < k2' /\ k2' <= l.length from ⟨by omega, q2⟩)
    have HNUM := hI q4
    have HBAD := hI q5
    have HKW := hI q6
    have HNAME := hI q7
    have HLONG := hI q8
    have HWL := hI (show (word (l.drop k)).length <= 65536 by have := H6.out; omega)
    have HWN := hI (show word (l.drop k) ≠ [] from fun e => by rw [e] at q1; simp at q1)
    have hext := q3
    have HP := hI (rpart_any b.toNat wr)
    rw [hp] at HP
    clear q1 q2 q3 q4 q5 q6 q7 q8 hk2' HT hp HWI hlt hk LWO LSG
    generalize b.toNat = c at *
    generalize hW : word (l.drop k) = W at *
    have HW0 := hI hW
    clear hW
    go_wp2_with fail
    refine HP.out.mono ?_
    rintro e w1 ⟨rfl, rfl⟩
    clear HP
    go_wp2
    go_loopw [8] (fun i wr => ∃ k3 : Nat, k <= k3 /\ k3 <= l.length /\ i = .int .i64 k3 /\ Hid (k3 + (word (l.drop k3)).length = k2') /\ wr = w1) (fun i _ => l.length - (intOf i).toNat)
    case atStart => exact ⟨k, Nat.le_refl _, Nat.le_of_lt HK.out, rfl, hI (by rw [HW0.out]; exact HQ.out.symm), rfl⟩
    case round =>
     obtain ⟨k3, hkk, hk3, rfl, HC, rfl⟩ := hrel
     by_cases hlt2 : k3 < l.length
     ·have hi2 : (k3 : Int) < (l.length : Int) := by omega
      have hps2 : k3 < (bs l).size := hlt2
      have HK2 := hI hlt2
      have hge2 : ((bs l)[k3]'hps2).toNat = (l[k3]).toNat := rfl
      have HP := hI fun W => (rpart_any (l[k3]).toNat W)
      cases hp : partN (l[k3]).toNat with
      | true =>
       have HC2 := hI (show k3 + 1 + (word (l.drop (k3 + 1))).length = k2' by have h1 := HC.out; have h2 := word_more hlt2 hp; omega)
       have HKK := hI hkk
       simp only [hp] at HP
       generalize (l[k3]).toNat = c2 at *
       clear hlt2 hk3 hkk HC hp
       go_wp2_with fail
       refine (HP.out _).mono ?_
       rintro e w2 ⟨rfl, rfl⟩
       go_wp2
       go_roundw
       case rel => exact ⟨k3 + 1, by have := HKK.out; omega, HK2.out, by go_num, HC2, by first | rfl | trivial⟩
       case measure => exact meas_up _ _ HK2.out
      | false =>
       have hrest : k3 = k2' := by have h1 := HC.out; rw [word_none hlt2 hp] at h1; simpa using h1
       simp only [hp] at HP
       generalize (l[k3]).toNat = c2 at *
       subst hrest
       have HM := HM0
       have hkk2 : (k : Int) <= (k3 : Int) := by omega
       clear hlt2 hkk HC hp hk3 HM0 HQ
       go_wp2_with fail
       refine (HP.out _).mono ?_
       rintro e w2 ⟨rfl, rfl⟩
       clear HP
       have hrest := hge2
       clear hrest
       have hWz : (bs W).size = W.length := bs_size W
       go_wp2_with fail
       refine (rdigit_any c _).mono ?_
       rintro e w1 ⟨rfl, rfl⟩
       cases hd : digN c with
       | true =>
        have HE := hI fun h => HNUM.out hd h
        have HX := hI fun h => HBAD.out hd h
        clear HNUM HBAD HKW HNAME HLONG hd
        go_wp2_with fail
        refine (rnumber_any W _ HWL.out HWN.out).mono ?_
        rintro e w2 ⟨rfl, rfl⟩
        generalize numE W = er at *
        by_cases he : er = 0
        ·subst he
         have HF := hI (HE.out rfl)
         clear HE HX
         have HNR := hI fun WW => (Reads.new (S := fun _ => True) (size := 3) (n := 1) WW #[.int .i64 2, .string (bs W), .int .i64 k] 93 rfl trivial)
         go_wp2_with (at_builtin; (refine wpList_append_any rfl (.tmp 87) (.tmp 92) 90 rfl w.heap.size 93 ie _ 3 32 Tryz.underlying90 hie0 hie1 hie2 hie3 rfl (by omega) u5 _ _ rfl (HO.out.alloc _) _ _ 1 1 _ rfl (HNR.out _) ?m1 ?m2 ?m3 ?m4 ?m5))
         case m1 => first | exact ⟨rfl, rfl, rfl⟩ | exact tokC_one ⟨2, W, k⟩
         case m2 => have := HA.out; have := H6.out; simp only [maxLen]; omega
         case m3 => have := HA.out; have := H6.out; omega
         case m4 => have := HB.out.size; simp; omega
         case m5 =>
          intro v' wf ho hg _
          have BF := hI (Below.grown (HB.out.alloc HB.out.size _) hg (Nat.le_trans HB.out.size (by simp)) (fun j hj => (HO.out.lt j hj).1))
          have OF := hI (show wf.ownsRow w.heap.size 93 3 v' (acc ++ [(⟨2, W, k⟩ : Tok)]).length ((acc ++ [(⟨2, W, k⟩ : Tok)]).flatMap tokC) from by rw [List.length_append, List.flatMap_append]; exact ho)
          clear ho hg HNR HO HB
          go_wp2
          go_roundw
          case rel => exact ⟨k3, acc ++ [⟨2, W, k⟩], HM.out.2, by go_num, HF, hI (by rw [List.length_append, List.length_singleton]; have := HA.out; have := HM.out.1; omega), OF, BF⟩
          case measure => have := HM.out; have := HK.out; show l.length - (k3 : Int).toNat < l.length - (k : Int).toNat; omega
        have HF := hI (HX.out he)
        have hne := beq_eq_false_iff_ne.2 he
        clear HE HX he
        go_wp2
        go_ret3
        exact ⟨.slice none 0 0, by rw [HF.out]; rfl, by rw [HF.out]; exact World.ownsRow_nil _ _ _ _, HB.out⟩
       | false =>
        have HE := hI fun h => HKW.out hd h
        have HX := hI fun h => HNAME.out hd h
        have HY := hI fun h => HLONG.out hd h
        clear HNUM HBAD HKW HNAME HLONG hd
        go_wp2_with fail
        refine (rkeys_at _).mono ?_
        rintro e w2 ⟨rb, rfl, hr, hb⟩
        have HR := hI hr
        have HB2 := hI (HB.out.trans (hb.mono HB.out.size))
        have HO2 := hI (own_below HO.out hb)
        clear hr hb HO HB
        go_wp2_with fail
        refine (rhas_any kws W rb 14 _ _ _ rfl (by decide) HR.out).mono ?_
        rintro e w3 ⟨rfl, rfl⟩
        clear HR
        cases hc : kws.contains W with
        | true =>
         have HF := hI (HE.out hc)
         clear HE HX HY hc
         have HNR := hI fun WW => (Reads.new (S := fun _ => True) (size := 3) (n := 1) WW #[.int .i64 4, .string (bs W), .int .i64 k] 93 rfl trivial)
         go_wp2_with (at_builtin; (refine wpList_append_any rfl (.tmp 87) (.tmp 92) 90 rfl w.heap.size 93 ie _ 3 32 Tryz.underlying90 hie0 hie1 hie2 hie3 rfl (by omega) u5 _ _ rfl (HO2.out.alloc _) _ _ 1 1 _ rfl (HNR.out _) ?m1 ?m2 ?m3 ?m4 ?m5))
         case m1 => first | exact ⟨rfl, rfl, rfl⟩ | exact tokC_one ⟨4, W, k⟩
         case m2 => have := HA.out; have := H6.out; simp only [maxLen]; omega
         case m3 => have := HA.out; have := H6.out; omega
         case m4 => have := HB2.out.size; simp; omega
         case m5 =>
          intro v' wf ho hg _
          have BF := hI (Below.grown (HB2.out.alloc HB2.out.size _) hg (Nat.le_trans HB2.out.size (by simp)) (fun j hj => (HO2.out.lt j hj).1))
          have OF := hI (show wf.ownsRow w.heap.size 93 3 v' (acc ++ [(⟨4, W, k⟩ : Tok)]).length ((acc ++ [(⟨4, W, k⟩ : Tok)]).flatMap tokC) from by rw [List.length_append, List.flatMap_append]; exact ho)
          clear ho hg HNR HO2 HB2
          go_wp2
          go_roundw
          case rel => exact ⟨k3, acc ++ [⟨4, W, k⟩], HM.out.2, by go_num, HF, hI (by rw [List.length_append, List.length_singleton]; have := HA.out; have := HM.out.1; omega), OF, BF⟩
          case measure => have := HM.out; have := HK.out; show l.length - (k3 : Int).toNat < l.length - (k : Int).toNat; omega
        | false =>
         by_cases hlong : 24 < W.length
         ·have HF := hI (HY.out hc hlong)
          have hli2 : (24 : Int) < (W.length : Int) := by omega
          clear HE HX HY hc hlong
          go_wp2
          go_ret3
          exact ⟨.slice none 0 0, by rw [HF.out]; rfl, by rw [HF.out]; exact World.ownsRow_nil _ _ _ _, HB2.out⟩
         have HF := hI (HX.out hc (by omega))
         have hli2 : ¬ (24 : Int) < (W.length : Int) := by omega
         clear HE HX HY hc hlong
         have HNR := hI fun WW => (Reads.new (S := fun _ => True) (size := 3) (n := 1) WW #[.int .i64 1, .string (bs W), .int .i64 k] 93 rfl trivial)
         go_wp2_with (at_builtin; (refine wpList_append_any rfl (.tmp 87) (.tmp 92) 90 rfl w.heap.size 93 ie _ 3 32 Tryz.underlying90 hie0 hie1 hie2 hie3 rfl (by omega) u5 _ _ rfl (HO2.out.alloc _) _ _ 1 1 _ rfl (HNR.out _) ?m1 ?m2 ?m3 ?m4 ?m5))
         case m1 => first | exact ⟨rfl, rfl, rfl⟩ | exact tokC_one ⟨1, W, k⟩
         case m2 => have := HA.out; have := H6.out; simp only [maxLen]; omega
         case m3 => have := HA.out; have := H6.out; omega
         case m4 => have := HB2.out.size; simp; omega
         case m5 =>
          intro v' wf ho hg _
          have BF := hI (Below.grown (HB2.out.alloc HB2.out.size _) hg (Nat.le_trans HB2.out.size (by simp)) (fun j hj => (HO2.out.lt j hj).1))
          have OF := hI (show wf.ownsRow w.heap.size 93 3 v' (acc ++ [(⟨1, W, k⟩ : Tok)]).length ((acc ++ [(⟨1, W, k⟩ : Tok)]).flatMap tokC) from by rw [List.length_append, List.flatMap_append]; exact ho)
          clear ho hg HNR HO2 HB2
          go_wp2
          go_roundw
          case rel => exact ⟨k3, acc ++ [⟨1, W, k⟩], HM.out.2, by go_num, HF, hI (by rw [List.length_append, List.length_singleton]; have := HA.out; have := HM.out.1; omega), OF, BF⟩
          case measure => have := HM.out; have := HK.out; show l.length - (k3 : Int).toNat < l.length - (k : Int).toNat; omega
     obtain rfl : k3 = l.length := by omega
     have hrest : l.length = k2' := by have h1 := HC.out; rw [List.drop_length] at h1; simpa [word] using h1
     subst hrest
     have HM := HM0
     have hkk2 : (k : Int) <= (l.length : Int) := by omega
     have hrest := hkk2
     clear hlt2 hkk HC hk3 HM0 HQ
     clear hrest
     have hWz : (bs W).size = W.length := bs_size W
     go_wp2_with fail
     refine (rdigit_any c _).mono ?_
     rintro e w1 ⟨rfl, rfl⟩
     cases hd : digN c with
     | true =>
      have HE := hI fun h => HNUM.out hd h
      have HX := hI fun h => HBAD.out hd h
      clear HNUM HBAD HKW HNAME HLONG hd
      go_wp2_with fail
      refine (rnumber_any W _ HWL.out HWN.out).mono ?_
      rintro e w2 ⟨rfl, rfl⟩
      generalize numE W = er at *
      by_cases he : er = 0
      ·subst he
       have HF := hI (HE.out rfl)
       clear HE HX
       have HNR := hI fun WW => (Reads.new (S := fun _ => True) (size := 3) (n := 1) WW #[.int .i64 2, .string (bs W), .int .i64 k] 93 rfl trivial)
       go_wp2_with (at_builtin; (refine wpList_append_any rfl (.tmp 87) (.tmp 92) 90 rfl w.heap.size 93 ie _ 3 32 Tryz.underlying90 hie0 hie1 hie2 hie3 rfl (by omega) u5 _ _ rfl (HO.out.alloc _) _ _ 1 1 _ rfl (HNR.out _) ?m1 ?m2 ?m3 ?m4 ?m5))
       case m1 => first | exact ⟨rfl, rfl, rfl⟩ | exact tokC_one ⟨2, W, k⟩
       case m2 => have := HA.out; have := H6.out; simp only [maxLen]; omega
       case m3 => have := HA.out; have := H6.out; omega
       case m4 => have := HB.out.size; simp; omega
       case m5 =>
        intro v' wf ho hg _
        have BF := hI (Below.grown (HB.out.alloc HB.out.size _) hg (Nat.le_trans HB.out.size (by simp)) (fun j hj => (HO.out.lt j hj).1))
        have OF := hI (show wf.ownsRow w.heap.size 93 3 v' (acc ++ [(⟨2, W, k⟩ : Tok)]).length ((acc ++ [(⟨2, W, k⟩ : Tok)]).flatMap tokC) from by rw [List.length_append, List.flatMap_append]; exact ho)
        clear ho hg HNR HO HB
        go_wp2
        go_roundw
        case rel => exact ⟨l.length, acc ++ [⟨2, W, k⟩], HM.out.2, by go_num, HF, hI (by rw [List.length_append, List.length_singleton]; have := HA.out; have := HM.out.1; omega), OF, BF⟩
        case measure => have := HM.out; have := HK.out; show l.length - (l.length : Int).toNat < l.length - (k : Int).toNat; omega
      have HF := hI (HX.out he)
      have hne := beq_eq_false_iff_ne.2 he
      clear HE HX he
      go_wp2
      go_ret3
      exact ⟨.slice none 0 0, by rw [HF.out]; rfl, by rw [HF.out]; exact World.ownsRow_nil _ _ _ _, HB.out⟩
     | false =>
      have HE := hI fun h => HKW.out hd h
      have HX := hI fun h => HNAME.out hd h
      have HY := hI fun h => HLONG.out hd h
      clear HNUM HBAD HKW HNAME HLONG hd
      go_wp2_with fail
      refine (rkeys_at _).mono ?_
      rintro e w2 ⟨rb, rfl, hr, hb⟩
      have HR := hI hr
      have HB2 := hI (HB.out.trans (hb.mono HB.out.size))
      have HO2 := hI (own_below HO.out hb)
      clear hr hb HO HB
      go_wp2_with fail
      refine (rhas_any kws W rb 14 _ _ _ rfl (by decide) HR.out).mono ?_
      rintro e w3 ⟨rfl, rfl⟩
      clear HR
      cases hc : kws.contains W with
      | true =>
       have HF := hI (HE.out hc)
       clear HE HX HY hc
       have HNR := hI fun WW => (Reads.new (S := fun _ => True) (size := 3) (n := 1) WW #[.int .i64 4, .string (bs W), .int .i64 k] 93 rfl trivial)
       go_wp2_with (at_builtin; (refine wpList_append_any rfl (.tmp 87) (.tmp 92) 90 rfl w.heap.size 93 ie _ 3 32 Tryz.underlying90 hie0 hie1 hie2 hie3 rfl (by omega) u5 _ _ rfl (HO2.out.alloc _) _ _ 1 1 _ rfl (HNR.out _) ?m1 ?m2 ?m3 ?m4 ?m5))
       case m1 => first | exact ⟨rfl, rfl, rfl⟩ | exact tokC_one ⟨4, W, k⟩
       case m2 => have := HA.out; have := H6.out; simp only [maxLen]; omega
       case m3 => have := HA.out; have := H6.out; omega
       case m4 => have := HB2.out.size; simp; omega
       case m5 =>
        intro v' wf ho hg _
        have BF := hI (Below.grown (HB2.out.alloc HB2.out.size _) hg (Nat.le_trans HB2.out.size (by simp)) (fun j hj => (HO2.out.lt j hj).1))
        have OF := hI (show wf.ownsRow w.heap.size 93 3 v' (acc ++ [(⟨4, W, k⟩ : Tok)]).length ((acc ++ [(⟨4, W, k⟩ : Tok)]).flatMap tokC) from by rw [List.length_append, List.flatMap_append]; exact ho)
        clear ho hg HNR HO2 HB2
        go_wp2
        go_roundw
        case rel => exact ⟨l.length, acc ++ [⟨4, W, k⟩], HM.out.2, by go_num, HF, hI (by rw [List.length_append, List.length_singleton]; have := HA.out; have := HM.out.1; omega), OF, BF⟩
        case measure => have := HM.out; have := HK.out; show l.length - (l.length : Int).toNat < l.length - (k : Int).toNat; omega
      | false =>
       by_cases hlong : 24 < W.length
       ·have HF := hI (HY.out hc hlong)
        have hli2 : (24 : Int) < (W.length : Int) := by omega
        clear HE HX HY hc hlong
        go_wp2
        go_ret3
        exact ⟨.slice none 0 0, by rw [HF.out]; rfl, by rw [HF.out]; exact World.ownsRow_nil _ _ _ _, HB2.out⟩
       have HF := hI (HX.out hc (by omega))
       have hli2 : ¬ (24 : Int) < (W.length : Int) := by omega
       clear HE HX HY hc hlong
       have HNR := hI fun WW => (Reads.new (S := fun _ => True) (size := 3) (n := 1) WW #[.int .i64 1, .string (bs W), .int .i64 k] 93 rfl trivial)
       go_wp2_with (at_builtin; (refine wpList_append_any rfl (.tmp 87) (.tmp 92) 90 rfl w.heap.size 93 ie _ 3 32 Tryz.underlying90 hie0 hie1 hie2 hie3 rfl (by omega) u5 _ _ rfl (HO2.out.alloc _) _ _ 1 1 _ rfl (HNR.out _) ?m1 ?m2 ?m3 ?m4 ?m5))
       case m1 => first | exact ⟨rfl, rfl, rfl⟩ | exact tokC_one ⟨1, W, k⟩
       case m2 => have := HA.out; have := H6.out; simp only [maxLen]; omega
       case m3 => have := HA.out; have := H6.out; omega
       case m4 => have := HB2.out.size; simp; omega
       case m5 =>
        intro v' wf ho hg _
        have BF := hI (Below.grown (HB2.out.alloc HB2.out.size _) hg (Nat.le_trans HB2.out.size (by simp)) (fun j hj => (HO2.out.lt j hj).1))
        have OF := hI (show wf.ownsRow w.heap.size 93 3 v' (acc ++ [(⟨1, W, k⟩ : Tok)]).length ((acc ++ [(⟨1, W, k⟩ : Tok)]).flatMap tokC) from by rw [List.length_append, List.flatMap_append]; exact ho)
        clear ho hg HNR HO2 HB2
        go_wp2
        go_roundw
        case rel => exact ⟨l.length, acc ++ [⟨1, W, k⟩], HM.out.2, by go_num, HF, hI (by rw [List.length_append, List.length_singleton]; have := HA.out; have := HM.out.1; omega), OF, BF⟩
        case measure => have := HM.out; have := HK.out; show l.length - (l.length : Int).toNat < l.length - (k : Int).toNat; omega
   | false =>
    have HSG := hI (LSG.out HT.out hp)
    have HP := hI (rpart_any b.toNat wr)
    rw [hp] at HP
    generalize b.toNat = c at *
    clear hp hlt hk HT LSG LWO
    go_wp2_with fail
    refine HP.out.mono ?_
    rintro e w1 ⟨rfl, rfl⟩
    clear HP
    have HRS := hI (rsign_any (l.drop k) w1 (by have := H6.out; rw [List.length_drop]; omega))
    generalize sgB 19 (l.drop k) = W at *
    obtain ⟨q1, q2, q3, q4⟩ := HSG.out
    have HM1 := hI q1
    have HY := hI q3
    have HX := hI q4
    have hW2 : (W.length : Int) <= 2 := by omega
    have hkW : (k : Int) + (W.length : Int) <= 65536 := by have := H6.out; omega
    clear q1 q2 q3 q4 HSG
    go_wp2_with fail
    rw [show (bs l).extract k l.length = bs (l.drop k) from bs_tail l k]
    refine HRS.out.mono ?_
    rintro e w2 ⟨rfl, hb⟩
    have HB2 := hI (HB.out.trans (hb.mono HB.out.size))
    have HO2 := hI (own_below HO.out hb)
    clear hb HB HO HRS
    have hWl : (bs W).toList = W := bs_toList W
    have hWz : (bs W).size = W.length := bs_size W
    by_cases hWn : W = []
    ·have HF := hI (HX.out hWn)
     subst hWn
     clear HX HY
     go_wp2
     go_ret3
     exact ⟨.slice none 0 0, by rw [HF.out]; rfl, by rw [HF.out]; exact World.ownsRow_nil _ _ _ _, HB2.out⟩
    have HF := hI (HY.out hWn)
    have HM := hI (show 0 < W.length /\ k + W.length <= l.length from ⟨List.length_pos_iff.2 hWn, HM1.out⟩)
    have hWe : W.isEmpty = false := by simpa using hWn
    clear HX HY HM1
    have HNR := hI fun WW => (Reads.new (S := fun _ => True) (size := 3) (n := 1) WW #[.int .i64 3, .string (bs W), .int .i64 k] 93 rfl trivial)
    go_wp2_with (at_builtin; (refine wpList_append_any rfl (.tmp 102) (.tmp 106) 90 rfl w.heap.size 93 ie _ 3 32 Tryz.underlying90 hie0 hie1 hie2 hie3 rfl (by omega) u5 _ _ rfl (HO2.out.alloc _) _ _ 1 1 _ rfl (HNR.out _) ?m1 ?m2 ?m3 ?m4 ?m5))
    case m1 => first | exact ⟨rfl, rfl, rfl⟩ | exact tokC_one ⟨3, W, k⟩
    case m2 => have := HA.out; have := H6.out; simp only [maxLen]; omega
    case m3 => have := HA.out; have := H6.out; omega
    case m4 => have := HB2.out.size; simp; omega
    case m5 =>
     intro v' wf ho hg _
     have BF := hI (Below.grown (HB2.out.alloc HB2.out.size _) hg (Nat.le_trans HB2.out.size (by simp)) (fun j hj => (HO2.out.lt j hj).1))
     have OF := hI (show wf.ownsRow w.heap.size 93 3 v' (acc ++ [(⟨3, W, k⟩ : Tok)]).length ((acc ++ [(⟨3, W, k⟩ : Tok)]).flatMap tokC) from by rw [List.length_append, List.flatMap_append]; exact ho)
     clear ho hg HNR HO2 HB2
     go_wp2
     go_roundw
     case rel => exact ⟨k + W.length, acc ++ [⟨3, W, k⟩], HM.out.2, by go_num, HF, hI (by rw [List.length_append, List.length_singleton]; have := HA.out; have := HM.out.1; omega), OF, BF⟩
     case measure => have := HM.out; have := HK.out; show l.length - ((k : Int) + (W.length : Int)).toNat < l.length - (k : Int).toNat; omega
  skip
  obtain rfl : k = l.length := by omega
  have HF := hI (rf_end HS.out H6.out)
  clear hk hlt HS
  have HNR := hI fun WW => (Reads.new (S := fun _ => True) (size := 3) (n := 1) WW #[.int .i64 0, .string ({ data := #[] }), .int .i64 (l.length : Int)] 93 rfl trivial)
  go_wp2_with (at_builtin; (refine wpList_append_any rfl (.tmp 112) (.tmp 116) 90 rfl w.heap.size 93 ie _ 3 32 Tryz.underlying90 hie0 hie1 hie2 hie3 rfl (by omega) u5 _ _ rfl (HO.out.alloc _) _ _ 1 1 _ rfl (HNR.out _) ?m1 ?m2 ?m3 ?m4 ?m5))
  case m1 => first | exact ⟨rfl, rfl, rfl⟩ | exact tokC_one ⟨0, [], l.length⟩
  case m2 => have := HA.out; have := H6.out; simp only [maxLen]; omega
  case m3 => have := HA.out; have := H6.out; omega
  case m4 => have := HB.out.size; simp; omega
  case m5 =>
   intro v' wf ho hg _
   have BF := hI (Below.grown (HB.out.alloc HB.out.size _) hg (Nat.le_trans HB.out.size (by simp)) (fun j hj => (HO.out.lt j hj).1))
   have OF := hI (show wf.ownsRow w.heap.size 93 3 v' (acc ++ [(⟨0, [], l.length⟩ : Tok)]).length ((acc ++ [(⟨0, [], l.length⟩ : Tok)]).flatMap tokC) from by rw [List.length_append, List.flatMap_append]; exact ho)
   clear ho hg HNR HO HB
   go_wp2
   go_ret3
   exact ⟨v', by rw [HF.out]; rfl, by rw [HF.out]; exact OF.out, BF.out⟩
end Go.Proofs.YtkakbidllpjopaaGreatDoor.Lx
namespace Go.Proofs.YtkakbidllpjopaaGreatDoor
open Go.RowKit
theorem last_tok {s : Str} (h : (Lx.scanL s).2.2 = 0) : ∃ us z, (Lx.scanL s).1 = us ++ [z] /\ z.kind = 0 /\ z.text = [] := by
 have hok := scan_ok h
 unfold Lx.scanL at *
 split at h
 ·cases h
 rename_i hl
 rw [if_neg hl] at hok ⊢
 cases hs : Lx.scanR s with
 | error e =>
  rw [hs] at hok
  exact absurd hok.2.1 (fun e => e)
 | ok us => exact ⟨us, ⟨0, [], s.length⟩, rfl, rfl, rfl⟩
theorem rs_of {L : List Lx.Tok} {z : Lx.Tok} {w : World} {base : Nat} {v : Value} (h1 : Lok L) (h2 : Ends (L.map tkq)) (hk : z.kind = 0) (ht : z.text = []) (ho : w.ownsRow base 93 3 v (L.length + 3) ((L ++ [z, z, z]).flatMap Lx.tokC)) :
  ∃ tb tq tc, v = .slice (some ⟨tb, tq, none⟩) (L.length + 3) tc /\ RS L tb tq (L.length + 3) tc w /\ base <= tb := by
 obtain ⟨A, c, rfl, hc, hA, hR⟩ := own_reads (S := fun b => base <= b) ho (fun _ h => h)
 obtain ⟨b, q, rfl, hb, hS, hcell⟩ := hR.2 (by omega)
 refine ⟨b, q, c, rfl, ⟨h1, rfl, h2, hb, fun j hj => ?_⟩, hS⟩
 have hj2 : j < (L ++ [z, z, z]).length := by rw [List.length_append]; exact hj
 have hx : (L ++ [z, z, z])[j]? = some ((L ++ [z, z, z])[j]'hj2) := List.getElem?_eq_getElem hj2
 have hrow : w.rangeAt b (q + j * 3) (Lx.tokC ((L ++ [z, z, z])[j]'hj2)) := fun r u hu => by
  have e := flatG 3 ((L ++ [z, z, z]).map Lx.tokC) (fun cs h => by obtain ⟨t, -, rfl⟩ := List.mem_map.1 h; rfl) j _ (by rw [List.getElem?_map, hx]; rfl) r u hu
  rw [<- List.flatMap_def] at e
  have := hcell _ _ e
  rwa [show q + j * 3 + r = q + (j * 3 + r) by omega]
 by_cases hl : j < L.length
 ·have e1 : (L ++ [z, z, z])[j]'hj2 = L[j] := List.getElem_append_left hl
  have e2 : (L.map tkq).drop j = tkq L[j] :: (L.map tkq).drop (j + 1) := by
   rw [List.drop_eq_getElem_cons (by rw [List.length_map]; exact hl), List.getElem_map]
  rw [e1] at hrow
  rw [e2]
  exact ⟨(L[j].off : Int), hrow, fun _ => by rw [List.getD_eq_getElem?_getD, List.getElem?_eq_getElem hl]; rfl⟩
 have e1 : (L ++ [z, z, z])[j]'hj2 = z := by
  rw [List.getElem_append_right (by omega)]
  have h4 : ∀ k (h : k < [z, z, z].length), [z, z, z][k]'h = z := fun k h => by
   match k, h with
   | 0, _ => rfl
   | 1, _ => rfl
   | 2, _ => rfl
  exact h4 _ _
 have e2 : (L.map tkq).drop j = [] := List.drop_of_length_le (by rw [List.length_map]; omega)
 rw [e1] at hrow
 rw [e2]
 refine ⟨(z.off : Int), ?_, fun h => absurd h hl⟩
 unfold Lx.tokC at hrow
 rw [hk, ht] at hrow
 exact hrow
theorem at_off {L : List Lx.Tok} {j : Nat} {r : List Tk} (h : AtR L j r) : ((L.getD j ⟨0, [], 0⟩).off : Int) = offAt L r := by
 unfold offAt
 have h1 := h.len
 have h2 := h.lt
 rw [show L.length - r.length = j by omega]
theorem apk_rt : AppOk 90 93 3 := AppOk.mk_ Tryz.underlying90 (by omega) (by kernel_rfl)
/-- append of three tokens onto the row. -/
theorem app3 {w : World} {base : Nat} {ty : TypeId} {v : Value} {L : List Lx.Tok} {z : Lx.Tok} (hl : L.length <= 70000) (ho : w.ownsRow base 93 3 v L.length (L.flatMap Lx.tokC)) (q : Nat) (hq : q < w.heap.size) (hr : w.rangeAt q 0 (Lx.tokC z ++ (Lx.tokC z ++ Lx.tokC z))) (hb : base <= w.heap.size) :
  ∃ v' w', (Builtin.append_ #[90, 90] ty #[v, .slice (some ⟨q, 0, none⟩) 3 3]).run Tryz.prog w = .ok v' w' /\ w'.ownsRow base 93 3 v' (L.length + 3) ((L ++ [z, z, z]).flatMap Lx.tokC) /\ w.grownBy w' v.ownBlock := by
 obtain ⟨ht, hs0, i, zz, bytes, hi, hz, his, hib, hzs, hbb⟩ := apk_rt
 have hR : Reads w (fun _ => True) 3 (some ⟨q, 0, none⟩) 3 (Lx.tokC z ++ (Lx.tokC z ++ Lx.tokC z)) := ⟨rfl, fun _ => ⟨q, 0, rfl, hq, trivial, fun j y hy => by have := hr j y hy; simpa using this⟩⟩
 have h1 : ∀ u ∈ Lx.tokC z ++ (Lx.tokC z ++ Lx.tokC z), u.oneCell' = true := fun u hu => by
  rcases List.mem_append.1 hu with h | h
  ·exact Lx.tokC_one z u h
  rcases List.mem_append.1 h with h | h <;> exact Lx.tokC_one z u h
 obtain ⟨v', w', e1, e2, e3, -⟩ := run_append_any (P := Tryz.prog) w base 90 ty 93 i zz 3 bytes ht hi hz his hib hzs hs0 v L.length _ ho (fun _ => True) _ 3 3 _ hR h1 (by simp only [maxLen]; omega) (Nat.le_trans (Nat.mul_le_mul (show L.length + 3 <= 100000 by omega) hbb) (by omega)) hb
 refine ⟨v', w', e1, ?_, e3⟩
 rw [List.flatMap_append]
 simpa using e2
theorem last_cells {us : List Lx.Tok} {z : Lx.Tok} {w : World} {base g cap nl : Nat} (hn : nl = us.length + 1) (ho : w.ownsRow base 93 3 (.slice (some ⟨g, 0, none⟩) nl cap) nl ((us ++ [z]).flatMap Lx.tokC)) :
  w.cell? ⟨g, us.length * 3, none⟩ = some (.int .i64 z.kind) /\ w.cell? ⟨g, us.length * 3 + 1, none⟩ = some (.string (bs z.text)) /\ w.cell? ⟨g, us.length * 3 + 2, none⟩ = some (.int .i64 (z.off : Int)) := by
 obtain ⟨A, c, h1, hc, hA, hR⟩ := own_reads (S := fun b => base <= b) ho (fun _ h => h)
 obtain ⟨b, q, h2, hb, hS, hcell⟩ := hR.2 (by omega)
 subst h2
 injection h1 with h1
 injection h1 with h1
 injection h1 with h1 h3
 subst h1
 subst h3
 have key : ∀ (r : Nat) (u : Value), (Lx.tokC z)[r]? = some u -> w.cell? ⟨g, us.length * 3 + r, none⟩ = some u := fun r u hu => by
  have e := flatG 3 ((us ++ [z]).map Lx.tokC) (fun cs h => by obtain ⟨t, -, rfl⟩ := List.mem_map.1 h; rfl) us.length _ (by rw [List.getElem?_map, List.getElem?_append_right (Nat.le_refl _), Nat.sub_self]; rfl) r u hu
  rw [<- List.flatMap_def] at e
  have := hcell _ _ e
  rwa [Nat.zero_add] at this
 exact ⟨key 0 _ rfl, key 1 _ rfl, key 2 _ rfl⟩
open Go.RowKit
/-- What Parse answers. -/
def rpP (s : Str) : Prog' × Int × Int :=
 if (Lx.scanL s).2.2 ≠ 0 then (emP, ((Lx.scanL s).2.1 : Int), (Lx.scanL s).2.2)
 else match pP ((Lx.scanL s).1.map tkq) with
  | .bad r => (emP, offAt (Lx.scanL s).1 r, 5)
  | .ok p _ => (p, 0, 0)
theorem rpP_err {s : Str} (h : (Lx.scanL s).2.2 ≠ 0) : rpP s = (emP, ((Lx.scanL s).2.1 : Int), (Lx.scanL s).2.2) := if_pos h
theorem rpP_bad {s : Str} {r : List Tk} (h : (Lx.scanL s).2.2 = 0) (hp : pP ((Lx.scanL s).1.map tkq) = .bad r) : rpP s = (emP, offAt (Lx.scanL s).1 r, 5) := by
 unfold rpP
 rw [if_neg (by rw [h]; simp), hp]
theorem rpP_ok {s : Str} {r : List Tk} {p : Prog'} (h : (Lx.scanL s).2.2 = 0) (hp : pP ((Lx.scanL s).1.map tkq) = .ok p r) : rpP s = (p, 0, 0) := by
 unfold rpP
 rw [if_neg (by rw [h]; simp), hp]
theorem rp_size : (Tryz.prog.info? 45).map (·.size) = some 2 := by kernel_rfl
theorem apk_r2 : AppOk 42 96 2 := AppOk.mk_ Tryz.underlying42 (by omega) (by kernel_rfl)
theorem apk_ro : AppOk 43 103 3 := AppOk.mk_ Tryz.underlying43 (by omega) (by kernel_rfl)
theorem pPs_pr (R : List Tk) : pPs R = if isT [40] R = true then pPr R.tail else .bad R := by
 unfold pPs pPr
 split
 ·rename_i h
  have := isT_len h
  rw [show R.length + 1 = R.tail.length + 2 by omega]
 rfl
/-- The program so far, in memory: the box pb, the rows of stores and of operations. -/
structure QB (base pb : Nat) (w : World) (vD vO : Value) (ds : List Decl') (os : List Oper') : Prop where
 box : HB 45 w pb #[vD, vO]
 d : OwnG DcV 96 2 w base vD ds
 o : OwnG (AV OV fun b => vD.ownBlock = some b) 103 3 w base vO os
 ne : ∀ k, vD.ownBlock = some k -> vO.ownBlock ≠ some k
theorem QB.below {base pb : Nat} {w w' : World} {vD vO : Value} {ds : List Decl'} {os : List Oper'} (h : QB base pb w vD vO ds os) (hb : Below w.heap.size w w') : QB base pb w' vD vO ds os :=
 ⟨h.box.below hb, h.d.below okDcV hb, h.o.below (okAV okOV) hb, h.ne⟩
theorem QB.pv {base pb : Nat} {w : World} {vD vO : Value} {ds : List Decl'} {os : List Oper'} (h : QB base pb w vD vO ds os) : PV w (fun b => base <= b) ⟨ds, os⟩ (.agg #[vD, vO]) := by
 obtain ⟨A1, c1, e1, h1⟩ := h.d.dl
 obtain ⟨A2, c2, e2, h2⟩ := (h.o.un okOV).ol
 subst e1
 subst e2
 exact ⟨A1, _, c1, A2, _, c2, rfl, h1, h2⟩
theorem QB.pushD {pb : Nat} {w : World} {vD vO : Value} {ds : List Decl'} {os : List Oper'} (h : QB (pb + 1) pb w vD vO ds os) (hb : pb + 1 <= w.heap.size) (q : Nat) (x : Decl') (ty : TypeId) (hq : q < w.heap.size) (hc : w.rangeAt q 0 [.string (bs x.name), .string (bs x.kind)]) (hn : ds.length + 1 <= 1000000) :
  ∃ v' w', (Builtin.append_ #[42, 42] ty #[vD, .slice (some ⟨q, 0, none⟩) 1 1]).run Tryz.prog w = .ok v' w' /\ HB 45 w' pb #[vD, vO] /\ Below (pb + 1) w w' /\ QB (pb + 1) pb (w'.setCell ⟨pb, 0, none⟩ v') v' vO (ds ++ [x]) os /\ Below pb w' (w'.setCell ⟨pb, 0, none⟩ v') := by
 have hlt := h.d.lt
 have hlo := h.o.lt
 obtain ⟨v', w', e1, e2, e3, e4⟩ := OwnG.app (t := 42) (ty := ty) okDcV apk_r2 h.d w.heap.size q x _ hq hc rfl hn hb (fun k hk => (hlt k hk).2) hb
 have hB : Below (pb + 1) w w' := ⟨e3.os, e3.tape, e3.output, e3.size, fun k hk => e3.block k (by omega) (fun e => by have := (hlt k e.symm).1; omega)⟩
 have hbox : HB 45 w' pb #[vD, vO] := (hB.block pb (by omega)).trans h.box
 have hn' : ∀ k, v'.ownBlock = some k -> pb + 1 <= k /\ vO.ownBlock ≠ some k := fun k hk => by
  rcases e4 with e | e
  ·rw [e] at hk; exact ⟨(hlt k hk).1, h.ne k hk⟩
  rw [e] at hk
  have := Option.some.inj hk
  exact ⟨by omega, fun e => by have := (hlo k e).2; omega⟩
 have ho := OwnG.av (X' := fun b => v'.ownBlock = some b) okOV h.o e3 (fun k hk => ⟨h.ne k hk, hk⟩) (fun b hb2 hx => by
  rcases e4 with e | e
  ·rw [<- e]; exact hx
  rw [e] at hx; have := Option.some.inj hx; omega)
 have gb := gr_put w' pb 0 v'
 refine ⟨v', w', e1, hbox, hB, ⟨HB.set hbox 0 v', e2.dc gb (fun k hk e => by have := (hn' k e).1; have := Option.some.inj hk; omega), ho.gr (okAV okOV) gb (fun k hk => by have := Option.some.inj hk; omega), fun k hk => (hn' k hk).2⟩, below_gr gb (by have := hB.size; omega) (Nat.le_refl _)⟩
theorem QB.pushO {pb lo : Nat} {w : World} {vD vO : Value} {ds : List Decl'} {os : List Oper'} (h : QB (pb + 1) pb w vD vO ds os) (hb : pb + 1 <= w.heap.size) (q : Nat) (x : Oper') (cs : List Value) (ty : TypeId) (hq : q < w.heap.size) (hc : w.rangeAt q 0 cs) (hx : OV w (fun k => lo <= k) x cs) (hlo : pb + 1 <= lo) (hv : ∀ k, vO.ownBlock = some k -> k < lo) (hd : ∀ k, vD.ownBlock = some k -> k < lo) (hn : os.length + 1 <= 1000000) :
  ∃ v' w', (Builtin.append_ #[43, 43] ty #[vO, .slice (some ⟨q, 0, none⟩) 1 1]).run Tryz.prog w = .ok v' w' /\ HB 45 w' pb #[vD, vO] /\ Below (pb + 1) w w' /\ QB (pb + 1) pb (w'.setCell ⟨pb, 1, none⟩ v') vD v' ds (os ++ [x]) /\ Below pb w' (w'.setCell ⟨pb, 1, none⟩ v') := by
 have hlt := h.d.lt
 have hlo2 := h.o.lt
 have hx2 : AV OV (fun b => vD.ownBlock = some b) w (fun b => lo <= b) x cs := okOV.keep (Nat.le_refl _) (fun _ _ _ => rfl) (fun b _ hb2 => ⟨hb2, fun e => by have := hd b e; omega⟩) hx
 obtain ⟨v', w', e1, e2, e3, e4⟩ := OwnG.app (t := 43) (ty := ty) (okAV okOV) apk_ro h.o lo q x cs hq hc hx2 hn hb hv hlo
 have hB : Below (pb + 1) w w' := ⟨e3.os, e3.tape, e3.output, e3.size, fun k hk => e3.block k (by omega) (fun e => by have := (hlo2 k e.symm).1; omega)⟩
 have hbox : HB 45 w' pb #[vD, vO] := (hB.block pb (by omega)).trans h.box
 have hne : ∀ k, vD.ownBlock = some k -> v'.ownBlock ≠ some k := fun k hk e => by
  rcases e4 with e5 | e5
  ·rw [e5] at e; exact h.ne k hk e
  rw [e5] at e
  have := Option.some.inj e
  have := (hlt k hk).2
  omega
 have hd2 := h.d.dc e3 (fun k hk e => h.ne k e hk)
 have gb := gr_put w' pb 1 v'
 exact ⟨v', w', e1, hbox, hB, ⟨HB.set hbox 1 v', hd2.dc gb (fun k hk e => by have := (hlt k e).1; have := Option.some.inj hk; omega), e2.gr (okAV okOV) gb (fun k hk => by have := Option.some.inj hk; omega), hne⟩, below_gr gb (by have := hB.size; omega) (Nat.le_refl _)⟩
end Go.Proofs.YtkakbidllpjopaaGreatDoor
