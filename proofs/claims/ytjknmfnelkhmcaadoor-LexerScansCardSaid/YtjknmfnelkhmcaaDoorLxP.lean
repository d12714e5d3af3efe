/- The walk of the reference's Scan in one contract: it answers what scanL says. Condition: at most 65536 bytes. -/
import Derived.Test.YtjknmfnelkhmcaaDoorLxO
set_option linter.unusedVariables false
set_option linter.unusedSimpArgs false
namespace Go.Proofs.YtjknmfnelkhmcaaDoor
open Go.RowKit

theorem Tryd.info45 : (Tryd.prog.info? 45).map (fun i => (i.zero, i.size, i.bytes)) = some (some (.agg #[.int .i64 0, .string { data := #[] }, .int .i64 0]), 3, 32) := by kernel_rfl
theorem rkeys_at (w : World) : Calls Tryd.prog 15 #[] w fun e w' => ∃ g, e = .returned (.slice (some ⟨g, 0, none⟩) 14 14) ∧ w'.heap[g]? = some (.cells (strRow kws) 9 (0, 0)) ∧ Below w.heap.size w w' :=
  (rkeys_any w).mono fun e w' h => ⟨_, h.1, by rw [h.2]; exact heap_alloc_new _ _, by rw [h.2]; exact (Below.refl _ _).alloc (Nat.le_refl _) _⟩

set_option maxRecDepth 100000 in
set_option maxHeartbeats 12800000 in
theorem rscan_any (l : List UInt8) (w : World) (hl : l.length ≤ 65536) :
    Calls Tryd.prog 11 #[.string (bs l)] w fun e w' => ∃ v, e = .returned (.tuple #[v, .int .i64 ((scanL l).2.1 : Int), .int .i64 (scanL l).2.2]) ∧ w'.ownsRow w.heap.size 45 3 v (scanL l).1.length ((scanL l).1.flatMap tokC) ∧ Below w.heap.size w w' := by
  obtain ⟨ie, hie0, hie1, hie2, hie3⟩ := info_parts Tryd.info45
  have hsz := bs_size l
  have h6i : (l.length : Int) ≤ 65536 := by omega
  have H6 := Lib.hid hl
  have HS0 := Lib.hid (rf_start l)
  clear hl
  go_enter Tryd.func11, Tryd.ntmps11
  go_wp2
  go_loopw [5, 6] (fun v i wr => ∃ (k : Nat) (acc : List Tok), k ≤ l.length ∧ i = .int .i64 k ∧ Hid (RfI false l k acc) ∧ Hid (acc.length ≤ k) ∧ Hid (wr.ownsRow w.heap.size 45 3 v acc.length (acc.flatMap tokC)) ∧ Hid (Below w.heap.size w wr)) (fun _ i _ => l.length - (intOf i).toNat)
  case atStart => exact ⟨0, [], by omega, rfl, HS0, Lib.hid (by simp), Lib.hid (World.ownsRow_nil _ _ _ _), Lib.hid (Below.refl _ _)⟩
  case round =>
    clear HS0
    obtain ⟨k, acc, hk, rfl, HS, HA, HO, HB⟩ := hrel
    by_cases hlt : k < l.length
    · skip
      have hi : (k : Int) < (l.length : Int) := by omega
      have hps : k < (bs l).size := hlt
      have HK := Lib.hid hlt
      have LWS := Lib.hid fun h => rf_ws HS.out hlt h
      have LHA := Lib.hid fun h => rf_hash HS.out hlt h
      have LTK := Lib.hid fun h h2 => rf_tok HS.out hlt h h2
      have LWO := Lib.hid fun (h0 : ScI l k acc) h => rf_word h0 hlt H6.out h
      have LSG := Lib.hid fun (h0 : ScI l k acc) h => rf_sign h0 hlt H6.out h
      have hge : ((bs l)[k]'hps).toNat = (l[k]'hlt).toNat := rfl
      generalize l[k]'hlt = b at *
      have hws := ws_nat b
      have h35 : b = 35 ↔ b.toNat = 35 := by rw [← UInt8.toNat_inj]; rfl
      by_cases hc : b.toNat = 32 ∨ b.toNat = 9 ∨ b.toNat = 10 ∨ b.toNat = 13
      · have HF := Lib.hid (LWS.out (by rw [hws]; simpa [or_assoc] using hc))
        clear hws h35 HS LWS LHA LTK LWO LSG
        rcases hc with hc | hc | hc | hc
        all_goals (
          rw [hc] at hge
          clear hc hlt hk
          go_wp2
          go_roundw
          case rel => exact ⟨k + 1, acc, HK.out, by go_num, HF, Lib.hid (Nat.le_succ_of_le HA.out), HO, HB⟩
          case measure => exact meas_up _ _ HK.out)
      · have hwf : wsB b = false := by
          rw [hws]
          simp only [not_or] at hc
          simp [hc.1, hc.2.1, hc.2.2.1, hc.2.2.2]
        simp only [not_or] at hc
        obtain ⟨n1, n2, n3, n4⟩ := hc
        by_cases h5 : b.toNat = 35
        · have HF := Lib.hid (LHA.out (h35.2 h5))
          have HN10 := Lib.hid n3
          rw [h5] at hge
          have hge0 := Lib.hid (show (35 : Nat) = (l[k]'HK.out).toNat from hge.symm)
          clear LWS LHA LTK LWO LSG hws h35 h5 n1 n2 n3 n4 hwf HS hlt hk hi
          go_wp2
          go_loopw [6] (fun i wq => ∃ k2 : Nat, k ≤ k2 ∧ k2 ≤ l.length ∧ i = .int .i64 k2 ∧ Hid (RfI true l k2 acc) ∧ wq = wr) (fun i _ => l.length - (intOf i).toNat)
          case atStart => exact ⟨k, Nat.le_refl _, Nat.le_of_lt HK.out, rfl, HF, rfl⟩
          case round =>
            have HX10 := Lib.hid (show (l[k]'HK.out).toNat ≠ 10 from hge0.out ▸ (by decide : (35 : Nat) ≠ 10))
            clear HF hge hps hge0 HN10
            obtain ⟨k2, hkk, hk2, rfl, HC, rfl⟩ := hrel
            by_cases hlt2 : k2 < l.length
            · have hi2 : (k2 : Int) < (l.length : Int) := by omega
              have hps2 : k2 < (bs l).size := hlt2
              have HK2 := Lib.hid hlt2
              have hge2 : ((bs l)[k2]'hps2).toNat = (l[k2]).toNat := rfl
              have h10 : l[k2] = 10 ↔ (l[k2]).toNat = 10 := by rw [← UInt8.toNat_inj]; rfl
              by_cases hc : (l[k2]).toNat = 10
              · have HF := Lib.hid (rf_out HC.out hlt2 (h10.2 hc))
                have HKK := Lib.hid (show k < k2 from by
                  rcases Nat.lt_or_eq_of_le hkk with h | h
                  · exact h
                  · subst h; exact absurd hc HX10.out)
                rw [hc] at hge2
                clear h10 hc HC HX10 hlt2 hk2 hkk
                go_wp2
                go_roundw
                case rel => exact ⟨k2, acc, Nat.le_of_lt HK2.out, by go_num, HF, Lib.hid (by have := HA.out; have := HKK.out; omega), HO, HB⟩
                case measure => have := HKK.out; have := HK.out; show l.length - (k2 : Int).toNat < l.length - (k : Int).toNat; omega
              · have HF := Lib.hid (rf_in HC.out hlt2 (fun e => hc (h10.1 e)))
                have HKK := Lib.hid hkk
                generalize (l[k2]).toNat = c at *
                have hci : ¬ (c : Int) = 10 := by omega
                clear h10 hc HC HX10 hlt2 hk2 hkk
                go_wp2
                go_roundw
                case rel => exact ⟨k2 + 1, by have := HKK.out; omega, HK2.out, by go_num, HF, by first | rfl | trivial⟩
                case measure => exact meas_up _ _ HK2.out
            · obtain rfl : k2 = l.length := by omega
              have HF := Lib.hid (rf_over HC.out)
              clear HC HX10 hlt2 hk2 hkk
              go_wp2
              go_roundw
              case rel => exact ⟨l.length, acc, Nat.le_refl _, by go_num, HF, Lib.hid (by have := HA.out; have := HK.out; omega), HO, HB⟩
              case measure => have := HK.out; show l.length - (l.length : Int).toNat < l.length - (k : Int).toNat; omega
        · have HT := Lib.hid (LTK.out hwf (fun e => h5 (h35.1 e)))
          clear HS LWS LHA LTK
          have hne : ∀ v : Int, (v = 32 ∨ v = 9 ∨ v = 10 ∨ v = 13 ∨ v = 35) → ¬ (b.toNat : Int) = v := fun v hv => by omega
          have m1 := hne 32 (by decide)
          have m2 := hne 9 (by decide)
          have m3 := hne 10 (by decide)
          have m4 := hne 13 (by decide)
          have m5 := hne 35 (by decide)
          have f1 := beq_eq_false_iff_ne.2 m1
          have f2 := beq_eq_false_iff_ne.2 m2
          have f3 := beq_eq_false_iff_ne.2 m3
          have f4 := beq_eq_false_iff_ne.2 m4
          have f5 := beq_eq_false_iff_ne.2 m5
          clear hws h35 hwf hne n1 n2 n3 n4 h5 m1 m2 m3 m4 m5
          cases hp : partN b.toNat with
          | true =>
            obtain ⟨q1, q2, q3, q4, q5, q6, q7, q8⟩ := LWO.out HT.out hp
            have HWI := Lib.hid (show k + (word (l.drop k)).length = k + (word (l.drop k)).length from rfl)
            obtain ⟨k2', hk2'⟩ : ∃ k2', k2' = k + (word (l.drop k)).length := ⟨_, rfl⟩
            rw [← hk2'] at q2 q3 q4 q6 q7
            have HQ := Lib.hid hk2'
            have HM0 := Lib.hid (show k < k2' ∧ k2' ≤ l.length from ⟨by omega, q2⟩)
            have HNUM := Lib.hid q4
            have HBAD := Lib.hid q5
            have HKW := Lib.hid q6
            have HNAME := Lib.hid q7
            have HLONG := Lib.hid q8
            have HWL := Lib.hid (show (word (l.drop k)).length ≤ 65536 by have := H6.out; omega)
            have HWN := Lib.hid (show word (l.drop k) ≠ [] from fun e => by rw [e] at q1; simp at q1)
            have hext := q3
            have HP := Lib.hid (rpart_any b.toNat wr)
            rw [hp] at HP
            clear q1 q2 q3 q4 q5 q6 q7 q8 hk2' HT hp HWI hlt hk LWO LSG
            generalize b.toNat = c at *
            generalize hW : word (l.drop k) = W at *
            have HW0 := Lib.hid hW
            clear hW
            go_wp2_with fail
            refine HP.out.mono ?_
            rintro e w1 ⟨rfl, rfl⟩
            clear HP
            go_wp2
            go_loopw [8] (fun i wr => ∃ k3 : Nat, k ≤ k3 ∧ k3 ≤ l.length ∧ i = .int .i64 k3 ∧ Hid (k3 + (word (l.drop k3)).length = k2') ∧ wr = w1) (fun i _ => l.length - (intOf i).toNat)
            case atStart => exact ⟨k, Nat.le_refl _, Nat.le_of_lt HK.out, rfl, Lib.hid (by rw [HW0.out]; exact HQ.out.symm), rfl⟩
            case round =>
              obtain ⟨k3, hkk, hk3, rfl, HC, rfl⟩ := hrel
              by_cases hlt2 : k3 < l.length
              · have hi2 : (k3 : Int) < (l.length : Int) := by omega
                have hps2 : k3 < (bs l).size := hlt2
                have HK2 := Lib.hid hlt2
                have hge2 : ((bs l)[k3]'hps2).toNat = (l[k3]).toNat := rfl
                have HP := Lib.hid fun W => (rpart_any (l[k3]).toNat W)
                cases hp : partN (l[k3]).toNat with
                | true =>
                  have HC2 := Lib.hid (show k3 + 1 + (word (l.drop (k3 + 1))).length = k2' by have h1 := HC.out; have h2 := word_more hlt2 hp; omega)
                  have HKK := Lib.hid hkk
                  simp only [hp] at HP
                  generalize (l[k3]).toNat = c2 at *
                  clear hlt2 hk3 hkk HC hp
                  go_wp2_with fail
                  refine (HP.out _).mono ?_
                  rintro e w2 ⟨rfl, rfl⟩
                  go_wp2
                  go_roundw
                  case rel => exact ⟨k3 + 1, by have := HKK.out; omega, HK2.out, by go_num, HC2, by first | rfl | trivial⟩
                  case measure => exact meas_up _ _ HK2.out
                | false =>
                  have hrest : k3 = k2' := by have h1 := HC.out; rw [word_none hlt2 hp] at h1; simpa using h1
                  simp only [hp] at HP
                  generalize (l[k3]).toNat = c2 at *
                  subst hrest
                  have HM := HM0
                  have hkk2 : (k : Int) ≤ (k3 : Int) := by omega
                  clear hlt2 hkk HC hp hk3 HM0 HQ
                  go_wp2_with fail
                  refine (HP.out _).mono ?_
                  rintro e w2 ⟨rfl, rfl⟩
                  clear HP
                  have hrest := hge2
                  clear hrest
                  have hWz : (bs W).size = W.length := bs_size W
                  go_wp2_with fail
                  refine (rdigit_any c _).mono ?_
                  rintro e w1 ⟨rfl, rfl⟩
                  cases hd : digN c with
                  | true =>
                    have HE := Lib.hid fun h => HNUM.out hd h
                    have HX := Lib.hid fun h => HBAD.out hd h
                    clear HNUM HBAD HKW HNAME HLONG hd
                    go_wp2_with fail
                    refine (rnumber_any W _ HWL.out HWN.out).mono ?_
                    rintro e w2 ⟨rfl, rfl⟩
                    generalize numE W = er at *
                    by_cases he : er = 0
                    · subst he
                      have HF := Lib.hid (HE.out rfl)
                      clear HE HX
                      have HNR := Lib.hid fun WW => (Reads.new (S := fun _ => True) (size := 3) (n := 1) WW #[.int .i64 2, .string (bs W), .int .i64 k] 45 rfl trivial)
                      go_wp2_with (at_builtin; (refine wpList_append_any rfl (.tmp 87) (.tmp 92) 27 rfl w.heap.size 45 ie _ 3 32 Tryd.underlying27 hie0 hie1 hie2 hie3 rfl (by omega) u5 _ _ rfl (HO.out.alloc _) _ _ 1 1 _ rfl (HNR.out _) ?m1 ?m2 ?m3 ?m4 ?m5))
                      case m1 => first | exact ⟨rfl, rfl, rfl⟩ | exact tokC_one ⟨2, W, k⟩
                      case m2 => have := HA.out; have := H6.out; simp only [maxLen]; omega
                      case m3 => have := HA.out; have := H6.out; omega
                      case m4 => have := HB.out.size; simp; omega
                      case m5 =>
                        intro v' wf ho hg _
                        have BF := Lib.hid (Below.grown (HB.out.alloc HB.out.size _) hg (Nat.le_trans HB.out.size (by simp)) (fun j hj => (HO.out.lt j hj).1))
                        have OF := Lib.hid (show wf.ownsRow w.heap.size 45 3 v' (acc ++ [(⟨2, W, k⟩ : Tok)]).length ((acc ++ [(⟨2, W, k⟩ : Tok)]).flatMap tokC) from by rw [List.length_append, List.flatMap_append]; exact ho)
                        clear ho hg HNR HO HB
                        go_wp2
                        go_roundw
                        case rel => exact ⟨k3, acc ++ [⟨2, W, k⟩], HM.out.2, by go_num, HF, Lib.hid (by rw [List.length_append, List.length_singleton]; have := HA.out; have := HM.out.1; omega), OF, BF⟩
                        case measure => have := HM.out; have := HK.out; show l.length - (k3 : Int).toNat < l.length - (k : Int).toNat; omega
                    · have HF := Lib.hid (HX.out he)
                      have hne := beq_eq_false_iff_ne.2 he
                      clear HE HX he
                      go_wp2
                      go_ret3
                      exact ⟨.slice none 0 0, by rw [HF.out]; rfl, by rw [HF.out]; exact World.ownsRow_nil _ _ _ _, HB.out⟩
                  | false =>
                    have HE := Lib.hid fun h => HKW.out hd h
                    have HX := Lib.hid fun h => HNAME.out hd h
                    have HY := Lib.hid fun h => HLONG.out hd h
                    clear HNUM HBAD HKW HNAME HLONG hd
                    go_wp2_with fail
                    refine (rkeys_at _).mono ?_
                    rintro e w2 ⟨rb, rfl, hr, hb⟩
                    have HR := Lib.hid hr
                    have HB2 := Lib.hid (HB.out.trans (hb.mono HB.out.size))
                    have HO2 := Lib.hid (own_below HO.out hb)
                    clear hr hb HO HB
                    go_wp2_with fail
                    refine (rhas_any kws W rb 14 _ _ _ rfl (by decide) HR.out).mono ?_
                    rintro e w3 ⟨rfl, rfl⟩
                    clear HR
                    cases hc : kws.contains W with
                    | true =>
                      have HF := Lib.hid (HE.out hc)
                      clear HE HX HY hc
                      have HNR := Lib.hid fun WW => (Reads.new (S := fun _ => True) (size := 3) (n := 1) WW #[.int .i64 4, .string (bs W), .int .i64 k] 45 rfl trivial)
                      go_wp2_with (at_builtin; (refine wpList_append_any rfl (.tmp 87) (.tmp 92) 27 rfl w.heap.size 45 ie _ 3 32 Tryd.underlying27 hie0 hie1 hie2 hie3 rfl (by omega) u5 _ _ rfl (HO2.out.alloc _) _ _ 1 1 _ rfl (HNR.out _) ?m1 ?m2 ?m3 ?m4 ?m5))
                      case m1 => first | exact ⟨rfl, rfl, rfl⟩ | exact tokC_one ⟨4, W, k⟩
                      case m2 => have := HA.out; have := H6.out; simp only [maxLen]; omega
                      case m3 => have := HA.out; have := H6.out; omega
                      case m4 => have := HB2.out.size; simp; omega
                      case m5 =>
                        intro v' wf ho hg _
                        have BF := Lib.hid (Below.grown (HB2.out.alloc HB2.out.size _) hg (Nat.le_trans HB2.out.size (by simp)) (fun j hj => (HO2.out.lt j hj).1))
                        have OF := Lib.hid (show wf.ownsRow w.heap.size 45 3 v' (acc ++ [(⟨4, W, k⟩ : Tok)]).length ((acc ++ [(⟨4, W, k⟩ : Tok)]).flatMap tokC) from by rw [List.length_append, List.flatMap_append]; exact ho)
                        clear ho hg HNR HO2 HB2
                        go_wp2
                        go_roundw
                        case rel => exact ⟨k3, acc ++ [⟨4, W, k⟩], HM.out.2, by go_num, HF, Lib.hid (by rw [List.length_append, List.length_singleton]; have := HA.out; have := HM.out.1; omega), OF, BF⟩
                        case measure => have := HM.out; have := HK.out; show l.length - (k3 : Int).toNat < l.length - (k : Int).toNat; omega
                    | false =>
                      by_cases hlong : 24 < W.length
                      · have HF := Lib.hid (HY.out hc hlong)
                        have hli2 : (24 : Int) < (W.length : Int) := by omega
                        clear HE HX HY hc hlong
                        go_wp2
                        go_ret3
                        exact ⟨.slice none 0 0, by rw [HF.out]; rfl, by rw [HF.out]; exact World.ownsRow_nil _ _ _ _, HB2.out⟩
                      · have HF := Lib.hid (HX.out hc (by omega))
                        have hli2 : ¬ (24 : Int) < (W.length : Int) := by omega
                        clear HE HX HY hc hlong
                        have HNR := Lib.hid fun WW => (Reads.new (S := fun _ => True) (size := 3) (n := 1) WW #[.int .i64 1, .string (bs W), .int .i64 k] 45 rfl trivial)
                        go_wp2_with (at_builtin; (refine wpList_append_any rfl (.tmp 87) (.tmp 92) 27 rfl w.heap.size 45 ie _ 3 32 Tryd.underlying27 hie0 hie1 hie2 hie3 rfl (by omega) u5 _ _ rfl (HO2.out.alloc _) _ _ 1 1 _ rfl (HNR.out _) ?m1 ?m2 ?m3 ?m4 ?m5))
                        case m1 => first | exact ⟨rfl, rfl, rfl⟩ | exact tokC_one ⟨1, W, k⟩
                        case m2 => have := HA.out; have := H6.out; simp only [maxLen]; omega
                        case m3 => have := HA.out; have := H6.out; omega
                        case m4 => have := HB2.out.size; simp; omega
                        case m5 =>
                          intro v' wf ho hg _
                          have BF := Lib.hid (Below.grown (HB2.out.alloc HB2.out.size _) hg (Nat.le_trans HB2.out.size (by simp)) (fun j hj => (HO2.out.lt j hj).1))
                          have OF := Lib.hid (show wf.ownsRow w.heap.size 45 3 v' (acc ++ [(⟨1, W, k⟩ : Tok)]).length ((acc ++ [(⟨1, W, k⟩ : Tok)]).flatMap tokC) from by rw [List.length_append, List.flatMap_append]; exact ho)
                          clear ho hg HNR HO2 HB2
                          go_wp2
                          go_roundw
                          case rel => exact ⟨k3, acc ++ [⟨1, W, k⟩], HM.out.2, by go_num, HF, Lib.hid (by rw [List.length_append, List.length_singleton]; have := HA.out; have := HM.out.1; omega), OF, BF⟩
                          case measure => have := HM.out; have := HK.out; show l.length - (k3 : Int).toNat < l.length - (k : Int).toNat; omega
              · obtain rfl : k3 = l.length := by omega
                have hrest : l.length = k2' := by have h1 := HC.out; rw [List.drop_length] at h1; simpa [word] using h1
                subst hrest
                have HM := HM0
                have hkk2 : (k : Int) ≤ (l.length : Int) := by omega
                have hrest := hkk2
                clear hlt2 hkk HC hk3 HM0 HQ
                clear hrest
                have hWz : (bs W).size = W.length := bs_size W
                go_wp2_with fail
                refine (rdigit_any c _).mono ?_
                rintro e w1 ⟨rfl, rfl⟩
                cases hd : digN c with
                | true =>
                  have HE := Lib.hid fun h => HNUM.out hd h
                  have HX := Lib.hid fun h => HBAD.out hd h
                  clear HNUM HBAD HKW HNAME HLONG hd
                  go_wp2_with fail
                  refine (rnumber_any W _ HWL.out HWN.out).mono ?_
                  rintro e w2 ⟨rfl, rfl⟩
                  generalize numE W = er at *
                  by_cases he : er = 0
                  · subst he
                    have HF := Lib.hid (HE.out rfl)
                    clear HE HX
                    have HNR := Lib.hid fun WW => (Reads.new (S := fun _ => True) (size := 3) (n := 1) WW #[.int .i64 2, .string (bs W), .int .i64 k] 45 rfl trivial)
                    go_wp2_with (at_builtin; (refine wpList_append_any rfl (.tmp 87) (.tmp 92) 27 rfl w.heap.size 45 ie _ 3 32 Tryd.underlying27 hie0 hie1 hie2 hie3 rfl (by omega) u5 _ _ rfl (HO.out.alloc _) _ _ 1 1 _ rfl (HNR.out _) ?m1 ?m2 ?m3 ?m4 ?m5))
                    case m1 => first | exact ⟨rfl, rfl, rfl⟩ | exact tokC_one ⟨2, W, k⟩
                    case m2 => have := HA.out; have := H6.out; simp only [maxLen]; omega
                    case m3 => have := HA.out; have := H6.out; omega
                    case m4 => have := HB.out.size; simp; omega
                    case m5 =>
                      intro v' wf ho hg _
                      have BF := Lib.hid (Below.grown (HB.out.alloc HB.out.size _) hg (Nat.le_trans HB.out.size (by simp)) (fun j hj => (HO.out.lt j hj).1))
                      have OF := Lib.hid (show wf.ownsRow w.heap.size 45 3 v' (acc ++ [(⟨2, W, k⟩ : Tok)]).length ((acc ++ [(⟨2, W, k⟩ : Tok)]).flatMap tokC) from by rw [List.length_append, List.flatMap_append]; exact ho)
                      clear ho hg HNR HO HB
                      go_wp2
                      go_roundw
                      case rel => exact ⟨l.length, acc ++ [⟨2, W, k⟩], HM.out.2, by go_num, HF, Lib.hid (by rw [List.length_append, List.length_singleton]; have := HA.out; have := HM.out.1; omega), OF, BF⟩
                      case measure => have := HM.out; have := HK.out; show l.length - (l.length : Int).toNat < l.length - (k : Int).toNat; omega
                  · have HF := Lib.hid (HX.out he)
                    have hne := beq_eq_false_iff_ne.2 he
                    clear HE HX he
                    go_wp2
                    go_ret3
                    exact ⟨.slice none 0 0, by rw [HF.out]; rfl, by rw [HF.out]; exact World.ownsRow_nil _ _ _ _, HB.out⟩
                | false =>
                  have HE := Lib.hid fun h => HKW.out hd h
                  have HX := Lib.hid fun h => HNAME.out hd h
                  have HY := Lib.hid fun h => HLONG.out hd h
                  clear HNUM HBAD HKW HNAME HLONG hd
                  go_wp2_with fail
                  refine (rkeys_at _).mono ?_
                  rintro e w2 ⟨rb, rfl, hr, hb⟩
                  have HR := Lib.hid hr
                  have HB2 := Lib.hid (HB.out.trans (hb.mono HB.out.size))
                  have HO2 := Lib.hid (own_below HO.out hb)
                  clear hr hb HO HB
                  go_wp2_with fail
                  refine (rhas_any kws W rb 14 _ _ _ rfl (by decide) HR.out).mono ?_
                  rintro e w3 ⟨rfl, rfl⟩
                  clear HR
                  cases hc : kws.contains W with
                  | true =>
                    have HF := Lib.hid (HE.out hc)
                    clear HE HX HY hc
                    have HNR := Lib.hid fun WW => (Reads.new (S := fun _ => True) (size := 3) (n := 1) WW #[.int .i64 4, .string (bs W), .int .i64 k] 45 rfl trivial)
                    go_wp2_with (at_builtin; (refine wpList_append_any rfl (.tmp 87) (.tmp 92) 27 rfl w.heap.size 45 ie _ 3 32 Tryd.underlying27 hie0 hie1 hie2 hie3 rfl (by omega) u5 _ _ rfl (HO2.out.alloc _) _ _ 1 1 _ rfl (HNR.out _) ?m1 ?m2 ?m3 ?m4 ?m5))
                    case m1 => first | exact ⟨rfl, rfl, rfl⟩ | exact tokC_one ⟨4, W, k⟩
                    case m2 => have := HA.out; have := H6.out; simp only [maxLen]; omega
                    case m3 => have := HA.out; have := H6.out; omega
                    case m4 => have := HB2.out.size; simp; omega
                    case m5 =>
                      intro v' wf ho hg _
                      have BF := Lib.hid (Below.grown (HB2.out.alloc HB2.out.size _) hg (Nat.le_trans HB2.out.size (by simp)) (fun j hj => (HO2.out.lt j hj).1))
                      have OF := Lib.hid (show wf.ownsRow w.heap.size 45 3 v' (acc ++ [(⟨4, W, k⟩ : Tok)]).length ((acc ++ [(⟨4, W, k⟩ : Tok)]).flatMap tokC) from by rw [List.length_append, List.flatMap_append]; exact ho)
                      clear ho hg HNR HO2 HB2
                      go_wp2
                      go_roundw
                      case rel => exact ⟨l.length, acc ++ [⟨4, W, k⟩], HM.out.2, by go_num, HF, Lib.hid (by rw [List.length_append, List.length_singleton]; have := HA.out; have := HM.out.1; omega), OF, BF⟩
                      case measure => have := HM.out; have := HK.out; show l.length - (l.length : Int).toNat < l.length - (k : Int).toNat; omega
                  | false =>
                    by_cases hlong : 24 < W.length
                    · have HF := Lib.hid (HY.out hc hlong)
                      have hli2 : (24 : Int) < (W.length : Int) := by omega
                      clear HE HX HY hc hlong
                      go_wp2
                      go_ret3
                      exact ⟨.slice none 0 0, by rw [HF.out]; rfl, by rw [HF.out]; exact World.ownsRow_nil _ _ _ _, HB2.out⟩
                    · have HF := Lib.hid (HX.out hc (by omega))
                      have hli2 : ¬ (24 : Int) < (W.length : Int) := by omega
                      clear HE HX HY hc hlong
                      have HNR := Lib.hid fun WW => (Reads.new (S := fun _ => True) (size := 3) (n := 1) WW #[.int .i64 1, .string (bs W), .int .i64 k] 45 rfl trivial)
                      go_wp2_with (at_builtin; (refine wpList_append_any rfl (.tmp 87) (.tmp 92) 27 rfl w.heap.size 45 ie _ 3 32 Tryd.underlying27 hie0 hie1 hie2 hie3 rfl (by omega) u5 _ _ rfl (HO2.out.alloc _) _ _ 1 1 _ rfl (HNR.out _) ?m1 ?m2 ?m3 ?m4 ?m5))
                      case m1 => first | exact ⟨rfl, rfl, rfl⟩ | exact tokC_one ⟨1, W, k⟩
                      case m2 => have := HA.out; have := H6.out; simp only [maxLen]; omega
                      case m3 => have := HA.out; have := H6.out; omega
                      case m4 => have := HB2.out.size; simp; omega
                      case m5 =>
                        intro v' wf ho hg _
                        have BF := Lib.hid (Below.grown (HB2.out.alloc HB2.out.size _) hg (Nat.le_trans HB2.out.size (by simp)) (fun j hj => (HO2.out.lt j hj).1))
                        have OF := Lib.hid (show wf.ownsRow w.heap.size 45 3 v' (acc ++ [(⟨1, W, k⟩ : Tok)]).length ((acc ++ [(⟨1, W, k⟩ : Tok)]).flatMap tokC) from by rw [List.length_append, List.flatMap_append]; exact ho)
                        clear ho hg HNR HO2 HB2
                        go_wp2
                        go_roundw
                        case rel => exact ⟨l.length, acc ++ [⟨1, W, k⟩], HM.out.2, by go_num, HF, Lib.hid (by rw [List.length_append, List.length_singleton]; have := HA.out; have := HM.out.1; omega), OF, BF⟩
                        case measure => have := HM.out; have := HK.out; show l.length - (l.length : Int).toNat < l.length - (k : Int).toNat; omega
          | false =>
            have HSG := Lib.hid (LSG.out HT.out hp)
            have HP := Lib.hid (rpart_any b.toNat wr)
            rw [hp] at HP
            generalize b.toNat = c at *
            clear hp hlt hk HT LSG LWO
            go_wp2_with fail
            refine HP.out.mono ?_
            rintro e w1 ⟨rfl, rfl⟩
            clear HP
            have HRS := Lib.hid (rsign_any (l.drop k) w1 (by have := H6.out; rw [List.length_drop]; omega))
            generalize sgB 19 (l.drop k) = W at *
            obtain ⟨q1, q2, q3, q4⟩ := HSG.out
            have HM1 := Lib.hid q1
            have HY := Lib.hid q3
            have HX := Lib.hid q4
            have hW2 : (W.length : Int) ≤ 2 := by omega
            have hkW : (k : Int) + (W.length : Int) ≤ 65536 := by have := H6.out; omega
            clear q1 q2 q3 q4 HSG
            go_wp2_with fail
            rw [show (bs l).extract k l.length = bs (l.drop k) from bs_tail l k]
            refine HRS.out.mono ?_
            rintro e w2 ⟨rfl, hb⟩
            have HB2 := Lib.hid (HB.out.trans (hb.mono HB.out.size))
            have HO2 := Lib.hid (own_below HO.out hb)
            clear hb HB HO HRS
            have hWl : (bs W).toList = W := bs_toList W
            have hWz : (bs W).size = W.length := bs_size W
            by_cases hWn : W = []
            · have HF := Lib.hid (HX.out hWn)
              subst hWn
              clear HX HY
              go_wp2
              go_ret3
              exact ⟨.slice none 0 0, by rw [HF.out]; rfl, by rw [HF.out]; exact World.ownsRow_nil _ _ _ _, HB2.out⟩
            · have HF := Lib.hid (HY.out hWn)
              have HM := Lib.hid (show 0 < W.length ∧ k + W.length ≤ l.length from ⟨List.length_pos_iff.2 hWn, HM1.out⟩)
              have hWe : W.isEmpty = false := by simpa using hWn
              clear HX HY HM1
              have HNR := Lib.hid fun WW => (Reads.new (S := fun _ => True) (size := 3) (n := 1) WW #[.int .i64 3, .string (bs W), .int .i64 k] 45 rfl trivial)
              go_wp2_with (at_builtin; (refine wpList_append_any rfl (.tmp 102) (.tmp 106) 27 rfl w.heap.size 45 ie _ 3 32 Tryd.underlying27 hie0 hie1 hie2 hie3 rfl (by omega) u5 _ _ rfl (HO2.out.alloc _) _ _ 1 1 _ rfl (HNR.out _) ?m1 ?m2 ?m3 ?m4 ?m5))
              case m1 => first | exact ⟨rfl, rfl, rfl⟩ | exact tokC_one ⟨3, W, k⟩
              case m2 => have := HA.out; have := H6.out; simp only [maxLen]; omega
              case m3 => have := HA.out; have := H6.out; omega
              case m4 => have := HB2.out.size; simp; omega
              case m5 =>
                intro v' wf ho hg _
                have BF := Lib.hid (Below.grown (HB2.out.alloc HB2.out.size _) hg (Nat.le_trans HB2.out.size (by simp)) (fun j hj => (HO2.out.lt j hj).1))
                have OF := Lib.hid (show wf.ownsRow w.heap.size 45 3 v' (acc ++ [(⟨3, W, k⟩ : Tok)]).length ((acc ++ [(⟨3, W, k⟩ : Tok)]).flatMap tokC) from by rw [List.length_append, List.flatMap_append]; exact ho)
                clear ho hg HNR HO2 HB2
                go_wp2
                go_roundw
                case rel => exact ⟨k + W.length, acc ++ [⟨3, W, k⟩], HM.out.2, by go_num, HF, Lib.hid (by rw [List.length_append, List.length_singleton]; have := HA.out; have := HM.out.1; omega), OF, BF⟩
                case measure => have := HM.out; have := HK.out; show l.length - ((k : Int) + (W.length : Int)).toNat < l.length - (k : Int).toNat; omega
    · skip
      obtain rfl : k = l.length := by omega
      have HF := Lib.hid (rf_end HS.out H6.out)
      clear hk hlt HS
      have HNR := Lib.hid fun WW => (Reads.new (S := fun _ => True) (size := 3) (n := 1) WW #[.int .i64 0, .string ({ data := #[] }), .int .i64 (l.length : Int)] 45 rfl trivial)
      go_wp2_with (at_builtin; (refine wpList_append_any rfl (.tmp 112) (.tmp 116) 27 rfl w.heap.size 45 ie _ 3 32 Tryd.underlying27 hie0 hie1 hie2 hie3 rfl (by omega) u5 _ _ rfl (HO.out.alloc _) _ _ 1 1 _ rfl (HNR.out _) ?m1 ?m2 ?m3 ?m4 ?m5))
      case m1 => first | exact ⟨rfl, rfl, rfl⟩ | exact tokC_one ⟨0, [], l.length⟩
      case m2 => have := HA.out; have := H6.out; simp only [maxLen]; omega
      case m3 => have := HA.out; have := H6.out; omega
      case m4 => have := HB.out.size; simp; omega
      case m5 =>
        intro v' wf ho hg _
        have BF := Lib.hid (Below.grown (HB.out.alloc HB.out.size _) hg (Nat.le_trans HB.out.size (by simp)) (fun j hj => (HO.out.lt j hj).1))
        have OF := Lib.hid (show wf.ownsRow w.heap.size 45 3 v' (acc ++ [(⟨0, [], l.length⟩ : Tok)]).length ((acc ++ [(⟨0, [], l.length⟩ : Tok)]).flatMap tokC) from by rw [List.length_append, List.flatMap_append]; exact ho)
        clear ho hg HNR HO HB
        go_wp2
        go_ret3
        exact ⟨v', by rw [HF.out]; rfl, by rw [HF.out]; exact OF.out, BF.out⟩
end Go.Proofs.YtjknmfnelkhmcaaDoor
