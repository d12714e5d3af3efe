/- The walk of the reference's Parse: it answers what rps says. No condition beyond the length. -/
import Derived.Test.YtkccaadhjodhlaaDoorWordF
set_option linter.unusedVariables false
set_option linter.unusedSimpArgs false
namespace Go.Proofs.YtkccaadhjodhlaaDoor
open Go.RowKit

theorem res_wordB {fn : Func} {p u : Tmp} (h : fn.results = #[.cell p 33, .tmp u]) (tmps : Array Value) (w : World) (g : Nat) (v n r : Int) (c : Bool) (hp : tmps.getD p undef = .pointer (some ⟨g, 0, none⟩)) (hu : tmps.getD u undef = .bool c) (hg : WBox w g v n r) :
    (results fn tmps).run Tryd.prog w = .ok (.tuple #[wd v n r, .bool c]) w := by
  rw [results_cell_tmp h, hp, hu]
  have hl := run_loadVar_row (P := Tryd.prog) w g 33 33 #[.int .i64 v, .int .u32 n, .int .u32 r] (0, 0) _ hg Tryd.underlying33 rfl Tryd.sizeW
  simp [asAddr, hl, wd, Result.andThen]
theorem atC_nat {l : List UInt8} {i : Nat} (h : i < l.length) (d : UInt8) : atC l i d = decide ((l[i]).toNat = d.toNat) := by
  unfold atC
  rw [decide_eq_true h, List.getD_eq_getElem?_getD, List.getElem?_eq_getElem h, Bool.true_and]
  show (l[i] == d) = _
  by_cases e : l[i] = d
  · rw [e]; simp
  · rw [beq_eq_false_iff_ne.2 e, decide_eq_false fun x => e (UInt8.toNat_inj.1 x)]
theorem atC_ge {l : List UInt8} {i : Nat} (h : ¬ i < l.length) (d : UInt8) : atC l i d = false := by
  unfold atC
  rw [decide_eq_false h, Bool.false_and]
theorem WBox.set1 {w : World} {b : Nat} {v n r : Int} (h : WBox w b v n r) (x : Int) : WBox (w.setCell ⟨b, 1, none⟩ (.int .u32 x)) b v x r ∧ Keep (fun k => k = b) w (w.setCell ⟨b, 1, none⟩ (.int .u32 x)) := by
  obtain ⟨k1, k2⟩ := (Keep.of_below (S := fun k => k = b) (Below.refl _ w)).setCell rfl (show w.heap[b]? = some (.cells _ _ (0, 0)) from h) (.int .u32 x) (off := 1)
  exact ⟨k2, k1⟩
theorem rps_neg {l : List UInt8} (h : rpNeg l = true) : rps l = match dgA 9223372036854775808 l 1 with
    | none => none
    | some (n, i) => match rpV l i with
      | none => none
      | some (v, j) => match rpR l j with
        | none => none
        | some (r, m) => if m = l.length ∧ txt (IntKind.i64.wrap (-(IntKind.i64.wrap (n : Int)))) v r = l then some (IntKind.i64.wrap (-(IntKind.i64.wrap (n : Int))), (v : Int), r) else none := by
  unfold rps rpVal
  rw [h]
  rfl
theorem rps_pos {l : List UInt8} (h : rpNeg l = false) : rps l = match dgA 9223372036854775807 l 0 with
    | none => none
    | some (n, i) => match rpV l i with
      | none => none
      | some (v, j) => match rpR l j with
        | none => none
        | some (r, m) => if m = l.length ∧ txt (n : Int) v r = l then some ((n : Int), (v : Int), r) else none := by
  unfold rps rpVal
  rw [h]
  rfl

section
variable {ops : Array Oper} {rest : List Oper} {a : Act} {w : World} {Q : Exit → Act → World → Prop} {o : Oper} {v n r : Int}
/-- A guarded load of a word, where the guard is met. -/
theorem get_wordG (hw : Region.wanted o (yielded ops a.tmps) = true) (x : Operand) (ho : o.op = .load 33 x) (g : Nat) (hx : a.eval x = .pointer (some ⟨g, 0, none⟩)) (h0 : WBox w g v n r)
    (h : wpList Tryd.prog ops Q rest (a.put o.dst (wd v n r)) w) : wpList Tryd.prog ops Q (o :: rest) a w :=
  wpList_step fun K hK => by
    rw [if_pos hw]
    have hl := run_loadVar_row (P := Tryd.prog) w g 33 33 #[.int .i64 v, .int .u32 n, .int .u32 r] (0, 0) _ h0 Tryd.underlying33 rfl Tryd.sizeW
    unfold Oper.wp execOp
    simp only [ho, hx, Instr.loadAt, Instr.sureAddr, Sem.run_bind, Sem.run_pure, Result.andThen_ok, hl]
    exact hK _ _ h
end

set_option maxRecDepth 100000 in
set_option maxHeartbeats 25600000 in
theorem rparse_neg (l : List UInt8) (w : World) (hl : l.length ≤ 1000) (h0 : 0 < l.length) (hc : (l[0]).toNat = 45) :
    Calls Tryd.prog 19 #[.string (bs l)] w fun e w' => e = .returned (.tuple #[prV1 (rps l), .bool (rps l).isSome]) ∧ Below w.heap.size w w' := by
  have HL := Lib.hid hl
  have hsz := bs_size l
  have hli : (l.length : Int) ≤ 1000 := by omega
  have hnt := atC_nat h0 45
  have h0s : 0 < (bs l).size := h0
  have hge : ((bs l)[0]'h0s).toNat = (l[0]).toNat := rfl
  have h0i : (0 : Int) < (l.length : Int) := by omega
  have h0d : decide ((0 : Int) < (l.length : Int)) = true := decide_eq_true h0i
  rw [show (45 : UInt8).toNat = 45 from rfl] at hnt
  have hng : rpNeg l = true := hnt.trans (decide_eq_true hc)
  clear hnt
  generalize (l[0]).toNat = c0 at *
  subst hc
  have HPS := Lib.hid (rps_neg hng)
  have HD := Lib.hid fun W => dig_any 9223372036854775808 (by omega) (by omega) l 1 (by omega) HL.out W
  clear hng hl
  go_enter Tryd.func19, Tryd.ntmps19
  go_wp2_with fail
  have h0' : Below w.heap.size w (w.alloc (wdO 0 0 0)) := (Below.refl _ _).alloc (Nat.le_refl _) _
  have h1' : Below w.heap.size w ((w.alloc (wdO 0 0 0)).alloc (wdO 0 0 0)) := h0'.alloc (by simp) _
  have n1 : (w.alloc (wdO 0 0 0)).heap.size = w.heap.size + 1 := by simp
  have r0 : WBox ((w.alloc (wdO 0 0 0)).alloc (wdO 0 0 0)) w.heap.size 0 0 0 := WBox.new.alloc _
  have r1 : WBox ((w.alloc (wdO 0 0 0)).alloc (wdO 0 0 0)) (w.heap.size + 1) 0 0 0 := by have := WBox.new (w := w.alloc (wdO 0 0 0)) (v := 0) (n := 0) (r := 0); rwa [n1] at this
  have B0 := Lib.hid h1'
  have R0 := Lib.hid r0
  have W0 := Lib.hid r1
  clear h0' h1' n1 r0 r1
  unfold wdO at B0 R0 W0
  generalize (w.alloc (.cells #[.int .i64 0, .int .u32 0, .int .u32 0] 33)).alloc (.cells #[.int .i64 0, .int .u32 0, .int .u32 0] 33) = w0 at *
  cases hd : dgA 9223372036854775808 l 1 with
  | none =>
    rw [hd] at HPS HD
    dsimp only [dgN, dgI] at HPS HD
    clear hd
    refine (HD.out _).mono ?_
    rintro e wq ⟨rfl, hq⟩
    subst wq
    have HPN := Lib.hid (show rps l = none from HPS.out)
    go_wp2_with (with_reducible refine at_store_ (t := 33) ?_; refine Hid.out ?_)
    refine Lib.hid ?_
    refine put_word (v' := 0) (n' := 0) (r' := 0) rfl (.tmp 2) (.tmp 36) rfl rfl w.heap.size rfl rfl R0.out ?_
    intro wx hx kx
    have HX := Lib.hid hx
    have HBX := Lib.hid (B0.out.trans (kx.below B0.out.size (fun k hk e => by omega)))
    clear hx kx
    go_wp2
    try simp only [Exit.inBlock, Exit.then]
    refine bodyPost_ret (v := .tuple #[wd 0 0 0, .bool false]) ?_ rfl ⟨by rw [HPN.out]; rfl, HBX.out⟩
    rw [res_wordB rfl _ _ w.heap.size 0 0 0 false rfl rfl HX.out]
  | some pn =>
    obtain ⟨n, i⟩ := pn
    have hni := dgA_le (by omega) hd
    rw [hd] at HPS HD
    dsimp only [dgN, dgI] at HPS HD
    clear hd
    have HNI := Lib.hid hni
    have hin : ¬ (i : Int) < 0 := by omega
    obtain ⟨x1, hx1⟩ : ∃ x1, IntKind.i64.wrap (n : Int) = x1 := ⟨_, rfl⟩
    rw [hx1] at HPS
    obtain ⟨x, hx⟩ : ∃ x, IntKind.i64.wrap (-x1) = x := ⟨_, rfl⟩
    rw [hx] at HPS
    have HXB := Lib.hid (hx ▸ wrap64 (-x1))
    have wz := W0.out.fz 0
    have wc := W0.out.c0
    have WS := W0.out.set0 x1
    have wz2 := WS.1.fz 0
    have wc3 := WS.1.c0
    have WT := WS.1.set0 x
    have W1 := Lib.hid WT.1
    have R1 := Lib.hid ((R0.out.keep WS.2 (by omega)).keep WT.2 (by omega))
    have B1 := Lib.hid ((B0.out.trans (WS.2.below B0.out.size (fun k hk e => by omega))).trans (WT.2.below (Nat.le_trans B0.out.size WS.2.size) (fun k hk e => by omega)))
    clear WS WT hni
    refine (HD.out _).mono ?_
    rintro e wq ⟨rfl, hq⟩
    subst wq
    clear HD
    by_cases hi : i < l.length
    · skip
      have hip : i < (bs l).size := hi
      have hie : ((bs l)[i]'hip).toNat = (l[i]).toNat := rfl
      have hatv := atC_nat hi 46
      have hii : (i : Int) < (l.length : Int) := by omega
      have hid : decide ((i : Int) < (l.length : Int)) = true := decide_eq_true hii
      have HI := Lib.hid hi
      generalize hci2 : (l[i]).toNat = ci at *
      rw [show (46 : UInt8).toNat = 46 from rfl] at hatv
      by_cases h46 : ci = 46
      · skip
        clear hci2
        subst h46
        rw [decide_eq_true rfl] at hatv
        have HV := Lib.hid (show rpV l i = _ from (if_pos hatv : rpV l i = _))
        have HDV := Lib.hid fun W => dig_any 4294967295 (by omega) (by omega) l (i + 1) HI.out HL.out W
        clear hatv hi
        rw [show (((i + 1 : Nat)) : Int) = (i : Int) + 1 by omega] at HDV
        cases hdv : dgA 4294967295 l (i + 1) with
        | none =>
          rw [hdv] at HV HDV
          dsimp only [dgN, dgI] at HV HDV
          clear hdv
          go_wp2_with fail
          refine (HDV.out _).mono ?_
          rintro e wq ⟨rfl, hq⟩
          subst wq
          have HPN := Lib.hid (show rps l = none from HPS.out.trans (by rw [HV.out]))
          go_wp2_with (with_reducible refine at_store_ (t := 33) ?_; refine Hid.out ?_)
          refine Lib.hid ?_
          refine put_word (v' := 0) (n' := 0) (r' := 0) rfl (.tmp 2) (.tmp 64) rfl rfl w.heap.size rfl rfl R1.out ?_
          intro wx hx kx
          have HX := Lib.hid hx
          have HBX := Lib.hid (B1.out.trans (kx.below B1.out.size (fun k hk e => by omega)))
          clear hx kx
          go_wp2
          try simp only [Exit.inBlock, Exit.then]
          refine bodyPost_ret (v := .tuple #[wd 0 0 0, .bool false]) ?_ rfl ⟨by rw [HPN.out]; rfl, HBX.out⟩
          rw [res_wordB rfl _ _ w.heap.size 0 0 0 false rfl rfl HX.out]
        | some pv =>
          obtain ⟨ve, j⟩ := pv
          have hvj := dgA_le (by omega) hdv
          rw [hdv] at HV HDV
          dsimp only [dgN, dgI] at HV HDV
          clear hdv
          have HVJ := Lib.hid hvj
          have hv32 : IntKind.u32.wrap (ve : Int) = (ve : Int) := by simp [IntKind.wrap, IntKind.bits, IntKind.signed]; omega
          have hjn : ¬ (j : Int) < 0 := by omega
          have HVB := Lib.hid (show 0 ≤ (ve : Int) ∧ (ve : Int) < 4294967296 by omega)
          have HPS2 := Lib.hid (HPS.out.trans (by rw [HV.out]))
          dsimp only at HPS2
          have HPS := HPS2
          clear HPS2
          have wz5 := W1.out.fz 1
          have wc5 := W1.out.c1
          have WV := W1.out.set1 (ve : Int)
          have W2 := Lib.hid WV.1
          have R2 := Lib.hid (R1.out.keep WV.2 (by omega))
          have B2 := Lib.hid (B1.out.trans (WV.2.below B1.out.size (fun k hk e => by omega)))
          clear WV hvj
          have hjle : j ≤ l.length := HVJ.out.2.2
          go_wp2_with fail
          refine (HDV.out _).mono ?_
          rintro e wq ⟨rfl, hq⟩
          subst wq
          by_cases hj : j < l.length
          · skip
            have hjp : j < (bs l).size := hj
            have hje : ((bs l)[j]'hjp).toNat = (l[j]).toNat := rfl
            have hat := atC_nat hj 35
            have hji : (j : Int) < (l.length : Int) := by omega
            have hjd : decide ((j : Int) < (l.length : Int)) = true := decide_eq_true hji
            have HJ := Lib.hid hj
            generalize (l[j]).toNat = cj at *
            clear hj
            rw [show (35 : UInt8).toNat = 35 from rfl] at hat
            by_cases h35 : cj = 35
            · skip
              subst h35
              rw [decide_eq_true rfl] at hat
              have HR := Lib.hid (show rpR l j = _ from (if_pos hat : rpR l j = _))
              have HDA := Lib.hid fun W => dig_any 100 (by omega) (by omega) l (j + 1) HJ.out HL.out W
              clear hat
              cases hda : dgA 100 l (j + 1) with
              | none =>
                rw [hda] at HR HDA
                dsimp only [dgN, dgI] at HR HDA
                clear hda
                rw [show (((j + 1 : Nat)) : Int) = (j : Int) + 1 by omega] at HDA
                go_wp2_with fail
                refine (HDA.out _).mono ?_
                rintro e wq ⟨rfl, hq⟩
                subst wq
                have HPN := Lib.hid (show rps l = none from HPS.out.trans (by rw [HR.out]))
                go_wp2_with (with_reducible refine at_store_ (t := 33) ?_; refine Hid.out ?_)
                refine Lib.hid ?_
                refine put_word (v' := 0) (n' := 0) (r' := 0) rfl (.tmp 2) (.tmp 100) rfl rfl w.heap.size rfl rfl R2.out ?_
                intro wx hx kx
                have HX := Lib.hid hx
                have HBX := Lib.hid (B2.out.trans (kx.below B2.out.size (fun k hk e => by omega)))
                clear hx kx
                go_wp2
                try simp only [Exit.inBlock, Exit.then]
                refine bodyPost_ret (v := .tuple #[wd 0 0 0, .bool false]) ?_ rfl ⟨by rw [HPN.out]; rfl, HBX.out⟩
                rw [res_wordB rfl _ _ w.heap.size 0 0 0 false rfl rfl HX.out]
              | some pa =>
                obtain ⟨a, k⟩ := pa
                have hak := dgA_le (by omega) hda
                rw [hda] at HR HDA
                dsimp only [dgN, dgI] at HR HDA
                clear hda
                rw [show (((j + 1 : Nat)) : Int) = (j : Int) + 1 by omega] at HDA
                have HAK := Lib.hid hak
                have hkn : ¬ (k : Int) < 0 := by omega
                have hknd : decide ((k : Int) < 0) = false := decide_eq_false hkn
                by_cases hkl : k < l.length
                · skip
                  have hkp : k < (bs l).size := hkl
                  have hke : ((bs l)[k]'hkp).toNat = (l[k]).toNat := rfl
                  have hat2 := atC_nat hkl 58
                  have hki : (k : Int) < (l.length : Int) := by omega
                  have hkd : decide ((l.length : Int) ≤ (k : Int)) = false := decide_eq_false (by omega)
                  have HKL := Lib.hid hkl
                  generalize (l[k]).toNat = ck at *
                  clear hkl hak
                  rw [show (58 : UInt8).toNat = 58 from rfl] at hat2
                  by_cases h58 : ck = 58
                  · skip
                    subst h58
                    rw [decide_eq_true rfl] at hat2
                    have HR2 := Lib.hid (HR.out.trans (if_pos hat2))
                    have HDB := Lib.hid fun W => dig_any 16777215 (by omega) (by omega) l (k + 1) HKL.out HL.out W
                    clear hat2 HR
                    rw [show (((k + 1 : Nat)) : Int) = (k : Int) + 1 by omega] at HDB
                    cases hdb : dgA 16777215 l (k + 1) with
                    | none =>
                      rw [hdb] at HR2 HDB
                      dsimp only [dgN, dgI] at HR2 HDB
                      clear hdb
                      go_wp2_with fail
                      refine (HDA.out _).mono ?_
                      rintro e wq ⟨rfl, hq⟩
                      subst wq
                      go_wp2_with fail
                      refine (HDB.out _).mono ?_
                      rintro e wq ⟨rfl, hq⟩
                      subst wq
                      have HPN := Lib.hid (show rps l = none from HPS.out.trans (by rw [HR2.out]))
                      go_wp2_with (with_reducible refine at_store_ (t := 33) ?_; refine Hid.out ?_)
                      refine Lib.hid ?_
                      refine put_word (v' := 0) (n' := 0) (r' := 0) rfl (.tmp 2) (.tmp 110) rfl rfl w.heap.size rfl rfl R2.out ?_
                      intro wx hx kx
                      have HX := Lib.hid hx
                      have HBX := Lib.hid (B2.out.trans (kx.below B2.out.size (fun k hk e => by omega)))
                      clear hx kx
                      go_wp2
                      try simp only [Exit.inBlock, Exit.then]
                      refine bodyPost_ret (v := .tuple #[wd 0 0 0, .bool false]) ?_ rfl ⟨by rw [HPN.out]; rfl, HBX.out⟩
                      rw [res_wordB rfl _ _ w.heap.size 0 0 0 false rfl rfl HX.out]
                    | some pb =>
                      obtain ⟨b, m⟩ := pb
                      have hbm := dgA_le (by omega) hdb
                      rw [hdb] at HR2 HDB
                      dsimp only [dgN, dgI] at HR2 HDB
                      clear hdb
                      have hmn : ¬ (m : Int) < 0 := by omega
                      have ha64 : IntKind.i64.wrap (a : Int) = (a : Int) := by have := HAK.out; simp [IntKind.wrap, IntKind.bits, IntKind.signed]; omega
                      have hb64 : IntKind.i64.wrap (b : Int) = (b : Int) := by simp [IntKind.wrap, IntKind.bits, IntKind.signed]; omega
                      have HRF := Lib.hid fun W => refRef_any (a : Int) (b : Int) W
                      have HBM := Lib.hid hbm
                      clear hbm
                      go_wp2_with fail
                      refine (HDA.out _).mono ?_
                      rintro e wq ⟨rfl, hq⟩
                      subst wq
                      go_wp2_with fail
                      refine (HDB.out _).mono ?_
                      rintro e wq ⟨rfl, hq⟩
                      subst wq
                      go_wp2_with fail
                      refine (HRF.out _).mono ?_
                      rintro e wq ⟨rfl, hq⟩
                      subst wq
                      by_cases hre : rErr (a : Int) (b : Int) = 0
                      · skip
                        rw [hre]
                        have HR3 := Lib.hid (HR2.out.trans (if_pos hre))
                        clear hre
                        have HPS2 := Lib.hid (HPS.out.trans (by rw [HR3.out]))
                        have HRB := Lib.hid (rVal_lt (a : Int) (b : Int))
                        have WS := W2.out.set2 (rVal (a : Int) (b : Int))
                        have WR := Lib.hid WS.1
                        have RR := Lib.hid (R2.out.keep WS.2 (by omega))
                        have BR := Lib.hid (B2.out.trans (WS.2.below B2.out.size (fun k hk e => by omega)))
                        clear WS
                        have wfz := W2.out.fz 2
                        have wc2 := W2.out.c2
                        dsimp only at HPS2
                        have HPS := HPS2
                        clear HPS2
                        by_cases hml : m = l.length
                        · skip
                          have HML := Lib.hid hml
                          have hmi : (m : Int) = (l.length : Int) := by omega
                          have hmb : ((m : Int) == (l.length : Int)) = true := beq_iff_eq.2 hmi
                          have hmc : ((m : Int) != (l.length : Int)) = false := by rw [bne, hmb]; rfl
                          clear hml
                          go_wp2_with (with_reducible refine at_load_ (t := 33) ?_; refine Hid.out ?_)
                          refine Lib.hid ?_
                          refine get_wordG (by kernel_rfl) (.tmp 4) rfl (w.heap.size + 1) rfl WR.out ?_
                          try simp only [Act.put, List.setIfInBounds_toArray, List.set_cons_zero, List.set_cons_succ]
                          go_wp2_with fail
                          refine (rtext_any (x) ((ve : Int)) (rVal (a : Int) (b : Int)) _ HXB.out.1 HXB.out.2 HVB.out.1 HVB.out.2 HRB.out.1 HRB.out.2).mono ?_
                          rintro e wt ⟨rfl, hbt⟩
                          have HBT := Lib.hid (BR.out.trans (hbt.mono BR.out.size))
                          have V0 := Lib.hid (RR.out.below hbt)
                          have V1 := Lib.hid (WR.out.below hbt)
                          clear hbt
                          by_cases hT : txt (x) ((ve : Int)) (rVal (a : Int) (b : Int)) = l
                          · skip
                            rw [hT]
                            have HPN := Lib.hid (show rps l = some (x, (ve : Int), rVal (a : Int) (b : Int)) from HPS.out.trans (if_pos ⟨HML.out, hT⟩))
                            have hTc : ((bs l).toList == (bs l).toList) = true := beq_self_eq_true _
                            clear hT
                            go_wp2_with (with_reducible refine at_load_ (t := 33) ?_; refine Hid.out ?_)
                            refine Lib.hid ?_
                            refine get_word rfl (.tmp 4) rfl (w.heap.size + 1) rfl V1.out ?_
                            try simp only [Act.put, List.setIfInBounds_toArray, List.set_cons_zero, List.set_cons_succ]
                            go_wp2_with (with_reducible refine at_store_ (t := 33) ?_; refine Hid.out ?_)
                            refine Lib.hid ?_
                            refine put_word (v' := x) (n' := (ve : Int)) (r' := rVal (a : Int) (b : Int)) rfl (.tmp 2) (.tmp 136) rfl rfl w.heap.size rfl rfl V0.out ?_
                            intro wx hx kx
                            have HX := Lib.hid hx
                            have HBX := Lib.hid (HBT.out.trans (kx.below HBT.out.size (fun k hk e => by omega)))
                            clear hx kx
                            go_wp2
                            try simp only [Exit.inBlock, Exit.then]
                            refine bodyPost_ret (v := .tuple #[wd (x) ((ve : Int)) (rVal (a : Int) (b : Int)), .bool true]) ?_ rfl ⟨by rw [HPN.out]; rfl, HBX.out⟩
                            rw [res_wordB rfl _ _ w.heap.size (x) ((ve : Int)) (rVal (a : Int) (b : Int)) true rfl rfl HX.out]
                          · skip
                            have hTb : ((bs (txt (x) ((ve : Int)) (rVal (a : Int) (b : Int)))).toList == (bs l).toList) = false := beq_eq_false_iff_ne.2 (fun h => hT (by rwa [bs_toList, bs_toList] at h))
                            have HNT := Lib.hid hT
                            clear hT
                            have HPN := Lib.hid (show rps l = none from HPS.out.trans (if_neg fun h => HNT.out h.2))
                            go_wp2_with (with_reducible refine at_store_ (t := 33) ?_; refine Hid.out ?_)
                            refine Lib.hid ?_
                            refine put_word (v' := 0) (n' := 0) (r' := 0) rfl (.tmp 2) (.tmp 135) rfl rfl w.heap.size rfl rfl V0.out ?_
                            intro wx hx kx
                            have HX := Lib.hid hx
                            have HBX := Lib.hid (HBT.out.trans (kx.below HBT.out.size (fun k hk e => by omega)))
                            clear hx kx
                            go_wp2
                            try simp only [Exit.inBlock, Exit.then]
                            refine bodyPost_ret (v := .tuple #[wd 0 0 0, .bool false]) ?_ rfl ⟨by rw [HPN.out]; rfl, HBX.out⟩
                            rw [res_wordB rfl _ _ w.heap.size 0 0 0 false rfl rfl HX.out]
                        · skip
                          have HML := Lib.hid hml
                          have hmi : ¬ (m : Int) = (l.length : Int) := by omega
                          have hmb : ((m : Int) == (l.length : Int)) = false := beq_eq_false_iff_ne.2 hmi
                          have hmc : ((m : Int) != (l.length : Int)) = true := by rw [bne, hmb]; rfl
                          clear hml
                          have HPN := Lib.hid (show rps l = none from HPS.out.trans (if_neg fun h => HML.out h.1))
                          go_wp2_with (with_reducible refine at_store_ (t := 33) ?_; refine Hid.out ?_)
                          refine Lib.hid ?_
                          refine put_word (v' := 0) (n' := 0) (r' := 0) rfl (.tmp 2) (.tmp 135) rfl rfl w.heap.size rfl rfl RR.out ?_
                          intro wx hx kx
                          have HX := Lib.hid hx
                          have HBX := Lib.hid (BR.out.trans (kx.below BR.out.size (fun k hk e => by omega)))
                          clear hx kx
                          go_wp2
                          try simp only [Exit.inBlock, Exit.then]
                          refine bodyPost_ret (v := .tuple #[wd 0 0 0, .bool false]) ?_ rfl ⟨by rw [HPN.out]; rfl, HBX.out⟩
                          rw [res_wordB rfl _ _ w.heap.size 0 0 0 false rfl rfl HX.out]
                      · skip
                        have hreb : (rErr (a : Int) (b : Int) == 0) = false := beq_eq_false_iff_ne.2 hre
                        have HRE := Lib.hid hre
                        have HPN := Lib.hid (show rps l = none from HPS.out.trans (by rw [HR2.out, if_neg HRE.out]))
                        go_wp2_with (with_reducible refine at_store_ (t := 33) ?_; refine Hid.out ?_)
                        refine Lib.hid ?_
                        refine put_word (v' := 0) (n' := 0) (r' := 0) rfl (.tmp 2) (.tmp 121) rfl rfl w.heap.size rfl rfl R2.out ?_
                        intro wx hx kx
                        have HX := Lib.hid hx
                        have HBX := Lib.hid (B2.out.trans (kx.below B2.out.size (fun k hk e => by omega)))
                        clear hx kx
                        go_wp2
                        try simp only [Exit.inBlock, Exit.then]
                        refine bodyPost_ret (v := .tuple #[wd 0 0 0, .bool false]) ?_ rfl ⟨by rw [HPN.out]; rfl, HBX.out⟩
                        rw [res_wordB rfl _ _ w.heap.size 0 0 0 false rfl rfl HX.out]
                  · skip
                    have hat3 : atC l k 58 = false := by rw [hat2, decide_eq_false h58]
                    have HR2 := Lib.hid (HR.out.trans (if_neg (by rw [hat3]; exact Bool.false_ne_true)))
                    have hck : ¬ (ck : Int) = 58 := by omega
                    have hckb : ((ck : Int) == 58) = false := beq_eq_false_iff_ne.2 hck
                    have hckc : ((ck : Int) != 58) = true := by rw [bne, hckb]; rfl
                    clear hat2 hat3 h58
                    go_wp2_with fail
                    refine (HDA.out _).mono ?_
                    rintro e wq ⟨rfl, hq⟩
                    subst wq
                    have HPN := Lib.hid (show rps l = none from HPS.out.trans (by rw [HR2.out]))
                    go_wp2_with (with_reducible refine at_store_ (t := 33) ?_; refine Hid.out ?_)
                    refine Lib.hid ?_
                    refine put_word (v' := 0) (n' := 0) (r' := 0) rfl (.tmp 2) (.tmp 100) rfl rfl w.heap.size rfl rfl R2.out ?_
                    intro wx hx kx
                    have HX := Lib.hid hx
                    have HBX := Lib.hid (B2.out.trans (kx.below B2.out.size (fun k hk e => by omega)))
                    clear hx kx
                    go_wp2
                    try simp only [Exit.inBlock, Exit.then]
                    refine bodyPost_ret (v := .tuple #[wd 0 0 0, .bool false]) ?_ rfl ⟨by rw [HPN.out]; rfl, HBX.out⟩
                    rw [res_wordB rfl _ _ w.heap.size 0 0 0 false rfl rfl HX.out]
                · skip
                  have hat3 := atC_ge hkl 58
                  have HR2 := Lib.hid (HR.out.trans (if_neg (by rw [hat3]; exact Bool.false_ne_true)))
                  have hki : ¬ (k : Int) < (l.length : Int) := by omega
                  have hkd : decide ((l.length : Int) ≤ (k : Int)) = true := decide_eq_true (by omega)
                  clear hat3 hkl hak
                  go_wp2_with fail
                  refine (HDA.out _).mono ?_
                  rintro e wq ⟨rfl, hq⟩
                  subst wq
                  have HPN := Lib.hid (show rps l = none from HPS.out.trans (by rw [HR2.out]))
                  go_wp2_with (with_reducible refine at_store_ (t := 33) ?_; refine Hid.out ?_)
                  refine Lib.hid ?_
                  refine put_word (v' := 0) (n' := 0) (r' := 0) rfl (.tmp 2) (.tmp 100) rfl rfl w.heap.size rfl rfl R2.out ?_
                  intro wx hx kx
                  have HX := Lib.hid hx
                  have HBX := Lib.hid (B2.out.trans (kx.below B2.out.size (fun k hk e => by omega)))
                  clear hx kx
                  go_wp2
                  try simp only [Exit.inBlock, Exit.then]
                  refine bodyPost_ret (v := .tuple #[wd 0 0 0, .bool false]) ?_ rfl ⟨by rw [HPN.out]; rfl, HBX.out⟩
                  rw [res_wordB rfl _ _ w.heap.size 0 0 0 false rfl rfl HX.out]
            · skip
              have hat3 : atC l j 35 = false := by rw [hat, decide_eq_false h35]
              have hcj : ¬ (cj : Int) = 35 := by omega
              have hcjb : ((cj : Int) == 35) = false := beq_eq_false_iff_ne.2 hcj
              have HR := Lib.hid (show rpR l j = some (0, j) from if_neg (by rw [hat3]; exact Bool.false_ne_true))
              clear hat hat3 h35
              have hmi : ¬ (j : Int) = (l.length : Int) := by omega
              have hmb : ((j : Int) == (l.length : Int)) = false := beq_eq_false_iff_ne.2 hmi
              have hmc : ((j : Int) != (l.length : Int)) = true := by rw [bne, hmb]; rfl
              have HPN := Lib.hid (show rps l = none from HPS.out.trans (by rw [HR.out]; exact if_neg fun h => by have := HJ.out; omega))
              go_wp2_with (with_reducible refine at_store_ (t := 33) ?_; refine Hid.out ?_)
              refine Lib.hid ?_
              refine put_word (v' := 0) (n' := 0) (r' := 0) rfl (.tmp 2) (.tmp 135) rfl rfl w.heap.size rfl rfl R2.out ?_
              intro wx hx kx
              have HX := Lib.hid hx
              have HBX := Lib.hid (B2.out.trans (kx.below B2.out.size (fun k hk e => by omega)))
              clear hx kx
              go_wp2
              try simp only [Exit.inBlock, Exit.then]
              refine bodyPost_ret (v := .tuple #[wd 0 0 0, .bool false]) ?_ rfl ⟨by rw [HPN.out]; rfl, HBX.out⟩
              rw [res_wordB rfl _ _ w.heap.size 0 0 0 false rfl rfl HX.out]
          · skip
            have hat := atC_ge hj 35
            have HR := Lib.hid (show rpR l j = some (0, j) from if_neg (by rw [hat]; exact Bool.false_ne_true))
            have HML := Lib.hid (show j = l.length by omega)
            have hji : ¬ (j : Int) < (l.length : Int) := by omega
            have hjd : decide ((j : Int) < (l.length : Int)) = false := decide_eq_false hji
            have hmi : (j : Int) = (l.length : Int) := by omega
            have hmb : ((j : Int) == (l.length : Int)) = true := beq_iff_eq.2 hmi
            have hmc : ((j : Int) != (l.length : Int)) = false := by rw [bne, hmb]; rfl
            have HRB := Lib.hid (show (0 : Int) ≤ 0 ∧ (0 : Int) < 4294967296 by omega)
            have HPS2 := Lib.hid (HPS.out.trans (by rw [HR.out]))
            dsimp only at HPS2
            have HPS := HPS2
            clear HPS2 hat hj
            go_wp2_with (with_reducible refine at_load_ (t := 33) ?_; refine Hid.out ?_)
            refine Lib.hid ?_
            refine get_wordG (by kernel_rfl) (.tmp 4) rfl (w.heap.size + 1) rfl W2.out ?_
            try simp only [Act.put, List.setIfInBounds_toArray, List.set_cons_zero, List.set_cons_succ]
            go_wp2_with fail
            refine (rtext_any (x) ((ve : Int)) (0) _ HXB.out.1 HXB.out.2 HVB.out.1 HVB.out.2 HRB.out.1 HRB.out.2).mono ?_
            rintro e wt ⟨rfl, hbt⟩
            have HBT := Lib.hid (B2.out.trans (hbt.mono B2.out.size))
            have V0 := Lib.hid (R2.out.below hbt)
            have V1 := Lib.hid (W2.out.below hbt)
            clear hbt
            by_cases hT : txt (x) ((ve : Int)) (0) = l
            · skip
              rw [hT]
              have HPN := Lib.hid (show rps l = some (x, (ve : Int), 0) from HPS.out.trans (if_pos ⟨HML.out, hT⟩))
              have hTc : ((bs l).toList == (bs l).toList) = true := beq_self_eq_true _
              clear hT
              go_wp2_with (with_reducible refine at_load_ (t := 33) ?_; refine Hid.out ?_)
              refine Lib.hid ?_
              refine get_word rfl (.tmp 4) rfl (w.heap.size + 1) rfl V1.out ?_
              try simp only [Act.put, List.setIfInBounds_toArray, List.set_cons_zero, List.set_cons_succ]
              go_wp2_with (with_reducible refine at_store_ (t := 33) ?_; refine Hid.out ?_)
              refine Lib.hid ?_
              refine put_word (v' := x) (n' := (ve : Int)) (r' := 0) rfl (.tmp 2) (.tmp 136) rfl rfl w.heap.size rfl rfl V0.out ?_
              intro wx hx kx
              have HX := Lib.hid hx
              have HBX := Lib.hid (HBT.out.trans (kx.below HBT.out.size (fun k hk e => by omega)))
              clear hx kx
              go_wp2
              try simp only [Exit.inBlock, Exit.then]
              refine bodyPost_ret (v := .tuple #[wd (x) ((ve : Int)) (0), .bool true]) ?_ rfl ⟨by rw [HPN.out]; rfl, HBX.out⟩
              rw [res_wordB rfl _ _ w.heap.size (x) ((ve : Int)) (0) true rfl rfl HX.out]
            · skip
              have hTb : ((bs (txt (x) ((ve : Int)) (0))).toList == (bs l).toList) = false := beq_eq_false_iff_ne.2 (fun h => hT (by rwa [bs_toList, bs_toList] at h))
              have HNT := Lib.hid hT
              clear hT
              have HPN := Lib.hid (show rps l = none from HPS.out.trans (if_neg fun h => HNT.out h.2))
              go_wp2_with (with_reducible refine at_store_ (t := 33) ?_; refine Hid.out ?_)
              refine Lib.hid ?_
              refine put_word (v' := 0) (n' := 0) (r' := 0) rfl (.tmp 2) (.tmp 135) rfl rfl w.heap.size rfl rfl V0.out ?_
              intro wx hx kx
              have HX := Lib.hid hx
              have HBX := Lib.hid (HBT.out.trans (kx.below HBT.out.size (fun k hk e => by omega)))
              clear hx kx
              go_wp2
              try simp only [Exit.inBlock, Exit.then]
              refine bodyPost_ret (v := .tuple #[wd 0 0 0, .bool false]) ?_ rfl ⟨by rw [HPN.out]; rfl, HBX.out⟩
              rw [res_wordB rfl _ _ w.heap.size 0 0 0 false rfl rfl HX.out]
      · skip
        have hat3 : atC l i 46 = false := by rw [hatv, decide_eq_false h46]
        have hcii : ¬ (ci : Int) = 46 := by omega
        have hcib : ((ci : Int) == 46) = false := beq_eq_false_iff_ne.2 hcii
        have HV := Lib.hid (show rpV l i = some (0, i) from if_neg (by rw [hat3]; exact Bool.false_ne_true))
        clear hatv hat3 h46
        have HPS2 := Lib.hid (HPS.out.trans (by rw [HV.out]))
        dsimp only at HPS2
        have HPS := HPS2
        clear HPS2
        rw [show ((0 : Nat) : Int) = 0 from rfl] at HPS
        have HVB := Lib.hid (show (0 : Int) ≤ 0 ∧ (0 : Int) < 4294967296 by omega)
        have hj := hi
        clear hi
        have hat : atC l i 35 = decide (ci = 35) := (atC_nat hj 35).trans (congrArg (fun c => decide (c = 35)) hci2)
        clear hci2
        have hji : (i : Int) < (l.length : Int) := hii
        have hjd := hid
        have HJ := Lib.hid hj
        clear hj
        have hcje := hcii
        by_cases h35 : ci = 35
        · skip
          subst h35
          rw [decide_eq_true rfl] at hat
          have HR := Lib.hid (show rpR l i = _ from (if_pos hat : rpR l i = _))
          have HDA := Lib.hid fun W => dig_any 100 (by omega) (by omega) l (i + 1) HJ.out HL.out W
          clear hat
          cases hda : dgA 100 l (i + 1) with
          | none =>
            rw [hda] at HR HDA
            dsimp only [dgN, dgI] at HR HDA
            clear hda
            rw [show (((i + 1 : Nat)) : Int) = (i : Int) + 1 by omega] at HDA
            go_wp2_with fail
            refine (HDA.out _).mono ?_
            rintro e wq ⟨rfl, hq⟩
            subst wq
            have HPN := Lib.hid (show rps l = none from HPS.out.trans (by rw [HR.out]))
            go_wp2_with (with_reducible refine at_store_ (t := 33) ?_; refine Hid.out ?_)
            refine Lib.hid ?_
            refine put_word (v' := 0) (n' := 0) (r' := 0) rfl (.tmp 2) (.tmp 100) rfl rfl w.heap.size rfl rfl R1.out ?_
            intro wx hx kx
            have HX := Lib.hid hx
            have HBX := Lib.hid (B1.out.trans (kx.below B1.out.size (fun k hk e => by omega)))
            clear hx kx
            go_wp2
            try simp only [Exit.inBlock, Exit.then]
            refine bodyPost_ret (v := .tuple #[wd 0 0 0, .bool false]) ?_ rfl ⟨by rw [HPN.out]; rfl, HBX.out⟩
            rw [res_wordB rfl _ _ w.heap.size 0 0 0 false rfl rfl HX.out]
          | some pa =>
            obtain ⟨a, k⟩ := pa
            have hak := dgA_le (by omega) hda
            rw [hda] at HR HDA
            dsimp only [dgN, dgI] at HR HDA
            clear hda
            rw [show (((i + 1 : Nat)) : Int) = (i : Int) + 1 by omega] at HDA
            have HAK := Lib.hid hak
            have hkn : ¬ (k : Int) < 0 := by omega
            have hknd : decide ((k : Int) < 0) = false := decide_eq_false hkn
            by_cases hkl : k < l.length
            · skip
              have hkp : k < (bs l).size := hkl
              have hke : ((bs l)[k]'hkp).toNat = (l[k]).toNat := rfl
              have hat2 := atC_nat hkl 58
              have hki : (k : Int) < (l.length : Int) := by omega
              have hkd : decide ((l.length : Int) ≤ (k : Int)) = false := decide_eq_false (by omega)
              have HKL := Lib.hid hkl
              generalize (l[k]).toNat = ck at *
              clear hkl hak
              rw [show (58 : UInt8).toNat = 58 from rfl] at hat2
              by_cases h58 : ck = 58
              · skip
                subst h58
                rw [decide_eq_true rfl] at hat2
                have HR2 := Lib.hid (HR.out.trans (if_pos hat2))
                have HDB := Lib.hid fun W => dig_any 16777215 (by omega) (by omega) l (k + 1) HKL.out HL.out W
                clear hat2 HR
                rw [show (((k + 1 : Nat)) : Int) = (k : Int) + 1 by omega] at HDB
                cases hdb : dgA 16777215 l (k + 1) with
                | none =>
                  rw [hdb] at HR2 HDB
                  dsimp only [dgN, dgI] at HR2 HDB
                  clear hdb
                  go_wp2_with fail
                  refine (HDA.out _).mono ?_
                  rintro e wq ⟨rfl, hq⟩
                  subst wq
                  go_wp2_with fail
                  refine (HDB.out _).mono ?_
                  rintro e wq ⟨rfl, hq⟩
                  subst wq
                  have HPN := Lib.hid (show rps l = none from HPS.out.trans (by rw [HR2.out]))
                  go_wp2_with (with_reducible refine at_store_ (t := 33) ?_; refine Hid.out ?_)
                  refine Lib.hid ?_
                  refine put_word (v' := 0) (n' := 0) (r' := 0) rfl (.tmp 2) (.tmp 110) rfl rfl w.heap.size rfl rfl R1.out ?_
                  intro wx hx kx
                  have HX := Lib.hid hx
                  have HBX := Lib.hid (B1.out.trans (kx.below B1.out.size (fun k hk e => by omega)))
                  clear hx kx
                  go_wp2
                  try simp only [Exit.inBlock, Exit.then]
                  refine bodyPost_ret (v := .tuple #[wd 0 0 0, .bool false]) ?_ rfl ⟨by rw [HPN.out]; rfl, HBX.out⟩
                  rw [res_wordB rfl _ _ w.heap.size 0 0 0 false rfl rfl HX.out]
                | some pb =>
                  obtain ⟨b, m⟩ := pb
                  have hbm := dgA_le (by omega) hdb
                  rw [hdb] at HR2 HDB
                  dsimp only [dgN, dgI] at HR2 HDB
                  clear hdb
                  have hmn : ¬ (m : Int) < 0 := by omega
                  have ha64 : IntKind.i64.wrap (a : Int) = (a : Int) := by have := HAK.out; simp [IntKind.wrap, IntKind.bits, IntKind.signed]; omega
                  have hb64 : IntKind.i64.wrap (b : Int) = (b : Int) := by simp [IntKind.wrap, IntKind.bits, IntKind.signed]; omega
                  have HRF := Lib.hid fun W => refRef_any (a : Int) (b : Int) W
                  have HBM := Lib.hid hbm
                  clear hbm
                  go_wp2_with fail
                  refine (HDA.out _).mono ?_
                  rintro e wq ⟨rfl, hq⟩
                  subst wq
                  go_wp2_with fail
                  refine (HDB.out _).mono ?_
                  rintro e wq ⟨rfl, hq⟩
                  subst wq
                  go_wp2_with fail
                  refine (HRF.out _).mono ?_
                  rintro e wq ⟨rfl, hq⟩
                  subst wq
                  by_cases hre : rErr (a : Int) (b : Int) = 0
                  · skip
                    rw [hre]
                    have HR3 := Lib.hid (HR2.out.trans (if_pos hre))
                    clear hre
                    have HPS2 := Lib.hid (HPS.out.trans (by rw [HR3.out]))
                    have HRB := Lib.hid (rVal_lt (a : Int) (b : Int))
                    have WS := W1.out.set2 (rVal (a : Int) (b : Int))
                    have WR := Lib.hid WS.1
                    have RR := Lib.hid (R1.out.keep WS.2 (by omega))
                    have BR := Lib.hid (B1.out.trans (WS.2.below B1.out.size (fun k hk e => by omega)))
                    clear WS
                    have wfz := W1.out.fz 2
                    have wc2 := W1.out.c2
                    dsimp only at HPS2
                    have HPS := HPS2
                    clear HPS2
                    by_cases hml : m = l.length
                    · skip
                      have HML := Lib.hid hml
                      have hmi : (m : Int) = (l.length : Int) := by omega
                      have hmb : ((m : Int) == (l.length : Int)) = true := beq_iff_eq.2 hmi
                      have hmc : ((m : Int) != (l.length : Int)) = false := by rw [bne, hmb]; rfl
                      clear hml
                      go_wp2_with (with_reducible refine at_load_ (t := 33) ?_; refine Hid.out ?_)
                      refine Lib.hid ?_
                      refine get_wordG (by kernel_rfl) (.tmp 4) rfl (w.heap.size + 1) rfl WR.out ?_
                      try simp only [Act.put, List.setIfInBounds_toArray, List.set_cons_zero, List.set_cons_succ]
                      go_wp2_with fail
                      refine (rtext_any (x) (0) (rVal (a : Int) (b : Int)) _ HXB.out.1 HXB.out.2 HVB.out.1 HVB.out.2 HRB.out.1 HRB.out.2).mono ?_
                      rintro e wt ⟨rfl, hbt⟩
                      have HBT := Lib.hid (BR.out.trans (hbt.mono BR.out.size))
                      have V0 := Lib.hid (RR.out.below hbt)
                      have V1 := Lib.hid (WR.out.below hbt)
                      clear hbt
                      by_cases hT : txt (x) (0) (rVal (a : Int) (b : Int)) = l
                      · skip
                        rw [hT]
                        have HPN := Lib.hid (show rps l = some (x, 0, rVal (a : Int) (b : Int)) from HPS.out.trans (if_pos ⟨HML.out, hT⟩))
                        have hTc : ((bs l).toList == (bs l).toList) = true := beq_self_eq_true _
                        clear hT
                        go_wp2_with (with_reducible refine at_load_ (t := 33) ?_; refine Hid.out ?_)
                        refine Lib.hid ?_
                        refine get_word rfl (.tmp 4) rfl (w.heap.size + 1) rfl V1.out ?_
                        try simp only [Act.put, List.setIfInBounds_toArray, List.set_cons_zero, List.set_cons_succ]
                        go_wp2_with (with_reducible refine at_store_ (t := 33) ?_; refine Hid.out ?_)
                        refine Lib.hid ?_
                        refine put_word (v' := x) (n' := 0) (r' := rVal (a : Int) (b : Int)) rfl (.tmp 2) (.tmp 136) rfl rfl w.heap.size rfl rfl V0.out ?_
                        intro wx hx kx
                        have HX := Lib.hid hx
                        have HBX := Lib.hid (HBT.out.trans (kx.below HBT.out.size (fun k hk e => by omega)))
                        clear hx kx
                        go_wp2
                        try simp only [Exit.inBlock, Exit.then]
                        refine bodyPost_ret (v := .tuple #[wd (x) (0) (rVal (a : Int) (b : Int)), .bool true]) ?_ rfl ⟨by rw [HPN.out]; rfl, HBX.out⟩
                        rw [res_wordB rfl _ _ w.heap.size (x) (0) (rVal (a : Int) (b : Int)) true rfl rfl HX.out]
                      · skip
                        have hTb : ((bs (txt (x) (0) (rVal (a : Int) (b : Int)))).toList == (bs l).toList) = false := beq_eq_false_iff_ne.2 (fun h => hT (by rwa [bs_toList, bs_toList] at h))
                        have HNT := Lib.hid hT
                        clear hT
                        have HPN := Lib.hid (show rps l = none from HPS.out.trans (if_neg fun h => HNT.out h.2))
                        go_wp2_with (with_reducible refine at_store_ (t := 33) ?_; refine Hid.out ?_)
                        refine Lib.hid ?_
                        refine put_word (v' := 0) (n' := 0) (r' := 0) rfl (.tmp 2) (.tmp 135) rfl rfl w.heap.size rfl rfl V0.out ?_
                        intro wx hx kx
                        have HX := Lib.hid hx
                        have HBX := Lib.hid (HBT.out.trans (kx.below HBT.out.size (fun k hk e => by omega)))
                        clear hx kx
                        go_wp2
                        try simp only [Exit.inBlock, Exit.then]
                        refine bodyPost_ret (v := .tuple #[wd 0 0 0, .bool false]) ?_ rfl ⟨by rw [HPN.out]; rfl, HBX.out⟩
                        rw [res_wordB rfl _ _ w.heap.size 0 0 0 false rfl rfl HX.out]
                    · skip
                      have HML := Lib.hid hml
                      have hmi : ¬ (m : Int) = (l.length : Int) := by omega
                      have hmb : ((m : Int) == (l.length : Int)) = false := beq_eq_false_iff_ne.2 hmi
                      have hmc : ((m : Int) != (l.length : Int)) = true := by rw [bne, hmb]; rfl
                      clear hml
                      have HPN := Lib.hid (show rps l = none from HPS.out.trans (if_neg fun h => HML.out h.1))
                      go_wp2_with (with_reducible refine at_store_ (t := 33) ?_; refine Hid.out ?_)
                      refine Lib.hid ?_
                      refine put_word (v' := 0) (n' := 0) (r' := 0) rfl (.tmp 2) (.tmp 135) rfl rfl w.heap.size rfl rfl RR.out ?_
                      intro wx hx kx
                      have HX := Lib.hid hx
                      have HBX := Lib.hid (BR.out.trans (kx.below BR.out.size (fun k hk e => by omega)))
                      clear hx kx
                      go_wp2
                      try simp only [Exit.inBlock, Exit.then]
                      refine bodyPost_ret (v := .tuple #[wd 0 0 0, .bool false]) ?_ rfl ⟨by rw [HPN.out]; rfl, HBX.out⟩
                      rw [res_wordB rfl _ _ w.heap.size 0 0 0 false rfl rfl HX.out]
                  · skip
                    have hreb : (rErr (a : Int) (b : Int) == 0) = false := beq_eq_false_iff_ne.2 hre
                    have HRE := Lib.hid hre
                    have HPN := Lib.hid (show rps l = none from HPS.out.trans (by rw [HR2.out, if_neg HRE.out]))
                    go_wp2_with (with_reducible refine at_store_ (t := 33) ?_; refine Hid.out ?_)
                    refine Lib.hid ?_
                    refine put_word (v' := 0) (n' := 0) (r' := 0) rfl (.tmp 2) (.tmp 121) rfl rfl w.heap.size rfl rfl R1.out ?_
                    intro wx hx kx
                    have HX := Lib.hid hx
                    have HBX := Lib.hid (B1.out.trans (kx.below B1.out.size (fun k hk e => by omega)))
                    clear hx kx
                    go_wp2
                    try simp only [Exit.inBlock, Exit.then]
                    refine bodyPost_ret (v := .tuple #[wd 0 0 0, .bool false]) ?_ rfl ⟨by rw [HPN.out]; rfl, HBX.out⟩
                    rw [res_wordB rfl _ _ w.heap.size 0 0 0 false rfl rfl HX.out]
              · skip
                have hat3 : atC l k 58 = false := by rw [hat2, decide_eq_false h58]
                have HR2 := Lib.hid (HR.out.trans (if_neg (by rw [hat3]; exact Bool.false_ne_true)))
                have hck : ¬ (ck : Int) = 58 := by omega
                have hckb : ((ck : Int) == 58) = false := beq_eq_false_iff_ne.2 hck
                have hckc : ((ck : Int) != 58) = true := by rw [bne, hckb]; rfl
                clear hat2 hat3 h58
                go_wp2_with fail
                refine (HDA.out _).mono ?_
                rintro e wq ⟨rfl, hq⟩
                subst wq
                have HPN := Lib.hid (show rps l = none from HPS.out.trans (by rw [HR2.out]))
                go_wp2_with (with_reducible refine at_store_ (t := 33) ?_; refine Hid.out ?_)
                refine Lib.hid ?_
                refine put_word (v' := 0) (n' := 0) (r' := 0) rfl (.tmp 2) (.tmp 100) rfl rfl w.heap.size rfl rfl R1.out ?_
                intro wx hx kx
                have HX := Lib.hid hx
                have HBX := Lib.hid (B1.out.trans (kx.below B1.out.size (fun k hk e => by omega)))
                clear hx kx
                go_wp2
                try simp only [Exit.inBlock, Exit.then]
                refine bodyPost_ret (v := .tuple #[wd 0 0 0, .bool false]) ?_ rfl ⟨by rw [HPN.out]; rfl, HBX.out⟩
                rw [res_wordB rfl _ _ w.heap.size 0 0 0 false rfl rfl HX.out]
            · skip
              have hat3 := atC_ge hkl 58
              have HR2 := Lib.hid (HR.out.trans (if_neg (by rw [hat3]; exact Bool.false_ne_true)))
              have hki : ¬ (k : Int) < (l.length : Int) := by omega
              have hkd : decide ((l.length : Int) ≤ (k : Int)) = true := decide_eq_true (by omega)
              clear hat3 hkl hak
              go_wp2_with fail
              refine (HDA.out _).mono ?_
              rintro e wq ⟨rfl, hq⟩
              subst wq
              have HPN := Lib.hid (show rps l = none from HPS.out.trans (by rw [HR2.out]))
              go_wp2_with (with_reducible refine at_store_ (t := 33) ?_; refine Hid.out ?_)
              refine Lib.hid ?_
              refine put_word (v' := 0) (n' := 0) (r' := 0) rfl (.tmp 2) (.tmp 100) rfl rfl w.heap.size rfl rfl R1.out ?_
              intro wx hx kx
              have HX := Lib.hid hx
              have HBX := Lib.hid (B1.out.trans (kx.below B1.out.size (fun k hk e => by omega)))
              clear hx kx
              go_wp2
              try simp only [Exit.inBlock, Exit.then]
              refine bodyPost_ret (v := .tuple #[wd 0 0 0, .bool false]) ?_ rfl ⟨by rw [HPN.out]; rfl, HBX.out⟩
              rw [res_wordB rfl _ _ w.heap.size 0 0 0 false rfl rfl HX.out]
        · skip
          have hat3 : atC l i 35 = false := by rw [hat, decide_eq_false h35]
          have hci : ¬ (ci : Int) = 35 := by omega
          have hcib : ((ci : Int) == 35) = false := beq_eq_false_iff_ne.2 hci
          have HR := Lib.hid (show rpR l i = some (0, i) from if_neg (by rw [hat3]; exact Bool.false_ne_true))
          clear hat hat3 h35
          have hmi : ¬ (i : Int) = (l.length : Int) := by omega
          have hmb : ((i : Int) == (l.length : Int)) = false := beq_eq_false_iff_ne.2 hmi
          have hmc : ((i : Int) != (l.length : Int)) = true := by rw [bne, hmb]; rfl
          have HPN := Lib.hid (show rps l = none from HPS.out.trans (by rw [HR.out]; exact if_neg fun h => by have := HJ.out; omega))
          go_wp2_with (with_reducible refine at_store_ (t := 33) ?_; refine Hid.out ?_)
          refine Lib.hid ?_
          refine put_word (v' := 0) (n' := 0) (r' := 0) rfl (.tmp 2) (.tmp 135) rfl rfl w.heap.size rfl rfl R1.out ?_
          intro wx hx kx
          have HX := Lib.hid hx
          have HBX := Lib.hid (B1.out.trans (kx.below B1.out.size (fun k hk e => by omega)))
          clear hx kx
          go_wp2
          try simp only [Exit.inBlock, Exit.then]
          refine bodyPost_ret (v := .tuple #[wd 0 0 0, .bool false]) ?_ rfl ⟨by rw [HPN.out]; rfl, HBX.out⟩
          rw [res_wordB rfl _ _ w.heap.size 0 0 0 false rfl rfl HX.out]
    · skip
      have hat3 := atC_ge hi 46
      have HV := Lib.hid (show rpV l i = some (0, i) from if_neg (by rw [hat3]; exact Bool.false_ne_true))
      have HPS2 := Lib.hid (HPS.out.trans (by rw [HV.out]))
      dsimp only at HPS2
      have HPS := HPS2
      clear HPS2 hat3
      rw [show ((0 : Nat) : Int) = 0 from rfl] at HPS
      have HVB := Lib.hid (show (0 : Int) ≤ 0 ∧ (0 : Int) < 4294967296 by omega)
      have hj := hi
      have hile : i ≤ l.length := HNI.out.2.2
      clear hi
      have hat := atC_ge hj 35
      have HR := Lib.hid (show rpR l i = some (0, i) from if_neg (by rw [hat]; exact Bool.false_ne_true))
      have HML := Lib.hid (show i = l.length by omega)
      have hji : ¬ (i : Int) < (l.length : Int) := by omega
      have hjd : decide ((i : Int) < (l.length : Int)) = false := decide_eq_false hji
      have hmi : (i : Int) = (l.length : Int) := by omega
      have hmb : ((i : Int) == (l.length : Int)) = true := beq_iff_eq.2 hmi
      have hmc : ((i : Int) != (l.length : Int)) = false := by rw [bne, hmb]; rfl
      have HRB := Lib.hid (show (0 : Int) ≤ 0 ∧ (0 : Int) < 4294967296 by omega)
      have HPS2 := Lib.hid (HPS.out.trans (by rw [HR.out]))
      dsimp only at HPS2
      have HPS := HPS2
      clear HPS2 hat hj
      go_wp2_with (with_reducible refine at_load_ (t := 33) ?_; refine Hid.out ?_)
      refine Lib.hid ?_
      refine get_wordG (by kernel_rfl) (.tmp 4) rfl (w.heap.size + 1) rfl W1.out ?_
      try simp only [Act.put, List.setIfInBounds_toArray, List.set_cons_zero, List.set_cons_succ]
      go_wp2_with fail
      refine (rtext_any (x) (0) (0) _ HXB.out.1 HXB.out.2 HVB.out.1 HVB.out.2 HRB.out.1 HRB.out.2).mono ?_
      rintro e wt ⟨rfl, hbt⟩
      have HBT := Lib.hid (B1.out.trans (hbt.mono B1.out.size))
      have V0 := Lib.hid (R1.out.below hbt)
      have V1 := Lib.hid (W1.out.below hbt)
      clear hbt
      by_cases hT : txt (x) (0) (0) = l
      · skip
        rw [hT]
        have HPN := Lib.hid (show rps l = some (x, 0, 0) from HPS.out.trans (if_pos ⟨HML.out, hT⟩))
        have hTc : ((bs l).toList == (bs l).toList) = true := beq_self_eq_true _
        clear hT
        go_wp2_with (with_reducible refine at_load_ (t := 33) ?_; refine Hid.out ?_)
        refine Lib.hid ?_
        refine get_word rfl (.tmp 4) rfl (w.heap.size + 1) rfl V1.out ?_
        try simp only [Act.put, List.setIfInBounds_toArray, List.set_cons_zero, List.set_cons_succ]
        go_wp2_with (with_reducible refine at_store_ (t := 33) ?_; refine Hid.out ?_)
        refine Lib.hid ?_
        refine put_word (v' := x) (n' := 0) (r' := 0) rfl (.tmp 2) (.tmp 136) rfl rfl w.heap.size rfl rfl V0.out ?_
        intro wx hx kx
        have HX := Lib.hid hx
        have HBX := Lib.hid (HBT.out.trans (kx.below HBT.out.size (fun k hk e => by omega)))
        clear hx kx
        go_wp2
        try simp only [Exit.inBlock, Exit.then]
        refine bodyPost_ret (v := .tuple #[wd (x) (0) (0), .bool true]) ?_ rfl ⟨by rw [HPN.out]; rfl, HBX.out⟩
        rw [res_wordB rfl _ _ w.heap.size (x) (0) (0) true rfl rfl HX.out]
      · skip
        have hTb : ((bs (txt (x) (0) (0))).toList == (bs l).toList) = false := beq_eq_false_iff_ne.2 (fun h => hT (by rwa [bs_toList, bs_toList] at h))
        have HNT := Lib.hid hT
        clear hT
        have HPN := Lib.hid (show rps l = none from HPS.out.trans (if_neg fun h => HNT.out h.2))
        go_wp2_with (with_reducible refine at_store_ (t := 33) ?_; refine Hid.out ?_)
        refine Lib.hid ?_
        refine put_word (v' := 0) (n' := 0) (r' := 0) rfl (.tmp 2) (.tmp 135) rfl rfl w.heap.size rfl rfl V0.out ?_
        intro wx hx kx
        have HX := Lib.hid hx
        have HBX := Lib.hid (HBT.out.trans (kx.below HBT.out.size (fun k hk e => by omega)))
        clear hx kx
        go_wp2
        try simp only [Exit.inBlock, Exit.then]
        refine bodyPost_ret (v := .tuple #[wd 0 0 0, .bool false]) ?_ rfl ⟨by rw [HPN.out]; rfl, HBX.out⟩
        rw [res_wordB rfl _ _ w.heap.size 0 0 0 false rfl rfl HX.out]
set_option maxRecDepth 100000 in
set_option maxHeartbeats 25600000 in
theorem rparse_pos (l : List UInt8) (w : World) (hl : l.length ≤ 1000) (h0 : 0 < l.length) (hc : (l[0]).toNat ≠ 45) :
    Calls Tryd.prog 19 #[.string (bs l)] w fun e w' => e = .returned (.tuple #[prV1 (rps l), .bool (rps l).isSome]) ∧ Below w.heap.size w w' := by
  have HL := Lib.hid hl
  have hsz := bs_size l
  have hli : (l.length : Int) ≤ 1000 := by omega
  have hnt := atC_nat h0 45
  have h0s : 0 < (bs l).size := h0
  have hge : ((bs l)[0]'h0s).toNat = (l[0]).toNat := rfl
  have h0i : (0 : Int) < (l.length : Int) := by omega
  have h0d : decide ((0 : Int) < (l.length : Int)) = true := decide_eq_true h0i
  rw [show (45 : UInt8).toNat = 45 from rfl] at hnt
  have hng : rpNeg l = false := hnt.trans (decide_eq_false hc)
  clear hnt
  generalize (l[0]).toNat = c0 at *
  have hci : ¬ (c0 : Int) = 45 := by omega
  have hcb : ((c0 : Int) == 45) = false := beq_eq_false_iff_ne.2 hci
  clear hc
  have HPS := Lib.hid (rps_pos hng)
  have HD := Lib.hid fun W => dig_any 9223372036854775807 (by omega) (by omega) l 0 (by omega) HL.out W
  clear hng hl
  go_enter Tryd.func19, Tryd.ntmps19
  go_wp2_with fail
  have h0' : Below w.heap.size w (w.alloc (wdO 0 0 0)) := (Below.refl _ _).alloc (Nat.le_refl _) _
  have h1' : Below w.heap.size w ((w.alloc (wdO 0 0 0)).alloc (wdO 0 0 0)) := h0'.alloc (by simp) _
  have n1 : (w.alloc (wdO 0 0 0)).heap.size = w.heap.size + 1 := by simp
  have r0 : WBox ((w.alloc (wdO 0 0 0)).alloc (wdO 0 0 0)) w.heap.size 0 0 0 := WBox.new.alloc _
  have r1 : WBox ((w.alloc (wdO 0 0 0)).alloc (wdO 0 0 0)) (w.heap.size + 1) 0 0 0 := by have := WBox.new (w := w.alloc (wdO 0 0 0)) (v := 0) (n := 0) (r := 0); rwa [n1] at this
  have B0 := Lib.hid h1'
  have R0 := Lib.hid r0
  have W0 := Lib.hid r1
  clear h0' h1' n1 r0 r1
  unfold wdO at B0 R0 W0
  generalize (w.alloc (.cells #[.int .i64 0, .int .u32 0, .int .u32 0] 33)).alloc (.cells #[.int .i64 0, .int .u32 0, .int .u32 0] 33) = w0 at *
  cases hd : dgA 9223372036854775807 l 0 with
  | none =>
    rw [hd] at HPS HD
    dsimp only [dgN, dgI] at HPS HD
    clear hd
    refine (HD.out _).mono ?_
    rintro e wq ⟨rfl, hq⟩
    subst wq
    have HPN := Lib.hid (show rps l = none from HPS.out)
    go_wp2_with (with_reducible refine at_store_ (t := 33) ?_; refine Hid.out ?_)
    refine Lib.hid ?_
    refine put_word (v' := 0) (n' := 0) (r' := 0) rfl (.tmp 2) (.tmp 36) rfl rfl w.heap.size rfl rfl R0.out ?_
    intro wx hx kx
    have HX := Lib.hid hx
    have HBX := Lib.hid (B0.out.trans (kx.below B0.out.size (fun k hk e => by omega)))
    clear hx kx
    go_wp2
    try simp only [Exit.inBlock, Exit.then]
    refine bodyPost_ret (v := .tuple #[wd 0 0 0, .bool false]) ?_ rfl ⟨by rw [HPN.out]; rfl, HBX.out⟩
    rw [res_wordB rfl _ _ w.heap.size 0 0 0 false rfl rfl HX.out]
  | some pn =>
    obtain ⟨n, i⟩ := pn
    have hni := dgA_le (by omega) hd
    rw [hd] at HPS HD
    dsimp only [dgN, dgI] at HPS HD
    clear hd
    have HNI := Lib.hid hni
    have hin : ¬ (i : Int) < 0 := by omega
    have hx1 : IntKind.i64.wrap (n : Int) = (n : Int) := by simp [IntKind.wrap, IntKind.bits, IntKind.signed]; omega
    have HXB := Lib.hid (show -9223372036854775808 ≤ (n : Int) ∧ (n : Int) ≤ 9223372036854775807 by omega)
    have wz := W0.out.fz 0
    have wc := W0.out.c0
    have WS := W0.out.set0 (n : Int)
    have W1 := Lib.hid WS.1
    have R1 := Lib.hid (R0.out.keep WS.2 (by omega))
    have B1 := Lib.hid (B0.out.trans (WS.2.below B0.out.size (fun k hk e => by omega)))
    clear WS hni
    refine (HD.out _).mono ?_
    rintro e wq ⟨rfl, hq⟩
    subst wq
    clear HD
    by_cases hi : i < l.length
    · skip
      have hip : i < (bs l).size := hi
      have hie : ((bs l)[i]'hip).toNat = (l[i]).toNat := rfl
      have hatv := atC_nat hi 46
      have hii : (i : Int) < (l.length : Int) := by omega
      have hid : decide ((i : Int) < (l.length : Int)) = true := decide_eq_true hii
      have HI := Lib.hid hi
      generalize hci2 : (l[i]).toNat = ci at *
      rw [show (46 : UInt8).toNat = 46 from rfl] at hatv
      by_cases h46 : ci = 46
      · skip
        clear hci2
        subst h46
        rw [decide_eq_true rfl] at hatv
        have HV := Lib.hid (show rpV l i = _ from (if_pos hatv : rpV l i = _))
        have HDV := Lib.hid fun W => dig_any 4294967295 (by omega) (by omega) l (i + 1) HI.out HL.out W
        clear hatv hi
        rw [show (((i + 1 : Nat)) : Int) = (i : Int) + 1 by omega] at HDV
        cases hdv : dgA 4294967295 l (i + 1) with
        | none =>
          rw [hdv] at HV HDV
          dsimp only [dgN, dgI] at HV HDV
          clear hdv
          go_wp2_with fail
          refine (HDV.out _).mono ?_
          rintro e wq ⟨rfl, hq⟩
          subst wq
          have HPN := Lib.hid (show rps l = none from HPS.out.trans (by rw [HV.out]))
          go_wp2_with (with_reducible refine at_store_ (t := 33) ?_; refine Hid.out ?_)
          refine Lib.hid ?_
          refine put_word (v' := 0) (n' := 0) (r' := 0) rfl (.tmp 2) (.tmp 64) rfl rfl w.heap.size rfl rfl R1.out ?_
          intro wx hx kx
          have HX := Lib.hid hx
          have HBX := Lib.hid (B1.out.trans (kx.below B1.out.size (fun k hk e => by omega)))
          clear hx kx
          go_wp2
          try simp only [Exit.inBlock, Exit.then]
          refine bodyPost_ret (v := .tuple #[wd 0 0 0, .bool false]) ?_ rfl ⟨by rw [HPN.out]; rfl, HBX.out⟩
          rw [res_wordB rfl _ _ w.heap.size 0 0 0 false rfl rfl HX.out]
        | some pv =>
          obtain ⟨ve, j⟩ := pv
          have hvj := dgA_le (by omega) hdv
          rw [hdv] at HV HDV
          dsimp only [dgN, dgI] at HV HDV
          clear hdv
          have HVJ := Lib.hid hvj
          have hv32 : IntKind.u32.wrap (ve : Int) = (ve : Int) := by simp [IntKind.wrap, IntKind.bits, IntKind.signed]; omega
          have hjn : ¬ (j : Int) < 0 := by omega
          have HVB := Lib.hid (show 0 ≤ (ve : Int) ∧ (ve : Int) < 4294967296 by omega)
          have HPS2 := Lib.hid (HPS.out.trans (by rw [HV.out]))
          dsimp only at HPS2
          have HPS := HPS2
          clear HPS2
          have wz5 := W1.out.fz 1
          have wc5 := W1.out.c1
          have WV := W1.out.set1 (ve : Int)
          have W2 := Lib.hid WV.1
          have R2 := Lib.hid (R1.out.keep WV.2 (by omega))
          have B2 := Lib.hid (B1.out.trans (WV.2.below B1.out.size (fun k hk e => by omega)))
          clear WV hvj
          have hjle : j ≤ l.length := HVJ.out.2.2
          go_wp2_with fail
          refine (HDV.out _).mono ?_
          rintro e wq ⟨rfl, hq⟩
          subst wq
          by_cases hj : j < l.length
          · skip
            have hjp : j < (bs l).size := hj
            have hje : ((bs l)[j]'hjp).toNat = (l[j]).toNat := rfl
            have hat := atC_nat hj 35
            have hji : (j : Int) < (l.length : Int) := by omega
            have hjd : decide ((j : Int) < (l.length : Int)) = true := decide_eq_true hji
            have HJ := Lib.hid hj
            generalize (l[j]).toNat = cj at *
            clear hj
            rw [show (35 : UInt8).toNat = 35 from rfl] at hat
            by_cases h35 : cj = 35
            · skip
              subst h35
              rw [decide_eq_true rfl] at hat
              have HR := Lib.hid (show rpR l j = _ from (if_pos hat : rpR l j = _))
              have HDA := Lib.hid fun W => dig_any 100 (by omega) (by omega) l (j + 1) HJ.out HL.out W
              clear hat
              cases hda : dgA 100 l (j + 1) with
              | none =>
                rw [hda] at HR HDA
                dsimp only [dgN, dgI] at HR HDA
                clear hda
                rw [show (((j + 1 : Nat)) : Int) = (j : Int) + 1 by omega] at HDA
                go_wp2_with fail
                refine (HDA.out _).mono ?_
                rintro e wq ⟨rfl, hq⟩
                subst wq
                have HPN := Lib.hid (show rps l = none from HPS.out.trans (by rw [HR.out]))
                go_wp2_with (with_reducible refine at_store_ (t := 33) ?_; refine Hid.out ?_)
                refine Lib.hid ?_
                refine put_word (v' := 0) (n' := 0) (r' := 0) rfl (.tmp 2) (.tmp 100) rfl rfl w.heap.size rfl rfl R2.out ?_
                intro wx hx kx
                have HX := Lib.hid hx
                have HBX := Lib.hid (B2.out.trans (kx.below B2.out.size (fun k hk e => by omega)))
                clear hx kx
                go_wp2
                try simp only [Exit.inBlock, Exit.then]
                refine bodyPost_ret (v := .tuple #[wd 0 0 0, .bool false]) ?_ rfl ⟨by rw [HPN.out]; rfl, HBX.out⟩
                rw [res_wordB rfl _ _ w.heap.size 0 0 0 false rfl rfl HX.out]
              | some pa =>
                obtain ⟨a, k⟩ := pa
                have hak := dgA_le (by omega) hda
                rw [hda] at HR HDA
                dsimp only [dgN, dgI] at HR HDA
                clear hda
                rw [show (((j + 1 : Nat)) : Int) = (j : Int) + 1 by omega] at HDA
                have HAK := Lib.hid hak
                have hkn : ¬ (k : Int) < 0 := by omega
                have hknd : decide ((k : Int) < 0) = false := decide_eq_false hkn
                by_cases hkl : k < l.length
                · skip
                  have hkp : k < (bs l).size := hkl
                  have hke : ((bs l)[k]'hkp).toNat = (l[k]).toNat := rfl
                  have hat2 := atC_nat hkl 58
                  have hki : (k : Int) < (l.length : Int) := by omega
                  have hkd : decide ((l.length : Int) ≤ (k : Int)) = false := decide_eq_false (by omega)
                  have HKL := Lib.hid hkl
                  generalize (l[k]).toNat = ck at *
                  clear hkl hak
                  rw [show (58 : UInt8).toNat = 58 from rfl] at hat2
                  by_cases h58 : ck = 58
                  · skip
                    subst h58
                    rw [decide_eq_true rfl] at hat2
                    have HR2 := Lib.hid (HR.out.trans (if_pos hat2))
                    have HDB := Lib.hid fun W => dig_any 16777215 (by omega) (by omega) l (k + 1) HKL.out HL.out W
                    clear hat2 HR
                    rw [show (((k + 1 : Nat)) : Int) = (k : Int) + 1 by omega] at HDB
                    cases hdb : dgA 16777215 l (k + 1) with
                    | none =>
                      rw [hdb] at HR2 HDB
                      dsimp only [dgN, dgI] at HR2 HDB
                      clear hdb
                      go_wp2_with fail
                      refine (HDA.out _).mono ?_
                      rintro e wq ⟨rfl, hq⟩
                      subst wq
                      go_wp2_with fail
                      refine (HDB.out _).mono ?_
                      rintro e wq ⟨rfl, hq⟩
                      subst wq
                      have HPN := Lib.hid (show rps l = none from HPS.out.trans (by rw [HR2.out]))
                      go_wp2_with (with_reducible refine at_store_ (t := 33) ?_; refine Hid.out ?_)
                      refine Lib.hid ?_
                      refine put_word (v' := 0) (n' := 0) (r' := 0) rfl (.tmp 2) (.tmp 110) rfl rfl w.heap.size rfl rfl R2.out ?_
                      intro wx hx kx
                      have HX := Lib.hid hx
                      have HBX := Lib.hid (B2.out.trans (kx.below B2.out.size (fun k hk e => by omega)))
                      clear hx kx
                      go_wp2
                      try simp only [Exit.inBlock, Exit.then]
                      refine bodyPost_ret (v := .tuple #[wd 0 0 0, .bool false]) ?_ rfl ⟨by rw [HPN.out]; rfl, HBX.out⟩
                      rw [res_wordB rfl _ _ w.heap.size 0 0 0 false rfl rfl HX.out]
                    | some pb =>
                      obtain ⟨b, m⟩ := pb
                      have hbm := dgA_le (by omega) hdb
                      rw [hdb] at HR2 HDB
                      dsimp only [dgN, dgI] at HR2 HDB
                      clear hdb
                      have hmn : ¬ (m : Int) < 0 := by omega
                      have ha64 : IntKind.i64.wrap (a : Int) = (a : Int) := by have := HAK.out; simp [IntKind.wrap, IntKind.bits, IntKind.signed]; omega
                      have hb64 : IntKind.i64.wrap (b : Int) = (b : Int) := by simp [IntKind.wrap, IntKind.bits, IntKind.signed]; omega
                      have HRF := Lib.hid fun W => refRef_any (a : Int) (b : Int) W
                      have HBM := Lib.hid hbm
                      clear hbm
                      go_wp2_with fail
                      refine (HDA.out _).mono ?_
                      rintro e wq ⟨rfl, hq⟩
                      subst wq
                      go_wp2_with fail
                      refine (HDB.out _).mono ?_
                      rintro e wq ⟨rfl, hq⟩
                      subst wq
                      go_wp2_with fail
                      refine (HRF.out _).mono ?_
                      rintro e wq ⟨rfl, hq⟩
                      subst wq
                      by_cases hre : rErr (a : Int) (b : Int) = 0
                      · skip
                        rw [hre]
                        have HR3 := Lib.hid (HR2.out.trans (if_pos hre))
                        clear hre
                        have HPS2 := Lib.hid (HPS.out.trans (by rw [HR3.out]))
                        have HRB := Lib.hid (rVal_lt (a : Int) (b : Int))
                        have WS := W2.out.set2 (rVal (a : Int) (b : Int))
                        have WR := Lib.hid WS.1
                        have RR := Lib.hid (R2.out.keep WS.2 (by omega))
                        have BR := Lib.hid (B2.out.trans (WS.2.below B2.out.size (fun k hk e => by omega)))
                        clear WS
                        have wfz := W2.out.fz 2
                        have wc2 := W2.out.c2
                        dsimp only at HPS2
                        have HPS := HPS2
                        clear HPS2
                        by_cases hml : m = l.length
                        · skip
                          have HML := Lib.hid hml
                          have hmi : (m : Int) = (l.length : Int) := by omega
                          have hmb : ((m : Int) == (l.length : Int)) = true := beq_iff_eq.2 hmi
                          have hmc : ((m : Int) != (l.length : Int)) = false := by rw [bne, hmb]; rfl
                          clear hml
                          go_wp2_with (with_reducible refine at_load_ (t := 33) ?_; refine Hid.out ?_)
                          refine Lib.hid ?_
                          refine get_wordG (by kernel_rfl) (.tmp 4) rfl (w.heap.size + 1) rfl WR.out ?_
                          try simp only [Act.put, List.setIfInBounds_toArray, List.set_cons_zero, List.set_cons_succ]
                          go_wp2_with fail
                          refine (rtext_any ((n : Int)) ((ve : Int)) (rVal (a : Int) (b : Int)) _ HXB.out.1 HXB.out.2 HVB.out.1 HVB.out.2 HRB.out.1 HRB.out.2).mono ?_
                          rintro e wt ⟨rfl, hbt⟩
                          have HBT := Lib.hid (BR.out.trans (hbt.mono BR.out.size))
                          have V0 := Lib.hid (RR.out.below hbt)
                          have V1 := Lib.hid (WR.out.below hbt)
                          clear hbt
                          by_cases hT : txt ((n : Int)) ((ve : Int)) (rVal (a : Int) (b : Int)) = l
                          · skip
                            rw [hT]
                            have HPN := Lib.hid (show rps l = some ((n : Int), (ve : Int), rVal (a : Int) (b : Int)) from HPS.out.trans (if_pos ⟨HML.out, hT⟩))
                            have hTc : ((bs l).toList == (bs l).toList) = true := beq_self_eq_true _
                            clear hT
                            go_wp2_with (with_reducible refine at_load_ (t := 33) ?_; refine Hid.out ?_)
                            refine Lib.hid ?_
                            refine get_word rfl (.tmp 4) rfl (w.heap.size + 1) rfl V1.out ?_
                            try simp only [Act.put, List.setIfInBounds_toArray, List.set_cons_zero, List.set_cons_succ]
                            go_wp2_with (with_reducible refine at_store_ (t := 33) ?_; refine Hid.out ?_)
                            refine Lib.hid ?_
                            refine put_word (v' := (n : Int)) (n' := (ve : Int)) (r' := rVal (a : Int) (b : Int)) rfl (.tmp 2) (.tmp 136) rfl rfl w.heap.size rfl rfl V0.out ?_
                            intro wx hx kx
                            have HX := Lib.hid hx
                            have HBX := Lib.hid (HBT.out.trans (kx.below HBT.out.size (fun k hk e => by omega)))
                            clear hx kx
                            go_wp2
                            try simp only [Exit.inBlock, Exit.then]
                            refine bodyPost_ret (v := .tuple #[wd ((n : Int)) ((ve : Int)) (rVal (a : Int) (b : Int)), .bool true]) ?_ rfl ⟨by rw [HPN.out]; rfl, HBX.out⟩
                            rw [res_wordB rfl _ _ w.heap.size ((n : Int)) ((ve : Int)) (rVal (a : Int) (b : Int)) true rfl rfl HX.out]
                          · skip
                            have hTb : ((bs (txt ((n : Int)) ((ve : Int)) (rVal (a : Int) (b : Int)))).toList == (bs l).toList) = false := beq_eq_false_iff_ne.2 (fun h => hT (by rwa [bs_toList, bs_toList] at h))
                            have HNT := Lib.hid hT
                            clear hT
                            have HPN := Lib.hid (show rps l = none from HPS.out.trans (if_neg fun h => HNT.out h.2))
                            go_wp2_with (with_reducible refine at_store_ (t := 33) ?_; refine Hid.out ?_)
                            refine Lib.hid ?_
                            refine put_word (v' := 0) (n' := 0) (r' := 0) rfl (.tmp 2) (.tmp 135) rfl rfl w.heap.size rfl rfl V0.out ?_
                            intro wx hx kx
                            have HX := Lib.hid hx
                            have HBX := Lib.hid (HBT.out.trans (kx.below HBT.out.size (fun k hk e => by omega)))
                            clear hx kx
                            go_wp2
                            try simp only [Exit.inBlock, Exit.then]
                            refine bodyPost_ret (v := .tuple #[wd 0 0 0, .bool false]) ?_ rfl ⟨by rw [HPN.out]; rfl, HBX.out⟩
                            rw [res_wordB rfl _ _ w.heap.size 0 0 0 false rfl rfl HX.out]
                        · skip
                          have HML := Lib.hid hml
                          have hmi : ¬ (m : Int) = (l.length : Int) := by omega
                          have hmb : ((m : Int) == (l.length : Int)) = false := beq_eq_false_iff_ne.2 hmi
                          have hmc : ((m : Int) != (l.length : Int)) = true := by rw [bne, hmb]; rfl
                          clear hml
                          have HPN := Lib.hid (show rps l = none from HPS.out.trans (if_neg fun h => HML.out h.1))
                          go_wp2_with (with_reducible refine at_store_ (t := 33) ?_; refine Hid.out ?_)
                          refine Lib.hid ?_
                          refine put_word (v' := 0) (n' := 0) (r' := 0) rfl (.tmp 2) (.tmp 135) rfl rfl w.heap.size rfl rfl RR.out ?_
                          intro wx hx kx
                          have HX := Lib.hid hx
                          have HBX := Lib.hid (BR.out.trans (kx.below BR.out.size (fun k hk e => by omega)))
                          clear hx kx
                          go_wp2
                          try simp only [Exit.inBlock, Exit.then]
                          refine bodyPost_ret (v := .tuple #[wd 0 0 0, .bool false]) ?_ rfl ⟨by rw [HPN.out]; rfl, HBX.out⟩
                          rw [res_wordB rfl _ _ w.heap.size 0 0 0 false rfl rfl HX.out]
                      · skip
                        have hreb : (rErr (a : Int) (b : Int) == 0) = false := beq_eq_false_iff_ne.2 hre
                        have HRE := Lib.hid hre
                        have HPN := Lib.hid (show rps l = none from HPS.out.trans (by rw [HR2.out, if_neg HRE.out]))
                        go_wp2_with (with_reducible refine at_store_ (t := 33) ?_; refine Hid.out ?_)
                        refine Lib.hid ?_
                        refine put_word (v' := 0) (n' := 0) (r' := 0) rfl (.tmp 2) (.tmp 121) rfl rfl w.heap.size rfl rfl R2.out ?_
                        intro wx hx kx
                        have HX := Lib.hid hx
                        have HBX := Lib.hid (B2.out.trans (kx.below B2.out.size (fun k hk e => by omega)))
                        clear hx kx
                        go_wp2
                        try simp only [Exit.inBlock, Exit.then]
                        refine bodyPost_ret (v := .tuple #[wd 0 0 0, .bool false]) ?_ rfl ⟨by rw [HPN.out]; rfl, HBX.out⟩
                        rw [res_wordB rfl _ _ w.heap.size 0 0 0 false rfl rfl HX.out]
                  · skip
                    have hat3 : atC l k 58 = false := by rw [hat2, decide_eq_false h58]
                    have HR2 := Lib.hid (HR.out.trans (if_neg (by rw [hat3]; exact Bool.false_ne_true)))
                    have hck : ¬ (ck : Int) = 58 := by omega
                    have hckb : ((ck : Int) == 58) = false := beq_eq_false_iff_ne.2 hck
                    have hckc : ((ck : Int) != 58) = true := by rw [bne, hckb]; rfl
                    clear hat2 hat3 h58
                    go_wp2_with fail
                    refine (HDA.out _).mono ?_
                    rintro e wq ⟨rfl, hq⟩
                    subst wq
                    have HPN := Lib.hid (show rps l = none from HPS.out.trans (by rw [HR2.out]))
                    go_wp2_with (with_reducible refine at_store_ (t := 33) ?_; refine Hid.out ?_)
                    refine Lib.hid ?_
                    refine put_word (v' := 0) (n' := 0) (r' := 0) rfl (.tmp 2) (.tmp 100) rfl rfl w.heap.size rfl rfl R2.out ?_
                    intro wx hx kx
                    have HX := Lib.hid hx
                    have HBX := Lib.hid (B2.out.trans (kx.below B2.out.size (fun k hk e => by omega)))
                    clear hx kx
                    go_wp2
                    try simp only [Exit.inBlock, Exit.then]
                    refine bodyPost_ret (v := .tuple #[wd 0 0 0, .bool false]) ?_ rfl ⟨by rw [HPN.out]; rfl, HBX.out⟩
                    rw [res_wordB rfl _ _ w.heap.size 0 0 0 false rfl rfl HX.out]
                · skip
                  have hat3 := atC_ge hkl 58
                  have HR2 := Lib.hid (HR.out.trans (if_neg (by rw [hat3]; exact Bool.false_ne_true)))
                  have hki : ¬ (k : Int) < (l.length : Int) := by omega
                  have hkd : decide ((l.length : Int) ≤ (k : Int)) = true := decide_eq_true (by omega)
                  clear hat3 hkl hak
                  go_wp2_with fail
                  refine (HDA.out _).mono ?_
                  rintro e wq ⟨rfl, hq⟩
                  subst wq
                  have HPN := Lib.hid (show rps l = none from HPS.out.trans (by rw [HR2.out]))
                  go_wp2_with (with_reducible refine at_store_ (t := 33) ?_; refine Hid.out ?_)
                  refine Lib.hid ?_
                  refine put_word (v' := 0) (n' := 0) (r' := 0) rfl (.tmp 2) (.tmp 100) rfl rfl w.heap.size rfl rfl R2.out ?_
                  intro wx hx kx
                  have HX := Lib.hid hx
                  have HBX := Lib.hid (B2.out.trans (kx.below B2.out.size (fun k hk e => by omega)))
                  clear hx kx
                  go_wp2
                  try simp only [Exit.inBlock, Exit.then]
                  refine bodyPost_ret (v := .tuple #[wd 0 0 0, .bool false]) ?_ rfl ⟨by rw [HPN.out]; rfl, HBX.out⟩
                  rw [res_wordB rfl _ _ w.heap.size 0 0 0 false rfl rfl HX.out]
            · skip
              have hat3 : atC l j 35 = false := by rw [hat, decide_eq_false h35]
              have hcj : ¬ (cj : Int) = 35 := by omega
              have hcjb : ((cj : Int) == 35) = false := beq_eq_false_iff_ne.2 hcj
              have HR := Lib.hid (show rpR l j = some (0, j) from if_neg (by rw [hat3]; exact Bool.false_ne_true))
              clear hat hat3 h35
              have hmi : ¬ (j : Int) = (l.length : Int) := by omega
              have hmb : ((j : Int) == (l.length : Int)) = false := beq_eq_false_iff_ne.2 hmi
              have hmc : ((j : Int) != (l.length : Int)) = true := by rw [bne, hmb]; rfl
              have HPN := Lib.hid (show rps l = none from HPS.out.trans (by rw [HR.out]; exact if_neg fun h => by have := HJ.out; omega))
              go_wp2_with (with_reducible refine at_store_ (t := 33) ?_; refine Hid.out ?_)
              refine Lib.hid ?_
              refine put_word (v' := 0) (n' := 0) (r' := 0) rfl (.tmp 2) (.tmp 135) rfl rfl w.heap.size rfl rfl R2.out ?_
              intro wx hx kx
              have HX := Lib.hid hx
              have HBX := Lib.hid (B2.out.trans (kx.below B2.out.size (fun k hk e => by omega)))
              clear hx kx
              go_wp2
              try simp only [Exit.inBlock, Exit.then]
              refine bodyPost_ret (v := .tuple #[wd 0 0 0, .bool false]) ?_ rfl ⟨by rw [HPN.out]; rfl, HBX.out⟩
              rw [res_wordB rfl _ _ w.heap.size 0 0 0 false rfl rfl HX.out]
          · skip
            have hat := atC_ge hj 35
            have HR := Lib.hid (show rpR l j = some (0, j) from if_neg (by rw [hat]; exact Bool.false_ne_true))
            have HML := Lib.hid (show j = l.length by omega)
            have hji : ¬ (j : Int) < (l.length : Int) := by omega
            have hjd : decide ((j : Int) < (l.length : Int)) = false := decide_eq_false hji
            have hmi : (j : Int) = (l.length : Int) := by omega
            have hmb : ((j : Int) == (l.length : Int)) = true := beq_iff_eq.2 hmi
            have hmc : ((j : Int) != (l.length : Int)) = false := by rw [bne, hmb]; rfl
            have HRB := Lib.hid (show (0 : Int) ≤ 0 ∧ (0 : Int) < 4294967296 by omega)
            have HPS2 := Lib.hid (HPS.out.trans (by rw [HR.out]))
            dsimp only at HPS2
            have HPS := HPS2
            clear HPS2 hat hj
            go_wp2_with (with_reducible refine at_load_ (t := 33) ?_; refine Hid.out ?_)
            refine Lib.hid ?_
            refine get_wordG (by kernel_rfl) (.tmp 4) rfl (w.heap.size + 1) rfl W2.out ?_
            try simp only [Act.put, List.setIfInBounds_toArray, List.set_cons_zero, List.set_cons_succ]
            go_wp2_with fail
            refine (rtext_any ((n : Int)) ((ve : Int)) (0) _ HXB.out.1 HXB.out.2 HVB.out.1 HVB.out.2 HRB.out.1 HRB.out.2).mono ?_
            rintro e wt ⟨rfl, hbt⟩
            have HBT := Lib.hid (B2.out.trans (hbt.mono B2.out.size))
            have V0 := Lib.hid (R2.out.below hbt)
            have V1 := Lib.hid (W2.out.below hbt)
            clear hbt
            by_cases hT : txt ((n : Int)) ((ve : Int)) (0) = l
            · skip
              rw [hT]
              have HPN := Lib.hid (show rps l = some ((n : Int), (ve : Int), 0) from HPS.out.trans (if_pos ⟨HML.out, hT⟩))
              have hTc : ((bs l).toList == (bs l).toList) = true := beq_self_eq_true _
              clear hT
              go_wp2_with (with_reducible refine at_load_ (t := 33) ?_; refine Hid.out ?_)
              refine Lib.hid ?_
              refine get_word rfl (.tmp 4) rfl (w.heap.size + 1) rfl V1.out ?_
              try simp only [Act.put, List.setIfInBounds_toArray, List.set_cons_zero, List.set_cons_succ]
              go_wp2_with (with_reducible refine at_store_ (t := 33) ?_; refine Hid.out ?_)
              refine Lib.hid ?_
              refine put_word (v' := (n : Int)) (n' := (ve : Int)) (r' := 0) rfl (.tmp 2) (.tmp 136) rfl rfl w.heap.size rfl rfl V0.out ?_
              intro wx hx kx
              have HX := Lib.hid hx
              have HBX := Lib.hid (HBT.out.trans (kx.below HBT.out.size (fun k hk e => by omega)))
              clear hx kx
              go_wp2
              try simp only [Exit.inBlock, Exit.then]
              refine bodyPost_ret (v := .tuple #[wd ((n : Int)) ((ve : Int)) (0), .bool true]) ?_ rfl ⟨by rw [HPN.out]; rfl, HBX.out⟩
              rw [res_wordB rfl _ _ w.heap.size ((n : Int)) ((ve : Int)) (0) true rfl rfl HX.out]
            · skip
              have hTb : ((bs (txt ((n : Int)) ((ve : Int)) (0))).toList == (bs l).toList) = false := beq_eq_false_iff_ne.2 (fun h => hT (by rwa [bs_toList, bs_toList] at h))
              have HNT := Lib.hid hT
              clear hT
              have HPN := Lib.hid (show rps l = none from HPS.out.trans (if_neg fun h => HNT.out h.2))
              go_wp2_with (with_reducible refine at_store_ (t := 33) ?_; refine Hid.out ?_)
              refine Lib.hid ?_
              refine put_word (v' := 0) (n' := 0) (r' := 0) rfl (.tmp 2) (.tmp 135) rfl rfl w.heap.size rfl rfl V0.out ?_
              intro wx hx kx
              have HX := Lib.hid hx
              have HBX := Lib.hid (HBT.out.trans (kx.below HBT.out.size (fun k hk e => by omega)))
              clear hx kx
              go_wp2
              try simp only [Exit.inBlock, Exit.then]
              refine bodyPost_ret (v := .tuple #[wd 0 0 0, .bool false]) ?_ rfl ⟨by rw [HPN.out]; rfl, HBX.out⟩
              rw [res_wordB rfl _ _ w.heap.size 0 0 0 false rfl rfl HX.out]
      · skip
        have hat3 : atC l i 46 = false := by rw [hatv, decide_eq_false h46]
        have hcii : ¬ (ci : Int) = 46 := by omega
        have hcib : ((ci : Int) == 46) = false := beq_eq_false_iff_ne.2 hcii
        have HV := Lib.hid (show rpV l i = some (0, i) from if_neg (by rw [hat3]; exact Bool.false_ne_true))
        clear hatv hat3 h46
        have HPS2 := Lib.hid (HPS.out.trans (by rw [HV.out]))
        dsimp only at HPS2
        have HPS := HPS2
        clear HPS2
        rw [show ((0 : Nat) : Int) = 0 from rfl] at HPS
        have HVB := Lib.hid (show (0 : Int) ≤ 0 ∧ (0 : Int) < 4294967296 by omega)
        have hj := hi
        clear hi
        have hat : atC l i 35 = decide (ci = 35) := (atC_nat hj 35).trans (congrArg (fun c => decide (c = 35)) hci2)
        clear hci2
        have hji : (i : Int) < (l.length : Int) := hii
        have hjd := hid
        have HJ := Lib.hid hj
        clear hj
        have hcje := hcii
        by_cases h35 : ci = 35
        · skip
          subst h35
          rw [decide_eq_true rfl] at hat
          have HR := Lib.hid (show rpR l i = _ from (if_pos hat : rpR l i = _))
          have HDA := Lib.hid fun W => dig_any 100 (by omega) (by omega) l (i + 1) HJ.out HL.out W
          clear hat
          cases hda : dgA 100 l (i + 1) with
          | none =>
            rw [hda] at HR HDA
            dsimp only [dgN, dgI] at HR HDA
            clear hda
            rw [show (((i + 1 : Nat)) : Int) = (i : Int) + 1 by omega] at HDA
            go_wp2_with fail
            refine (HDA.out _).mono ?_
            rintro e wq ⟨rfl, hq⟩
            subst wq
            have HPN := Lib.hid (show rps l = none from HPS.out.trans (by rw [HR.out]))
            go_wp2_with (with_reducible refine at_store_ (t := 33) ?_; refine Hid.out ?_)
            refine Lib.hid ?_
            refine put_word (v' := 0) (n' := 0) (r' := 0) rfl (.tmp 2) (.tmp 100) rfl rfl w.heap.size rfl rfl R1.out ?_
            intro wx hx kx
            have HX := Lib.hid hx
            have HBX := Lib.hid (B1.out.trans (kx.below B1.out.size (fun k hk e => by omega)))
            clear hx kx
            go_wp2
            try simp only [Exit.inBlock, Exit.then]
            refine bodyPost_ret (v := .tuple #[wd 0 0 0, .bool false]) ?_ rfl ⟨by rw [HPN.out]; rfl, HBX.out⟩
            rw [res_wordB rfl _ _ w.heap.size 0 0 0 false rfl rfl HX.out]
          | some pa =>
            obtain ⟨a, k⟩ := pa
            have hak := dgA_le (by omega) hda
            rw [hda] at HR HDA
            dsimp only [dgN, dgI] at HR HDA
            clear hda
            rw [show (((i + 1 : Nat)) : Int) = (i : Int) + 1 by omega] at HDA
            have HAK := Lib.hid hak
            have hkn : ¬ (k : Int) < 0 := by omega
            have hknd : decide ((k : Int) < 0) = false := decide_eq_false hkn
            by_cases hkl : k < l.length
            · skip
              have hkp : k < (bs l).size := hkl
              have hke : ((bs l)[k]'hkp).toNat = (l[k]).toNat := rfl
              have hat2 := atC_nat hkl 58
              have hki : (k : Int) < (l.length : Int) := by omega
              have hkd : decide ((l.length : Int) ≤ (k : Int)) = false := decide_eq_false (by omega)
              have HKL := Lib.hid hkl
              generalize (l[k]).toNat = ck at *
              clear hkl hak
              rw [show (58 : UInt8).toNat = 58 from rfl] at hat2
              by_cases h58 : ck = 58
              · skip
                subst h58
                rw [decide_eq_true rfl] at hat2
                have HR2 := Lib.hid (HR.out.trans (if_pos hat2))
                have HDB := Lib.hid fun W => dig_any 16777215 (by omega) (by omega) l (k + 1) HKL.out HL.out W
                clear hat2 HR
                rw [show (((k + 1 : Nat)) : Int) = (k : Int) + 1 by omega] at HDB
                cases hdb : dgA 16777215 l (k + 1) with
                | none =>
                  rw [hdb] at HR2 HDB
                  dsimp only [dgN, dgI] at HR2 HDB
                  clear hdb
                  go_wp2_with fail
                  refine (HDA.out _).mono ?_
                  rintro e wq ⟨rfl, hq⟩
                  subst wq
                  go_wp2_with fail
                  refine (HDB.out _).mono ?_
                  rintro e wq ⟨rfl, hq⟩
                  subst wq
                  have HPN := Lib.hid (show rps l = none from HPS.out.trans (by rw [HR2.out]))
                  go_wp2_with (with_reducible refine at_store_ (t := 33) ?_; refine Hid.out ?_)
                  refine Lib.hid ?_
                  refine put_word (v' := 0) (n' := 0) (r' := 0) rfl (.tmp 2) (.tmp 110) rfl rfl w.heap.size rfl rfl R1.out ?_
                  intro wx hx kx
                  have HX := Lib.hid hx
                  have HBX := Lib.hid (B1.out.trans (kx.below B1.out.size (fun k hk e => by omega)))
                  clear hx kx
                  go_wp2
                  try simp only [Exit.inBlock, Exit.then]
                  refine bodyPost_ret (v := .tuple #[wd 0 0 0, .bool false]) ?_ rfl ⟨by rw [HPN.out]; rfl, HBX.out⟩
                  rw [res_wordB rfl _ _ w.heap.size 0 0 0 false rfl rfl HX.out]
                | some pb =>
                  obtain ⟨b, m⟩ := pb
                  have hbm := dgA_le (by omega) hdb
                  rw [hdb] at HR2 HDB
                  dsimp only [dgN, dgI] at HR2 HDB
                  clear hdb
                  have hmn : ¬ (m : Int) < 0 := by omega
                  have ha64 : IntKind.i64.wrap (a : Int) = (a : Int) := by have := HAK.out; simp [IntKind.wrap, IntKind.bits, IntKind.signed]; omega
                  have hb64 : IntKind.i64.wrap (b : Int) = (b : Int) := by simp [IntKind.wrap, IntKind.bits, IntKind.signed]; omega
                  have HRF := Lib.hid fun W => refRef_any (a : Int) (b : Int) W
                  have HBM := Lib.hid hbm
                  clear hbm
                  go_wp2_with fail
                  refine (HDA.out _).mono ?_
                  rintro e wq ⟨rfl, hq⟩
                  subst wq
                  go_wp2_with fail
                  refine (HDB.out _).mono ?_
                  rintro e wq ⟨rfl, hq⟩
                  subst wq
                  go_wp2_with fail
                  refine (HRF.out _).mono ?_
                  rintro e wq ⟨rfl, hq⟩
                  subst wq
                  by_cases hre : rErr (a : Int) (b : Int) = 0
                  · skip
                    rw [hre]
                    have HR3 := Lib.hid (HR2.out.trans (if_pos hre))
                    clear hre
                    have HPS2 := Lib.hid (HPS.out.trans (by rw [HR3.out]))
                    have HRB := Lib.hid (rVal_lt (a : Int) (b : Int))
                    have WS := W1.out.set2 (rVal (a : Int) (b : Int))
                    have WR := Lib.hid WS.1
                    have RR := Lib.hid (R1.out.keep WS.2 (by omega))
                    have BR := Lib.hid (B1.out.trans (WS.2.below B1.out.size (fun k hk e => by omega)))
                    clear WS
                    have wfz := W1.out.fz 2
                    have wc2 := W1.out.c2
                    dsimp only at HPS2
                    have HPS := HPS2
                    clear HPS2
                    by_cases hml : m = l.length
                    · skip
                      have HML := Lib.hid hml
                      have hmi : (m : Int) = (l.length : Int) := by omega
                      have hmb : ((m : Int) == (l.length : Int)) = true := beq_iff_eq.2 hmi
                      have hmc : ((m : Int) != (l.length : Int)) = false := by rw [bne, hmb]; rfl
                      clear hml
                      go_wp2_with (with_reducible refine at_load_ (t := 33) ?_; refine Hid.out ?_)
                      refine Lib.hid ?_
                      refine get_wordG (by kernel_rfl) (.tmp 4) rfl (w.heap.size + 1) rfl WR.out ?_
                      try simp only [Act.put, List.setIfInBounds_toArray, List.set_cons_zero, List.set_cons_succ]
                      go_wp2_with fail
                      refine (rtext_any ((n : Int)) (0) (rVal (a : Int) (b : Int)) _ HXB.out.1 HXB.out.2 HVB.out.1 HVB.out.2 HRB.out.1 HRB.out.2).mono ?_
                      rintro e wt ⟨rfl, hbt⟩
                      have HBT := Lib.hid (BR.out.trans (hbt.mono BR.out.size))
                      have V0 := Lib.hid (RR.out.below hbt)
                      have V1 := Lib.hid (WR.out.below hbt)
                      clear hbt
                      by_cases hT : txt ((n : Int)) (0) (rVal (a : Int) (b : Int)) = l
                      · skip
                        rw [hT]
                        have HPN := Lib.hid (show rps l = some ((n : Int), 0, rVal (a : Int) (b : Int)) from HPS.out.trans (if_pos ⟨HML.out, hT⟩))
                        have hTc : ((bs l).toList == (bs l).toList) = true := beq_self_eq_true _
                        clear hT
                        go_wp2_with (with_reducible refine at_load_ (t := 33) ?_; refine Hid.out ?_)
                        refine Lib.hid ?_
                        refine get_word rfl (.tmp 4) rfl (w.heap.size + 1) rfl V1.out ?_
                        try simp only [Act.put, List.setIfInBounds_toArray, List.set_cons_zero, List.set_cons_succ]
                        go_wp2_with (with_reducible refine at_store_ (t := 33) ?_; refine Hid.out ?_)
                        refine Lib.hid ?_
                        refine put_word (v' := (n : Int)) (n' := 0) (r' := rVal (a : Int) (b : Int)) rfl (.tmp 2) (.tmp 136) rfl rfl w.heap.size rfl rfl V0.out ?_
                        intro wx hx kx
                        have HX := Lib.hid hx
                        have HBX := Lib.hid (HBT.out.trans (kx.below HBT.out.size (fun k hk e => by omega)))
                        clear hx kx
                        go_wp2
                        try simp only [Exit.inBlock, Exit.then]
                        refine bodyPost_ret (v := .tuple #[wd ((n : Int)) (0) (rVal (a : Int) (b : Int)), .bool true]) ?_ rfl ⟨by rw [HPN.out]; rfl, HBX.out⟩
                        rw [res_wordB rfl _ _ w.heap.size ((n : Int)) (0) (rVal (a : Int) (b : Int)) true rfl rfl HX.out]
                      · skip
                        have hTb : ((bs (txt ((n : Int)) (0) (rVal (a : Int) (b : Int)))).toList == (bs l).toList) = false := beq_eq_false_iff_ne.2 (fun h => hT (by rwa [bs_toList, bs_toList] at h))
                        have HNT := Lib.hid hT
                        clear hT
                        have HPN := Lib.hid (show rps l = none from HPS.out.trans (if_neg fun h => HNT.out h.2))
                        go_wp2_with (with_reducible refine at_store_ (t := 33) ?_; refine Hid.out ?_)
                        refine Lib.hid ?_
                        refine put_word (v' := 0) (n' := 0) (r' := 0) rfl (.tmp 2) (.tmp 135) rfl rfl w.heap.size rfl rfl V0.out ?_
                        intro wx hx kx
                        have HX := Lib.hid hx
                        have HBX := Lib.hid (HBT.out.trans (kx.below HBT.out.size (fun k hk e => by omega)))
                        clear hx kx
                        go_wp2
                        try simp only [Exit.inBlock, Exit.then]
                        refine bodyPost_ret (v := .tuple #[wd 0 0 0, .bool false]) ?_ rfl ⟨by rw [HPN.out]; rfl, HBX.out⟩
                        rw [res_wordB rfl _ _ w.heap.size 0 0 0 false rfl rfl HX.out]
                    · skip
                      have HML := Lib.hid hml
                      have hmi : ¬ (m : Int) = (l.length : Int) := by omega
                      have hmb : ((m : Int) == (l.length : Int)) = false := beq_eq_false_iff_ne.2 hmi
                      have hmc : ((m : Int) != (l.length : Int)) = true := by rw [bne, hmb]; rfl
                      clear hml
                      have HPN := Lib.hid (show rps l = none from HPS.out.trans (if_neg fun h => HML.out h.1))
                      go_wp2_with (with_reducible refine at_store_ (t := 33) ?_; refine Hid.out ?_)
                      refine Lib.hid ?_
                      refine put_word (v' := 0) (n' := 0) (r' := 0) rfl (.tmp 2) (.tmp 135) rfl rfl w.heap.size rfl rfl RR.out ?_
                      intro wx hx kx
                      have HX := Lib.hid hx
                      have HBX := Lib.hid (BR.out.trans (kx.below BR.out.size (fun k hk e => by omega)))
                      clear hx kx
                      go_wp2
                      try simp only [Exit.inBlock, Exit.then]
                      refine bodyPost_ret (v := .tuple #[wd 0 0 0, .bool false]) ?_ rfl ⟨by rw [HPN.out]; rfl, HBX.out⟩
                      rw [res_wordB rfl _ _ w.heap.size 0 0 0 false rfl rfl HX.out]
                  · skip
                    have hreb : (rErr (a : Int) (b : Int) == 0) = false := beq_eq_false_iff_ne.2 hre
                    have HRE := Lib.hid hre
                    have HPN := Lib.hid (show rps l = none from HPS.out.trans (by rw [HR2.out, if_neg HRE.out]))
                    go_wp2_with (with_reducible refine at_store_ (t := 33) ?_; refine Hid.out ?_)
                    refine Lib.hid ?_
                    refine put_word (v' := 0) (n' := 0) (r' := 0) rfl (.tmp 2) (.tmp 121) rfl rfl w.heap.size rfl rfl R1.out ?_
                    intro wx hx kx
                    have HX := Lib.hid hx
                    have HBX := Lib.hid (B1.out.trans (kx.below B1.out.size (fun k hk e => by omega)))
                    clear hx kx
                    go_wp2
                    try simp only [Exit.inBlock, Exit.then]
                    refine bodyPost_ret (v := .tuple #[wd 0 0 0, .bool false]) ?_ rfl ⟨by rw [HPN.out]; rfl, HBX.out⟩
                    rw [res_wordB rfl _ _ w.heap.size 0 0 0 false rfl rfl HX.out]
              · skip
                have hat3 : atC l k 58 = false := by rw [hat2, decide_eq_false h58]
                have HR2 := Lib.hid (HR.out.trans (if_neg (by rw [hat3]; exact Bool.false_ne_true)))
                have hck : ¬ (ck : Int) = 58 := by omega
                have hckb : ((ck : Int) == 58) = false := beq_eq_false_iff_ne.2 hck
                have hckc : ((ck : Int) != 58) = true := by rw [bne, hckb]; rfl
                clear hat2 hat3 h58
                go_wp2_with fail
                refine (HDA.out _).mono ?_
                rintro e wq ⟨rfl, hq⟩
                subst wq
                have HPN := Lib.hid (show rps l = none from HPS.out.trans (by rw [HR2.out]))
                go_wp2_with (with_reducible refine at_store_ (t := 33) ?_; refine Hid.out ?_)
                refine Lib.hid ?_
                refine put_word (v' := 0) (n' := 0) (r' := 0) rfl (.tmp 2) (.tmp 100) rfl rfl w.heap.size rfl rfl R1.out ?_
                intro wx hx kx
                have HX := Lib.hid hx
                have HBX := Lib.hid (B1.out.trans (kx.below B1.out.size (fun k hk e => by omega)))
                clear hx kx
                go_wp2
                try simp only [Exit.inBlock, Exit.then]
                refine bodyPost_ret (v := .tuple #[wd 0 0 0, .bool false]) ?_ rfl ⟨by rw [HPN.out]; rfl, HBX.out⟩
                rw [res_wordB rfl _ _ w.heap.size 0 0 0 false rfl rfl HX.out]
            · skip
              have hat3 := atC_ge hkl 58
              have HR2 := Lib.hid (HR.out.trans (if_neg (by rw [hat3]; exact Bool.false_ne_true)))
              have hki : ¬ (k : Int) < (l.length : Int) := by omega
              have hkd : decide ((l.length : Int) ≤ (k : Int)) = true := decide_eq_true (by omega)
              clear hat3 hkl hak
              go_wp2_with fail
              refine (HDA.out _).mono ?_
              rintro e wq ⟨rfl, hq⟩
              subst wq
              have HPN := Lib.hid (show rps l = none from HPS.out.trans (by rw [HR2.out]))
              go_wp2_with (with_reducible refine at_store_ (t := 33) ?_; refine Hid.out ?_)
              refine Lib.hid ?_
              refine put_word (v' := 0) (n' := 0) (r' := 0) rfl (.tmp 2) (.tmp 100) rfl rfl w.heap.size rfl rfl R1.out ?_
              intro wx hx kx
              have HX := Lib.hid hx
              have HBX := Lib.hid (B1.out.trans (kx.below B1.out.size (fun k hk e => by omega)))
              clear hx kx
              go_wp2
              try simp only [Exit.inBlock, Exit.then]
              refine bodyPost_ret (v := .tuple #[wd 0 0 0, .bool false]) ?_ rfl ⟨by rw [HPN.out]; rfl, HBX.out⟩
              rw [res_wordB rfl _ _ w.heap.size 0 0 0 false rfl rfl HX.out]
        · skip
          have hat3 : atC l i 35 = false := by rw [hat, decide_eq_false h35]
          have hci : ¬ (ci : Int) = 35 := by omega
          have hcib : ((ci : Int) == 35) = false := beq_eq_false_iff_ne.2 hci
          have HR := Lib.hid (show rpR l i = some (0, i) from if_neg (by rw [hat3]; exact Bool.false_ne_true))
          clear hat hat3 h35
          have hmi : ¬ (i : Int) = (l.length : Int) := by omega
          have hmb : ((i : Int) == (l.length : Int)) = false := beq_eq_false_iff_ne.2 hmi
          have hmc : ((i : Int) != (l.length : Int)) = true := by rw [bne, hmb]; rfl
          have HPN := Lib.hid (show rps l = none from HPS.out.trans (by rw [HR.out]; exact if_neg fun h => by have := HJ.out; omega))
          go_wp2_with (with_reducible refine at_store_ (t := 33) ?_; refine Hid.out ?_)
          refine Lib.hid ?_
          refine put_word (v' := 0) (n' := 0) (r' := 0) rfl (.tmp 2) (.tmp 135) rfl rfl w.heap.size rfl rfl R1.out ?_
          intro wx hx kx
          have HX := Lib.hid hx
          have HBX := Lib.hid (B1.out.trans (kx.below B1.out.size (fun k hk e => by omega)))
          clear hx kx
          go_wp2
          try simp only [Exit.inBlock, Exit.then]
          refine bodyPost_ret (v := .tuple #[wd 0 0 0, .bool false]) ?_ rfl ⟨by rw [HPN.out]; rfl, HBX.out⟩
          rw [res_wordB rfl _ _ w.heap.size 0 0 0 false rfl rfl HX.out]
    · skip
      have hat3 := atC_ge hi 46
      have HV := Lib.hid (show rpV l i = some (0, i) from if_neg (by rw [hat3]; exact Bool.false_ne_true))
      have HPS2 := Lib.hid (HPS.out.trans (by rw [HV.out]))
      dsimp only at HPS2
      have HPS := HPS2
      clear HPS2 hat3
      rw [show ((0 : Nat) : Int) = 0 from rfl] at HPS
      have HVB := Lib.hid (show (0 : Int) ≤ 0 ∧ (0 : Int) < 4294967296 by omega)
      have hj := hi
      have hile : i ≤ l.length := HNI.out.2.2
      clear hi
      have hat := atC_ge hj 35
      have HR := Lib.hid (show rpR l i = some (0, i) from if_neg (by rw [hat]; exact Bool.false_ne_true))
      have HML := Lib.hid (show i = l.length by omega)
      have hji : ¬ (i : Int) < (l.length : Int) := by omega
      have hjd : decide ((i : Int) < (l.length : Int)) = false := decide_eq_false hji
      have hmi : (i : Int) = (l.length : Int) := by omega
      have hmb : ((i : Int) == (l.length : Int)) = true := beq_iff_eq.2 hmi
      have hmc : ((i : Int) != (l.length : Int)) = false := by rw [bne, hmb]; rfl
      have HRB := Lib.hid (show (0 : Int) ≤ 0 ∧ (0 : Int) < 4294967296 by omega)
      have HPS2 := Lib.hid (HPS.out.trans (by rw [HR.out]))
      dsimp only at HPS2
      have HPS := HPS2
      clear HPS2 hat hj
      go_wp2_with (with_reducible refine at_load_ (t := 33) ?_; refine Hid.out ?_)
      refine Lib.hid ?_
      refine get_wordG (by kernel_rfl) (.tmp 4) rfl (w.heap.size + 1) rfl W1.out ?_
      try simp only [Act.put, List.setIfInBounds_toArray, List.set_cons_zero, List.set_cons_succ]
      go_wp2_with fail
      refine (rtext_any ((n : Int)) (0) (0) _ HXB.out.1 HXB.out.2 HVB.out.1 HVB.out.2 HRB.out.1 HRB.out.2).mono ?_
      rintro e wt ⟨rfl, hbt⟩
      have HBT := Lib.hid (B1.out.trans (hbt.mono B1.out.size))
      have V0 := Lib.hid (R1.out.below hbt)
      have V1 := Lib.hid (W1.out.below hbt)
      clear hbt
      by_cases hT : txt ((n : Int)) (0) (0) = l
      · skip
        rw [hT]
        have HPN := Lib.hid (show rps l = some ((n : Int), 0, 0) from HPS.out.trans (if_pos ⟨HML.out, hT⟩))
        have hTc : ((bs l).toList == (bs l).toList) = true := beq_self_eq_true _
        clear hT
        go_wp2_with (with_reducible refine at_load_ (t := 33) ?_; refine Hid.out ?_)
        refine Lib.hid ?_
        refine get_word rfl (.tmp 4) rfl (w.heap.size + 1) rfl V1.out ?_
        try simp only [Act.put, List.setIfInBounds_toArray, List.set_cons_zero, List.set_cons_succ]
        go_wp2_with (with_reducible refine at_store_ (t := 33) ?_; refine Hid.out ?_)
        refine Lib.hid ?_
        refine put_word (v' := (n : Int)) (n' := 0) (r' := 0) rfl (.tmp 2) (.tmp 136) rfl rfl w.heap.size rfl rfl V0.out ?_
        intro wx hx kx
        have HX := Lib.hid hx
        have HBX := Lib.hid (HBT.out.trans (kx.below HBT.out.size (fun k hk e => by omega)))
        clear hx kx
        go_wp2
        try simp only [Exit.inBlock, Exit.then]
        refine bodyPost_ret (v := .tuple #[wd ((n : Int)) (0) (0), .bool true]) ?_ rfl ⟨by rw [HPN.out]; rfl, HBX.out⟩
        rw [res_wordB rfl _ _ w.heap.size ((n : Int)) (0) (0) true rfl rfl HX.out]
      · skip
        have hTb : ((bs (txt ((n : Int)) (0) (0))).toList == (bs l).toList) = false := beq_eq_false_iff_ne.2 (fun h => hT (by rwa [bs_toList, bs_toList] at h))
        have HNT := Lib.hid hT
        clear hT
        have HPN := Lib.hid (show rps l = none from HPS.out.trans (if_neg fun h => HNT.out h.2))
        go_wp2_with (with_reducible refine at_store_ (t := 33) ?_; refine Hid.out ?_)
        refine Lib.hid ?_
        refine put_word (v' := 0) (n' := 0) (r' := 0) rfl (.tmp 2) (.tmp 135) rfl rfl w.heap.size rfl rfl V0.out ?_
        intro wx hx kx
        have HX := Lib.hid hx
        have HBX := Lib.hid (HBT.out.trans (kx.below HBT.out.size (fun k hk e => by omega)))
        clear hx kx
        go_wp2
        try simp only [Exit.inBlock, Exit.then]
        refine bodyPost_ret (v := .tuple #[wd 0 0 0, .bool false]) ?_ rfl ⟨by rw [HPN.out]; rfl, HBX.out⟩
        rw [res_wordB rfl _ _ w.heap.size 0 0 0 false rfl rfl HX.out]
set_option maxRecDepth 100000 in
set_option maxHeartbeats 25600000 in
theorem rparse_nil (l : List UInt8) (w : World) (hl : l.length ≤ 1000) (h0 : ¬ 0 < l.length) :
    Calls Tryd.prog 19 #[.string (bs l)] w fun e w' => e = .returned (.tuple #[prV1 (rps l), .bool (rps l).isSome]) ∧ Below w.heap.size w w' := by
  have HL := Lib.hid hl
  have hsz := bs_size l
  have hli : (l.length : Int) ≤ 1000 := by omega
  have hng : rpNeg l = false := atC_ge h0 45
  have h0i : ¬ (0 : Int) < (l.length : Int) := by omega
  have h0d : decide ((0 : Int) < (l.length : Int)) = false := decide_eq_false h0i
  have HPS := Lib.hid (rps_pos hng)
  have HD := Lib.hid fun W => dig_any 9223372036854775807 (by omega) (by omega) l 0 (by omega) HL.out W
  clear hng hl
  go_enter Tryd.func19, Tryd.ntmps19
  go_wp2_with fail
  have h0' : Below w.heap.size w (w.alloc (wdO 0 0 0)) := (Below.refl _ _).alloc (Nat.le_refl _) _
  have h1' : Below w.heap.size w ((w.alloc (wdO 0 0 0)).alloc (wdO 0 0 0)) := h0'.alloc (by simp) _
  have n1 : (w.alloc (wdO 0 0 0)).heap.size = w.heap.size + 1 := by simp
  have r0 : WBox ((w.alloc (wdO 0 0 0)).alloc (wdO 0 0 0)) w.heap.size 0 0 0 := WBox.new.alloc _
  have r1 : WBox ((w.alloc (wdO 0 0 0)).alloc (wdO 0 0 0)) (w.heap.size + 1) 0 0 0 := by have := WBox.new (w := w.alloc (wdO 0 0 0)) (v := 0) (n := 0) (r := 0); rwa [n1] at this
  have B0 := Lib.hid h1'
  have R0 := Lib.hid r0
  have W0 := Lib.hid r1
  clear h0' h1' n1 r0 r1
  unfold wdO at B0 R0 W0
  generalize (w.alloc (.cells #[.int .i64 0, .int .u32 0, .int .u32 0] 33)).alloc (.cells #[.int .i64 0, .int .u32 0, .int .u32 0] 33) = w0 at *
  cases hd : dgA 9223372036854775807 l 0 with
  | none =>
    rw [hd] at HPS HD
    dsimp only [dgN, dgI] at HPS HD
    clear hd
    refine (HD.out _).mono ?_
    rintro e wq ⟨rfl, hq⟩
    subst wq
    have HPN := Lib.hid (show rps l = none from HPS.out)
    go_wp2_with (with_reducible refine at_store_ (t := 33) ?_; refine Hid.out ?_)
    refine Lib.hid ?_
    refine put_word (v' := 0) (n' := 0) (r' := 0) rfl (.tmp 2) (.tmp 36) rfl rfl w.heap.size rfl rfl R0.out ?_
    intro wx hx kx
    have HX := Lib.hid hx
    have HBX := Lib.hid (B0.out.trans (kx.below B0.out.size (fun k hk e => by omega)))
    clear hx kx
    go_wp2
    try simp only [Exit.inBlock, Exit.then]
    refine bodyPost_ret (v := .tuple #[wd 0 0 0, .bool false]) ?_ rfl ⟨by rw [HPN.out]; rfl, HBX.out⟩
    rw [res_wordB rfl _ _ w.heap.size 0 0 0 false rfl rfl HX.out]
  | some pn =>
    obtain ⟨n, i⟩ := pn
    have hni := dgA_le (by omega) hd
    rw [hd] at HPS HD
    dsimp only [dgN, dgI] at HPS HD
    clear hd
    have HNI := Lib.hid hni
    have hin : ¬ (i : Int) < 0 := by omega
    exfalso; omega
theorem rparse_any (l : List UInt8) (w : World) (hl : l.length ≤ 1000) :
    Calls Tryd.prog 19 #[.string (bs l)] w fun e w' => e = .returned (.tuple #[prV1 (prs l), .bool (prs l).isSome]) ∧ Below w.heap.size w w' := by
  rw [← rps_prs]
  by_cases h0 : 0 < l.length
  · by_cases hc : (l[0]).toNat = 45
    · exact rparse_neg l w hl h0 hc
    · exact rparse_pos l w hl h0 hc
  · exact rparse_nil l w hl h0
end Go.Proofs.YtkccaadhjodhlaaDoor
