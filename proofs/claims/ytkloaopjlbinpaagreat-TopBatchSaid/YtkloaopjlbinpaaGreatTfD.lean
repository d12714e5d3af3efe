/- Once more, where the function keeps rows of its own: the walk of law33's Done. Conditions: what is asked of the function that is handed over; no version is the greatest. -/
import Derived.Test.YtkloaopjlbinpaaGreatTfC
set_option linter.unusedVariables false
set_option linter.unusedSimpArgs false
namespace Go.Proofs.YtkloaopjlbinpaaGreat
open Go.RowKit Go.MapKept

set_option maxRecDepth 100000 in
set_option maxHeartbeats 12800000 in
theorem done_own (f : FuncId) (cb : Array Value) (hcf : ∀ (args : Array Value) (W : World), (callFunc f args).run Tryz.prog W = .ok (.enter f args) W) (w : World) (kb : Nat) (g : Mem) (hm : IntMap w kb g.at) (hf : g.Fits 4294967294) (Z : Nat → Prop) (T : List (Int × Int) → (Nat → Prop) → World → Prop)
    (hz : ¬ Z kb) (hT : ∀ P' (Y : Nat → Prop) W W', T P' Y W → KX (fun b => w.heap.size ≤ b ∧ ¬ Y b) W W' → T P' Y W')
    (hdo : ∀ (W : World) (sb : Nat), Below w.heap.size w W → w.heap.size ≤ sb → SpE W (fun b => w.heap.size ≤ b) w.heap.size sb g [] → Calls Tryz.prog f (#[.pointer (some ⟨sb, 0, none⟩)] ++ cb) W fun e W' => e = .returned (.tuple #[]) ∧ ∃ (P' : List (Int × Int)) (Y : Nat → Prop), SpE W' (fun b => w.heap.size ≤ b ∧ ¬ Y b) w.heap.size sb g P' ∧ (∀ b, Y b → b < W'.heap.size) ∧ P'.length ≤ 80000 ∧ KX (fun b => Z b ∨ w.heap.size ≤ b) W W' ∧ T P' Y W') :
    Calls Tryz.prog 15 #[.map (some kb), .func (.func f) #[] cb] w fun e w' => ∃ (nb : Nat) (ev : Value) (P' : List (Int × Int)) (Y : Nat → Prop), e = .returned (.tuple #[.map (some nb), ev, .bool true]) ∧ w.heap.size ≤ nb ∧ IntMap w' nb (nextM g P').at ∧ T P' Y w' ∧ KX (fun b => Z b ∨ w.heap.size ≤ b) w w' := by
  have KN := Lib.hid (new_any g kb w hm)
  have HDO := Lib.hid hdo
  have HT := Lib.hid hT
  have HF := Lib.hid hf
  have HZ := Lib.hid hz
  have HM := Lib.hid hm
  have HKB := Lib.hid hm.lt
  clear hm hf hz hT hdo
  go_enter Tryz.func15, Tryz.ntmps15
  go_wp2_with fail
  refine KN.out.mono ?_
  rintro e w1 ⟨rfl, hs, hb⟩
  have B1 := Lib.hid hb
  have KD := Lib.hid (HDO.out w1 (w.heap.size + 2) hb (by omega) ⟨_, hs⟩)
  clear hs hb KN HDO
  go_wp2_with fail
  refine KD.out.mono ?_
  rintro e w2 ⟨rfl, P', Y, ⟨R, hs⟩, hy, hl, hk, ht⟩
  have HY := Lib.hid hy
  clear hy
  obtain ⟨sb, hsb⟩ : ∃ z, z = w.heap.size + 2 := ⟨_, rfl⟩
  rw [← hsb] at hs ⊢
  have S2 := Lib.hid hs
  have PL := Lib.hid (show P'.length ≤ 90000 by omega)
  have K2 := Lib.hid (show KX (fun b => Z b ∨ w.heap.size ≤ b) w w2 from (KX.of_below B1.out).trans (hk.mono fun b _ h => h))
  have T2 := Lib.hid ht
  have M2 := Lib.hid (show IntMap w2 kb g.at from HM.out.keep (K2.out.block kb HKB.out (fun h => by
    rcases h with h | h
    · exact HZ.out h
    · have := HKB.out; omega)))
  have KE := Lib.hid (entries_any S2.out PL.out HF.out)
  clear hs hl hk ht KD hsb B1 HM
  go_wp2_with fail
  refine KE.out.mono ?_
  rintro e w3 ⟨L, hnd, hmem, hb, hL⟩
  have ND := Lib.hid hnd
  have MEM := Lib.hid hmem
  have B3 := Lib.hid hb
  have HIN := Lib.hid (show ∀ k ∈ L, inM k from fun k hk => S2.out.reads k ((hmem k).1 hk))
  have WIN := Lib.hid (show ∀ k, wrt P' k = true → inM k ∧ k ∈ L from fun k hk => by
    unfold wrt at hk
    rw [List.any_eq_true] at hk
    obtain ⟨p, hp, he⟩ := hk
    obtain rfl := of_decide_eq_true he
    have := S2.out.puts p hp
    exact ⟨this.1, (hmem _).2 this.2⟩)
  have hmm := @run_makeMap Tryz.prog
  obtain ⟨A, n, c, fe, hfe, he, hn, hE⟩ : ∃ (A : Option Addr) (n c : Nat) (fe : Int), (fe = 15 ∨ fe = 0) ∧ e = .returned (.tuple #[.slice A n c, .int .i64 fe]) ∧ n ≤ c ∧ Ents w3 (fun b => w2.heap.size ≤ b) A n ((if fe = 15 then [] else L).map (entOf g P')) := by
    rcases hL with ⟨h1, rfl⟩ | ⟨A, c, rfl, h2, h3⟩
    · exact ⟨none, 0, 0, 15, .inl rfl, rfl, Nat.le_refl _, rfl, Reads.none_⟩
    · exact ⟨A, L.length, c, 0, .inr rfl, rfl, h2, by rw [if_neg (by decide)]; exact h3⟩
  subst he
  have HFE := Lib.hid hfe
  have HE := Lib.hid hE
  have HNC := Lib.hid hn
  have hn6 : (n : Int) ≤ 1120 := by
    have e1 := hE.1
    have e2 := loc_bound ND.out HIN.out
    rw [List.length_map] at e1
    split at e1
    · simp at e1; omega
    · omega
  clear hnd hmem hb hL hfe hE hn KE
  obtain ⟨W4, hW4⟩ : ∃ W, W = w3.alloc (.map #[] 0) := ⟨_, rfl⟩
  have b4 : Below w3.heap.size w3 W4 := by rw [hW4]; exact below_alloc _ _
  have NM := Lib.hid (show IntMap W4 w3.heap.size (fun _ => none) from by rw [hW4]; exact IntMap.made w3)
  have SZ4 := Lib.hid (show W4.heap.size = w3.heap.size + 1 from by rw [hW4]; exact World.size_alloc ..)
  have M4 := Lib.hid ((M2.out.below B3.out).below b4)
  have hm' : IsMap W4 (fun _ => True) (.map (some kb)) g.at := .inr ⟨kb, rfl, trivial, M4.out.lt, M4.out⟩
  have B4 := Lib.hid b4
  clear b4
  go_wp2_with (at_range; refine Hid.out ?_)
  refine Lib.hid ?_
  rw [← hW4]
  clear hW4 hmm
  refine wpList_range_mine rfl (.tmp 30) 35 rfl 51 96 Tryz.underlying35 (fun _ => True) (.map (some kb)) g.at rfl hm' fun x left hit hnd hkeys => ?_
  have hbx : Below W4.heap.size W4 (W4.alloc x) := below_alloc _ _
  have IT := Lib.hid hit
  have NDL := Lib.hid hnd
  have KEYS := Lib.hid (part_all hkeys)
  rw [SZ4.out] at IT ⊢
  have SZ5 := Lib.hid (show w3.heap.size + 2 ≤ (W4.alloc x).heap.size from by rw [World.size_alloc, SZ4.out]; exact Nat.le_refl _)
  obtain h0 := NM.out
  clear NM
  have NM := Lib.hid (h0.below hbx)
  clear h0
  obtain h0 := B4.out
  clear B4
  have B5 := Lib.hid (h0.trans (hbx.mono h0.size))
  clear h0 hm' hit hnd hkeys hbx SZ4 M4
  have HK3 := Lib.hid (show kb < w3.heap.size from Nat.lt_of_lt_of_le M2.out.lt B3.out.size)
  generalize W4.alloc x = W5 at *
  go_wp2
  try simp only [Act.put, List.setIfInBounds_toArray, List.set_cons_zero, List.set_cons_succ]
  go_loopw [11] (fun _ wr => ∃ left, Iter wr (w3.heap.size + 1) (.map (some kb)) g.at left ∧ left.Nodup ∧ IntMap wr w3.heap.size (part g.at left) ∧ Below w3.heap.size w3 wr ∧ w3.heap.size + 2 ≤ wr.heap.size) (fun _ wr => iterLeft wr (w3.heap.size + 1) (.map (some kb)))
  case atStart => exact ⟨left, IT.out, NDL.out, by rw [KEYS.out]; exact NM.out, B5.out, SZ5.out⟩
  case round =>
    clear IT NDL KEYS NM B5 SZ5
    obtain ⟨left2, hit, hnd, hnm, hbb, hsz⟩ := hrel
    have IT := Lib.hid hit
    have NDL := Lib.hid hnd
    have NM := Lib.hid hnm
    have BB := Lib.hid hbb
    have SZ := Lib.hid hsz
    clear hit hnd hnm hbb hsz
    go_wp2_with (at_next; refine Hid.out ?_)
    refine Lib.hid ?_
    refine wpList_next_mine rfl (.tmp 31) rfl (w3.heap.size + 1) (.map (some kb)) g.at left2 rfl IT.out (fun hleft => ?_) (fun k u w6 hk hf hent hit hgr hsz hlt => ?_)
    · subst hleft
      have NM2 := Lib.hid (show IntMap wr w3.heap.size (upM g P' []).at from by have := NM.out; rw [part_nil] at this; rw [upM_nil]; exact this)
      clear NM IT NDL
      go_wp2_with fail
      go_loopw [42] (fun v42 wr => ∃ j : Nat, v42 = .int .i64 j ∧ j ≤ n ∧ IntMap wr w3.heap.size (upM g P' ((if fe = 15 then [] else L).take j)).at ∧ Below w3.heap.size w3 wr) (fun v42 _ => n - (intOf v42).toNat)
      case atStart => exact ⟨0, rfl, Nat.zero_le _, NM2.out, BB.out⟩
      case round =>
        clear NM2 BB SZ
        obtain ⟨j, rfl, hj, hnm, hbb⟩ := hrel
        have NM := Lib.hid hnm
        have BB := Lib.hid hbb
        clear hnm hbb
        by_cases hlt : j < n
        · have hi2 : (j : Int) < (n : Int) := by omega
          obtain ⟨y, b, q, hy, hA, hbl, hS, hcell⟩ := HE.out.at j hlt
          subst hA
          obtain ⟨x, hx, rfl⟩ : ∃ x, (if fe = 15 then [] else L)[j]? = some x ∧ entOf g P' x = y := by
            rw [List.getElem?_map] at hy
            obtain ⟨x, h1, h2⟩ := Option.map_eq_some_iff.1 hy
            exact ⟨x, h1, h2⟩
          have hxL : x ∈ L := by
            have := List.mem_of_getElem? hx
            split at this
            · cases this
            · exact this
          have HINX := Lib.hid (HIN.out x hxL)
          have hfx := HF.out x HINX.out
          obtain ⟨va, hva⟩ : ∃ z, z = g.val x := ⟨_, rfl⟩
          obtain ⟨ve, hve⟩ : ∃ z, z = g.ver x := ⟨_, rfl⟩
          obtain ⟨nw, hnw⟩ : ∃ z, z = cur g P' x := ⟨_, rfl⟩
          obtain ⟨wb, hwb⟩ : ∃ z, z = wrt P' x := ⟨_, rfl⟩
          obtain ⟨f0, f1, f2, f3, f4, f5⟩ := hcell wr BB.out
          have f0' : wr.cell? ⟨b, q + j * 6, none⟩ = some (.int .i64 x) := f0
          have f1' : wr.cell? ⟨b, q + j * 6 + 1, none⟩ = some (.int .i64 va) := by rw [hva]; exact f1
          have f2' : wr.cell? ⟨b, q + j * 6 + 2, none⟩ = some (.int .u32 ve) := by rw [hve]; exact f2
          have f3' : wr.cell? ⟨b, q + j * 6 + 3, none⟩ = some (.int .u32 0) := f3
          have f4' : wr.cell? ⟨b, q + j * 6 + 4, none⟩ = some (.int .i64 nw) := by rw [hnw]; exact f4
          have f5' : wr.cell? ⟨b, q + j * 6 + 5, none⟩ = some (.bool wb) := by rw [hwb]; exact f5
          have HG := Lib.hid (show (g.at x).getD (wdV 0 0) = .agg #[.int .i64 va, .int .u32 ve, .int .u32 0] by unfold Mem.at; rw [if_pos HINX.out, hva, hve]; rfl)
          obtain ⟨ov, on, hov⟩ := upM_some g P' ((if fe = 15 then [] else L).take j) HINX.out
          have HOV := Lib.hid hov
          have TK := Lib.hid (show (if fe = 15 then [] else L).take (j + 1) = (if fe = 15 then [] else L).take j ++ [x] from by rw [List.take_add_one, hx]; rfl)
          have HST := Lib.hid (show wb = true → upd (upM g P' ((if fe = 15 then [] else L).take j)).at x (.agg #[.int .i64 nw, .int .u32 (ve + 1), .int .u32 0]) = (upM g P' ((if fe = 15 then [] else L).take (j + 1))).at from fun e => by rw [TK.out, hnw, hve]; exact upM_step HINX.out (by rw [← hwb]; exact e))
          have HSK := Lib.hid (show wb = false → (upM g P' ((if fe = 15 then [] else L).take j)).at = (upM g P' ((if fe = 15 then [] else L).take (j + 1))).at from fun e => by rw [TK.out]; exact upM_skip (by rw [← hwb]; exact e))
          have WV : IntKind.u32.wrap (ve + 1) = ve + 1 := wrap_u32' _ (by rw [hve]; omega) (by rw [hve]; omega)
          have hne := word_eqv va ve
          obtain ⟨W7, hW7⟩ : ∃ W, W = wr.alloc (.cells #[.int .i64 x, .int .i64 va, .int .u32 ve, .int .u32 0, .int .i64 nw, .bool wb] 101) := ⟨_, rfl⟩
          obtain ⟨W8, hW8⟩ : ∃ W, W = W7.alloc (.cells #[.int .i64 ov, .int .u32 on, .int .u32 0] 96) := ⟨_, rfl⟩
          have b7 : Below wr.heap.size wr W7 := by rw [hW7]; exact below_alloc _ _
          have b8 : Below W7.heap.size W7 W8 := by rw [hW8]; exact below_alloc _ _
          have EB7 := Lib.hid (show HB 101 W7 wr.heap.size #[.int .i64 x, .int .i64 va, .int .u32 ve, .int .u32 0, .int .i64 nw, .bool wb] from by rw [hW7]; exact HB.new _ _ _)
          have EB8 := Lib.hid (EB7.out.below b8)
          have NM7 := Lib.hid (NM.out.below b7)
          have NM8 := Lib.hid (NM7.out.below b8)
          have BB8 := Lib.hid ((BB.out.trans (b7.mono BB.out.size)).trans (b8.mono (Nat.le_trans BB.out.size b7.size)))
          have MK8 := Lib.hid ((M2.out.below B3.out).below (show Below w3.heap.size w3 W8 from BB8.out))
          have hlk : (Instr.lookup 35 (.map (some kb)) (.int .i64 x) false).run Tryz.prog W8 = .ok (.agg #[.int .i64 va, .int .u32 ve, .int .u32 0]) W8 := by
            have e := IsMap.look (P := Tryz.prog) (S := fun _ => True) (T := 35) (K := 51) (E := 96) (.inr ⟨kb, rfl, trivial, IntMap.lt MK8.out, MK8.out⟩) Tryz.underlying35 Tryz.underlying51 word_zero x false
            rw [if_neg (by simp), HG.out] at e
            exact e
          have x0 : W7.cell? ⟨wr.heap.size, 0, none⟩ = some (.int .i64 x) := EB7.out.cell 0
          have HLT := Lib.hid hlt
          clear hy hx hxL hfx hva hve hnw hwb f0 f1 f2 f3 f4 f5 hcell hbl hS hov b7 b8 BB NM hlt hj EB7
          go_upto_region 12 with fail
          rw [← hW7]
          clear hW7 f0' f1' f2' f3' f4' f5'
          go_upto_region 13 with (at_lookup; refine look_ok rfl _ _ 35 rfl 51 96 Tryz.underlying35 Tryz.underlying51 (wdV 0 0) word_zero w3.heap.size _ NM7.out rfl x rfl (.agg #[.int .i64 ov, .int .u32 on, .int .u32 0]) HOV.out ?_)
          rw [← hW8]
          clear hW8 x0
          have y0 : W8.cell? ⟨wr.heap.size, 0, none⟩ = some (.int .i64 x) := EB8.out.cell 0
          have y1 : W8.cell? ⟨wr.heap.size, 1, none⟩ = some (.int .i64 va) := EB8.out.cell 1
          have y2 : W8.cell? ⟨wr.heap.size, 2, none⟩ = some (.int .u32 ve) := EB8.out.cell 2
          have y3 : W8.cell? ⟨wr.heap.size, 3, none⟩ = some (.int .u32 0) := EB8.out.cell 3
          have y4 : W8.cell? ⟨wr.heap.size, 4, none⟩ = some (.int .i64 nw) := EB8.out.cell 4
          have y5 : W8.cell? ⟨wr.heap.size, 5, none⟩ = some (.bool wb) := EB8.out.cell 5
          cases wb with
          | false =>
            have HS1 := Lib.hid (HSK.out rfl)
            clear HST HSK
            go_wp2
            go_roundw
            case rel => exact ⟨j + 1, by go_num, HLT.out, by rw [← HS1.out]; exact NM8.out, BB8.out⟩
            case measure =>
              have := HLT.out
              show n - ((j + 1 : Nat) : Int).toNat < n - (j : Int).toNat
              omega
          | true =>
            have HS1 := Lib.hid (HST.out rfl)
            clear HST HSK
            go_wp2_with (at_mapUpdate; refine Hid.out ?_)
            refine Lib.hid ?_
            refine wpList_mapUpdate_mine rfl (.tmp 67) (.tmp 69) (.tmp 76) 35 rfl 51 96 Tryz.underlying35 Tryz.underlying51 w3.heap.size _ NM8.out rfl x rfl (.agg #[.int .i64 nw, .int .u32 (ve + 1), .int .u32 0]) rfl (fun w9 hm9 hg9 hs9 => ?_)
            rw [HS1.out] at hm9
            have FM := Lib.hid hm9
            have FB := Lib.hid (show Below w3.heap.size w3 w9 from BB8.out.trans ((KX.of_grown (X := fun b => b = w3.heap.size) hg9 fun k e => (Option.some.inj e).symm).below BB8.out.size (fun b hb => by omega)))
            clear hm9 hg9 hs9 y0 y1 y2 y3 y4 y5
            go_wp2
            go_roundw
            case rel => exact ⟨j + 1, by go_num, HLT.out, FM.out, FB.out⟩
            case measure =>
              have := HLT.out
              show n - ((j + 1 : Nat) : Int).toNat < n - (j : Int).toNat
              omega
        · have hi2 : ¬ (j : Int) < (n : Int) := by omega
          have hjn : j = (if fe = 15 then [] else L).length := by have := HE.out.1; rw [List.length_map] at this; omega
          have NM2 := Lib.hid (show IntMap wr w3.heap.size (upM g P' (if fe = 15 then [] else L)).at from by
            have e := NM.out
            rw [hjn, List.take_length] at e
            exact e)
          clear NM hj hlt hjn
          rcases HFE.out with rfl | rfl
          · obtain h0 := NM2.out
            clear NM2
            rw [if_pos rfl] at h0
            have NM2 := Lib.hid h0
            clear h0
            have SPW := Lib.hid ((S2.out.below B3.out).below BB.out)
            have KW := Lib.hid (writes_list SPW.out PL.out)
            go_wp2_with fail
            refine KW.out.mono ?_
            rintro e w6 ⟨A6, WL, c6, rfl, hc6, hr6, hm6, hl6, hb6⟩
            have RL := Lib.hid hr6
            have WMEM := Lib.hid hm6
            have NLT := Lib.hid NM2.out.lt
            have SP6 := Lib.hid (show SpE w6 (fun b => (w.heap.size ≤ b ∧ ¬ Y b) ∧ b < w3.heap.size) w.heap.size sb g P' from ⟨R, ((((S2.out.below B3.out).more (Y := fun b => (w.heap.size ≤ b ∧ ¬ Y b) ∧ b < w3.heap.size) fun b hb h => ⟨h, hb⟩).below BB.out).below hb6)⟩)
            have NM6 := Lib.hid (NM2.out.below hb6)
            have MK6 := Lib.hid (((M2.out.below B3.out).below BB.out).below hb6)
            have B6 := Lib.hid (BB.out.trans (hb6.mono BB.out.size))
            obtain ⟨m, hmm⟩ : ∃ z, z = WL.length := ⟨_, rfl⟩
            rw [← hmm] at hl6 hc6 RL ⊢
            have MM := Lib.hid hmm
            have hm9 : (m : Int) ≤ 100000 := by omega
            clear hc6 hr6 hm6 hl6 hb6 KW hmm SPW
            go_wp2_with fail
            go_loopw [83] (fun v83 wr => ∃ j : Nat, v83 = .int .i64 j ∧ j ≤ m ∧ IntMap wr w3.heap.size (upM g P' (WL.take j)).at ∧ SpE wr (fun b => (w.heap.size ≤ b ∧ ¬ Y b) ∧ b < w3.heap.size) w.heap.size sb g P' ∧ KX (fun b => ((w.heap.size ≤ b ∧ ¬ Y b) ∧ b < w3.heap.size) ∨ b = w3.heap.size) w6 wr ∧ IntMap wr kb g.at) (fun v83 _ => m - (intOf v83).toNat)
            case atStart => exact ⟨0, rfl, Nat.zero_le _, NM6.out, SP6.out, KX.refl _ _, MK6.out⟩
            case round =>
              obtain ⟨j, rfl, hj, hnm3, hsp3, hk3, hmk3⟩ := hrel
              have NM3 := Lib.hid hnm3
              have SP3 := Lib.hid hsp3
              have K3 := Lib.hid hk3
              have MK3 := Lib.hid hmk3
              clear hnm3 hsp3 hk3 hmk3
              by_cases hlt : j < m
              · have hi2 : (j : Int) < (m : Int) := by omega
                obtain ⟨x, hx⟩ : ∃ x, WL[j]? = some x := ⟨_, List.getElem?_eq_getElem (by have := MM.out; omega)⟩
                obtain ⟨b, q, hA, hbl, hS, hcell⟩ := RL.out.2 (by omega)
                subst hA
                have d0 : wr.cell? ⟨b, q + j, none⟩ = some (.int .i64 x) := (World.cell?_of_block (a := ⟨b, q + j, none⟩) (K3.out.block b hbl (fun h => by
                  have := BB.out.size
                  have := NLT.out
                  rcases h with h | h <;> omega))).trans (hcell j _ (by rw [List.getElem?_map, hx]; rfl))
                have HW := Lib.hid (WIN.out x ((WMEM.out x).1 (List.mem_of_getElem? hx)))
                have HWT := Lib.hid ((WMEM.out x).1 (List.mem_of_getElem? hx))
                have hfx := HF.out x HW.out.1
                obtain ⟨va, hva⟩ : ∃ z, z = g.val x := ⟨_, rfl⟩
                obtain ⟨ve, hve⟩ : ∃ z, z = g.ver x := ⟨_, rfl⟩
                obtain ⟨nw, hnw⟩ : ∃ z, z = cur g P' x := ⟨_, rfl⟩
                have WV : IntKind.u32.wrap (ve + 1) = ve + 1 := wrap_u32' _ (by rw [hve]; omega) (by rw [hve]; omega)
                have HST := Lib.hid (show upd (upM g P' (WL.take j)).at x (.agg #[.int .i64 nw, .int .u32 (ve + 1), .int .u32 0]) = (upM g P' (WL.take (j + 1))).at from by rw [List.take_add_one, hx, hnw, hve]; exact upM_step HW.out.1 HWT.out)
                have HG := Lib.hid (show (g.at x).getD (wdV 0 0) = .agg #[.int .i64 va, .int .u32 ve, .int .u32 0] by unfold Mem.at; rw [if_pos HW.out.1, hva, hve]; rfl)
                have HNW := Lib.hid hnw.symm
                have hf1 := word_field1
                have HLT := Lib.hid hlt
                clear hx hbl hS hcell hfx hva hve hnw hlt hj
                go_upto_region 22 with fail
                have hd := (Below.refl wr.heap.size wr).drew
                refine wp_region_held_drew (S := fun W => IntMap W kb g.at) (by kernel_rfl) (MK3.out.below hd) (fun hHeld => ?_)
                have SW := Lib.hid hHeld
                have SQ := Lib.hid (SP3.out.below hd)
                have NQ := Lib.hid (NM3.out.below hd)
                have KQ := Lib.hid (K3.out.trans (KX.of_below hd))
                clear hHeld hd SP3 NM3 K3 MK3 d0
                generalize wr.drew = wq at *
                refine wpAnyH_take (i := 0) (oi := ⟨some 87, _, _, _, _, _⟩) (v := .map (some w3.heap.size)) rfl (by kernel_rfl) (by kernel_rfl) (by kernel_rfl) (fun _ _ _ h => h) (Or.inl ⟨by rfl, ?_⟩) SW.out ?_
                · intro W' hW
                  go_simp
                try simp only [Act.put, List.setIfInBounds_toArray, List.set_cons_zero, List.set_cons_succ]
                refine wpAnyH_take (i := 1) (oi := ⟨some 88, _, _, _, _, _⟩) (v := .int .i64 x) rfl (by kernel_rfl) (by kernel_rfl) (by kernel_rfl) (fun _ _ _ h => h) (Or.inl ⟨by rfl, ?_⟩) SW.out ?_
                · intro W' hW
                  go_simp
                try simp only [Act.put, List.setIfInBounds_toArray, List.set_cons_zero, List.set_cons_succ]
                refine wpAnyH_take (i := 2) (oi := ⟨some 89, _, _, _, _, _⟩) (v := .pointer (some ⟨sb, 0, none⟩)) rfl (by kernel_rfl) (by kernel_rfl) (by kernel_rfl) (fun _ _ _ h => h) (Or.inl ⟨by rfl, ?_⟩) SW.out ?_
                · intro W' hW
                  go_simp
                try simp only [Act.put, List.setIfInBounds_toArray, List.set_cons_zero, List.set_cons_succ]
                refine wpAnyH_take (i := 3) (oi := ⟨some 90, _, _, _, _, _⟩) (v := .int .i64 x) rfl (by kernel_rfl) (by kernel_rfl) (by kernel_rfl) (fun _ _ _ h => h) (Or.inl ⟨by rfl, ?_⟩) SW.out ?_
                · intro W' hW
                  go_simp
                try simp only [Act.put, List.setIfInBounds_toArray, List.set_cons_zero, List.set_cons_succ]
                refine wpAnyH_take (i := 5) (oi := ⟨some 92, _, _, _, _, _⟩) (v := .map (some kb)) rfl (by kernel_rfl) (by kernel_rfl) (by kernel_rfl) (fun _ _ _ h => h) (Or.inl ⟨by rfl, ?_⟩) SW.out ?_
                · intro W' hW
                  go_simp
                try simp only [Act.put, List.setIfInBounds_toArray, List.set_cons_zero, List.set_cons_succ]
                refine wpAnyH_take (i := 6) (oi := ⟨some 93, _, _, _, _, _⟩) (v := .int .i64 x) rfl (by kernel_rfl) (by kernel_rfl) (by kernel_rfl) (fun _ _ _ h => h) (Or.inl ⟨by rfl, ?_⟩) SW.out ?_
                · intro W' hW
                  go_simp
                try simp only [Act.put, List.setIfInBounds_toArray, List.set_cons_zero, List.set_cons_succ]
                refine wpAnyH_take (i := 7) (oi := ⟨some 94, _, _, _, _, _⟩) (v := .agg #[.int .i64 va, .int .u32 ve, .int .u32 0]) rfl (by kernel_rfl) (by kernel_rfl) (by kernel_rfl) (fun _ _ _ h => h) (Or.inl ⟨by rfl, ?_⟩) SW.out ?_
                · intro W' hW
                  have hl : (Instr.lookup 35 (.map (some kb)) (.int .i64 x) false).run Tryz.prog W' = .ok (.agg #[.int .i64 va, .int .u32 ve, .int .u32 0]) W' := by
                    have e := IsMap.look (P := Tryz.prog) (S := fun _ => True) (T := 35) (K := 51) (E := 96) (.inr ⟨kb, rfl, trivial, IntMap.lt hW, hW⟩) Tryz.underlying35 Tryz.underlying51 word_zero x false
                    rw [if_neg (by simp), HG.out] at e
                    exact e
                  go_simp
                try simp only [Act.put, List.setIfInBounds_toArray, List.set_cons_zero, List.set_cons_succ]
                refine wpAnyH_take (i := 8) (oi := ⟨some 95, _, _, _, _, _⟩) (v := .int .u32 ve) rfl (by kernel_rfl) (by kernel_rfl) (by kernel_rfl) (fun _ _ _ h => h) (Or.inl ⟨by rfl, ?_⟩) SW.out ?_
                · intro W' hW
                  go_simp
                try simp only [Act.put, List.setIfInBounds_toArray, List.set_cons_zero, List.set_cons_succ]
                refine wpAnyH_take (i := 9) (oi := ⟨some 96, _, _, _, _, _⟩) (v := .int .u32 (ve + 1)) rfl (by kernel_rfl) (by kernel_rfl) (by kernel_rfl) (fun _ _ _ h => h) (Or.inl ⟨by rfl, ?_⟩) SW.out ?_
                · intro W' hW
                  go_simp
                try simp only [Act.put, List.setIfInBounds_toArray, List.set_cons_zero, List.set_cons_succ]
                refine wpAnyH_ready (rs := [4]) (by kernel_rfl) (by simp) ?_
                refine AllReadyH.cons (o := ⟨some 91, _, _, _, _, _⟩) rfl (fun K hK => ?_) AllReadyH.nil
                go_simp
                refine (sget SQ.out (by have := PL.out; omega) x nw HW.out.1 HNW.out).mono ?_
                rintro e w4 ⟨rfl, hs, hk⟩
                have SP4 := Lib.hid hs
                have NM4 := Lib.hid (NQ.out.keep (hk.block _ NQ.out.lt (fun h => by have := h.2; omega)))
                have K4 := Lib.hid (KQ.out.trans (hk.mono fun b _ h => .inl h))
                have SW4 := Lib.hid (show IntMap w4 kb g.at from IntMap.keep SW.out (hk.block _ (IntMap.lt SW.out) (fun h => by have := h.1.1; have := HKB.out; omega)))
                clear hs hk SQ NQ KQ
                refine hK.out _ _ SW4.out (fun hHeld => ?_)
                clear hK hHeld
                try simp only [Act.put, List.setIfInBounds_toArray, List.set_cons_zero, List.set_cons_succ]
                refine wpAnyH_take (i := 10) (oi := ⟨some 97, _, _, _, _, _⟩) (v := .agg #[.int .i64 nw, .int .u32 (ve + 1), .int .u32 0]) rfl (by kernel_rfl) (by kernel_rfl) (by kernel_rfl) (fun _ _ _ h => h) (Or.inl ⟨by rfl, ?_⟩) SW4.out ?_
                · intro W' hW
                  go_simp
                try simp only [Act.put, List.setIfInBounds_toArray, List.set_cons_zero, List.set_cons_succ]
                refine wpAnyH_ready (rs := [11]) (by kernel_rfl) (by simp) ?_
                refine AllReadyH.cons (o := ⟨none, _, _, _, _, _⟩) rfl (fun K hK => ?_) AllReadyH.nil
                refine step_mapUpdate (.tmp 87) (.tmp 88) (.tmp 97) rfl Tryz.underlying35 Tryz.underlying51 w3.heap.size _ NM4.out rfl x rfl (.agg #[.int .i64 nw, .int .u32 (ve + 1), .int .u32 0]) rfl (fun w5 hm5 hg5 hs5 => ?_)
                have hk5 : KX (fun b => b = w3.heap.size) w4 w5 := KX.of_grown hg5 fun k e => (Option.some.inj e).symm
                have SW5 := Lib.hid (show IntMap w5 kb g.at from IntMap.keep SW4.out (hk5.block _ (IntMap.lt SW4.out) (fun h => by have := HK3.out; omega)))
                rw [HST.out] at hm5
                have FM := Lib.hid hm5
                have FS := Lib.hid (SP4.out.kx hk5 (fun b _ h e => by have := h.2; omega))
                have FK := Lib.hid (K4.out.trans (hk5.mono fun b _ h => .inr h))
                refine hK.out _ _ SW5.out (fun hHeld => ?_)
                clear hK hHeld
                try simp only [Act.put, List.setIfInBounds_toArray, List.set_cons_zero, List.set_cons_succ]
                clear hm5 hg5 hs5 hk5 SW SW4 SP4 NM4 K4
                refine wpAnyH_done (by kernel_rfl) ?_ _
                go_wp2_with fail
                go_roundw
                case rel => exact ⟨j + 1, by go_num, HLT.out, FM.out, FS.out, FK.out, SW5.out⟩
                case measure =>
                  have := HLT.out
                  show m - ((j + 1 : Nat) : Int).toNat < m - (j : Int).toNat
                  omega
              · have hi2 : ¬ (j : Int) < (m : Int) := by omega
                have hjm : j = WL.length := by have := MM.out; omega
                have NMX := Lib.hid (show IntMap wr w3.heap.size (nextM g P').at from by
                  have e := NM3.out
                  rw [hjm, List.take_length, upM_all (fun k hk => (WMEM.out k).2 hk)] at e
                  exact e)
                obtain ⟨R3, hsp⟩ := SP3.out
                have SPX := Lib.hid hsp
                have BWX := Lib.hid (show KX (fun b => w.heap.size ≤ b ∧ ¬ Y b) w2 wr from (KX.of_below B3.out).trans (((KX.of_below B6.out).mono fun b _ h => h).trans (K3.out.mono fun b _ h => by
                  have h1 := K2.out.size
                  have h2 := B3.out.size
                  rcases h with h | h
                  · exact h.1
                  · exact ⟨by omega, fun hy => by have := HY.out b hy; omega⟩)))
                clear hj hlt hjm NM3 SP3 K3 hsp
                have KEN := Lib.hid (ended_any SPX.out)
                go_wp2_with fail
                refine KEN.out.mono ?_
                rintro e wz ⟨rfl, hw⟩
                subst hw
                go_wp2
                go_ret3
                exact ⟨w3.heap.size, _, P', Y, rfl, Nat.le_trans K2.out.size B3.out.size, NMX.out, HT.out _ _ _ _ T2.out BWX.out, K2.out.trans (BWX.out.mono fun b _ h => .inr h.1)⟩
          · obtain h0 := NM2.out
            clear NM2
            rw [if_neg (by decide)] at h0
            have NM2 := Lib.hid h0
            clear h0
            have NMX := Lib.hid (show IntMap wr w3.heap.size (nextM g P').at from by
              have e := NM2.out
              rw [upM_all (fun k hk => (WIN.out k hk).2)] at e
              exact e)
            have SPX := Lib.hid ((S2.out.below B3.out).below BB.out)
            have BWX := Lib.hid (show KX (fun b => w.heap.size ≤ b ∧ ¬ Y b) w2 wr from (KX.of_below B3.out).trans (KX.of_below BB.out))
            have KEN := Lib.hid (ended_any SPX.out)
            go_wp2_with fail
            refine KEN.out.mono ?_
            rintro e wz ⟨rfl, hw⟩
            subst hw
            go_wp2
            go_ret3
            exact ⟨w3.heap.size, _, P', Y, rfl, Nat.le_trans K2.out.size B3.out.size, NMX.out, HT.out _ _ _ _ T2.out BWX.out, K2.out.trans (BWX.out.mono fun b _ h => .inr h.1)⟩
    · obtain ⟨hin, rfl⟩ := at_some hf
      obtain ⟨W7, hW7⟩ : ∃ W, W = w6.alloc (.cells #[.int .i64 (g.val k), .int .u32 (g.ver k), .int .u32 0] 96) := ⟨_, rfl⟩
      have b7 : Below w6.heap.size w6 W7 := by rw [hW7]; exact below_alloc _ _
      have k67 : KX (fun b => b = w3.heap.size + 1) wr W7 := (KX.of_grown hgr fun k e => (Option.some.inj e).symm).trans (KX.of_below b7)
      have d0 : W7.cell? ⟨w6.heap.size, 0, none⟩ = some (.int .i64 (g.val k)) := by rw [hW7]; exact (HB.new _ _ _).cell 0
      have d1 : W7.cell? ⟨w6.heap.size, 1, none⟩ = some (.int .u32 (g.ver k)) := by rw [hW7]; exact (HB.new _ _ _).cell 1
      have d2 : W7.cell? ⟨w6.heap.size, 2, none⟩ = some (.int .u32 0) := by rw [hW7]; exact (HB.new _ _ _).cell 2
      have NM7 := Lib.hid (NM.out.keep (k67.block _ NM.out.lt (by omega)))
      have IT7 := Lib.hid (hit.kx (X := fun _ => False) (KX.of_below b7) (by rw [hsz]; have := SZ.out; omega) (by rw [hsz]; have := SZ.out; have := HK3.out; omega) (fun h => h) (fun h => h))
      have BB7 := Lib.hid (show Below w3.heap.size w3 W7 from BB.out.trans (k67.below BB.out.size (fun b hb => by omega)))
      have SZ7 := Lib.hid (show w3.heap.size + 2 ≤ W7.heap.size from Nat.le_trans SZ.out k67.size)
      have HPS := Lib.hid (part_step NDL.out hf)
      have NDE := Lib.hid (NDL.out.erase k)
      have HLT := Lib.hid hlt
      clear hk hf hit hgr hsz hlt hin b7 k67 IT NDL NM BB SZ
      go_upto_region 8 with fail
      rw [← hW7]
      clear hW7 hent
      go_wp2_with (at_mapUpdate; refine Hid.out ?_)
      refine Lib.hid ?_
      refine wpList_mapUpdate_mine rfl (.tmp 37) (.tmp 38) (.tmp 39) 35 rfl 51 96 Tryz.underlying35 Tryz.underlying51 w3.heap.size _ NM7.out rfl k rfl (.agg #[.int .i64 (g.val k), .int .u32 (g.ver k), .int .u32 0]) rfl (fun w8 hm8 hg8 hs8 => ?_)
      have hk8 : KX (fun b => b = w3.heap.size) W7 w8 := KX.of_grown hg8 fun k e => (Option.some.inj e).symm
      rw [HPS.out] at hm8
      have FIT := Lib.hid (IT7.out.1.kx hk8 (by have := SZ7.out; omega) (by have := SZ7.out; have := HK3.out; omega) (by omega) (by have := HK3.out; omega))
      have FM := Lib.hid hm8
      have FB := Lib.hid (show Below w3.heap.size w3 w8 from BB7.out.trans (hk8.below BB7.out.size (fun b hb => by omega)))
      have FZ := Lib.hid (show w3.heap.size + 2 ≤ w8.heap.size from by rw [hs8]; exact SZ7.out)
      have FLT := Lib.hid (show iterLeft w8 (w3.heap.size + 1) (.map (some kb)) < iterLeft wr (w3.heap.size + 1) (.map (some kb)) from by rw [FIT.out.2, IT7.out.2]; exact HLT.out)
      clear hm8 hg8 hs8 hk8 HLT IT7 NM7 BB7 SZ7 d0 d1 d2
      go_wp2
      go_roundw
      case rel =>
        (repeat apply Exists.intro)
        exact ⟨⟨left2.erase k, FIT.out.1, NDE.out, FM.out, FB.out, FZ.out⟩, rfl⟩
      case measure => exact FLT.out
end Go.Proofs.YtkloaopjlbinpaaGreat
