/- The walk of entry.Merge: the parts. Conditions: at most 1000 entries; the entries' numbers are of their kinds. -/
import Derived.Test.YtilapnejkdgomaaDoorMgH
set_option linter.unusedVariables false
set_option linter.unusedSimpArgs false
namespace Go.Proofs.YtilapnejkdgomaaDoor
open Go.RowKit

theorem OwnE.below {w w' : World} {base : Nat} {v : Value} {L : List Ent} (h : OwnE w base v L) (hb : Below w.heap.size w w') : OwnE w' base v L :=
  World.ownsRow.kept (row := none) h ⟨hb.os, hb.tape, hb.output, hb.size, fun k hk _ => hb.block k hk⟩ (by cases hv : v.ownBlock <;> simp)
theorem OwnE.mono {w : World} {base base' : Nat} {v : Value} {L : List Ent} (h : OwnE w base v L) (hb : base' ≤ base) : OwnE w base' v L := ⟨h.1, h.2.imp id fun ⟨g, cap, cur, hv, h1, rest⟩ => ⟨g, cap, cur, hv, Nat.le_trans hb h1, rest⟩⟩
theorem OwnE.shift {w w' : World} {base : Nat} {v u : Value} {L : List Ent} (h : OwnE w base v L) (hg : w.grownBy w' u.ownBlock) (hne : v.ownBlock = none ∨ v.ownBlock ≠ u.ownBlock) : OwnE w' base v L := World.ownsRow.kept h hg hne
theorem OwnE.slice {w : World} {base : Nat} {v : Value} {L : List Ent} (h : OwnE w base v L) : ∃ A n c, v = .slice A n c ∧ n = L.length ∧ (A = none → n = 0 ∧ c = 0) ∧ n ≤ c ∧ (0 < n → ∃ g, A = some ⟨g, 0, none⟩) := by
  rcases h.2 with ⟨h1, h2⟩ | ⟨g, cap, cur, h1, hbg, hg, hnc, hm, hs, ht⟩
  · exact ⟨none, 0, 0, h1, h2.symm, fun _ => ⟨rfl, rfl⟩, Nat.le_refl _, fun h => absurd h (by omega)⟩
  · exact ⟨some ⟨g, 0, none⟩, L.length, cap, h1, rfl, fun h => (by cases h), hnc, fun _ => ⟨g, rfl⟩⟩
/-- BinarySearchFunc in a row of the call's own. -/
theorem bs_own {base n c : Nat} {A : Option Addr} (L : List Ent) (x : Ent) (w : World) (h : OwnE w base (.slice A n c) L) (h1 : L.length ≤ 1000) (hA : Asc Ent.loc L) :
    Calls Tryd.prog 36 #[.slice A n c, entV x, .func (.func 37) #[] #[]] w fun e w' => e = .returned (.tuple #[.int .i64 (low x L), .bool (has x L)]) ∧ Below w.heap.size w w' := by
  obtain ⟨A', n', c', e, hn, _, _, hs⟩ := h.slice
  injection e with e1 e2 e3
  subst e1 e2 e3
  rcases Nat.eq_zero_or_pos n with h0 | h0
  · have hl : L = [] := List.eq_nil_of_length_eq_zero (by omega)
    subst hl
    obtain rfl : n = 0 := h0
    exact bs_none A c x w
  · obtain ⟨g, rfl⟩ := hs h0
    exact bs_any g n c L x w h.er hn.symm (by omega) hA

set_option maxRecDepth 100000 in
set_option maxHeartbeats 12800000 in
theorem merge_bad1 {S T : Nat → Prop} (A B : Option Addr) (n c m d : Nat) (a b : List Ent) (w : World) (ha : Ents w S A n a) (hb : Ents w T B m b) (hoa : ∀ e ∈ a, EntOk e) (hn : n ≤ 1000) (hc : n ≤ c) (hbad : chk0 a ≠ 0) :
    Calls Tryd.prog 15 #[.slice A n c, .slice B m d] w fun e w' => e = .returned (.tuple #[.slice none 0 0, .int .i64 (chk0 a)]) ∧ Below w.heap.size w w' := by
  have hb0 : Below w.heap.size w (w.alloc (.cells #[.slice A n c, .slice B m d] 22)) := (Below.refl _ _).alloc (Nat.le_refl _) _
  have C1 := Lib.hid (checked_any A n c a _ (ha.below hb0) hoa (by omega) hc)
  have HB0 := Lib.hid hb0
  obtain ⟨r, hr⟩ : ∃ r, r = chk0 a := ⟨_, rfl⟩
  rw [← hr] at C1 hbad ⊢
  have k1 : (r == 0) = false := beq_eq_false_iff_ne.2 hbad
  have k2 : (r != 0) = true := by rw [bne, k1]; rfl
  clear ha hb hoa hb0 hr
  go_enter Tryd.func15, Tryd.ntmps15
  go_wp2_with fail
  refine wp_loop_rounds 1 ?_
  rw [rounds_succ]
  go_wp2_with fail
  refine C1.out.mono ?_
  rintro e w1 ⟨rfl, hb⟩
  have HB1 := Lib.hid (HB0.out.trans (hb.mono HB0.out.size))
  clear hb
  go_wp2
  go_ret2
  exact ⟨rfl, HB1.out⟩

set_option maxRecDepth 100000 in
set_option maxHeartbeats 12800000 in
theorem merge_bad2 {S T : Nat → Prop} (A B : Option Addr) (n c m d : Nat) (a b : List Ent) (w : World) (ha : Ents w S A n a) (hb : Ents w T B m b) (hoa : ∀ e ∈ a, EntOk e) (hob : ∀ e ∈ b, EntOk e) (hn : n ≤ 1000) (hc : n ≤ c) (hm : m ≤ 1000) (hd : m ≤ d) (hg : chk0 a = 0) (hbad : chk0 b ≠ 0) :
    Calls Tryd.prog 15 #[.slice A n c, .slice B m d] w fun e w' => e = .returned (.tuple #[.slice none 0 0, .int .i64 (chk0 b)]) ∧ Below w.heap.size w w' := by
  have hb0 : Below w.heap.size w (w.alloc (.cells #[.slice A n c, .slice B m d] 22)) := (Below.refl _ _).alloc (Nat.le_refl _) _
  have C1 := Lib.hid (checked_any A n c a _ (ha.below hb0) hoa (by omega) hc)
  have HB0 := Lib.hid hb0
  have C2 := Lib.hid (fun w1 (h : Below w.heap.size w w1) => checked_any B m d b w1 (hb.below h) hob (by omega) hd)
  rw [hg] at C1
  have x0 : (w.alloc (.cells #[.slice A n c, .slice B m d] 22)).cell? ⟨w.heap.size, 1, none⟩ = some (.slice B m d) := by rw [World.cell?_alloc_at _ _ _ _ rfl]; rfl
  have X0 := Lib.hid x0
  obtain ⟨r, hr⟩ : ∃ r, r = chk0 b := ⟨_, rfl⟩
  rw [← hr] at C2 hbad ⊢
  have k1 : (r == 0) = false := beq_eq_false_iff_ne.2 hbad
  have k2 : (r != 0) = true := by rw [bne, k1]; rfl
  clear ha hb hoa hob hb0 hr hg x0
  go_enter Tryd.func15, Tryd.ntmps15
  go_wp2_with fail
  refine wp_loop_rounds 2 ?_
  rw [rounds_succ]
  go_wp2_with fail
  refine C1.out.mono ?_
  rintro e w1 ⟨rfl, hb⟩
  have HB1 := Lib.hid (HB0.out.trans (hb.mono HB0.out.size))
  have x1 : w1.cell? ⟨w.heap.size, 1, none⟩ = some (.slice B m d) := cell_later hb X0.out
  clear hb
  go_wp2
  rw [rounds_succ]
  go_wp2_with fail
  refine (C2.out w1 HB1.out).mono ?_
  rintro e w2 ⟨rfl, hb⟩
  have HB2 := Lib.hid (HB1.out.trans (hb.mono HB1.out.size))
  clear hb
  go_wp2
  go_ret2
  exact ⟨rfl, HB2.out⟩
theorem yields_w {ops : Array Oper} {S : World → Prop} {op : Oper} {a : Act} {x : Ent} (hw : Region.wanted op (yielded ops a.tmps) = true) (p : Operand) (ho : op.op = .load 37 p) (q : Nat) (hx : a.eval p = .pointer (some ⟨q, 1, none⟩))
    (hS : ∀ W, S W → ER W q [x]) : YieldsIf Tryd.prog ops S op (.agg #[.int .i64 x.val, .int .u32 x.ver, .int .u32 x.ref]) a :=
  yieldsIf_load_mid hw _ p ho q 1 hx [.int .i64 x.val, .int .u32 x.ver, .int .u32 x.ref] _ (fun w h j v hv => by
    have hj : j < 3 := (List.getElem?_eq_some_iff.1 hv).1
    have := (hS w h).get 0 (by simp) (1 + j) v (by
      rcases j with _ | _ | _ | j
      · exact hv
      · exact hv
      · exact hv
      · omega)
    rwa [Nat.zero_mul, Nat.zero_add] at this) Tryd.underlying37 rfl Tryd.size37
set_option maxRecDepth 100000 in
set_option maxHeartbeats 12800000 in
theorem merge_good {S T : Nat → Prop} (A B : Option Addr) (n c m d : Nat) (a b : List Ent) (w : World) (ha : Ents w S A n a) (hb : Ents w T B m b) (hoa : ∀ e ∈ a, EntOk e) (hob : ∀ e ∈ b, EntOk e) (hn : n ≤ 60) (hc : n ≤ c) (hm : m ≤ 60) (hd : m ≤ d) (hAn : A = none → n = 0 ∧ c = 0) (hBn : B = none → m = 0 ∧ d = 0) (hg : chk0 a = 0) (hg2 : chk0 b = 0) :
    Calls Tryd.prog 15 #[.slice A n c, .slice B m d] w fun e w' => (mrgL (srt Ent.loc a) (srt Ent.loc b) = none ∧ e = .returned (.tuple #[.slice none 0 0, .int .i64 14]) ∨ ∃ o, mrgL (srt Ent.loc a) (srt Ent.loc b) = some o ∧ (32 < o.length ∧ e = .returned (.tuple #[.slice none 0 0, .int .i64 15]) ∨ o.length ≤ 32 ∧ ∃ v, e = .returned (.tuple #[v, .int .i64 0]) ∧ OwnE w' w.heap.size v o)) ∧ Below w.heap.size w w' := by
  have hb0 : Below w.heap.size w (w.alloc (.cells #[.slice A n c, .slice B m d] 22)) := (Below.refl _ _).alloc (Nat.le_refl _) _
  have C1 := Lib.hid (checked_any A n c a _ (ha.below hb0) hoa (by omega) hc)
  have HB0 := Lib.hid hb0
  have C2 := Lib.hid (fun w1 (h : Below w.heap.size w w1) => checked_any B m d b w1 (hb.below h) hob (by omega) hd)
  have C3 := Lib.hid (fun w1 (h : Below w.heap.size w w1) => sort_any A n c a w1 (ha.below h) hn hAn)
  have C4 := Lib.hid (fun w1 (h : Below w.heap.size w w1) => sort_any B m d b w1 (hb.below h) hm hBn)
  rw [hg] at C1
  rw [hg2] at C2
  obtain ⟨SA, hSA⟩ : ∃ SA, SA = srt Ent.loc a := ⟨_, rfl⟩
  obtain ⟨SB, hSB⟩ : ∃ SB, SB = srt Ent.loc b := ⟨_, rfl⟩
  rw [← hSA] at C3
  rw [← hSB] at C4
  rw [← hSA, ← hSB]
  have HSB := Lib.hid (show SB.length ≤ 60 by rw [hSB, srt_length]; have := hb.1; omega)
  have HSA := Lib.hid (show SA.length ≤ 60 by rw [hSA, srt_length]; have := ha.1; omega)
  have HKA := Lib.hid (show ∀ e ∈ SA, EntOk e from fun e he => hoa e (((srt_sts Ent.loc a).mem Ent.loc e).1 (hSA ▸ he)))
  have HKB := Lib.hid (show ∀ e ∈ SB, EntOk e from fun e he => hob e (((srt_sts Ent.loc b).mem Ent.loc e).1 (hSB ▸ he)))
  have HAA := Lib.hid (show Asc Ent.loc SA from hSA ▸ (srt_sts Ent.loc a).1)
  clear hSA hSB ha hb hoa hob hn hc hm hd hAn hBn
  have x0 : (w.alloc (.cells #[.slice A n c, .slice B m d] 22)).cell? ⟨w.heap.size, 1, none⟩ = some (.slice B m d) := by rw [World.cell?_alloc_at _ _ _ _ rfl]; rfl
  have X0 := Lib.hid x0
  clear hb0 hg hg2 x0
  go_enter Tryd.func15, Tryd.ntmps15
  go_wp2_with fail
  refine wp_loop_rounds 3 ?_
  rw [rounds_succ]
  go_wp2_with fail
  refine C1.out.mono ?_
  rintro e w1 ⟨rfl, hb⟩
  have HB1 := Lib.hid (HB0.out.trans (hb.mono HB0.out.size))
  have x1 : w1.cell? ⟨w.heap.size, 1, none⟩ = some (.slice B m d) := cell_later hb X0.out
  clear hb
  go_wp2
  rw [rounds_succ]
  go_wp2_with fail
  refine (C2.out w1 HB1.out).mono ?_
  rintro e w2 ⟨rfl, hb⟩
  have HB2 := Lib.hid (HB1.out.trans (hb.mono HB1.out.size))
  clear hb x1
  go_wp2
  rw [rounds_succ]
  go_wp2_with fail
  refine (C3.out w2 HB2.out).mono ?_
  rintro e w3 ⟨va, rfl, ho, hb⟩
  have HB3 := Lib.hid (HB2.out.trans (hb.mono HB2.out.size))
  have HOA := Lib.hid (show OwnE w3 w.heap.size va SA from OwnE.mono ho HB2.out.size)
  clear hb ho
  go_wp2_with fail
  refine (C4.out w3 HB3.out).mono ?_
  rintro e w4 ⟨vb, rfl, ho, hb⟩
  have HB4 := Lib.hid (HB3.out.trans (hb.mono HB3.out.size))
  have HOA4 := Lib.hid (HOA.out.below hb)
  have HOB := Lib.hid ho
  have HLA := Lib.hid (show ∀ k, va.ownBlock = some k → k < w3.heap.size from fun k h => (HOA.out.lt k h).2)
  clear hb ho HOA
  obtain ⟨Bb, mb, db, rfl, hmb, hBb, hdb, hgb⟩ := HOB.out.slice
  go_wp2_with fail
  have HNE := Lib.hid (show ∀ k, va.ownBlock = some k → (Value.slice Bb mb db).ownBlock ≠ some k from fun k h1 h2 => by
    have a1 : w3.heap.size ≤ k := (HOB.out.lt k h2).1
    have : k < w3.heap.size := HLA.out k h1
    omega)
  clear C1 C2 C3 C4 X0
  subst hmb
  go_loopw [9, 33] (fun vv ii wr => ∃ (k : Nat) (o : List Ent), k ≤ SB.length ∧ ii = .int .i64 k ∧ Hid (Asc Ent.loc o) ∧ Hid (o.length ≤ 60 + k) ∧ Hid (∀ e ∈ o, EntOk e) ∧ Hid (mrgL SA SB = mrgL o (SB.drop k)) ∧ Hid (OwnE wr w.heap.size vv o) ∧ Hid (OwnE wr w3.heap.size (.slice Bb SB.length db) SB) ∧ Hid (Below w.heap.size w wr) ∧ Hid (∀ k, vv.ownBlock = some k → (Value.slice Bb SB.length db).ownBlock ≠ some k)) (fun vv ii _ => SB.length - (intOf ii).toNat)
  case atStart => exact ⟨0, SA, Nat.zero_le _, rfl, HAA, Lib.hid (by have := HSA.out; omega), HKA, Lib.hid rfl, HOA4, HOB, HB4, HNE⟩
  case round =>
    clear HAA HSA HKA HOA4 HOB HB4 HNE
    obtain ⟨k, o, hk, rfl, HAS, HLE, HOK, HM, HO, HOB, HB, HNE⟩ := hrel
    by_cases hlt : k < SB.length
    · skip
      obtain ⟨gb, rfl⟩ := hgb (by omega)
      have hents := HOB.out.er.ents (S := fun _ => True) trivial
      obtain ⟨x, bq, oq, hx, he, hbb, _, hcell⟩ := hents.at k hlt
      injection he with he
      injection he with he1 he2
      subst he1 he2
      obtain ⟨f0, f1, f2, f3, f4, f5⟩ := hcell wr (Below.refl _ _)
      simp only [Nat.zero_add] at f0 f1 f2 f3 f4 f5
      have HX := Lib.hid hx
      obtain ⟨Av, nv, cv, rfl, hnv, hAv, hcv, hgv⟩ := HO.out.slice
      subst hnv
      have hba : Below wr.heap.size wr (wr.alloc (entO x)) := (Below.refl _ _).alloc (Nat.le_refl _) _
      have C5 := Lib.hid (bs_own o x _ (HO.out.below hba) (by have := HLE.out; have := HSB.out; omega) HAS.out)
      have HBX := Lib.hid (EBox.new (w := wr) (e := x))
      have HBA := Lib.hid hba
      have HI := Lib.hid hlt
      have hki : (k : Int) < (SB.length : Int) := by omega
      have hkb : (SB.length : Int) ≤ 60 := by have := HSB.out; omega
      have hkd : (k : Int) ≤ (db : Int) := by omega
      obtain ⟨g0, g1, g2, g3, g4, g5⟩ := EBox.all (EBox.new (w := wr) (e := x))
      clear hents hx hcell hba hlt
      unfold entV entO at C5
      unfold entO at g0 g1 g2 g3 g4 g5
      go_wp2_with fail
      refine C5.out.mono ?_
      rintro e w5 ⟨rfl, hb⟩
      have HB5 := Lib.hid hb
      have HX5 := Lib.hid (HBX.out.below HB5.out)
      have HW5 := Lib.hid (HBA.out.trans (hb.mono HBA.out.size))
      clear hb C5 g0 g1 g2 g3 g4 g5 f0 f1 f2 f3 f4 f5
      obtain ⟨g0, g1, g2, g3, g4, g5⟩ := EBox.all HX5.out
      cases hh : has x o with
      | false =>
        have hS := Lib.hid (show mIns o x = some (o.take (low x o) ++ x :: o.drop (low x o)) by unfold mIns; rw [if_neg (by rw [hh]; simp)])
        have HO5 := Lib.hid (HO.out.below HW5.out)
        have hb6 : Below w5.heap.size w5 (w5.alloc (entO x)) := (Below.refl _ _).alloc (Nat.le_refl _) _
        have C6 := Lib.hid (ins_any w.heap.size o.length cv (low x o) w5.heap.size Av o x _ (HO5.out.below hb6) EBox.new (fun e => by have := (HO5.out.lt _ e).2; omega) (by have := HB.out.size; have := HW5.out.size; have := hb6.size; omega) (low_le x o) (by have := HLE.out; have := HSB.out; have := HI.out; omega))
        have HB6 := Lib.hid hb6
        clear hb6
        unfold entO at C6
        go_wp2_with fail
        refine C6.out.mono ?_
        rintro e w6 ⟨v6, rfl, ho6, hg6, hv6⟩
        have HO6 := Lib.hid ho6
        have HG6 := Lib.hid hg6
        have HV6 := Lib.hid hv6
        clear ho6 hg6 hv6 C6
        go_wp2
        go_roundw
        case rel =>
          have hlt := HI.out
          obtain ⟨_, hxe⟩ := List.getElem?_eq_some_iff.1 HX.out
          have hxm : x ∈ SB := List.mem_of_getElem? HX.out
          have s5 := HW5.out.size
          have s6 := HB6.out.size
          have sw := HB.out.size
          have hgb : gb < wr.heap.size := (HOB.out.lt gb rfl).2
          have hE6 : (w5.alloc (entO x)).heap.size = w5.heap.size + 1 := by simp
          have hB6 := (HB.out.trans (HW5.out.mono sw)).trans (HB6.out.mono (by omega))
          exact ⟨k + 1, o.take (low x o) ++ x :: o.drop (low x o), by omega, rfl, Lib.hid (mIns_asc HAS.out hS.out), Lib.hid (by have := mIns_length hS.out; have := HLE.out; omega),
            Lib.hid (fun e he => by
              rcases List.mem_append.1 he with h | h
              · exact HOK.out e (List.mem_of_mem_take h)
              · rcases List.mem_cons.1 h with rfl | h
                · exact HKB.out _ hxm
                · exact HOK.out e (List.mem_of_mem_drop h)),
            Lib.hid (by rw [HM.out, List.drop_eq_getElem_cons hlt, hxe, mrgL_some hS.out]), HO6,
            Lib.hid (((HOB.out.below HW5.out).below HB6.out).shift HG6.out (.inr (fun e => HNE.out gb e.symm rfl))),
            Lib.hid (hB6.grown HG6.out (by omega) (fun j hj => (HO5.out.lt j hj).1)),
            Lib.hid (fun j hj e => by
              have ej : gb = j := Option.some.inj e
              rcases HV6.out with h | h
              · rw [h] at hj; exact HNE.out j hj e
              · rw [h] at hj; have h7 : (w5.alloc (entO x)).heap.size = j := Option.some.inj hj; rw [hE6] at h7; omega)⟩
        case measure => have := HI.out; show SB.length - ((k : Int) + 1).toNat < SB.length - ((k : Int)).toNat; omega
      | true =>
        have hL := low_le x o
        obtain ⟨y, hy⟩ : ∃ y, o[low x o]? = some y := by
          unfold has at hh
          split at hh
          · next y hy => exact ⟨y, hy⟩
          · cases hh
        have HY := Lib.hid hy
        have hlo : low x o < o.length := (List.getElem?_eq_some_iff.1 hy).1
        obtain ⟨go, rfl⟩ := hgv (by omega)
        have hloi : (low x o : Int) < (o.length : Int) := by omega
        clear hy hL
        have HNEX := Lib.hid (show go ≠ wr.heap.size from fun e => by have : go < wr.heap.size := (HO.out.lt go rfl).2; omega)
        have HEo := Lib.hid ((HO.out.below HW5.out).er)
        have HEx := Lib.hid (ER.box HX5.out)
        have C7 := Lib.hid (fun W => leaves_any y W (HOK.out y (List.mem_of_getElem? HY.out)))
        obtain ⟨lv, hlv⟩ : ∃ lv, lv = leafV y := ⟨_, rfl⟩
        obtain ⟨ln, hln⟩ : ∃ ln, ln = leafN y := ⟨_, rfl⟩
        have HLV := Lib.hid (And.intro hlv hln)
        rw [← hlv, ← hln] at C7
        clear hlv hln
        by_cases hm : lv = x.val ∧ ln = x.ver ∧ x.ref = 0
        · obtain ⟨q1, q2, q3⟩ := hm
          rw [q1, q2] at C7
          have HM3 := Lib.hid (show mIns o x = some (o.set (low x o) (onto y x)) by unfold mIns; rw [if_pos hh, HY.out]; simp only; rw [if_pos ⟨HLV.out.1 ▸ q1, HLV.out.2 ▸ q2, q3⟩])
          clear q1 q2
          go_wp2_with fail
          refine wp_region_held_drew (S := fun W => ER W go o ∧ ER W wr.heap.size [x]) (by kernel_rfl) ⟨HEo.out.drew, HEx.out.drew⟩ (fun hHeld => ?_)
          have E0 := Lib.hid (show (fun W => ER W go o ∧ ER W wr.heap.size [x]) w5.drew from ⟨HEo.out.drew, HEx.out.drew⟩)
          have K0 := Lib.hid (show Below w5.heap.size w5 w5.drew from (Below.refl _ _).drew)
          clear hHeld
          generalize w5.drew = v0 at *
          refine wpAnyH_take (i := 0) (oi := ⟨some 71, _, _, _, _, _⟩) (v := .slice (some ⟨go, 0, none⟩) o.length cv) rfl (by kernel_rfl) (by kernel_rfl) (by kernel_rfl) (fun _ _ _ h => h) (Or.inl ⟨by rfl, ?_⟩) E0.out ?_
          · intro W' hW
            go_simp
          try simp only [Act.put, List.setIfInBounds_toArray, List.set_cons_zero, List.set_cons_succ]
          refine wpAnyH_take (i := 1) (oi := ⟨some 72, _, _, _, _, _⟩) (v := .int .i64 (low x o : Int)) rfl (by kernel_rfl) (by kernel_rfl) (by kernel_rfl) (fun _ _ _ h => h) (Or.inl ⟨by rfl, ?_⟩) E0.out ?_
          · intro W' hW
            go_simp
          try simp only [Act.put, List.setIfInBounds_toArray, List.set_cons_zero, List.set_cons_succ]
          refine wpAnyH_take (i := 2) (oi := ⟨some 73, _, _, _, _, _⟩) (v := .pointer (some ⟨go, low x o * 6, none⟩)) rfl (by kernel_rfl) (by kernel_rfl) (by kernel_rfl) (fun _ _ _ h => h) (Or.inl ⟨by rfl, ?_⟩) E0.out ?_
          · intro W' hW
            go_simp
          try simp only [Act.put, List.setIfInBounds_toArray, List.set_cons_zero, List.set_cons_succ]
          refine wpAnyH_take (i := 3) (oi := ⟨some 74, _, _, _, _, _⟩) (v := entV y) rfl (by kernel_rfl) (by kernel_rfl) (by kernel_rfl) (fun _ _ _ h => h) (yields_e (by rfl) (.tmp 73) rfl go (low x o) rfl (fun W hW => hW.1) HY.out) E0.out ?_
          try simp only [Act.put, List.setIfInBounds_toArray, List.set_cons_zero, List.set_cons_succ]
          refine wpAnyH_take (i := 5) (oi := ⟨some 76, _, _, _, _, _⟩) (v := .pointer (some ⟨wr.heap.size, 1, none⟩)) rfl (by kernel_rfl) (by kernel_rfl) (by kernel_rfl) (fun _ _ _ h => h) (Or.inl ⟨by rfl, ?_⟩) E0.out ?_
          · intro W' hW
            go_simp
          try simp only [Act.put, List.setIfInBounds_toArray, List.set_cons_zero, List.set_cons_succ]
          refine wpAnyH_take (i := 6) (oi := ⟨some 77, _, _, _, _, _⟩) (v := .agg #[.int .i64 x.val, .int .u32 x.ver, .int .u32 x.ref]) rfl (by kernel_rfl) (by kernel_rfl) (by kernel_rfl) (fun _ _ _ h => h) (yields_w (by rfl) (.tmp 76) rfl wr.heap.size rfl (fun W hW => hW.2)) E0.out ?_
          try simp only [Act.put, List.setIfInBounds_toArray, List.set_cons_zero, List.set_cons_succ]
          refine wpAnyH_ready (rs := [4]) (by kernel_rfl) (by simp) ?_
          refine AllReadyH.cons (o := ⟨some 75, _, _, _, _, _⟩) rfl (fun K hK => ?_) (AllReadyH.nil)
          go_simp
          refine (C7.out v0).mono ?_
          rintro e v1 ⟨rfl, hb⟩
          have E1 := Lib.hid (show (fun W => ER W go o ∧ ER W wr.heap.size [x]) v1 from ⟨E0.out.1.below hb, E0.out.2.below hb⟩)
          have K1 := Lib.hid (K0.out.trans (hb.mono K0.out.size))
          clear hb
          refine hK.out _ _ E1.out (fun hHeldq => ?_)
          clear hK hHeldq
          try simp only [Act.put, List.setIfInBounds_toArray, List.set_cons_zero, List.set_cons_succ]
          refine wpAnyH_take (i := 7) (oi := ⟨some 78, _, _, _, _, _⟩) (v := .bool false) rfl (by kernel_rfl) (by kernel_rfl) (by kernel_rfl) (fun _ _ _ h => h) (Or.inl ⟨by rfl, ?_⟩) E1.out ?_
          · intro W' hW
            go_simp
          try simp only [Act.put, List.setIfInBounds_toArray, List.set_cons_zero, List.set_cons_succ]
          refine wpAnyH_take (i := 8) (oi := ⟨some 70, _, _, _, _, _⟩) (v := .bool false) rfl (by kernel_rfl) (by kernel_rfl) (by kernel_rfl) (fun _ _ _ h => h) (Or.inl ⟨by rfl, ?_⟩) E1.out ?_
          · intro W' hW
            go_simp
          try simp only [Act.put, List.setIfInBounds_toArray, List.set_cons_zero, List.set_cons_succ]
          refine wpAnyH_done (by kernel_rfl) ?_ _
          go_wp2_with fail
          obtain ⟨bw, hbw⟩ : ∃ bw, bw = y.wr := ⟨_, rfl⟩
          have HBW := Lib.hid hbw
          clear hbw
          cases bw with
          | true =>
            refine wp_region_held_drew (S := fun W => ER W wr.heap.size [x]) (by kernel_rfl) E1.out.2.drew (fun hHeld => ?_)
            have X2 := Lib.hid E1.out.2.drew
            have E2 := Lib.hid E1.out.1.drew
            have K2 := Lib.hid (K1.out.trans (Below.refl _ _).drew)
            clear hHeld
            generalize v1.drew = v2 at *
            refine wpAnyH_take (i := 0) (oi := ⟨some 43, _, _, _, _, _⟩) (v := .slice (some ⟨go, 0, none⟩) o.length cv) rfl (by kernel_rfl) (by kernel_rfl) (by kernel_rfl) (fun _ _ _ h => h) (Or.inl ⟨by rfl, ?_⟩) X2.out ?_
            · intro W' hW
              go_simp
            try simp only [Act.put, List.setIfInBounds_toArray, List.set_cons_zero, List.set_cons_succ]
            refine wpAnyH_take (i := 1) (oi := ⟨some 44, _, _, _, _, _⟩) (v := .int .i64 (low x o : Int)) rfl (by kernel_rfl) (by kernel_rfl) (by kernel_rfl) (fun _ _ _ h => h) (Or.inl ⟨by rfl, ?_⟩) X2.out ?_
            · intro W' hW
              go_simp
            try simp only [Act.put, List.setIfInBounds_toArray, List.set_cons_zero, List.set_cons_succ]
            refine wpAnyH_take (i := 2) (oi := ⟨some 45, _, _, _, _, _⟩) (v := .slice (some ⟨go, 0, none⟩) o.length cv) rfl (by kernel_rfl) (by kernel_rfl) (by kernel_rfl) (fun _ _ _ h => h) (Or.inl ⟨by rfl, ?_⟩) X2.out ?_
            · intro W' hW
              go_simp
            try simp only [Act.put, List.setIfInBounds_toArray, List.set_cons_zero, List.set_cons_succ]
            refine wpAnyH_take (i := 3) (oi := ⟨some 46, _, _, _, _, _⟩) (v := .int .i64 (low x o : Int)) rfl (by kernel_rfl) (by kernel_rfl) (by kernel_rfl) (fun _ _ _ h => h) (Or.inl ⟨by rfl, ?_⟩) X2.out ?_
            · intro W' hW
              go_simp
            try simp only [Act.put, List.setIfInBounds_toArray, List.set_cons_zero, List.set_cons_succ]
            refine wpAnyH_take (i := 4) (oi := ⟨some 47, _, _, _, _, _⟩) (v := .pointer (some ⟨wr.heap.size, 4, none⟩)) rfl (by kernel_rfl) (by kernel_rfl) (by kernel_rfl) (fun _ _ _ h => h) (Or.inl ⟨by rfl, ?_⟩) X2.out ?_
            · intro W' hW
              go_simp
            try simp only [Act.put, List.setIfInBounds_toArray, List.set_cons_zero, List.set_cons_succ]
            refine wpAnyH_take (i := 5) (oi := ⟨some 48, _, _, _, _, _⟩) (v := .int .i64 x.new) rfl (by kernel_rfl) (by kernel_rfl) (by kernel_rfl) (fun _ _ _ h => h) (Or.inl ⟨by rfl, ?_⟩) X2.out ?_
            · intro W' hW
              have hf := (hW.cellAt (i := 0) rfl 4 _ rfl : W'.cell? ⟨wr.heap.size, 0 * 6 + 4, none⟩ = _)
              go_simp
            try simp only [Act.put, List.setIfInBounds_toArray, List.set_cons_zero, List.set_cons_succ]
            refine wpAnyH_take (i := 6) (oi := ⟨some 49, _, _, _, _, _⟩) (v := .slice (some ⟨go, 0, none⟩) o.length cv) rfl (by kernel_rfl) (by kernel_rfl) (by kernel_rfl) (fun _ _ _ h => h) (Or.inl ⟨by rfl, ?_⟩) X2.out ?_
            · intro W' hW
              go_simp
            try simp only [Act.put, List.setIfInBounds_toArray, List.set_cons_zero, List.set_cons_succ]
            refine wpAnyH_take (i := 7) (oi := ⟨some 50, _, _, _, _, _⟩) (v := .int .i64 (low x o : Int)) rfl (by kernel_rfl) (by kernel_rfl) (by kernel_rfl) (fun _ _ _ h => h) (Or.inl ⟨by rfl, ?_⟩) X2.out ?_
            · intro W' hW
              go_simp
            try simp only [Act.put, List.setIfInBounds_toArray, List.set_cons_zero, List.set_cons_succ]
            refine wpAnyH_take (i := 8) (oi := ⟨some 51, _, _, _, _, _⟩) (v := .pointer (some ⟨go, low x o * 6, none⟩)) rfl (by kernel_rfl) (by kernel_rfl) (by kernel_rfl) (fun _ _ _ h => h) (Or.inl ⟨by rfl, ?_⟩) X2.out ?_
            · intro W' hW
              go_simp
            try simp only [Act.put, List.setIfInBounds_toArray, List.set_cons_zero, List.set_cons_succ]
            refine wpAnyH_take (i := 9) (oi := ⟨some 52, _, _, _, _, _⟩) (v := .pointer (some ⟨go, low x o * 6 + 5, none⟩)) rfl (by kernel_rfl) (by kernel_rfl) (by kernel_rfl) (fun _ _ _ h => h) (Or.inl ⟨by rfl, ?_⟩) X2.out ?_
            · intro W' hW
              go_simp
            try simp only [Act.put, List.setIfInBounds_toArray, List.set_cons_zero, List.set_cons_succ]
            have c10 : v2.cell? ⟨go, low x o * 6 + 5, none⟩ = some (.bool true) := E2.out.cellAt HY.out 5 _ (by rw [HBW.out]; rfl)
            refine wpAnyH_ready (rs := [10]) (by kernel_rfl) (by simp) ?_
            refine AllReadyH.cons (o := ⟨some 53, _, _, _, _, _⟩) rfl (fun K hK => ?_) (AllReadyH.nil)
            refine Eq.mpr (if_pos (by kernel_rfl)) ?_
            go_simp
            refine hK.out _ _ X2.out (fun hHeldq => ?_)
            clear hK hHeldq c10
            try simp only [Act.put, List.setIfInBounds_toArray, List.set_cons_zero, List.set_cons_succ]
            refine wpAnyH_take (i := 11) (oi := ⟨some 54, _, _, _, _, _⟩) (v := .bool true) rfl (by kernel_rfl) (by kernel_rfl) (by kernel_rfl) (fun _ _ _ h => h) (Or.inl ⟨by rfl, ?_⟩) X2.out ?_
            · intro W' hW
              go_simp
            try simp only [Act.put, List.setIfInBounds_toArray, List.set_cons_zero, List.set_cons_succ]
            refine wpAnyH_take (i := 12) (oi := ⟨some 55, _, _, _, _, _⟩) (v := undef) rfl (by kernel_rfl) (by kernel_rfl) (by kernel_rfl) (fun _ _ _ h => h) (Or.inr ⟨by rfl, rfl⟩) X2.out ?_
            try simp only [Act.put, List.setIfInBounds_toArray, List.set_cons_zero, List.set_cons_succ]
            refine wpAnyH_take (i := 13) (oi := ⟨some 56, _, _, _, _, _⟩) (v := undef) rfl (by kernel_rfl) (by kernel_rfl) (by kernel_rfl) (fun _ _ _ h => h) (Or.inr ⟨by rfl, rfl⟩) X2.out ?_
            try simp only [Act.put, List.setIfInBounds_toArray, List.set_cons_zero, List.set_cons_succ]
            refine wpAnyH_take (i := 14) (oi := ⟨some 57, _, _, _, _, _⟩) (v := .bool true) rfl (by kernel_rfl) (by kernel_rfl) (by kernel_rfl) (fun _ _ _ h => h) (Or.inl ⟨by rfl, ?_⟩) X2.out ?_
            · intro W' hW
              go_simp
            try simp only [Act.put, List.setIfInBounds_toArray, List.set_cons_zero, List.set_cons_succ]
            refine wpAnyH_take (i := 15) (oi := ⟨some 58, _, _, _, _, _⟩) (v := .pointer (some ⟨go, low x o * 6, none⟩)) rfl (by kernel_rfl) (by kernel_rfl) (by kernel_rfl) (fun _ _ _ h => h) (Or.inl ⟨by rfl, ?_⟩) X2.out ?_
            · intro W' hW
              go_simp
            try simp only [Act.put, List.setIfInBounds_toArray, List.set_cons_zero, List.set_cons_succ]
            refine wpAnyH_take (i := 16) (oi := ⟨some 59, _, _, _, _, _⟩) (v := .pointer (some ⟨go, low x o * 6 + 4, none⟩)) rfl (by kernel_rfl) (by kernel_rfl) (by kernel_rfl) (fun _ _ _ h => h) (Or.inl ⟨by rfl, ?_⟩) X2.out ?_
            · intro W' hW
              go_simp
            try simp only [Act.put, List.setIfInBounds_toArray, List.set_cons_zero, List.set_cons_succ]
            refine wpAnyH_ready (rs := [17]) (by kernel_rfl) (by simp) ?_
            refine AllReadyH.cons (o := ⟨none, _, _, _, _, _⟩) rfl (fun K hK => ?_) (AllReadyH.nil)
            refine Eq.mpr (if_pos (by kernel_rfl)) ?_
            have c17 : v2.cell? ⟨go, low x o * 6 + 4, none⟩ = some (.int .i64 y.new) := E2.out.cellAt HY.out 4 _ rfl
            have z17 : v2.frozen? ⟨go, low x o * 6 + 4, none⟩ = false := (E2.out.there (low x o) (List.getElem?_eq_some_iff.1 HY.out).1 4 (by omega)).2
            go_simp
            have E3 := Lib.hid (E2.out.setAt HY.out 4 (by omega) (.int .i64 x.new) { y with new := x.new } rfl)
            have G3 := Lib.hid (show Keep (fun k => k = go) v2 (v2.setCell ⟨go, low x o * 6 + 4, none⟩ (.int .i64 x.new)) from Keep.setCells (S := fun k => k = go) (vs := [.int .i64 x.new]) Keep.refl rfl _)
            have X3 := Lib.hid (X2.out.keep G3.out (fun e => HNEX.out e.symm))
            clear c17 z17
            generalize v2.setCell ⟨go, low x o * 6 + 4, none⟩ (.int .i64 x.new) = v3 at *
            refine hK.out _ _ X3.out (fun hHeldq => ?_)
            clear hK hHeldq
            try simp only [Act.put, List.setIfInBounds_toArray, List.set_cons_zero, List.set_cons_succ]
            refine wpAnyH_take (i := 18) (oi := ⟨some 60, _, _, _, _, _⟩) (v := .pointer (some ⟨go, low x o * 6, none⟩)) rfl (by kernel_rfl) (by kernel_rfl) (by kernel_rfl) (fun _ _ _ h => h) (Or.inl ⟨by rfl, ?_⟩) X3.out ?_
            · intro W' hW
              go_simp
            try simp only [Act.put, List.setIfInBounds_toArray, List.set_cons_zero, List.set_cons_succ]
            refine wpAnyH_take (i := 19) (oi := ⟨some 61, _, _, _, _, _⟩) (v := .pointer (some ⟨go, low x o * 6 + 5, none⟩)) rfl (by kernel_rfl) (by kernel_rfl) (by kernel_rfl) (fun _ _ _ h => h) (Or.inl ⟨by rfl, ?_⟩) X3.out ?_
            · intro W' hW
              go_simp
            try simp only [Act.put, List.setIfInBounds_toArray, List.set_cons_zero, List.set_cons_succ]
            refine wpAnyH_ready (rs := [20]) (by kernel_rfl) (by simp) ?_
            refine AllReadyH.cons (o := ⟨none, _, _, _, _, _⟩) rfl (fun K hK => ?_) (AllReadyH.nil)
            refine Eq.mpr (if_pos (by kernel_rfl)) ?_
            have hy3 : (o.set (low x o) { y with new := x.new })[low x o]? = some { y with new := x.new } := by rw [List.getElem?_set_self (List.getElem?_eq_some_iff.1 HY.out).1]
            have c20 : v3.cell? ⟨go, low x o * 6 + 5, none⟩ = some (.bool true) := E3.out.cellAt hy3 5 _ (by rw [HBW.out]; rfl)
            have z20 : v3.frozen? ⟨go, low x o * 6 + 5, none⟩ = false := (E3.out.there (low x o) (List.getElem?_eq_some_iff.1 hy3).1 5 (by omega)).2
            go_simp
            have E4 := Lib.hid (show ER (v3.setCell ⟨go, low x o * 6 + 5, none⟩ (.bool true)) go (o.set (low x o) (onto y x)) from by have h := E3.out.setAt hy3 5 (by omega) (.bool true) (onto y x) (by unfold onto; rw [← HBW.out]; rfl); rwa [List.set_set] at h)
            have G4 := Lib.hid (show Keep (fun k => k = go) v2 (v3.setCell ⟨go, low x o * 6 + 5, none⟩ (.bool true)) from Keep.setCells (S := fun k => k = go) (vs := [.bool true]) G3.out rfl _)
            have X4 := Lib.hid (X2.out.keep G4.out (fun e => HNEX.out e.symm))
            clear c20 z20 hy3
            generalize v3.setCell ⟨go, low x o * 6 + 5, none⟩ (.bool true) = v4 at *
            refine hK.out _ _ X4.out (fun hHeldq => ?_)
            clear hK hHeldq
            try simp only [Act.put, List.setIfInBounds_toArray, List.set_cons_zero, List.set_cons_succ]
            refine wpAnyH_done (by kernel_rfl) ?_ _
            go_wp2
            go_roundw
            case rel =>
              have hlt := HI.out
              obtain ⟨_, hxe⟩ := List.getElem?_eq_some_iff.1 HX.out
              have s5 := HW5.out.size
              have sw := HB.out.size
              have s2 := K2.out.size
              have hgo : w.heap.size ≤ go := (HO.out.lt go rfl).1
              have hB2 := (HB.out.trans (HW5.out.mono sw)).trans (K2.out.mono (by omega))
              have hlen : (o.set (low x o) (onto y x)).length = o.length := List.length_set
              have hOf := ((HO.out.below HW5.out).below K2.out).back G4.out.shape E4.out hlen
              exact ⟨k + 1, o.set (low x o) (onto y x), by omega, rfl, Lib.hid (mIns_asc HAS.out HM3.out), Lib.hid (by rw [hlen]; have := HLE.out; omega),
                Lib.hid (fun e he => by
                  rcases List.mem_or_eq_of_mem_set he with h | h
                  · exact HOK.out e h
                  · rw [h]; exact HOK.out y (List.mem_of_getElem? HY.out)),
                Lib.hid (by rw [HM.out, List.drop_eq_getElem_cons hlt, hxe, mrgL_some HM3.out]), Lib.hid hOf,
                Lib.hid (((HOB.out.below HW5.out).below K2.out).shift (u := .slice (some ⟨go, 0, none⟩) 0 0) ⟨G4.out.os, G4.out.tape, G4.out.output, G4.out.size, fun j hj hne => G4.out.other j hj (fun e => hne (by rw [e]; rfl))⟩ (.inr (fun e => HNE.out gb e.symm rfl))),
                Lib.hid (hB2.trans (G4.out.below (by omega) (fun j hj e => by omega))), HNE⟩
            
            case measure => have := HI.out; show SB.length - ((k : Int) + 1).toNat < SB.length - ((k : Int)).toNat; omega
          | false =>
            refine wp_region_held_drew (S := fun W => ER W wr.heap.size [x]) (by kernel_rfl) E1.out.2.drew (fun hHeld => ?_)
            have X2 := Lib.hid E1.out.2.drew
            have E2 := Lib.hid E1.out.1.drew
            have K2 := Lib.hid (K1.out.trans (Below.refl _ _).drew)
            clear hHeld
            generalize v1.drew = v2 at *
            refine wpAnyH_take (i := 0) (oi := ⟨some 43, _, _, _, _, _⟩) (v := .slice (some ⟨go, 0, none⟩) o.length cv) rfl (by kernel_rfl) (by kernel_rfl) (by kernel_rfl) (fun _ _ _ h => h) (Or.inl ⟨by rfl, ?_⟩) X2.out ?_
            · intro W' hW
              go_simp
            try simp only [Act.put, List.setIfInBounds_toArray, List.set_cons_zero, List.set_cons_succ]
            refine wpAnyH_take (i := 1) (oi := ⟨some 44, _, _, _, _, _⟩) (v := .int .i64 (low x o : Int)) rfl (by kernel_rfl) (by kernel_rfl) (by kernel_rfl) (fun _ _ _ h => h) (Or.inl ⟨by rfl, ?_⟩) X2.out ?_
            · intro W' hW
              go_simp
            try simp only [Act.put, List.setIfInBounds_toArray, List.set_cons_zero, List.set_cons_succ]
            refine wpAnyH_take (i := 2) (oi := ⟨some 45, _, _, _, _, _⟩) (v := .slice (some ⟨go, 0, none⟩) o.length cv) rfl (by kernel_rfl) (by kernel_rfl) (by kernel_rfl) (fun _ _ _ h => h) (Or.inl ⟨by rfl, ?_⟩) X2.out ?_
            · intro W' hW
              go_simp
            try simp only [Act.put, List.setIfInBounds_toArray, List.set_cons_zero, List.set_cons_succ]
            refine wpAnyH_take (i := 3) (oi := ⟨some 46, _, _, _, _, _⟩) (v := .int .i64 (low x o : Int)) rfl (by kernel_rfl) (by kernel_rfl) (by kernel_rfl) (fun _ _ _ h => h) (Or.inl ⟨by rfl, ?_⟩) X2.out ?_
            · intro W' hW
              go_simp
            try simp only [Act.put, List.setIfInBounds_toArray, List.set_cons_zero, List.set_cons_succ]
            refine wpAnyH_take (i := 4) (oi := ⟨some 47, _, _, _, _, _⟩) (v := .pointer (some ⟨wr.heap.size, 4, none⟩)) rfl (by kernel_rfl) (by kernel_rfl) (by kernel_rfl) (fun _ _ _ h => h) (Or.inl ⟨by rfl, ?_⟩) X2.out ?_
            · intro W' hW
              go_simp
            try simp only [Act.put, List.setIfInBounds_toArray, List.set_cons_zero, List.set_cons_succ]
            refine wpAnyH_take (i := 5) (oi := ⟨some 48, _, _, _, _, _⟩) (v := .int .i64 x.new) rfl (by kernel_rfl) (by kernel_rfl) (by kernel_rfl) (fun _ _ _ h => h) (Or.inl ⟨by rfl, ?_⟩) X2.out ?_
            · intro W' hW
              have hf := (hW.cellAt (i := 0) rfl 4 _ rfl : W'.cell? ⟨wr.heap.size, 0 * 6 + 4, none⟩ = _)
              go_simp
            try simp only [Act.put, List.setIfInBounds_toArray, List.set_cons_zero, List.set_cons_succ]
            refine wpAnyH_take (i := 6) (oi := ⟨some 49, _, _, _, _, _⟩) (v := .slice (some ⟨go, 0, none⟩) o.length cv) rfl (by kernel_rfl) (by kernel_rfl) (by kernel_rfl) (fun _ _ _ h => h) (Or.inl ⟨by rfl, ?_⟩) X2.out ?_
            · intro W' hW
              go_simp
            try simp only [Act.put, List.setIfInBounds_toArray, List.set_cons_zero, List.set_cons_succ]
            refine wpAnyH_take (i := 7) (oi := ⟨some 50, _, _, _, _, _⟩) (v := .int .i64 (low x o : Int)) rfl (by kernel_rfl) (by kernel_rfl) (by kernel_rfl) (fun _ _ _ h => h) (Or.inl ⟨by rfl, ?_⟩) X2.out ?_
            · intro W' hW
              go_simp
            try simp only [Act.put, List.setIfInBounds_toArray, List.set_cons_zero, List.set_cons_succ]
            refine wpAnyH_take (i := 8) (oi := ⟨some 51, _, _, _, _, _⟩) (v := .pointer (some ⟨go, low x o * 6, none⟩)) rfl (by kernel_rfl) (by kernel_rfl) (by kernel_rfl) (fun _ _ _ h => h) (Or.inl ⟨by rfl, ?_⟩) X2.out ?_
            · intro W' hW
              go_simp
            try simp only [Act.put, List.setIfInBounds_toArray, List.set_cons_zero, List.set_cons_succ]
            refine wpAnyH_take (i := 9) (oi := ⟨some 52, _, _, _, _, _⟩) (v := .pointer (some ⟨go, low x o * 6 + 5, none⟩)) rfl (by kernel_rfl) (by kernel_rfl) (by kernel_rfl) (fun _ _ _ h => h) (Or.inl ⟨by rfl, ?_⟩) X2.out ?_
            · intro W' hW
              go_simp
            try simp only [Act.put, List.setIfInBounds_toArray, List.set_cons_zero, List.set_cons_succ]
            have c10 : v2.cell? ⟨go, low x o * 6 + 5, none⟩ = some (.bool false) := E2.out.cellAt HY.out 5 _ (by rw [HBW.out]; rfl)
            refine wpAnyH_ready (rs := [10]) (by kernel_rfl) (by simp) ?_
            refine AllReadyH.cons (o := ⟨some 53, _, _, _, _, _⟩) rfl (fun K hK => ?_) (AllReadyH.nil)
            refine Eq.mpr (if_pos (by kernel_rfl)) ?_
            go_simp
            refine hK.out _ _ X2.out (fun hHeldq => ?_)
            clear hK hHeldq c10
            try simp only [Act.put, List.setIfInBounds_toArray, List.set_cons_zero, List.set_cons_succ]
            refine wpAnyH_take (i := 11) (oi := ⟨some 54, _, _, _, _, _⟩) (v := .bool false) rfl (by kernel_rfl) (by kernel_rfl) (by kernel_rfl) (fun _ _ _ h => h) (Or.inl ⟨by rfl, ?_⟩) X2.out ?_
            · intro W' hW
              go_simp
            try simp only [Act.put, List.setIfInBounds_toArray, List.set_cons_zero, List.set_cons_succ]
            refine wpAnyH_take (i := 12) (oi := ⟨some 55, _, _, _, _, _⟩) (v := .pointer (some ⟨wr.heap.size, 5, none⟩)) rfl (by kernel_rfl) (by kernel_rfl) (by kernel_rfl) (fun _ _ _ h => h) (Or.inl ⟨by rfl, ?_⟩) X2.out ?_
            · intro W' hW
              go_simp
            try simp only [Act.put, List.setIfInBounds_toArray, List.set_cons_zero, List.set_cons_succ]
            refine wpAnyH_take (i := 13) (oi := ⟨some 56, _, _, _, _, _⟩) (v := .bool x.wr) rfl (by kernel_rfl) (by kernel_rfl) (by kernel_rfl) (fun _ _ _ h => h) (Or.inl ⟨by rfl, ?_⟩) X2.out ?_
            · intro W' hW
              have hf := (hW.cellAt (i := 0) rfl 5 _ rfl : W'.cell? ⟨wr.heap.size, 0 * 6 + 5, none⟩ = _)
              go_simp
            try simp only [Act.put, List.setIfInBounds_toArray, List.set_cons_zero, List.set_cons_succ]
            refine wpAnyH_take (i := 14) (oi := ⟨some 57, _, _, _, _, _⟩) (v := .bool x.wr) rfl (by kernel_rfl) (by kernel_rfl) (by kernel_rfl) (fun _ _ _ h => h) (Or.inl ⟨by rfl, ?_⟩) X2.out ?_
            · intro W' hW
              go_simp
            try simp only [Act.put, List.setIfInBounds_toArray, List.set_cons_zero, List.set_cons_succ]
            refine wpAnyH_take (i := 15) (oi := ⟨some 58, _, _, _, _, _⟩) (v := .pointer (some ⟨go, low x o * 6, none⟩)) rfl (by kernel_rfl) (by kernel_rfl) (by kernel_rfl) (fun _ _ _ h => h) (Or.inl ⟨by rfl, ?_⟩) X2.out ?_
            · intro W' hW
              go_simp
            try simp only [Act.put, List.setIfInBounds_toArray, List.set_cons_zero, List.set_cons_succ]
            refine wpAnyH_take (i := 16) (oi := ⟨some 59, _, _, _, _, _⟩) (v := .pointer (some ⟨go, low x o * 6 + 4, none⟩)) rfl (by kernel_rfl) (by kernel_rfl) (by kernel_rfl) (fun _ _ _ h => h) (Or.inl ⟨by rfl, ?_⟩) X2.out ?_
            · intro W' hW
              go_simp
            try simp only [Act.put, List.setIfInBounds_toArray, List.set_cons_zero, List.set_cons_succ]
            refine wpAnyH_ready (rs := [17]) (by kernel_rfl) (by simp) ?_
            refine AllReadyH.cons (o := ⟨none, _, _, _, _, _⟩) rfl (fun K hK => ?_) (AllReadyH.nil)
            refine Eq.mpr (if_pos (by kernel_rfl)) ?_
            have c17 : v2.cell? ⟨go, low x o * 6 + 4, none⟩ = some (.int .i64 y.new) := E2.out.cellAt HY.out 4 _ rfl
            have z17 : v2.frozen? ⟨go, low x o * 6 + 4, none⟩ = false := (E2.out.there (low x o) (List.getElem?_eq_some_iff.1 HY.out).1 4 (by omega)).2
            go_simp
            have E3 := Lib.hid (E2.out.setAt HY.out 4 (by omega) (.int .i64 x.new) { y with new := x.new } rfl)
            have G3 := Lib.hid (show Keep (fun k => k = go) v2 (v2.setCell ⟨go, low x o * 6 + 4, none⟩ (.int .i64 x.new)) from Keep.setCells (S := fun k => k = go) (vs := [.int .i64 x.new]) Keep.refl rfl _)
            have X3 := Lib.hid (X2.out.keep G3.out (fun e => HNEX.out e.symm))
            clear c17 z17
            generalize v2.setCell ⟨go, low x o * 6 + 4, none⟩ (.int .i64 x.new) = v3 at *
            refine hK.out _ _ X3.out (fun hHeldq => ?_)
            clear hK hHeldq
            try simp only [Act.put, List.setIfInBounds_toArray, List.set_cons_zero, List.set_cons_succ]
            refine wpAnyH_take (i := 18) (oi := ⟨some 60, _, _, _, _, _⟩) (v := .pointer (some ⟨go, low x o * 6, none⟩)) rfl (by kernel_rfl) (by kernel_rfl) (by kernel_rfl) (fun _ _ _ h => h) (Or.inl ⟨by rfl, ?_⟩) X3.out ?_
            · intro W' hW
              go_simp
            try simp only [Act.put, List.setIfInBounds_toArray, List.set_cons_zero, List.set_cons_succ]
            refine wpAnyH_take (i := 19) (oi := ⟨some 61, _, _, _, _, _⟩) (v := .pointer (some ⟨go, low x o * 6 + 5, none⟩)) rfl (by kernel_rfl) (by kernel_rfl) (by kernel_rfl) (fun _ _ _ h => h) (Or.inl ⟨by rfl, ?_⟩) X3.out ?_
            · intro W' hW
              go_simp
            try simp only [Act.put, List.setIfInBounds_toArray, List.set_cons_zero, List.set_cons_succ]
            refine wpAnyH_ready (rs := [20]) (by kernel_rfl) (by simp) ?_
            refine AllReadyH.cons (o := ⟨none, _, _, _, _, _⟩) rfl (fun K hK => ?_) (AllReadyH.nil)
            refine Eq.mpr (if_pos (by kernel_rfl)) ?_
            have hy3 : (o.set (low x o) { y with new := x.new })[low x o]? = some { y with new := x.new } := by rw [List.getElem?_set_self (List.getElem?_eq_some_iff.1 HY.out).1]
            have c20 : v3.cell? ⟨go, low x o * 6 + 5, none⟩ = some (.bool false) := E3.out.cellAt hy3 5 _ (by rw [HBW.out]; rfl)
            have z20 : v3.frozen? ⟨go, low x o * 6 + 5, none⟩ = false := (E3.out.there (low x o) (List.getElem?_eq_some_iff.1 hy3).1 5 (by omega)).2
            go_simp
            have E4 := Lib.hid (show ER (v3.setCell ⟨go, low x o * 6 + 5, none⟩ (.bool x.wr)) go (o.set (low x o) (onto y x)) from by have h := E3.out.setAt hy3 5 (by omega) (.bool x.wr) (onto y x) (by unfold onto; rw [← HBW.out]; rfl); rwa [List.set_set] at h)
            have G4 := Lib.hid (show Keep (fun k => k = go) v2 (v3.setCell ⟨go, low x o * 6 + 5, none⟩ (.bool x.wr)) from Keep.setCells (S := fun k => k = go) (vs := [.bool x.wr]) G3.out rfl _)
            have X4 := Lib.hid (X2.out.keep G4.out (fun e => HNEX.out e.symm))
            clear c20 z20 hy3
            generalize v3.setCell ⟨go, low x o * 6 + 5, none⟩ (.bool x.wr) = v4 at *
            refine hK.out _ _ X4.out (fun hHeldq => ?_)
            clear hK hHeldq
            try simp only [Act.put, List.setIfInBounds_toArray, List.set_cons_zero, List.set_cons_succ]
            refine wpAnyH_done (by kernel_rfl) ?_ _
            go_wp2
            go_roundw
            case rel =>
              have hlt := HI.out
              obtain ⟨_, hxe⟩ := List.getElem?_eq_some_iff.1 HX.out
              have s5 := HW5.out.size
              have sw := HB.out.size
              have s2 := K2.out.size
              have hgo : w.heap.size ≤ go := (HO.out.lt go rfl).1
              have hB2 := (HB.out.trans (HW5.out.mono sw)).trans (K2.out.mono (by omega))
              have hlen : (o.set (low x o) (onto y x)).length = o.length := List.length_set
              have hOf := ((HO.out.below HW5.out).below K2.out).back G4.out.shape E4.out hlen
              exact ⟨k + 1, o.set (low x o) (onto y x), by omega, rfl, Lib.hid (mIns_asc HAS.out HM3.out), Lib.hid (by rw [hlen]; have := HLE.out; omega),
                Lib.hid (fun e he => by
                  rcases List.mem_or_eq_of_mem_set he with h | h
                  · exact HOK.out e h
                  · rw [h]; exact HOK.out y (List.mem_of_getElem? HY.out)),
                Lib.hid (by rw [HM.out, List.drop_eq_getElem_cons hlt, hxe, mrgL_some HM3.out]), Lib.hid hOf,
                Lib.hid (((HOB.out.below HW5.out).below K2.out).shift (u := .slice (some ⟨go, 0, none⟩) 0 0) ⟨G4.out.os, G4.out.tape, G4.out.output, G4.out.size, fun j hj hne => G4.out.other j hj (fun e => hne (by rw [e]; rfl))⟩ (.inr (fun e => HNE.out gb e.symm rfl))),
                Lib.hid (hB2.trans (G4.out.below (by omega) (fun j hj e => by omega))), HNE⟩
            
            case measure => have := HI.out; show SB.length - ((k : Int) + 1).toNat < SB.length - ((k : Int)).toNat; omega
        · have HMN := Lib.hid (show mrgL SA SB = none by
            have hlt := HI.out
            obtain ⟨_, hxe⟩ := List.getElem?_eq_some_iff.1 HX.out
            rw [HM.out, List.drop_eq_getElem_cons hlt, hxe]
            refine mrgL_none ?_
            unfold mIns
            rw [if_pos hh, HY.out]
            simp only
            rw [if_neg (fun q => hm ⟨HLV.out.1.trans q.1, HLV.out.2.trans q.2.1, q.2.2⟩)])
          have HMM := Lib.hid (show lv = x.val → ln = x.ver → ¬ 0 = x.ref from fun h1 h2 h3 => hm ⟨h1, h2, h3.symm⟩)
          clear hm
          go_wp2_with fail
          refine wp_region_held_drew (S := fun W => ER W go o ∧ ER W wr.heap.size [x]) (by kernel_rfl) ⟨HEo.out.drew, HEx.out.drew⟩ (fun hHeld => ?_)
          have E0 := Lib.hid (show (fun W => ER W go o ∧ ER W wr.heap.size [x]) w5.drew from ⟨HEo.out.drew, HEx.out.drew⟩)
          have K0 := Lib.hid (show Below w5.heap.size w5 w5.drew from (Below.refl _ _).drew)
          clear hHeld
          generalize w5.drew = v0 at *
          refine wpAnyH_take (i := 0) (oi := ⟨some 71, _, _, _, _, _⟩) (v := .slice (some ⟨go, 0, none⟩) o.length cv) rfl (by kernel_rfl) (by kernel_rfl) (by kernel_rfl) (fun _ _ _ h => h) (Or.inl ⟨by rfl, ?_⟩) E0.out ?_
          · intro W' hW
            go_simp
          try simp only [Act.put, List.setIfInBounds_toArray, List.set_cons_zero, List.set_cons_succ]
          refine wpAnyH_take (i := 1) (oi := ⟨some 72, _, _, _, _, _⟩) (v := .int .i64 (low x o : Int)) rfl (by kernel_rfl) (by kernel_rfl) (by kernel_rfl) (fun _ _ _ h => h) (Or.inl ⟨by rfl, ?_⟩) E0.out ?_
          · intro W' hW
            go_simp
          try simp only [Act.put, List.setIfInBounds_toArray, List.set_cons_zero, List.set_cons_succ]
          refine wpAnyH_take (i := 2) (oi := ⟨some 73, _, _, _, _, _⟩) (v := .pointer (some ⟨go, low x o * 6, none⟩)) rfl (by kernel_rfl) (by kernel_rfl) (by kernel_rfl) (fun _ _ _ h => h) (Or.inl ⟨by rfl, ?_⟩) E0.out ?_
          · intro W' hW
            go_simp
          try simp only [Act.put, List.setIfInBounds_toArray, List.set_cons_zero, List.set_cons_succ]
          refine wpAnyH_take (i := 3) (oi := ⟨some 74, _, _, _, _, _⟩) (v := entV y) rfl (by kernel_rfl) (by kernel_rfl) (by kernel_rfl) (fun _ _ _ h => h) (yields_e (by rfl) (.tmp 73) rfl go (low x o) rfl (fun W hW => hW.1) HY.out) E0.out ?_
          try simp only [Act.put, List.setIfInBounds_toArray, List.set_cons_zero, List.set_cons_succ]
          refine wpAnyH_take (i := 5) (oi := ⟨some 76, _, _, _, _, _⟩) (v := .pointer (some ⟨wr.heap.size, 1, none⟩)) rfl (by kernel_rfl) (by kernel_rfl) (by kernel_rfl) (fun _ _ _ h => h) (Or.inl ⟨by rfl, ?_⟩) E0.out ?_
          · intro W' hW
            go_simp
          try simp only [Act.put, List.setIfInBounds_toArray, List.set_cons_zero, List.set_cons_succ]
          refine wpAnyH_take (i := 6) (oi := ⟨some 77, _, _, _, _, _⟩) (v := .agg #[.int .i64 x.val, .int .u32 x.ver, .int .u32 x.ref]) rfl (by kernel_rfl) (by kernel_rfl) (by kernel_rfl) (fun _ _ _ h => h) (yields_w (by rfl) (.tmp 76) rfl wr.heap.size rfl (fun W hW => hW.2)) E0.out ?_
          try simp only [Act.put, List.setIfInBounds_toArray, List.set_cons_zero, List.set_cons_succ]
          refine wpAnyH_ready (rs := [4]) (by kernel_rfl) (by simp) ?_
          refine AllReadyH.cons (o := ⟨some 75, _, _, _, _, _⟩) rfl (fun K hK => ?_) (AllReadyH.nil)
          go_simp
          refine (C7.out v0).mono ?_
          rintro e v1 ⟨rfl, hb⟩
          have E1 := Lib.hid (show (fun W => ER W go o ∧ ER W wr.heap.size [x]) v1 from ⟨E0.out.1.below hb, E0.out.2.below hb⟩)
          have K1 := Lib.hid (K0.out.trans (hb.mono K0.out.size))
          clear hb
          refine hK.out _ _ E1.out (fun hHeldq => ?_)
          clear hK hHeldq
          try simp only [Act.put, List.setIfInBounds_toArray, List.set_cons_zero, List.set_cons_succ]
          refine wpAnyH_take (i := 7) (oi := ⟨some 78, _, _, _, _, _⟩) (v := .bool true) rfl (by kernel_rfl) (by kernel_rfl) (by kernel_rfl) (fun _ _ _ h => h) (Or.inl ⟨by rfl, ?_⟩) E1.out ?_
          · intro W' hW
            go_simp
            exact HMM.out
          try simp only [Act.put, List.setIfInBounds_toArray, List.set_cons_zero, List.set_cons_succ]
          refine wpAnyH_take (i := 8) (oi := ⟨some 70, _, _, _, _, _⟩) (v := .bool true) rfl (by kernel_rfl) (by kernel_rfl) (by kernel_rfl) (fun _ _ _ h => h) (Or.inl ⟨by rfl, ?_⟩) E1.out ?_
          · intro W' hW
            go_simp
          try simp only [Act.put, List.setIfInBounds_toArray, List.set_cons_zero, List.set_cons_succ]
          refine wpAnyH_done (by kernel_rfl) ?_ _
          go_wp2
          go_ret2
          exact ⟨.inl ⟨HMN.out, rfl⟩, (HB.out.trans (HW5.out.mono HB.out.size)).trans (K1.out.mono (by have := HB.out.size; have := HW5.out.size; omega))⟩
    · obtain rfl : k = SB.length := by omega
      have hM := HM.out
      rw [List.drop_length, mrgL] at hM
      have HMF := Lib.hid hM
      clear hM
      obtain ⟨Av, nv, cv, rfl, hnv, hAv, hcv, hgv⟩ := HO.out.slice
      subst hnv
      by_cases h32 : 32 < o.length
      · have h32i : (32 : Int) < (o.length : Int) := by omega
        go_wp2
        go_ret2
        exact ⟨.inr ⟨o, HMF.out, .inl ⟨h32, rfl⟩⟩, HB.out⟩
      · have h32i : ¬ (32 : Int) < (o.length : Int) := by omega
        have H32 := Lib.hid (show o.length ≤ 32 by omega)
        clear h32
        go_wp2
        go_ret2
        exact ⟨.inr ⟨o, HMF.out, .inr ⟨H32.out, .slice Av o.length cv, rfl, HO.out⟩⟩, HB.out⟩
end Go.Proofs.YtilapnejkdgomaaDoor
