/- The walk of entry.Text. Conditions: at most 60 entries; the entries' numbers are of their kinds; the table of powers of ten is laid. -/
import Derived.Test.YtilapnejkdgomaaDoorEnG
set_option linter.unusedVariables false
set_option linter.unusedSimpArgs false
namespace Go.Proofs.YtilapnejkdgomaaDoor
open Go.RowKit

/-- A row of the call's own that holds strings. -/
abbrev OwnS (w : World) (base : Nat) (v : Value) (L : List (List UInt8)) : Prop := w.ownsRow base 9 1 v L.length (L.map fun x => Value.string (bs x))
theorem Tryd.infoS3 : (Tryd.prog.info? 9).map (fun i => (i.zero, i.size, i.bytes)) = some (some (.string ⟨#[]⟩), 1, 16) := by kernel_rfl
theorem infoS : ∃ i, Tryd.prog.info? 9 = some i ∧ i.zero = some (.string ⟨#[]⟩) ∧ i.size = 1 ∧ i.bytes = 16 := by
  obtain ⟨i, h1, h2⟩ := Option.map_eq_some_iff.1 Tryd.infoS3
  injection h2 with h2 h3
  injection h3 with h3 h4
  exact ⟨i, h1, h2, h3, h4⟩
theorem OwnS.below {w w' : World} {base : Nat} {v : Value} {L : List (List UInt8)} (h : OwnS w base v L) (hb : Below w.heap.size w w') : OwnS w' base v L :=
  World.ownsRow.kept (row := none) h ⟨hb.os, hb.tape, hb.output, hb.size, fun k hk _ => hb.block k hk⟩ (by cases hv : v.ownBlock <;> simp)
set_option maxRecDepth 100000 in
/-- append of one string onto a row of the call's own. -/
theorem as_any {w : World} {ops : Array Oper} {rest : List Oper} {o : Oper} {a : Act} {Q : Exit → Act → World → Prop} (hgd : o.guard = none) (s x : Operand)
    (ho : o.op = .call { callee := .builtin .append, args := #[s, x], argTypes := #[55, 55] }) (base : Nat) (v : Value) (L : List (List UInt8)) (hs : a.eval s = v) (hO : OwnS w base v L)
    (q : Nat) (u : List UInt8) (hx : a.eval x = .slice (some ⟨q, 0, none⟩) 1 1) (hq : q < w.heap.size) (hc : w.cell? ⟨q, 0, none⟩ = some (.string (bs u))) (h1 : L.length + 1 ≤ 100000) (hb : base ≤ w.heap.size)
    (h : ∀ v' w', OwnS w' base v' (L ++ [u]) → w.grownBy w' v.ownBlock → (v'.ownBlock = v.ownBlock ∨ v'.ownBlock = some w.heap.size) → wpList Tryd.prog ops Q rest (a.put o.dst v') w') : wpList Tryd.prog ops Q (o :: rest) a w := by
  obtain ⟨ie, hie0, hie1, hie2, hie3⟩ := infoS
  have hR : Reads w (fun _ => True) 1 (some ⟨q, 0, none⟩) 1 [Value.string (bs u)] := ⟨rfl, fun _ => ⟨q, 0, rfl, hq, trivial, fun j y hy => by
    obtain rfl : j = 0 := by have := (List.getElem?_eq_some_iff.1 hy).1; simpa using this
    injection hy with hy
    subst hy
    exact hc⟩⟩
  refine wpList_append_any hgd s x 55 ho base 9 ie _ 1 16 Tryd.underlying55 hie0 hie1 hie2 hie3 rfl (by omega) v L.length _ hs hO (fun _ => True) _ 1 1 _ hx hR (by intro u hu; rw [List.mem_singleton.1 hu]; rfl) (by simp only [maxLen]; omega) (by omega) hb ?_
  intro v' w' h2 h3 h4
  refine h v' w' ?_ h3 h4
  show w'.ownsRow base _ 1 v' (L ++ [u]).length ((L ++ [u]).map fun x => Value.string (bs x))
  rw [List.map_append, List.length_append]
  exact h2
theorem join_own {w : World} {base : Nat} {v : Value} {L : List (List UInt8)} (h : OwnS w base v L) (sep : List UInt8) (hN : L.length ≤ 100000) (hlen : (Lib.join L sep).length ≤ 100000000) :
    Calls Tryd.prog 32 #[v, .string (bs sep)] w fun e w' => e = .returned (.string (bs (Lib.join L sep))) ∧ Below w.heap.size w w' := by
  obtain ⟨A, c, rfl, hc, hA, hR⟩ := own_reads (S := fun _ => True) h (fun _ _ => trivial)
  cases L with
  | nil =>
    refine (Tryd.strings_Join_none A c (bs sep) w).mono ?_
    rintro e w' ⟨rfl, rfl⟩
    exact ⟨rfl, Below.refl _ _⟩
  | cons x t =>
    obtain ⟨b, o, rfl, hb, _, hcell⟩ := hR.2 (by simp)
    have e : ((x :: t).map bs).map (fun s => s.data.toList) = x :: t := by
      rw [List.map_map]
      exact (List.map_congr_left fun y _ => rfl).trans (List.map_id _)
    have hJ := Tryd.strings_Join b o c ((x :: t).map bs) (bs sep) w (fun j y hy => by
      rw [List.getElem?_map] at hy
      obtain ⟨z, hz, rfl⟩ := Option.map_eq_some_iff.1 hy
      exact hcell j _ (by rw [List.getElem?_map, hz]; rfl)) hb (by rw [List.length_map]; omega) (by rw [List.length_map]; exact hc) (by rw [e, bs_list]; omega)
    rw [e, bs_list, List.length_map] at hJ
    exact hJ

theorem own_bz {wo wb W : World} {base : Nat} {v : Value} {L : List (List UInt8)} {o : Obj} (h : OwnS wo base v L) (hk : Below wo.heap.size wo wb) (hb : Bz wb W) : OwnS (W.alloc o) base v L :=
  OwnS.below (OwnS.below (OwnS.below h hk) hb.b) ((Below.refl _ _).alloc (Nat.le_refl _) _)
theorem lt_new (W : World) (o : Obj) : W.heap.size < (W.alloc o).heap.size := by simp
theorem cell_new (W : World) (v : Value) {t : TypeId} : (W.alloc (.cells #[v] t)).cell? ⟨W.heap.size, 0, none⟩ = some v := by rw [World.cell?_alloc_at _ _ _ _ rfl]; rfl
theorem size_bz {w wo wb W : World} {o : Obj} (h : Below w.heap.size w wo) (hk : Below wo.heap.size wo wb) (hb : Bz wb W) : w.heap.size ≤ (W.alloc o).heap.size := by
  have h1 := h.size
  have h2 := hk.size
  have h3 := hb.b.size
  simp
  omega
theorem below_bz {w wb W w4 : World} {o : Obj} {v : Value} (h : Below w.heap.size w wb) (hb : Bz wb W) (hg : (W.alloc o).grownBy w4 v.ownBlock) (hv : ∀ q, v.ownBlock = some q → w.heap.size ≤ q) : Below w.heap.size w w4 := by
  have h1 := h.trans (hb.b.mono h.size)
  exact (h1.alloc h1.size o).grown hg (by have := h1.size; simp; omega) hv

set_option maxRecDepth 100000 in
set_option maxHeartbeats 12800000 in
theorem texts_any {S : Nat → Prop} (A : Option Addr) (n c : Nat) (l : List Ent) (w : World) (hl : Ents w S A n l) (hok : ∀ e ∈ l, EntWf e) (hn : n ≤ 60) (hc : n ≤ c) (hp : Pow w) :
    Calls Tryd.prog 13 #[.slice A n c] w fun e w' => e = .returned (.string (bs (entsT l))) ∧ Below w.heap.size w w' := by
  have HLN := Lib.hid hl.1
  have HL := Lib.hid hl
  have HOK := Lib.hid hok
  have HP := Lib.hid hp
  have hci : (n : Int) ≤ (c : Int) := by omega
  have HN := Lib.hid hn
  have HO0 := Lib.hid (show OwnS w w.heap.size (.slice none 0 0) ((l.take 0).map entT) from World.ownsRow_nil _ _ _ _)
  clear hl hok hp
  go_enter Tryd.func13, Tryd.ntmps13
  go_wp2
  go_loopw [3, 9] (fun vv i wr => ∃ k : Nat, k ≤ n ∧ i = .int .i64 k ∧ Hid (OwnS wr w.heap.size vv ((l.take k).map entT)) ∧ Hid (Below w.heap.size w wr)) (fun _ i _ => n - (intOf i).toNat)
  case atStart => exact ⟨0, by omega, rfl, HO0, Lib.hid (Below.refl _ _)⟩
  case round =>
    clear HO0
    obtain ⟨k, hk, rfl, HO, HB⟩ := hrel
    obtain ⟨wo, rfl⟩ : ∃ wo : World, wo = wr := ⟨_, rfl⟩
    by_cases hlt : k < n
    · obtain ⟨y, b, o, hy, rfl, hbb, hSb, hcell⟩ := HL.out.at k hlt
      have HYW := Lib.hid (HOK.out y (List.mem_of_getElem? hy))
      obtain ⟨f0, f1, f2, f3, f4, f5⟩ := hcell wo HB.out
      have hi1 : (k : Int) < (n : Int) := by omega
      have HLT := Lib.hid hlt
      have HSN := Lib.hid (show (l.take (k + 1)).map entT = (l.take k).map entT ++ [entT y] by rw [List.take_add_one, hy, List.map_append]; rfl)
      have hlA := Lib.itoa_length_le y.loc HYW.out.2.1.1 HYW.out.2.1.2
      have hlB := txt_len y.val y.ver y.ref HYW.out.2.2.1.1 HYW.out.2.2.1.2 HYW.out.1.1.1 HYW.out.1.1.2 HYW.out.1.2.1 HYW.out.1.2.2
      have hlC := Lib.itoa_length_le y.new HYW.out.2.2.2.1 HYW.out.2.2.2.2
      have C1 := Lib.hid (fun W hp => itoa_any y.loc HYW.out.2.1.1 HYW.out.2.1.2 W hp)
      have C2 := Lib.hid (fun W hp => text_any y.val y.ver y.ref W HYW.out.2.2.1.1 HYW.out.2.2.1.2 HYW.out.1.2.1 HYW.out.1.2.2 HYW.out.1.1.1 HYW.out.1.1.2 hp)
      have C3 := Lib.hid (fun W hp => fmtI_any y.new HYW.out.2.2.2.1 HYW.out.2.2.2.2 W hp)
      simp only [bs_eq] at C1 C2 C3
      have HM := Lib.hid (show ((l.take k).map entT).length ≤ 60 by rw [List.length_map, List.length_take]; omega)
      clear hcell hy hbb hSb hlt
      have HX := Lib.hid (show EBox (wo.alloc (entO y)) wo.heap.size y from EBox.new)
      have HB1 := Lib.hid (show Below w.heap.size w (wo.alloc (entO y)) from HB.out.alloc HB.out.size _)
      have HK1 := Lib.hid (show Below wo.heap.size wo (wo.alloc (entO y)) from (Below.refl _ _).alloc (Nat.le_refl _) _)
      obtain ⟨y0, y1, y2, y3, y4, y5⟩ := y
      unfold entO at HB1 HX HK1
      dsimp only at f0 f1 f2 f3 f4 f5 hlA hlB hlC C1 C2 C3 HB1 HX HK1
      have HE3 := Lib.hid (show entT ⟨y0, y1, y2, y3, y4, y5⟩ = (Lib.itoa y0 ++ ([58] ++ txt y1 y2 y3)) ++ (if y5 = true then [61] ++ Lib.itoa y4 else []) from rfl)
      generalize Lib.itoa y0 = TA at *
      generalize txt y1 y2 y3 = TB at *
      generalize Lib.itoa y4 = TC at *
      have j1 : ∀ w, (Op.stringOp .add (bs TA) (⟨#[58]⟩ : ByteArray)).run Tryd.prog w = .ok (.string (bs (TA ++ [58]))) w := add_big TA [58] (by simp; omega)
      have j2 := add_big (TA ++ [58]) TB (by simp; omega)
      have j3 : ∀ w, (Op.stringOp .add (⟨#[61]⟩ : ByteArray) (bs TC)).run Tryd.prog w = .ok (.string (bs ([61] ++ TC))) w := add_big [61] TC (by simp; omega)
      have j4 := add_big (TA ++ [58] ++ TB) ([61] ++ TC) (by simp; omega)
      rw [HE3.out] at HSN
      clear HE3 hlA hlB hlC HYW
      go_wp2_with fail
      clear f0 f1 f2 f3 f4 f5
      cases y5 with
      | true =>
        have HSN2 := Lib.hid (show (l.take (k + 1)).map entT = (l.take k).map entT ++ [TA ++ [58] ++ TB ++ ([61] ++ TC)] by rw [HSN.out, if_pos rfl]; simp only [List.append_assoc])
        clear HSN
        generalize TA ++ [58] ++ TB ++ ([61] ++ TC) = M4 at *
        generalize [61] ++ TC = M3 at *
        generalize TA ++ [58] ++ TB = M2 at *
        generalize TA ++ [58] = M1 at *
        obtain ⟨wb, hwb⟩ : ∃ wb, wb = wo.alloc (.cells #[.int .i64 y0, .int .i64 y1, .int .u32 y2, .int .u32 y3, .int .i64 y4, .bool true] 46) := ⟨_, rfl⟩
        rw [← hwb] at HX HB1 HK1 ⊢
        clear hwb
        have HSC := Lib.hid (show ∀ W, Bz wb W → (W.cell? ⟨wo.heap.size, 0, none⟩ = some (.int .i64 y0) ∧ W.cell? ⟨wo.heap.size, 1, none⟩ = some (.int .i64 y1) ∧ W.cell? ⟨wo.heap.size, 2, none⟩ = some (.int .u32 y2) ∧ W.cell? ⟨wo.heap.size, 3, none⟩ = some (.int .u32 y3)) from fun W h => by
          obtain ⟨q0, q1, q2, q3, _, _⟩ := (HX.out.below h.b).all
          exact ⟨q0, q1, q2, q3⟩)
        have HC45 := Lib.hid (show ∀ W, Bz wb W → (W.cell? ⟨wo.heap.size, 4, none⟩ = some (.int .i64 y4) ∧ W.cell? ⟨wo.heap.size, 5, none⟩ = some (.bool true)) from fun W h => by
          obtain ⟨_, _, _, _, q4, q5⟩ := (HX.out.below h.b).all
          exact ⟨q4, q5⟩)
        have HPW := Lib.hid (show ∀ W, Bz wb W → Pow W from fun W h => (HP.out.below HB1.out).below h.b)
        have zz : Bz wb wb.drew := ⟨(Below.refl _ _).drew⟩
        go_region_held3 (fun W => (W.cell? ⟨wo.heap.size, 0, none⟩ = some (.int .i64 y0) ∧ W.cell? ⟨wo.heap.size, 1, none⟩ = some (.int .i64 y1) ∧ W.cell? ⟨wo.heap.size, 2, none⟩ = some (.int .u32 y2) ∧ W.cell? ⟨wo.heap.size, 3, none⟩ = some (.int .u32 y3))) (exact HSC.out _ (by assumption)) (first
          | (go_at_call 29; refine (C1.out _ (HPW.out _ (by assumption))).mono ?_; rintro e wt ⟨rfl, hb⟩; have zt := Bz.next (by assumption) hb; obtain ⟨f4, f5⟩ := HC45.out _ zt; clear hb)
          | (go_at_call 30; refine (C2.out _ (HPW.out _ (by assumption))).mono ?_; rintro e ws ⟨rfl, hb⟩; have zs := Bz.next (by assumption) hb; obtain ⟨f4, f5⟩ := HC45.out _ zs; clear hb))
        all_goals
          go_wp2_with (first | (go_at_call 31; refine (C3.out _ (HPW.out _ (by assumption))).mono ?_; rintro e wu ⟨rfl, hb⟩; have zu := Bz.next (by assumption) hb; clear hb) | (at_builtin; refine as_any rfl (.tmp 29) (.tmp 31) rfl w.heap.size _ ((l.take k).map entT) rfl ?_ _ M4 rfl (lt_new _ _) (cell_new _ _) (by have := HM.out; omega) ?_ ?_))
          rotate_left
          rotate_left
          intro v3 w4 ho hg hv
          have hB4 := below_bz HB1.out (by assumption) hg (fun q hq => (HO.out.lt q hq).1)
          have HO4 := Lib.hid ho
          have HB4 := Lib.hid hB4
          clear ho hg hv hB4
          go_wp2
          go_roundw
          case rel => exact ⟨k + 1, by omega, by go_num, Lib.hid (by rw [HSN2.out, List.map_take]; exact HO4.out), HB4⟩
          case measure => simp [intOf]; omega
          · exact own_bz HO.out HK1.out (by assumption)
          · exact size_bz HB.out HK1.out (by assumption)
      | false =>
        have HSN2 := Lib.hid (show (l.take (k + 1)).map entT = (l.take k).map entT ++ [TA ++ [58] ++ TB] by rw [HSN.out, if_neg (by simp)]; simp only [List.append_assoc, List.append_nil])
        clear HSN j3 j4
        generalize TA ++ [58] ++ TB = M2 at *
        generalize TA ++ [58] = M1 at *
        obtain ⟨wb, hwb⟩ : ∃ wb, wb = wo.alloc (.cells #[.int .i64 y0, .int .i64 y1, .int .u32 y2, .int .u32 y3, .int .i64 y4, .bool false] 46) := ⟨_, rfl⟩
        rw [← hwb] at HX HB1 HK1 ⊢
        clear hwb
        have HSC := Lib.hid (show ∀ W, Bz wb W → (W.cell? ⟨wo.heap.size, 0, none⟩ = some (.int .i64 y0) ∧ W.cell? ⟨wo.heap.size, 1, none⟩ = some (.int .i64 y1) ∧ W.cell? ⟨wo.heap.size, 2, none⟩ = some (.int .u32 y2) ∧ W.cell? ⟨wo.heap.size, 3, none⟩ = some (.int .u32 y3)) from fun W h => by
          obtain ⟨q0, q1, q2, q3, _, _⟩ := (HX.out.below h.b).all
          exact ⟨q0, q1, q2, q3⟩)
        have HC45 := Lib.hid (show ∀ W, Bz wb W → (W.cell? ⟨wo.heap.size, 4, none⟩ = some (.int .i64 y4) ∧ W.cell? ⟨wo.heap.size, 5, none⟩ = some (.bool false)) from fun W h => by
          obtain ⟨_, _, _, _, q4, q5⟩ := (HX.out.below h.b).all
          exact ⟨q4, q5⟩)
        have HPW := Lib.hid (show ∀ W, Bz wb W → Pow W from fun W h => (HP.out.below HB1.out).below h.b)
        have zz : Bz wb wb.drew := ⟨(Below.refl _ _).drew⟩
        go_region_held3 (fun W => (W.cell? ⟨wo.heap.size, 0, none⟩ = some (.int .i64 y0) ∧ W.cell? ⟨wo.heap.size, 1, none⟩ = some (.int .i64 y1) ∧ W.cell? ⟨wo.heap.size, 2, none⟩ = some (.int .u32 y2) ∧ W.cell? ⟨wo.heap.size, 3, none⟩ = some (.int .u32 y3))) (exact HSC.out _ (by assumption)) (first
          | (go_at_call 29; refine (C1.out _ (HPW.out _ (by assumption))).mono ?_; rintro e wt ⟨rfl, hb⟩; have zt := Bz.next (by assumption) hb; obtain ⟨f4, f5⟩ := HC45.out _ zt; clear hb)
          | (go_at_call 30; refine (C2.out _ (HPW.out _ (by assumption))).mono ?_; rintro e ws ⟨rfl, hb⟩; have zs := Bz.next (by assumption) hb; obtain ⟨f4, f5⟩ := HC45.out _ zs; clear hb))
        all_goals
          go_wp2_with ((at_builtin; refine as_any rfl (.tmp 29) (.tmp 31) rfl w.heap.size _ ((l.take k).map entT) rfl ?_ _ M2 rfl (lt_new _ _) (cell_new _ _) (by have := HM.out; omega) ?_ ?_))
          rotate_left
          rotate_left
          intro v3 w4 ho hg hv
          have hB4 := below_bz HB1.out (by assumption) hg (fun q hq => (HO.out.lt q hq).1)
          have HO4 := Lib.hid ho
          have HB4 := Lib.hid hB4
          clear ho hg hv hB4
          go_wp2
          go_roundw
          case rel => exact ⟨k + 1, by omega, by go_num, Lib.hid (by rw [HSN2.out, List.map_take]; exact HO4.out), HB4⟩
          case measure => simp [intOf]; omega
          · exact own_bz HO.out HK1.out (by assumption)
          · exact size_bz HB.out HK1.out (by assumption)
    · have hkn : ¬ ((k : Int) < (n : Int)) := by omega
      have HF := Lib.hid (show l.take k = l from List.take_of_length_le (by have := HLN.out; omega))
      rw [HF.out] at HO
      have C4 := Lib.hid (join_own HO.out [32] (by rw [List.length_map]; have := HLN.out; omega) (by have := entsT_len HOK.out; have := HLN.out; show (entsT l).length ≤ _; omega))
      rw [show Lib.join (l.map entT) [32] = entsT l from rfl] at C4
      have C5 : Hid (∀ x : Unit, Calls Tryd.prog 32 #[_, .string ⟨#[32]⟩] wo fun e w' => e = .returned (.string (bs (entsT l))) ∧ Below wo.heap.size wo w') := Lib.hid (fun _ => C4.out)
      obtain ⟨T, hT⟩ : ∃ T, T = entsT l := ⟨_, rfl⟩
      rw [← hT] at C5
      have HT := Lib.hid hT
      clear C4 hT
      go_wp2_with fail
      refine (C5.out ()).mono ?_
      rintro e w9 ⟨rfl, hb⟩
      have HB9 := Lib.hid (HB.out.trans (hb.mono HB.out.size))
      clear hb
      go_wp2
      go_ret
      exact ⟨by rw [← HT.out]; rfl, HB9.out⟩
end Go.Proofs.YtilapnejkdgomaaDoor
