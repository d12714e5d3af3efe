/- The walk of made, the store that trim's laws build. Conditions: one to six cells, at most 40 acts of at most 8 puts. -/
import Derived.Test.YtpejhgkcofilmaaTrH
set_option linter.unusedVariables false
namespace Go.Proofs.Ytpejhgkcofilmaa
open Go.RowKit

section
variable {P : Program} {ops : Array Oper} {rest : List Oper} {a : Act} {w : World} {Q : Exit → Act → World → Prop} {d : Option Tmp} {ty t : TypeId} {pos : String} {x y : Operand}
theorem at_make_ {aft} {g} (h : wpList P ops Q (⟨d, .makeSlice t x y, ty, pos, aft, g⟩ :: rest) a w) : wpList P ops Q (⟨d, .makeSlice t x y, ty, pos, aft, g⟩ :: rest) a w := h
end
section
variable {a : Act} {w : World} {K : Act → World → Prop} {Q : Exit → Act → World → Prop} {o : Oper} {s s0 : Sn} {S S0 : Nat → Prop} {b1 b2 : Option Nat}
theorem wp_alloc_at (ho : o.op = .alloc 57) (k : ∀ w', (Sn.zero 0).At w' (fun _ => False) w.heap.size → Below w.heap.size w w' → w'.heap.size = w.heap.size + 1 → K (a.put o.dst (.pointer (some ⟨w.heap.size, 0, none⟩))) w') : o.wp Try.prog a w K Q := by
  unfold Oper.wp execOp
  simp only [ho]
  simp [Instr.alloc, Result.andThen]
  exact k _ ⟨none, none, heap_alloc_new _ _, Sn.zero_maps 0 _ _⟩ ((Below.refl _ _).alloc (Nat.le_refl _) _) (by simp)
theorem wp_put_at (x y : Operand) (ho : o.op = .store 57 x y) (g : Nat) (hx : a.eval x = .pointer (some ⟨g, 0, none⟩)) (hy : a.eval y = s.val b1 b2)
    (h0 : s0.At w S0 g) (hm : s.Maps w S b1 b2) (hS : ¬ S g) (k : ∀ w', s.At w' S g → Touch g w w' → K (a.put o.dst undef) w') : o.wp Try.prog a w K Q := by
  obtain ⟨c1, c2, h1, _⟩ := h0
  exact wp_store_row 57 x y ho g (stoCells s.c s.n (.map b1) (.map b2) s.B s.T) hx hy 57 _ h1 Try.size57 rfl (sto_ones ..) (k _ ⟨b1, b2, setRow_heap _ _ _ _ _ _ h1, hm.setRow hS _⟩ ⟨_, rfl⟩)
end
/-- append onto a row of the call's own, as one operation. -/
theorem wp_append_any {P : Program} {w : World} {K : Act → World → Prop} {o : Oper} {a : Act} {Q : Exit → Act → World → Prop} (s x : Operand) (t : TypeId)
    (ho : o.op = .call { callee := .builtin .append, args := #[s, x], argTypes := #[t, t] })
    (base : Nat) (e : TypeId) (i : TypeInfo) (z : Value) (size bytes : Nat) (ht : P.underlying t = some (.slice e)) (hi : P.info? e = some i) (hz : i.zero = some z)
    (hsize : i.size = size) (hby : i.bytes = bytes) (hzs : z.cells.size = size) (hsz : 0 < size)
    (v : Value) (n : Nat) (xs : List Value) (hs : a.eval s = v) (hown : w.ownsRow base e size v n xs)
    (S : Nat → Prop) (A : Option Addr) (m c : Nat) (news : List Value) (hx : a.eval x = .slice A m c) (hr : Reads w S size A m news) (h1 : ∀ u ∈ news, u.oneCell' = true)
    (h63 : n + m ≤ maxLen) (hbytes : (n + m) * bytes ≤ 140737488355328) (hbase : base ≤ w.heap.size)
    (h : ∀ v' w', w'.ownsRow base e size v' (n + m) (xs ++ news) → w.grownBy w' v.ownBlock → (v'.ownBlock = v.ownBlock ∨ v'.ownBlock = some w.heap.size) → K (a.put o.dst v') w') : o.wp P a w K Q := by
  obtain ⟨v', w', hrun, h2, h3, h4⟩ := run_append_any (P := P) w base t o.type e i z size bytes ht hi hz hsize hby hzs hsz v n xs hown S A m c news hr h1 h63 hbytes hbase
  unfold Oper.wp execOp
  simp only [ho, resolve, invoke, builtin, Sem.run_bind, Sem.run_pure, Result.andThen_ok, List.map_toArray, List.map_cons, List.map_nil, hs, hx, hrun]
  exact h v' w' h2 h3 h4
theorem tmod_pos {a b r : Int} (h0 : 0 ≤ a) (h : a % b = r) : a.tmod b = r := by rw [Int.tmod_eq_emod_of_nonneg h0]; exact h
theorem openS_cnt (s : Sn) (n : Nat) : cntV s.openS n = cntV s n ∧ lastV s.openS n = lastV s n := by
  unfold Sn.openS
  split <;> exact ⟨rfl, rfl⟩
theorem closeS_cnt (s : Sn) (r : Int) (n : Nat) : cntV (s.closeS r) n = cntV s n ∧ lastV (s.closeS r) n = lastV s n := by
  unfold Sn.closeS
  split <;> exact ⟨rfl, rfl⟩
theorem mx_new {S : Nat → Prop} {p q bc bl B : Nat} {v v' : Value} {b : Nat} (hb : b < B) (h : Mx S p q bc bl v b) (hv : v'.ownBlock = v.ownBlock ∨ v'.ownBlock = some B) : Mx S p q bc bl v' b :=
  ⟨h.1, h.2.1, h.2.2.1, h.2.2.2.1, h.2.2.2.2.1, by
    rcases hv with e | e
    · rw [e]; exact h.2.2.2.2.2
    · rw [e]; intro e2; injection e2 with e2; omega⟩
/-- What each round over the entries of a commit keeps. -/
def EntR (w : World) (S : Nat → Prop) (n q bc bl : Nat) (s : Sn) (all : List W3) (es : List Ent) (Ae : Option Addr) (v i : Value) (wr : World) : Prop :=
  ∃ j : Nat, j ≤ es.length ∧ i = .int .i64 j ∧ MI w S n q bc bl v (s.commit es) (all ++ (es.take j).map s.w3) (cntV (s.commit (es.take j)) n) (lastV (s.commit (es.take j)) n) wr ∧ Ents wr (Mx S w.heap.size q bc bl v) Ae es.length es
/-- What each round of made keeps. -/
def MadeR (w : World) (S : Nat → Prop) (n q bc bl : Nat) (l : List TAct) (v i : Value) (wr : World) : Prop :=
  ∃ k : Nat, k ≤ l.length ∧ i = .int .i64 k ∧ MI w S n q bc bl v (madeF n (l.take k)).1 (madeF n (l.take k)).2 (cntV (madeF n (l.take k)).1 n) (lastV (madeF n (l.take k)).1 n) wr

set_option maxRecDepth 100000 in
set_option maxHeartbeats 25600000 in
theorem made51_any {S : Nat → Prop} (n : Nat) (A : Option Addr) (m cc : Nat) (l : List TAct) (w : World) (h1 : 1 ≤ n) (h6 : n ≤ 6) (hS : ∀ b, w.heap.size ≤ b → S b) (hl : TActs w (fun _ => True) A m l) (h40 : l.length ≤ 40) (h8 : ∀ a ∈ l, a.m ≤ 8) :
    Calls Try.prog 44 #[.int .i64 n, .slice A m cc] w fun e w' => ∃ b1 b2 A' c', e = .returned (.tuple #[(madeF n l).1.val b1 b2, .slice A' (madeF n l).2.length c', .bool true]) ∧ (madeF n l).1.Maps w' S b1 b2 ∧ Reads w' S 3 A' (madeF n l).2.length ((madeF n l).2.flatMap w3C) ∧ Below w.heap.size w w' := by
  obtain ⟨iu, hiu0, hiu1, hiu2, hiu3⟩ := info_parts (P := Try.prog) (e := 60) (z := .int .u32 0) (size := 1) (bytes := 4) (by kernel_rfl)
  obtain ⟨ii, hii0, hii1, hii2, hii3⟩ := info_parts (P := Try.prog) (e := 2) (z := .int .i64 0) (size := 1) (bytes := 8) (by kernel_rfl)
  obtain ⟨ie, hie0, hie1, hie2, hie3⟩ := info_parts (P := Try.prog) (e := 69) (z := .agg #[.int .i64 0, .int .i64 0, .int .u32 0, .int .u32 0, .int .i64 0, .bool false]) (size := 6) (bytes := 40) (by kernel_rfl)
  obtain ⟨iw, hiw0, hiw1, hiw2, hiw3⟩ := info_parts (P := Try.prog) (e := 106) (z := .agg #[.int .i64 0, .int .i64 0, .int .i64 0]) (size := 3) (bytes := 24) (by kernel_rfl)
  have HS := Lib.hid hS
  have HL := Lib.hid hl
  have HN := Lib.hid hl.1
  have H8 := Lib.hid h8
  have HG := Lib.hid (And.intro h1 (And.intro h6 h40))
  have hn6 : (n : Int) ≤ 6 := by omega
  have hn1 : (1 : Int) ≤ (n : Int) := by omega
  have hm40 : (m : Int) ≤ 40 := by have := hl.1; omega
  clear hS hl h1 h6 h40 h8
  go_enter Try.func44, Try.ntmps44
  go_wp2_with (with_reducible refine at_alloc_ (t := 57) ?_; refine alloc_at (S := fun _ => False) rfl rfl ?_)
  intro w1 hp hb hz
  have P4 := Lib.hid hp
  have HB := Lib.hid hb
  have HZ := Lib.hid (show w.heap.size < w1.heap.size by omega)
  clear hp hb hz
  go_wp2_with fail
  refine (st_new_ok (n : Int) w1 hn1 (by omega)).mono ?_
  rintro e w2 ⟨rfl, hb⟩
  have P42 := Lib.hid (P4.out.below hb)
  have HB2 := Lib.hid (HB.out.trans (hb.mono HB.out.size))
  have HZ2 := Lib.hid (Nat.lt_of_lt_of_le HZ.out hb.size)
  clear hb P4 HB HZ
  go_wp2_with (with_reducible refine at_alloc_ (t := 57) ?_; refine alloc_at (S := fun _ => False) rfl rfl ?_)
  generalize hq : w2.heap.size = q at *
  intro w3 hp hb hz
  rw [← hq] at hb
  have P43 := Lib.hid (P42.out.below hb)
  have P73 := Lib.hid hp
  have HB3 := Lib.hid (HB2.out.trans (hb.mono HB2.out.size))
  have HZ3 := Lib.hid (And.intro (show w.heap.size < q by have := HZ2.out; omega) (show q < w3.heap.size by omega))
  clear hp hb hz P42 HB2 HZ2 hq
  go_wp2_with (with_reducible refine at_store_ (t := 57) ?_; refine Hid.out ?_)
  refine Lib.hid ?_
  refine put_at rfl (.tmp 7) (.tmp 29) rfl rfl q rfl rfl P73.out (s := Sn.zero n) (b1 := none) (b2 := none) (S := fun _ => False) (Sn.zero_maps _ _ _) (fun h => h) ?_
  intro w4 hp ht
  have P44 := Lib.hid (ht.at P43.out (by have := HZ3.out.1; omega) (fun h => h))
  have P74 := Lib.hid hp
  have HB4 := Lib.hid (ht.below HB3.out (by have := HZ3.out.1; omega))
  have HZ4 := Lib.hid (And.intro HZ3.out.1 (show q < w4.heap.size by have := HZ3.out.2; have := ht.size; omega))
  clear hp ht P43 P73 HB3 HZ3
  go_wp2_with (with_reducible refine at_make_ (t := 77) ?_; refine wpList_make_full w4 rfl _ _ 77 rfl w.heap.size 60 iu (.int .u32 0) 1 Try.underlying77 hiu0 hiu1 hiu2 .i64 .i64 (n : Int) (n : Int) n rfl rfl rfl rfl ?k1 ?k2 ?k3 ?k4)
  case k1 => rw [hiu3]; omega
  case k2 => simp only [maxLen]; omega
  case k3 => exact HB4.out.size
  case k4 =>
    intro w5 ho hg
    have hb5 : Below w4.heap.size w4 w5 := (Below.refl _ _).grown hg (Nat.le_refl _) (by simp)
    have P45 := Lib.hid (P44.out.below hb5)
    have P75 := Lib.hid (P74.out.below hb5)
    have HB5 := Lib.hid (HB4.out.trans (hb5.mono HB4.out.size))
    have hlt5 := (ho.lt w4.heap.size rfl).2
    have HZ5 := Lib.hid (And.intro HZ4.out.1 (And.intro HZ4.out.2 hlt5))
    have HO5 := Lib.hid ho
    clear hb5 hlt5 ho hg P44 P74 HB4 HZ4
    generalize hbc : w4.heap.size = bc at *
    clear hbc
    go_wp2_with (with_reducible refine at_make_ (t := 40) ?_; refine wpList_make_full w5 rfl _ _ 40 rfl w.heap.size 2 ii (.int .i64 0) 1 Try.underlying40 hii0 hii1 hii2 .i64 .i64 (n : Int) (n : Int) n rfl rfl rfl rfl ?j1 ?j2 ?j3 ?j4)
    case j1 => rw [hii3]; omega
    case j2 => simp only [maxLen]; omega
    case j3 => exact HB5.out.size
    case j4 =>
      intro w6 ho hg
      have hb6 : Below w5.heap.size w5 w6 := (Below.refl _ _).grown hg (Nat.le_refl _) (by simp)
      have hlt6 := (ho.lt w5.heap.size rfl).2
      have I0 : MI w S n q bc w5.heap.size (.slice none 0 0) (madeF n (l.take 0)).1 (madeF n (l.take 0)).2 (cntV (madeF n (l.take 0)).1 n) (lastV (madeF n (l.take 0)).1 n) w6 := by
        have e1 : (madeF n (l.take 0)).1 = Sn.zero n := rfl
        have e2 : (madeF n (l.take 0)).2 = [] := rfl
        rw [e1, e2]
        obtain ⟨z1, z2⟩ := cnt_zero (n : Int) n (Int.le_refl _)
        rw [z1, z2]
        refine ⟨P45.out.below hb6, (P75.out.below hb6).more (fun _ _ h => h.elim), ?_, ?_, World.ownsRow_nil _ _ _ _, HB5.out.trans (hb6.mono HB5.out.size), by have := HZ5.out; omega⟩
        · have := HO5.out.kept hg (.inr (by simp [Value.ownBlock]))
          rw [toList_madeCells_one] at this
          exact this
        · have := ho
          rw [toList_madeCells_one] at this
          exact this
      have HI0 := Lib.hid I0
      clear I0 hb6 hlt6 ho hg P45 P75 HB5 HZ5 HO5
      generalize w5.heap.size = bl at *
      clear hiu0 hiu1 hiu2 hiu3 hii0 hii1 hii2 hii3
      go_wp2
      go_loopw [9, 12] (fun v i wr => Hid (MadeR w S n q bc bl l v i wr)) (fun _ i _ => l.length - (intOf i).toNat)
      case atStart => exact Lib.hid ⟨0, by omega, rfl, HI0.out⟩
      case round =>
        clear HI0
        obtain ⟨k, hk, rfl, hI⟩ := hrel.out
        clear hrel
        by_cases hlt : k < l.length
        · have HI := Lib.hid hI
          have HGd := Lib.hid (good_made (n : Int) hn1 hn6 l k hk (by have := HG.out; omega))
          have HST := Lib.hid (show madeF n (l.take (k + 1)) = stepA (madeF n (l.take k)) l[k] from foldl_take stepA _ l k hlt)
          have hi : (k : Int) < (m : Int) := by have := HN.out; omega
          obtain ⟨b, o, rfl, hc⟩ := HL.out.cell k hlt
          have c0 := (hc wr HI.out.hB).1
          have c1 := (hc wr HI.out.hB).2.1
          have c2 := (hc wr HI.out.hB).2.2
          have HA := Lib.hid ((HL.out.2.2 l[k] (List.getElem_mem hlt)).below HI.out.hB)
          have hm8 : (l[k].m : Int) ≤ 8 := by have := H8.out l[k] (List.getElem_mem hlt); omega
          have HK := Lib.hid hlt
          clear hc hI hk
          generalize madeF n (l.take k) = x at *
          obtain ⟨s, all⟩ := x
          dsimp only at HI HGd HST
          generalize l[k] = a at *
          clear hlt
          obtain ⟨kind, num, A1, m1, cc1, ps⟩ := a
          dsimp only at c0 c1 c2 hm8
          have hnums := HA.out.1.1
          dsimp only at hnums
          obtain ⟨hk0, hk1, hn0', hn1'⟩ := hnums
          have hk4 : kind % 4 = 1 ∨ kind % 4 = 2 ∨ (kind % 4 ≠ 1 ∧ kind % 4 ≠ 2) := by omega
          rcases hk4 with hk4 | hk4 | hk4
          · have hmod : kind.tmod 4 = 1 := tmod_pos hk0 hk4
            have HS1 := Lib.hid (show stepA (s, all) ⟨kind, num, A1, m1, cc1, ps⟩ = (s.openS, all) from if_pos hk4)
            clear hk4
            go_wp2_with (with_reducible refine at_load_ (t := 57) ?_; refine get_at rfl _ rfl q rfl HI.out.p7 ?_)
            intro b1 b2 hm
            have HM := Lib.hid hm
            clear hm c0 c1 c2
            try simp only [Act.put, List.setIfInBounds_toArray, List.set_cons_zero, List.set_cons_succ]
            go_wp2_with fail
            refine (st_open wr).mono ?_
            rintro e w2 ⟨kk, E, rfl, hE, hb⟩
            have HI2 := Lib.hid (HI.out.below hb)
            have HM2 := Lib.hid ((Sn.openS_maps (HM.out.below hb)).more (S' := fun b => Mx S w.heap.size q bc bl u9 b ∧ b ≠ w2.heap.size) fun b hb h => ⟨h, by omega⟩)
            clear hb HM HI
            go_wp2_with (with_reducible refine at_alloc_ (t := 57) ?_; refine alloc_at (S := fun _ => False) rfl rfl ?_)
            intro w3 hp3 hb3 hz3
            have P3 := Lib.hid hp3
            have HB3 := Lib.hid hb3
            have HM3 := Lib.hid (HM2.out.below hb3)
            clear hp3 hb3 hz3 HM2
            go_wp2_with (with_reducible refine at_store_ (t := 57) ?_; refine Hid.out ?_)
            refine Lib.hid ?_
            refine put_at rfl (.tmp 13) (.tmp 160) rfl rfl w2.heap.size rfl rfl P3.out HM3.out (fun h => h.2 rfl) ?_
            intro w4 hp4 ht4
            have P4 := Lib.hid hp4
            have HI4 := Lib.hid (HI2.out.below (ht4.below HB3.out (Nat.le_refl _)))
            generalize w2.heap.size = p at *
            clear hp4 ht4 P3 HB3 HM3 HI2
            rcases hE with rfl | ⟨rfl, hsame⟩
            · go_wp2_with (with_reducible refine at_load_ (t := 57) ?_; refine get_at rfl _ rfl p rfl P4.out ?_)
              intro b5 b6 hm
              have HM := Lib.hid hm
              clear hm
              try simp only [Act.put, List.setIfInBounds_toArray, List.set_cons_zero, List.set_cons_succ]
              go_wp2_with (with_reducible refine at_store_ (t := 57) ?_; refine Hid.out ?_)
              refine Lib.hid ?_
              refine put_at rfl (.tmp 7) (.tmp 165) rfl rfl q rfl rfl HI4.out.p7 HM.out (fun h => h.1.2.2.1 rfl) ?_
              intro w5 hp5 ht5
              have HI5 := Lib.hid (HI4.out.touch ht5 (hp5.more fun b _ h => h.1))
              clear hp5 ht5 HI4 HM P4
              go_wp2
              go_roundw
              case rel => exact Lib.hid ⟨k + 1, HK.out, by go_num, by rw [HST.out, HS1.out]; dsimp only; rw [(openS_cnt s n).1, (openS_cnt s n).2]; exact HI5.out⟩
              case measure => exact meas_up _ _ HK.out
            · have HSA := Lib.hid hsame
              clear hsame P4
              go_wp2
              go_roundw
              case rel => exact Lib.hid ⟨k + 1, HK.out, by go_num, by rw [HST.out, HS1.out]; dsimp only; rw [HSA.out]; exact HI4.out⟩
              case measure => exact meas_up _ _ HK.out
          · have hmod : kind.tmod 4 = 2 := tmod_pos hk0 hk4
            have hne : kind % 4 ≠ 1 := by omega
            have hmod8 : num.tmod 8 = num % 8 := tmod_pos hn0' rfl
            have hnr : 0 ≤ num % 8 ∧ num % 8 ≤ 7 := by omega
            have HS1 := Lib.hid (show stepA (s, all) ⟨kind, num, A1, m1, cc1, ps⟩ = (s.closeS (1 + num % 8), all) from by unfold stepA; rw [if_neg hne, if_pos hk4])
            clear hk4 hne
            generalize num % 8 = r8 at *
            go_wp2_with fail
            obtain ⟨b1, b2, hblk, hm⟩ := HI.out.p7
            refine wp_region_held_drew (S := fun W => W.heap[q]? = some (.cells (stoCells s.c s.n (.map b1) (.map b2) s.B s.T) 57 (0, 0)) ∧ W.cell? ⟨b, o + k * 3 + 1, none⟩ = some (.int .u8 num)) (by kernel_rfl) ⟨hblk, c1⟩ (fun hHeld => ?_)
            have HHD := Lib.hid hHeld
            have HM := Lib.hid (show s.Maps wr.drew (Mx S w.heap.size q bc bl u9) b1 b2 from hm)
            have hbD : Below wr.heap.size wr wr.drew := (Below.refl _ _).drew
            have HID := Lib.hid (HI.out.below hbD)
            have HCB := Lib.hid (show b < wr.heap.size from World.block_lt_of_cell? wr _ c1)
            have HZD := Lib.hid (show wr.heap.size ≤ wr.drew.heap.size from Nat.le_refl _)
            clear hHeld hm hblk hbD c0 c1 c2 HI
            generalize wr.drew = w2 at *
            refine wpAnyH_take (i := 0) (oi := ⟨some 169, _, _, _, _, _⟩) (v := s.val b1 b2) rfl (by kernel_rfl) (by kernel_rfl) (by kernel_rfl) (fun _ _ _ h => h) (yields_sto (by rfl) _ rfl q rfl 57 (0, 0) (fun _ h => h.1)) HHD.out ?_
            try simp only [Act.put, List.setIfInBounds_toArray, List.set_cons_zero, List.set_cons_succ]
            refine wpAnyH_take (i := 1) (oi := ⟨some 170, _, _, _, _, _⟩) (v := .slice (some ⟨b, o, none⟩) m cc) rfl (by kernel_rfl) (by kernel_rfl) (by kernel_rfl) (fun _ _ _ h => h) (Or.inl ⟨by rfl, ?_⟩) HHD.out ?_
            · intro W' hW
              go_simp
            try simp only [Act.put, List.setIfInBounds_toArray, List.set_cons_zero, List.set_cons_succ]
            refine wpAnyH_take (i := 2) (oi := ⟨some 171, _, _, _, _, _⟩) (v := .int .i64 k) rfl (by kernel_rfl) (by kernel_rfl) (by kernel_rfl) (fun _ _ _ h => h) (Or.inl ⟨by rfl, ?_⟩) HHD.out ?_
            · intro W' hW
              go_simp
            try simp only [Act.put, List.setIfInBounds_toArray, List.set_cons_zero, List.set_cons_succ]
            refine wpAnyH_take (i := 3) (oi := ⟨some 172, _, _, _, _, _⟩) (v := .pointer (some ⟨b, o + k * 3, none⟩)) rfl (by kernel_rfl) (by kernel_rfl) (by kernel_rfl) (fun _ _ _ h => h) (Or.inl ⟨by rfl, ?_⟩) HHD.out ?_
            · intro W' hW
              go_simp
            try simp only [Act.put, List.setIfInBounds_toArray, List.set_cons_zero, List.set_cons_succ]
            refine wpAnyH_take (i := 4) (oi := ⟨some 173, _, _, _, _, _⟩) (v := .pointer (some ⟨b, o + k * 3 + 1, none⟩)) rfl (by kernel_rfl) (by kernel_rfl) (by kernel_rfl) (fun _ _ _ h => h) (Or.inl ⟨by rfl, ?_⟩) HHD.out ?_
            · intro W' hW
              go_simp
            try simp only [Act.put, List.setIfInBounds_toArray, List.set_cons_zero, List.set_cons_succ]
            refine wpAnyH_take (i := 5) (oi := ⟨some 174, _, _, _, _, _⟩) (v := .int .u8 num) rfl (by kernel_rfl) (by kernel_rfl) (by kernel_rfl) (fun _ _ _ h => h) (Or.inl ⟨by rfl, ?_⟩) HHD.out ?_
            · intro W' hW
              have hW2 := hW.2
              go_simp
            try simp only [Act.put, List.setIfInBounds_toArray, List.set_cons_zero, List.set_cons_succ]
            refine wpAnyH_take (i := 6) (oi := ⟨some 175, _, _, _, _, _⟩) (v := .int .u8 r8) rfl (by kernel_rfl) (by kernel_rfl) (by kernel_rfl) (fun _ _ _ h => h) (Or.inl ⟨by rfl, ?_⟩) HHD.out ?_
            · intro W' hW
              go_simp
            try simp only [Act.put, List.setIfInBounds_toArray, List.set_cons_zero, List.set_cons_succ]
            refine wpAnyH_take (i := 7) (oi := ⟨some 176, _, _, _, _, _⟩) (v := .int .i64 r8) rfl (by kernel_rfl) (by kernel_rfl) (by kernel_rfl) (fun _ _ _ h => h) (Or.inl ⟨by rfl, ?_⟩) HHD.out ?_
            · intro W' hW
              go_simp
              simp [IntKind.wrap, IntKind.bits, IntKind.signed]; omega
            try simp only [Act.put, List.setIfInBounds_toArray, List.set_cons_zero, List.set_cons_succ]
            refine wpAnyH_take (i := 8) (oi := ⟨some 177, _, _, _, _, _⟩) (v := .int .i64 (1 + r8)) rfl (by kernel_rfl) (by kernel_rfl) (by kernel_rfl) (fun _ _ _ h => h) (Or.inl ⟨by rfl, ?_⟩) HHD.out ?_
            · intro W' hW
              go_simp
              simp [IntKind.wrap, IntKind.bits, IntKind.signed]; omega
            try simp only [Act.put, List.setIfInBounds_toArray, List.set_cons_zero, List.set_cons_succ]
            refine wpAnyH_ready (rs := [9, 13]) (by kernel_rfl) (by simp) ?_
            refine AllReadyH.cons (o := ⟨some 178, _, _, _, _, _⟩) rfl (fun K hK => ?_) (AllReadyH.cons (o := ⟨some 16, _, _, _, _, _⟩) rfl (fun K hK => ?_) (AllReadyH.nil))
            · skip
              go_simp
              refine (st_close (s := s) (b1 := b1) (b2 := b2) (1 + r8) w2).mono ?_
              rintro e w3 ⟨E, rfl, hE, hb⟩
              have hz2 : wr.heap.size ≤ w3.heap.size := Nat.le_trans HZD.out hb.size
              have HI3 := Lib.hid (HID.out.below hb)
              have HM3 := Lib.hid ((Sn.closeS_maps (HM.out.below hb) (1 + r8)).more (S' := fun b => Mx S w.heap.size q bc bl u9 b ∧ b ≠ w3.heap.size) fun b hb h => ⟨h, by omega⟩)
              have HH3 := Lib.hid (And.intro ((hb.block q (lt_of_block HHD.out.1)).trans HHD.out.1) ((hb.cell (World.block_lt_of_cell? _ _ HHD.out.2)).trans HHD.out.2))
              refine hK.out _ _ HH3.out (fun hHeld3 => ?_)
              clear hK hb HHD HM HID
              try simp only [Act.put, List.setIfInBounds_toArray, List.set_cons_zero, List.set_cons_succ]
              refine wpAnyH_take (i := 10) (oi := ⟨some 168, _, _, _, _, _⟩) (v := .tuple #[(s.closeS (1 + r8)).val b1 b2, .int .i64 E]) rfl (by kernel_rfl) (by kernel_rfl) (by kernel_rfl) (fun _ _ _ h => h) (Or.inl ⟨by rfl, ?_⟩) HH3.out ?_
              · intro W' hW
                go_simp
              try simp only [Act.put, List.setIfInBounds_toArray, List.set_cons_zero, List.set_cons_succ]
              refine wpAnyH_take (i := 11) (oi := ⟨some 179, _, _, _, _, _⟩) (v := (s.closeS (1 + r8)).val b1 b2) rfl (by kernel_rfl) (by kernel_rfl) (by kernel_rfl) (fun _ _ _ h => h) (Or.inl ⟨by rfl, ?_⟩) HH3.out ?_
              · intro W' hW
                go_simp
              try simp only [Act.put, List.setIfInBounds_toArray, List.set_cons_zero, List.set_cons_succ]
              refine wpAnyH_take (i := 12) (oi := ⟨some 180, _, _, _, _, _⟩) (v := .int .i64 E) rfl (by kernel_rfl) (by kernel_rfl) (by kernel_rfl) (fun _ _ _ h => h) (Or.inl ⟨by rfl, ?_⟩) HH3.out ?_
              · intro W' hW
                go_simp
              try simp only [Act.put, List.setIfInBounds_toArray, List.set_cons_zero, List.set_cons_succ]
              refine wpAnyH_ready (rs := [13]) (by kernel_rfl) (by simp) ?_
              refine AllReadyH.cons (o := ⟨some 16, _, _, _, _, _⟩) rfl (fun K hK => ?_) (AllReadyH.nil)
              refine Eq.mpr (if_pos (by kernel_rfl)) ?_
              refine wp_alloc_at rfl ?_
              intro w4 hp4 hb4 hz4
              have P4 := Lib.hid hp4
              have HB4 := Lib.hid hb4
              have HM4 := Lib.hid (HM3.out.below hb4)
              have HH4 := Lib.hid (And.intro ((hb4.block q (lt_of_block HH3.out.1)).trans HH3.out.1) ((hb4.cell (World.block_lt_of_cell? _ _ HH3.out.2)).trans HH3.out.2))
              refine hK.out _ _ HH4.out (fun hHeld4 => ?_)
              clear hK hp4 hb4 hz4 HH3 HM3
              try simp only [Act.put, List.setIfInBounds_toArray, List.set_cons_zero, List.set_cons_succ]
              refine wpAnyH_ready (rs := [14]) (by kernel_rfl) (by simp) ?_
              refine AllReadyH.cons (o := ⟨none, _, _, _, _, _⟩) rfl (fun K hK => ?_) (AllReadyH.nil)
              refine Eq.mpr (if_pos (by kernel_rfl)) ?_
              refine wp_put_at (.tmp 16) (.tmp 179) rfl w3.heap.size rfl rfl P4.out HM4.out (fun h => h.2 rfl) ?_
              intro w5 hp5 ht5
              have P5 := Lib.hid hp5
              have hMI := HI3.out.below (ht5.below HB4.out (Nat.le_refl _))
              have HH5 := Lib.hid (And.intro ((ht5.block (by have := HI3.out.lt; omega)).trans HH4.out.1) ((ht5.cell (p := ⟨b, o + k * 3 + 1, none⟩) (by have := HCB.out; have := hz2; show b ≠ _; omega)).trans HH4.out.2))
              refine hK.out _ _ HH5.out (fun hHeld5 => ?_)
              clear hK hp5 ht5 HH4 HM4 P4 HB4 HI3
              try simp only [Act.put]
              have HI5 := Lib.hid hMI
              clear hMI
              refine wpAnyH_take (i := 15) (oi := ⟨some 17, _, _, _, _, _⟩) (v := .int .i64 E) rfl (by kernel_rfl) (by kernel_rfl) (by kernel_rfl) (fun _ _ _ h => h) (Or.inl ⟨by rfl, ?_⟩) HH5.out ?_
              · intro W' hW
                go_simp
              try simp only [Act.put, List.setIfInBounds_toArray, List.set_cons_zero, List.set_cons_succ]
              refine wpAnyH_done (by kernel_rfl) ?_ _
              clear HH5
              generalize w3.heap.size = p at *
              rcases hE with rfl | ⟨rfl, hsame⟩
              · go_wp2_with (with_reducible refine at_load_ (t := 57) ?_; refine get_at rfl _ rfl p rfl P5.out ?_)
                intro b5 b6 hm
                have HM := Lib.hid hm
                clear hm
                try simp only [Act.put, List.setIfInBounds_toArray, List.set_cons_zero, List.set_cons_succ]
                go_wp2_with (with_reducible refine at_store_ (t := 57) ?_; refine Hid.out ?_)
                refine Lib.hid ?_
                refine put_at rfl (.tmp 7) (.tmp 183) rfl rfl q rfl rfl HI5.out.p7 HM.out (fun h => h.1.2.2.1 rfl) ?_
                intro w6 hp6 ht6
                have HI6 := Lib.hid (HI5.out.touch ht6 (hp6.more fun b _ h => h.1))
                clear hp6 ht6 HI5 HM P5
                go_wp2
                go_roundw
                case rel => exact Lib.hid ⟨k + 1, HK.out, by go_num, by rw [HST.out, HS1.out]; dsimp only; rw [(closeS_cnt s (1 + r8) n).1, (closeS_cnt s (1 + r8) n).2]; exact HI6.out⟩
                case measure => exact meas_up _ _ HK.out
              · have HSA := Lib.hid hsame
                clear hsame P5
                go_wp2
                go_roundw
                case rel => exact Lib.hid ⟨k + 1, HK.out, by go_num, by rw [HST.out, HS1.out]; dsimp only; rw [HSA.out]; exact HI5.out⟩
                case measure => exact meas_up _ _ HK.out
            · skip
              refine Eq.mpr (if_pos (by kernel_rfl)) ?_
              refine wp_alloc_at rfl ?_
              intro w3 hp3 hb3 hz3
              have P3 := Lib.hid hp3
              have HI3 := Lib.hid (HID.out.below hb3)
              have HM3 := Lib.hid ((HM.out.more (S' := fun b => Mx S w.heap.size q bc bl u9 b ∧ b ≠ w2.heap.size) fun b hb h => ⟨h, by omega⟩).below hb3)
              have HB3 := Lib.hid hb3
              have HH3 := Lib.hid (And.intro ((hb3.block q (lt_of_block HHD.out.1)).trans HHD.out.1) ((hb3.cell (World.block_lt_of_cell? _ _ HHD.out.2)).trans HHD.out.2))
              refine hK.out _ _ HH3.out (fun hHeld3 => ?_)
              clear hK hp3 hb3 hz3 HHD HM
              try simp only [Act.put, List.setIfInBounds_toArray, List.set_cons_zero, List.set_cons_succ]
              refine wpAnyH_ready (rs := [9]) (by kernel_rfl) (by simp) ?_
              refine AllReadyH.cons (o := ⟨some 178, _, _, _, _, _⟩) rfl (fun K hK => ?_) (AllReadyH.nil)
              go_simp
              refine (st_close (s := s) (b1 := b1) (b2 := b2) (1 + r8) w3).mono ?_
              rintro e w4 ⟨E, rfl, hE, hb⟩
              have P4 := Lib.hid (P3.out.below hb)
              have HB4 := Lib.hid (HB3.out.trans (hb.mono HB3.out.size))
              have HM4 := Lib.hid (Sn.closeS_maps (HM3.out.below hb) (1 + r8))
              have HH4 := Lib.hid (And.intro ((hb.block q (lt_of_block HH3.out.1)).trans HH3.out.1) ((hb.cell (World.block_lt_of_cell? _ _ HH3.out.2)).trans HH3.out.2))
              refine hK.out _ _ HH4.out (fun hHeld4 => ?_)
              clear hK hb HH3 HM3 P3 HB3
              try simp only [Act.put, List.setIfInBounds_toArray, List.set_cons_zero, List.set_cons_succ]
              refine wpAnyH_take (i := 10) (oi := ⟨some 168, _, _, _, _, _⟩) (v := .tuple #[(s.closeS (1 + r8)).val b1 b2, .int .i64 E]) rfl (by kernel_rfl) (by kernel_rfl) (by kernel_rfl) (fun _ _ _ h => h) (Or.inl ⟨by rfl, ?_⟩) HH4.out ?_
              · intro W' hW
                go_simp
              try simp only [Act.put, List.setIfInBounds_toArray, List.set_cons_zero, List.set_cons_succ]
              refine wpAnyH_take (i := 11) (oi := ⟨some 179, _, _, _, _, _⟩) (v := (s.closeS (1 + r8)).val b1 b2) rfl (by kernel_rfl) (by kernel_rfl) (by kernel_rfl) (fun _ _ _ h => h) (Or.inl ⟨by rfl, ?_⟩) HH4.out ?_
              · intro W' hW
                go_simp
              try simp only [Act.put, List.setIfInBounds_toArray, List.set_cons_zero, List.set_cons_succ]
              refine wpAnyH_take (i := 12) (oi := ⟨some 180, _, _, _, _, _⟩) (v := .int .i64 E) rfl (by kernel_rfl) (by kernel_rfl) (by kernel_rfl) (fun _ _ _ h => h) (Or.inl ⟨by rfl, ?_⟩) HH4.out ?_
              · intro W' hW
                go_simp
              try simp only [Act.put, List.setIfInBounds_toArray, List.set_cons_zero, List.set_cons_succ]
              refine wpAnyH_ready (rs := [14]) (by kernel_rfl) (by simp) ?_
              refine AllReadyH.cons (o := ⟨none, _, _, _, _, _⟩) rfl (fun K hK => ?_) (AllReadyH.nil)
              refine Eq.mpr (if_pos (by kernel_rfl)) ?_
              refine wp_put_at (.tmp 16) (.tmp 179) rfl w2.heap.size rfl rfl P4.out HM4.out (fun h => h.2 rfl) ?_
              intro w5 hp5 ht5
              have P5 := Lib.hid hp5
              have hMI := HID.out.below (ht5.below HB4.out (Nat.le_refl _))
              have HH5 := Lib.hid (And.intro ((ht5.block (by have := HID.out.lt; omega)).trans HH4.out.1) ((ht5.cell (p := ⟨b, o + k * 3 + 1, none⟩) (by have := HCB.out; have := HZD.out; show b ≠ _; omega)).trans HH4.out.2))
              refine hK.out _ _ HH5.out (fun hHeld5 => ?_)
              clear hK hp5 ht5 HH4 HM4 P4 HB4 HI3 HID
              try simp only [Act.put]
              have HI5 := Lib.hid hMI
              clear hMI
              refine wpAnyH_take (i := 15) (oi := ⟨some 17, _, _, _, _, _⟩) (v := .int .i64 E) rfl (by kernel_rfl) (by kernel_rfl) (by kernel_rfl) (fun _ _ _ h => h) (Or.inl ⟨by rfl, ?_⟩) HH5.out ?_
              · intro W' hW
                go_simp
              try simp only [Act.put, List.setIfInBounds_toArray, List.set_cons_zero, List.set_cons_succ]
              refine wpAnyH_done (by kernel_rfl) ?_ _
              clear HH5
              generalize w2.heap.size = p at *
              rcases hE with rfl | ⟨rfl, hsame⟩
              · go_wp2_with (with_reducible refine at_load_ (t := 57) ?_; refine get_at rfl _ rfl p rfl P5.out ?_)
                intro b5 b6 hm
                have HM := Lib.hid hm
                clear hm
                try simp only [Act.put, List.setIfInBounds_toArray, List.set_cons_zero, List.set_cons_succ]
                go_wp2_with (with_reducible refine at_store_ (t := 57) ?_; refine Hid.out ?_)
                refine Lib.hid ?_
                refine put_at rfl (.tmp 7) (.tmp 183) rfl rfl q rfl rfl HI5.out.p7 HM.out (fun h => h.1.2.2.1 rfl) ?_
                intro w6 hp6 ht6
                have HI6 := Lib.hid (HI5.out.touch ht6 (hp6.more fun b _ h => h.1))
                clear hp6 ht6 HI5 HM P5
                go_wp2
                go_roundw
                case rel => exact Lib.hid ⟨k + 1, HK.out, by go_num, by rw [HST.out, HS1.out]; dsimp only; rw [(closeS_cnt s (1 + r8) n).1, (closeS_cnt s (1 + r8) n).2]; exact HI6.out⟩
                case measure => exact meas_up _ _ HK.out
              · have HSA := Lib.hid hsame
                clear hsame P5
                go_wp2
                go_roundw
                case rel => exact Lib.hid ⟨k + 1, HK.out, by go_num, by rw [HST.out, HS1.out]; dsimp only; rw [HSA.out]; exact HI5.out⟩
                case measure => exact meas_up _ _ HK.out
          · have hne1 : kind % 4 ≠ 1 := hk4.1
            have hne2 : kind % 4 ≠ 2 := hk4.2
            have hmod : kind.tmod 4 = kind % 4 := tmod_pos hk0 rfl
            have HS1 := Lib.hid (show stepA (s, all) ⟨kind, num, A1, m1, cc1, ps⟩ = s.putS all ps from by unfold stepA; rw [if_neg hne1, if_neg hne2])
            have hr1 : (kind % 4 == 1) = false := by simpa using hne1
            have hr2 : (kind % 4 == 2) = false := by simpa using hne2
            clear hk4 hne1 hne2
            generalize kind % 4 = r4 at *
            go_wp2
            have HC2 := Lib.hid c2
            have hpm : m1 = ps.length := HA.out.2.1
            have hpn := HA.out.1.2
            dsimp only at hpn
            have HPN := Lib.hid hpn
            have HPM := Lib.hid hpm
            have hm8' : (ps.length : Int) ≤ 8 := by omega
            clear c0 c1 c2 hpn
            subst hpm
            have hsc : s.c = (n : Int) := HGd.out.hc
            have HSC := Lib.hid hsc
            clear hsc hm8
            rename World => wa
            go_loopw [18, 19] (fun v i wx => ∃ j : Nat, j ≤ n ∧ i = .int .i64 j ∧ Hid (wx.ownsRow wa.heap.size 69 6 v (s.ents ps j).length (flatE (s.ents ps j))) ∧ Hid (Below wa.heap.size wa wx)) (fun _ i _ => n - (intOf i).toNat)
            case atStart => exact ⟨0, by omega, rfl, Lib.hid (World.ownsRow_nil _ _ _ _), Lib.hid (Below.refl _ _)⟩
            case round =>
              obtain ⟨j, hj, rfl, HO, HB⟩ := hrel
              by_cases hjn : j < n
              · have hji : (j : Int) < (n : Int) := by omega
                have HJ := Lib.hid hjn
                clear hj hjn
                go_wp2
                rename World => wb
                have HLE := Lib.hid (ents_len (s := s) (ps := ps) j)
                go_loopw [18, 20] (fun v i wx => ∃ x : Nat, x ≤ ps.length ∧ i = .int .i64 x ∧ Hid (noPut s.c ps j x) ∧ Hid (wx.ownsRow wa.heap.size 69 6 v (s.ents ps j).length (flatE (s.ents ps j))) ∧ Hid (Below wa.heap.size wa wx)) (fun _ i _ => ps.length - (intOf i).toNat)
                case atStart => exact ⟨0, by omega, rfl, Lib.hid (fun i _ h => absurd h (by omega)), HO, HB⟩
                case round =>
                  clear HO HB
                  obtain ⟨x, hx, rfl, HNP, HO, HB⟩ := hrel
                  have c2 : wr.cell? ⟨b, o + k * 3 + 2, none⟩ = some (.slice A1 ps.length cc1) := (HB.out.cell (World.block_lt_of_cell? _ _ HC2.out)).trans HC2.out
                  by_cases hxn : x < ps.length
                  · have hxi : (x : Int) < (ps.length : Int) := by omega
                    obtain ⟨bp, op, eA, hcp⟩ := HA.out.cell x hxn
                    dsimp only at eA
                    subst eA
                    have d1 := (hcp wr HB.out).1
                    have d2 := (hcp wr HB.out).2
                    dsimp only at d1 d2
                    obtain ⟨p0, p1, p2, p3⟩ := HPN.out ps[x] (List.getElem_mem hxn)
                    have HX := Lib.hid hxn
                    have HHIT := Lib.hid (putOf_hit HNP.out hxn)
                    have HMISS := Lib.hid (noPut_next HNP.out hxn)
                    rw [HSC.out] at HHIT HMISS
                    clear hcp hx
                    generalize ps[x] = p at *
                    clear hxn
                    obtain ⟨pa, pv⟩ := p
                    dsimp only at *
                    have hz : (pa + 128).tmod (n : Int) = (pa + 128) % (n : Int) := tmod_pos (by omega) rfl
                    have hz0 : 0 ≤ (pa + 128) % (n : Int) := Int.emod_nonneg _ (by omega)
                    have hz1 : (pa + 128) % (n : Int) < (n : Int) := Int.emod_lt_of_pos _ (by omega)
                    generalize (pa + 128) % (n : Int) = z at *
                    by_cases hzj : z = (j : Int)
                    · have HP := Lib.hid (HHIT.out hzj)
                      clear HHIT HMISS
                      subst hzj
                      have HLJ := Lib.hid (show ∀ W, Below wa.heap.size wa W → W.cell? ⟨bl, j, none⟩ = some (.int .i64 (lastP (s.L j)).2) from fun W h => by
                        have e := (HI.out.hL.cellAt j (by have := HJ.out; omega)).trans (last_at n j HJ.out)
                        exact (h.cell (World.block_lt_of_cell? _ _ e)).trans e)
                      have HCJ := Lib.hid (show ∀ W, Below wa.heap.size wa W → W.cell? ⟨bc, j, none⟩ = some (.int .u32 (s.W j)) from fun W h => by
                        have e := (HI.out.hC.cellAt j (by have := HJ.out; omega)).trans (cnt_at0 n j HJ.out)
                        exact (h.cell (World.block_lt_of_cell? _ _ e)).trans e)
                      have HE := Lib.hid (show s.ents ps (j + 1) = s.ents ps j ++ [s.ent j pv] by show _ ++ _ = _; rw [HSC.out, HP.out]; rfl)
                      go_wp2
                      have e3 : (wr.alloc (.cells #[.int .i8 pa, .int .i8 pv] 150)).cell? ⟨wr.heap.size, 1, none⟩ = some (.int .i8 pv) := by rw [World.cell?_alloc_at _ _ _ _ rfl]; rfl
                      have HB7 := Lib.hid (HB.out.alloc HB.out.size (.cells #[.int .i8 pa, .int .i8 pv] 150))
                      have HO7 := Lib.hid (HO.out.alloc (.cells #[.int .i8 pa, .int .i8 pv] 150))
                      generalize wr.alloc (.cells #[.int .i8 pa, .int .i8 pv] 150) = w7 at *
                      have e1 := HLJ.out w7 HB7.out
                      have e2 := HCJ.out w7 HB7.out
                      generalize hlv : (lastP (s.L j)).2 = lv at *
                      generalize hwj : s.W j = wj at *
                      have HLV := Lib.hid hlv
                      have HWJ := Lib.hid hwj
                      clear hlv hwj
                      have HOW := Lib.hid (fun g (hg : u18.ownBlock = some g) => (HO.out.lt g hg).2)
                      clear HLJ HCJ d1 d2 c2 HO HB
                      refine wp_region_held_drew (S := fun W => W.cell? ⟨bl, j, none⟩ = some (.int .i64 lv) ∧ W.cell? ⟨bc, j, none⟩ = some (.int .u32 wj) ∧ W.cell? ⟨wr.heap.size, 1, none⟩ = some (.int .i8 pv)) (by kernel_rfl) ⟨e1, e2, e3⟩ (fun hHeld => ?_)
                      have HHD := Lib.hid hHeld
                      have HBD := Lib.hid HB7.out.drew
                      have HOD := Lib.hid (World.ownsRow.drew HO7.out)
                      clear hHeld e1 e2 e3 HB7 HO7
                      generalize w7.drew = w8 at *
                      refine wpAnyH_take (i := 0) (oi := ⟨some 81, _, _, _, _, _⟩) (v := u18) rfl (by kernel_rfl) (by kernel_rfl) (by kernel_rfl) (fun _ _ _ h => h) (Or.inl ⟨by rfl, ?_⟩) HHD.out ?_
                      · intro W' hW
                        go_simp
                      try simp only [Act.put, List.setIfInBounds_toArray, List.set_cons_zero, List.set_cons_succ]
                      refine wpAnyH_take (i := 1) (oi := ⟨some 82, _, _, _, _, _⟩) (v := .int .i64 j) rfl (by kernel_rfl) (by kernel_rfl) (by kernel_rfl) (fun _ _ _ h => h) (Or.inl ⟨by rfl, ?_⟩) HHD.out ?_
                      · intro W' hW
                        go_simp
                      try simp only [Act.put, List.setIfInBounds_toArray, List.set_cons_zero, List.set_cons_succ]
                      refine wpAnyH_take (i := 2) (oi := ⟨some 83, _, _, _, _, _⟩) (v := .slice (some ⟨bl, 0, none⟩) n n) rfl (by kernel_rfl) (by kernel_rfl) (by kernel_rfl) (fun _ _ _ h => h) (Or.inl ⟨by rfl, ?_⟩) HHD.out ?_
                      · intro W' hW
                        go_simp
                      try simp only [Act.put, List.setIfInBounds_toArray, List.set_cons_zero, List.set_cons_succ]
                      refine wpAnyH_take (i := 3) (oi := ⟨some 84, _, _, _, _, _⟩) (v := .int .i64 j) rfl (by kernel_rfl) (by kernel_rfl) (by kernel_rfl) (fun _ _ _ h => h) (Or.inl ⟨by rfl, ?_⟩) HHD.out ?_
                      · intro W' hW
                        go_simp
                      try simp only [Act.put, List.setIfInBounds_toArray, List.set_cons_zero, List.set_cons_succ]
                      refine wpAnyH_take (i := 4) (oi := ⟨some 85, _, _, _, _, _⟩) (v := .pointer (some ⟨bl, j, none⟩)) rfl (by kernel_rfl) (by kernel_rfl) (by kernel_rfl) (fun _ _ _ h => h) (Or.inl ⟨by rfl, ?_⟩) HHD.out ?_
                      · intro W' hW
                        go_simp
                      try simp only [Act.put, List.setIfInBounds_toArray, List.set_cons_zero, List.set_cons_succ]
                      refine wpAnyH_take (i := 5) (oi := ⟨some 86, _, _, _, _, _⟩) (v := .int .i64 lv) rfl (by kernel_rfl) (by kernel_rfl) (by kernel_rfl) (fun _ _ _ h => h) (Or.inl ⟨by rfl, ?_⟩) HHD.out ?_
                      · intro W' hW
                        have hf := hW.1
                        go_simp
                      try simp only [Act.put, List.setIfInBounds_toArray, List.set_cons_zero, List.set_cons_succ]
                      refine wpAnyH_take (i := 6) (oi := ⟨some 87, _, _, _, _, _⟩) (v := .slice (some ⟨bc, 0, none⟩) n n) rfl (by kernel_rfl) (by kernel_rfl) (by kernel_rfl) (fun _ _ _ h => h) (Or.inl ⟨by rfl, ?_⟩) HHD.out ?_
                      · intro W' hW
                        go_simp
                      try simp only [Act.put, List.setIfInBounds_toArray, List.set_cons_zero, List.set_cons_succ]
                      refine wpAnyH_take (i := 7) (oi := ⟨some 88, _, _, _, _, _⟩) (v := .int .i64 j) rfl (by kernel_rfl) (by kernel_rfl) (by kernel_rfl) (fun _ _ _ h => h) (Or.inl ⟨by rfl, ?_⟩) HHD.out ?_
                      · intro W' hW
                        go_simp
                      try simp only [Act.put, List.setIfInBounds_toArray, List.set_cons_zero, List.set_cons_succ]
                      refine wpAnyH_take (i := 8) (oi := ⟨some 89, _, _, _, _, _⟩) (v := .pointer (some ⟨bc, j, none⟩)) rfl (by kernel_rfl) (by kernel_rfl) (by kernel_rfl) (fun _ _ _ h => h) (Or.inl ⟨by rfl, ?_⟩) HHD.out ?_
                      · intro W' hW
                        go_simp
                      try simp only [Act.put, List.setIfInBounds_toArray, List.set_cons_zero, List.set_cons_succ]
                      refine wpAnyH_take (i := 9) (oi := ⟨some 90, _, _, _, _, _⟩) (v := .int .u32 wj) rfl (by kernel_rfl) (by kernel_rfl) (by kernel_rfl) (fun _ _ _ h => h) (Or.inl ⟨by rfl, ?_⟩) HHD.out ?_
                      · intro W' hW
                        have hf := hW.2.1
                        go_simp
                      try simp only [Act.put, List.setIfInBounds_toArray, List.set_cons_zero, List.set_cons_succ]
                      refine wpAnyH_take (i := 10) (oi := ⟨some 91, _, _, _, _, _⟩) (v := .agg #[.int .i64 lv, .int .u32 wj, .int .u32 0]) rfl (by kernel_rfl) (by kernel_rfl) (by kernel_rfl) (fun _ _ _ h => h) (Or.inl ⟨by rfl, ?_⟩) HHD.out ?_
                      · intro W' hW
                        go_simp
                      try simp only [Act.put, List.setIfInBounds_toArray, List.set_cons_zero, List.set_cons_succ]
                      refine wpAnyH_take (i := 11) (oi := ⟨some 92, _, _, _, _, _⟩) (v := .pointer (some ⟨wr.heap.size, 1, none⟩)) rfl (by kernel_rfl) (by kernel_rfl) (by kernel_rfl) (fun _ _ _ h => h) (Or.inl ⟨by rfl, ?_⟩) HHD.out ?_
                      · intro W' hW
                        go_simp
                      try simp only [Act.put, List.setIfInBounds_toArray, List.set_cons_zero, List.set_cons_succ]
                      refine wpAnyH_take (i := 12) (oi := ⟨some 93, _, _, _, _, _⟩) (v := .int .i8 pv) rfl (by kernel_rfl) (by kernel_rfl) (by kernel_rfl) (fun _ _ _ h => h) (Or.inl ⟨by rfl, ?_⟩) HHD.out ?_
                      · intro W' hW
                        have hf := hW.2.2
                        go_simp
                      try simp only [Act.put, List.setIfInBounds_toArray, List.set_cons_zero, List.set_cons_succ]
                      refine wpAnyH_take (i := 13) (oi := ⟨some 94, _, _, _, _, _⟩) (v := .int .i64 pv) rfl (by kernel_rfl) (by kernel_rfl) (by kernel_rfl) (fun _ _ _ h => h) (Or.inl ⟨by rfl, ?_⟩) HHD.out ?_
                      · intro W' hW
                        go_simp
                        simp [IntKind.wrap, IntKind.bits, IntKind.signed]; omega
                      try simp only [Act.put, List.setIfInBounds_toArray, List.set_cons_zero, List.set_cons_succ]
                      refine wpAnyH_take (i := 14) (oi := ⟨some 95, _, _, _, _, _⟩) (v := .agg #[.int .i64 j, .int .i64 lv, .int .u32 wj, .int .u32 0, .int .i64 pv, .bool true]) rfl (by kernel_rfl) (by kernel_rfl) (by kernel_rfl) (fun _ _ _ h => h) (Or.inl ⟨by rfl, ?_⟩) HHD.out ?_
                      · intro W' hW
                        go_simp
                      try simp only [Act.put, List.setIfInBounds_toArray, List.set_cons_zero, List.set_cons_succ]
                      refine wpAnyH_ready (rs := [15]) (by kernel_rfl) (by simp) ?_
                      refine AllReadyH.cons (o := ⟨some 96, _, _, _, _, _⟩) rfl (fun K hK => ?_) (AllReadyH.nil)
                      go_simp
                      have HB9 := Lib.hid (HBD.out.alloc HBD.out.size (.cells #[.int .i64 j, .int .i64 lv, .int .u32 wj, .int .u32 0, .int .i64 pv, .bool true] 69))
                      have HO9 := Lib.hid (HOD.out.alloc (.cells #[.int .i64 j, .int .i64 lv, .int .u32 wj, .int .u32 0, .int .i64 pv, .bool true] 69))
                      have HR9 := Lib.hid (Reads.new (S := fun _ => True) (size := 6) (n := 1) w8 #[.int .i64 j, .int .i64 lv, .int .u32 wj, .int .u32 0, .int .i64 pv, .bool true] 69 rfl trivial)
                      have hbb : Below w8.heap.size w8 (w8.alloc (.cells #[.int .i64 j, .int .i64 lv, .int .u32 wj, .int .u32 0, .int .i64 pv, .bool true] 69)) := (Below.refl _ _).alloc (Nat.le_refl _) _
                      have HH9 := Lib.hid (And.intro ((hbb.cell (World.block_lt_of_cell? _ _ HHD.out.1)).trans HHD.out.1) (And.intro ((hbb.cell (World.block_lt_of_cell? _ _ HHD.out.2.1)).trans HHD.out.2.1) ((hbb.cell (World.block_lt_of_cell? _ _ HHD.out.2.2)).trans HHD.out.2.2)))
                      have HZ9 := Lib.hid (HBD.out.size)
                      generalize w8.alloc (.cells #[.int .i64 j, .int .i64 lv, .int .u32 wj, .int .u32 0, .int .i64 pv, .bool true] 69) = w9 at *
                      refine hK.out _ _ HH9.out (fun hHeld9 => ?_)
                      clear hK hbb HHD HBD HOD hHeld9
                      try simp only [Act.put, List.setIfInBounds_toArray, List.set_cons_zero, List.set_cons_succ]
                      refine wpAnyH_ready (rs := [16]) (by kernel_rfl) (by simp) ?_
                      refine AllReadyH.cons (o := ⟨some 97, _, _, _, _, _⟩) rfl (fun K hK => ?_) (AllReadyH.nil)
                      refine Eq.mpr (if_pos (by kernel_rfl)) ?_
                      refine wp_append_any (.tmp 81) (.tmp 96) 91 rfl wa.heap.size 69 ie _ 6 40 Try.underlying91 hie0 hie1 hie2 hie3 rfl (by omega) u18 _ _ rfl HO9.out _ _ 1 1 _ rfl HR9.out ?q1 ?q2 ?q3 HB9.out.size ?q4
                      case q1 => intro u hu; simp at hu; rcases hu with rfl | rfl | rfl | rfl | rfl | rfl <;> rfl
                      case q2 => have := HLE.out; have := HJ.out; have := HG.out; simp only [maxLen]; omega
                      case q3 => have := HLE.out; have := HJ.out; have := HG.out; omega
                      case q4 =>
                        intro v' w' ho hg hv
                        have HO' := Lib.hid (show w'.ownsRow wa.heap.size 69 6 v' (s.ents ps (j + 1)).length (flatE (s.ents ps (j + 1))) by
                          have e : flatE (s.ents ps (j + 1)) = flatE (s.ents ps j) ++ [.int .i64 j, .int .i64 lv, .int .u32 wj, .int .u32 0, .int .i64 pv, .bool true] := by rw [HE.out]; unfold flatE; rw [List.flatMap_append]; rw [← HLV.out, ← HWJ.out]; rfl
                          rw [e, HE.out, List.length_append]; exact ho)
                        have HB' := Lib.hid (HB9.out.grown hg HB9.out.size (fun g hg' => (HO9.out.lt g hg').1))
                        have k1 : ∀ W1 : World, ∀ p : Addr, p.block < w9.heap.size → some p.block ≠ u18.ownBlock → w9.grownBy w' u18.ownBlock → w'.cell? p = w9.cell? p := fun _ p h1 h2 h3 => World.cell?_of_block (h3.block p.block h1 h2)
                        have HH' := Lib.hid (And.intro ((k1 w9 ⟨bl, j, none⟩ (World.block_lt_of_cell? _ _ HH9.out.1) (fun e => by have := (HO9.out.lt bl e.symm).1; have := HI.out.lt; omega) hg).trans HH9.out.1) (And.intro ((k1 w9 ⟨bc, j, none⟩ (World.block_lt_of_cell? _ _ HH9.out.2.1) (fun e => by have := (HO9.out.lt bc e.symm).1; have := HI.out.lt; omega) hg).trans HH9.out.2.1) ((k1 w9 ⟨wr.heap.size, 1, none⟩ (World.block_lt_of_cell? _ _ HH9.out.2.2) (fun e => Nat.lt_irrefl _ (HOW.out wr.heap.size e.symm)) hg).trans HH9.out.2.2)))
                        refine hK.out _ _ HH'.out (fun hHeld' => ?_)
                        clear hK ho hg hv k1 HH9 HO9 HB9 HR9 HZ9
                        try simp only [Act.put, List.setIfInBounds_toArray, List.set_cons_zero, List.set_cons_succ]
                        refine wpAnyH_take (i := 17) (oi := ⟨some 18, _, _, _, _, _⟩) (v := v') rfl (by kernel_rfl) (by kernel_rfl) (by kernel_rfl) (fun _ _ _ h => h) (Or.inl ⟨by rfl, ?_⟩) HH'.out ?_
                        · intro W' hW
                          go_simp
                        try simp only [Act.put, List.setIfInBounds_toArray, List.set_cons_zero, List.set_cons_succ]
                        refine wpAnyH_done (by kernel_rfl) ?_ _
                        clear HH' hHeld'
                        go_wp2
                        go_roundw
                        case rel => exact ⟨j + 1, HJ.out, by go_num, HO', HB'⟩
                        case measure => exact meas_up _ _ HJ.out
                    · have HM := Lib.hid (HMISS.out hzj)
                      clear HHIT HMISS
                      go_wp2
                      go_roundw
                      case rel => exact ⟨x + 1, HX.out, by go_num, by rw [HSC.out]; exact HM.out, Lib.hid (HO.out.alloc _), Lib.hid (HB.out.alloc HB.out.size _)⟩
                      case measure => exact meas_up _ _ HX.out
                  · obtain rfl : x = ps.length := by omega
                    have HE := Lib.hid (show s.ents ps (j + 1) = s.ents ps j by show _ ++ _ = _; rw [putOf_no HNP.out]; simp)
                    clear hx hxn HNP
                    go_wp2
                    go_roundw
                    case rel => exact ⟨j + 1, HJ.out, by go_num, by rw [HE.out]; exact HO, HB⟩
                    case measure => exact meas_up _ _ HJ.out
              · obtain rfl : j = n := by omega
                clear hj hjn
                have HSA := Lib.hid (show s.c.toNat = j by have := HSC.out; omega)
                have HP := Lib.hid (show s.putS all ps = if (s.ents ps j).length = 0 then (s, all) else (s.commit (s.ents ps j), all ++ (s.ents ps j).map s.w3) by unfold Sn.putS; rw [HSA.out])
                obtain ⟨Ae, ce, rfl, hce1, hce2, hre⟩ := own_reads (S := Mx S w.heap.size q bc bl u9) HO.out (fun b hb => ⟨HS.out b (by have := HI.out.lt; omega), by have := HI.out.lt; omega, by have := HI.out.lt; omega, by have := HI.out.lt; omega, by have := HI.out.lt; omega, fun e => by have := (HI.out.hA.lt b e).2; omega⟩)
                have HE := Lib.hid (show Ents wr (Mx S w.heap.size q bc bl u9) Ae (s.ents ps j).length (s.ents ps j) from ⟨rfl, hre⟩)
                have HLE := Lib.hid (ents_len (s := s) (ps := ps) j)
                have HIx := Lib.hid (HI.out.below HB.out)
                clear hre hce2 HO HB HI HA HC2 HPN
                by_cases h0 : (s.ents ps j).length = 0
                · rw [if_pos h0] at HP
                  have hl0 : ((s.ents ps j).length : Int) = 0 := by omega
                  clear h0 HLE HE
                  generalize (s.ents ps j).length = le at *
                  have hl1 : le = 0 := by omega
                  subst hl1
                  clear hl0
                  go_wp2
                  go_roundw
                  case rel => exact Lib.hid ⟨k + 1, HK.out, by go_num, by rw [HST.out, HS1.out, HP.out]; exact HIx.out⟩
                  case measure => exact meas_up _ _ HK.out
                · rw [if_neg h0] at HP
                  have hl0 : ((s.ents ps j).length : Int) ≠ 0 := by omega
                  obtain ⟨ok1, ok2, ok3⟩ := HGd.out.ents_ok (by have := HG.out; omega) (by have := HG.out; omega) (by have := HG.out; omega) ps
                  rw [HSA.out] at ok1 ok2 ok3
                  obtain ⟨ok4, ok5⟩ := ok2 (by omega)
                  go_wp2_with (with_reducible refine at_load_ (t := 57) ?_; refine get_at rfl _ rfl q rfl HIx.out.p7 ?_)
                  intro b1 b2 hm
                  have CM := Lib.hid (st_commit (s := s) (S := Mx S w.heap.size q bc bl u9) Ae _ ce (s.ents ps j) (fun b hb => ⟨HS.out b (by have := HIx.out.lt; omega), by have := HIx.out.lt; omega, by have := HIx.out.lt; omega, by have := HIx.out.lt; omega, by have := HIx.out.lt; omega, fun e => by have := (HIx.out.hA.lt b e).2; omega⟩) hm (fun k => Nat.le_trans (HGd.out.few (by have := HG.out; omega) k) (by omega)) HE.out ok1 (by have := HLE.out; omega) hce1 ok4 HGd.out.hn0 (by have := HGd.out.hnm; have := HG.out; omega) ok3 ok5)
                  try simp only [Act.put, List.setIfInBounds_toArray, List.set_cons_zero, List.set_cons_succ]
                  clear ok1 ok3 ok4 ok5 hm h0
                  go_wp2_with fail
                  refine CM.out.mono ?_
                  rintro e w2 ⟨b5, b6, rfl, hm2, hb⟩
                  have HI2 := Lib.hid (HIx.out.below hb)
                  have HE2 := Lib.hid (HE.out.below hb)
                  have HM2 := Lib.hid (hm2.more (S' := fun b => Mx S w.heap.size q bc bl u9 b ∧ b ≠ w2.heap.size) fun b hb h => ⟨h, by omega⟩)
                  clear CM hm2 hb HE HIx
                  go_wp2_with (with_reducible refine at_alloc_ (t := 57) ?_; refine alloc_at (S := fun _ => False) rfl rfl ?_)
                  intro w3 hp3 hb3 hz3
                  have P3 := Lib.hid hp3
                  have HB3 := Lib.hid hb3
                  have HM3 := Lib.hid (HM2.out.below hb3)
                  clear hp3 hb3 hz3 HM2
                  go_wp2_with (with_reducible refine at_store_ (t := 57) ?_; refine Hid.out ?_)
                  refine Lib.hid ?_
                  refine put_at rfl (.tmp 22) (.tmp 105) rfl rfl w2.heap.size rfl rfl P3.out HM3.out (fun h => h.2 rfl) ?_
                  intro w4 hp4 ht4
                  have P4 := Lib.hid hp4
                  have hb4 := ht4.below HB3.out (Nat.le_refl _)
                  have HI4 := Lib.hid (HI2.out.below hb4)
                  have HE4 := Lib.hid (HE2.out.below hb4)
                  generalize w2.heap.size = p at *
                  clear hp4 ht4 hb4 P3 HB3 HM3 HI2 HE2
                  go_wp2_with (with_reducible refine at_load_ (t := 57) ?_; refine get_at rfl _ rfl p rfl P4.out ?_)
                  intro b5 b6 hm
                  have HM := Lib.hid hm
                  clear hm
                  try simp only [Act.put, List.setIfInBounds_toArray, List.set_cons_zero, List.set_cons_succ]
                  go_wp2_with (with_reducible refine at_store_ (t := 57) ?_; refine Hid.out ?_)
                  refine Lib.hid ?_
                  refine put_at rfl (.tmp 7) (.tmp 111) rfl rfl q rfl rfl HI4.out.p7 HM.out (fun h => h.1.2.2.1 rfl) ?_
                  intro w5 hp5 ht5
                  have HI5 := Lib.hid (HI4.out.touch ht5 (hp5.more fun b _ h => h.1))
                  have HE5 := Lib.hid (show Ents w5 (Mx S w.heap.size q bc bl u9) Ae (s.ents ps j).length (s.ents ps j) from ⟨HE4.out.1, ht5.reads HE4.out.2 (fun h => h.2.2.1 rfl)⟩)
                  have HE0 := Lib.hid (show EntR w S j q bc bl s all (s.ents ps j) Ae u9 (.int .i64 (0 : Nat)) w5 from ⟨0, by omega, rfl, by rw [List.take_zero, List.map_nil, List.append_nil, (commit_nil (s := s) j).1, (commit_nil (s := s) j).2]; exact HI5.out, HE5.out⟩)
                  clear hp5 ht5 HI4 HM P4 HE4 HI5 HE5
                  have hle8 : ((s.ents ps j).length : Int) ≤ 6 := by have := HLE.out; have := HG.out; omega
                  go_wp2
                  go_loopw [9, 25] (fun v i wx => Hid (EntR w S j q bc bl s all (s.ents ps j) Ae v i wx)) (fun _ i _ => (s.ents ps j).length - (intOf i).toNat)
                  case atStart => exact HE0
                  case round =>
                    clear HE0
                    obtain ⟨y, hy, rfl, hI, hE⟩ := hrel.out
                    clear hrel
                    by_cases hyn : y < (s.ents ps j).length
                    · have HIy := Lib.hid hI
                      have HEy := Lib.hid hE
                      obtain ⟨i, hin, v, hev, hpv, hno, hnx⟩ := ents_at y hyn
                      obtain ⟨be, oe, rfl, hbe, hSe, hce⟩ := hE.cell y hyn
                      have e1 := (hce wr (Below.refl _ _)).1
                      have e2 := (hce wr (Below.refl _ _)).2.2.2.2.1
                      rw [hev] at e1 e2
                      have e1 : wr.cell? ⟨be, oe + y * 6, none⟩ = some (.int .i64 (i : Int)) := e1
                      have e2 : wr.cell? ⟨be, oe + y * 6 + 4, none⟩ = some (.int .i64 v) := e2
                      have hyi : (y : Int) < ((s.ents ps j).length : Int) := by omega
                      have HY := Lib.hid hyn
                      have HNO := Lib.hid hno
                      have HNX := Lib.hid hnx
                      have hii : (i : Int) < (j : Int) := by omega
                      have HIN := Lib.hid hin
                      have HTK := Lib.hid (show ((s.ents ps j).take (y + 1)).map s.w3 = ((s.ents ps j).take y).map s.w3 ++ [((i : Int), s.n + 1, v)] by rw [List.take_succ_eq_append_getElem hyn, List.map_append, hev]; rfl)
                      have HBE := Lib.hid (And.intro hbe hSe)
                      clear hI hE hce hno hnx hy hpv hev hin hyn
                      go_wp2
                      refine wp_region_held_drew (S := fun W => W.cell? ⟨be, oe + y * 6, none⟩ = some (.int .i64 (i : Int)) ∧ W.cell? ⟨be, oe + y * 6 + 4, none⟩ = some (.int .i64 v)) (by kernel_rfl) ⟨e1, e2⟩ (fun hHeld => ?_)
                      have HHD := Lib.hid hHeld
                      have hbd : Below wr.heap.size wr wr.drew := (Below.refl _ _).drew
                      have HID := Lib.hid (HIy.out.below hbd)
                      have HED := Lib.hid (HEy.out.below hbd)
                      have HBD := Lib.hid (show be < wr.drew.heap.size ∧ Mx S w.heap.size q bc bl u9 be from HBE.out)
                      clear hHeld hbd e1 e2 HIy HEy HBE
                      generalize wr.drew = w6 at *
                      refine wpAnyH_take (i := 0) (oi := ⟨some 118, _, _, _, _, _⟩) (v := u9) rfl (by kernel_rfl) (by kernel_rfl) (by kernel_rfl) (fun _ _ _ h => h) (Or.inl ⟨by rfl, ?_⟩) HHD.out ?_
                      · intro W' hW
                        go_simp
                      try simp only [Act.put, List.setIfInBounds_toArray, List.set_cons_zero, List.set_cons_succ]
                      refine wpAnyH_take (i := 1) (oi := ⟨some 119, _, _, _, _, _⟩) (v := (.slice (some ⟨be, oe, none⟩) (s.ents ps j).length ce)) rfl (by kernel_rfl) (by kernel_rfl) (by kernel_rfl) (fun _ _ _ h => h) (Or.inl ⟨by rfl, ?_⟩) HHD.out ?_
                      · intro W' hW
                        go_simp
                      try simp only [Act.put, List.setIfInBounds_toArray, List.set_cons_zero, List.set_cons_succ]
                      refine wpAnyH_take (i := 2) (oi := ⟨some 120, _, _, _, _, _⟩) (v := .int .i64 y) rfl (by kernel_rfl) (by kernel_rfl) (by kernel_rfl) (fun _ _ _ h => h) (Or.inl ⟨by rfl, ?_⟩) HHD.out ?_
                      · intro W' hW
                        go_simp
                      try simp only [Act.put, List.setIfInBounds_toArray, List.set_cons_zero, List.set_cons_succ]
                      refine wpAnyH_take (i := 3) (oi := ⟨some 121, _, _, _, _, _⟩) (v := .pointer (some ⟨be, oe + y * 6, none⟩)) rfl (by kernel_rfl) (by kernel_rfl) (by kernel_rfl) (fun _ _ _ h => h) (Or.inl ⟨by rfl, ?_⟩) HHD.out ?_
                      · intro W' hW
                        go_simp
                      try simp only [Act.put, List.setIfInBounds_toArray, List.set_cons_zero, List.set_cons_succ]
                      refine wpAnyH_take (i := 4) (oi := ⟨some 122, _, _, _, _, _⟩) (v := .pointer (some ⟨be, oe + y * 6, none⟩)) rfl (by kernel_rfl) (by kernel_rfl) (by kernel_rfl) (fun _ _ _ h => h) (Or.inl ⟨by rfl, ?_⟩) HHD.out ?_
                      · intro W' hW
                        go_simp
                      try simp only [Act.put, List.setIfInBounds_toArray, List.set_cons_zero, List.set_cons_succ]
                      refine wpAnyH_take (i := 5) (oi := ⟨some 123, _, _, _, _, _⟩) (v := .int .i64 i) rfl (by kernel_rfl) (by kernel_rfl) (by kernel_rfl) (fun _ _ _ h => h) (Or.inl ⟨by rfl, ?_⟩) HHD.out ?_
                      · intro W' hW
                        have hf := hW.1
                        go_simp
                      try simp only [Act.put, List.setIfInBounds_toArray, List.set_cons_zero, List.set_cons_succ]
                      refine wpAnyH_take (i := 6) (oi := ⟨some 124, _, _, _, _, _⟩) (v := .int .i64 (s.n + 1)) rfl (by kernel_rfl) (by kernel_rfl) (by kernel_rfl) (fun _ _ _ h => h) (Or.inl ⟨by rfl, ?_⟩) HHD.out ?_
                      · intro W' hW
                        go_simp
                      try simp only [Act.put, List.setIfInBounds_toArray, List.set_cons_zero, List.set_cons_succ]
                      refine wpAnyH_take (i := 7) (oi := ⟨some 125, _, _, _, _, _⟩) (v := (.slice (some ⟨be, oe, none⟩) (s.ents ps j).length ce)) rfl (by kernel_rfl) (by kernel_rfl) (by kernel_rfl) (fun _ _ _ h => h) (Or.inl ⟨by rfl, ?_⟩) HHD.out ?_
                      · intro W' hW
                        go_simp
                      try simp only [Act.put, List.setIfInBounds_toArray, List.set_cons_zero, List.set_cons_succ]
                      refine wpAnyH_take (i := 8) (oi := ⟨some 126, _, _, _, _, _⟩) (v := .int .i64 y) rfl (by kernel_rfl) (by kernel_rfl) (by kernel_rfl) (fun _ _ _ h => h) (Or.inl ⟨by rfl, ?_⟩) HHD.out ?_
                      · intro W' hW
                        go_simp
                      try simp only [Act.put, List.setIfInBounds_toArray, List.set_cons_zero, List.set_cons_succ]
                      refine wpAnyH_take (i := 9) (oi := ⟨some 127, _, _, _, _, _⟩) (v := .pointer (some ⟨be, oe + y * 6, none⟩)) rfl (by kernel_rfl) (by kernel_rfl) (by kernel_rfl) (fun _ _ _ h => h) (Or.inl ⟨by rfl, ?_⟩) HHD.out ?_
                      · intro W' hW
                        go_simp
                      try simp only [Act.put, List.setIfInBounds_toArray, List.set_cons_zero, List.set_cons_succ]
                      refine wpAnyH_take (i := 10) (oi := ⟨some 128, _, _, _, _, _⟩) (v := .pointer (some ⟨be, oe + y * 6 + 4, none⟩)) rfl (by kernel_rfl) (by kernel_rfl) (by kernel_rfl) (fun _ _ _ h => h) (Or.inl ⟨by rfl, ?_⟩) HHD.out ?_
                      · intro W' hW
                        go_simp
                      try simp only [Act.put, List.setIfInBounds_toArray, List.set_cons_zero, List.set_cons_succ]
                      refine wpAnyH_take (i := 11) (oi := ⟨some 129, _, _, _, _, _⟩) (v := .int .i64 v) rfl (by kernel_rfl) (by kernel_rfl) (by kernel_rfl) (fun _ _ _ h => h) (Or.inl ⟨by rfl, ?_⟩) HHD.out ?_
                      · intro W' hW
                        have hf := hW.2
                        go_simp
                      try simp only [Act.put, List.setIfInBounds_toArray, List.set_cons_zero, List.set_cons_succ]
                      refine wpAnyH_take (i := 12) (oi := ⟨some 130, _, _, _, _, _⟩) (v := .agg #[.int .i64 i, .int .i64 (s.n + 1), .int .i64 v]) rfl (by kernel_rfl) (by kernel_rfl) (by kernel_rfl) (fun _ _ _ h => h) (Or.inl ⟨by rfl, ?_⟩) HHD.out ?_
                      · intro W' hW
                        go_simp
                      try simp only [Act.put, List.setIfInBounds_toArray, List.set_cons_zero, List.set_cons_succ]
                      refine wpAnyH_ready (rs := [13]) (by kernel_rfl) (by simp) ?_
                      refine AllReadyH.cons (o := ⟨some 131, _, _, _, _, _⟩) rfl (fun K hK => ?_) (AllReadyH.nil)
                      go_simp
                      have hbb : Below w6.heap.size w6 (w6.alloc (.cells #[.int .i64 i, .int .i64 (s.n + 1), .int .i64 v] 106)) := (Below.refl _ _).alloc (Nat.le_refl _) _
                      have HR7 := Lib.hid (Reads.new (S := fun _ => True) (size := 3) (n := 1) w6 #[.int .i64 i, .int .i64 (s.n + 1), .int .i64 v] 106 rfl trivial)
                      have HI7 := Lib.hid (HID.out.below hbb)
                      have HE7 := Lib.hid (HED.out.below hbb)
                      have HH7 := Lib.hid (And.intro ((hbb.cell (World.block_lt_of_cell? _ _ HHD.out.1)).trans HHD.out.1) ((hbb.cell (World.block_lt_of_cell? _ _ HHD.out.2)).trans HHD.out.2))
                      have HB7 := Lib.hid (And.intro (Nat.lt_of_lt_of_le HBD.out.1 hbb.size) HBD.out.2)
                      generalize w6.alloc (.cells #[.int .i64 i, .int .i64 (s.n + 1), .int .i64 v] 106) = w7 at *
                      refine hK.out _ _ HH7.out (fun hHeld7 => ?_)
                      clear hK hbb HHD HID HED HBD hHeld7
                      try simp only [Act.put, List.setIfInBounds_toArray, List.set_cons_zero, List.set_cons_succ]
                      refine wpAnyH_ready (rs := [14]) (by kernel_rfl) (by simp) ?_
                      refine AllReadyH.cons (o := ⟨some 132, _, _, _, _, _⟩) rfl (fun K hK => ?_) (AllReadyH.nil)
                      refine Eq.mpr (if_pos (by kernel_rfl)) ?_
                      have hall := HGd.out.hall
                      have hnm := HGd.out.hnm
                      have HAL := Lib.hid (show (all ++ ((s.ents ps j).take y).map s.w3).length ≤ 1000000 by have := HG.out; rw [List.length_append, List.length_map, List.length_take]; omega)
                      clear hall hnm
                      refine wp_append_any (.tmp 118) (.tmp 131) 101 rfl (bl + 1) 106 iw _ 3 24 Try.underlying101 hiw0 hiw1 hiw2 hiw3 rfl (by omega) u9 _ _ rfl HI7.out.hA _ _ 1 1 _ rfl HR7.out ?r1 ?r2 ?r3 ?r4 ?r5
                      case r1 => intro u hu; simp at hu; rcases hu with rfl | rfl | rfl <;> rfl
                      case r2 => have := HAL.out; simp only [maxLen]; omega
                      case r3 => have := HAL.out; omega
                      case r4 => have := HI7.out.lt; omega
                      case r5 =>
                        intro v' w8 ho hg hv
                        have ho' : w8.ownsRow (bl + 1) 106 3 v' (all ++ ((s.ents ps j).take (y + 1)).map s.w3).length ((all ++ ((s.ents ps j).take (y + 1)).map s.w3).flatMap w3C) := by
                          rw [HTK.out, ← List.append_assoc, List.flatMap_append, List.length_append]
                          exact ho
                        have HI8 := Lib.hid (HI7.out.app ho' hg hv)
                        have hne : ∀ b, Mx S w.heap.size q bc bl u9 b → some b ≠ u9.ownBlock := fun b h e => h.2.2.2.2.2 e.symm
                        have HH8 := Lib.hid (And.intro ((World.cell?_of_block (hg.block be HB7.out.1 (hne be HB7.out.2))).trans HH7.out.1) ((World.cell?_of_block (hg.block be HB7.out.1 (hne be HB7.out.2))).trans HH7.out.2))
                        have HE8 := Lib.hid (show Ents w8 (Mx S w.heap.size q bc bl v') (some ⟨be, oe, none⟩) (s.ents ps j).length (s.ents ps j) from ⟨HE7.out.1, (HE7.out.2.more (S' := fun b => Mx S w.heap.size q bc bl u9 b ∧ b < w7.heap.size) (fun b hb h => ⟨h, hb⟩)).grown hg (fun g e h => hne g h.1 e.symm) |>.more fun b _ h => mx_new h.2 h.1 hv⟩)
                        have HBX := Lib.hid (show be ≠ bc from HB7.out.2.2.2.2.1)
                        refine hK.out _ _ HH8.out (fun hHeld8 => ?_)
                        clear hK ho ho' hg hv hne HH7 HE7 HI7 HB7 HR7
                        try simp only [Act.put, List.setIfInBounds_toArray, List.set_cons_zero, List.set_cons_succ]
                        refine wpAnyH_take (i := 15) (oi := ⟨some 9, _, _, _, _, _⟩) (v := v') rfl (by kernel_rfl) (by kernel_rfl) (by kernel_rfl) (fun _ _ _ h => h) (Or.inl ⟨by rfl, ?_⟩) HH8.out ?_
                        · intro W' hW
                          go_simp
                        try simp only [Act.put, List.setIfInBounds_toArray, List.set_cons_zero, List.set_cons_succ]
                        refine wpAnyH_done (by kernel_rfl) ?_ _
                        clear hHeld8
                        have f1 := HH8.out.1
                        have f2 := HH8.out.2
                        have g1 : w8.cell? ⟨bc, i, none⟩ = some (.int .u32 (s.W i)) := (HI8.out.hC.cellAt i (by have := HIN.out; omega)).trans (cnt_at _ j i HIN.out HNO.out)
                        have gz := HI8.out.hC.frozenAt i
                        have hw0 : 0 ≤ s.W i ∧ s.W i ≤ 1000 := by
                          have h1 := HGd.out.hW i (by omega) hii
                          have h2 := HGd.out.hL i (by omega) hii
                          have h3 := HGd.out.hlen i
                          have h4 := HGd.out.hnm
                          have h5 := HG.out
                          rw [h1]
                          have h6 : 0 < (s.L i).length := by rw [h2]; simp
                          omega
                        obtain ⟨hw0, hw1⟩ := hw0
                        have HI9 := Lib.hid (show MI w S j q bc bl v' (s.commit (s.ents ps j)) (all ++ ((s.ents ps j).take (y + 1)).map s.w3) (cntV (s.commit ((s.ents ps j).take (y + 1))) j) (lastV (s.commit ((s.ents ps j).take y)) j) (w8.setCell ⟨bc, i, none⟩ (.int .u32 (s.W i + 1))) by rw [← cnt_next _ _ j i v HIN.out ⟨hw0, by omega⟩ HNX.out]; exact HI8.out.setC i _)
                        have HE9 := Lib.hid (show Ents (w8.setCell ⟨bc, i, none⟩ (.int .u32 (s.W i + 1))) (Mx S w.heap.size q bc bl v') (some ⟨be, oe, none⟩) (s.ents ps j).length (s.ents ps j) from ⟨HE8.out.1, HE8.out.2.setCell (p := ⟨bc, i, none⟩) (fun h => h.2.2.2.1 rfl) _⟩)
                        have HH9 := Lib.hid (show (w8.setCell ⟨bc, i, none⟩ (.int .u32 (s.W i + 1))).cell? ⟨be, oe + y * 6, none⟩ = some (.int .i64 (i : Int)) ∧ (w8.setCell ⟨bc, i, none⟩ (.int .u32 (s.W i + 1))).cell? ⟨be, oe + y * 6 + 4, none⟩ = some (.int .i64 v) from ⟨(World.cell?_setCell_other _ _ _ _ (fun e => by injection e with e1 e2; exact HBX.out e1.symm)).trans f1, (World.cell?_setCell_other _ _ _ _ (fun e => by injection e with e1 e2; exact HBX.out e1.symm)).trans f2⟩)
                        generalize s.W i = wi at *
                        go_wp2
                        clear g1 gz f1 f2 HI8 HE8 HH8
                        generalize w8.setCell ⟨bc, i, none⟩ (.int .u32 (wi + 1)) = w9 at *
                        have f1 := HH9.out.1
                        have f2 := HH9.out.2
                        have gz := HI9.out.hL.frozenAt i
                        go_still_tail 12, (by kernel_rfl)
                        have HI10 := Lib.hid (HI9.out.below (show Below w9.heap.size w9 w9.drew from (Below.refl _ _).drew))
                        have HE10 := Lib.hid (HE9.out.below (show Below w9.heap.size w9 w9.drew from (Below.refl _ _).drew))
                        change wpList _ _ _ _ _ w9.drew
                        clear f1 f2 gz HI9 HE9 HH9
                        generalize w9.drew = w10 at *
                        have gz := HI10.out.hL.frozenAt i
                        have g2 := (HI10.out.hL.cellAt i (by have := HIN.out; omega)).trans (last_at (s := s.commit ((s.ents ps j).take y)) j i HIN.out)
                        generalize (lastP ((s.commit ((s.ents ps j).take y)).L i)).2 = lo at *
                        have HI11 := Lib.hid (show MI w S j q bc bl v' (s.commit (s.ents ps j)) (all ++ ((s.ents ps j).take (y + 1)).map s.w3) (cntV (s.commit ((s.ents ps j).take (y + 1))) j) (lastV (s.commit ((s.ents ps j).take (y + 1))) j) (w10.setCell ⟨bl, i, none⟩ (.int .i64 v)) by rw [← last_next _ _ j i v HIN.out HNX.out]; exact HI10.out.setL i _)
                        have HE11 := Lib.hid (show Ents (w10.setCell ⟨bl, i, none⟩ (.int .i64 v)) (Mx S w.heap.size q bc bl v') (some ⟨be, oe, none⟩) (s.ents ps j).length (s.ents ps j) from ⟨HE10.out.1, HE10.out.2.setCell (p := ⟨bl, i, none⟩) (fun h => h.2.2.2.2.1 rfl) _⟩)
                        clear HI10 HE10
                        go_wp2
                        go_roundw
                        case rel => exact Lib.hid ⟨y + 1, HY.out, by go_num, HI11.out, HE11.out⟩
                        case measure => exact meas_up _ _ HY.out
                    · obtain rfl : y = (s.ents ps j).length := by omega
                      rw [List.take_length] at hI
                      have hyi : ((s.ents ps j).length : Int) ≤ ((s.ents ps j).length : Int) := Int.le_refl _
                      have HIy := Lib.hid hI
                      clear hI hE hy hyn
                      go_wp2
                      go_roundw
                      case rel => exact Lib.hid ⟨k + 1, HK.out, by go_num, by rw [HST.out, HS1.out, HP.out]; exact HIy.out⟩
                      case measure => exact meas_up _ _ HK.out
        · obtain rfl : k = l.length := by omega
          have hi : (m : Int) ≤ (l.length : Int) := by have := HN.out; omega
          rw [List.take_length] at hI
          have HI := Lib.hid hI
          clear hI hk hlt
          go_wp2_with (with_reducible refine at_load_ (t := 57) ?_; refine get_at rfl _ rfl q rfl HI.out.p7 ?_)
          intro b1 b2 hm
          have HM := Lib.hid hm
          clear hm
          try simp only [Act.put, List.setIfInBounds_toArray, List.set_cons_zero, List.set_cons_succ]
          go_wp2_with (with_reducible refine at_store_ (t := 57) ?_; refine Hid.out ?_)
          refine Lib.hid ?_
          refine put_at rfl (.tmp 4) (.tmp 184) rfl rfl w.heap.size rfl rfl HI.out.p4 HM.out (fun h => h.2.1 rfl) ?_
          intro w5 hp5 ht5
          have HP := Lib.hid hp5
          have HB5 := Lib.hid (ht5.below HI.out.hB (Nat.le_refl _))
          have HA5 := Lib.hid (own_keep HI.out.hA fun b hb => ht5.block (by have := (HI.out.hA.lt b hb).1; have := HI.out.lt; omega))
          have HLT := Lib.hid HI.out.lt
          clear hp5 ht5 HI HM
          go_wp2_with fail
          obtain ⟨b5, b6, hblk, hmm⟩ := HP.out
          obtain ⟨A', c', rfl, _, _, hr⟩ := own_reads (S := S) HA5.out (fun b hb => HS.out b (by have := HLT.out; omega))
          have hl := load_sto _ _ _ _ _ hblk rfl
          refine bodyPost_ret (v := .tuple #[(madeF n l).1.val b5 b6, .slice A' (madeF n l).2.length c', .bool true]) ?_ rfl ⟨b5, b6, A', c', rfl, hmm.more fun b _ h => h.1, hr, HB5.out⟩
          simp [results, Try.results44, asAddr, hl, sto, Sn.val, Result.andThen]
end Go.Proofs.Ytpejhgkcofilmaa
