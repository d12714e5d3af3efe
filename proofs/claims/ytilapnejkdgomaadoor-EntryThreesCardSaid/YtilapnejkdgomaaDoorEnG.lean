/- The walk of the reference's Text of a list. Conditions: at most 60 entries; the entries' numbers are of their kinds. -/
import Derived.Test.YtilapnejkdgomaaDoorEnF
import Derived.Test.YtilapnejkdgomaaDoorEnB
import Derived.Test.YtilapnejkdgomaaDoorShJ
import Derived.Deep.RegionHeld3
set_option linter.unusedVariables false
set_option linter.unusedSimpArgs false
namespace Go.Proofs.YtilapnejkdgomaaDoor
open Go.RowKit

/-- The entry's numbers are of their kinds. -/
def EntWf (e : Ent) : Prop := EntOk e ∧ (-9223372036854775808 ≤ e.loc ∧ e.loc ≤ 9223372036854775807) ∧ (-9223372036854775808 ≤ e.val ∧ e.val ≤ 9223372036854775807) ∧ (-9223372036854775808 ≤ e.new ∧ e.new ≤ 9223372036854775807)
/-- An entry's text. -/
def entT (e : Ent) : List UInt8 := (Lib.itoa e.loc ++ ([58] ++ txt e.val e.ver e.ref)) ++ (if e.wr = true then [61] ++ Lib.itoa e.new else [])
def entsT (l : List Ent) : List UInt8 := Lib.join (l.map entT) [32]
theorem entT_len {e : Ent} (h : EntWf e) : (entT e).length ≤ 160 := by
  obtain ⟨⟨⟨h1, h2⟩, h3, h4⟩, ⟨h5, h6⟩, ⟨h7, h8⟩, h9, h10⟩ := h
  have a := Lib.itoa_length_le e.loc h5 h6
  have b := Lib.itoa_length_le e.new h9 h10
  have c := txt_len e.val e.ver e.ref h7 h8 h1 h2 h3 h4
  unfold entT
  simp only [List.length_append, List.length_cons, List.length_nil]
  split
  · simp only [List.length_append, List.length_cons, List.length_nil]; omega
  · simp only [List.length_nil]; omega
theorem join_snoc (l : List (List UInt8)) (x sep : List UInt8) (h : l ≠ []) : Lib.join (l ++ [x]) sep = Lib.join l sep ++ sep ++ x := by
  cases l with
  | nil => exact absurd rfl h
  | cons a t =>
    rw [List.cons_append, Lib.join_cons, Lib.join_cons]
    unfold Lib.joinTail
    simp
theorem entsT_one {l : List Ent} {y : Ent} (h : l[0]? = some y) : entsT (l.take 1) = entT y := by
  rw [show (1 : Nat) = 0 + 1 from rfl, List.take_add_one, h]
  exact Lib.join_one _ _
theorem entsT_snoc {l : List Ent} {k : Nat} {y : Ent} (h : l[k]? = some y) (hk : 0 < k) : entsT (l.take (k + 1)) = entsT (l.take k) ++ [32] ++ entT y := by
  unfold entsT
  rw [List.take_add_one, h]
  show Lib.join ((l.take k ++ [y]).map entT) [32] = _
  rw [List.map_append]
  refine join_snoc _ _ _ fun e => ?_
  have h1 := congrArg List.length e
  rw [List.length_map, List.length_take] at h1
  have := (List.getElem?_eq_some_iff.1 h).1
  simp only [List.length_nil] at h1
  omega
theorem entsT_len : ∀ {l : List Ent}, (∀ e ∈ l, EntWf e) → (entsT l).length ≤ 161 * l.length
  | [], _ => Nat.le_refl _
  | x :: t, h => by
    unfold entsT
    rw [List.map_cons, Lib.join_cons]
    have key : ∀ {t : List Ent}, (∀ e ∈ t, EntWf e) → (Lib.joinTail [32] (t.map entT)).length ≤ 161 * t.length := by
      intro t
      induction t with
      | nil => intro _; exact Nat.le_refl _
      | cons y s ih =>
        intro h
        have h1 := entT_len (h y (.head _))
        have h2 := ih fun e he => h e (.tail _ he)
        unfold Lib.joinTail at h2 ⊢
        simp only [List.map_cons, List.flatten_cons, List.length_append, List.length_cons, List.length_nil] at h2 ⊢
        omega
    have h1 := entT_len (h x (.head _))
    have h2 := key fun e he => h e (.tail _ he)
    simp only [List.length_append, List.length_cons]
    omega
theorem add_big (x y : List UInt8) (h : x.length + y.length ≤ 1000000) (w : World) : (Op.stringOp .add (bs x) (bs y)).run Tryd.prog w = .ok (.string (bs (x ++ y))) w := by
  unfold bs
  rw [run_string_add_sum w _ _ (by simp [ByteArray.size]; omega)]
  congr 2

/-- The world W has come of w, and what was there stands. -/
structure Bz (w W : World) : Prop where
  b : Below w.heap.size w W
theorem Bz.next {w W W' : World} (h : Bz w W) (hb : Below W.heap.size W W') : Bz w W' := ⟨h.b.trans (hb.mono h.b.size)⟩

set_option maxRecDepth 100000 in
set_option maxHeartbeats 12800000 in
theorem rtexts_any {S : Nat → Prop} (A : Option Addr) (n c : Nat) (l : List Ent) (w : World) (hl : Ents w S A n l) (hok : ∀ e ∈ l, EntWf e) (hn : n ≤ 60) (hc : n ≤ c) :
    Calls Tryd.prog 14 #[.slice A n c] w fun e w' => e = .returned (.string (bs (entsT l))) ∧ Below w.heap.size w w' := by
  have HLN := Lib.hid hl.1
  have HL := Lib.hid hl
  have HOK := Lib.hid hok
  have hci : (n : Int) ≤ (c : Int) := by omega
  have HN := Lib.hid hn
  clear hl hok
  go_enter Tryd.func14, Tryd.ntmps14
  go_wp2
  go_loopw [3, 4] (fun s i wr => ∃ k : Nat, k ≤ n ∧ i = .int .i64 k ∧ s = .string (bs (entsT (l.take k))) ∧ Hid (Below w.heap.size w wr)) (fun _ i _ => n - (intOf i).toNat)
  case atStart => exact ⟨0, by omega, rfl, rfl, Lib.hid (Below.refl _ _)⟩
  case round =>
    obtain ⟨k, hk, rfl, rfl, HB⟩ := hrel
    obtain ⟨wo, rfl⟩ : ∃ wo : World, wo = wr := ⟨_, rfl⟩
    by_cases hlt : k < n
    · obtain ⟨y, b, o, hy, rfl, hbb, hSb, hcell⟩ := HL.out.at k hlt
      have HY := Lib.hid hy
      have HYW := Lib.hid (HOK.out y (List.mem_of_getElem? hy))
      have HCL := Lib.hid hcell
      have hi1 : (k : Int) < (n : Int) := by omega
      have HLT := Lib.hid hlt
      have hlen : (entsT (l.take k)).length ≤ 10000 := by
        have := entsT_len (l := l.take k) fun e he => HOK.out e (List.mem_of_mem_take he)
        rw [List.length_take] at this
        omega
      have hlA := Lib.itoa_length_le y.loc HYW.out.2.1.1 HYW.out.2.1.2
      have hlB := txt_len y.val y.ver y.ref HYW.out.2.2.1.1 HYW.out.2.2.1.2 HYW.out.1.1.1 HYW.out.1.1.2 HYW.out.1.2.1 HYW.out.1.2.2
      have hlC := Lib.itoa_length_le y.new HYW.out.2.2.2.1 HYW.out.2.2.2.2
      have C1 := Lib.hid (fun W => Tens_any y.loc HYW.out.2.1.1 HYW.out.2.1.2 W)
      have C2 := Lib.hid (fun W => rtext_any y.val y.ver y.ref W HYW.out.2.2.1.1 HYW.out.2.2.1.2 HYW.out.1.1.1 HYW.out.1.1.2 HYW.out.1.2.1 HYW.out.1.2.2)
      have C3 := Lib.hid (fun W => Tens_any y.new HYW.out.2.2.2.1 HYW.out.2.2.2.2 W)
      clear hcell hy hbb hSb hlt
      by_cases hk0 : k = 0
      · have HE := Lib.hid (show entsT (l.take (k + 1)) = entsT (l.take k) ++ entT y by subst hk0; rw [entsT_one HY.out]; rfl)
        have hk1 : ¬ (0 : Int) < (k : Int) := by omega
        clear hk0
        generalize entsT (l.take k) = Q at *
        obtain ⟨y0, y1, y2, y3, y4, y5⟩ := y
        dsimp only at HCL hlA hlB hlC C1 C2 C3
        have HSC := Lib.hid (show ∀ W, Bz w W → (W.cell? ⟨b, o + k * 6, none⟩ = some (.int .i64 y0) ∧ W.cell? ⟨b, o + k * 6 + 1, none⟩ = some (.int .i64 y1) ∧ W.cell? ⟨b, o + k * 6 + 2, none⟩ = some (.int .u32 y2) ∧ W.cell? ⟨b, o + k * 6 + 3, none⟩ = some (.int .u32 y3)) from fun W h => by
          obtain ⟨q0, q1, q2, q3, _, _⟩ := HCL.out W h.b
          exact ⟨q0, q1, q2, q3⟩)
        have HC45 := Lib.hid (show ∀ W, Bz w W → (W.cell? ⟨b, o + k * 6 + 4, none⟩ = some (.int .i64 y4) ∧ W.cell? ⟨b, o + k * 6 + 5, none⟩ = some (.bool y5)) from fun W h => by
          obtain ⟨_, _, _, _, q4, q5⟩ := HCL.out W h.b
          exact ⟨q4, q5⟩)
        have zz : Bz w wo.drew := ⟨HB.out.trans ((Below.refl _ _).drew.mono HB.out.size)⟩
        have HE3 := Lib.hid (show entT ⟨y0, y1, y2, y3, y4, y5⟩ = (Lib.itoa y0 ++ ([58] ++ txt y1 y2 y3)) ++ (if y5 = true then [61] ++ Lib.itoa y4 else []) from rfl)
        generalize Lib.itoa y0 = TA at *
        generalize txt y1 y2 y3 = TB at *
        generalize Lib.itoa y4 = TC at *
        have j1 := add_big (Q) TA (by first | omega | (simp; omega))
        have j2 : ∀ w, (Op.stringOp .add (bs (Q ++ TA)) (⟨#[58]⟩ : ByteArray)).run Tryd.prog w = .ok (.string (bs (Q ++ TA ++ [58]))) w := add_big (Q ++ TA) [58] (by simp; omega)
        have j3 := add_big (Q ++ TA ++ [58]) TB (by simp; omega)
        have j4 : ∀ w, (Op.stringOp .add (bs (Q ++ TA ++ [58] ++ TB)) (⟨#[61]⟩ : ByteArray)).run Tryd.prog w = .ok (.string (bs (Q ++ TA ++ [58] ++ TB ++ [61]))) w := add_big (Q ++ TA ++ [58] ++ TB) [61] (by simp; omega)
        have j5 := add_big (Q ++ TA ++ [58] ++ TB ++ [61]) TC (by simp; omega)
        rw [HE3.out] at HE
        clear HE3 hlA hlB hlC hlen
        cases y5 with
        | true =>
          have HE2 := Lib.hid (show entsT (l.take (k + 1)) = Q ++ TA ++ [58] ++ TB ++ [61] ++ TC by rw [HE.out, if_pos rfl]; simp only [List.append_assoc])
          clear HE
          obtain ⟨NX, hnx⟩ : ∃ NX, NX = entsT (l.take (k + 1)) := ⟨_, rfl⟩
          rw [← hnx] at HE2
          have HNX := Lib.hid hnx
          clear hnx
          rw [← HE2.out] at j5
          clear HE2
          generalize Q ++ TA ++ [58] ++ TB ++ [61] = M4 at *
          generalize Q ++ TA ++ [58] ++ TB = M3 at *
          generalize Q ++ TA ++ [58] = M2 at *
          generalize Q ++ TA = M1 at *
          go_wp2
          go_region_held3 (fun W => (W.cell? ⟨b, o + k * 6, none⟩ = some (.int .i64 y0) ∧ W.cell? ⟨b, o + k * 6 + 1, none⟩ = some (.int .i64 y1) ∧ W.cell? ⟨b, o + k * 6 + 2, none⟩ = some (.int .u32 y2) ∧ W.cell? ⟨b, o + k * 6 + 3, none⟩ = some (.int .u32 y3))) (exact HSC.out _ (by assumption)) (first
            | (go_at_call 33; refine (C1.out _).mono ?_; rintro e wt ⟨rfl, hb⟩; have zt := Bz.next (by assumption) hb; obtain ⟨f4, f5⟩ := HC45.out _ zt; clear hb)
            | (go_at_call 34; refine (C2.out _).mono ?_; rintro e ws ⟨rfl, hb⟩; have zs := Bz.next (by assumption) hb; obtain ⟨f4, f5⟩ := HC45.out _ zs; clear hb))
          all_goals
            go_wp2_with (go_at_call 33; refine (C3.out _).mono ?_; rintro e wu ⟨rfl, hb⟩; have zu := Bz.next (by assumption) hb; clear hb)
            go_roundw
            case rel => exact ⟨k + 1, by omega, by go_num, by rw [← HNX.out], Lib.hid (Bz.b (by assumption))⟩
            case measure => simp [intOf]; omega
        | false =>
          have HE2 := Lib.hid (show entsT (l.take (k + 1)) = Q ++ TA ++ [58] ++ TB by rw [HE.out, if_neg (by simp)]; simp only [List.append_assoc, List.append_nil])
          clear HE j4 j5
          obtain ⟨NX, hnx⟩ : ∃ NX, NX = entsT (l.take (k + 1)) := ⟨_, rfl⟩
          rw [← hnx] at HE2
          have HNX := Lib.hid hnx
          clear hnx
          rw [← HE2.out] at j3
          clear HE2
          generalize Q ++ TA ++ [58] = M2 at *
          generalize Q ++ TA = M1 at *
          go_wp2
          go_region_held3 (fun W => (W.cell? ⟨b, o + k * 6, none⟩ = some (.int .i64 y0) ∧ W.cell? ⟨b, o + k * 6 + 1, none⟩ = some (.int .i64 y1) ∧ W.cell? ⟨b, o + k * 6 + 2, none⟩ = some (.int .u32 y2) ∧ W.cell? ⟨b, o + k * 6 + 3, none⟩ = some (.int .u32 y3))) (exact HSC.out _ (by assumption)) (first
            | (go_at_call 33; refine (C1.out _).mono ?_; rintro e wt ⟨rfl, hb⟩; have zt := Bz.next (by assumption) hb; obtain ⟨f4, f5⟩ := HC45.out _ zt; clear hb)
            | (go_at_call 34; refine (C2.out _).mono ?_; rintro e ws ⟨rfl, hb⟩; have zs := Bz.next (by assumption) hb; obtain ⟨f4, f5⟩ := HC45.out _ zs; clear hb))
          all_goals
            go_wp2_with (go_at_call 33; refine (C3.out _).mono ?_; rintro e wu ⟨rfl, hb⟩; have zu := Bz.next (by assumption) hb; clear hb)
            go_roundw
            case rel => exact ⟨k + 1, by omega, by go_num, by rw [← HNX.out], Lib.hid (Bz.b (by assumption))⟩
            case measure => simp [intOf]; omega
      · have hk1 : (0 : Int) < (k : Int) := by omega
        have HE := Lib.hid (show entsT (l.take (k + 1)) = (entsT (l.take k) ++ [32]) ++ entT y from entsT_snoc HY.out (by omega))
        generalize entsT (l.take k) = Q at *
        have j0 : ∀ w, (Op.stringOp .add (bs Q) (⟨#[32]⟩ : ByteArray)).run Tryd.prog w = .ok (.string (bs (Q ++ [32]))) w := add_big Q [32] (by simp; omega)
        obtain ⟨y0, y1, y2, y3, y4, y5⟩ := y
        dsimp only at HCL hlA hlB hlC C1 C2 C3
        have HSC := Lib.hid (show ∀ W, Bz w W → (W.cell? ⟨b, o + k * 6, none⟩ = some (.int .i64 y0) ∧ W.cell? ⟨b, o + k * 6 + 1, none⟩ = some (.int .i64 y1) ∧ W.cell? ⟨b, o + k * 6 + 2, none⟩ = some (.int .u32 y2) ∧ W.cell? ⟨b, o + k * 6 + 3, none⟩ = some (.int .u32 y3)) from fun W h => by
          obtain ⟨q0, q1, q2, q3, _, _⟩ := HCL.out W h.b
          exact ⟨q0, q1, q2, q3⟩)
        have HC45 := Lib.hid (show ∀ W, Bz w W → (W.cell? ⟨b, o + k * 6 + 4, none⟩ = some (.int .i64 y4) ∧ W.cell? ⟨b, o + k * 6 + 5, none⟩ = some (.bool y5)) from fun W h => by
          obtain ⟨_, _, _, _, q4, q5⟩ := HCL.out W h.b
          exact ⟨q4, q5⟩)
        have zz : Bz w wo.drew := ⟨HB.out.trans ((Below.refl _ _).drew.mono HB.out.size)⟩
        have HE3 := Lib.hid (show entT ⟨y0, y1, y2, y3, y4, y5⟩ = (Lib.itoa y0 ++ ([58] ++ txt y1 y2 y3)) ++ (if y5 = true then [61] ++ Lib.itoa y4 else []) from rfl)
        generalize Lib.itoa y0 = TA at *
        generalize txt y1 y2 y3 = TB at *
        generalize Lib.itoa y4 = TC at *
        have j1 := add_big ((Q ++ [32])) TA (by first | omega | (simp; omega))
        have j2 : ∀ w, (Op.stringOp .add (bs ((Q ++ [32]) ++ TA)) (⟨#[58]⟩ : ByteArray)).run Tryd.prog w = .ok (.string (bs ((Q ++ [32]) ++ TA ++ [58]))) w := add_big ((Q ++ [32]) ++ TA) [58] (by simp; omega)
        have j3 := add_big ((Q ++ [32]) ++ TA ++ [58]) TB (by simp; omega)
        have j4 : ∀ w, (Op.stringOp .add (bs ((Q ++ [32]) ++ TA ++ [58] ++ TB)) (⟨#[61]⟩ : ByteArray)).run Tryd.prog w = .ok (.string (bs ((Q ++ [32]) ++ TA ++ [58] ++ TB ++ [61]))) w := add_big ((Q ++ [32]) ++ TA ++ [58] ++ TB) [61] (by simp; omega)
        have j5 := add_big ((Q ++ [32]) ++ TA ++ [58] ++ TB ++ [61]) TC (by simp; omega)
        rw [HE3.out] at HE
        clear HE3 hlA hlB hlC hlen
        cases y5 with
        | true =>
          have HE2 := Lib.hid (show entsT (l.take (k + 1)) = (Q ++ [32]) ++ TA ++ [58] ++ TB ++ [61] ++ TC by rw [HE.out, if_pos rfl]; simp only [List.append_assoc])
          clear HE
          obtain ⟨NX, hnx⟩ : ∃ NX, NX = entsT (l.take (k + 1)) := ⟨_, rfl⟩
          rw [← hnx] at HE2
          have HNX := Lib.hid hnx
          clear hnx
          rw [← HE2.out] at j5
          clear HE2
          generalize (Q ++ [32]) ++ TA ++ [58] ++ TB ++ [61] = M4 at *
          generalize (Q ++ [32]) ++ TA ++ [58] ++ TB = M3 at *
          generalize (Q ++ [32]) ++ TA ++ [58] = M2 at *
          generalize (Q ++ [32]) ++ TA = M1 at *
          generalize Q ++ [32] = M0 at *
          go_wp2
          go_region_held3 (fun W => (W.cell? ⟨b, o + k * 6, none⟩ = some (.int .i64 y0) ∧ W.cell? ⟨b, o + k * 6 + 1, none⟩ = some (.int .i64 y1) ∧ W.cell? ⟨b, o + k * 6 + 2, none⟩ = some (.int .u32 y2) ∧ W.cell? ⟨b, o + k * 6 + 3, none⟩ = some (.int .u32 y3))) (exact HSC.out _ (by assumption)) (first
            | (go_at_call 33; refine (C1.out _).mono ?_; rintro e wt ⟨rfl, hb⟩; have zt := Bz.next (by assumption) hb; obtain ⟨f4, f5⟩ := HC45.out _ zt; clear hb)
            | (go_at_call 34; refine (C2.out _).mono ?_; rintro e ws ⟨rfl, hb⟩; have zs := Bz.next (by assumption) hb; obtain ⟨f4, f5⟩ := HC45.out _ zs; clear hb))
          all_goals
            go_wp2_with (go_at_call 33; refine (C3.out _).mono ?_; rintro e wu ⟨rfl, hb⟩; have zu := Bz.next (by assumption) hb; clear hb)
            go_roundw
            case rel => exact ⟨k + 1, by omega, by go_num, by rw [← HNX.out], Lib.hid (Bz.b (by assumption))⟩
            case measure => simp [intOf]; omega
        | false =>
          have HE2 := Lib.hid (show entsT (l.take (k + 1)) = (Q ++ [32]) ++ TA ++ [58] ++ TB by rw [HE.out, if_neg (by simp)]; simp only [List.append_assoc, List.append_nil])
          clear HE j4 j5
          obtain ⟨NX, hnx⟩ : ∃ NX, NX = entsT (l.take (k + 1)) := ⟨_, rfl⟩
          rw [← hnx] at HE2
          have HNX := Lib.hid hnx
          clear hnx
          rw [← HE2.out] at j3
          clear HE2
          generalize (Q ++ [32]) ++ TA ++ [58] = M2 at *
          generalize (Q ++ [32]) ++ TA = M1 at *
          generalize Q ++ [32] = M0 at *
          go_wp2
          go_region_held3 (fun W => (W.cell? ⟨b, o + k * 6, none⟩ = some (.int .i64 y0) ∧ W.cell? ⟨b, o + k * 6 + 1, none⟩ = some (.int .i64 y1) ∧ W.cell? ⟨b, o + k * 6 + 2, none⟩ = some (.int .u32 y2) ∧ W.cell? ⟨b, o + k * 6 + 3, none⟩ = some (.int .u32 y3))) (exact HSC.out _ (by assumption)) (first
            | (go_at_call 33; refine (C1.out _).mono ?_; rintro e wt ⟨rfl, hb⟩; have zt := Bz.next (by assumption) hb; obtain ⟨f4, f5⟩ := HC45.out _ zt; clear hb)
            | (go_at_call 34; refine (C2.out _).mono ?_; rintro e ws ⟨rfl, hb⟩; have zs := Bz.next (by assumption) hb; obtain ⟨f4, f5⟩ := HC45.out _ zs; clear hb))
          all_goals
            go_wp2_with (go_at_call 33; refine (C3.out _).mono ?_; rintro e wu ⟨rfl, hb⟩; have zu := Bz.next (by assumption) hb; clear hb)
            go_roundw
            case rel => exact ⟨k + 1, by omega, by go_num, by rw [← HNX.out], Lib.hid (Bz.b (by assumption))⟩
            case measure => simp [intOf]; omega
    · have hkn : ¬ ((k : Int) < (n : Int)) := by omega
      have HF := Lib.hid (show l.take k = l from List.take_of_length_le (by have := HLN.out; omega))
      go_wp2
      go_ret
      exact ⟨by rw [HF.out]; rfl, HB.out⟩
end Go.Proofs.YtilapnejkdgomaaDoor
