/- The walk of the law SnapWhole: true. Conditions: the argument's cells lie in the heap and fit their kinds. -/
import Derived.Test.YtpejhgkcofilmaaSnapK
import Derived.Test.YtpejhgkcofilmaaSnapL
set_option linter.unusedVariables false
namespace Go.Proofs.Ytpejhgkcofilmaa
open Go.RowKit

def wrd (v i : Int) : Array Value := #[.int .i64 v, .int .u32 i, .int .u32 0]
theorem wrd_ones (v i : Int) : (wrd v i).all (·.oneCell') = true := by simp [wrd, Value.oneCell']
set_option maxRecDepth 100000 in
theorem wrd_zero (w : World) : (zeroValue 62).run Try.prog w = .ok (.agg (wrd 0 0)) w := by
  simp [go_sem, wrd]
theorem get_wrd {ops : Array Oper} {rest : List Oper} {a : Act} {w : World} {Q : Exit → Act → World → Prop} {o : Oper} {v i : Int} (hg : o.guard = none) (x : Operand) (ho : o.op = .load 62 x) (g : Nat) (hx : a.eval x = .pointer (some ⟨g, 0, none⟩)) {t : TypeId} {fr : Nat × Nat} (hb : w.heap[g]? = some (.cells (wrd v i) t fr))
    (h : wpList Try.prog ops Q rest (a.put o.dst (.agg #[.int .i64 v, .int .u32 i, .int .u32 0])) w) : wpList Try.prog ops Q (o :: rest) a w :=
  wpList_load_row hg _ x ho g hx t _ fr _ hb Try.underlying62 rfl Try.size62 h
theorem meas_step (n k : Nat) (h : k < n) : n - ((k : Int) + 1).toNat < n - ((k : Int)).toNat := by omega
theorem rd_one (T : Nat → Int) : rdL (updB Bf 0 true) T 8 = [.int .i64 (T 0)] := by simp [rdL, updB, Bf]
/-- The readers behind i commits: one is opened before commit number r. -/
def Rd (i r : Int) (B : Nat → Bool) (T : Nat → Int) : Prop := (i ≤ r ∧ B = Bf) ∨ (r < i ∧ B = updB Bf 0 true ∧ 0 ≤ T 0)
/-- What the loop keeps. -/
def SwRel (w : World) (l : List Int) (r : Int) (q : Nat) (u7 u33 : Value) (wr : World) : Prop :=
  ∃ (k : Nat) (last : Int) (b1 b2 : Option Nat) (B : Nat → Bool) (T : Nat → Int) (f : Int → Option Value) (g : Int → Option (List (Int × Int))) (W : Int → Option Int),
    (k ≤ l.length ∧ u33 = .int .i64 k ∧ u7 = .int .i64 last ∧ wr.heap[q]? = some (.cells (stoCells 3 k (.map b1) (.map b2) B T) 57)) ∧
    IsMap wr (fun b => b ≠ q) (.map b1) f ∧ LMap wr (fun b => b ≠ q) f g ∧ IsMap wr (fun b => b ≠ q) (.map b2) (wmap W) ∧ Good k g W last ∧ Rd k r B T ∧ Below w.heap.size w wr

set_option maxRecDepth 100000 in
set_option maxHeartbeats 12800000 in
theorem whole_ok (A : Option Addr) (n c : Nat) (l : List Int) (a r : Int) (w : World) (hn : n = l.length) (h60 : n ≤ 60) (hl : Reads w (fun _ => True) 1 A n (l.map (.int .i64 ·))) (h0 : 0 ≤ a) (h1 : a ≤ 255) (hr : r = a % 60) :
    Calls Try.prog 9 #[.slice A n c, .int .u8 a] w fun e w' => e = .returned (.bool true) ∧ Below w.heap.size w w' := by
  have C1 := Lib.hid (snew_ok 3 w (by decide) (by decide))
  have hr0 : 0 ≤ r := by omega
  have hr1 : r < 60 := by omega
  have hN : (n : Int) ≤ 60 := by omega
  have hN0 : ¬ (60 : Int) < (n : Int) := by omega
  have hmod : a.tmod 60 = r := by rw [Int.tmod_eq_emod_of_nonneg h0]; omega
  have HL := Lib.hid hl
  have HN := Lib.hid hn
  have HR := Lib.hid hr
  have HRB := Lib.hid (And.intro hr0 hr1)
  clear hr hn hl hr0 hr1
  go_enter Try.func9, Try.ntmps9
  go_wp2_with fail
  refine C1.out.mono ?_
  rintro e w1 ⟨rfl, hb1⟩
  have HW1 := Lib.hid hb1
  clear hb1 C1
  go_wp2_with (first
    | (with_reducible refine at_alloc_ (t := 57) ?_; refine wpList_alloc_mine rfl 57 rfl _ rfl (stoZ 0) stoZ_zero rfl ?_)
    | (with_reducible refine at_store_ (t := 57) ?_; refine Hid.out ?_))
  refine Lib.hid ?_
  refine put_sto (c := 3) (n := 0) (b1 := none) (b2 := none) (B := Bf) (T := T0) rfl (.tmp 5) (.tmp 27) rfl rfl w1.heap.size rfl rfl (heap_alloc_new _ _) rfl ?_
  rw [setRow_alloc]
  have P0 := Lib.hid (heap_alloc_new w1 (.cells (stoCells 3 0 (.map none) (.map none) Bf T0) 57))
  have HW2 := Lib.hid (HW1.out.alloc HW1.out.size (.cells (stoCells 3 0 (.map none) (.map none) Bf T0) 57))
  have HQ := Lib.hid (show w.heap.size ≤ w1.heap.size from HW1.out.size)
  generalize w1.alloc (.cells (stoCells 3 0 (.map none) (.map none) Bf T0) 57) = w2 at *
  generalize w1.heap.size = q at *
  clear HW1
  go_wp2
  go_loopw [7, 33] (fun u7 u33 wr => SwRel w l r q u7 u33 wr) (fun _ i _ => l.length - (intOf i).toNat)
  case atStart =>
    exact ⟨0, 0, none, none, Bf, T0, noF, noG, noW, ⟨Nat.zero_le _, rfl, rfl, P0.out⟩, noMap _ _, noLMap _ _, noWMap _ _, good_0, .inl ⟨HRB.out.1, rfl⟩, HW2.out⟩
  case round =>
    obtain ⟨k, last, b1, b2, B, T, f, g, W, ⟨hk, rfl, rfl, hP⟩, hm, hg, hu, hG, hR, hB⟩ := hrel
    clear P0 HW2
    by_cases hlt : k < l.length
    · have hi : (k : Int) < (n : Int) := by have := HN.out; omega
      obtain ⟨b, o, rfl, hcell⟩ : ∃ b o, A = some ⟨b, o, none⟩ ∧ wr.cell? ⟨b, o + k, none⟩ = some (.int .i64 l[k]) := by
        obtain ⟨b, o, e, hb, _, hh⟩ := HL.out.2 (by have := HN.out; omega)
        refine ⟨b, o, e, ?_⟩
        rw [hB.cell hb]
        exact hh k _ (by simp [hlt])
      have hk60 : (k : Int) ≤ 59 := by omega
      have hk0 : (0 : Int) ≤ (k : Int) := by omega
      have hWR := hG.wrong hk0 (by omega) l[k]
      have hAD := hG.add hk0 (by omega) l[k]
      have hNX := hG.next hk0 (by omega) l[k]
      have hOK := two_ok last k l[k] hk0 (by omega)
      have hLN : ∀ j, (listOf 3 g j).length ≤ 1099511627776 := fun j => by have := hG.len j; omega
      generalize l[k] = v at *
      have hSM : ∃ i, accG 3 k g (twoE last k v) i ≠ none := ⟨0, by rw [acc_two]; simp⟩
      have CC := Lib.hid fun (B : Nat → Bool) (T : Nat → Int) (A : Option Addr) (W' : World) (hq : q < W'.heap.size) (hm : IsMap W' (fun b => b ≠ q) (.map b1) f) (hg : LMap W' (fun b => b ≠ q) f g) (hu : IsMap W' (fun b => b ≠ q) (.map b2) (wmap W)) (he : Ents W' (fun b => b ≠ q) A 2 (twoE last k v)) =>
        commit_ok (S := fun b => b ≠ q) 3 k b1 b2 B T f g W A 2 2 (twoE last k v) W' (fun b hb => by omega) hm hg hu hLN he hOK (by omega) (Nat.le_refl _) hWR hk0 (by omega) hAD hSM
      have HK := Lib.hid (And.intro hlt hk)
      have GN := Lib.hid hNX
      have HB := Lib.hid hB
      have P := Lib.hid hP
      have HM := Lib.hid hm
      have HG := Lib.hid hg
      have HU := Lib.hid hu
      have HC := Lib.hid hcell
      have hw32 : (k : Int) % 4294967296 = k := by omega
      clear hWR hAD hNX hOK hLN hSM hB hP hm hg hu hlt hk hG
      unfold Rd at hR
      have hR3 : ((k : Int) = r ∧ B = Bf) ∨ ((k : Int) < r ∧ B = Bf) ∨ (r < (k : Int) ∧ B = updB Bf 0 true ∧ 0 ≤ T 0) := by
        rcases hR with ⟨h1, h2⟩ | h
        · rcases Int.lt_or_eq_of_le h1 with h3 | h3
          · exact .inr (.inl ⟨h3, h2⟩)
          · exact .inl ⟨h3, h2⟩
        · exact .inr (.inr h)
      clear hR
      rcases hR3 with ⟨hkr, rfl⟩ | ⟨hkr, rfl⟩ | ⟨hkr, rfl, hT0⟩
      · have hT0 : 0 ≤ updT T 0 k 0 := by exact hk0
        subst hkr
        have hRn : Rd ((k : Int) + 1) k (updB Bf 0 true) (updT T 0 k) := .inr ⟨by omega, rfl, hT0⟩
        have HRn := Lib.hid hRn
        clear hRn
        have hc1 := HC.out
        go_wp2_with (first
          | (with_reducible refine at_alloc_ (t := 62) ?_; refine wpList_alloc_mine rfl 62 rfl _ rfl (wrd 0 0) wrd_zero rfl ?_)
          | (with_reducible refine at_store_ (t := 62) ?_; refine Hid.out ?_))
        refine Lib.hid ?_
        refine wpList_store_rowTo rfl 62 (.tmp 10) (.tmp 41) rfl rfl wr.heap.size (wrd last k) rfl rfl 62 (wrd 0 0) (heap_alloc_new _ _) Try.size62 rfl (wrd_ones ..) ?_
        rw [setRow_alloc]
        have PW2 := Lib.hid (heap_alloc_new wr (.cells (wrd last k) 62))
        have hbw := (Below.refl wr.heap.size wr).alloc (Nat.le_refl _) (.cells (wrd last k) 62)
        have P2 := Lib.hid ((hbw.block q (lt_of_block P.out)).trans P.out)
        have HB2 := Lib.hid (HB.out.trans (hbw.mono HB.out.size))
        have HM2 := Lib.hid (HM.out.below hbw)
        have HG2 := Lib.hid (HG.out.below hbw)
        have HU2 := Lib.hid (HU.out.below hbw)
        have HQ2 := Lib.hid (show q < wr.heap.size from lt_of_block P.out)
        generalize wr.alloc (.cells (wrd last k) 62) = w2 at *
        generalize wr.heap.size = tb at *
        clear hc1 hbw P HB HM HG HU HC
        go_wp2_with (with_reducible refine at_load_ (t := 57) ?_; refine get_sto rfl _ rfl q rfl P2.out ?_)
        refine (open_ok 3 k b1 b2 Bf T 0 (by decide) (fun j h => absurd h (by omega)) rfl w2).mono ?_
        rintro e w3 ⟨rfl, hb3⟩
        have Q3 := Lib.hid ((hb3.block q (lt_of_block P2.out)).trans P2.out)
        have PW3 := Lib.hid ((hb3.block tb (lt_of_block PW2.out)).trans PW2.out)
        have HB3 := Lib.hid (HB2.out.trans (hb3.mono HB2.out.size))
        have HM3 := Lib.hid (HM2.out.below hb3)
        have HG3 := Lib.hid (HG2.out.below hb3)
        have HU3 := Lib.hid (HU2.out.below hb3)
        clear hb3 P2 PW2 HB2 HM2 HG2 HU2
        go_wp2_with (first
          | (with_reducible refine at_alloc_ (t := 57) ?_; refine wpList_alloc_mine rfl 57 rfl _ rfl (stoZ 0) stoZ_zero rfl ?_)
          | (with_reducible refine at_store_ (t := 57) ?_; refine Hid.out ?_))
        refine Lib.hid ?_
        refine put_sto (c := 3) (n := k) (b1 := b1) (b2 := b2) (B := updB Bf 0 true) (T := updT T 0 k) rfl (.tmp 11) (.tmp 50) rfl rfl w3.heap.size rfl rfl (heap_alloc_new _ _) rfl ?_
        rw [setRow_alloc]
        have hbs := (Below.refl w3.heap.size w3).alloc (Nat.le_refl _) (.cells (stoCells 3 k (.map b1) (.map b2) (updB Bf 0 true) (updT T 0 k)) 57)
        have N4 := Lib.hid (heap_alloc_new w3 (.cells (stoCells 3 k (.map b1) (.map b2) (updB Bf 0 true) (updT T 0 k)) 57))
        have P4 := Lib.hid ((hbs.block q (lt_of_block Q3.out)).trans Q3.out)
        have PW4 := Lib.hid ((hbs.block tb (lt_of_block PW3.out)).trans PW3.out)
        have HB4 := Lib.hid (HB3.out.trans (hbs.mono HB3.out.size))
        have HM4 := Lib.hid (HM3.out.below hbs)
        have HG4 := Lib.hid (HG3.out.below hbs)
        have HU4 := Lib.hid (HU3.out.below hbs)
        generalize w3.alloc (.cells (stoCells 3 k (.map b1) (.map b2) (updB Bf 0 true) (updT T 0 k)) 57) = w4 at *
        generalize w3.heap.size = tc at *
        clear hbs Q3 PW3 HB3 HM3 HG3 HU3
        go_wp2_with (first
          | (with_reducible refine at_load_ (t := 57) ?_; refine get_sto rfl _ rfl tc rfl N4.out ?_)
          | (with_reducible refine at_store_ (t := 57) ?_; refine Hid.out ?_))
        refine Lib.hid ?_
        refine put_sto rfl (.tmp 5) (.tmp 55) rfl rfl q rfl rfl P4.out rfl ?_
        have P2 := Lib.hid (setRow_heap w4 q _ (stoCells 3 k (.map b1) (.map b2) (updB Bf 0 true) (updT T 0 k)) _ _ P4.out)
        have PW2 := Lib.hid ((setRow_other w4 q tb (stoCells 3 k (.map b1) (.map b2) (updB Bf 0 true) (updT T 0 k)) (by have := HQ2.out; omega)).trans PW4.out)
        have HB2 := Lib.hid (below_setRow HB4.out HQ.out (stoCells 3 k (.map b1) (.map b2) (updB Bf 0 true) (updT T 0 k)))
        have HM2 := Lib.hid (HM4.out.setRow (q := q) (by simp) (stoCells 3 k (.map b1) (.map b2) (updB Bf 0 true) (updT T 0 k)))
        have HG2 := Lib.hid (HG4.out.setRow (q := q) (by simp) (stoCells 3 k (.map b1) (.map b2) (updB Bf 0 true) (updT T 0 k)))
        have HU2 := Lib.hid (HU4.out.setRow (q := q) (by simp) (stoCells 3 k (.map b1) (.map b2) (updB Bf 0 true) (updT T 0 k)))
        generalize w4.setRow q (stoCells 3 k (.map b1) (.map b2) (updB Bf 0 true) (updT T 0 k)) = w2o at *
        clear N4 P4 PW4 HB4 HM4 HG4 HU4
        go_wp2_with (first
          | (with_reducible refine at_load_ (t := 57) ?_; refine get_sto rfl _ rfl q rfl P2.out ?_)
          | (with_reducible refine at_load_ (t := 62) ?_; refine get_wrd rfl _ rfl tb rfl PW2.out ?_))
        have hbe := (Below.refl w2o.heap.size w2o).alloc (Nat.le_refl _) (.cells (flatE (twoE last k v)).toArray 69)
        have EN := Lib.hid (show Ents (w2o.alloc (.cells (flatE (twoE last k v)).toArray 69)) (fun b => b ≠ q) (some ⟨w2o.heap.size, 0, none⟩) 2 (twoE last k v) from ⟨rfl, Reads.new w2o (flatE (twoE last k v)).toArray 69 rfl (by have := lt_of_block P2.out; show w2o.heap.size ≠ q; omega)⟩)
        have P5 := Lib.hid ((hbe.block q (lt_of_block P2.out)).trans P2.out)
        have HB5 := Lib.hid (HB2.out.trans (hbe.mono HB2.out.size))
        have HM5 := Lib.hid (HM2.out.below hbe)
        have HG5 := Lib.hid (HG2.out.below hbe)
        have HU5 := Lib.hid (HU2.out.below hbe)
        have hw5 : w2o.alloc (.cells (flatE (twoE last k v)).toArray 69) = w2o.alloc (.cells #[.int .i64 0, .int .i64 last, .int .u32 k, .int .u32 0, .int .i64 v, .bool true, .int .i64 2, .int .i64 last, .int .u32 k, .int .u32 0, .int .i64 v, .bool true] 69) := rfl
        rw [← hw5]
        clear hw5 hbe
        generalize w2o.alloc (.cells (flatE (twoE last k v)).toArray 69) = w5 at *
        refine (CC.out (updB Bf 0 true) (updT T 0 k) (some ⟨w2o.heap.size, 0, none⟩) w5 (lt_of_block P5.out) HM5.out HG5.out HU5.out EN.out).mono ?_
        have GN2 := GN.out
        generalize (fun j => (accG 3 (k : Int) g (twoE last k v) j).or (g j)) = g' at *
        generalize (fun j => if (accG 3 (k : Int) g (twoE last k v) j).isSome then some (((W j).getD 0 + 1) % 4294967296) else W j) = W' at *
        have GN3 := Lib.hid GN2
        clear GN2 GN
        rintro e w6 ⟨b5, b6, f', rfl, hm, hg, hu, hb6⟩
        have P6 := Lib.hid ((hb6.block q (lt_of_block P5.out)).trans P5.out)
        have HB6 := Lib.hid (HB5.out.trans (hb6.mono HB5.out.size))
        have HM6 := Lib.hid hm
        have HG6 := Lib.hid hg
        have HU6 := Lib.hid hu
        clear CC EN P2 PW2 HB2 HM2 HG2 HU2 P5 HB5 HM5 HG5 HU5 hb6 hm hg hu
        go_wp2_with (first
          | (with_reducible refine at_alloc_ (t := 57) ?_; refine wpList_alloc_mine rfl 57 rfl _ rfl (stoZ 0) stoZ_zero rfl ?_)
          | (with_reducible refine at_store_ (t := 57) ?_; refine Hid.out ?_))
        refine Lib.hid ?_
        refine put_sto (c := 3) (n := (k : Int) + 1) (b1 := some b5) (b2 := some b6) (B := (updB Bf 0 true)) (T := (updT T 0 k)) rfl (.tmp 14) (.tmp 66) rfl rfl w6.heap.size rfl rfl (heap_alloc_new _ _) rfl ?_
        rw [setRow_alloc]
        have hbs := (Below.refl w6.heap.size w6).alloc (Nat.le_refl _) (.cells (stoCells 3 ((k : Int) + 1) (.map (some b5)) (.map (some b6)) (updB Bf 0 true) (updT T 0 k)) 57)
        have N7 := Lib.hid (heap_alloc_new w6 (.cells (stoCells 3 ((k : Int) + 1) (.map (some b5)) (.map (some b6)) (updB Bf 0 true) (updT T 0 k)) 57))
        have P7 := Lib.hid ((hbs.block q (lt_of_block P6.out)).trans P6.out)
        have HB7 := Lib.hid (HB6.out.trans (hbs.mono HB6.out.size))
        have HM7 := Lib.hid (HM6.out.below hbs)
        have HG7 := Lib.hid (HG6.out.below hbs)
        have HU7 := Lib.hid (HU6.out.below hbs)
        generalize w6.alloc (.cells (stoCells 3 ((k : Int) + 1) (.map (some b5)) (.map (some b6)) (updB Bf 0 true) (updT T 0 k)) 57) = w7 at *
        generalize w6.heap.size = td at *
        clear hbs P6 HB6 HM6 HG6 HU6
        go_wp2_with (first
          | (with_reducible refine at_load_ (t := 57) ?_; refine get_sto rfl _ rfl td rfl N7.out ?_)
          | (with_reducible refine at_store_ (t := 57) ?_; refine Hid.out ?_))
        refine Lib.hid ?_
        refine put_sto rfl (.tmp 5) (.tmp 77) rfl rfl q rfl rfl P7.out rfl ?_
        have P8 := Lib.hid (setRow_heap w7 q _ (stoCells 3 ((k : Int) + 1) (.map (some b5)) (.map (some b6)) (updB Bf 0 true) (updT T 0 k)) _ _ P7.out)
        have HB8 := Lib.hid (below_setRow HB7.out HQ.out (stoCells 3 ((k : Int) + 1) (.map (some b5)) (.map (some b6)) (updB Bf 0 true) (updT T 0 k)))
        have HM8 := Lib.hid (HM7.out.setRow (q := q) (by simp) (stoCells 3 ((k : Int) + 1) (.map (some b5)) (.map (some b6)) (updB Bf 0 true) (updT T 0 k)))
        have HG8 := Lib.hid (HG7.out.setRow (q := q) (by simp) (stoCells 3 ((k : Int) + 1) (.map (some b5)) (.map (some b6)) (updB Bf 0 true) (updT T 0 k)))
        have HU8 := Lib.hid (HU7.out.setRow (q := q) (by simp) (stoCells 3 ((k : Int) + 1) (.map (some b5)) (.map (some b6)) (updB Bf 0 true) (updT T 0 k)))
        generalize w7.setRow q (stoCells 3 ((k : Int) + 1) (.map (some b5)) (.map (some b6)) (updB Bf 0 true) (updT T 0 k)) = w8 at *
        clear N7 P7 HB7 HM7 HG7 HU7
        go_wp2_with (with_reducible refine at_load_ (t := 57) ?_; refine get_sto rfl _ rfl q rfl P8.out ?_)
        refine (readers_any 3 ((k : Int) + 1) (some b5) (some b6) (updB Bf 0 true) (updT T 0 k) w8).mono ?_
        rw [rd_one]
        rintro e w9 ⟨u, rfl, ho, hb9⟩
        obtain ⟨As, cs, rfl, g1, g2, g3⟩ := own_reads ho (S := fun _ => True) (fun b hb => trivial)
        have P9 := Lib.hid ((hb9.block q (lt_of_block P8.out)).trans P8.out)
        have HB9 := Lib.hid (HB8.out.trans (hb9.mono HB8.out.size))
        have HM9 := Lib.hid (HM8.out.below hb9)
        have HG9 := Lib.hid (HG8.out.below hb9)
        have HU9 := Lib.hid (HU8.out.below hb9)
        clear ho g1 g2 g3 hb9 P8 HB8 HM8 HG8 HU8
        have CR := Lib.hid fun (i : Int) (hi : i = 0 ∨ i = 2) (W1 : World) (hb : Below w9.heap.size w9 W1) => (show Calls Try.prog _ #[sto 3 ((k : Int) + 1) (.map (some b5)) (.map (some b6)) (updB Bf 0 true) (updT T 0 k), .int .i64 1, .int .i64 i] W1 _ from by
          have hs := GN3.out.see ((updT T 0 k) 0) hT0
          have hl : listOf 3 g' i = listOf 3 g' 2 := by rcases hi with rfl | rfl; exact hs.1; rfl
          have h := sread_ok (S := fun b => b ≠ q) 3 ((k : Int) + 1) (some b5) (some b6) (updB Bf 0 true) (updT T 0 k) f' g' 1 i W1 (fun b hb' => by have := lt_of_block P9.out; have := hb.size; omega) (HM9.out.below hb) (HG9.out.below hb) (by rw [hl]; exact hs.2.1) (by have := GN3.out.len i; omega) (by decide) (by rcases hi with rfl | rfl <;> decide)
          rw [hl, show ((1 : Int) - 1).toNat = 0 from rfl, if_pos hs.2.2, if_pos hs.2.2] at h
          exact h)
        generalize seeV (listOf 3 g' 2) ((updT T 0 k) 0) = x at *
        go_wp2_with (with_reducible refine at_load_ (t := 57) ?_; refine get_sto rfl _ rfl q rfl P9.out ?_)
        refine (CR.out 0 (.inl rfl) w9 (Below.refl _ _)).mono ?_
        rintro e w10 ⟨rfl, hb10⟩
        have P10 := Lib.hid ((hb10.block q (lt_of_block P9.out)).trans P9.out)
        have HB10 := Lib.hid hb10
        clear hb10
        go_wp2_with (with_reducible refine at_load_ (t := 57) ?_; refine get_sto rfl _ rfl q rfl P10.out ?_)
        refine (CR.out 2 (.inr rfl) w10 HB10.out).mono ?_
        rintro e w11 ⟨rfl, hb11⟩
        have hb := HB10.out.trans (hb11.mono HB10.out.size)
        have P11 := Lib.hid ((hb.block q (lt_of_block P9.out)).trans P9.out)
        have HB11 := Lib.hid (HB9.out.trans (hb.mono HB9.out.size))
        have HM11 := Lib.hid (HM9.out.below hb)
        have HG11 := Lib.hid (HG9.out.below hb)
        have HU11 := Lib.hid (HU9.out.below hb)
        clear hb11 hb P9 HB9 HM9 HG9 HU9 P10 HB10 CR
        go_wp2
        go_roundw
        case rel =>
          exact ⟨k + 1, v, _, _, _, _, _, _, _, ⟨HK.out.1, by go_num, rfl, P11.out⟩, HM11.out, HG11.out, HU11.out, GN3.out, HRn.out, HB11.out⟩
        case measure => exact meas_step _ _ HK.out.1
      · have hkE : ((k : Int) == r) = false := by simp; omega
        have hRn : Rd ((k : Int) + 1) r Bf T := .inl ⟨by omega, rfl⟩
        have HRn := Lib.hid hRn
        clear hRn
        have hc1 := HC.out
        go_wp2_with (first
          | (with_reducible refine at_alloc_ (t := 62) ?_; refine wpList_alloc_mine rfl 62 rfl _ rfl (wrd 0 0) wrd_zero rfl ?_)
          | (with_reducible refine at_store_ (t := 62) ?_; refine Hid.out ?_))
        refine Lib.hid ?_
        refine wpList_store_rowTo rfl 62 (.tmp 10) (.tmp 41) rfl rfl wr.heap.size (wrd last k) rfl rfl 62 (wrd 0 0) (heap_alloc_new _ _) Try.size62 rfl (wrd_ones ..) ?_
        rw [setRow_alloc]
        have PW2 := Lib.hid (heap_alloc_new wr (.cells (wrd last k) 62))
        have hbw := (Below.refl wr.heap.size wr).alloc (Nat.le_refl _) (.cells (wrd last k) 62)
        have P2 := Lib.hid ((hbw.block q (lt_of_block P.out)).trans P.out)
        have HB2 := Lib.hid (HB.out.trans (hbw.mono HB.out.size))
        have HM2 := Lib.hid (HM.out.below hbw)
        have HG2 := Lib.hid (HG.out.below hbw)
        have HU2 := Lib.hid (HU.out.below hbw)
        have HQ2 := Lib.hid (show q < wr.heap.size from lt_of_block P.out)
        generalize wr.alloc (.cells (wrd last k) 62) = w2 at *
        generalize wr.heap.size = tb at *
        clear hc1 hbw P HB HM HG HU HC
        go_wp2_with (first
          | (with_reducible refine at_load_ (t := 57) ?_; refine get_sto rfl _ rfl q rfl P2.out ?_)
          | (with_reducible refine at_load_ (t := 62) ?_; refine get_wrd rfl _ rfl tb rfl PW2.out ?_))
        have hbe := (Below.refl w2.heap.size w2).alloc (Nat.le_refl _) (.cells (flatE (twoE last k v)).toArray 69)
        have EN := Lib.hid (show Ents (w2.alloc (.cells (flatE (twoE last k v)).toArray 69)) (fun b => b ≠ q) (some ⟨w2.heap.size, 0, none⟩) 2 (twoE last k v) from ⟨rfl, Reads.new w2 (flatE (twoE last k v)).toArray 69 rfl (by have := lt_of_block P2.out; show w2.heap.size ≠ q; omega)⟩)
        have P5 := Lib.hid ((hbe.block q (lt_of_block P2.out)).trans P2.out)
        have HB5 := Lib.hid (HB2.out.trans (hbe.mono HB2.out.size))
        have HM5 := Lib.hid (HM2.out.below hbe)
        have HG5 := Lib.hid (HG2.out.below hbe)
        have HU5 := Lib.hid (HU2.out.below hbe)
        have hw5 : w2.alloc (.cells (flatE (twoE last k v)).toArray 69) = w2.alloc (.cells #[.int .i64 0, .int .i64 last, .int .u32 k, .int .u32 0, .int .i64 v, .bool true, .int .i64 2, .int .i64 last, .int .u32 k, .int .u32 0, .int .i64 v, .bool true] 69) := rfl
        rw [← hw5]
        clear hw5 hbe
        generalize w2.alloc (.cells (flatE (twoE last k v)).toArray 69) = w5 at *
        refine (CC.out Bf T (some ⟨w2.heap.size, 0, none⟩) w5 (lt_of_block P5.out) HM5.out HG5.out HU5.out EN.out).mono ?_
        have GN2 := GN.out
        generalize (fun j => (accG 3 (k : Int) g (twoE last k v) j).or (g j)) = g' at *
        generalize (fun j => if (accG 3 (k : Int) g (twoE last k v) j).isSome then some (((W j).getD 0 + 1) % 4294967296) else W j) = W' at *
        have GN3 := Lib.hid GN2
        clear GN2 GN
        rintro e w6 ⟨b5, b6, f', rfl, hm, hg, hu, hb6⟩
        have P6 := Lib.hid ((hb6.block q (lt_of_block P5.out)).trans P5.out)
        have HB6 := Lib.hid (HB5.out.trans (hb6.mono HB5.out.size))
        have HM6 := Lib.hid hm
        have HG6 := Lib.hid hg
        have HU6 := Lib.hid hu
        clear CC EN P2 PW2 HB2 HM2 HG2 HU2 P5 HB5 HM5 HG5 HU5 hb6 hm hg hu
        go_wp2_with (first
          | (with_reducible refine at_alloc_ (t := 57) ?_; refine wpList_alloc_mine rfl 57 rfl _ rfl (stoZ 0) stoZ_zero rfl ?_)
          | (with_reducible refine at_store_ (t := 57) ?_; refine Hid.out ?_))
        refine Lib.hid ?_
        refine put_sto (c := 3) (n := (k : Int) + 1) (b1 := some b5) (b2 := some b6) (B := Bf) (T := T) rfl (.tmp 14) (.tmp 66) rfl rfl w6.heap.size rfl rfl (heap_alloc_new _ _) rfl ?_
        rw [setRow_alloc]
        have hbs := (Below.refl w6.heap.size w6).alloc (Nat.le_refl _) (.cells (stoCells 3 ((k : Int) + 1) (.map (some b5)) (.map (some b6)) Bf T) 57)
        have N7 := Lib.hid (heap_alloc_new w6 (.cells (stoCells 3 ((k : Int) + 1) (.map (some b5)) (.map (some b6)) Bf T) 57))
        have P7 := Lib.hid ((hbs.block q (lt_of_block P6.out)).trans P6.out)
        have HB7 := Lib.hid (HB6.out.trans (hbs.mono HB6.out.size))
        have HM7 := Lib.hid (HM6.out.below hbs)
        have HG7 := Lib.hid (HG6.out.below hbs)
        have HU7 := Lib.hid (HU6.out.below hbs)
        generalize w6.alloc (.cells (stoCells 3 ((k : Int) + 1) (.map (some b5)) (.map (some b6)) Bf T) 57) = w7 at *
        generalize w6.heap.size = td at *
        clear hbs P6 HB6 HM6 HG6 HU6
        go_wp2_with (first
          | (with_reducible refine at_load_ (t := 57) ?_; refine get_sto rfl _ rfl td rfl N7.out ?_)
          | (with_reducible refine at_store_ (t := 57) ?_; refine Hid.out ?_))
        refine Lib.hid ?_
        refine put_sto rfl (.tmp 5) (.tmp 77) rfl rfl q rfl rfl P7.out rfl ?_
        have P8 := Lib.hid (setRow_heap w7 q _ (stoCells 3 ((k : Int) + 1) (.map (some b5)) (.map (some b6)) Bf T) _ _ P7.out)
        have HB8 := Lib.hid (below_setRow HB7.out HQ.out (stoCells 3 ((k : Int) + 1) (.map (some b5)) (.map (some b6)) Bf T))
        have HM8 := Lib.hid (HM7.out.setRow (q := q) (by simp) (stoCells 3 ((k : Int) + 1) (.map (some b5)) (.map (some b6)) Bf T))
        have HG8 := Lib.hid (HG7.out.setRow (q := q) (by simp) (stoCells 3 ((k : Int) + 1) (.map (some b5)) (.map (some b6)) Bf T))
        have HU8 := Lib.hid (HU7.out.setRow (q := q) (by simp) (stoCells 3 ((k : Int) + 1) (.map (some b5)) (.map (some b6)) Bf T))
        generalize w7.setRow q (stoCells 3 ((k : Int) + 1) (.map (some b5)) (.map (some b6)) Bf T) = w8 at *
        clear N7 P7 HB7 HM7 HG7 HU7
        go_wp2_with (with_reducible refine at_load_ (t := 57) ?_; refine get_sto rfl _ rfl q rfl P8.out ?_)
        refine (readers_any 3 ((k : Int) + 1) (some b5) (some b6) Bf T w8).mono ?_
        rw [rd_none]
        rintro e w9 ⟨u, rfl, ho, hb9⟩
        obtain ⟨As, cs, rfl, g1, g2, g3⟩ := own_reads ho (S := fun _ => True) (fun b hb => trivial)
        have P9 := Lib.hid ((hb9.block q (lt_of_block P8.out)).trans P8.out)
        have HB9 := Lib.hid (HB8.out.trans (hb9.mono HB8.out.size))
        have HM9 := Lib.hid (HM8.out.below hb9)
        have HG9 := Lib.hid (HG8.out.below hb9)
        have HU9 := Lib.hid (HU8.out.below hb9)
        clear ho g1 g2 g3 hb9 P8 HB8 HM8 HG8 HU8
        go_wp2
        go_roundw
        case rel =>
          exact ⟨k + 1, v, _, _, _, _, _, _, _, ⟨HK.out.1, by go_num, rfl, P9.out⟩, HM9.out, HG9.out, HU9.out, GN3.out, HRn.out, HB9.out⟩
        case measure => exact meas_step _ _ HK.out.1
      · have hkE : ((k : Int) == r) = false := by simp; omega
        have hRn : Rd ((k : Int) + 1) r (updB Bf 0 true) T := .inr ⟨by omega, rfl, hT0⟩
        have HRn := Lib.hid hRn
        clear hRn
        have hc1 := HC.out
        go_wp2_with (first
          | (with_reducible refine at_alloc_ (t := 62) ?_; refine wpList_alloc_mine rfl 62 rfl _ rfl (wrd 0 0) wrd_zero rfl ?_)
          | (with_reducible refine at_store_ (t := 62) ?_; refine Hid.out ?_))
        refine Lib.hid ?_
        refine wpList_store_rowTo rfl 62 (.tmp 10) (.tmp 41) rfl rfl wr.heap.size (wrd last k) rfl rfl 62 (wrd 0 0) (heap_alloc_new _ _) Try.size62 rfl (wrd_ones ..) ?_
        rw [setRow_alloc]
        have PW2 := Lib.hid (heap_alloc_new wr (.cells (wrd last k) 62))
        have hbw := (Below.refl wr.heap.size wr).alloc (Nat.le_refl _) (.cells (wrd last k) 62)
        have P2 := Lib.hid ((hbw.block q (lt_of_block P.out)).trans P.out)
        have HB2 := Lib.hid (HB.out.trans (hbw.mono HB.out.size))
        have HM2 := Lib.hid (HM.out.below hbw)
        have HG2 := Lib.hid (HG.out.below hbw)
        have HU2 := Lib.hid (HU.out.below hbw)
        have HQ2 := Lib.hid (show q < wr.heap.size from lt_of_block P.out)
        generalize wr.alloc (.cells (wrd last k) 62) = w2 at *
        generalize wr.heap.size = tb at *
        clear hc1 hbw P HB HM HG HU HC
        go_wp2_with (first
          | (with_reducible refine at_load_ (t := 57) ?_; refine get_sto rfl _ rfl q rfl P2.out ?_)
          | (with_reducible refine at_load_ (t := 62) ?_; refine get_wrd rfl _ rfl tb rfl PW2.out ?_))
        have hbe := (Below.refl w2.heap.size w2).alloc (Nat.le_refl _) (.cells (flatE (twoE last k v)).toArray 69)
        have EN := Lib.hid (show Ents (w2.alloc (.cells (flatE (twoE last k v)).toArray 69)) (fun b => b ≠ q) (some ⟨w2.heap.size, 0, none⟩) 2 (twoE last k v) from ⟨rfl, Reads.new w2 (flatE (twoE last k v)).toArray 69 rfl (by have := lt_of_block P2.out; show w2.heap.size ≠ q; omega)⟩)
        have P5 := Lib.hid ((hbe.block q (lt_of_block P2.out)).trans P2.out)
        have HB5 := Lib.hid (HB2.out.trans (hbe.mono HB2.out.size))
        have HM5 := Lib.hid (HM2.out.below hbe)
        have HG5 := Lib.hid (HG2.out.below hbe)
        have HU5 := Lib.hid (HU2.out.below hbe)
        have hw5 : w2.alloc (.cells (flatE (twoE last k v)).toArray 69) = w2.alloc (.cells #[.int .i64 0, .int .i64 last, .int .u32 k, .int .u32 0, .int .i64 v, .bool true, .int .i64 2, .int .i64 last, .int .u32 k, .int .u32 0, .int .i64 v, .bool true] 69) := rfl
        rw [← hw5]
        clear hw5 hbe
        generalize w2.alloc (.cells (flatE (twoE last k v)).toArray 69) = w5 at *
        refine (CC.out (updB Bf 0 true) T (some ⟨w2.heap.size, 0, none⟩) w5 (lt_of_block P5.out) HM5.out HG5.out HU5.out EN.out).mono ?_
        have GN2 := GN.out
        generalize (fun j => (accG 3 (k : Int) g (twoE last k v) j).or (g j)) = g' at *
        generalize (fun j => if (accG 3 (k : Int) g (twoE last k v) j).isSome then some (((W j).getD 0 + 1) % 4294967296) else W j) = W' at *
        have GN3 := Lib.hid GN2
        clear GN2 GN
        rintro e w6 ⟨b5, b6, f', rfl, hm, hg, hu, hb6⟩
        have P6 := Lib.hid ((hb6.block q (lt_of_block P5.out)).trans P5.out)
        have HB6 := Lib.hid (HB5.out.trans (hb6.mono HB5.out.size))
        have HM6 := Lib.hid hm
        have HG6 := Lib.hid hg
        have HU6 := Lib.hid hu
        clear CC EN P2 PW2 HB2 HM2 HG2 HU2 P5 HB5 HM5 HG5 HU5 hb6 hm hg hu
        go_wp2_with (first
          | (with_reducible refine at_alloc_ (t := 57) ?_; refine wpList_alloc_mine rfl 57 rfl _ rfl (stoZ 0) stoZ_zero rfl ?_)
          | (with_reducible refine at_store_ (t := 57) ?_; refine Hid.out ?_))
        refine Lib.hid ?_
        refine put_sto (c := 3) (n := (k : Int) + 1) (b1 := some b5) (b2 := some b6) (B := (updB Bf 0 true)) (T := T) rfl (.tmp 14) (.tmp 66) rfl rfl w6.heap.size rfl rfl (heap_alloc_new _ _) rfl ?_
        rw [setRow_alloc]
        have hbs := (Below.refl w6.heap.size w6).alloc (Nat.le_refl _) (.cells (stoCells 3 ((k : Int) + 1) (.map (some b5)) (.map (some b6)) (updB Bf 0 true) T) 57)
        have N7 := Lib.hid (heap_alloc_new w6 (.cells (stoCells 3 ((k : Int) + 1) (.map (some b5)) (.map (some b6)) (updB Bf 0 true) T) 57))
        have P7 := Lib.hid ((hbs.block q (lt_of_block P6.out)).trans P6.out)
        have HB7 := Lib.hid (HB6.out.trans (hbs.mono HB6.out.size))
        have HM7 := Lib.hid (HM6.out.below hbs)
        have HG7 := Lib.hid (HG6.out.below hbs)
        have HU7 := Lib.hid (HU6.out.below hbs)
        generalize w6.alloc (.cells (stoCells 3 ((k : Int) + 1) (.map (some b5)) (.map (some b6)) (updB Bf 0 true) T) 57) = w7 at *
        generalize w6.heap.size = td at *
        clear hbs P6 HB6 HM6 HG6 HU6
        go_wp2_with (first
          | (with_reducible refine at_load_ (t := 57) ?_; refine get_sto rfl _ rfl td rfl N7.out ?_)
          | (with_reducible refine at_store_ (t := 57) ?_; refine Hid.out ?_))
        refine Lib.hid ?_
        refine put_sto rfl (.tmp 5) (.tmp 77) rfl rfl q rfl rfl P7.out rfl ?_
        have P8 := Lib.hid (setRow_heap w7 q _ (stoCells 3 ((k : Int) + 1) (.map (some b5)) (.map (some b6)) (updB Bf 0 true) T) _ _ P7.out)
        have HB8 := Lib.hid (below_setRow HB7.out HQ.out (stoCells 3 ((k : Int) + 1) (.map (some b5)) (.map (some b6)) (updB Bf 0 true) T))
        have HM8 := Lib.hid (HM7.out.setRow (q := q) (by simp) (stoCells 3 ((k : Int) + 1) (.map (some b5)) (.map (some b6)) (updB Bf 0 true) T))
        have HG8 := Lib.hid (HG7.out.setRow (q := q) (by simp) (stoCells 3 ((k : Int) + 1) (.map (some b5)) (.map (some b6)) (updB Bf 0 true) T))
        have HU8 := Lib.hid (HU7.out.setRow (q := q) (by simp) (stoCells 3 ((k : Int) + 1) (.map (some b5)) (.map (some b6)) (updB Bf 0 true) T))
        generalize w7.setRow q (stoCells 3 ((k : Int) + 1) (.map (some b5)) (.map (some b6)) (updB Bf 0 true) T) = w8 at *
        clear N7 P7 HB7 HM7 HG7 HU7
        go_wp2_with (with_reducible refine at_load_ (t := 57) ?_; refine get_sto rfl _ rfl q rfl P8.out ?_)
        refine (readers_any 3 ((k : Int) + 1) (some b5) (some b6) (updB Bf 0 true) T w8).mono ?_
        rw [rd_one]
        rintro e w9 ⟨u, rfl, ho, hb9⟩
        obtain ⟨As, cs, rfl, g1, g2, g3⟩ := own_reads ho (S := fun _ => True) (fun b hb => trivial)
        have P9 := Lib.hid ((hb9.block q (lt_of_block P8.out)).trans P8.out)
        have HB9 := Lib.hid (HB8.out.trans (hb9.mono HB8.out.size))
        have HM9 := Lib.hid (HM8.out.below hb9)
        have HG9 := Lib.hid (HG8.out.below hb9)
        have HU9 := Lib.hid (HU8.out.below hb9)
        clear ho g1 g2 g3 hb9 P8 HB8 HM8 HG8 HU8
        have CR := Lib.hid fun (i : Int) (hi : i = 0 ∨ i = 2) (W1 : World) (hb : Below w9.heap.size w9 W1) => (show Calls Try.prog _ #[sto 3 ((k : Int) + 1) (.map (some b5)) (.map (some b6)) (updB Bf 0 true) T, .int .i64 1, .int .i64 i] W1 _ from by
          have hs := GN3.out.see (T 0) hT0
          have hl : listOf 3 g' i = listOf 3 g' 2 := by rcases hi with rfl | rfl; exact hs.1; rfl
          have h := sread_ok (S := fun b => b ≠ q) 3 ((k : Int) + 1) (some b5) (some b6) (updB Bf 0 true) T f' g' 1 i W1 (fun b hb' => by have := lt_of_block P9.out; have := hb.size; omega) (HM9.out.below hb) (HG9.out.below hb) (by rw [hl]; exact hs.2.1) (by have := GN3.out.len i; omega) (by decide) (by rcases hi with rfl | rfl <;> decide)
          rw [hl, show ((1 : Int) - 1).toNat = 0 from rfl, if_pos hs.2.2, if_pos hs.2.2] at h
          exact h)
        generalize seeV (listOf 3 g' 2) (T 0) = x at *
        go_wp2_with (with_reducible refine at_load_ (t := 57) ?_; refine get_sto rfl _ rfl q rfl P9.out ?_)
        refine (CR.out 0 (.inl rfl) w9 (Below.refl _ _)).mono ?_
        rintro e w10 ⟨rfl, hb10⟩
        have P10 := Lib.hid ((hb10.block q (lt_of_block P9.out)).trans P9.out)
        have HB10 := Lib.hid hb10
        clear hb10
        go_wp2_with (with_reducible refine at_load_ (t := 57) ?_; refine get_sto rfl _ rfl q rfl P10.out ?_)
        refine (CR.out 2 (.inr rfl) w10 HB10.out).mono ?_
        rintro e w11 ⟨rfl, hb11⟩
        have hb := HB10.out.trans (hb11.mono HB10.out.size)
        have P11 := Lib.hid ((hb.block q (lt_of_block P9.out)).trans P9.out)
        have HB11 := Lib.hid (HB9.out.trans (hb.mono HB9.out.size))
        have HM11 := Lib.hid (HM9.out.below hb)
        have HG11 := Lib.hid (HG9.out.below hb)
        have HU11 := Lib.hid (HU9.out.below hb)
        clear hb11 hb P9 HB9 HM9 HG9 HU9 P10 HB10 CR
        go_wp2
        go_roundw
        case rel =>
          exact ⟨k + 1, v, _, _, _, _, _, _, _, ⟨HK.out.1, by go_num, rfl, P11.out⟩, HM11.out, HG11.out, HU11.out, GN3.out, HRn.out, HB11.out⟩
        case measure => exact meas_step _ _ HK.out.1
    · obtain rfl : k = l.length := by omega
      have hi : (n : Int) ≤ (l.length : Int) := by have := HN.out; omega
      have hnn := HN.out
      subst hnn
      have P := Lib.hid hP
      have HB := Lib.hid hB
      clear hP hB hm hg hu hG hR hi hlt hk
      go_wp2_with fail
      refine (awake_snap wr).mono ?_
      rintro e w2' ⟨rfl, hb2⟩
      have P2 := Lib.hid ((hb2.block q (lt_of_block P.out)).trans P.out)
      have HB2 := Lib.hid (HB.out.trans (hb2.mono HB.out.size))
      clear hb2 P HB
      go_wp2_with (with_reducible refine at_load_ (t := 57) ?_; refine Hid.out ?_)
      refine Lib.hid ?_
      refine get_sto_g (by kernel_rfl) (.tmp 5) rfl q rfl P2.out ?_
      try simp only [Act.put, List.setIfInBounds_toArray, List.set_cons_zero, List.set_cons_succ]
      go_wp2_with fail
      refine (snow_any 3 l.length b1 b2 B T w2').mono ?_
      rintro e w3' ⟨rfl, hb3⟩
      have HB3 := Lib.hid (HB2.out.trans (hb3.mono HB2.out.size))
      clear hb3
      go_wp2
      go_ret
      exact ⟨rfl, HB3.out⟩

theorem whole_any (A : Option Addr) (n c : Nat) (l : List Int) (a : Int) (w : World) (hn : n = l.length) (hl : Reads w (fun _ => True) 1 A n (l.map (.int .i64 ·))) (h0 : 0 ≤ a) (h1 : a ≤ 255) :
    Calls Try.prog 9 #[.slice A n c, .int .u8 a] w fun e w' => e = .returned (.bool true) ∧ Below w.heap.size w w' := by
  by_cases h60 : n ≤ 60
  · exact whole_ok A n c l a _ w hn h60 hl h0 h1 rfl
  · have hN0 : (60 : Int) < (n : Int) := by omega
    clear hn hl h60
    go_enter Try.func9, Try.ntmps9
    go_wp2_with fail
    refine (awake_snap w).mono ?_
    rintro e w1 ⟨rfl, hb1⟩
    have HB1 := Lib.hid hb1
    clear hb1
    go_wp2
    go_ret
    exact ⟨rfl, HB1.out⟩
end Go.Proofs.Ytpejhgkcofilmaa
