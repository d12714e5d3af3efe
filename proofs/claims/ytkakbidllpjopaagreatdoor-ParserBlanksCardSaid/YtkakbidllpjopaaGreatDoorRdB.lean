/- The walk of ParserBlanks. Conditions: the laid tables and error variables (WW). -/
import Derived.Test.YtkakbidllpjopaaGreatDoorRdA
import Derived.Test.YtkakbidllpjopaaGreatDoorW14
import Derived.Test.YtkakbidllpjopaaGreatDoorW15
import Derived.Test.YtkakbidllpjopaaGreatDoorRbA
set_option linter.unusedVariables false
set_option linter.unusedSimpArgs false
namespace Go.Proofs.YtkakbidllpjopaaGreatDoor
open Go.RowKit

theorem bs_join (a b : List UInt8) : bs a ++ bs b = bs (a ++ b) := by
  rw [← bs_eta (bs a ++ bs b)]
  congr 1
/-- The bytes of the law. -/
def Byts (w : World) (A : Option Addr) (n : Nat) (l : List Int) : Prop := n = l.length ∧ Reads w (fun _ => True) 1 A n (l.flatMap fun a => [Value.int .u8 a]) ∧ ∀ x ∈ l, 0 ≤ x ∧ x ≤ 255
theorem flat_one (l : List Int) : ∀ k (hk : k < l.length), (l.flatMap fun a => [Value.int .u8 a])[k]? = some (.int .u8 l[k]) := by
  induction l with
  | nil => intro k hk; cases hk
  | cons a t ih =>
    intro k hk
    cases k with
    | zero => rfl
    | succ k => exact ih k (by simpa using hk)
theorem Byts.at_ {w : World} {A : Option Addr} {n : Nat} {l : List Int} (h : Byts w A n l) (h0 : 0 < n) :
    ∃ b o, A = some ⟨b, o, none⟩ ∧ b < w.heap.size ∧ ∀ w', Below w.heap.size w w' → ∀ k (hk : k < l.length), w'.cell? ⟨b, o + k, none⟩ = some (.int .u8 l[k]) := by
  obtain ⟨h1, h2, h3⟩ := h
  obtain ⟨b, o, e, hb, hS, hh⟩ := h2.2 h0
  refine ⟨b, o, e, hb, fun w' hB k hk => ?_⟩
  rw [hB.cell hb]
  exact hh k _ (flat_one l k hk)
theorem prP_lim (s : Str) : (prP s).1.Lim (s.length + 1) := by
  have hz : ∀ n, emP.Lim n := fun n => ⟨Nat.zero_le _, Nat.zero_le _, fun o ho => by cases ho⟩
  by_cases he : (Lx.scanL s).2.2 = 0
  · cases hp : pP ((Lx.scanL s).1.map tkq) with
    | bad r => rw [prP_bad he hp]; exact hz _
    | ok p r =>
      rw [prP_ok he hp]
      split
      · have hl := (size_pP hp).1
        rw [List.length_map] at hl
        have hn := (scan_ok he).2.2.2.1
        dsimp only
        exact ⟨by have := hl.1; omega, by have := hl.2.1; omega, fun o ho => by have := hl.2.2 o ho; omega⟩
      · exact hz _
  · rw [prP_err he]; exact hz _
theorem prE_size (s : Str) : (prE s).1.size ≤ s.length + 2 := by
  have hz : emE.size = 1 := by unfold emE; simp only [Ex.size, Ex.sizes]
  by_cases he : (Lx.scanL s).2.2 = 0
  · cases hp : pX ((Lx.scanL s).1.map tkq) with
    | bad r => rw [prE_bad he hp]; dsimp only; omega
    | ok p r =>
      rw [prE_ok he hp]
      split
      · have hn := (scan_ok he).2.2.2.1
        unfold pX at hp
        cases hb : pE ((Lx.scanL s).1.map tkq) with
        | bad q => rw [hb] at hp; cases hp
        | ok x q =>
          rw [hb] at hp
          dsimp only at hp
          split at hp
          · injection hp with h1 h2
            subst h1 h2
            have := size_pE hb
            rw [List.length_map] at this
            dsimp only
            omega
          · cases hp
      · dsimp only; omega
  · rw [prE_err he]; dsimp only; omega
theorem alone_fit {e : Ex} (h : e.size ≤ 900000) : (aloneP e).Fit := by
  refine ⟨Nat.zero_le _, show 1 ≤ 1000000 from by omega, fun o ho => ?_⟩
  rw [List.mem_singleton.1 ho]
  simp only [St.sizes, St.size]
  exact ⟨Nat.zero_le _, by omega⟩
/-- Which gap follows token i. -/
def gapF (gs : List Int) (i : Nat) : Nat := (gs.getD (i % gs.length) 0 % 4).toNat
theorem take_sum (l : List Nat) (k : Nat) : (l.take k).sum ≤ l.sum := by
  rw [← List.take_append_drop k l, List.sum_append, List.take_append_drop]
  omega
theorem blanks_cat {s : Str} (h : (Lx.scanL s).2.2 = 0) (g : Nat → Nat) (k : Nat) (hk : k ≤ (Lx.scanL s).1.length) : (Lx.catP (Lx.scanL s).1 g k).length ≤ s.length + k * 7 := by
  refine Nat.le_trans (Lx.catP_sum _ g k hk) (Nat.add_le_add_right ?_ _)
  rw [List.map_take]
  refine Nat.le_trans (take_sum _ _) ?_
  unfold Lx.scanL at h ⊢
  split at h
  · cases h
  rename_i hl
  rw [if_neg hl]
  cases hs : Lx.scanR s with
  | error e =>
    obtain ⟨j, er⟩ := e
    exact Nat.zero_le _
  | ok us =>
    have hg : Lx.scanG (s.length + 1) (Lx.blankA false s) (s.drop (Lx.blankA false s)) = .ok us := hs
    have := Lx.scan_sum _ _ _ _ hg
    rw [List.length_drop] at this
    dsimp only
    rw [List.map_append, List.sum_append]
    simp only [List.map_cons, List.map_nil, List.sum_cons, List.sum_nil, List.length_nil]
    omega
theorem blanks_scan {s : Str} (h : (Lx.scanL s).2.2 = 0) (g : Nat → Nat) (hl : s.length ≤ 600) : (Lx.catP (Lx.scanL s).1 g (Lx.scanL s).1.length).length ≤ 5000 ∧ (Lx.scanL (Lx.catP (Lx.scanL s).1 g (Lx.scanL s).1.length)).2.2 = 0 ∧ (Lx.scanL (Lx.catP (Lx.scanL s).1 g (Lx.scanL s).1.length)).1.map tkq = (Lx.scanL s).1.map tkq := by
  have hn := (scan_ok h).2.2.2.1
  have hc := blanks_cat h g _ (Nat.le_refl _)
  have hc5 : (Lx.catP (Lx.scanL s).1 g (Lx.scanL s).1.length).length ≤ 5000 := by omega
  refine ⟨hc5, ?_⟩
  have hj : ∃ us : List Lx.Tok, (Lx.scanL s).1 = us ++ [⟨0, [], s.length⟩] ∧ ∀ t ∈ us, ∃ r, Lx.nextT r = (t.kind, t.text, 0) := by
    unfold Lx.scanL at h ⊢
    split at h
    · cases h
    rename_i hl
    rw [if_neg hl]
    cases hs : Lx.scanR s with
    | error e =>
      obtain ⟨j, er⟩ := e
      rw [hs] at h
      exfalso
      have hk := scan_ok (s := s) (by unfold Lx.scanL; rw [if_neg hl, hs]; exact h)
      have h2 := hk.2.1
      unfold Lx.scanL at h2
      rw [if_neg hl, hs] at h2
      exact h2
    | ok us => exact ⟨us, rfl, Lx.pscan_toks _ _ _ _ (show Lx.scanG _ _ _ = .ok us from hs)⟩
  obtain ⟨us, e1, e2⟩ := hj
  have e3 := Lx.catP_join us ⟨0, [], s.length⟩ rfl g
  rw [e1] at hc5 ⊢
  rw [List.length_append, List.length_singleton] at hc5 ⊢
  rw [e3] at hc5 ⊢
  have hx := Lx.joinP_lex (us.map fun t => (t.kind, t.text)) g (fun t ht => by
    obtain ⟨x, hx, rfl⟩ := List.mem_map.1 ht
    exact e2 x hx)
  obtain ⟨k1, k2⟩ := scan_of hx (by omega)
  refine ⟨k1, ?_⟩
  rw [k2, List.map_append]
  rfl
set_option maxRecDepth 100000 in
set_option maxHeartbeats 12800000 in
theorem blanks_long (s : Str) (GA : Option Addr) (gn gc : Nat) (gs : List Int) (w : World) (hw : WW w) (hG : Byts w GA gn gs) (hgm : gn ≤ 9223372036854775807) (hl : 600 < s.length) : Calls Tryz.prog 7 #[.string (bs s), .slice GA gn gc] w fun e w' => e = .returned (.bool true) ∧ Below w.heap.size w w' := by
  have HW := Lib.hid hw
  have B := Lib.hid (Below.refl w.heap.size w)
  have hsz := bs_size s
  have hli : (600 : Int) < (s.length : Int) := by omega
  clear hw hl hG
  go_enter Tryz.func7, Tryz.ntmps7
  go_wp2_with fail
  refine (awake_any _ (HW.out.below B.out)).mono ?_
  rintro e wk ⟨rfl, hb⟩
  obtain h0 := B.out
  clear B
  have B := Lib.hid (h0.trans (hb.mono h0.size))
  clear h0
  clear hb
  go_wp2
  go_ret
  exact ⟨rfl, B.out⟩
set_option maxRecDepth 100000 in
set_option maxHeartbeats 12800000 in
theorem blanks_none (s : Str) (GA : Option Addr) (gn gc : Nat) (gs : List Int) (w : World) (hw : WW w) (hG : Byts w GA gn gs) (hgm : gn ≤ 9223372036854775807) (hl : ¬ 600 < s.length) (h0 : gn = 0) : Calls Tryz.prog 7 #[.string (bs s), .slice GA gn gc] w fun e w' => e = .returned (.bool true) ∧ Below w.heap.size w w' := by
  have HW := Lib.hid hw
  have B := Lib.hid (Below.refl w.heap.size w)
  have hsz := bs_size s
  have hli : (s.length : Int) ≤ 600 := by omega
  subst h0
  clear hw hl hG
  go_enter Tryz.func7, Tryz.ntmps7
  go_wp2_with fail
  refine (awake_any _ (HW.out.below B.out)).mono ?_
  rintro e wk ⟨rfl, hb⟩
  obtain h0 := B.out
  clear B
  have B := Lib.hid (h0.trans (hb.mono h0.size))
  clear h0
  clear hb
  go_wp2
  go_ret
  exact ⟨rfl, B.out⟩
set_option maxRecDepth 100000 in
set_option maxHeartbeats 12800000 in
theorem blanks_err (s : Str) (GA : Option Addr) (gn gc : Nat) (gs : List Int) (w : World) (hw : WW w) (hG : Byts w GA gn gs) (hgm : gn ≤ 9223372036854775807) (hl : ¬ 600 < s.length) (h0 : ¬ gn = 0) (he : (Lx.scanL s).2.2 ≠ 0) : Calls Tryz.prog 7 #[.string (bs s), .slice GA gn gc] w fun e w' => e = .returned (.bool true) ∧ Below w.heap.size w w' := by
  have HW := Lib.hid hw
  have B := Lib.hid (Below.refl w.heap.size w)
  have hsz := bs_size s
  have hli : (s.length : Int) ≤ 600 := by omega
  have hgi : ¬ (gn : Int) = 0 := by omega
  have hgd : ((gn : Int) == 0) = false := beq_eq_false_iff_ne.2 hgi
  have h2d : decide ((600 : Int) < (s.length : Int)) = false := decide_eq_false (by omega)
  have K := Lib.hid (Lx.scan_any s w hw.lx (by omega))
  generalize Lx.scanL s = T at *
  obtain ⟨L, k0, er⟩ := T
  dsimp only at *
  have e1 : (er != 0) = true := by simpa using he
  have e2 : decide (er = 0) = false := by simpa using he
  clear hw hl hG h0
  go_enter Tryz.func7, Tryz.ntmps7
  go_wp2_with fail
  refine K.out.mono ?_
  rintro e w1 ⟨v, rfl, ho, hb⟩
  obtain ⟨A, c, rfl, -, -, -⟩ := own_reads ho (S := fun _ => True) (fun b hb => trivial)
  obtain h0 := B.out
  clear B
  have B := Lib.hid (h0.trans (hb.mono h0.size))
  clear h0
  clear hb ho K
  go_wp2_with fail
  refine (awake_any _ (HW.out.below B.out)).mono ?_
  rintro e wk ⟨rfl, hb⟩
  obtain h0 := B.out
  clear B
  have B := Lib.hid (h0.trans (hb.mono h0.size))
  clear h0
  clear hb
  go_wp2
  go_ret
  exact ⟨rfl, B.out⟩
set_option maxRecDepth 100000 in
set_option maxHeartbeats 12800000 in
theorem blanks_yes (s : Str) (GA : Option Addr) (gn gc : Nat) (gs : List Int) (w : World) (hw : WW w) (hG : Byts w GA gn gs) (hgm : gn ≤ 9223372036854775807) (hl : ¬ 600 < s.length) (h0 : ¬ gn = 0) (he : (Lx.scanL s).2.2 = 0) : Calls Tryz.prog 7 #[.string (bs s), .slice GA gn gc] w fun e w' => e = .returned (.bool true) ∧ Below w.heap.size w w' := by
  have HW := Lib.hid hw
  have B := Lib.hid (Below.refl w.heap.size w)
  have hsz := bs_size s
  have hli : (s.length : Int) ≤ 600 := by omega
  have hgi : ¬ (gn : Int) = 0 := by omega
  have hgd : ((gn : Int) == 0) = false := beq_eq_false_iff_ne.2 hgi
  have h2d : decide ((600 : Int) < (s.length : Int)) = false := decide_eq_false (by omega)
  have K := Lib.hid (Lx.scan_any s w hw.lx (by omega))
  have hok := scan_ok he
  have HLN := Lib.hid (show 0 < (Lx.scanL s).1.length ∧ (Lx.scanL s).1.length ≤ 601 from ⟨by have := hok.2.1.ne; cases hL : (Lx.scanL s).1 with | nil => rw [hL] at this; exact absurd rfl this | cons t r => simp, by have := hok.2.2.2.1; omega⟩)
  have HTL := Lib.hid (show ∀ t ∈ (Lx.scanL s).1, t.text.length ≤ 65536 from fun t ht => hok.1.txt t ht)
  have HCB := Lib.hid (show ∀ k ≤ (Lx.scanL s).1.length, (Lx.catP (Lx.scanL s).1 (gapF gs) k).length ≤ 5000 from fun k hk => by have := blanks_cat he (gapF gs) k hk; have := HLN.out.2; omega)
  obtain ⟨j1, j2, j3⟩ := blanks_scan he (gapF gs) (by omega)
  have HSM := Lib.hid (prP_same he j2 j3)
  have HJ1 := Lib.hid j1
  have HPAR := Lib.hid (fun h => prE_par (s := s) h (by omega))
  have HZS := Lib.hid (fun h => prP_zero (s := s) h)
  have HSL := Lib.hid (show s.length ≤ 600 by omega)
  have k0 := hok.2.2.1
  obtain ⟨L, hL⟩ : ∃ z, z = (Lx.scanL s).1 := ⟨_, rfl⟩
  rw [← hL] at HLN HTL HCB HSM HJ1
  have hkk := K.out
  rw [k0, he, ← hL] at hkk
  clear K
  have K := Lib.hid hkk
  obtain ⟨gb, go, rfl, hgb, hgc⟩ := hG.at_ (by omega)
  obtain ⟨hgn, _, hgv⟩ := hG
  subst hgn
  have HGC := Lib.hid hgc
  have HGB := Lib.hid hgb
  have HG0 := Lib.hid (show 0 < gs.length by omega)
  have hln1 := HLN.out.2
  have hlni : (L.length : Int) ≤ 601 := by omega
  clear hgc hgb h0 hl he hok j1 j2 j3 k0 hL hkk hw hln1
  go_enter Tryz.func7, Tryz.ntmps7
  go_wp2_with fail
  refine K.out.mono ?_
  rintro e w1 ⟨v, rfl, ho, hb⟩
  obtain ⟨A, c, rfl, htr⟩ := tr_of ho HLN.out.1
  obtain ⟨-, -, tb, tq, rfl, -, htb, hrow⟩ := htr
  have HC := Lib.hid (show ∀ W, Below w1.heap.size w1 W → ∀ (k : Nat) (hk : k < L.length), W.cell? ⟨tb, tq + k * 3, none⟩ = some (.int .i64 L[k].kind) ∧ W.cell? ⟨tb, tq + k * 3 + 1, none⟩ = some (.string (bs L[k].text)) ∧ W.cell? ⟨tb, tq + k * 3 + 2, none⟩ = some (.int .i64 L[k].off) from fun W hW k hk => by
    have hr := rangeAt_keep (hrow k _ (List.getElem?_eq_getElem hk)) (hW.block tb htb)
    exact ⟨hr 0 _ rfl, hr 1 _ rfl, hr 2 _ rfl⟩)
  obtain h0 := B.out
  clear B
  have B := Lib.hid (h0.trans (hb.mono h0.size))
  clear h0
  clear hb ho htb hrow K
  go_wp2
  go_loopw [8, 43] (fun tv i wr => ∃ k : Nat, k ≤ L.length ∧ i = .int .i64 k ∧ tv = .string (bs (Lx.catP L (gapF gs) k)) ∧ Hid (Below w.heap.size w wr) ∧ Hid (Below w1.heap.size w1 wr)) (fun _ i _ => L.length - (intOf i).toNat)
  case atStart => exact ⟨0, by omega, rfl, rfl, B, Lib.hid (Below.refl _ _)⟩
  case round =>
    clear B
    obtain ⟨k, hk, rfl, rfl, HBl, HS⟩ := hrel
    by_cases hlt : k < L.length
    · have hki : (k : Int) < (L.length : Int) := by omega
      have HK := Lib.hid hlt
      obtain ⟨c0, c1, c2⟩ := HC.out wr HS.out k hlt
      have htx := HTL.out L[k] (List.getElem_mem hlt)
      have HNX := Lib.hid (show Lx.catP L (gapF gs) (k + 1) = Lx.catP L (gapF gs) k ++ (L[k].text ++ Lx.gapP (gapF gs k)) by rw [Lx.catP, List.getD_eq_getElem?_getD, List.getElem?_eq_getElem hlt]; rfl)
      have hcl2 := HCB.out k hk
      generalize Lx.catP L (gapF gs) k = C at *
      generalize hT : L[k] = t at *
      obtain ⟨tk, tx, tof⟩ := t
      clear hT
      dsimp only at c0 c1 c2 htx HNX
      have hrl : k % gs.length < gs.length := Nat.mod_lt _ HG0.out
      have hrm : ((k : Int)).tmod (gs.length : Int) = ((k % gs.length : Nat) : Int) := by rw [Int.tmod_eq_emod_of_nonneg (by omega)]; omega
      have hgb2 := hgv _ (List.getElem_mem hrl)
      have hbx : HB 63 (wr.alloc (.cells #[.int .i64 tk, .string (bs tx), .int .i64 tof] 63)) wr.heap.size #[.int .i64 tk, .string (bs tx), .int .i64 tof] := heap_alloc_new _ _
      have HBa := Lib.hid (HBl.out.alloc HBl.out.size (.cells #[.int .i64 tk, .string (bs tx), .int .i64 tof] 63))
      have HSa := Lib.hid (HS.out.alloc HS.out.size (.cells #[.int .i64 tk, .string (bs tx), .int .i64 tof] 63))
      have hgq : gapF gs k = (gs[k % gs.length] % 4).toNat := by unfold gapF; rw [List.getD_eq_getElem?_getD, List.getElem?_eq_getElem hrl]; rfl
      rw [hgq] at HNX
      have HGCr := Lib.hid fun W (hW : Below w.heap.size w W) => HGC.out W hW (k % gs.length) hrl
      clear hgq
      generalize gs[k % gs.length] = b at *
      generalize k % gs.length = r at *
      have hri : (r : Int) < (gs.length : Int) := by omega
      have hq : (b % 4).toNat = 0 ∨ (b % 4).toNat = 1 ∨ (b % 4).toNat = 2 ∨ (b % 4).toNat = 3 := by omega
      have hqm : b.tmod 4 = ((b % 4).toNat : Int) := by rw [Int.tmod_eq_emod_of_nonneg hgb2.1]; omega
      generalize (b % 4).toNat = q at *
      have hsC : ((bs C).size : Int) ≤ 5000 := by rw [bs_size]; omega
      have hsx : ((bs tx).size : Int) ≤ 65536 := by rw [bs_size]; omega
      have e0 := HB.cell hbx 0
      have e1 : (wr.alloc (.cells #[.int .i64 tk, .string (bs tx), .int .i64 tof] 63)).cell? ⟨wr.heap.size, 1, none⟩ = some (.string (bs tx)) := HB.cell hbx 1
      have HQZ := Lib.hid (show wr.heap.size < (wr.alloc (.cells #[.int .i64 tk, .string (bs tx), .int .i64 tof] 63)).heap.size from by simp)
      clear hbx HBl HS hk hlt hgb2 hrl htx hcl2 e0
      rcases hq with rfl | rfl | rfl | rfl
      · have HNX2 := Lib.hid (show Lx.catP L (gapF gs) (k + 1) = C ++ (tx ++ [32]) from HNX.out)
        clear HNX
        have hz : ((⟨#[32]⟩ : ByteArray).size : Int) = 1 := rfl
        have hc1 : bs tx ++ (⟨#[32]⟩ : ByteArray) = bs (tx ++ [32]) := bs_join tx [32]
        have hc2 : bs C ++ bs (tx ++ [32]) = bs (C ++ (tx ++ [32])) := bs_join C _
        have hz2 : ((bs (tx ++ [32])).size : Int) ≤ 70007 := by rw [bs_size] at *; rw [List.length_append]; simp; omega
        go_wp2_with fail
        generalize hW1 : wr.alloc (.cells #[.int .i64 tk, .string (bs tx), .int .i64 tof] 63) = W1 at *
        generalize wr.heap.size = p at *
        have g0 := HGCr.out W1 HBa.out
        have hgn0 : ¬ gs = [] := by intro e; have := HG0.out; rw [e] at this; exact absurd this (by decide)
        have HZ := Lib.hid ((Below.refl W1.heap.size W1).alloc (Nat.le_refl _) (.cells #[.string { data := #[32] }, .string { data := #[10] }, .string { data := #[32, 35, 32, 41, 32, 59, 10] }, .string { data := #[9] }] 9))
        have g1 : (W1.alloc (.cells #[.string { data := #[32] }, .string { data := #[10] }, .string { data := #[32, 35, 32, 41, 32, 59, 10] }, .string { data := #[9] }] 9)).cell? ⟨gb, go + r, none⟩ = some (.int .u8 b) := HGCr.out _ (HBa.out.trans (HZ.out.mono HBa.out.size))
        have e1' : (W1.alloc (.cells #[.string { data := #[32] }, .string { data := #[10] }, .string { data := #[32, 35, 32, 41, 32, 59, 10] }, .string { data := #[9] }] 9)).cell? ⟨p, 1, none⟩ = some (.string (bs tx)) := (HZ.out.cell (p := ⟨p, 1, none⟩) HQZ.out).trans e1
        go_region
        go_wp2
        go_roundw
        case rel => exact ⟨k + 1, HK.out, by go_num, by rw [HNX2.out], Lib.hid ((HBa.out.trans (HZ.out.mono HBa.out.size)).drew), Lib.hid ((HSa.out.trans (HZ.out.mono HSa.out.size)).drew)⟩
        case measure => exact meas_up _ _ HK.out
      · have HNX2 := Lib.hid (show Lx.catP L (gapF gs) (k + 1) = C ++ (tx ++ [10]) from HNX.out)
        clear HNX
        have hz : ((⟨#[10]⟩ : ByteArray).size : Int) = 1 := rfl
        have hc1 : bs tx ++ (⟨#[10]⟩ : ByteArray) = bs (tx ++ [10]) := bs_join tx [10]
        have hc2 : bs C ++ bs (tx ++ [10]) = bs (C ++ (tx ++ [10])) := bs_join C _
        have hz2 : ((bs (tx ++ [10])).size : Int) ≤ 70007 := by rw [bs_size] at *; rw [List.length_append]; simp; omega
        go_wp2_with fail
        generalize hW1 : wr.alloc (.cells #[.int .i64 tk, .string (bs tx), .int .i64 tof] 63) = W1 at *
        generalize wr.heap.size = p at *
        have g0 := HGCr.out W1 HBa.out
        have hgn0 : ¬ gs = [] := by intro e; have := HG0.out; rw [e] at this; exact absurd this (by decide)
        have HZ := Lib.hid ((Below.refl W1.heap.size W1).alloc (Nat.le_refl _) (.cells #[.string { data := #[32] }, .string { data := #[10] }, .string { data := #[32, 35, 32, 41, 32, 59, 10] }, .string { data := #[9] }] 9))
        have g1 : (W1.alloc (.cells #[.string { data := #[32] }, .string { data := #[10] }, .string { data := #[32, 35, 32, 41, 32, 59, 10] }, .string { data := #[9] }] 9)).cell? ⟨gb, go + r, none⟩ = some (.int .u8 b) := HGCr.out _ (HBa.out.trans (HZ.out.mono HBa.out.size))
        have e1' : (W1.alloc (.cells #[.string { data := #[32] }, .string { data := #[10] }, .string { data := #[32, 35, 32, 41, 32, 59, 10] }, .string { data := #[9] }] 9)).cell? ⟨p, 1, none⟩ = some (.string (bs tx)) := (HZ.out.cell (p := ⟨p, 1, none⟩) HQZ.out).trans e1
        go_region
        go_wp2
        go_roundw
        case rel => exact ⟨k + 1, HK.out, by go_num, by rw [HNX2.out], Lib.hid ((HBa.out.trans (HZ.out.mono HBa.out.size)).drew), Lib.hid ((HSa.out.trans (HZ.out.mono HSa.out.size)).drew)⟩
        case measure => exact meas_up _ _ HK.out
      · have HNX2 := Lib.hid (show Lx.catP L (gapF gs) (k + 1) = C ++ (tx ++ [32, 35, 32, 41, 32, 59, 10]) from HNX.out)
        clear HNX
        have hz : ((⟨#[32, 35, 32, 41, 32, 59, 10]⟩ : ByteArray).size : Int) = 7 := rfl
        have hc1 : bs tx ++ (⟨#[32, 35, 32, 41, 32, 59, 10]⟩ : ByteArray) = bs (tx ++ [32, 35, 32, 41, 32, 59, 10]) := bs_join tx [32, 35, 32, 41, 32, 59, 10]
        have hc2 : bs C ++ bs (tx ++ [32, 35, 32, 41, 32, 59, 10]) = bs (C ++ (tx ++ [32, 35, 32, 41, 32, 59, 10])) := bs_join C _
        have hz2 : ((bs (tx ++ [32, 35, 32, 41, 32, 59, 10])).size : Int) ≤ 70007 := by rw [bs_size] at *; rw [List.length_append]; simp; omega
        go_wp2_with fail
        generalize hW1 : wr.alloc (.cells #[.int .i64 tk, .string (bs tx), .int .i64 tof] 63) = W1 at *
        generalize wr.heap.size = p at *
        have g0 := HGCr.out W1 HBa.out
        have hgn0 : ¬ gs = [] := by intro e; have := HG0.out; rw [e] at this; exact absurd this (by decide)
        have HZ := Lib.hid ((Below.refl W1.heap.size W1).alloc (Nat.le_refl _) (.cells #[.string { data := #[32] }, .string { data := #[10] }, .string { data := #[32, 35, 32, 41, 32, 59, 10] }, .string { data := #[9] }] 9))
        have g1 : (W1.alloc (.cells #[.string { data := #[32] }, .string { data := #[10] }, .string { data := #[32, 35, 32, 41, 32, 59, 10] }, .string { data := #[9] }] 9)).cell? ⟨gb, go + r, none⟩ = some (.int .u8 b) := HGCr.out _ (HBa.out.trans (HZ.out.mono HBa.out.size))
        have e1' : (W1.alloc (.cells #[.string { data := #[32] }, .string { data := #[10] }, .string { data := #[32, 35, 32, 41, 32, 59, 10] }, .string { data := #[9] }] 9)).cell? ⟨p, 1, none⟩ = some (.string (bs tx)) := (HZ.out.cell (p := ⟨p, 1, none⟩) HQZ.out).trans e1
        go_region
        go_wp2
        go_roundw
        case rel => exact ⟨k + 1, HK.out, by go_num, by rw [HNX2.out], Lib.hid ((HBa.out.trans (HZ.out.mono HBa.out.size)).drew), Lib.hid ((HSa.out.trans (HZ.out.mono HSa.out.size)).drew)⟩
        case measure => exact meas_up _ _ HK.out
      · have HNX2 := Lib.hid (show Lx.catP L (gapF gs) (k + 1) = C ++ (tx ++ [9]) from HNX.out)
        clear HNX
        have hz : ((⟨#[9]⟩ : ByteArray).size : Int) = 1 := rfl
        have hc1 : bs tx ++ (⟨#[9]⟩ : ByteArray) = bs (tx ++ [9]) := bs_join tx [9]
        have hc2 : bs C ++ bs (tx ++ [9]) = bs (C ++ (tx ++ [9])) := bs_join C _
        have hz2 : ((bs (tx ++ [9])).size : Int) ≤ 70007 := by rw [bs_size] at *; rw [List.length_append]; simp; omega
        go_wp2_with fail
        generalize hW1 : wr.alloc (.cells #[.int .i64 tk, .string (bs tx), .int .i64 tof] 63) = W1 at *
        generalize wr.heap.size = p at *
        have g0 := HGCr.out W1 HBa.out
        have hgn0 : ¬ gs = [] := by intro e; have := HG0.out; rw [e] at this; exact absurd this (by decide)
        have HZ := Lib.hid ((Below.refl W1.heap.size W1).alloc (Nat.le_refl _) (.cells #[.string { data := #[32] }, .string { data := #[10] }, .string { data := #[32, 35, 32, 41, 32, 59, 10] }, .string { data := #[9] }] 9))
        have g1 : (W1.alloc (.cells #[.string { data := #[32] }, .string { data := #[10] }, .string { data := #[32, 35, 32, 41, 32, 59, 10] }, .string { data := #[9] }] 9)).cell? ⟨gb, go + r, none⟩ = some (.int .u8 b) := HGCr.out _ (HBa.out.trans (HZ.out.mono HBa.out.size))
        have e1' : (W1.alloc (.cells #[.string { data := #[32] }, .string { data := #[10] }, .string { data := #[32, 35, 32, 41, 32, 59, 10] }, .string { data := #[9] }] 9)).cell? ⟨p, 1, none⟩ = some (.string (bs tx)) := (HZ.out.cell (p := ⟨p, 1, none⟩) HQZ.out).trans e1
        go_region
        go_wp2
        go_roundw
        case rel => exact ⟨k + 1, HK.out, by go_num, by rw [HNX2.out], Lib.hid ((HBa.out.trans (HZ.out.mono HBa.out.size)).drew), Lib.hid ((HSa.out.trans (HZ.out.mono HSa.out.size)).drew)⟩
        case measure => exact meas_up _ _ HK.out
    · obtain rfl : k = L.length := by omega
      have hki : ¬ ((L.length : Int)) < (L.length : Int) := by omega
      have B := Lib.hid HBl.out
      clear HBl hk hlt HS HC HTL HCB HGC HG0
      generalize Lx.catP L (gapF gs) L.length = J at *
      have HLIM := Lib.hid (prP_lim s)
      have K1 := Lib.hid (parse_any s wr (HW.out.below B.out) (by have := HSL.out; omega))
      have K2 := Lib.hid (show ∀ W, Below w.heap.size w W → Calls Tryz.prog 14 #[.string (bs J)] W fun e w' => ∃ v, e = .returned (.tuple #[v, .int .i64 (prP J).2.1, .int .i64 (prP J).2.2]) ∧ PV w' (fun b => W.heap.size ≤ b) (prP J).1 v ∧ Below W.heap.size W w' from fun W hb => parse_any J W (HW.out.below hb) (by have := HJ1.out; omega))
      have K3 := Lib.hid (show ∀ W, Below w.heap.size w W → Calls Tryz.prog 10 #[.string (bs s)] W fun e w' => ∃ cs : List Value, e = .returned (.tuple #[.agg cs.toArray, .int .i64 (prE s).2.1, .int .i64 (prE s).2.2]) ∧ XV w' (fun b => W.heap.size ≤ b) (prE s).1 cs ∧ Below W.heap.size W w' from fun W hb => pexpr_any s W (HW.out.below hb) (by have := HSL.out; omega))
      have K4 := Lib.hid (show ∀ W, Below w.heap.size w W → Calls Tryz.prog 10 #[.string (bs ([40, 40] ++ s ++ [10, 41, 41]))] W fun e w' => ∃ cs : List Value, e = .returned (.tuple #[.agg cs.toArray, .int .i64 (prE ([40, 40] ++ s ++ [10, 41, 41])).2.1, .int .i64 (prE ([40, 40] ++ s ++ [10, 41, 41])).2.2]) ∧ XV w' (fun b => W.heap.size ≤ b) (prE ([40, 40] ++ s ++ [10, 41, 41])).1 cs ∧ Below W.heap.size W w' from fun W hb => pexpr_any _ W (HW.out.below hb) (by simp only [List.length_append, List.length_cons, List.length_nil]; have := HSL.out; omega))
      have HXS := Lib.hid (prE_size s)
      clear HZS
      generalize prP s = T1 at *
      generalize prP J = T2 at *
      generalize prE ([40, 40] ++ s ++ [10, 41, 41]) = T4 at *
      generalize prE s = T3 at *
      obtain ⟨p1, a1, r1⟩ := T1
      obtain ⟨p2, a2, r2⟩ := T2
      obtain ⟨x3, z3, r3⟩ := T3
      obtain ⟨x4, z4, r4⟩ := T4
      obtain ⟨m1, m2⟩ := HSM.out
      dsimp only at *
      subst m1 m2
      clear HSM
      have FIT := Lib.hid (Lim.fit HLIM.out (by have := HSL.out; omega))
      have AFIT := Lib.hid (alone_fit (e := x3) (by have := HXS.out; have := HSL.out; omega))
      have hss : s.length ≤ 600 := HSL.out
      clear HLIM HXS HJ1 HLN
      go_wp2_with fail
      refine K1.out.mono ?_
      rintro e w1 ⟨v1, rfl, hv, hb⟩
      obtain h0 := B.out
      clear B
      have B := Lib.hid (h0.trans (hb.mono h0.size))
      clear h0
      clear hb K1
      obtain ⟨D1, nd1, cd1, O1, no1, co1, rfl, -, -⟩ := id hv
      obtain ⟨w1b, hwb⟩ : ∃ W, W = w1.alloc (.cells #[.slice D1 nd1 cd1, .slice O1 no1 co1] 36) := ⟨_, rfl⟩
      have hb : Below w1.heap.size w1 w1b := by rw [hwb]; exact (Below.refl _ _).alloc (Nat.le_refl _) _
      have P1 := Lib.hid (show HB 36 w1b w1.heap.size #[.slice D1 nd1 cd1, .slice O1 no1 co1] from by rw [hwb]; exact heap_alloc_new w1 _)
      have V1 := Lib.hid (hv.below hb)
      obtain h0 := B.out
      clear B
      have B := Lib.hid (h0.trans (hb.mono h0.size))
      clear h0
      clear hb hv
      go_upto_region 13 with fail
      rw [← hwb]
      clear hwb
      generalize w1.heap.size = pb1 at *
      have K2b := Lib.hid (K2.out w1b B.out)
      clear K2
      go_wp2_with fail
      refine K2b.out.mono ?_
      rintro e w2 ⟨v2, rfl, hv, hb⟩
      obtain h0 := P1.out
      clear P1
      have P1 := Lib.hid (h0.below hb)
      clear h0
      obtain h0 := V1.out
      clear V1
      have V1 := Lib.hid (h0.below hb)
      clear h0
      obtain h0 := B.out
      clear B
      have B := Lib.hid (h0.trans (hb.mono h0.size))
      clear h0
      clear hb K2b
      obtain ⟨D2, nd2, cd2, O2, no2, co2, rfl, -, -⟩ := id hv
      obtain ⟨w2b, hwb⟩ : ∃ W, W = w2.alloc (.cells #[.slice D2 nd2 cd2, .slice O2 no2 co2] 36) := ⟨_, rfl⟩
      have hb : Below w2.heap.size w2 w2b := by rw [hwb]; exact (Below.refl _ _).alloc (Nat.le_refl _) _
      have P2 := Lib.hid (show HB 36 w2b w2.heap.size #[.slice D2 nd2 cd2, .slice O2 no2 co2] from by rw [hwb]; exact heap_alloc_new w2 _)
      have V2 := Lib.hid (hv.below hb)
      obtain h0 := P1.out
      clear P1
      have P1 := Lib.hid (h0.below hb)
      clear h0
      obtain h0 := V1.out
      clear V1
      have V1 := Lib.hid (h0.below hb)
      clear h0
      obtain h0 := B.out
      clear B
      have B := Lib.hid (h0.trans (hb.mono h0.size))
      clear h0
      clear hb hv
      go_upto_region 14 with fail
      rw [← hwb]
      clear hwb
      generalize w2.heap.size = pb2 at *
      have K3b := Lib.hid (K3.out w2b B.out)
      clear K3
      go_wp2_with fail
      refine K3b.out.mono ?_
      rintro e w3 ⟨cs3, rfl, hv, hb⟩
      obtain h0 := P1.out
      clear P1
      have P1 := Lib.hid (h0.below hb)
      clear h0
      obtain h0 := V1.out
      clear V1
      have V1 := Lib.hid (h0.below hb)
      clear h0
      obtain h0 := P2.out
      clear P2
      have P2 := Lib.hid (h0.below hb)
      clear h0
      obtain h0 := V2.out
      clear V2
      have V2 := Lib.hid (h0.below hb)
      clear h0
      obtain h0 := B.out
      clear B
      have B := Lib.hid (h0.trans (hb.mono h0.size))
      clear h0
      clear hb K3b
      obtain ⟨x3, hx3⟩ : ∃ z, z = x3 := ⟨_, rfl⟩
      rw [← hx3] at hv
      have HX3 := Lib.hid hx3
      clear hx3
      obtain ⟨k3, n3, s3, m3, a3, o3⟩ := x3
      obtain ⟨A3, na3, ca3, O3, no3, co3, rfl, -, -⟩ := hv.open_
      rw [show (exC k3 n3 s3 m3 A3 na3 ca3 O3 no3 co3).toArray = #[.int .i64 k3, .int .i64 n3, .string (bs s3), .string (bs m3), .slice A3 na3 ca3, .slice O3 no3 co3] from rfl]
      obtain ⟨w3b, hwb⟩ : ∃ W, W = w3.alloc (.cells #[.int .i64 k3, .int .i64 n3, .string (bs s3), .string (bs m3), .slice A3 na3 ca3, .slice O3 no3 co3] 27) := ⟨_, rfl⟩
      have hb : Below w3.heap.size w3 w3b := by rw [hwb]; exact (Below.refl _ _).alloc (Nat.le_refl _) _
      have P3 := Lib.hid (show XB w3b w3.heap.size #[.int .i64 k3, .int .i64 n3, .string (bs s3), .string (bs m3), .slice A3 na3 ca3, .slice O3 no3 co3] from by rw [hwb]; exact heap_alloc_new w3 _)
      have V3 := Lib.hid (hv.below hb)
      rw [HX3.out] at V3
      obtain h0 := P1.out
      clear P1
      have P1 := Lib.hid (h0.below hb)
      clear h0
      obtain h0 := V1.out
      clear V1
      have V1 := Lib.hid (h0.below hb)
      clear h0
      obtain h0 := P2.out
      clear P2
      have P2 := Lib.hid (h0.below hb)
      clear h0
      obtain h0 := V2.out
      clear V2
      have V2 := Lib.hid (h0.below hb)
      clear h0
      obtain h0 := B.out
      clear B
      have B := Lib.hid (h0.trans (hb.mono h0.size))
      clear h0
      clear hb hv
      go_upto_region 15 with fail
      rw [← hwb]
      clear hwb
      generalize w3.heap.size = pb3 at *
      obtain ⟨c1, hc1⟩ : ∃ c, c = ([40, 40] : Str) ++ s := ⟨_, rfl⟩
      have lc1 : c1.length = 2 + s.length := by rw [hc1]; exact List.length_append
      have jc1 : ∀ w, (Op.stringOp .add (⟨#[40, 40]⟩ : ByteArray) (bs s)).run Tryz.prog w = .ok (.string (bs c1)) w := fun w => by rw [hc1]; exact add_big ([40, 40] : Str) s (by first | omega | (simp; omega)) w
      obtain ⟨c2, hc2⟩ : ∃ c, c = c1 ++ ([10, 41, 41] : Str) := ⟨_, rfl⟩
      have lc2 : c2.length = c1.length + 3 := by rw [hc2]; exact List.length_append
      have jc2 : ∀ w, (Op.stringOp .add (bs c1) (⟨#[10, 41, 41]⟩ : ByteArray)).run Tryz.prog w = .ok (.string (bs c2)) w := fun w => by rw [hc2]; exact add_big c1 ([10, 41, 41] : Str) (by first | omega | (simp; omega)) w
      have hcc : c2 = [40, 40] ++ s ++ [10, 41, 41] := by rw [hc2, hc1]
      rw [hcc] at jc2
      clear hc1 hc2 hcc
      have K4b := Lib.hid (K4.out w3b B.out)
      clear K4
      go_wp2_with fail
      refine K4b.out.mono ?_
      rintro e w4 ⟨cs4, rfl, hv, hb⟩
      obtain h0 := P1.out
      clear P1
      have P1 := Lib.hid (h0.below hb)
      clear h0
      obtain h0 := V1.out
      clear V1
      have V1 := Lib.hid (h0.below hb)
      clear h0
      obtain h0 := P2.out
      clear P2
      have P2 := Lib.hid (h0.below hb)
      clear h0
      obtain h0 := V2.out
      clear V2
      have V2 := Lib.hid (h0.below hb)
      clear h0
      obtain h0 := P3.out
      clear P3
      have P3 := Lib.hid (h0.below hb)
      clear h0
      obtain h0 := V3.out
      clear V3
      have V3 := Lib.hid (h0.below hb)
      clear h0
      obtain h0 := B.out
      clear B
      have B := Lib.hid (h0.trans (hb.mono h0.size))
      clear h0
      clear hb K4b
      obtain ⟨x4, hx4⟩ : ∃ z, z = x4 := ⟨_, rfl⟩
      rw [← hx4] at hv
      have HX4 := Lib.hid hx4
      clear hx4
      obtain ⟨k4, n4, s4, m4, a4, o4⟩ := x4
      obtain ⟨A4, na4, ca4, O4, no4, co4, rfl, -, -⟩ := hv.open_
      rw [show (exC k4 n4 s4 m4 A4 na4 ca4 O4 no4 co4).toArray = #[.int .i64 k4, .int .i64 n4, .string (bs s4), .string (bs m4), .slice A4 na4 ca4, .slice O4 no4 co4] from rfl]
      obtain ⟨w4b, hwb⟩ : ∃ W, W = w4.alloc (.cells #[.int .i64 k4, .int .i64 n4, .string (bs s4), .string (bs m4), .slice A4 na4 ca4, .slice O4 no4 co4] 27) := ⟨_, rfl⟩
      have hb : Below w4.heap.size w4 w4b := by rw [hwb]; exact (Below.refl _ _).alloc (Nat.le_refl _) _
      have P4 := Lib.hid (show XB w4b w4.heap.size #[.int .i64 k4, .int .i64 n4, .string (bs s4), .string (bs m4), .slice A4 na4 ca4, .slice O4 no4 co4] from by rw [hwb]; exact heap_alloc_new w4 _)
      have V4 := Lib.hid (hv.below hb)
      rw [HX4.out] at V4
      obtain h0 := P1.out
      clear P1
      have P1 := Lib.hid (h0.below hb)
      clear h0
      obtain h0 := V1.out
      clear V1
      have V1 := Lib.hid (h0.below hb)
      clear h0
      obtain h0 := P2.out
      clear P2
      have P2 := Lib.hid (h0.below hb)
      clear h0
      obtain h0 := V2.out
      clear V2
      have V2 := Lib.hid (h0.below hb)
      clear h0
      obtain h0 := P3.out
      clear P3
      have P3 := Lib.hid (h0.below hb)
      clear h0
      obtain h0 := V3.out
      clear V3
      have V3 := Lib.hid (h0.below hb)
      clear h0
      obtain h0 := B.out
      clear B
      have B := Lib.hid (h0.trans (hb.mono h0.size))
      clear h0
      clear hb hv
      go_upto_region 16 with fail
      rw [← hwb]
      clear hwb
      generalize w4.heap.size = pb4 at *
      clear jc1 lc1 jc2 lc2
      by_cases h3 : r3 = 0
      · obtain ⟨rfl, rfl, rfl⟩ : x4 = x3 ∧ z4 = z3 ∧ r4 = r3 := by
          have := HPAR.out h3
          injection this with e1 e2
          injection e2 with e2 e3
          exact ⟨e1, e2, e3⟩
        subst h3
        clear HPAR
        refine wp_region_held_drew (S := fun W => Below w4b.heap.size w4b W) (by kernel_rfl) (Below.refl _ _).drew (fun hHeld => ?_)
        have BS := Lib.hid B.out
        have SW := Lib.hid hHeld
        clear hHeld
        generalize w4b.drew = wq at *
        refine wpAnyH_ready (rs := [0]) (by kernel_rfl) (by simp) ?_
        refine AllReadyH.cons (o := ⟨some 91, _, _, _, _, _⟩) rfl (fun K hK => ?_) AllReadyH.nil
        go_simp
        refine (awake_any _ (HW.out.below (BS.out.trans (SW.out.mono BS.out.size)))).mono ?_
        rintro e wk ⟨rfl, hb⟩
        obtain h0 := SW.out
        clear SW
        have SW := Lib.hid (h0.trans (hb.mono h0.size))
        clear h0 hb
        refine hK.out _ _ SW.out (fun hHeld => ?_)
        clear hK hHeld
        try simp only [Act.put, List.setIfInBounds_toArray, List.set_cons_zero, List.set_cons_succ]
        refine wpAnyH_take (i := 1) (oi := ⟨some 92, _, _, _, _, _⟩) (v := .bool true) rfl (by kernel_rfl) (by kernel_rfl) (by kernel_rfl) (fun _ _ _ h => h) (Or.inl ⟨by rfl, ?_⟩) SW.out ?_
        · intro W' hW
          go_simp
        try simp only [Act.put, List.setIfInBounds_toArray, List.set_cons_zero, List.set_cons_succ]
        refine wpAnyH_take (i := 2) (oi := ⟨some 93, _, _, _, _, _⟩) (v := .int .i64 r1) rfl (by kernel_rfl) (by kernel_rfl) (by kernel_rfl) (fun _ _ _ h => h) (Or.inl ⟨by rfl, ?_⟩) SW.out ?_
        · intro W' hW
          go_simp
        try simp only [Act.put, List.setIfInBounds_toArray, List.set_cons_zero, List.set_cons_succ]
        refine wpAnyH_take (i := 3) (oi := ⟨some 94, _, _, _, _, _⟩) (v := .int .i64 r1) rfl (by kernel_rfl) (by kernel_rfl) (by kernel_rfl) (fun _ _ _ h => h) (Or.inl ⟨by rfl, ?_⟩) SW.out ?_
        · intro W' hW
          go_simp
        try simp only [Act.put, List.setIfInBounds_toArray, List.set_cons_zero, List.set_cons_succ]
        refine wpAnyH_take (i := 4) (oi := ⟨some 95, _, _, _, _, _⟩) (v := .bool true) rfl (by kernel_rfl) (by kernel_rfl) (by kernel_rfl) (fun _ _ _ h => h) (Or.inl ⟨by rfl, ?_⟩) SW.out ?_
        · intro W' hW
          go_simp
        try simp only [Act.put, List.setIfInBounds_toArray, List.set_cons_zero, List.set_cons_succ]
        refine wpAnyH_take (i := 5) (oi := ⟨some 96, _, _, _, _, _⟩) (v := .bool true) rfl (by kernel_rfl) (by kernel_rfl) (by kernel_rfl) (fun _ _ _ h => h) (Or.inl ⟨by rfl, ?_⟩) SW.out ?_
        · intro W' hW
          go_simp
        try simp only [Act.put, List.setIfInBounds_toArray, List.set_cons_zero, List.set_cons_succ]
        refine wpAnyH_take (i := 6) (oi := ⟨some 97, _, _, _, _, _⟩) (v := .bool true) rfl (by kernel_rfl) (by kernel_rfl) (by kernel_rfl) (fun _ _ _ h => h) (Or.inl ⟨by rfl, ?_⟩) SW.out ?_
        · intro W' hW
          go_simp
        try simp only [Act.put, List.setIfInBounds_toArray, List.set_cons_zero, List.set_cons_succ]
        refine wpAnyH_take (i := 7) (oi := ⟨some 98, _, _, _, _, _⟩) (v := .agg #[.slice D1 nd1 cd1, .slice O1 no1 co1]) rfl (by kernel_rfl) (by kernel_rfl) (by kernel_rfl) (fun _ _ _ h => h) (Or.inl ⟨by rfl, ?_⟩) SW.out ?_
        · intro W' hW
          have c0 := HB.cell (P1.out.below hW) 0
          have c1 := HB.cell (P1.out.below hW) 1
          go_simp
        try simp only [Act.put, List.setIfInBounds_toArray, List.set_cons_zero, List.set_cons_succ]
        refine wpAnyH_take (i := 8) (oi := ⟨some 99, _, _, _, _, _⟩) (v := .agg #[.slice D2 nd2 cd2, .slice O2 no2 co2]) rfl (by kernel_rfl) (by kernel_rfl) (by kernel_rfl) (fun _ _ _ h => h) (Or.inl ⟨by rfl, ?_⟩) SW.out ?_
        · intro W' hW
          have c0 := HB.cell (P2.out.below hW) 0
          have c1 := HB.cell (P2.out.below hW) 1
          go_simp
        try simp only [Act.put, List.setIfInBounds_toArray, List.set_cons_zero, List.set_cons_succ]
        refine wpAnyH_ready (rs := [9]) (by kernel_rfl) (by simp) ?_
        refine AllReadyH.cons (o := ⟨some 100, _, _, _, _, _⟩) rfl (fun K hK => ?_) AllReadyH.nil
        have KS := same_any p1 p1 FIT.out _ _ _ _ _ (V1.out.below SW.out) (V2.out.below SW.out)
        rw [eqC_pos rfl] at KS
        go_simp
        refine (KS).mono ?_
        rintro e wl ⟨rfl, hb⟩
        obtain h0 := SW.out
        clear SW
        have SW := Lib.hid (h0.trans (hb.mono h0.size))
        clear h0 hb
        refine hK.out _ _ SW.out (fun hHeld => ?_)
        clear hK hHeld
        try simp only [Act.put, List.setIfInBounds_toArray, List.set_cons_zero, List.set_cons_succ]
        clear KS
        refine wpAnyH_take (i := 10) (oi := ⟨some 101, _, _, _, _, _⟩) (v := .bool true) rfl (by kernel_rfl) (by kernel_rfl) (by kernel_rfl) (fun _ _ _ h => h) (Or.inl ⟨by rfl, ?_⟩) SW.out ?_
        · intro W' hW
          go_simp
        try simp only [Act.put, List.setIfInBounds_toArray, List.set_cons_zero, List.set_cons_succ]
        refine wpAnyH_take (i := 11) (oi := ⟨some 102, _, _, _, _, _⟩) (v := .bool true) rfl (by kernel_rfl) (by kernel_rfl) (by kernel_rfl) (fun _ _ _ h => h) (Or.inl ⟨by rfl, ?_⟩) SW.out ?_
        · intro W' hW
          go_simp
        try simp only [Act.put, List.setIfInBounds_toArray, List.set_cons_zero, List.set_cons_succ]
        refine wpAnyH_take (i := 12) (oi := ⟨some 103, _, _, _, _, _⟩) (v := .int .i64 0) rfl (by kernel_rfl) (by kernel_rfl) (by kernel_rfl) (fun _ _ _ h => h) (Or.inl ⟨by rfl, ?_⟩) SW.out ?_
        · intro W' hW
          go_simp
        try simp only [Act.put, List.setIfInBounds_toArray, List.set_cons_zero, List.set_cons_succ]
        refine wpAnyH_take (i := 13) (oi := ⟨some 104, _, _, _, _, _⟩) (v := .bool false) rfl (by kernel_rfl) (by kernel_rfl) (by kernel_rfl) (fun _ _ _ h => h) (Or.inl ⟨by rfl, ?_⟩) SW.out ?_
        · intro W' hW
          go_simp
        try simp only [Act.put, List.setIfInBounds_toArray, List.set_cons_zero, List.set_cons_succ]
        refine wpAnyH_take (i := 14) (oi := ⟨some 105, _, _, _, _, _⟩) (v := .bool false) rfl (by kernel_rfl) (by kernel_rfl) (by kernel_rfl) (fun _ _ _ h => h) (Or.inl ⟨by rfl, ?_⟩) SW.out ?_
        · intro W' hW
          go_simp
        try simp only [Act.put, List.setIfInBounds_toArray, List.set_cons_zero, List.set_cons_succ]
        refine wpAnyH_take (i := 15) (oi := ⟨some 106, _, _, _, _, _⟩) (v := .int .i64 0) rfl (by kernel_rfl) (by kernel_rfl) (by kernel_rfl) (fun _ _ _ h => h) (Or.inl ⟨by rfl, ?_⟩) SW.out ?_
        · intro W' hW
          go_simp
        try simp only [Act.put, List.setIfInBounds_toArray, List.set_cons_zero, List.set_cons_succ]
        refine wpAnyH_take (i := 16) (oi := ⟨some 107, _, _, _, _, _⟩) (v := .bool true) rfl (by kernel_rfl) (by kernel_rfl) (by kernel_rfl) (fun _ _ _ h => h) (Or.inl ⟨by rfl, ?_⟩) SW.out ?_
        · intro W' hW
          go_simp
        try simp only [Act.put, List.setIfInBounds_toArray, List.set_cons_zero, List.set_cons_succ]
        refine wpAnyH_take (i := 17) (oi := ⟨some 108, _, _, _, _, _⟩) (v := .bool true) rfl (by kernel_rfl) (by kernel_rfl) (by kernel_rfl) (fun _ _ _ h => h) (Or.inl ⟨by rfl, ?_⟩) SW.out ?_
        · intro W' hW
          go_simp
        try simp only [Act.put, List.setIfInBounds_toArray, List.set_cons_zero, List.set_cons_succ]
        refine wpAnyH_take (i := 18) (oi := ⟨some 109, _, _, _, _, _⟩) (v := .agg #[.int .i64 k3, .int .i64 n3, .string (bs s3), .string (bs m3), .slice A3 na3 ca3, .slice O3 no3 co3]) rfl (by kernel_rfl) (by kernel_rfl) (by kernel_rfl) (fun _ _ _ h => h) (Or.inl ⟨by rfl, ?_⟩) SW.out ?_
        · intro W' hW
          have c0 : W'.cell? ⟨pb3, 0, none⟩ = _ := cell_of_row _ _ _ _ _ _ (XB.below P3.out hW)
          have c1 : W'.cell? ⟨pb3, 1, none⟩ = _ := cell_of_row _ _ _ _ _ _ (XB.below P3.out hW)
          have c2 : W'.cell? ⟨pb3, 2, none⟩ = _ := cell_of_row _ _ _ _ _ _ (XB.below P3.out hW)
          have c3 : W'.cell? ⟨pb3, 3, none⟩ = _ := cell_of_row _ _ _ _ _ _ (XB.below P3.out hW)
          have c4 : W'.cell? ⟨pb3, 4, none⟩ = _ := cell_of_row _ _ _ _ _ _ (XB.below P3.out hW)
          have c5 : W'.cell? ⟨pb3, 5, none⟩ = _ := cell_of_row _ _ _ _ _ _ (XB.below P3.out hW)
          go_simp
        try simp only [Act.put, List.setIfInBounds_toArray, List.set_cons_zero, List.set_cons_succ]
        refine wpAnyH_take (i := 20) (oi := ⟨some 111, _, _, _, _, _⟩) (v := .agg #[.int .i64 k4, .int .i64 n4, .string (bs s4), .string (bs m4), .slice A4 na4 ca4, .slice O4 no4 co4]) rfl (by kernel_rfl) (by kernel_rfl) (by kernel_rfl) (fun _ _ _ h => h) (Or.inl ⟨by rfl, ?_⟩) SW.out ?_
        · intro W' hW
          have c0 : W'.cell? ⟨pb4, 0, none⟩ = _ := cell_of_row _ _ _ _ _ _ (XB.below P4.out hW)
          have c1 : W'.cell? ⟨pb4, 1, none⟩ = _ := cell_of_row _ _ _ _ _ _ (XB.below P4.out hW)
          have c2 : W'.cell? ⟨pb4, 2, none⟩ = _ := cell_of_row _ _ _ _ _ _ (XB.below P4.out hW)
          have c3 : W'.cell? ⟨pb4, 3, none⟩ = _ := cell_of_row _ _ _ _ _ _ (XB.below P4.out hW)
          have c4 : W'.cell? ⟨pb4, 4, none⟩ = _ := cell_of_row _ _ _ _ _ _ (XB.below P4.out hW)
          have c5 : W'.cell? ⟨pb4, 5, none⟩ = _ := cell_of_row _ _ _ _ _ _ (XB.below P4.out hW)
          go_simp
        try simp only [Act.put, List.setIfInBounds_toArray, List.set_cons_zero, List.set_cons_succ]
        refine wpAnyH_ready (rs := [19]) (by kernel_rfl) (by simp) ?_
        refine AllReadyH.cons (o := ⟨some 110, _, _, _, _, _⟩) rfl (fun K hK => ?_) AllReadyH.nil
        go_simp
        refine (alone_any x4 (exC k3 n3 s3 m3 A3 na3 ca3 O3 no3 co3) _ _ (V3.out.below SW.out)).mono ?_
        rintro e wm ⟨v5, rfl, hp, hb⟩
        have HP5 := Lib.hid hp
        clear hp
        obtain h0 := SW.out
        clear SW
        have SW := Lib.hid (h0.trans (hb.mono h0.size))
        clear h0 hb
        refine hK.out _ _ SW.out (fun hHeld => ?_)
        clear hK hHeld
        try simp only [Act.put, List.setIfInBounds_toArray, List.set_cons_zero, List.set_cons_succ]
        refine wpAnyH_ready (rs := [21]) (by kernel_rfl) (by simp) ?_
        refine AllReadyH.cons (o := ⟨some 112, _, _, _, _, _⟩) rfl (fun K hK => ?_) AllReadyH.nil
        go_simp
        refine (alone_any x4 (exC k4 n4 s4 m4 A4 na4 ca4 O4 no4 co4) _ _ (V4.out.below SW.out)).mono ?_
        rintro e wn ⟨v6, rfl, hp, hb⟩
        have HP6 := Lib.hid hp
        have HP5n := Lib.hid (HP5.out.below hb)
        clear hp HP5
        obtain h0 := SW.out
        clear SW
        have SW := Lib.hid (h0.trans (hb.mono h0.size))
        clear h0 hb
        refine hK.out _ _ SW.out (fun hHeld => ?_)
        clear hK hHeld
        try simp only [Act.put, List.setIfInBounds_toArray, List.set_cons_zero, List.set_cons_succ]
        refine wpAnyH_ready (rs := [22]) (by kernel_rfl) (by simp) ?_
        refine AllReadyH.cons (o := ⟨some 113, _, _, _, _, _⟩) rfl (fun K hK => ?_) AllReadyH.nil
        have KS := same_any (aloneP x4) (aloneP x4) AFIT.out _ _ _ _ _ HP5n.out HP6.out
        rw [eqC_pos rfl] at KS
        go_simp
        refine (KS).mono ?_
        rintro e wo ⟨rfl, hb⟩
        obtain h0 := SW.out
        clear SW
        have SW := Lib.hid (h0.trans (hb.mono h0.size))
        clear h0 hb
        refine hK.out _ _ SW.out (fun hHeld => ?_)
        clear hK hHeld
        try simp only [Act.put, List.setIfInBounds_toArray, List.set_cons_zero, List.set_cons_succ]
        clear KS
        refine wpAnyH_take (i := 23) (oi := ⟨some 114, _, _, _, _, _⟩) (v := .bool true) rfl (by kernel_rfl) (by kernel_rfl) (by kernel_rfl) (fun _ _ _ h => h) (Or.inl ⟨by rfl, ?_⟩) SW.out ?_
        · intro W' hW
          go_simp
        try simp only [Act.put, List.setIfInBounds_toArray, List.set_cons_zero, List.set_cons_succ]
        refine wpAnyH_take (i := 24) (oi := ⟨some 115, _, _, _, _, _⟩) (v := .bool true) rfl (by kernel_rfl) (by kernel_rfl) (by kernel_rfl) (fun _ _ _ h => h) (Or.inl ⟨by rfl, ?_⟩) SW.out ?_
        · intro W' hW
          go_simp
        try simp only [Act.put, List.setIfInBounds_toArray, List.set_cons_zero, List.set_cons_succ]
        refine wpAnyH_take (i := 25) (oi := ⟨some 116, _, _, _, _, _⟩) (v := .bool true) rfl (by kernel_rfl) (by kernel_rfl) (by kernel_rfl) (fun _ _ _ h => h) (Or.inl ⟨by rfl, ?_⟩) SW.out ?_
        · intro W' hW
          go_simp
        try simp only [Act.put, List.setIfInBounds_toArray, List.set_cons_zero, List.set_cons_succ]
        refine wpAnyH_ready (rs := [26]) (by kernel_rfl) (by simp) ?_
        refine AllReadyH.cons (o := ⟨some 4, _, _, _, _, _⟩) rfl (fun K hK => ?_) AllReadyH.nil
        go_simp
        refine hK.out _ _ SW.out (fun hHeld => ?_)
        clear hK hHeld
        try simp only [Act.put, List.setIfInBounds_toArray, List.set_cons_zero, List.set_cons_succ]
        refine wpAnyH_done (by kernel_rfl) ?_ _
        go_wp2
        go_ret
        exact ⟨rfl, (BS.out.trans (SW.out.mono BS.out.size))⟩
      · have e1 : (r3 != 0) = true := by simpa using h3
        have e2 : decide (r3 = 0) = false := by simpa using h3
        clear HPAR
        refine wp_region_held_drew (S := fun W => Below w4b.heap.size w4b W) (by kernel_rfl) (Below.refl _ _).drew (fun hHeld => ?_)
        have BS := Lib.hid B.out
        have SW := Lib.hid hHeld
        clear hHeld
        generalize w4b.drew = wq at *
        refine wpAnyH_ready (rs := [0]) (by kernel_rfl) (by simp) ?_
        refine AllReadyH.cons (o := ⟨some 91, _, _, _, _, _⟩) rfl (fun K hK => ?_) AllReadyH.nil
        go_simp
        refine (awake_any _ (HW.out.below (BS.out.trans (SW.out.mono BS.out.size)))).mono ?_
        rintro e wk ⟨rfl, hb⟩
        obtain h0 := SW.out
        clear SW
        have SW := Lib.hid (h0.trans (hb.mono h0.size))
        clear h0 hb
        refine hK.out _ _ SW.out (fun hHeld => ?_)
        clear hK hHeld
        try simp only [Act.put, List.setIfInBounds_toArray, List.set_cons_zero, List.set_cons_succ]
        refine wpAnyH_take (i := 1) (oi := ⟨some 92, _, _, _, _, _⟩) (v := .bool true) rfl (by kernel_rfl) (by kernel_rfl) (by kernel_rfl) (fun _ _ _ h => h) (Or.inl ⟨by rfl, ?_⟩) SW.out ?_
        · intro W' hW
          go_simp
        try simp only [Act.put, List.setIfInBounds_toArray, List.set_cons_zero, List.set_cons_succ]
        refine wpAnyH_take (i := 2) (oi := ⟨some 93, _, _, _, _, _⟩) (v := .int .i64 r1) rfl (by kernel_rfl) (by kernel_rfl) (by kernel_rfl) (fun _ _ _ h => h) (Or.inl ⟨by rfl, ?_⟩) SW.out ?_
        · intro W' hW
          go_simp
        try simp only [Act.put, List.setIfInBounds_toArray, List.set_cons_zero, List.set_cons_succ]
        refine wpAnyH_take (i := 3) (oi := ⟨some 94, _, _, _, _, _⟩) (v := .int .i64 r1) rfl (by kernel_rfl) (by kernel_rfl) (by kernel_rfl) (fun _ _ _ h => h) (Or.inl ⟨by rfl, ?_⟩) SW.out ?_
        · intro W' hW
          go_simp
        try simp only [Act.put, List.setIfInBounds_toArray, List.set_cons_zero, List.set_cons_succ]
        refine wpAnyH_take (i := 4) (oi := ⟨some 95, _, _, _, _, _⟩) (v := .bool true) rfl (by kernel_rfl) (by kernel_rfl) (by kernel_rfl) (fun _ _ _ h => h) (Or.inl ⟨by rfl, ?_⟩) SW.out ?_
        · intro W' hW
          go_simp
        try simp only [Act.put, List.setIfInBounds_toArray, List.set_cons_zero, List.set_cons_succ]
        refine wpAnyH_take (i := 5) (oi := ⟨some 96, _, _, _, _, _⟩) (v := .bool true) rfl (by kernel_rfl) (by kernel_rfl) (by kernel_rfl) (fun _ _ _ h => h) (Or.inl ⟨by rfl, ?_⟩) SW.out ?_
        · intro W' hW
          go_simp
        try simp only [Act.put, List.setIfInBounds_toArray, List.set_cons_zero, List.set_cons_succ]
        refine wpAnyH_take (i := 6) (oi := ⟨some 97, _, _, _, _, _⟩) (v := .bool true) rfl (by kernel_rfl) (by kernel_rfl) (by kernel_rfl) (fun _ _ _ h => h) (Or.inl ⟨by rfl, ?_⟩) SW.out ?_
        · intro W' hW
          go_simp
        try simp only [Act.put, List.setIfInBounds_toArray, List.set_cons_zero, List.set_cons_succ]
        refine wpAnyH_take (i := 7) (oi := ⟨some 98, _, _, _, _, _⟩) (v := .agg #[.slice D1 nd1 cd1, .slice O1 no1 co1]) rfl (by kernel_rfl) (by kernel_rfl) (by kernel_rfl) (fun _ _ _ h => h) (Or.inl ⟨by rfl, ?_⟩) SW.out ?_
        · intro W' hW
          have c0 := HB.cell (P1.out.below hW) 0
          have c1 := HB.cell (P1.out.below hW) 1
          go_simp
        try simp only [Act.put, List.setIfInBounds_toArray, List.set_cons_zero, List.set_cons_succ]
        refine wpAnyH_take (i := 8) (oi := ⟨some 99, _, _, _, _, _⟩) (v := .agg #[.slice D2 nd2 cd2, .slice O2 no2 co2]) rfl (by kernel_rfl) (by kernel_rfl) (by kernel_rfl) (fun _ _ _ h => h) (Or.inl ⟨by rfl, ?_⟩) SW.out ?_
        · intro W' hW
          have c0 := HB.cell (P2.out.below hW) 0
          have c1 := HB.cell (P2.out.below hW) 1
          go_simp
        try simp only [Act.put, List.setIfInBounds_toArray, List.set_cons_zero, List.set_cons_succ]
        refine wpAnyH_ready (rs := [9]) (by kernel_rfl) (by simp) ?_
        refine AllReadyH.cons (o := ⟨some 100, _, _, _, _, _⟩) rfl (fun K hK => ?_) AllReadyH.nil
        have KS := same_any p1 p1 FIT.out _ _ _ _ _ (V1.out.below SW.out) (V2.out.below SW.out)
        rw [eqC_pos rfl] at KS
        go_simp
        refine (KS).mono ?_
        rintro e wl ⟨rfl, hb⟩
        obtain h0 := SW.out
        clear SW
        have SW := Lib.hid (h0.trans (hb.mono h0.size))
        clear h0 hb
        refine hK.out _ _ SW.out (fun hHeld => ?_)
        clear hK hHeld
        try simp only [Act.put, List.setIfInBounds_toArray, List.set_cons_zero, List.set_cons_succ]
        clear KS
        refine wpAnyH_take (i := 10) (oi := ⟨some 101, _, _, _, _, _⟩) (v := .bool true) rfl (by kernel_rfl) (by kernel_rfl) (by kernel_rfl) (fun _ _ _ h => h) (Or.inl ⟨by rfl, ?_⟩) SW.out ?_
        · intro W' hW
          go_simp
        try simp only [Act.put, List.setIfInBounds_toArray, List.set_cons_zero, List.set_cons_succ]
        refine wpAnyH_take (i := 11) (oi := ⟨some 102, _, _, _, _, _⟩) (v := .bool true) rfl (by kernel_rfl) (by kernel_rfl) (by kernel_rfl) (fun _ _ _ h => h) (Or.inl ⟨by rfl, ?_⟩) SW.out ?_
        · intro W' hW
          go_simp
        try simp only [Act.put, List.setIfInBounds_toArray, List.set_cons_zero, List.set_cons_succ]
        refine wpAnyH_take (i := 12) (oi := ⟨some 103, _, _, _, _, _⟩) (v := .int .i64 r3) rfl (by kernel_rfl) (by kernel_rfl) (by kernel_rfl) (fun _ _ _ h => h) (Or.inl ⟨by rfl, ?_⟩) SW.out ?_
        · intro W' hW
          go_simp
        try simp only [Act.put, List.setIfInBounds_toArray, List.set_cons_zero, List.set_cons_succ]
        refine wpAnyH_take (i := 13) (oi := ⟨some 104, _, _, _, _, _⟩) (v := .bool true) rfl (by kernel_rfl) (by kernel_rfl) (by kernel_rfl) (fun _ _ _ h => h) (Or.inl ⟨by rfl, ?_⟩) SW.out ?_
        · intro W' hW
          go_simp
        try simp only [Act.put, List.setIfInBounds_toArray, List.set_cons_zero, List.set_cons_succ]
        refine wpAnyH_take (i := 14) (oi := ⟨some 105, _, _, _, _, _⟩) (v := .bool true) rfl (by kernel_rfl) (by kernel_rfl) (by kernel_rfl) (fun _ _ _ h => h) (Or.inl ⟨by rfl, ?_⟩) SW.out ?_
        · intro W' hW
          go_simp
        try simp only [Act.put, List.setIfInBounds_toArray, List.set_cons_zero, List.set_cons_succ]
        refine wpAnyH_take (i := 15) (oi := ⟨some 106, _, _, _, _, _⟩) (v := undef) rfl (by kernel_rfl) (by kernel_rfl) (by kernel_rfl) (fun _ _ _ h => h) (Or.inr ⟨by rfl, rfl⟩) SW.out ?_
        try simp only [Act.put, List.setIfInBounds_toArray, List.set_cons_zero, List.set_cons_succ]
        refine wpAnyH_take (i := 16) (oi := ⟨some 107, _, _, _, _, _⟩) (v := undef) rfl (by kernel_rfl) (by kernel_rfl) (by kernel_rfl) (fun _ _ _ h => h) (Or.inr ⟨by rfl, rfl⟩) SW.out ?_
        try simp only [Act.put, List.setIfInBounds_toArray, List.set_cons_zero, List.set_cons_succ]
        refine wpAnyH_take (i := 17) (oi := ⟨some 108, _, _, _, _, _⟩) (v := undef) rfl (by kernel_rfl) (by kernel_rfl) (by kernel_rfl) (fun _ _ _ h => h) (Or.inr ⟨by rfl, rfl⟩) SW.out ?_
        try simp only [Act.put, List.setIfInBounds_toArray, List.set_cons_zero, List.set_cons_succ]
        refine wpAnyH_take (i := 18) (oi := ⟨some 109, _, _, _, _, _⟩) (v := undef) rfl (by kernel_rfl) (by kernel_rfl) (by kernel_rfl) (fun _ _ _ h => h) (Or.inr ⟨by rfl, rfl⟩) SW.out ?_
        try simp only [Act.put, List.setIfInBounds_toArray, List.set_cons_zero, List.set_cons_succ]
        refine wpAnyH_take (i := 19) (oi := ⟨some 110, _, _, _, _, _⟩) (v := undef) rfl (by kernel_rfl) (by kernel_rfl) (by kernel_rfl) (fun _ _ _ h => h) (Or.inr ⟨by rfl, rfl⟩) SW.out ?_
        try simp only [Act.put, List.setIfInBounds_toArray, List.set_cons_zero, List.set_cons_succ]
        refine wpAnyH_take (i := 20) (oi := ⟨some 111, _, _, _, _, _⟩) (v := undef) rfl (by kernel_rfl) (by kernel_rfl) (by kernel_rfl) (fun _ _ _ h => h) (Or.inr ⟨by rfl, rfl⟩) SW.out ?_
        try simp only [Act.put, List.setIfInBounds_toArray, List.set_cons_zero, List.set_cons_succ]
        refine wpAnyH_take (i := 21) (oi := ⟨some 112, _, _, _, _, _⟩) (v := undef) rfl (by kernel_rfl) (by kernel_rfl) (by kernel_rfl) (fun _ _ _ h => h) (Or.inr ⟨by rfl, rfl⟩) SW.out ?_
        try simp only [Act.put, List.setIfInBounds_toArray, List.set_cons_zero, List.set_cons_succ]
        refine wpAnyH_take (i := 22) (oi := ⟨some 113, _, _, _, _, _⟩) (v := undef) rfl (by kernel_rfl) (by kernel_rfl) (by kernel_rfl) (fun _ _ _ h => h) (Or.inr ⟨by rfl, rfl⟩) SW.out ?_
        try simp only [Act.put, List.setIfInBounds_toArray, List.set_cons_zero, List.set_cons_succ]
        refine wpAnyH_take (i := 23) (oi := ⟨some 114, _, _, _, _, _⟩) (v := undef) rfl (by kernel_rfl) (by kernel_rfl) (by kernel_rfl) (fun _ _ _ h => h) (Or.inr ⟨by rfl, rfl⟩) SW.out ?_
        try simp only [Act.put, List.setIfInBounds_toArray, List.set_cons_zero, List.set_cons_succ]
        refine wpAnyH_take (i := 24) (oi := ⟨some 115, _, _, _, _, _⟩) (v := .bool true) rfl (by kernel_rfl) (by kernel_rfl) (by kernel_rfl) (fun _ _ _ h => h) (Or.inl ⟨by rfl, ?_⟩) SW.out ?_
        · intro W' hW
          go_simp
        try simp only [Act.put, List.setIfInBounds_toArray, List.set_cons_zero, List.set_cons_succ]
        refine wpAnyH_take (i := 25) (oi := ⟨some 116, _, _, _, _, _⟩) (v := .bool true) rfl (by kernel_rfl) (by kernel_rfl) (by kernel_rfl) (fun _ _ _ h => h) (Or.inl ⟨by rfl, ?_⟩) SW.out ?_
        · intro W' hW
          go_simp
        try simp only [Act.put, List.setIfInBounds_toArray, List.set_cons_zero, List.set_cons_succ]
        refine wpAnyH_ready (rs := [26]) (by kernel_rfl) (by simp) ?_
        refine AllReadyH.cons (o := ⟨some 4, _, _, _, _, _⟩) rfl (fun K hK => ?_) AllReadyH.nil
        go_simp
        refine hK.out _ _ SW.out (fun hHeld => ?_)
        clear hK hHeld
        try simp only [Act.put, List.setIfInBounds_toArray, List.set_cons_zero, List.set_cons_succ]
        refine wpAnyH_done (by kernel_rfl) ?_ _
        go_wp2
        go_ret
        exact ⟨rfl, (BS.out.trans (SW.out.mono BS.out.size))⟩
theorem blanks_str (a : ByteArray) (GA : Option Addr) (gn gc : Nat) (gs : List Int) (w : World) (hw : WW w) (hG : Byts w GA gn gs) (hgm : gn ≤ 9223372036854775807) : Calls Tryz.prog 7 #[.string a, .slice GA gn gc] w fun e w' => e = .returned (.bool true) ∧ Below w.heap.size w w' := by
  rw [← bs_eta a]
  generalize a.data.toList = s
  by_cases hl : 600 < s.length
  · exact blanks_long s GA gn gc gs w hw hG hgm hl
  · by_cases h0 : gn = 0
    · exact blanks_none s GA gn gc gs w hw hG hgm hl h0
    · by_cases he : (Lx.scanL s).2.2 = 0
      · exact blanks_yes s GA gn gc gs w hw hG hgm hl h0 he
      · exact blanks_err s GA gn gc gs w hw hG hgm hl h0 he
end Go.Proofs.YtkakbidllpjopaaGreatDoor
