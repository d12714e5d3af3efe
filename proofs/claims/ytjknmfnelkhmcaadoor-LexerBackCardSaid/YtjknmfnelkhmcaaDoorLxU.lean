/- The walk of the law LexerBack: true. Condition: the package's tables are laid (LxW). -/
import Derived.Test.YtjknmfnelkhmcaaDoorLxT
set_option linter.unusedVariables false
set_option linter.unusedSimpArgs false
namespace Go.Proofs.YtjknmfnelkhmcaaDoor
open Go.RowKit

theorem bs_join (a b : List UInt8) : bs a ++ bs b = bs (a ++ b) := by
  rw [← bs_eta (bs a ++ bs b)]
  congr 1
/-- The bytes of the law. -/
def Byts (w : World) (A : Option Addr) (n : Nat) (l : List Int) : Prop := n = l.length ∧ Reads w (fun _ => True) 1 A n (l.flatMap fun a => [Value.int .u8 a]) ∧ ∀ x ∈ l, 0 ≤ x ∧ x ≤ 255
theorem flat_one (l : List Int) : ∀ k (hk : k < l.length), (l.flatMap fun a => [Value.int .u8 a])[k]? = some (.int .u8 l[k]) := by
  induction l with
  | nil => intro k hk; cases hk
  | cons a t ih =>
    intro k hk
    cases k with
    | zero => rfl
    | succ k => exact ih k (by simpa using hk)
theorem Byts.cell {w : World} {A : Option Addr} {n : Nat} {l : List Int} (h : Byts w A n l) (k : Nat) (hk : k < l.length) :
    0 ≤ l[k] ∧ l[k] ≤ 255 := h.2.2 _ (List.getElem_mem hk)
theorem Byts.at_ {w : World} {A : Option Addr} {n : Nat} {l : List Int} (h : Byts w A n l) (h0 : 0 < n) :
    ∃ b o, A = some ⟨b, o, none⟩ ∧ b < w.heap.size ∧ ∀ w', Below w.heap.size w w' → ∀ k (hk : k < l.length), w'.cell? ⟨b, o + k, none⟩ = some (.int .u8 l[k]) := by
  obtain ⟨h1, h2, h3⟩ := h
  obtain ⟨b, o, e, hb, hS, hh⟩ := h2.2 h0
  refine ⟨b, o, e, hb, fun w' hB k hk => ?_⟩
  rw [hB.cell hb]
  exact hh k _ (flat_one l k hk)
/-- Which gap follows token i. -/
def gapF (gs : List Int) (i : Nat) : Nat := (gs.getD (i % gs.length) 0 % 4).toNat
theorem joinT_long {ts : List Tok} : ∀ g, 1 ≤ (joinT ts g).length := by
  cases ts with
  | nil => intro g; obtain ⟨b, t, h, _⟩ := gap_cons (g 0); show 1 ≤ (gapL (g 0)).length; rw [h]; simp
  | cons t ts => intro g; obtain ⟨b, u, h, _⟩ := gap_cons (g 0); show 1 ≤ (t.text ++ (gapL (g 0) ++ _)).length; rw [h]; simp; omega
theorem toks_le {l : List UInt8} {ts : List Tok} (hP : ∀ (i : Nat) (hi : i < (ts ++ [(⟨0, [], l.length⟩ : Tok)]).length), PartAt l (atB 0 (ts ++ [⟨0, [], l.length⟩]) i) (ts ++ [(⟨0, [], l.length⟩ : Tok)])[i] (decide (i = ts.length))) (h2 : l.length ≤ 2000) :
    ∀ t ∈ ts ++ [(⟨0, [], l.length⟩ : Tok)], t.text.length ≤ 2000 := by
  intro t ht
  obtain ⟨i, hi, rfl⟩ := List.getElem_of_mem ht
  have := (hP i hi).fit
  omega
theorem map_kt {us ts : List Tok} (h : us.map (fun t => (t.kind, t.text)) = ts.map fun t => (t.kind, t.text)) (a b : Nat) :
    (us ++ [(⟨0, [], a⟩ : Tok)]).length = (ts ++ [(⟨0, [], b⟩ : Tok)]).length ∧ ∀ i (h1 : i < (us ++ [(⟨0, [], a⟩ : Tok)]).length) (h2 : i < (ts ++ [(⟨0, [], b⟩ : Tok)]).length), (us ++ [(⟨0, [], a⟩ : Tok)])[i].kind = (ts ++ [(⟨0, [], b⟩ : Tok)])[i].kind ∧ (us ++ [(⟨0, [], a⟩ : Tok)])[i].text = (ts ++ [(⟨0, [], b⟩ : Tok)])[i].text := by
  have e : (us ++ [(⟨0, [], a⟩ : Tok)]).map (fun t => (t.kind, t.text)) = (ts ++ [(⟨0, [], b⟩ : Tok)]).map fun t => (t.kind, t.text) := by
    rw [List.map_append, List.map_append, h]; rfl
  generalize us ++ [(⟨0, [], a⟩ : Tok)] = U at *
  generalize ts ++ [(⟨0, [], b⟩ : Tok)] = T at *
  refine ⟨by have := congrArg List.length e; simpa using this, fun i h1 h2 => ?_⟩
  have e2 := congrArg (fun z => z[i]?) e
  simp only [List.getElem?_map, List.getElem?_eq_getElem h1, List.getElem?_eq_getElem h2, Option.map_some] at e2
  injection e2 with e2
  injection e2 with e3 e4
  exact ⟨e3, e4⟩


set_option maxRecDepth 100000 in
set_option maxHeartbeats 6400000 in
theorem back_long (l : List UInt8) (GA : Option Addr) (gn gc : Nat) (gs : List Int) (w : World) (hw : LxW w) (hG : Byts w GA gn gs) (hmax : l.length ≤ 9223372036854775807) (hgm : gn ≤ 9223372036854775807) (h2 : 2000 < l.length) :
    Calls Tryd.prog 5 #[.string (bs l), .slice GA gn gc] w fun e w' => e = .returned (.bool true) ∧ Below w.heap.size w w' := by
  have hsz := bs_size l
  have h2i : (2000 : Int) < (l.length : Int) := by omega
  have HW := Lib.hid hw
  have HB0 := Lib.hid (Below.refl w.heap.size w)
  clear hw h2 hG
  go_enter Tryd.func5, Tryd.ntmps5
  go_wp2_with fail
  refine (awake_any w HW.out).mono ?_
  rintro e wz ⟨rfl, hb⟩
  have HBz := Lib.hid (HB0.out.trans (hb.mono HB0.out.size))
  clear hb HB0 HW
  go_wp2
  go_ret
  exact ⟨by first | rfl | simp, HBz.out⟩

set_option maxRecDepth 100000 in
set_option maxHeartbeats 6400000 in
theorem back_none (l : List UInt8) (GA : Option Addr) (gn gc : Nat) (gs : List Int) (w : World) (hw : LxW w) (hG : Byts w GA gn gs) (hmax : l.length ≤ 9223372036854775807) (hgm : gn ≤ 9223372036854775807) (h2 : ¬ 2000 < l.length) (h0 : gn = 0) :
    Calls Tryd.prog 5 #[.string (bs l), .slice GA gn gc] w fun e w' => e = .returned (.bool true) ∧ Below w.heap.size w w' := by
  have hsz := bs_size l
  have h2i : (l.length : Int) ≤ 2000 := by omega
  subst h0
  have HW := Lib.hid hw
  have HB0 := Lib.hid (Below.refl w.heap.size w)
  clear hw h2 hG
  go_enter Tryd.func5, Tryd.ntmps5
  go_wp2_with fail
  refine (awake_any w HW.out).mono ?_
  rintro e wz ⟨rfl, hb⟩
  have HBz := Lib.hid (HB0.out.trans (hb.mono HB0.out.size))
  clear hb HB0 HW
  go_wp2
  go_ret
  exact ⟨by first | rfl | simp, HBz.out⟩

set_option maxRecDepth 100000 in
set_option maxHeartbeats 6400000 in
theorem back_err (l : List UInt8) (GA : Option Addr) (gn gc : Nat) (gs : List Int) (w : World) (hw : LxW w) (hG : Byts w GA gn gs) (hmax : l.length ≤ 9223372036854775807) (hgm : gn ≤ 9223372036854775807) (h2 : ¬ 2000 < l.length) (h0 : ¬ gn = 0) (p : Nat × Int) (hR : scanR l = .error p) :
    Calls Tryd.prog 5 #[.string (bs l), .slice GA gn gc] w fun e w' => e = .returned (.bool true) ∧ Below w.heap.size w w' := by
  have hsz := bs_size l
  have h2i : (l.length : Int) ≤ 2000 := by omega
  have hgi : ¬ (gn : Int) = 0 := by omega
  have hgd : ((gn : Int) == 0) = false := beq_eq_false_iff_ne.2 hgi
  have h2d : decide ((2000 : Int) < (l.length : Int)) = false := decide_eq_false (by omega)
  have HW := Lib.hid hw
  have HSC := Lib.hid (scan_any l w hw hmax)
  rw [show scanL l = ([], p.1, p.2) by unfold scanL; rw [if_neg (by omega), hR]] at HSC
  have hp := scanG_err _ _ _ p hR
  generalize p.2 = pe at *
  generalize p.1 = pk at *
  clear hw h2 hR hmax hG h0
  go_enter Tryd.func5, Tryd.ntmps5
  go_wp2_with fail
  refine HSC.out.mono ?_
  rintro e w1 ⟨v, rfl, ho, hb⟩
  obtain ⟨A, c, rfl, _, _, _⟩ := own_reads ho (S := fun _ => True) (fun b hb => trivial)
  have HB1 := Lib.hid hb
  have HW1 := Lib.hid (HW.out.below hb)
  clear ho hb HW HSC
  go_wp2_with fail
  refine (awake_any w1 HW1.out).mono ?_
  rintro e wz ⟨rfl, hb⟩
  have HBz := Lib.hid (HB1.out.trans (hb.mono HB1.out.size))
  clear hb HB1 HW1
  go_wp2
  go_ret
  exact ⟨by first | rfl | simp, HBz.out⟩

set_option maxRecDepth 100000 in
set_option maxHeartbeats 6400000 in
theorem back_yes (l : List UInt8) (GA : Option Addr) (gn gc : Nat) (gs : List Int) (w : World) (hw : LxW w) (hG : Byts w GA gn gs) (hmax : l.length ≤ 9223372036854775807) (hgm : gn ≤ 9223372036854775807) (h2 : ¬ 2000 < l.length) (h0 : ¬ gn = 0) (ts : List Tok) (hR : scanR l = .ok ts) :
    Calls Tryd.prog 5 #[.string (bs l), .slice GA gn gc] w fun e w' => e = .returned (.bool true) ∧ Below w.heap.size w w' := by
  have hsz := bs_size l
  have h2i : (l.length : Int) ≤ 2000 := by omega
  have hgi : ¬ (gn : Int) = 0 := by omega
  have hgd : ((gn : Int) == 0) = false := beq_eq_false_iff_ne.2 hgi
  have h2d : decide ((2000 : Int) < (l.length : Int)) = false := decide_eq_false (by omega)
  have HW := Lib.hid hw
  have HSC := Lib.hid (scan_any l w hw hmax)
  rw [show scanL l = (ts ++ [⟨0, [], l.length⟩], 0, 0) by unfold scanL; rw [if_neg (by omega), hR]] at HSC
  have HPP := Lib.hid fun i hi => scan_ok_parts (l := l) (by omega) hR i hi
  have HL2 := Lib.hid (show l.length ≤ 2000 by omega)
  have HLN := Lib.hid (show (ts ++ [(⟨0, [], l.length⟩ : Tok)]).length = ts.length + 1 by simp)
  have HTB := Lib.hid (show ts.length ≤ 2000 from parts_count HPP.out HLN.out HL2.out)
  have HTL := Lib.hid (toks_le HPP.out HL2.out)
  have HJ := Lib.hid (catT_join ts ⟨0, [], l.length⟩ rfl (gapF gs))
  have HJS := Lib.hid fun h6 => joinT_scanL hR (gapF gs) h6
  have HKT := Lib.hid fun (us : List Tok) (h : us.map (fun t : Tok => (t.kind, t.text)) = ts.map fun t => (t.kind, t.text)) a => map_kt h a l.length
  clear hw h2 hR HPP
  dsimp only at HSC
  rw [HLN.out] at HSC
  obtain ⟨gb, go, rfl, hgb, hgc⟩ := hG.at_ (by omega)
  obtain ⟨hgn, _, hgv⟩ := hG
  subst hgn
  have HGC := Lib.hid hgc
  have HGB := Lib.hid hgb
  have HG0 := Lib.hid (show 0 < gs.length by omega)
  clear hgc hgb h0
  generalize ts ++ [(⟨0, [], l.length⟩ : Tok)] = L at *
  go_enter Tryd.func5, Tryd.ntmps5
  go_wp2_with fail
  refine HSC.out.mono ?_
  rintro e w1 ⟨v, rfl, ho, hb⟩
  have HB1 := Lib.hid hb
  have HW1 := Lib.hid (HW.out.below hb)
  rw [← HLN.out] at ho
  obtain ⟨g, c, rfl, hg, _, hc⟩ := toks_at ho (by rw [HLN.out]; omega)
  rw [HLN.out]
  have HC := Lib.hid hc
  clear ho hb HW HSC hc hg
  have htb : (ts.length : Int) ≤ 2000 := by have := HTB.out; omega
  go_wp2
  go_loopw [8, 35] (fun tv i wr => ∃ k : Nat, k ≤ ts.length + 1 ∧ i = .int .i64 k ∧ tv = .string (bs (catT L (gapF gs) k)) ∧ Hid (Below w.heap.size w wr) ∧ Hid (Below w1.heap.size w1 wr)) (fun _ i _ => ts.length + 1 - (intOf i).toNat)
  case atStart => exact ⟨0, by omega, rfl, rfl, HB1, Lib.hid (Below.refl _ _)⟩
  case round =>
    obtain ⟨k, hk, rfl, rfl, HB, HS⟩ := hrel
    by_cases hlt : k < ts.length + 1
    · skip
      have hki : (k : Int) < (ts.length : Int) + 1 := by omega
      have HK := Lib.hid hlt
      have hkL : k < L.length := by rw [HLN.out]; exact hlt
      obtain ⟨c0, c1, c2⟩ := HC.out wr HS.out k hkL
      have htx := HTL.out L[k] (List.getElem_mem hkL)
      have HNX := Lib.hid (show catT L (gapF gs) (k + 1) = catT L (gapF gs) k ++ (L[k].text ++ gapL (gapF gs k)) by rw [catT, List.getD_eq_getElem?_getD, List.getElem?_eq_getElem hkL]; rfl)
      have hcl := catT_le L (gapF gs) 2000 HTL.out k
      have hcl2 : (catT L (gapF gs) k).length ≤ 5000000 := Nat.le_trans hcl (Nat.le_trans (Nat.mul_le_mul_right _ (show k ≤ 2001 by have := HTB.out; omega)) (by omega))
      generalize catT L (gapF gs) k = C at *
      generalize hT : L[k] = t at *
      obtain ⟨tk, tx, to⟩ := t
      clear hT hkL hcl
      dsimp only at c0 c1 c2 htx HNX
      have hrl : k % gs.length < gs.length := Nat.mod_lt _ HG0.out
      have hrm : ((k : Int)).tmod (gs.length : Int) = ((k % gs.length : Nat) : Int) := by rw [Int.tmod_eq_emod_of_nonneg (by omega)]; omega
      have hgb2 := hgv _ (List.getElem_mem hrl)
      have hbx : Box (wr.alloc (.cells #[.int .i64 tk, .string (bs tx), .int .i64 to] 33)) wr.heap.size (.int .i64 tk) (.string (bs tx)) (.int .i64 to) := heap_alloc_new _ _
      have HBa := Lib.hid (HB.out.alloc HB.out.size (.cells #[.int .i64 tk, .string (bs tx), .int .i64 to] 33))
      have HSa := Lib.hid (HS.out.alloc HS.out.size (.cells #[.int .i64 tk, .string (bs tx), .int .i64 to] 33))
      have hgq : gapF gs k = (gs[k % gs.length] % 4).toNat := by unfold gapF; rw [List.getD_eq_getElem?_getD, List.getElem?_eq_getElem hrl]; rfl
      rw [hgq] at HNX
      have HGCr := Lib.hid fun W (hW : Below w.heap.size w W) => HGC.out W hW (k % gs.length) hrl
      clear hgq
      generalize gs[k % gs.length] = b at *
      generalize k % gs.length = r at *
      have hri : (r : Int) < (gs.length : Int) := by omega
      have hq : (b % 4).toNat = 0 ∨ (b % 4).toNat = 1 ∨ (b % 4).toNat = 2 ∨ (b % 4).toNat = 3 := by omega
      have hqm : b.tmod 4 = ((b % 4).toNat : Int) := by rw [Int.tmod_eq_emod_of_nonneg hgb2.1]; omega
      generalize (b % 4).toNat = q at *
      have hsC : ((bs C).size : Int) ≤ 5000000 := by rw [bs_size]; omega
      have hsx : ((bs tx).size : Int) ≤ 2000 := by rw [bs_size]; omega
      obtain ⟨e0, e1, e2⟩ := hbx.cells
      have HQZ := Lib.hid (show wr.heap.size < (wr.alloc (.cells #[.int .i64 tk, .string (bs tx), .int .i64 to] 33)).heap.size from by simp)
      clear hbx HB HS hk hlt hgb2 hrl htx hcl2
      rcases hq with rfl | rfl | rfl | rfl
      · skip
        have HNX2 := Lib.hid (show catT L (gapF gs) (k + 1) = C ++ (tx ++ [32]) from HNX.out)
        clear HNX
        have hz : ((⟨#[32]⟩ : ByteArray).size : Int) = 1 := rfl
        have hc1 : bs tx ++ (⟨#[32]⟩ : ByteArray) = bs (tx ++ [32]) := bs_join tx [32]
        have hc2 : bs C ++ bs (tx ++ [32]) = bs (C ++ (tx ++ [32])) := bs_join C _
        have hz2 : ((bs (tx ++ [32])).size : Int) ≤ 2005 := by rw [bs_size] at *; rw [List.length_append]; simp; omega
        go_wp2_with fail
        generalize hW1 : wr.alloc (.cells #[.int .i64 tk, .string (bs tx), .int .i64 to] 33) = W1 at *
        generalize wr.heap.size = p at *
        have g0 := HGCr.out W1 HBa.out
        have hgn0 : ¬ gs = [] := by intro e; have := HG0.out; rw [e] at this; exact absurd this (by decide)
        have HZ := Lib.hid ((Below.refl W1.heap.size W1).alloc (Nat.le_refl _) (.cells #[.string { data := #[32] }, .string { data := #[10] }, .string { data := #[35, 97, 32, 98, 10] }, .string { data := #[9, 13] }] 9))
        have g1 : (W1.alloc (.cells #[.string { data := #[32] }, .string { data := #[10] }, .string { data := #[35, 97, 32, 98, 10] }, .string { data := #[9, 13] }] 9)).cell? ⟨gb, go + r, none⟩ = some (.int .u8 b) := HGCr.out _ (HBa.out.trans (HZ.out.mono HBa.out.size))
        have e1' : (W1.alloc (.cells #[.string { data := #[32] }, .string { data := #[10] }, .string { data := #[35, 97, 32, 98, 10] }, .string { data := #[9, 13] }] 9)).cell? ⟨p, 1, none⟩ = some (.string (bs tx)) := (HZ.out.cell (p := ⟨p, 1, none⟩) HQZ.out).trans e1
        go_region
        go_wp2
        go_roundw
        case rel => exact ⟨k + 1, HK.out, by go_num, by rw [HNX2.out], Lib.hid ((HBa.out.trans (HZ.out.mono HBa.out.size)).drew), Lib.hid ((HSa.out.trans (HZ.out.mono HSa.out.size)).drew)⟩
        case measure => exact meas_up _ _ HK.out
      · skip
        have HNX2 := Lib.hid (show catT L (gapF gs) (k + 1) = C ++ (tx ++ [10]) from HNX.out)
        clear HNX
        have hz : ((⟨#[10]⟩ : ByteArray).size : Int) = 1 := rfl
        have hc1 : bs tx ++ (⟨#[10]⟩ : ByteArray) = bs (tx ++ [10]) := bs_join tx [10]
        have hc2 : bs C ++ bs (tx ++ [10]) = bs (C ++ (tx ++ [10])) := bs_join C _
        have hz2 : ((bs (tx ++ [10])).size : Int) ≤ 2005 := by rw [bs_size] at *; rw [List.length_append]; simp; omega
        go_wp2_with fail
        generalize hW1 : wr.alloc (.cells #[.int .i64 tk, .string (bs tx), .int .i64 to] 33) = W1 at *
        generalize wr.heap.size = p at *
        have g0 := HGCr.out W1 HBa.out
        have hgn0 : ¬ gs = [] := by intro e; have := HG0.out; rw [e] at this; exact absurd this (by decide)
        have HZ := Lib.hid ((Below.refl W1.heap.size W1).alloc (Nat.le_refl _) (.cells #[.string { data := #[32] }, .string { data := #[10] }, .string { data := #[35, 97, 32, 98, 10] }, .string { data := #[9, 13] }] 9))
        have g1 : (W1.alloc (.cells #[.string { data := #[32] }, .string { data := #[10] }, .string { data := #[35, 97, 32, 98, 10] }, .string { data := #[9, 13] }] 9)).cell? ⟨gb, go + r, none⟩ = some (.int .u8 b) := HGCr.out _ (HBa.out.trans (HZ.out.mono HBa.out.size))
        have e1' : (W1.alloc (.cells #[.string { data := #[32] }, .string { data := #[10] }, .string { data := #[35, 97, 32, 98, 10] }, .string { data := #[9, 13] }] 9)).cell? ⟨p, 1, none⟩ = some (.string (bs tx)) := (HZ.out.cell (p := ⟨p, 1, none⟩) HQZ.out).trans e1
        go_region
        go_wp2
        go_roundw
        case rel => exact ⟨k + 1, HK.out, by go_num, by rw [HNX2.out], Lib.hid ((HBa.out.trans (HZ.out.mono HBa.out.size)).drew), Lib.hid ((HSa.out.trans (HZ.out.mono HSa.out.size)).drew)⟩
        case measure => exact meas_up _ _ HK.out
      · skip
        have HNX2 := Lib.hid (show catT L (gapF gs) (k + 1) = C ++ (tx ++ [35, 97, 32, 98, 10]) from HNX.out)
        clear HNX
        have hz : ((⟨#[35, 97, 32, 98, 10]⟩ : ByteArray).size : Int) = 5 := rfl
        have hc1 : bs tx ++ (⟨#[35, 97, 32, 98, 10]⟩ : ByteArray) = bs (tx ++ [35, 97, 32, 98, 10]) := bs_join tx [35, 97, 32, 98, 10]
        have hc2 : bs C ++ bs (tx ++ [35, 97, 32, 98, 10]) = bs (C ++ (tx ++ [35, 97, 32, 98, 10])) := bs_join C _
        have hz2 : ((bs (tx ++ [35, 97, 32, 98, 10])).size : Int) ≤ 2005 := by rw [bs_size] at *; rw [List.length_append]; simp; omega
        go_wp2_with fail
        generalize hW1 : wr.alloc (.cells #[.int .i64 tk, .string (bs tx), .int .i64 to] 33) = W1 at *
        generalize wr.heap.size = p at *
        have g0 := HGCr.out W1 HBa.out
        have hgn0 : ¬ gs = [] := by intro e; have := HG0.out; rw [e] at this; exact absurd this (by decide)
        have HZ := Lib.hid ((Below.refl W1.heap.size W1).alloc (Nat.le_refl _) (.cells #[.string { data := #[32] }, .string { data := #[10] }, .string { data := #[35, 97, 32, 98, 10] }, .string { data := #[9, 13] }] 9))
        have g1 : (W1.alloc (.cells #[.string { data := #[32] }, .string { data := #[10] }, .string { data := #[35, 97, 32, 98, 10] }, .string { data := #[9, 13] }] 9)).cell? ⟨gb, go + r, none⟩ = some (.int .u8 b) := HGCr.out _ (HBa.out.trans (HZ.out.mono HBa.out.size))
        have e1' : (W1.alloc (.cells #[.string { data := #[32] }, .string { data := #[10] }, .string { data := #[35, 97, 32, 98, 10] }, .string { data := #[9, 13] }] 9)).cell? ⟨p, 1, none⟩ = some (.string (bs tx)) := (HZ.out.cell (p := ⟨p, 1, none⟩) HQZ.out).trans e1
        go_region
        go_wp2
        go_roundw
        case rel => exact ⟨k + 1, HK.out, by go_num, by rw [HNX2.out], Lib.hid ((HBa.out.trans (HZ.out.mono HBa.out.size)).drew), Lib.hid ((HSa.out.trans (HZ.out.mono HSa.out.size)).drew)⟩
        case measure => exact meas_up _ _ HK.out
      · skip
        have HNX2 := Lib.hid (show catT L (gapF gs) (k + 1) = C ++ (tx ++ [9, 13]) from HNX.out)
        clear HNX
        have hz : ((⟨#[9, 13]⟩ : ByteArray).size : Int) = 2 := rfl
        have hc1 : bs tx ++ (⟨#[9, 13]⟩ : ByteArray) = bs (tx ++ [9, 13]) := bs_join tx [9, 13]
        have hc2 : bs C ++ bs (tx ++ [9, 13]) = bs (C ++ (tx ++ [9, 13])) := bs_join C _
        have hz2 : ((bs (tx ++ [9, 13])).size : Int) ≤ 2005 := by rw [bs_size] at *; rw [List.length_append]; simp; omega
        go_wp2_with fail
        generalize hW1 : wr.alloc (.cells #[.int .i64 tk, .string (bs tx), .int .i64 to] 33) = W1 at *
        generalize wr.heap.size = p at *
        have g0 := HGCr.out W1 HBa.out
        have hgn0 : ¬ gs = [] := by intro e; have := HG0.out; rw [e] at this; exact absurd this (by decide)
        have HZ := Lib.hid ((Below.refl W1.heap.size W1).alloc (Nat.le_refl _) (.cells #[.string { data := #[32] }, .string { data := #[10] }, .string { data := #[35, 97, 32, 98, 10] }, .string { data := #[9, 13] }] 9))
        have g1 : (W1.alloc (.cells #[.string { data := #[32] }, .string { data := #[10] }, .string { data := #[35, 97, 32, 98, 10] }, .string { data := #[9, 13] }] 9)).cell? ⟨gb, go + r, none⟩ = some (.int .u8 b) := HGCr.out _ (HBa.out.trans (HZ.out.mono HBa.out.size))
        have e1' : (W1.alloc (.cells #[.string { data := #[32] }, .string { data := #[10] }, .string { data := #[35, 97, 32, 98, 10] }, .string { data := #[9, 13] }] 9)).cell? ⟨p, 1, none⟩ = some (.string (bs tx)) := (HZ.out.cell (p := ⟨p, 1, none⟩) HQZ.out).trans e1
        go_region
        go_wp2
        go_roundw
        case rel => exact ⟨k + 1, HK.out, by go_num, by rw [HNX2.out], Lib.hid ((HBa.out.trans (HZ.out.mono HBa.out.size)).drew), Lib.hid ((HSa.out.trans (HZ.out.mono HSa.out.size)).drew)⟩
        case measure => exact meas_up _ _ HK.out
    · skip
      obtain rfl : k = ts.length + 1 := by omega
      have hki : ¬ (((ts.length + 1 : Nat) : Int)) < (ts.length : Int) + 1 := by omega
      rw [show (((ts.length + 1 : Nat) : Int)) = (ts.length : Int) + 1 by omega]
      rw [HJ.out]
      clear hk hlt
      have hjs := bs_size (joinT ts (gapF gs))
      have hcl := catT_le L (gapF gs) 2000 HTL.out (ts.length + 1)
      rw [HJ.out] at hcl
      have hcl2 : (joinT ts (gapF gs)).length ≤ 5000000 := Nat.le_trans hcl (Nat.le_trans (Nat.mul_le_mul_right _ (show ts.length + 1 ≤ 2001 by have := HTB.out; omega)) (by omega))
      clear hcl
      have HW2 := Lib.hid (HW1.out.below HS.out)
      by_cases h6 : 65536 < (joinT ts (gapF gs)).length
      · skip
        have h6i : (65536 : Int) < ((joinT ts (gapF gs)).length : Int) := by omega
        clear h6 HJS HKT HJ
        go_wp2_with fail
        refine (awake_any wr HW2.out).mono ?_
        rintro e wz ⟨rfl, hb⟩
        have HBz := Lib.hid (HB.out.trans (hb.mono HB.out.size))
        clear hb HB HW2
        go_wp2
        go_ret
        exact ⟨by first | rfl | simp, HBz.out⟩
      · skip
        have h6i : ((joinT ts (gapF gs)).length : Int) ≤ 65536 := by omega
        obtain ⟨us, hus, hum⟩ := HJS.out (by omega)
        have HSC2 := Lib.hid (scan_any (joinT ts (gapF gs)) wr HW2.out (by omega))
        rw [hus] at HSC2
        dsimp only at HSC2
        obtain ⟨hul, hue⟩ := HKT.out us hum (joinT ts (gapF gs)).length
        clear hus hum HJS HKT HJ h6 hcl2
        generalize us ++ [(⟨0, [], (joinT ts (gapF gs)).length⟩ : Tok)] = U at *
        have HLU := Lib.hid (show U.length = ts.length + 1 from hul.trans HLN.out)
        have HUE := Lib.hid hue
        clear hul hue
        rw [HLU.out] at HSC2
        generalize joinT ts (gapF gs) = J at *
        go_wp2_with fail
        refine HSC2.out.mono ?_
        rintro e w2 ⟨v2, rfl, ho, hb⟩
        have HB2 := Lib.hid (HB.out.trans (hb.mono HB.out.size))
        have HS2 := Lib.hid (HS.out.trans (hb.mono HS.out.size))
        have HW3 := Lib.hid (HW2.out.below hb)
        rw [← HLU.out] at ho
        obtain ⟨g2, c2, rfl, _, _, hc2⟩ := toks_at ho (by rw [HLU.out]; omega)
        rw [HLU.out]
        have HC2 := Lib.hid hc2
        clear ho hb hc2 HB HS HW2 HSC2
        go_wp2
        go_loopw [78] (fun i wq => ∃ (j nq : Nat), j ≤ ts.length + 1 ∧ i = .int .i64 j ∧ wq = w2.drewN nq) (fun i _ => ts.length + 1 - (intOf i).toNat)
        case atStart => exact ⟨0, 0, by omega, rfl, rfl⟩
        case round =>
          obtain ⟨j, nq, hj, rfl, rfl⟩ := hrel
          have HSq := Lib.hid (below_drewN HS2.out nq)
          have HBq := Lib.hid (below_drewN HB2.out nq)
          have HWq := Lib.hid (HW3.out.below (below_drewN (Below.refl _ _) nq))
          have HXq := Lib.hid (below_drewN (Below.refl w2.heap.size w2) nq)
          by_cases hlt2 : j < ts.length + 1
          · skip
            have hji : (j : Int) < (ts.length : Int) + 1 := by omega
            have HJK := Lib.hid hlt2
            have hjL : j < L.length := by rw [HLN.out]; exact hlt2
            have hjU : j < U.length := by rw [HLU.out]; exact hlt2
            obtain ⟨u0, u1, _⟩ := HC2.out _ HXq.out j hjU
            obtain ⟨x0, x1, _⟩ := HC.out _ HSq.out j hjL
            obtain ⟨hk1, hk2⟩ := HUE.out j hjU hjL
            rw [hk1] at u0
            rw [hk2] at u1
            generalize L[j].kind = kk at *
            generalize L[j].text = tt at *
            clear hk1 hk2 hj hlt2
            have v0 : w2.cell? ⟨g2, j * 3, none⟩ = some (.int .i64 kk) := u0
            have v1 : w2.cell? ⟨g2, j * 3 + 1, none⟩ = some (.string (bs tt)) := u1
            have y0 : w2.cell? ⟨g, j * 3, none⟩ = some (.int .i64 kk) := x0
            have y1 : w2.cell? ⟨g, j * 3 + 1, none⟩ = some (.string (bs tt)) := x1
            have n1 : (kk == kk) = true := beq_self_eq_true kk
            have n2 : (kk != kk) = false := bne_self_eq_false kk
            have n3 : decide (kk = kk) = true := decide_eq_true rfl
            have n4 : (!decide (kk = kk)) = false := by rw [n3]; rfl
            go_wp2_with fail
            go_quiet (fail)
            go_wp2
            go_roundw
            case rel => exact ⟨j + 1, _, HJK.out, by go_num, by first | rfl | (rw [drewN_add])⟩
            case measure => exact meas_up _ _ HJK.out
          · skip
            obtain rfl : j = ts.length + 1 := by omega
            have hji : ¬ (((ts.length + 1 : Nat) : Int)) < (ts.length : Int) + 1 := by omega
            rw [show (((ts.length + 1 : Nat) : Int)) = (ts.length : Int) + 1 by omega]
            clear hj hlt2
            go_wp2_with fail
            refine (awake_any _ HWq.out).mono ?_
            rintro e wz ⟨rfl, hb⟩
            have HBz := Lib.hid (HBq.out.trans (hb.mono HBq.out.size))
            clear hb HBq HWq
            go_wp2
            go_ret
            exact ⟨by first | rfl | simp, HBz.out⟩
theorem back_any (l : List UInt8) (GA : Option Addr) (gn gc : Nat) (gs : List Int) (w : World) (hw : LxW w) (hG : Byts w GA gn gs) (hmax : l.length ≤ 9223372036854775807) (hgm : gn ≤ 9223372036854775807) :
    Calls Tryd.prog 5 #[.string (bs l), .slice GA gn gc] w fun e w' => e = .returned (.bool true) ∧ Below w.heap.size w w' := by
  by_cases h2 : 2000 < l.length
  · exact back_long l GA gn gc gs w hw hG hmax hgm h2
  · by_cases h0 : gn = 0
    · exact back_none l GA gn gc gs w hw hG hmax hgm h2 h0
    · cases hR : scanR l with
      | error p => exact back_err l GA gn gc gs w hw hG hmax hgm h2 h0 p hR
      | ok ts => exact back_yes l GA gn gc gs w hw hG hmax hgm h2 h0 ts hR
theorem back_str (s : ByteArray) (GA : Option Addr) (gn gc : Nat) (gs : List Int) (w : World) (hw : LxW w) (hG : Byts w GA gn gs) (hmax : s.size ≤ 9223372036854775807) (hgm : gn ≤ 9223372036854775807) :
    Calls Tryd.prog 5 #[.string s, .slice GA gn gc] w fun e w' => e = .returned (.bool true) ∧ Below w.heap.size w w' := by
  have h := back_any s.data.toList GA gn gc gs w hw hG (by rw [← bs_size, bs_eta]; exact hmax) hgm
  rwa [bs_eta] at h
end Go.Proofs.YtjknmfnelkhmcaaDoor
