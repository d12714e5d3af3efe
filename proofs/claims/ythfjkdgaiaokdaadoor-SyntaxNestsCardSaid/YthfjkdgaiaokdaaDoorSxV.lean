/- The printer's walk: statements (printed by wip/gensxv.py). Conditions: valid statements; the library's tables are laid (SxW); the text stays short. -/
import Derived.Test.YthfjkdgaiaokdaaDoorSxU
set_option linter.unusedVariables false
set_option linter.unusedSimpArgs false
namespace Go.Proofs.YthfjkdgaiaokdaaDoor
open Go.RowKit

mutual
/-- A statement's lines. -/
def txS (d : Nat) : St → Str
  | .mk k s n e b l => if k = 0 then lineT d ([108, 101, 116, 32] ++ s ++ [32, 61, 32] ++ txE e ++ [59]) else if k = 1 then lineT d (s ++ [32, 61, 32] ++ txE e ++ [59])
    else if k = 2 then lineT d (txE e ++ [59]) else if k = 5 then lineT d ([114, 101, 116, 117, 114, 110, 32] ++ txE e ++ [59]) else if k = 6 then lineT d ([97, 98, 111, 114, 116, 32] ++ Lib.itoa n ++ [59])
    else if k = 4 then lineT d ([114, 101, 112, 101, 97, 116, 32] ++ Lib.itoa n ++ [32, 123]) ++ txSs (d + 1) b ++ lineT d [125]
    else lineT d ([105, 102, 32] ++ txE e ++ [32, 123]) ++ txSs (d + 1) b ++ (if l.length = 0 then [] else lineT d [125, 32, 101, 108, 115, 101, 32, 123] ++ txSs (d + 1) l) ++ lineT d [125]
def txSs (d : Nat) : List St → Str
  | [] => []
  | s :: t => txS d s ++ txSs d t
end
theorem chkSs_all {d : Int} : ∀ {l : List St}, chkSs d l = 0 → ∀ x ∈ l, chkS d x = 0
  | [], _, x, h => by cases h
  | e :: t, h, x, hx => by
    rw [chkSs] at h
    split at h
    · exact absurd h (by assumption)
    · rename_i h3
      rcases List.mem_cons.1 hx with rfl | hx
      · exact Classical.not_not.1 h3
      · exact chkSs_all h x hx
theorem hasX_of {k : Int} (h : k ≠ 4 ∧ k ≠ 6) : hasX k = true := decide_eq_true h
theorem chkS_fields {d k n : Int} {s : Str} {e : Ex} {b l : List St} (h : chkS d (.mk k s n e b l) = 0) : d ≤ 12 ∧ 0 ≤ k ∧ k ≤ 6 ∧ (¬ ((¬ k ≤ 1 ∧ s ≠ []) ∨ (¬ (k = 4 ∨ k = 6) ∧ n ≠ 0) ∨ (k ≠ 3 ∧ 0 < l.length) ∨ (k ≠ 3 ∧ k ≠ 4 ∧ 0 < b.length) ∨ (hasX k = false ∧ emptyE e = false) ∨ (k = 2 ∧ e.kind ≠ 6 ∧ e.kind ≠ 7))) ∧ (k ≤ 1 → nameOk s = true) ∧ 0 ≤ n ∧ (k = 4 → n ≤ 64) ∧ (hasX k = true → chkE 1 e = 0) ∧ chkSs (d + 1) b = 0 ∧ chkSs (d + 1) l = 0 := by
  rw [chkS] at h
  split at h
  · exact absurd h (by assumption)
  rename_i h0
  have hh : headS d k s n e b.length l.length = 0 := Classical.not_not.1 h0
  split at h
  · rename_i h1; exact absurd h h1.2
  rename_i h1
  split at h
  · exact absurd h (by assumption)
  rename_i h2
  unfold headS at hh
  split at hh
  · cases hh
  split at hh
  · cases hh
  split at hh
  · cases hh
  split at hh
  · cases hh
  split at hh
  · cases hh
  rename_i e1 e2 e3 e4 e5
  refine ⟨by omega, by omega, by omega, e3, fun hk => ?_, by omega, fun hk => by omega, fun hx => Classical.byContradiction fun hc => h1 ⟨hx, hc⟩, Classical.not_not.1 h2, h⟩
  cases hq : nameOk s with
  | true => rfl
  | false => exact absurd ⟨hk, hq⟩ e4
theorem empty_of {e : Ex} (h : emptyE e = true) : e = .mk 0 0 [] [] [] [] := by
  obtain ⟨k, n, s, m, a, o⟩ := e
  unfold emptyE at h
  simp only [Bool.and_eq_true, decide_eq_true_eq, beq_iff_eq, Ex.kind, Ex.num, Ex.name, Ex.meth, Ex.args, Ex.orr, List.length_eq_zero_iff] at h
  obtain ⟨⟨⟨⟨⟨h1, h2⟩, rfl⟩, rfl⟩, rfl⟩, rfl⟩ := h
  obtain rfl : k = 0 := of_decide_eq_true h1
  obtain rfl : n = 0 := of_decide_eq_true h2
  rfl
/-- The shapes of valid statements. -/
inductive ShapeS (d : Int) : St → Prop where
  | let_ (s : Str) (e : Ex) (hs : nameOk s = true) (he : chkE 1 e = 0) : ShapeS d (.mk 0 s 0 e [] [])
  | set_ (s : Str) (e : Ex) (hs : nameOk s = true) (he : chkE 1 e = 0) : ShapeS d (.mk 1 s 0 e [] [])
  | do_ (e : Ex) (hk : e.kind = 6 ∨ e.kind = 7) (he : chkE 1 e = 0) : ShapeS d (.mk 2 [] 0 e [] [])
  | if_ (e : Ex) (b l : List St) (he : chkE 1 e = 0) (hb : chkSs (d + 1) b = 0) (hl : chkSs (d + 1) l = 0) : ShapeS d (.mk 3 [] 0 e b l)
  | repeat_ (n : Int) (b : List St) (h0 : 0 ≤ n) (h1 : n ≤ 64) (hb : chkSs (d + 1) b = 0) : ShapeS d (.mk 4 [] n (.mk 0 0 [] [] [] []) b [])
  | return_ (e : Ex) (he : chkE 1 e = 0) : ShapeS d (.mk 5 [] 0 e [] [])
  | abort_ (n : Int) (h0 : 0 ≤ n) : ShapeS d (.mk 6 [] n (.mk 0 0 [] [] [] []) [] [])
theorem shapeS_of {d : Int} {x : St} (h : chkS d x = 0) : ShapeS d x ∧ d ≤ 12 := by
  obtain ⟨k, s, n, e, b, l⟩ := x
  obtain ⟨hd, hk0, hk6, hf, hs, hn, h64, hx, hb, hl⟩ := chkS_fields h
  refine ⟨?_, hd⟩
  have f1 : ¬ k ≤ 1 → s = [] := fun h => Classical.byContradiction fun hc => hf (.inl ⟨h, hc⟩)
  have f2 : ¬ (k = 4 ∨ k = 6) → n = 0 := fun h => Classical.byContradiction fun hc => hf (.inr (.inl ⟨h, hc⟩))
  have f3 : k ≠ 3 → l = [] := fun h => List.eq_nil_of_length_eq_zero (Nat.eq_zero_of_not_pos fun hc => hf (.inr (.inr (.inl ⟨h, hc⟩))))
  have f4 : k ≠ 3 → k ≠ 4 → b = [] := fun h h' => List.eq_nil_of_length_eq_zero (Nat.eq_zero_of_not_pos fun hc => hf (.inr (.inr (.inr (.inl ⟨h, h', hc⟩)))))
  have f5 : hasX k = false → emptyE e = true := fun h => by
    cases hq : emptyE e with
    | true => rfl
    | false => exact absurd (.inr (.inr (.inr (.inr (.inl ⟨h, hq⟩))))) hf
  have f6 : k = 2 → e.kind = 6 ∨ e.kind = 7 := fun h => Classical.byContradiction fun hc => hf (.inr (.inr (.inr (.inr (.inr ⟨h, fun h6 => hc (.inl h6), fun h7 => hc (.inr h7)⟩)))))
  clear hf h
  have hk : k = 0 ∨ k = 1 ∨ k = 2 ∨ k = 3 ∨ k = 4 ∨ k = 5 ∨ k = 6 := by omega
  rcases hk with rfl | rfl | rfl | rfl | rfl | rfl | rfl
  · obtain rfl := f2 (by decide); obtain rfl := f3 (by decide); obtain rfl := f4 (by decide) (by decide)
    exact .let_ s e (hs (by decide)) (hx rfl)
  · obtain rfl := f2 (by decide); obtain rfl := f3 (by decide); obtain rfl := f4 (by decide) (by decide)
    exact .set_ s e (hs (by decide)) (hx rfl)
  · obtain rfl := f1 (by decide); obtain rfl := f2 (by decide); obtain rfl := f3 (by decide); obtain rfl := f4 (by decide) (by decide)
    exact .do_ e (f6 rfl) (hx rfl)
  · obtain rfl := f1 (by decide); obtain rfl := f2 (by decide)
    exact .if_ e b l (hx rfl) hb hl
  · obtain rfl := f1 (by decide); obtain rfl := f3 (by decide); obtain rfl := empty_of (f5 rfl)
    exact .repeat_ n b hn (h64 rfl) hb
  · obtain rfl := f1 (by decide); obtain rfl := f2 (by decide); obtain rfl := f3 (by decide); obtain rfl := f4 (by decide) (by decide)
    exact .return_ e (hx rfl)
  · obtain rfl := f1 (by decide); obtain rfl := f3 (by decide); obtain rfl := f4 (by decide) (by decide); obtain rfl := empty_of (f5 rfl)
    exact .abort_ n hn
theorem lineT_len (d : Nat) (s : Str) : (lineT d s).length = d * 2 + s.length + 1 := by
  unfold lineT
  rw [List.length_append, List.length_append, Lib.repeatL_length]
  rfl
/-- The printer's state behind some calls: its text is l; block q holds X. -/
structure Pz (B b : Nat) (w : World) (q : Nat) (T : TypeId) (X : Array Value) (l : Str) (W : World) : Prop where
  pb : PB B b l W
  bl : Below B w W
  fr : Fr b w W
  sz : B ≤ W.heap.size
  bx : W.heap[q]? = some (.cells X T (0, 0))
  qb : q ≠ b
  ty : T ≠ 5
section
variable {B b : Nat} {w : World} {q : Nat} {T : TypeId} {X : Array Value} {l l' : Str} {W W' : World}
theorem Pz.next (h : Pz B b w q T X l W) (hb : Below W.heap.size W W') : Pz B b w q T X l W' :=
  ⟨h.pb.keep hb, h.bl.trans (hb.mono h.sz), h.fr.trans (Fr.of_below hb), Nat.le_trans h.sz hb.size, (hb.block q (lt_of_block h.bx)).trans h.bx, h.qb, h.ty⟩
theorem Pz.put (h : Pz B b w q T X l W) (hp : PB B b l' W') (hb : Below B W W') (hf : Fr b W W') : Pz B b w q T X l' W' :=
  ⟨hp, h.bl.trans hb, h.fr.trans hf, Nat.le_trans h.sz hb.size, hf.block q _ _ _ h.qb h.ty h.bx, h.qb, h.ty⟩
theorem Pz.drew (h : Pz B b w q T X l W) : Pz B b w q T X l W.drew := h.next (Below.refl _ _).drew
theorem Pz.drewN (h : Pz B b w q T X l W) (k : Nat) : Pz B b w q T X l (W.drewN k) := h.next ⟨rfl, rfl, rfl, Nat.le_refl _, fun _ _ => rfl⟩
theorem Pz.start (h : PB B b l w) (hB : B ≤ w.heap.size) (hT : T ≠ 5) : Pz B b w w.heap.size T X l (w.alloc (.cells X T)) :=
  have hb : Below w.heap.size w (w.alloc (.cells X T)) := (Below.refl _ _).alloc (Nat.le_refl _) _
  ⟨h.keep hb, hb.mono hB, Fr.of_below hb, Nat.le_trans hB hb.size, heap_alloc_new w _, Nat.ne_of_gt h.lt.2, hT⟩
end
def StmtAt (e : St) : Prop := ∀ (d : Nat) (D : Int) (w0 : World) (S : Nat → Prop) (cs : List Value) (B b : Nat) (l : Str) (w : World), D = (d : Int) → SxW w0 → chkS D e = 0 → e.size ≤ 100000 → l.length + (txS d e).length ≤ 800000000 → SV w0 S e cs → Below w0.heap.size w0 w → w0.heap.size ≤ B → B ≤ w.heap.size → PB B b l w →
  Calls Tryd.prog 45 #[.pointer (some ⟨b, 0, none⟩), .int .i64 D, .agg cs.toArray] w fun e' w' => e' = .returned (.tuple #[]) ∧ PB B b (l ++ txS d e) w' ∧ Below B w w' ∧ Fr b w w'
def AllAt (ls : List St) : Prop := ∀ (d : Nat) (D : Int) (w0 : World) (S : Nat → Prop) (A : Option Addr) (n c : Nat) (B b : Nat) (l : Str) (w : World), D = (d : Int) → SxW w0 → chkSs D ls = 0 → St.sizes ls ≤ 100000 → l.length + (txSs d ls).length ≤ 800000000 → SL w0 S A n c ls → Below w0.heap.size w0 w → w0.heap.size ≤ B → B ≤ w.heap.size → PB B b l w →
  Calls Tryd.prog 26 #[.pointer (some ⟨b, 0, none⟩), .int .i64 D, .slice A n c] w fun e' w' => e' = .returned (.tuple #[]) ∧ PB B b (l ++ txSs d ls) w' ∧ Below B w w' ∧ Fr b w w'
theorem txSs_take {d : Nat} {l : List St} {q : Nat} {x : St} (h : l[q]? = some x) : txSs d (l.take (q + 1)) = txSs d (l.take q) ++ txS d x := by
  induction l generalizing q with
  | nil => simp at h
  | cons e t ih =>
    cases q with
    | zero =>
      obtain rfl : e = x := by simpa using h
      simp [txSs]
    | succ q =>
      rw [List.take_succ_cons, List.take_succ_cons, txSs, txSs, ih (by simpa using h), List.append_assoc]
theorem txSs_take_len (d : Nat) (l : List St) (q : Nat) : (txSs d (l.take q)).length ≤ (txSs d l).length := by
  induction l generalizing q with
  | nil => simp
  | cons e t ih =>
    cases q with
    | zero => simp [txSs]
    | succ q =>
      rw [List.take_succ_cons, txSs, txSs, List.length_append, List.length_append]
      have := ih q
      omega
set_option maxRecDepth 100000 in
set_option maxHeartbeats 12800000 in
theorem allAt_of {ls : List St} (h : ∀ x ∈ ls, StmtAt x) : AllAt ls := by
  intro d D w0 S A n c B b l w hD hw hc hz hlen hl hB0 hwB hBw hp
  have HIN := Lib.hid h
  have HL := Lib.hid hl
  have HLN := Lib.hid hl.1.1
  have HWS := Lib.hid hw
  have HC := Lib.hid (chkSs_all hc)
  have HZ := Lib.hid hz
  have HB0 := Lib.hid hB0
  have HWB := Lib.hid hwB
  have HLE := Lib.hid hlen
  have HDD := Lib.hid hD
  have hn6 : (n : Int) ≤ 100000 := by have := hl.1.1; have := St.len_sizes ls; omega
  have z0 : PB B b (l ++ txSs d (ls.take 0)) w ∧ Below B w w ∧ Fr b w w ∧ B ≤ w.heap.size := ⟨by rw [List.take_zero, txSs, List.append_nil]; exact hp, Below.refl _ _, Fr.of_below (Below.refl _ _), hBw⟩
  have Z0 := Lib.hid z0
  clear h hl hw hc hz hlen hB0 hwB hBw hp z0 hD
  go_enter Tryd.func26, Tryd.ntmps26
  go_wp2_with fail
  go_loopw [10] (fun i wx => ∃ k : Nat, k ≤ ls.length ∧ i = .int .i64 k ∧ Hid (PB B b (l ++ txSs d (ls.take k)) wx ∧ Below B w wx ∧ Fr b w wx ∧ B ≤ wx.heap.size)) (fun i _ => ls.length - (intOf i).toNat)
  case atStart => exact ⟨0, Nat.zero_le _, rfl, Z0⟩
  case round =>
    clear Z0
    obtain ⟨k, hk, rfl, Z⟩ := hrel
    by_cases hlt : k < ls.length
    · have hi2 : (k : Int) < (n : Int) := by have := HLN.out; omega
      have hbase := HB0.out.trans (Z.out.2.1.mono HWB.out)
      obtain ⟨x, bq, off, cs, hx, rfl, hb, hS, hxv, hrow⟩ := HL.out.at k (by have := HLN.out; omega)
      have HQL := Lib.hid hlt
      have hmem := List.mem_of_getElem? hx
      have hbb := hbase.alloc hbase.size (.cells cs.toArray 46)
      have ha : Below wr.heap.size wr (wr.alloc (.cells cs.toArray 46)) := (Below.refl _ _).alloc (Nat.le_refl _) _
      have hlen2 : (l ++ txSs d (ls.take k)).length + (txS d x).length ≤ 800000000 := by
        have h1 := txSs_take_len d ls (k + 1)
        rw [txSs_take hx, List.length_append] at h1
        have := HLE.out
        rw [List.length_append]
        omega
      have HTX := Lib.hid (HIN.out x hmem d D w0 S cs B b _ _ HDD.out HWS.out (HC.out x hmem) (by have := St.sizes_mem hmem; have := HZ.out; omega) hlen2 hxv hbb HWB.out (Nat.le_trans Z.out.2.2.2 ha.size) (Z.out.1.keep ha))
      have HAL := Lib.hid ha
      have HSN := Lib.hid (show l ++ txSs d (ls.take (k + 1)) = (l ++ txSs d (ls.take k)) ++ txS d x by rw [txSs_take hx, List.append_assoc])
      have hrow2 := rangeAt_keep hrow (hbase.block bq hb)
      obtain ⟨xk, xs, xn, xe, xb, xl⟩ := x
      obtain ⟨ex, B2, nb2, cb2, L2, nl2, cl2, rfl, hex, -, -⟩ := hxv.open_
      obtain ⟨ek, en, es, em, ea, eo⟩ := xe
      obtain ⟨A2, na2, ca2, O2, no2, co2, rfl, -, -⟩ := hex.open_
      obtain ⟨e0, e1, e2, e3, e4, e5, e6, e7, e8, e9, e10⟩ := stC_at hrow2
      clear hx hb hS hxv hrow hrow2 hlt hmem hbb ha hlen2 hex hbase
      unfold stC exC at HTX HAL
      simp only [List.cons_append, List.nil_append] at HTX HAL
      go_wp2_with fail
      refine HTX.out.mono ?_
      rintro e wo ⟨rfl, hp2, hb2, hf2⟩
      have Z2 : Hid (PB B b (l ++ txSs d (ls.take (k + 1))) wo ∧ Below B w wo ∧ Fr b w wo ∧ B ≤ wo.heap.size) := Lib.hid ⟨by rw [HSN.out]; exact hp2, (Z.out.2.1.trans (HAL.out.mono Z.out.2.2.2)).trans hb2, (Z.out.2.2.1.trans (Fr.of_below HAL.out)).trans hf2, Nat.le_trans (Nat.le_trans Z.out.2.2.2 HAL.out.size) hb2.size⟩
      clear hp2 hb2 hf2 e0 e1 e2 e3 e4 e5 e6 e7 e8 e9 e10 HTX Z
      go_wp2
      go_roundw
      case rel => exact ⟨k + 1, HQL.out, by go_num, Z2⟩
      case measure => exact meas_up _ _ HQL.out
    · have hi2 : ¬ (k : Int) < (n : Int) := by have := HLN.out; omega
      have HF := Lib.hid (show ls.take k = ls from List.take_of_length_le (by omega))
      rw [HF.out] at Z
      clear hlt hk
      go_wp2
      go_end0
      exact ⟨rfl, Z.out.1, Z.out.2.1, Z.out.2.2.1⟩
end Go.Proofs.YthfjkdgaiaokdaaDoor
