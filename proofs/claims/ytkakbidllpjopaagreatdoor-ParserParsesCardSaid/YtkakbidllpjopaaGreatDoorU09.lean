/- The walk of the reference parser's unary. No condition beyond the state. The walk of the reference parser's binary. No condition beyond the state. The walk of the reference parser's args. No condition beyond the state. The reference parser's expressions, with fuel enough. No condition beyond the state. The walk of the reference parser's block. No condition beyond the state. The walk of the reference parser's branch. No condition beyond the state. -/
import Derived.Test.YtkakbidllpjopaaGreatDoorU08
set_option linter.unusedVariables false
set_option linter.unusedSimpArgs false
set_option maxRecDepth 100000
set_option maxHeartbeats 12800000
namespace Go.Proofs.YtkakbidllpjopaaGreatDoor
open Go.RowKit
/-- What unary answers, out of what its parts answer. -/
def uRes (R : List Tk) (PN PP PC : Res Ex) : Res Ex := if isT [110, 111, 116] R = true then PN.map fun e => .mk 3 0 [] [] [e] [] else if isT [45] R = true then PN.map fun e => .mk 4 0 [] [] [e] []
 else if kindT R = 2 then .ok (.mk 0 (numT (textT R)) [] [] [] []) R.tail
 else if isT [116, 114, 117, 101] R = true then .ok (.mk 1 1 [] [] [] []) R.tail
 else if isT [102, 97, 108, 115, 101] R = true then .ok (.mk 1 0 [] [] [] []) R.tail
 else if isT [40] R = true then pThen [41] PP
 else if isT [104, 111, 115, 116] R = true ∨ (kindT R = 1 /\ isT [46] R.tail = true) then PC
 else if kindT R = 1 then .ok (.mk 2 0 (textT R) [] [] []) R.tail else .bad R
theorem RR.map {α β : Type} {L : List Lx.Tok} {P : Res α} {x : α} {nx bd : Int} (h : RR L P x nx bd) (f : α -> β) : RR L (P.map f) (f x) nx bd := by
 cases P with
 | ok a r => obtain ⟨rfl, h⟩ := h; exact ⟨rfl, h⟩
 | bad r => exact h
theorem isT_ne {s t : Str} {R : List Tk} (h : isT s R = true) (e : s ≠ t) : isT t R = false := by
 rw [isT_val2] at h ⊢
 simp only [Bool.and_eq_true, beq_iff_eq] at h
 rw [h.2]
 have : (s == t) = false := by simpa using e
 rw [this, Bool.and_false]
theorem numT_in {s : Str} (h : Lx.numE s = 0) : InR (numT s) := by
 obtain ⟨-, h2, h3⟩ := num_parts h
 rw [h3]
 unfold InR
 omega
theorem runary_gen {L : List Lx.Tok} {tb tq n tc : Nat} (w : World) (i : Nat) (R : List Tk) (PN PP PC : Res Ex) (hs : RS L tb tq n tc w) (ha : AtR L i R)
  (hN : ∀ W j, j = i + 1 -> RS L tb tq n tc W -> isT [110, 111, 116] R = true ∨ isT [45] R = true -> AtR L j R.tail -> Calls Tryz.prog 73 #[.slice (some ⟨tb, tq, none⟩) n tc, .int .i64 j] W (RX L W PN))
  (hP : ∀ W j, j = i + 1 -> RS L tb tq n tc W -> isT [40] R = true -> AtR L j R.tail -> Calls Tryz.prog 42 #[.slice (some ⟨tb, tq, none⟩) n tc, .int .i64 j, .int .i64 0] W (RX L W PP))
  (hC : ∀ W, RS L tb tq n tc W -> isT [104, 111, 115, 116] R = true ∨ (kindT R = 1 /\ isT [46] R.tail = true) -> Calls Tryz.prog 92 #[.slice (some ⟨tb, tq, none⟩) n tc, .int .i64 i] W (RX L W PC)) :
  Calls Tryz.prog 73 #[.slice (some ⟨tb, tq, none⟩) n tc, .int .i64 i] w (RX L w (uRes R PN PP PC)) := by
 have HN := hI hN
 have HP0 := hI hP
 have HC := hI hC
 clear hN hP hC
 obtain ⟨j1, hj1⟩ : ∃ j, j = i + 1 := ⟨_, rfl⟩
 have WR1 : IntKind.i64.wrap ((i : Int) + 1) = (j1 : Int) := by rw [hj1]; exact hs.wrap ha 1 (by omega)
 have J1 := hI hj1
 have TK1 := hI (show AtK L j1 _ from by rw [hj1]; exact ha.k1)
 clear hj1
 have TK0 := hI ha.k
 have A0 := hI ha
 have EN := hI hs.ends
 obtain ⟨w00, hw00⟩ : ∃ W, W = w.alloc (.cells #[.int .i64 0, .int .i64 0, .string { data := #[] }, .string { data := #[] }, .slice none 0 0, .slice none 0 0] 54) := ⟨_, rfl⟩
 have hba : Below w.heap.size w w00 := by rw [hw00]; exact (Below.refl _ _).alloc (Nat.le_refl _) _
 have hsa : w00.heap.size = w.heap.size + 1 := by rw [hw00]; exact World.size_alloc ..
 obtain ⟨b00, off0, c00, c01, c02⟩ := (hs.below hba).cells TK0.out
 obtain ⟨w0, hw0⟩ : ∃ W, W = w00.alloc (.cells #[.int .i64 (kindT R), .string (bs (textT R)), .int .i64 off0] 93) := ⟨_, rfl⟩
 have hbb : Below w00.heap.size w00 w0 := by rw [hw0]; exact (Below.refl _ _).alloc (Nat.le_refl _) _
 have HSZ := hI (show w.heap.size < w0.heap.size from by rw [hw0, World.size_alloc]; omega)
 have X0 := hI (show HB 54 w0 w.heap.size #[.int .i64 0, .int .i64 0, .string { data := #[] }, .string { data := #[] }, .slice none 0 0, .slice none 0 0] from HB.below (by rw [hw00]; exact heap_alloc_new w _) hbb)
 have T0 := hI (show HB 93 w0 (w.heap.size + 1) #[.int .i64 (kindT R), .string (bs (textT R)), .int .i64 off0] from by rw [hw0, <- hsa]; exact heap_alloc_new w00 _)
 have B00 := hI (hba.trans (hbb.mono hba.size))
 have S0 := hI ((hs.below hba).below hbb)
 have B := hI (Below.refl w0.heap.size w0)
 rw [hw00] at c00 c01 c02
 rw [hw00] at hw0
 clear hs ha hba hbb hsa
 go_enter Tryz.func73, Tryz.ntmps73
 go_upto_region 2 with fail
 rw [<- hw0]
 clear hw0 c00 c01 c02 b00 hw00
 generalize w.heap.size + 1 = tbx at *
 have t0 : _ = some (Value.int .i64 (kindT R)) := (T0.out.below B.out).cell 0
 have t1 : _ = some (Value.string (bs (textT R))) := (T0.out.below B.out).cell 1
 have t2 : _ = some (Value.int .i64 off0) := (T0.out.below B.out).cell 2
 go_wp2_with fail
 refine (ris_any R _ [110, 111, 116] _).mono ?_
 rintro e wi0 ⟨rfl, hb⟩
 replace B := hI (B.out.trans (hb.mono B.out.size))
 clear hb
 clear t0 t1 t2
 cases hq : isT [110, 111, 116] R with
 | true =>
  have Q0 := hI hq
  have QM := hI (isT_ne (t := [45]) hq (by decide))
  clear hq
  have KX := hI (HN.out wi0 j1 J1.out (S0.out.below B.out) (.inl Q0.out) (show AtR L j1 R.tail from by rw [J1.out]; exact isT_next Q0.out A0.out EN.out))
  go_wp2_with fail
  refine KX.out.mono ?_
  rintro e w1 ⟨x1, cs, nx1, bd1, rfl, hv, hb, hr⟩
  obtain ⟨k1, n1, s1, m1, A1, na1, ca1, O1, no1, co1, rfl⟩ := hv.cells6
  rw [show (exC k1 n1 s1 m1 A1 na1 ca1 O1 no1 co1).toArray = #[.int .i64 k1, .int .i64 n1, .string (bs s1), .string (bs m1), .slice A1 na1 ca1, .slice O1 no1 co1] from rfl]
  obtain ⟨v1, hv1⟩ : ∃ W, W = w1.alloc (.cells #[.int .i64 k1, .int .i64 n1, .string (bs s1), .string (bs m1), .slice A1 na1 ca1, .slice O1 no1 co1] 54) := ⟨_, rfl⟩
  have hb2 : Below w1.heap.size w1 v1 := by rw [hv1]; exact (Below.refl _ _).alloc (Nat.le_refl _) _
  have HR1 := hI hr
  have YB1 := hI (show HB 54 v1 w1.heap.size #[.int .i64 k1, .int .i64 n1, .string (bs s1), .string (bs m1), .slice A1 na1 ca1, .slice O1 no1 co1] from by rw [hv1]; exact heap_alloc_new w1 _)
  have HO1 := hI (show w0.heap.size <= w1.heap.size from Nat.le_trans B.out.size hb.size)
  have V1 := hI ((hv.more (S' := fun k => w0.heap.size <= k) fun k _ hk => Nat.le_trans B.out.size hk).below hb2)
  replace B := hI (B.out.trans (hb.mono B.out.size))
  replace B := hI (B.out.trans (hb2.mono B.out.size))
  clear hv hb hr hb2 KX
  go_upto_region 4 with fail
  rw [<- hv1]
  clear hv1
  generalize w1.heap.size = yb1 at *
  have t0 : _ = some (Value.int .i64 (kindT R)) := (T0.out.below B.out).cell 0
  have t1 : _ = some (Value.string (bs (textT R))) := (T0.out.below B.out).cell 1
  have t2 : _ = some (Value.int .i64 off0) := (T0.out.below B.out).cell 2
  go_wp2_with fail
  refine (ris_any R _ [45] _).mono ?_
  rintro e wi7 ⟨rfl, hb⟩
  replace YB1 := hI (YB1.out.below hb)
  replace V1 := hI (V1.out.below hb)
  replace B := hI (B.out.trans (hb.mono B.out.size))
  clear hb t0 t1 t2
  rw [QM.out]
  go_wp2_with (with_reducible refine at_load_ (t := 54) ?_; refine Hid.out ?_)
  refine hI ?_
  refine wpList_load_row rfl _ _ rfl yb1 rfl _ _ _ _ YB1.out Tryz.underlying54 rfl rx_size ?_
  obtain ⟨wv, hwv⟩ : ∃ W, W = wi7.alloc (.cells #[.int .i64 k1, .int .i64 n1, .string (bs s1), .string (bs m1), .slice A1 na1 ca1, .slice O1 no1 co1] 54) := ⟨_, rfl⟩
  have hbv : Below wi7.heap.size wi7 wv := by rw [hwv]; exact (Below.refl _ _).alloc (Nat.le_refl _) _
  have hrv : HB 54 wv wi7.heap.size #[.int .i64 k1, .int .i64 n1, .string (bs s1), .string (bs m1), .slice A1 na1 ca1, .slice O1 no1 co1] := by rw [hwv]; exact heap_alloc_new wi7 _
  have VO := hI (XL.one (S := fun k => w0.heap.size <= k) (V1.out.below hbv) hrv B.out.size)
  replace B := hI (B.out.trans (hbv.mono B.out.size))
  clear hbv hrv V1 YB1
  have X := hI (X0.out.below B.out)
  go_wp2_with (with_reducible refine at_store_ (t := 54) ?_; refine Hid.out ?_)
  refine hI ?_
  rw [<- hwv]
  clear hwv
  generalize wi7.heap.size = ob at *
  refine hb_put rfl _ _ rfl rfl w.heap.size rfl rfl rx_size (by simp [Value.oneCell']) X.out rfl ?_
  intro wz hxz hgz hsz
  clear hsz
  have XZ := hI hxz
  have GZ := hI hgz
  have BZ := hI (bz_of B00.out B.out hgz)
  clear hxz hgz X
  go_wp2_with fail
  refine bodyPost_ret (results_row3 rfl _ _ w.heap.size _ _ _ _ rfl XZ.out Tryz.underlying54 rfl rx_size _ _ rfl rfl) rfl ?_
  exact ⟨.mk 3 0 [] [] [x1] [], _, _, _, rfl, XV.shut (by unfold InR; omega) (VO.out.gr (S' := fun b => w.heap.size <= b) GZ.out (fun b _ (hb : w0.heap.size <= b) => ⟨by have := HSZ.out; omega, by have := HSZ.out; omega⟩)) (XL.nil_ _ _), BZ.out, (by unfold uRes; rw [if_pos Q0.out]; exact HR1.out.map fun e => Ex.mk 3 0 [] [] [e] [])⟩
 | false =>
  have Q0 := hI hq
  clear hq
  have t0 : _ = some (Value.int .i64 (kindT R)) := (T0.out.below B.out).cell 0
  have t1 : _ = some (Value.string (bs (textT R))) := (T0.out.below B.out).cell 1
  have t2 : _ = some (Value.int .i64 off0) := (T0.out.below B.out).cell 2
  go_wp2_with fail
  refine (ris_any R _ [45] _).mono ?_
  rintro e wi1 ⟨rfl, hb⟩
  replace B := hI (B.out.trans (hb.mono B.out.size))
  clear hb
  clear t0 t1 t2
  cases hq : isT [45] R with
  | true =>
   have Q1 := hI hq
   clear hq
   have KX := hI (HN.out wi1 j1 J1.out (S0.out.below B.out) (.inr Q1.out) (show AtR L j1 R.tail from by rw [J1.out]; exact isT_next Q1.out A0.out EN.out))
   go_wp2_with fail
   refine KX.out.mono ?_
   rintro e w1 ⟨x1, cs, nx1, bd1, rfl, hv, hb, hr⟩
   obtain ⟨k1, n1, s1, m1, A1, na1, ca1, O1, no1, co1, rfl⟩ := hv.cells6
   rw [show (exC k1 n1 s1 m1 A1 na1 ca1 O1 no1 co1).toArray = #[.int .i64 k1, .int .i64 n1, .string (bs s1), .string (bs m1), .slice A1 na1 ca1, .slice O1 no1 co1] from rfl]
   obtain ⟨v1, hv1⟩ : ∃ W, W = w1.alloc (.cells #[.int .i64 k1, .int .i64 n1, .string (bs s1), .string (bs m1), .slice A1 na1 ca1, .slice O1 no1 co1] 54) := ⟨_, rfl⟩
   have hb2 : Below w1.heap.size w1 v1 := by rw [hv1]; exact (Below.refl _ _).alloc (Nat.le_refl _) _
   have HR1 := hI hr
   have YB1 := hI (show HB 54 v1 w1.heap.size #[.int .i64 k1, .int .i64 n1, .string (bs s1), .string (bs m1), .slice A1 na1 ca1, .slice O1 no1 co1] from by rw [hv1]; exact heap_alloc_new w1 _)
   have HO1 := hI (show w0.heap.size <= w1.heap.size from Nat.le_trans B.out.size hb.size)
   have V1 := hI ((hv.more (S' := fun k => w0.heap.size <= k) fun k _ hk => Nat.le_trans B.out.size hk).below hb2)
   replace B := hI (B.out.trans (hb.mono B.out.size))
   replace B := hI (B.out.trans (hb2.mono B.out.size))
   clear hv hb hr hb2 KX
   go_upto_region 4 with fail
   rw [<- hv1]
   clear hv1
   generalize w1.heap.size = yb1 at *
   have t0 : _ = some (Value.int .i64 (kindT R)) := (T0.out.below B.out).cell 0
   have t1 : _ = some (Value.string (bs (textT R))) := (T0.out.below B.out).cell 1
   have t2 : _ = some (Value.int .i64 off0) := (T0.out.below B.out).cell 2
   go_wp2_with fail
   refine (ris_any R _ [45] _).mono ?_
   rintro e wi7 ⟨rfl, hb⟩
   replace YB1 := hI (YB1.out.below hb)
   replace V1 := hI (V1.out.below hb)
   replace B := hI (B.out.trans (hb.mono B.out.size))
   clear hb t0 t1 t2
   rw [Q1.out]
   go_wp2_with (with_reducible refine at_load_ (t := 54) ?_; refine Hid.out ?_)
   refine hI ?_
   refine wpList_load_row rfl _ _ rfl yb1 rfl _ _ _ _ YB1.out Tryz.underlying54 rfl rx_size ?_
   obtain ⟨wv, hwv⟩ : ∃ W, W = wi7.alloc (.cells #[.int .i64 k1, .int .i64 n1, .string (bs s1), .string (bs m1), .slice A1 na1 ca1, .slice O1 no1 co1] 54) := ⟨_, rfl⟩
   have hbv : Below wi7.heap.size wi7 wv := by rw [hwv]; exact (Below.refl _ _).alloc (Nat.le_refl _) _
   have hrv : HB 54 wv wi7.heap.size #[.int .i64 k1, .int .i64 n1, .string (bs s1), .string (bs m1), .slice A1 na1 ca1, .slice O1 no1 co1] := by rw [hwv]; exact heap_alloc_new wi7 _
   have VO := hI (XL.one (S := fun k => w0.heap.size <= k) (V1.out.below hbv) hrv B.out.size)
   replace B := hI (B.out.trans (hbv.mono B.out.size))
   clear hbv hrv V1 YB1
   have X := hI (X0.out.below B.out)
   go_wp2_with (with_reducible refine at_store_ (t := 54) ?_; refine Hid.out ?_)
   refine hI ?_
   rw [<- hwv]
   clear hwv
   generalize wi7.heap.size = ob at *
   refine hb_put rfl _ _ rfl rfl w.heap.size rfl rfl rx_size (by simp [Value.oneCell']) X.out rfl ?_
   intro wz hxz hgz hsz
   clear hsz
   have XZ := hI hxz
   have GZ := hI hgz
   have BZ := hI (bz_of B00.out B.out hgz)
   clear hxz hgz X
   go_wp2_with fail
   refine bodyPost_ret (results_row3 rfl _ _ w.heap.size _ _ _ _ rfl XZ.out Tryz.underlying54 rfl rx_size _ _ rfl rfl) rfl ?_
   exact ⟨.mk 4 0 [] [] [x1] [], _, _, _, rfl, XV.shut (by unfold InR; omega) (VO.out.gr (S' := fun b => w.heap.size <= b) GZ.out (fun b _ (hb : w0.heap.size <= b) => ⟨by have := HSZ.out; omega, by have := HSZ.out; omega⟩)) (XL.nil_ _ _), BZ.out, (by unfold uRes; rw [if_neg (by rw [Q0.out]; decide), if_pos Q1.out]; exact HR1.out.map fun e => Ex.mk 4 0 [] [] [e] [])⟩
  | false =>
   have Q1 := hI hq
   clear hq
   by_cases hk : kindT R = 2
   ·have K2 := hI hk
    obtain ⟨n1, n2⟩ := S0.out.ok.num_at A0.out hk
    have KN := hI fun W => rnum_any (textT R) n1 W n2
    have HIN := hI (numT_in n1)
    have t0 : _ = some (Value.int .i64 (kindT R)) := (T0.out.below B.out).cell 0
    have t1 : _ = some (Value.string (bs (textT R))) := (T0.out.below B.out).cell 1
    have t2 : _ = some (Value.int .i64 off0) := (T0.out.below B.out).cell 2
    rw [hk] at t0
    clear hk n1 n2
    go_wp2_with fail
    refine (KN.out _).mono ?_
    rintro e wn ⟨rfl, rfl⟩
    clear KN t0 t1 t2
    have X := hI (X0.out.below B.out)
    go_wp2_with (with_reducible refine at_store_ (t := 54) ?_; refine Hid.out ?_)
    refine hI ?_
    refine hb_put rfl _ _ rfl rfl w.heap.size rfl rfl rx_size (by simp [Value.oneCell']) X.out rfl ?_
    intro wz hxz hgz hsz
    clear hsz
    have XZ := hI hxz
    have GZ := hI hgz
    have BZ := hI (bz_of B00.out B.out hgz)
    clear hxz hgz X
    go_wp2_with fail
    refine bodyPost_ret (results_row3 rfl _ _ w.heap.size _ _ _ _ rfl XZ.out Tryz.underlying54 rfl rx_size _ _ rfl rfl) rfl ?_
    exact ⟨.mk 0 (numT (textT R)) [] [] [] [], _, j1, -1, rfl, XV.shut HIN.out (XL.nil_ _ _) (XL.nil_ _ _), BZ.out, RR.ok_ (by unfold uRes; rw [if_neg (by rw [Q0.out]; decide), if_neg (by rw [Q1.out]; decide), if_pos K2.out]) (show AtR L j1 R.tail from by rw [J1.out]; exact kind_next K2.out (by decide) A0.out EN.out)⟩
   have K2 := hI hk
   have e1 : (kindT R == 2) = false := by simpa using hk
   have e2 : decide (kindT R = 2) = false := by simpa using hk
   clear hk
   have t0 : _ = some (Value.int .i64 (kindT R)) := (T0.out.below B.out).cell 0
   have t1 : _ = some (Value.string (bs (textT R))) := (T0.out.below B.out).cell 1
   have t2 : _ = some (Value.int .i64 off0) := (T0.out.below B.out).cell 2
   go_wp2_with fail
   refine (ris_any R _ [116, 114, 117, 101] _).mono ?_
   rintro e wi3 ⟨rfl, hb⟩
   replace B := hI (B.out.trans (hb.mono B.out.size))
   clear hb
   clear t0 t1 t2
   clear e1 e2
   cases hq : isT [116, 114, 117, 101] R with
   | true =>
    have Q3 := hI hq
    clear hq
    have X := hI (X0.out.below B.out)
    go_wp2_with (with_reducible refine at_store_ (t := 54) ?_; refine Hid.out ?_)
    refine hI ?_
    refine hb_put rfl _ _ rfl rfl w.heap.size rfl rfl rx_size (by simp [Value.oneCell']) X.out rfl ?_
    intro wz hxz hgz hsz
    clear hsz
    have XZ := hI hxz
    have GZ := hI hgz
    have BZ := hI (bz_of B00.out B.out hgz)
    clear hxz hgz X
    go_wp2_with fail
    refine bodyPost_ret (results_row3 rfl _ _ w.heap.size _ _ _ _ rfl XZ.out Tryz.underlying54 rfl rx_size _ _ rfl rfl) rfl ?_
    exact ⟨.mk 1 1 [] [] [] [], _, j1, -1, rfl, XV.shut (by unfold InR; omega) (XL.nil_ _ _) (XL.nil_ _ _), BZ.out, RR.ok_ (by unfold uRes; rw [if_neg (by rw [Q0.out]; decide), if_neg (by rw [Q1.out]; decide), if_neg K2.out, if_pos Q3.out]) (show AtR L j1 R.tail from by rw [J1.out]; exact isT_next Q3.out A0.out EN.out)⟩
   | false =>
    have Q3 := hI hq
    clear hq
    have t0 : _ = some (Value.int .i64 (kindT R)) := (T0.out.below B.out).cell 0
    have t1 : _ = some (Value.string (bs (textT R))) := (T0.out.below B.out).cell 1
    have t2 : _ = some (Value.int .i64 off0) := (T0.out.below B.out).cell 2
    go_wp2_with fail
    refine (ris_any R _ [102, 97, 108, 115, 101] _).mono ?_
    rintro e wi4 ⟨rfl, hb⟩
    replace B := hI (B.out.trans (hb.mono B.out.size))
    clear hb
    clear t0 t1 t2
    cases hq : isT [102, 97, 108, 115, 101] R with
    | true =>
     have Q4 := hI hq
     clear hq
     have X := hI (X0.out.below B.out)
     go_wp2_with (with_reducible refine at_store_ (t := 54) ?_; refine Hid.out ?_)
     refine hI ?_
     refine hb_put rfl _ _ rfl rfl w.heap.size rfl rfl rx_size (by simp [Value.oneCell']) X.out rfl ?_
     intro wz hxz hgz hsz
     clear hsz
     have XZ := hI hxz
     have GZ := hI hgz
     have BZ := hI (bz_of B00.out B.out hgz)
     clear hxz hgz X
     go_wp2_with fail
     refine bodyPost_ret (results_row3 rfl _ _ w.heap.size _ _ _ _ rfl XZ.out Tryz.underlying54 rfl rx_size _ _ rfl rfl) rfl ?_
     exact ⟨.mk 1 0 [] [] [] [], _, j1, -1, rfl, XV.shut (by unfold InR; omega) (XL.nil_ _ _) (XL.nil_ _ _), BZ.out, RR.ok_ (by unfold uRes; rw [if_neg (by rw [Q0.out]; decide), if_neg (by rw [Q1.out]; decide), if_neg K2.out, if_neg (by rw [Q3.out]; decide), if_pos Q4.out]) (show AtR L j1 R.tail from by rw [J1.out]; exact isT_next Q4.out A0.out EN.out)⟩
    | false =>
     have Q4 := hI hq
     clear hq
     have t0 : _ = some (Value.int .i64 (kindT R)) := (T0.out.below B.out).cell 0
     have t1 : _ = some (Value.string (bs (textT R))) := (T0.out.below B.out).cell 1
     have t2 : _ = some (Value.int .i64 off0) := (T0.out.below B.out).cell 2
     go_wp2_with fail
     refine (ris_any R _ [40] _).mono ?_
     rintro e wi5 ⟨rfl, hb⟩
     replace B := hI (B.out.trans (hb.mono B.out.size))
     clear hb
     clear t0 t1 t2
     cases hq : isT [40] R with
     | true =>
      have Q5 := hI hq
      clear hq
      have KX := hI (HP0.out wi5 j1 J1.out (S0.out.below B.out) Q5.out (show AtR L j1 R.tail from by rw [J1.out]; exact isT_next Q5.out A0.out EN.out))
      go_wp2_with fail
      refine KX.out.mono ?_
      rintro e w1 ⟨x1, cs, nx1, bd1, rfl, hv, hb, hr⟩
      obtain ⟨k1, n1, s1, m1, A1, na1, ca1, O1, no1, co1, rfl⟩ := hv.cells6
      rw [show (exC k1 n1 s1 m1 A1 na1 ca1 O1 no1 co1).toArray = #[.int .i64 k1, .int .i64 n1, .string (bs s1), .string (bs m1), .slice A1 na1 ca1, .slice O1 no1 co1] from rfl]
      obtain ⟨v1, hv1⟩ : ∃ W, W = w1.alloc (.cells #[.int .i64 k1, .int .i64 n1, .string (bs s1), .string (bs m1), .slice A1 na1 ca1, .slice O1 no1 co1] 54) := ⟨_, rfl⟩
      have hb2 : Below w1.heap.size w1 v1 := by rw [hv1]; exact (Below.refl _ _).alloc (Nat.le_refl _) _
      have HR1 := hI hr
      have YB1 := hI (show HB 54 v1 w1.heap.size #[.int .i64 k1, .int .i64 n1, .string (bs s1), .string (bs m1), .slice A1 na1 ca1, .slice O1 no1 co1] from by rw [hv1]; exact heap_alloc_new w1 _)
      have HO1 := hI (show w0.heap.size <= w1.heap.size from Nat.le_trans B.out.size hb.size)
      have V1 := hI ((hv.more (S' := fun k => w0.heap.size <= k) fun k _ hk => Nat.le_trans B.out.size hk).below hb2)
      replace B := hI (B.out.trans (hb.mono B.out.size))
      replace B := hI (B.out.trans (hb2.mono B.out.size))
      clear hv hb hr hb2 KX
      go_upto_region 16 with fail
      rw [<- hv1]
      clear hv1
      generalize w1.heap.size = yb1 at *
      rcases HR1.out.cases with ⟨r, j, hP, rfl, rfl, hA⟩ | ⟨r, j, hP, rfl, hA⟩
      ·have AR := hI hA
       have HP := hI hP
       clear hP hA HR1
       obtain ⟨jn, hjn⟩ : ∃ k, k = j + 1 := ⟨_, rfl⟩
       have Wjn : IntKind.i64.wrap ((j : Int) + 1) = (jn : Int) := by rw [hjn]; exact S0.out.wrap AR.out 1 (by omega)
       have Hjn := hI hjn
       clear hjn
       obtain ⟨b0z, off0z, c0z0, c0z1, c0z2⟩ := (S0.out.below B.out).cells AR.out.k
       go_wp2_with fail
       refine (ris_any r _ [41] _).mono ?_
       rintro e wi6 ⟨rfl, hb⟩
       replace YB1 := hI (YB1.out.below hb)
       replace V1 := hI (V1.out.below hb)
       replace B := hI (B.out.trans (hb.mono B.out.size))
       clear hb
       clear b0z c0z0 c0z1 c0z2
       cases hq : isT [41] r with
       | true =>
        have Q6 := hI hq
        clear hq
        go_wp2_with (with_reducible refine at_load_ (t := 54) ?_; refine Hid.out ?_)
        refine hI ?_
        refine wpList_load_row rfl _ _ rfl yb1 rfl _ _ _ _ YB1.out Tryz.underlying54 rfl rx_size ?_
        have X := hI (X0.out.below B.out)
        go_wp2_with (with_reducible refine at_store_ (t := 54) ?_; refine Hid.out ?_)
        refine hI ?_
        refine hb_put rfl _ _ rfl rfl w.heap.size rfl rfl rx_size (by simp [Value.oneCell']) X.out rfl ?_
        intro wz hxz hgz hsz
        clear hsz
        have XZ := hI hxz
        have GZ := hI hgz
        have BZ := hI (bz_of B00.out B.out hgz)
        clear hxz hgz X
        go_wp2_with fail
        refine bodyPost_ret (results_row3 rfl _ _ w.heap.size _ _ _ _ rfl XZ.out Tryz.underlying54 rfl rx_size _ _ rfl rfl) rfl ?_
        exact ⟨x1, _, jn, -1, rfl, (V1.out.gr (S' := fun b => w.heap.size <= b) GZ.out (fun b _ (hb : w0.heap.size <= b) => ⟨by have := HSZ.out; omega, by have := HSZ.out; omega⟩)), BZ.out, RR.ok_ (by unfold uRes; rw [if_neg (by rw [Q0.out]; decide), if_neg (by rw [Q1.out]; decide), if_neg K2.out, if_neg (by rw [Q3.out]; decide), if_neg (by rw [Q4.out]; decide), if_pos Q5.out, HP.out]; exact if_pos Q6.out) (by rw [Hjn.out]; exact isT_next Q6.out AR.out EN.out)⟩
       | false =>
        have Q6 := hI hq
        clear hq
        go_wp2_with (with_reducible refine at_load_ (t := 54) ?_; refine Hid.out ?_)
        refine hI ?_
        refine wpList_load_row rfl _ _ rfl yb1 rfl _ _ _ _ YB1.out Tryz.underlying54 rfl rx_size ?_
        have X := hI (X0.out.below B.out)
        go_wp2_with (with_reducible refine at_store_ (t := 54) ?_; refine Hid.out ?_)
        refine hI ?_
        refine hb_put rfl _ _ rfl rfl w.heap.size rfl rfl rx_size (by simp [Value.oneCell']) X.out rfl ?_
        intro wz hxz hgz hsz
        clear hsz
        have XZ := hI hxz
        have GZ := hI hgz
        have BZ := hI (bz_of B00.out B.out hgz)
        clear hxz hgz X
        go_wp2_with fail
        refine bodyPost_ret (results_row3 rfl _ _ w.heap.size _ _ _ _ rfl XZ.out Tryz.underlying54 rfl rx_size _ _ rfl rfl) rfl ?_
        exact ⟨x1, _, _, j, rfl, (V1.out.gr (S' := fun b => w.heap.size <= b) GZ.out (fun b _ (hb : w0.heap.size <= b) => ⟨by have := HSZ.out; omega, by have := HSZ.out; omega⟩)), BZ.out, RR.bad_ (by unfold uRes; rw [if_neg (by rw [Q0.out]; decide), if_neg (by rw [Q1.out]; decide), if_neg K2.out, if_neg (by rw [Q3.out]; decide), if_neg (by rw [Q4.out]; decide), if_pos Q5.out, HP.out]; exact if_neg (by rw [Q6.out]; decide)) AR.out⟩
      have AR := hI hA
      have HP := hI hP
      clear hP hA HR1
      have eb : ¬ ((j : Int) < 0) := by omega
      go_wp2_with (with_reducible refine at_load_ (t := 54) ?_; refine Hid.out ?_)
      refine hI ?_
      refine wpList_load_row rfl _ _ rfl yb1 rfl _ _ _ _ YB1.out Tryz.underlying54 rfl rx_size ?_
      have X := hI (X0.out.below B.out)
      go_wp2_with (with_reducible refine at_store_ (t := 54) ?_; refine Hid.out ?_)
      refine hI ?_
      refine hb_put rfl _ _ rfl rfl w.heap.size rfl rfl rx_size (by simp [Value.oneCell']) X.out rfl ?_
      intro wz hxz hgz hsz
      clear hsz
      have XZ := hI hxz
      have GZ := hI hgz
      have BZ := hI (bz_of B00.out B.out hgz)
      clear hxz hgz X
      go_wp2_with fail
      refine bodyPost_ret (results_row3 rfl _ _ w.heap.size _ _ _ _ rfl XZ.out Tryz.underlying54 rfl rx_size _ _ rfl rfl) rfl ?_
      exact ⟨x1, _, _, j, rfl, (V1.out.gr (S' := fun b => w.heap.size <= b) GZ.out (fun b _ (hb : w0.heap.size <= b) => ⟨by have := HSZ.out; omega, by have := HSZ.out; omega⟩)), BZ.out, RR.bad_ (by unfold uRes; rw [if_neg (by rw [Q0.out]; decide), if_neg (by rw [Q1.out]; decide), if_neg K2.out, if_neg (by rw [Q3.out]; decide), if_neg (by rw [Q4.out]; decide), if_pos Q5.out, HP.out]; rfl) AR.out⟩
     | false =>
      have Q5 := hI hq
      clear hq
      have t0 : _ = some (Value.int .i64 (kindT R)) := (T0.out.below B.out).cell 0
      have t1 : _ = some (Value.string (bs (textT R))) := (T0.out.below B.out).cell 1
      have t2 : _ = some (Value.int .i64 off0) := (T0.out.below B.out).cell 2
      go_wp2_with fail
      refine (ris_any R _ [104, 111, 115, 116] _).mono ?_
      rintro e wi8 ⟨rfl, hb⟩
      replace B := hI (B.out.trans (hb.mono B.out.size))
      clear hb
      clear t0 t1 t2
      cases hq : isT [104, 111, 115, 116] R with
      | true =>
       have Q8 := hI hq
       clear hq
       have KC := hI (HC.out wi8 (S0.out.below B.out) (.inl Q8.out))
       go_wp2_with fail
       refine KC.out.mono ?_
       rintro e w5 ⟨x1, cs, nx1, bd1, rfl, hv, hb, hr⟩
       obtain ⟨k1, n1, s1, m1, A1, na1, ca1, O1, no1, co1, rfl⟩ := hv.cells6
       rw [show (exC k1 n1 s1 m1 A1 na1 ca1 O1 no1 co1).toArray = #[.int .i64 k1, .int .i64 n1, .string (bs s1), .string (bs m1), .slice A1 na1 ca1, .slice O1 no1 co1] from rfl]
       have HR1 := hI hr
       have V1 := hI (hv.more (S' := fun k => w0.heap.size <= k) fun k _ hk => Nat.le_trans B.out.size hk)
       replace B := hI (B.out.trans (hb.mono B.out.size))
       clear hv hb hr KC
       have X := hI (X0.out.below B.out)
       go_wp2_with (with_reducible refine at_store_ (t := 54) ?_; refine Hid.out ?_)
       refine hI ?_
       refine hb_put rfl _ _ rfl rfl w.heap.size rfl rfl rx_size (by simp [Value.oneCell']) X.out rfl ?_
       intro wz hxz hgz hsz
       clear hsz
       have XZ := hI hxz
       have GZ := hI hgz
       have BZ := hI (bz_of B00.out B.out hgz)
       clear hxz hgz X
       go_wp2_with fail
       refine bodyPost_ret (results_row3 rfl _ _ w.heap.size _ _ _ _ rfl XZ.out Tryz.underlying54 rfl rx_size _ _ rfl rfl) rfl ?_
       exact ⟨x1, _, _, _, rfl, (V1.out.gr (S' := fun b => w.heap.size <= b) GZ.out (fun b _ (hb : w0.heap.size <= b) => ⟨by have := HSZ.out; omega, by have := HSZ.out; omega⟩)), BZ.out, (by unfold uRes; rw [if_neg (by rw [Q0.out]; decide), if_neg (by rw [Q1.out]; decide), if_neg K2.out, if_neg (by rw [Q3.out]; decide), if_neg (by rw [Q4.out]; decide), if_neg (by rw [Q5.out]; decide), if_pos (.inl Q8.out)]; exact HR1.out)⟩
      | false =>
       have Q8 := hI hq
       clear hq
       by_cases hk : kindT R = 1
       ·have K1 := hI hk
        have t0 : _ = some (Value.int .i64 (kindT R)) := (T0.out.below B.out).cell 0
        have t1 : _ = some (Value.string (bs (textT R))) := (T0.out.below B.out).cell 1
        have t2 : _ = some (Value.int .i64 off0) := (T0.out.below B.out).cell 2
        rw [hk] at t0
        clear hk
        obtain ⟨b1, off1, c10, c11, c12⟩ := (S0.out.below B.out).cells TK1.out
        go_wp2_with fail
        refine (ris_any R.tail _ [46] _).mono ?_
        rintro e wi9 ⟨rfl, hb⟩
        replace B := hI (B.out.trans (hb.mono B.out.size))
        clear hb
        clear b1 c10 c11 c12
        clear t0 t1 t2
        cases hq : isT [46] R.tail with
        | true =>
         have Q9 := hI hq
         clear hq
         have KC := hI (HC.out wi9 (S0.out.below B.out) (.inr ⟨K1.out, Q9.out⟩))
         go_wp2_with fail
         refine KC.out.mono ?_
         rintro e w5 ⟨x1, cs, nx1, bd1, rfl, hv, hb, hr⟩
         obtain ⟨k1, n1, s1, m1, A1, na1, ca1, O1, no1, co1, rfl⟩ := hv.cells6
         rw [show (exC k1 n1 s1 m1 A1 na1 ca1 O1 no1 co1).toArray = #[.int .i64 k1, .int .i64 n1, .string (bs s1), .string (bs m1), .slice A1 na1 ca1, .slice O1 no1 co1] from rfl]
         have HR1 := hI hr
         have V1 := hI (hv.more (S' := fun k => w0.heap.size <= k) fun k _ hk => Nat.le_trans B.out.size hk)
         replace B := hI (B.out.trans (hb.mono B.out.size))
         clear hv hb hr KC
         have X := hI (X0.out.below B.out)
         go_wp2_with (with_reducible refine at_store_ (t := 54) ?_; refine Hid.out ?_)
         refine hI ?_
         refine hb_put rfl _ _ rfl rfl w.heap.size rfl rfl rx_size (by simp [Value.oneCell']) X.out rfl ?_
         intro wz hxz hgz hsz
         clear hsz
         have XZ := hI hxz
         have GZ := hI hgz
         have BZ := hI (bz_of B00.out B.out hgz)
         clear hxz hgz X
         go_wp2_with fail
         refine bodyPost_ret (results_row3 rfl _ _ w.heap.size _ _ _ _ rfl XZ.out Tryz.underlying54 rfl rx_size _ _ rfl rfl) rfl ?_
         exact ⟨x1, _, _, _, rfl, (V1.out.gr (S' := fun b => w.heap.size <= b) GZ.out (fun b _ (hb : w0.heap.size <= b) => ⟨by have := HSZ.out; omega, by have := HSZ.out; omega⟩)), BZ.out, (by unfold uRes; rw [if_neg (by rw [Q0.out]; decide), if_neg (by rw [Q1.out]; decide), if_neg K2.out, if_neg (by rw [Q3.out]; decide), if_neg (by rw [Q4.out]; decide), if_neg (by rw [Q5.out]; decide), if_pos (.inr ⟨K1.out, Q9.out⟩)]; exact HR1.out)⟩
        | false =>
         have Q9 := hI hq
         clear hq
         have t0 : _ = some (Value.int .i64 (kindT R)) := (T0.out.below B.out).cell 0
         have t1 : _ = some (Value.string (bs (textT R))) := (T0.out.below B.out).cell 1
         have t2 : _ = some (Value.int .i64 off0) := (T0.out.below B.out).cell 2
         rw [K1.out] at t0
         have X := hI (X0.out.below B.out)
         go_wp2_with (with_reducible refine at_store_ (t := 54) ?_; refine Hid.out ?_)
         refine hI ?_
         refine hb_put rfl _ _ rfl rfl w.heap.size rfl rfl rx_size (by simp [Value.oneCell']) X.out rfl ?_
         intro wz hxz hgz hsz
         clear hsz
         have XZ := hI hxz
         have GZ := hI hgz
         have BZ := hI (bz_of B00.out B.out hgz)
         clear hxz hgz X
         go_wp2_with fail
         refine bodyPost_ret (results_row3 rfl _ _ w.heap.size _ _ _ _ rfl XZ.out Tryz.underlying54 rfl rx_size _ _ rfl rfl) rfl ?_
         exact ⟨.mk 2 0 (textT R) [] [] [], _, j1, -1, rfl, XV.shut (by unfold InR; omega) (XL.nil_ _ _) (XL.nil_ _ _), BZ.out, RR.ok_ (by unfold uRes; rw [if_neg (by rw [Q0.out]; decide), if_neg (by rw [Q1.out]; decide), if_neg K2.out, if_neg (by rw [Q3.out]; decide), if_neg (by rw [Q4.out]; decide), if_neg (by rw [Q5.out]; decide), if_neg (fun h => h.elim (fun h => by rw [Q8.out] at h; cases h) fun h => by rw [Q9.out] at h; cases h.2), if_pos K1.out]) (show AtR L j1 R.tail from by rw [J1.out]; exact kind_next K1.out (by decide) A0.out EN.out)⟩
       have K1 := hI hk
       have e1 : (kindT R == 1) = false := by simpa using hk
       have e2 : decide (kindT R = 1) = false := by simpa using hk
       clear hk
       have t0 : _ = some (Value.int .i64 (kindT R)) := (T0.out.below B.out).cell 0
       have t1 : _ = some (Value.string (bs (textT R))) := (T0.out.below B.out).cell 1
       have t2 : _ = some (Value.int .i64 off0) := (T0.out.below B.out).cell 2
       have X := hI (X0.out.below B.out)
       go_wp2_with (with_reducible refine at_store_ (t := 54) ?_; refine Hid.out ?_)
       refine hI ?_
       refine hb_put rfl _ _ rfl rfl w.heap.size rfl rfl rx_size (by simp [Value.oneCell']) X.out rfl ?_
       intro wz hxz hgz hsz
       clear hsz
       have XZ := hI hxz
       have GZ := hI hgz
       have BZ := hI (bz_of B00.out B.out hgz)
       clear hxz hgz X
       go_wp2_with fail
       refine bodyPost_ret (results_row3 rfl _ _ w.heap.size _ _ _ _ rfl XZ.out Tryz.underlying54 rfl rx_size _ _ rfl rfl) rfl ?_
       exact ⟨emE, _, _, i, rfl, xve _ _, BZ.out, RR.bad_ (by unfold uRes; rw [if_neg (by rw [Q0.out]; decide), if_neg (by rw [Q1.out]; decide), if_neg K2.out, if_neg (by rw [Q3.out]; decide), if_neg (by rw [Q4.out]; decide), if_neg (by rw [Q5.out]; decide), if_neg (fun h => h.elim (fun h => by rw [Q8.out] at h; cases h) fun h => K1.out h.1), if_neg K1.out]) A0.out⟩
open Go.RowKit
theorem pB_open (f lv : Nat) (h : lv < 5) (R : List Tk) : pB (f + 1) lv R = match pB f (lv + 1) R with
  | .bad r => .bad r
  | .ok a r => pC f lv a r := by rw [pB, if_neg (by omega)]; rfl
theorem pB_five (f : Nat) (R : List Tk) : pB (f + 1) 5 R = pU f R := by rw [pB, if_pos (by omega)]
theorem pB_len {f lv : Nat} {R r : List Tk} {x : Ex} (h : pB f lv R = .ok x r) : r.length <= R.length := suf_len ((suf_of ((suf_parts f).1 lv R)).1 _ _ h)
theorem opAt_kind {lv : Nat} {R : List Tk} (h : opAt lv R = true) : kindT R ≠ 0 := by
 cases R with
 | nil => unfold opAt at h; cases h
 | cons t r =>
  unfold opAt at h
  simp only [Bool.and_eq_true, Bool.or_eq_true, beq_iff_eq] at h
  rcases h.1 with e | e <;> (show t.1 ≠ 0; rw [e]; decide)
theorem rbinary_gen {L : List Lx.Tok} {tb tq n tc : Nat} (w : World) (i : Nat) (R : List Tk) (lv f : Nat) (hlv : lv < 5) (hs : RS L tb tq n tc w) (ha : AtR L i R)
  (hB : ∀ f', f' < f -> ∀ W j R', 8 * R'.length + 2 + (4 - lv) <= f' -> RS L tb tq n tc W -> AtR L j R' -> Calls Tryz.prog 42 #[.slice (some ⟨tb, tq, none⟩) n tc, .int .i64 j, .int .i64 ((lv + 1 : Nat) : Int)] W (RX L W (pB f' (lv + 1) R')))
  (hf : 8 * R.length + 2 + (5 - lv) <= f) :
  Calls Tryz.prog 42 #[.slice (some ⟨tb, tq, none⟩) n tc, .int .i64 i, .int .i64 lv] w (RX L w (pB f lv R)) := by
 obtain ⟨PZ, hPZ⟩ : ∃ P, P = pB f lv R := ⟨_, rfl⟩
 rw [<- hPZ]
 have HPZ := hI hPZ
 have HBI := hI hB
 have HF := hI hf
 clear hPZ hB hf
 obtain ⟨l1, hl1⟩ : ∃ z, z = lv + 1 := ⟨_, rfl⟩
 have WL : IntKind.i64.wrap ((lv : Int) + 1) = (l1 : Int) := by rw [hl1]; exact wrap_nat lv 1 (by omega)
 have L1 := hI hl1
 have e5 : ((lv : Int) == 5) = false := by simp; omega
 have d5 : decide ((lv : Int) = 5) = false := by simp; omega
 have HLV := hI hlv
 clear hl1 hlv
 have TK0 := hI ha.k
 have A0 := hI ha
 have EN := hI hs.ends
 obtain ⟨w0, hw0⟩ : ∃ W, W = w.alloc (.cells #[.int .i64 0, .int .i64 0, .string { data := #[] }, .string { data := #[] }, .slice none 0 0, .slice none 0 0] 54) := ⟨_, rfl⟩
 have hb : Below w.heap.size w w0 := by rw [hw0]; exact (Below.refl _ _).alloc (Nat.le_refl _) _
 have HSZ := hI (show w.heap.size < w0.heap.size from by rw [hw0, World.size_alloc]; omega)
 have X0 := hI (show HB 54 w0 w.heap.size #[.int .i64 0, .int .i64 0, .string { data := #[] }, .string { data := #[] }, .slice none 0 0, .slice none 0 0] from by rw [hw0]; exact heap_alloc_new w _)
 have B00 := hI hb
 have S0 := hI (hs.below hb)
 have B := hI (Below.refl w0.heap.size w0)
 clear hb hs ha
 go_enter Tryz.func42, Tryz.ntmps42
 go_upto_region 1 with fail
 rw [<- hw0]
 clear hw0
 obtain ⟨f0, hf0⟩ : ∃ f0, f = f0 + 1 := ⟨f - 1, by have := HF.out; omega⟩
 have F0 := hI hf0
 clear hf0
 have KX := hI ((by rw [L1.out]; exact HBI.out f0 (by have := F0.out; omega) w0 i R (by have := F0.out; have := HF.out; have := HLV.out; omega) S0.out A0.out : Calls Tryz.prog 42 #[.slice (some ⟨tb, tq, none⟩) n tc, .int .i64 i, .int .i64 l1] w0 (RX L w0 (pB f0 (lv + 1) R))))
 go_wp2_with fail
 refine KX.out.mono ?_
 rintro e w1 ⟨x1, cs, nx1, bd1, rfl, hv, hb, hr⟩
 obtain ⟨k1, n1, s1, m1, A1, na1, ca1, O1, no1, co1, rfl⟩ := hv.cells6
 rw [show (exC k1 n1 s1 m1 A1 na1 ca1 O1 no1 co1).toArray = #[.int .i64 k1, .int .i64 n1, .string (bs s1), .string (bs m1), .slice A1 na1 ca1, .slice O1 no1 co1] from rfl]
 obtain ⟨v1, hv1⟩ : ∃ W, W = w1.alloc (.cells #[.int .i64 k1, .int .i64 n1, .string (bs s1), .string (bs m1), .slice A1 na1 ca1, .slice O1 no1 co1] 54) := ⟨_, rfl⟩
 have hb2 : Below w1.heap.size w1 v1 := by rw [hv1]; exact (Below.refl _ _).alloc (Nat.le_refl _) _
 have HR1 := hI hr
 have YB1 := hI (show HB 54 v1 w1.heap.size #[.int .i64 k1, .int .i64 n1, .string (bs s1), .string (bs m1), .slice A1 na1 ca1, .slice O1 no1 co1] from by rw [hv1]; exact heap_alloc_new w1 _)
 have HO1 := hI (show w0.heap.size <= w1.heap.size from Nat.le_trans B.out.size hb.size)
 have V1 := hI ((hv.more (S' := fun k => w0.heap.size <= k /\ k ≠ w1.heap.size) fun k hk2 hk => ⟨Nat.le_trans B.out.size hk, by omega⟩).below hb2)
 replace B := hI (B.out.trans (hb.mono B.out.size))
 replace B := hI (B.out.trans (hb2.mono B.out.size))
 clear hv hb hr hb2 KX
 go_upto_region 4 with fail
 rw [<- hv1]
 clear hv1
 generalize w1.heap.size = ab1 at *
 rcases HR1.out.cases with ⟨r, j, hP, rfl, rfl, hA⟩ | ⟨r, j, hP, rfl, hA⟩
 ·have AR := hI hA
  have HP := hI hP
  clear hP hA HR1 e5 d5
  have HZ := hI (show PZ = pC f0 lv x1 r from by rw [HPZ.out, F0.out, pB_open f0 lv HLV.out, HP.out])
  have HLN := hI (pB_len HP.out)
  go_wp2_with fail
  go_loopw [10] (fun v10 wr => ∃ (j : Nat) (r : List Tk) (a : Ex) (cs : List Value) (f1 : Nat), v10 = .int .i64 j /\ AtR L j r /\ HB 54 wr ab1 cs.toArray /\ XV wr (fun k => w0.heap.size <= k /\ k ≠ ab1) a cs /\ Below w0.heap.size w0 wr /\ (8 * r.length + 1 <= f1 /\ f1 < f) /\ PZ = pC f1 lv a r) (fun v10 _ => L.length - (intOf v10).toNat)
  case atStart => exact ⟨j, r, x1, _, f0, rfl, AR.out, YB1.out, V1.out, B.out, ⟨by have := HF.out; have := F0.out; have := HLN.out; have := HLV.out; omega, by have := F0.out; omega⟩, HZ.out⟩
  case round =>
   clear AR YB1 V1 B HZ HLN HP
   obtain ⟨j, r, a, cs, f1, rfl, hA, hY, hv, hb, hf, hz⟩ := hrel
   obtain ⟨k0, n0, s0, m0, A9, na0, ca0, O0, no0, co0, rfl⟩ := hv.cells6
   rw [show (exC k0 n0 s0 m0 A9 na0 ca0 O0 no0 co0).toArray = #[.int .i64 k0, .int .i64 n0, .string (bs s0), .string (bs m0), .slice A9 na0 ca0, .slice O0 no0 co0] from rfl] at hY
   have AR := hI hA
   have YB := hI hY
   have V := hI hv
   have B := hI hb
   have HF1 := hI hf
   have HZ := hI hz
   clear hA hY hv hb hf hz
   obtain ⟨b0, off0, c00, c01, c02⟩ := (S0.out.below B.out).cells AR.out.k
   go_wp2_with fail
   refine (rlevel_any r _ _).mono ?_
   rintro e wl ⟨rfl, hb⟩
   replace YB := hI (YB.out.below hb)
   replace V := hI (V.out.below hb)
   replace B := hI (B.out.trans (hb.mono B.out.size))
   clear hb
   clear b0 c00 c01 c02
   by_cases hop : lvT r = (lv : Int)
   ·have OP := hI ((lvT_eq lv HLV.out r).1 hop)
    rw [hop]
    clear hop
    obtain ⟨sn, hsn⟩ : ∃ z, z = textT r := ⟨_, rfl⟩
    have SN := hI hsn
    obtain ⟨jn, hjn⟩ : ∃ k, k = j + 1 := ⟨_, rfl⟩
    have Wjn : IntKind.i64.wrap ((j : Int) + 1) = (jn : Int) := by rw [hjn]; exact S0.out.wrap AR.out 1 (by omega)
    have Hjn := hI hjn
    clear hjn
    obtain ⟨b0, off0, c00, c01, c02⟩ := (S0.out.below B.out).cells AR.out.k
    rw [<- hsn] at c01
    clear hsn
    obtain ⟨f2, hf2⟩ : ∃ f2, f1 = f2 + 1 := ⟨f1 - 1, by have := HF1.out.1; have := opAt_len OP.out; omega⟩
    have F2 := hI hf2
    clear hf2
    have ATN := hI (show AtR L jn r.tail from by rw [Hjn.out]; exact AR.out.next EN.out (opAt_kind OP.out))
    have HZ2 := hI (show PZ = _ from by rw [HZ.out, F2.out, pC, if_pos OP.out, <- SN.out])
    have KX := hI ((by rw [L1.out]; exact HBI.out f2 (by have := F2.out; have := HF1.out.2; omega) wl jn r.tail (by have := F2.out; have := HF1.out.1; have := opAt_len OP.out; omega) (S0.out.below B.out) ATN.out : Calls Tryz.prog 42 #[.slice (some ⟨tb, tq, none⟩) n tc, .int .i64 jn, .int .i64 l1] wl (RX L wl (pB f2 (lv + 1) r.tail))))
    go_wp2_with fail
    refine KX.out.mono ?_
    rintro e w2 ⟨x2, cs, nx2, bd2, rfl, hv, hb, hr⟩
    obtain ⟨k2, n2, s2, m2, A2, na2, ca2, O2, no2, co2, rfl⟩ := hv.cells6
    rw [show (exC k2 n2 s2 m2 A2 na2 ca2 O2 no2 co2).toArray = #[.int .i64 k2, .int .i64 n2, .string (bs s2), .string (bs m2), .slice A2 na2 ca2, .slice O2 no2 co2] from rfl]
    obtain ⟨v2, hv2⟩ : ∃ W, W = w2.alloc (.cells #[.int .i64 k2, .int .i64 n2, .string (bs s2), .string (bs m2), .slice A2 na2 ca2, .slice O2 no2 co2] 54) := ⟨_, rfl⟩
    have hb2 : Below w2.heap.size w2 v2 := by rw [hv2]; exact (Below.refl _ _).alloc (Nat.le_refl _) _
    have HR2 := hI hr
    have YB2 := hI (show HB 54 v2 w2.heap.size #[.int .i64 k2, .int .i64 n2, .string (bs s2), .string (bs m2), .slice A2 na2 ca2, .slice O2 no2 co2] from by rw [hv2]; exact heap_alloc_new w2 _)
    have HO2 := hI (show w0.heap.size <= w2.heap.size from Nat.le_trans B.out.size hb.size)
    have V2 := hI ((hv.more (S' := fun k => w0.heap.size <= k /\ k ≠ ab1) fun k _ hk => ⟨Nat.le_trans B.out.size hk, fun e => by have := YB.out.lt; omega⟩).below hb2)
    replace YB := hI (YB.out.below hb)
    replace V := hI (V.out.below hb)
    replace B := hI (B.out.trans (hb.mono B.out.size))
    replace YB := hI (YB.out.below hb2)
    replace V := hI (V.out.below hb2)
    replace B := hI (B.out.trans (hb2.mono B.out.size))
    clear hv hb hr hb2 KX
    go_upto_region 7 with fail
    rw [<- hv2]
    clear hv2
    generalize w2.heap.size = yb2 at *
    rcases HR2.out.cases with ⟨r', j', hP', rfl, rfl, hA'⟩ | ⟨r', j', hP', rfl, hA'⟩
    ·have AR2 := hI hA'
     have HP2 := hI hP'
     clear hP' hA' HR2 b0 c00 c01 c02
     have HB2 := hI (show ab1 < v2.heap.size from YB.out.lt)
     go_wp2_with (with_reducible refine at_load_ (t := 54) ?_; refine Hid.out ?_)
     refine hI ?_
     refine wpList_load_row rfl _ _ rfl ab1 rfl _ _ _ _ YB.out Tryz.underlying54 rfl rx_size ?_
     go_wp2_with (with_reducible refine at_load_ (t := 54) ?_; refine Hid.out ?_)
     refine hI ?_
     refine wpList_load_row rfl _ _ rfl yb2 rfl _ _ _ _ YB2.out Tryz.underlying54 rfl rx_size ?_
     obtain ⟨wv, hwv⟩ : ∃ W, W = v2.alloc (.cells #[.int .i64 k0, .int .i64 n0, .string (bs s0), .string (bs m0), .slice A9 na0 ca0, .slice O0 no0 co0, .int .i64 k2, .int .i64 n2, .string (bs s2), .string (bs m2), .slice A2 na2 ca2, .slice O2 no2 co2] 54) := ⟨_, rfl⟩
     have hbv : Below v2.heap.size v2 wv := by rw [hwv]; exact (Below.refl _ _).alloc (Nat.le_refl _) _
     have hrv : wv.heap[v2.heap.size]? = some (.cells #[.int .i64 k0, .int .i64 n0, .string (bs s0), .string (bs m0), .slice A9 na0 ca0, .slice O0 no0 co0, .int .i64 k2, .int .i64 n2, .string (bs s2), .string (bs m2), .slice A2 na2 ca2, .slice O2 no2 co2] 54 (0, 0)) := by rw [hwv]; exact heap_alloc_new v2 _
     have VT := hI (XL.two (S := fun k => w0.heap.size <= k /\ k ≠ ab1) (V.out.below hbv) (V2.out.below hbv) hrv ⟨B.out.size, by have := HB2.out; omega⟩)
     have hs5 := B.out.size
     replace YB := hI (YB.out.below hbv)
     replace B := hI (B.out.trans (hbv.mono B.out.size))
     clear hbv hrv V V2 YB2
     go_wp2_with (with_reducible refine at_store_ (t := 54) ?_; refine Hid.out ?_)
     refine hI ?_
     rw [<- hwv]
     clear hwv
     refine hb_put rfl _ _ rfl rfl ab1 rfl rfl rx_size (by simp [Value.oneCell']) YB.out rfl ?_
     intro wz hxz hgz hsz
     clear hsz hs5
     generalize v2.heap.size = ob at *
     obtain h0 := B.out
     clear B
     have B := hI (h0.trans (below_gr hgz h0.size HO1.out))
     have YZ := hI hxz
     have VZ := hI (VT.out.gr (S' := fun k => w0.heap.size <= k /\ k ≠ ab1) hgz (fun b _ hb => ⟨hb.2, hb⟩))
     clear hxz hgz h0 VT YB
     go_wp2_with fail
     go_roundw
     case rel => exact ⟨j', r', .mk 5 0 [] sn [a, x2] [], exC 5 0 [] sn (some ⟨ob, 0, none⟩) 2 2 none 0 0, f2, rfl, AR2.out, YZ.out, XV.shut (by unfold InR; omega) VZ.out (XL.nil_ _ _), B.out, ⟨by have := pB_len HP2.out; have := opAt_len OP.out; have := HF1.out; have := F2.out; omega, by have := HF1.out; have := F2.out; omega⟩, by rw [HZ2.out, HP2.out]⟩
     case measure =>
      have e1 := AR.out.len
      have e2 := AR2.out.len
      have e3 := pB_len HP2.out
      have e4 := opAt_len OP.out
      have e5 := AR.out.lt
      show L.length - (j' : Int).toNat < L.length - (j : Int).toNat
      omega
    have AR2 := hI hA'
    have HP2 := hI hP'
    clear hP' hA' HR2 b0 c00 c01 c02
    have eb2 : (0 : Int) <= (j' : Int) := by omega
    go_wp2_with (with_reducible refine at_load_ (t := 54) ?_; refine Hid.out ?_)
    refine hI ?_
    refine wpList_load_row rfl _ _ rfl ab1 rfl _ _ _ _ YB.out Tryz.underlying54 rfl rx_size ?_
    have X := hI (X0.out.below B.out)
    go_wp2_with (with_reducible refine at_store_ (t := 54) ?_; refine Hid.out ?_)
    refine hI ?_
    refine hb_put rfl _ _ rfl rfl w.heap.size rfl rfl rx_size (by simp [Value.oneCell']) X.out rfl ?_
    intro wz hxz hgz hsz
    clear hsz
    have XZ := hI hxz
    have GZ := hI hgz
    have BZ := hI (bz_of B00.out B.out hgz)
    clear hxz hgz X
    go_wp2_with fail
    refine bodyPost_ret (results_row3 rfl _ _ w.heap.size _ _ _ _ rfl XZ.out Tryz.underlying54 rfl rx_size _ _ rfl rfl) rfl ?_
    exact ⟨a, _, _, j', rfl, (V.out.gr (S' := fun b => w.heap.size <= b) GZ.out (fun b _ (hb : w0.heap.size <= b /\ b ≠ ab1) => ⟨by have := HSZ.out; omega, by have := HSZ.out; omega⟩)), BZ.out, RR.bad_ (by rw [HZ2.out, HP2.out]) AR2.out⟩
   have NOP := hI (show ¬ opAt lv r = true from fun e => hop ((lvT_eq lv HLV.out r).2 e))
   have g1 : (lvT r == (lv : Int)) = false := by simpa using hop
   have g2 : decide (lvT r = (lv : Int)) = false := by simpa using hop
   clear hop
   obtain ⟨f2, hf2⟩ : ∃ f2, f1 = f2 + 1 := ⟨f1 - 1, by have := HF1.out.1; omega⟩
   have F2 := hI hf2
   clear hf2
   go_wp2_with (with_reducible refine at_load_ (t := 54) ?_; refine Hid.out ?_)
   refine hI ?_
   refine wpList_load_row rfl _ _ rfl ab1 rfl _ _ _ _ YB.out Tryz.underlying54 rfl rx_size ?_
   have X := hI (X0.out.below B.out)
   go_wp2_with (with_reducible refine at_store_ (t := 54) ?_; refine Hid.out ?_)
   refine hI ?_
   refine hb_put rfl _ _ rfl rfl w.heap.size rfl rfl rx_size (by simp [Value.oneCell']) X.out rfl ?_
   intro wz hxz hgz hsz
   clear hsz
   have XZ := hI hxz
   have GZ := hI hgz
   have BZ := hI (bz_of B00.out B.out hgz)
   clear hxz hgz X
   go_wp2_with fail
   refine bodyPost_ret (results_row3 rfl _ _ w.heap.size _ _ _ _ rfl XZ.out Tryz.underlying54 rfl rx_size _ _ rfl rfl) rfl ?_
   exact ⟨a, _, _, _, rfl, (V.out.gr (S' := fun b => w.heap.size <= b) GZ.out (fun b _ (hb : w0.heap.size <= b /\ b ≠ ab1) => ⟨by have := HSZ.out; omega, by have := HSZ.out; omega⟩)), BZ.out, RR.ok_ (by rw [HZ.out, F2.out, pC, if_neg NOP.out]) AR.out⟩
 have AR := hI hA
 have HP := hI hP
 clear hP hA HR1 e5 d5
 have HZ := hI (show PZ = .bad r from by rw [HPZ.out, F0.out, pB_open f0 lv HLV.out, HP.out])
 have eb : ¬ ((j : Int) < 0) := by omega
 go_wp2_with fail
 go_loopw [10] (fun v10 wr => v10 = .int .i64 nx1 /\ wr = v1) (fun _ _ => 0)
 case atStart => exact ⟨rfl, rfl⟩
 case round =>
  obtain ⟨rfl, rfl⟩ := hrel
  go_wp2_with (with_reducible refine at_load_ (t := 54) ?_; refine Hid.out ?_)
  refine hI ?_
  refine wpList_load_row rfl _ _ rfl ab1 rfl _ _ _ _ YB1.out Tryz.underlying54 rfl rx_size ?_
  have X := hI (X0.out.below B.out)
  go_wp2_with (with_reducible refine at_store_ (t := 54) ?_; refine Hid.out ?_)
  refine hI ?_
  refine hb_put rfl _ _ rfl rfl w.heap.size rfl rfl rx_size (by simp [Value.oneCell']) X.out rfl ?_
  intro wz hxz hgz hsz
  clear hsz
  have XZ := hI hxz
  have GZ := hI hgz
  have BZ := hI (bz_of B00.out B.out hgz)
  clear hxz hgz X
  go_wp2_with fail
  refine bodyPost_ret (results_row3 rfl _ _ w.heap.size _ _ _ _ rfl XZ.out Tryz.underlying54 rfl rx_size _ _ rfl rfl) rfl ?_
  exact ⟨x1, _, _, j, rfl, (V1.out.gr (S' := fun b => w.heap.size <= b) GZ.out (fun b _ (hb : w0.heap.size <= b /\ b ≠ ab1) => ⟨by have := HSZ.out; omega, by have := HSZ.out; omega⟩)), BZ.out, RR.bad_ HZ.out AR.out⟩
theorem rbinary_five {L : List Lx.Tok} {tb tq n tc : Nat} (w : World) (i : Nat) (R : List Tk) (P : Res Ex) (hs : RS L tb tq n tc w) (ha : AtR L i R)
  (hU : ∀ W, RS L tb tq n tc W -> Calls Tryz.prog 73 #[.slice (some ⟨tb, tq, none⟩) n tc, .int .i64 i] W (RX L W P)) :
  Calls Tryz.prog 42 #[.slice (some ⟨tb, tq, none⟩) n tc, .int .i64 i, .int .i64 5] w (RX L w P) := by
 have HU := hI hU
 clear hU
 have TK0 := hI ha.k
 have A0 := hI ha
 have EN := hI hs.ends
 obtain ⟨w0, hw0⟩ : ∃ W, W = w.alloc (.cells #[.int .i64 0, .int .i64 0, .string { data := #[] }, .string { data := #[] }, .slice none 0 0, .slice none 0 0] 54) := ⟨_, rfl⟩
 have hb : Below w.heap.size w w0 := by rw [hw0]; exact (Below.refl _ _).alloc (Nat.le_refl _) _
 have HSZ := hI (show w.heap.size < w0.heap.size from by rw [hw0, World.size_alloc]; omega)
 have X0 := hI (show HB 54 w0 w.heap.size #[.int .i64 0, .int .i64 0, .string { data := #[] }, .string { data := #[] }, .slice none 0 0, .slice none 0 0] from by rw [hw0]; exact heap_alloc_new w _)
 have B00 := hI hb
 have S0 := hI (hs.below hb)
 have B := hI (Below.refl w0.heap.size w0)
 clear hb hs ha
 go_enter Tryz.func42, Tryz.ntmps42
 go_upto_region 1 with fail
 rw [<- hw0]
 clear hw0
 have KC := hI (HU.out w0 S0.out)
 go_wp2_with fail
 refine KC.out.mono ?_
 rintro e w5 ⟨x1, cs, nx1, bd1, rfl, hv, hb, hr⟩
 obtain ⟨k1, n1, s1, m1, A1, na1, ca1, O1, no1, co1, rfl⟩ := hv.cells6
 rw [show (exC k1 n1 s1 m1 A1 na1 ca1 O1 no1 co1).toArray = #[.int .i64 k1, .int .i64 n1, .string (bs s1), .string (bs m1), .slice A1 na1 ca1, .slice O1 no1 co1] from rfl]
 have HR1 := hI hr
 have V1 := hI (hv.more (S' := fun k => w0.heap.size <= k) fun k _ hk => Nat.le_trans B.out.size hk)
 replace B := hI (B.out.trans (hb.mono B.out.size))
 clear hv hb hr KC
 have X := hI (X0.out.below B.out)
 go_wp2_with (with_reducible refine at_store_ (t := 54) ?_; refine Hid.out ?_)
 refine hI ?_
 refine hb_put rfl _ _ rfl rfl w.heap.size rfl rfl rx_size (by simp [Value.oneCell']) X.out rfl ?_
 intro wz hxz hgz hsz
 clear hsz
 have XZ := hI hxz
 have GZ := hI hgz
 have BZ := hI (bz_of B00.out B.out hgz)
 clear hxz hgz X
 go_wp2_with fail
 refine bodyPost_ret (results_row3 rfl _ _ w.heap.size _ _ _ _ rfl XZ.out Tryz.underlying54 rfl rx_size _ _ rfl rfl) rfl ?_
 exact ⟨x1, _, _, _, rfl, (V1.out.gr (S' := fun b => w.heap.size <= b) GZ.out (fun b _ (hb : w0.heap.size <= b) => ⟨by have := HSZ.out; omega, by have := HSZ.out; omega⟩)), BZ.out, HR1.out⟩
open Go.RowKit
/-- append of one element onto a row of the call's own, in a walk. -/
theorem apG {α : Type} {V : World -> (Nat -> Prop) -> α -> List Value -> Prop} {e t : TypeId} {size : Nat} {w : World} {ops : Array Oper} {rest : List Oper} {o : Oper} {a : Act} {Q : Exit -> Act -> World -> Prop} (hgd : o.guard = none) (s x : Operand)
  (ho : o.op = .call { callee := .builtin .append, args := #[s, x], argTypes := #[t, t] }) (hV : VOk V size) (hA : AppOk t e size) (base lo : Nat) (v : Value) (l : List α) (hs : a.eval s = v) (hO : OwnG V e size w base v l)
  (q : Nat) (y : α) (cs : List Value) (hx : a.eval x = .slice (some ⟨q, 0, none⟩) 1 1) (hq : q < w.heap.size) (hc : w.rangeAt q 0 cs) (hy : V w (fun b => lo <= b) y cs) (h1 : l.length + 1 <= 1000000) (hb : base <= w.heap.size) (hv : ∀ k, v.ownBlock = some k -> k < lo) (hlo : base <= lo)
  (h : ∀ v' w', OwnG V e size w' base v' (l ++ [y]) -> w.grownBy w' v.ownBlock -> wpList Tryz.prog ops Q rest (a.put o.dst v') w') : wpList Tryz.prog ops Q (o :: rest) a w := by
 obtain ⟨css, c1, c2, c3, c4⟩ := hO
 obtain ⟨ht, hs0, i, z, bytes, hi, hz, his, hib, hzs, hbb⟩ := hA
 have hR : Reads w (fun _ => True) size (some ⟨q, 0, none⟩) 1 cs := ⟨by rw [hV.len hy]; omega, fun _ => ⟨q, 0, rfl, hq, trivial, fun j y hy => by have := hc j y hy; simpa using this⟩⟩
 refine wpList_append_any hgd s x t ho base e i _ size bytes ht hi hz his hib hzs hs0 v l.length _ hs c2 (fun _ => True) _ 1 1 _ hx hR (hV.one hy) (by simp only [maxLen]; omega) (Nat.le_trans (Nat.mul_le_mul h1 hbb) (by omega)) hb ?_
 intro v' w' h2 h3 h4
 exact h v' w' (OwnG.push hV ⟨css, c1, c3, c4, h2⟩ hv hlo hy h3 h4) h3
theorem apk_rx : AppOk 52 54 6 := AppOk.mk_ Tryz.underlying52 (by omega) (by kernel_rfl)
theorem apk_rs : AppOk 99 136 11 := AppOk.mk_ Tryz.underlying99 (by omega) (by kernel_rfl)
theorem range_new {w : World} {b : Nat} {cs : List Value} {t : TypeId} {fr : Nat × Nat} (h : w.heap[b]? = some (.cells cs.toArray t fr)) : w.rangeAt b 0 cs := fun j v hv => by rw [cell_of_row _ _ _ _ _ _ h, Nat.zero_add, List.getElem?_toArray]; exact hv
/-- The arguments behind their parenthesis. -/
def pAr (f : Nat) (R : List Tk) : Res (List Ex) := if isT [41] R = true then .ok [] R.tail else pL f [] R
theorem rargs_gen {L : List Lx.Tok} {tb tq n tc : Nat} (w : World) (i : Nat) (R : List Tk) (f : Nat) (hs : RS L tb tq n tc w) (ha : AtR L i R)
  (hB : ∀ f', f' < f -> ∀ W j R', 8 * R'.length + 7 <= f' -> RS L tb tq n tc W -> AtR L j R' -> Calls Tryz.prog 42 #[.slice (some ⟨tb, tq, none⟩) n tc, .int .i64 j, .int .i64 0] W (RX L W (pB f' 0 R')))
  (hf : 8 * R.length + 8 <= f) :
  Calls Tryz.prog 118 #[.slice (some ⟨tb, tq, none⟩) n tc, .int .i64 i] w (RL L w (pAr f R)) := by
 obtain ⟨PZ, hPZ⟩ : ∃ P, P = pAr f R := ⟨_, rfl⟩
 rw [<- hPZ]
 have HPZ := hI hPZ
 have HBI := hI hB
 have HF := hI hf
 clear hPZ hB hf
 obtain ⟨j1, hj1⟩ : ∃ j, j = i + 1 := ⟨_, rfl⟩
 have WR1 : IntKind.i64.wrap ((i : Int) + 1) = (j1 : Int) := by rw [hj1]; exact hs.wrap ha 1 (by omega)
 have J1 := hI hj1
 have TK1 := hI (show AtK L j1 _ from by rw [hj1]; exact ha.k1)
 clear hj1
 have TK0 := hI ha.k
 have A0 := hI ha
 have EN := hI hs.ends
 have S0 := hI hs
 have B := hI (Below.refl w.heap.size w)
 clear hs ha
 obtain ⟨b0, off0, c00, c01, c02⟩ := (S0.out.below B.out).cells TK0.out
 go_enter Tryz.func118, Tryz.ntmps118
 go_wp2_with fail
 refine (ris_any R _ [41] _).mono ?_
 rintro e wi0 ⟨rfl, hb⟩
 replace B := hI (B.out.trans (hb.mono B.out.size))
 clear hb
 clear b0 c00 c01 c02
 cases hq : isT [41] R with
 | true =>
  have Q0 := hI hq
  clear hq
  go_wp2
  go_ret3
  exact ⟨[], none, 0, 0, _, _, rfl, XL.nil_ _ _, B.out, RR.ok_ (by rw [HPZ.out]; exact if_pos Q0.out) (by rw [J1.out]; exact isT_next Q0.out A0.out EN.out)⟩
 | false =>
  have Q0 := hI hq
  clear hq
  have HZ := hI (show PZ = pL f [] R from by rw [HPZ.out]; exact if_neg (by rw [Q0.out]; decide))
  go_wp2_with fail
  go_loopw [1, 7] (fun v1 v7 wr => ∃ (j : Nat) (r : List Tk) (acc : List Ex) (f1 : Nat), v1 = .int .i64 j /\ AtR L j r /\ OwnG XV 54 6 wr w.heap.size v7 acc /\ Below w.heap.size w wr /\ (8 * r.length + 8 <= f1 /\ f1 <= f) /\ acc.length + r.length <= R.length /\ PZ = pL f1 acc r) (fun v1 _ _ => L.length - (intOf v1).toNat)
  case atStart => exact ⟨i, R, [], f, rfl, A0.out, OwnG.nil _ _, B.out, ⟨HF.out, Nat.le_refl _⟩, by simp, HZ.out⟩
  case round =>
   clear B HZ TK0 TK1 WR1
   obtain ⟨j, r, acc, f1, rfl, hA, hO, hb, hf, hl, hz⟩ := hrel
   have AR := hI hA
   have OW := hI hO
   have B := hI hb
   have HF1 := hI hf
   have HL := hI hl
   obtain ⟨f2, hf2⟩ : ∃ f2, f1 = f2 + 1 := ⟨f1 - 1, by omega⟩
   have F2 := hI hf2
   rw [hf2, pL] at hz
   have HZ := hI hz
   have HW := hI hb.size
   clear hA hO hb hf hl hz hf2
   have KX := hI (HBI.out f2 (by have := F2.out; have := HF1.out; omega) wr j r (by have := F2.out; have := HF1.out; omega) (S0.out.below B.out) AR.out)
   go_wp2_with fail
   refine KX.out.mono ?_
   rintro e w1 ⟨x1, cs, nx1, bd1, rfl, hv, hb, hr⟩
   obtain ⟨k1, n1, s1, m1, A1, na1, ca1, O1, no1, co1, rfl⟩ := hv.cells6
   rw [show (exC k1 n1 s1 m1 A1 na1 ca1 O1 no1 co1).toArray = #[.int .i64 k1, .int .i64 n1, .string (bs s1), .string (bs m1), .slice A1 na1 ca1, .slice O1 no1 co1] from rfl]
   obtain ⟨v1, hv1⟩ : ∃ W, W = w1.alloc (.cells #[.int .i64 k1, .int .i64 n1, .string (bs s1), .string (bs m1), .slice A1 na1 ca1, .slice O1 no1 co1] 54) := ⟨_, rfl⟩
   have hb2 : Below w1.heap.size w1 v1 := by rw [hv1]; exact (Below.refl _ _).alloc (Nat.le_refl _) _
   have HR1 := hI hr
   have YB1 := hI (show HB 54 v1 w1.heap.size #[.int .i64 k1, .int .i64 n1, .string (bs s1), .string (bs m1), .slice A1 na1 ca1, .slice O1 no1 co1] from by rw [hv1]; exact heap_alloc_new w1 _)
   have HO1 := hI hb.size
   have V1 := hI ((hv.more (S' := fun k => wr.heap.size <= k) fun k _ hk => hk).below hb2)
   replace B := hI (B.out.trans (hb.mono B.out.size))
   obtain h0 := OW.out
   have OL := hI fun k hk => (h0.lt k hk).2
   clear OW
   have OW := hI ((h0.below okXV hb).below okXV hb2)
   clear h0
   replace B := hI (B.out.trans (hb2.mono B.out.size))
   clear hv hb hr hb2 KX
   go_upto_region 5 with fail
   rw [<- hv1]
   clear hv1
   generalize w1.heap.size = yb1 at *
   rcases HR1.out.cases with ⟨r', j', hP, rfl, rfl, hA⟩ | ⟨r', j', hP, rfl, hA⟩
   ·have AR2 := hI hA
    have HP := hI hP
    clear hP hA HR1
    obtain ⟨wv, hwv⟩ : ∃ W, W = v1.alloc (.cells #[.int .i64 k1, .int .i64 n1, .string (bs s1), .string (bs m1), .slice A1 na1 ca1, .slice O1 no1 co1] 54) := ⟨_, rfl⟩
    have hbv : Below v1.heap.size v1 wv := by rw [hwv]; exact (Below.refl _ _).alloc (Nat.le_refl _) _
    have hrv : wv.heap[v1.heap.size]? = some (.cells #[.int .i64 k1, .int .i64 n1, .string (bs s1), .string (bs m1), .slice A1 na1 ca1, .slice O1 no1 co1] 54 (0, 0)) := by rw [hwv]; exact heap_alloc_new v1 _
    have VV := hI (V1.out.below hbv)
    have HQV := hI (lt_of_block hrv)
    have HRV := hI (range_new (cs := exC k1 n1 s1 m1 A1 na1 ca1 O1 no1 co1) hrv)
    replace OW := hI (OW.out.below okXV hbv)
    replace B := hI (B.out.trans (hbv.mono B.out.size))
    clear hbv hrv V1
    go_wp2_with (with_reducible refine at_load_ (t := 54) ?_; refine Hid.out ?_)
    refine hI ?_
    refine wpList_load_row rfl _ _ rfl yb1 rfl _ _ _ _ YB1.out Tryz.underlying54 rfl rx_size ?_
    go_wp2_with (at_builtin; refine Hid.out ?_)
    refine hI ?_
    rw [<- hwv]
    clear hwv YB1
    generalize v1.heap.size = vb at *
    refine apG rfl (.tmp 29) (.tmp 31) rfl okXV apk_rx w.heap.size wr.heap.size _ acc rfl OW.out vb x1 _ rfl HQV.out HRV.out VV.out (by have := HL.out; have := A0.out.len; have := S0.out.ok.len; omega) B.out.size (fun k hk => OL.out k hk) HW.out ?_
    intro v7 w4 ho hg
    have OW4 := hI ho
    have B4 := hI (B.out.grown hg B.out.size (fun q hq => (OW.out.lt q hq).1))
    clear ho hg OW VV HRV HQV OL B
    have B := hI B4.out
    clear B4
    have LE := hI (pB_len HP.out)
    obtain ⟨jn, hjn⟩ : ∃ k, k = j' + 1 := ⟨_, rfl⟩
    have Wjn : IntKind.i64.wrap ((j' : Int) + 1) = (jn : Int) := by rw [hjn]; exact S0.out.wrap AR2.out 1 (by omega)
    have Hjn := hI hjn
    clear hjn
    obtain ⟨b0, off0, c00, c01, c02⟩ := (S0.out.below B.out).cells AR2.out.k
    go_wp2_with fail
    refine (ris_any r' _ [41] _).mono ?_
    rintro e wi5 ⟨rfl, hb⟩
    replace OW4 := hI (OW4.out.below okXV hb)
    replace B := hI (B.out.trans (hb.mono B.out.size))
    clear hb
    clear b0 c00 c01 c02
    cases hq : isT [41] r' with
    | true =>
     have Q5 := hI hq
     clear hq
     obtain ⟨AA, ac, rfl, hxl⟩ := OW4.out.xl
     have HXL := hI hxl
     clear hxl
     go_wp2
     go_ret3
     exact ⟨acc ++ [x1], AA, _, ac, _, _, rfl, by have := HXL.out; rw [List.length_append, List.length_singleton] at this; exact this, B.out, RR.ok_ (by rw [HZ.out, HP.out]; exact if_pos Q5.out) (by rw [Hjn.out]; exact isT_next Q5.out AR2.out EN.out)⟩
    | false =>
     have Q5 := hI hq
     clear hq
     obtain ⟨b0, off0, c00, c01, c02⟩ := (S0.out.below B.out).cells AR2.out.k
     go_wp2_with fail
     refine (ris_any r' _ [44] _).mono ?_
     rintro e wi6 ⟨rfl, hb⟩
     replace OW4 := hI (OW4.out.below okXV hb)
     replace B := hI (B.out.trans (hb.mono B.out.size))
     clear hb
     clear b0 c00 c01 c02
     cases hq : isT [44] r' with
     | true =>
      have Q6 := hI hq
      clear hq
      go_wp2
      go_roundw
      case rel => exact ⟨jn, r'.tail, acc ++ [x1], f2, rfl, by rw [Hjn.out]; exact isT_next Q6.out AR2.out EN.out, OW4.out, B.out, ⟨by have := isT_len Q6.out; have := LE.out; have := HF1.out; have := F2.out; omega, by have := HF1.out; have := F2.out; omega⟩, by have := isT_len Q6.out; have := LE.out; have := HL.out; rw [List.length_append, List.length_singleton]; omega, by rw [HZ.out, HP.out]; exact (if_neg (by rw [Q5.out]; decide)).trans (if_pos Q6.out)⟩
      case measure =>
       have e1 := AR.out.len
       have e2 := AR2.out.len
       have e3 := LE.out
       have e4 := isT_len Q6.out
       have e5 := AR.out.lt
       have e6 := Hjn.out
       show L.length - (jn : Int).toNat < L.length - (j : Int).toNat
       omega
     | false =>
      have Q6 := hI hq
      clear hq
      go_wp2
      go_ret3
      exact ⟨[], none, 0, 0, _, _, rfl, XL.nil_ _ _, B.out, RR.bad_ (by rw [HZ.out, HP.out]; exact (if_neg (by rw [Q5.out]; decide)).trans (if_neg (by rw [Q6.out]; decide))) AR2.out⟩
   have AR2 := hI hA
   have HP := hI hP
   clear hP hA HR1
   have eb2 : (0 : Int) <= (j' : Int) := by omega
   go_wp2
   go_ret3
   exact ⟨[], none, 0, 0, _, _, rfl, XL.nil_ _ _, B.out, RR.bad_ (by rw [HZ.out, HP.out]) AR2.out⟩
open Go.RowKit
/-- A call from its first token on. -/
def pCl (f : Nat) (R : List Tk) : Res Ex := if isT [104, 111, 115, 116] R = true then pH f R.tail else pK f (textT R) R.tail
theorem pCl_end (f : Nat) (R : List Tk) : pCl (f + 2) R = cEnd R (pAr f R.tail.tail.tail.tail) (pU (f + 1)) := by
 unfold pCl cEnd
 rw [pH, pK]
 by_cases h1 : isT [46] R.tail = true
 ·rw [if_pos h1, if_pos h1, if_pos h1]
  by_cases h2 : kindT R.tail.tail = 1
  ·rw [if_pos h2, if_pos h2, if_pos h2, pA]
   by_cases h3 : isT [40] R.tail.tail.tail = true
   ·rw [if_pos h3, if_pos h3]
    unfold kEnd
    show (if _ then (match pAr f R.tail.tail.tail.tail with | .bad r => Res.bad r | .ok a r => .ok (Ex.mk 7 0 (textT R.tail.tail) [] a []) r) else _) = _
    split
    ·cases pAr f R.tail.tail.tail.tail <;> rfl
    show (match pAr f R.tail.tail.tail.tail with | .bad r => Res.bad r | .ok a r => _) = _
    cases pAr f R.tail.tail.tail.tail <;> rfl
   rw [if_neg h3, if_neg h3]
   split <;> rfl
  rw [if_neg h2, if_neg h2, if_neg h2]
  split <;> rfl
 rw [if_neg h1, if_neg h1, if_neg h1]
 split <;> rfl
theorem isT_no {s : Str} {R : List Tk} {k : Int} (h : kindT R = k) (h3 : k ≠ 3) (h4 : k ≠ 4) : isT s R = false := by
 rw [isT_val2, h]
 have e3 : (k == 3) = false := by simpa using h3
 have e4 : (k == 4) = false := by simpa using h4
 rw [e3, e4]
 rfl
theorem uRes_pU (f : Nat) (R : List Tk) : uRes R (pU f R.tail) (pB f 0 R.tail) (pCl f R) = pU (f + 1) R := by
 rw [pU]
 unfold uRes pCl
 by_cases hk : kindT R = 2
 ·have h0 : ∀ s, ¬ isT s R = true := fun s => by rw [isT_no hk (by decide) (by decide)]; decide
  rw [if_neg (h0 _), if_neg (h0 _), if_pos hk, if_neg (h0 _), if_neg (h0 _), if_neg (h0 _), if_neg (h0 _), if_neg (h0 _), if_neg (h0 _), if_pos hk]
 by_cases h0 : isT [110, 111, 116] R = true
 ·rw [if_pos h0, if_pos (show isT tNot R = true from h0)]
  cases pU f R.tail <;> rfl
 rw [if_neg h0, if_neg (show ¬ isT tNot R = true from h0)]
 by_cases h1 : isT [45] R = true
 ·rw [if_pos h1, if_pos h1]
  cases pU f R.tail <;> rfl
 rw [if_neg h1, if_neg h1, if_neg hk]
 by_cases h2 : isT [116, 114, 117, 101] R = true
 ·rw [if_pos h2, if_pos (show isT tTrue R = true from h2)]
 rw [if_neg h2, if_neg (show ¬ isT tTrue R = true from h2)]
 by_cases h3 : isT [102, 97, 108, 115, 101] R = true
 ·rw [if_pos h3, if_pos (show isT tFalse R = true from h3)]
 rw [if_neg h3, if_neg (show ¬ isT tFalse R = true from h3)]
 by_cases h4 : isT [40] R = true
 ·rw [if_pos h4, if_pos h4]
  cases pB f 0 R.tail <;> rfl
 rw [if_neg h4, if_neg h4]
 by_cases h5 : isT [104, 111, 115, 116] R = true
 ·rw [if_pos (.inl h5), if_pos h5, if_pos (show isT tHost R = true from h5)]
 rw [if_neg (show ¬ isT tHost R = true from h5), if_neg hk, if_neg h5]
 by_cases h6 : kindT R = 1
 ·rw [if_pos h6, if_pos h6]
  by_cases h7 : isT [46] R.tail = true
  ·rw [if_pos (.inr ⟨h6, h7⟩), if_pos h7]
  rw [if_neg (fun h => h.elim h5 fun h => h7 h.2), if_neg h7]
 rw [if_neg (fun h => h.elim h5 fun h => h6 h.1), if_neg h6, if_neg h6]
theorem pAr_len {f : Nat} {R r : List Tk} {l : List Ex} (h : pAr f R = .ok l r) : r.length <= R.length := by
 unfold pAr at h
 split at h
 ·injection h with _ h
  rw [<- h, List.length_tail]
  omega
 exact suf_len ((suf_of ((suf_parts f).2.2.2.2.2.2 [] R)).1 _ _ h)
/-- The walks of the four, with fuel f. -/
structure Rx (L : List Lx.Tok) (tb tq n tc f : Nat) : Prop where
 un : ∀ W i R, 8 * R.length + 1 <= f -> RS L tb tq n tc W -> AtR L i R -> Calls Tryz.prog 73 #[.slice (some ⟨tb, tq, none⟩) n tc, .int .i64 i] W (RX L W (pU f R))
 bi : ∀ lv : Nat, lv <= 5 -> ∀ W i R, 8 * R.length + 2 + (5 - lv) <= f -> RS L tb tq n tc W -> AtR L i R -> Calls Tryz.prog 42 #[.slice (some ⟨tb, tq, none⟩) n tc, .int .i64 i, .int .i64 lv] W (RX L W (pB f lv R))
 ca : ∀ W i R, 8 * R.tail.length + 1 <= f -> isT [104, 111, 115, 116] R = true ∨ kindT R = 1 -> RS L tb tq n tc W -> AtR L i R -> Calls Tryz.prog 92 #[.slice (some ⟨tb, tq, none⟩) n tc, .int .i64 i] W (RX L W (pCl f R))
 ar : ∀ W i R, 8 * R.length + 8 <= f -> RS L tb tq n tc W -> AtR L i R -> Calls Tryz.prog 118 #[.slice (some ⟨tb, tq, none⟩) n tc, .int .i64 i] W (RL L W (pAr f R))
theorem rx_all (L : List Lx.Tok) (tb tq n tc f : Nat) : Rx L tb tq n tc f := by
 induction f using Nat.strongRecOn with
 | ind f ih =>
  have hk0 : ∀ {R : List Tk}, isT [104, 111, 115, 116] R = true ∨ kindT R = 1 -> kindT R ≠ 0 := fun h => h.elim (fun h => by rcases isT_kind h with e | e <;> rw [e] <;> decide) (fun h => by rw [h]; decide)
  have hkl : ∀ {R : List Tk}, isT [104, 111, 115, 116] R = true ∨ kindT R = 1 -> R.tail.length + 1 = R.length := fun h => h.elim isT_len fun h => kind_len h (by decide)
  refine ⟨fun W i R hl hs ha => ?_, fun lv hlv W i R hl hs ha => ?_, fun W i R hl hk hs ha => ?_, fun W i R hl hs ha => ?_⟩
  ·obtain ⟨f0, rfl⟩ : ∃ f0, f = f0 + 1 := ⟨f - 1, by omega⟩
   rw [<- uRes_pU]
   exact runary_gen W i R _ _ _ hs ha (fun W j _ h hq ht => (ih f0 (by omega)).un W j _ (by have := hq.elim isT_len isT_len; omega) h ht)
    (fun W j _ h hq ht => (ih f0 (by omega)).bi 0 (by omega) W j _ (by have := isT_len hq; omega) h ht)
    (fun W h hq => (ih f0 (by omega)).ca W i R (by have := hkl (hq.imp id And.left); omega) (hq.imp id And.left) h ha)
  ·by_cases h5 : lv = 5
   ·subst h5
    obtain ⟨f0, rfl⟩ : ∃ f0, f = f0 + 1 := ⟨f - 1, by omega⟩
    rw [pB_five]
    exact rbinary_five W i R _ hs ha fun W h => (ih f0 (by omega)).un W i R (by omega) h ha
   exact rbinary_gen W i R lv f (by omega) hs ha (fun f' hf W j R' hl h ht => (ih f' hf).bi (lv + 1) (by omega) W j R' (by omega) h ht) hl
  ·have hne := (ha.next hs.ends (hk0 hk)).2
   obtain ⟨f0, rfl⟩ : ∃ f0, f = f0 + 2 := ⟨f - 2, by have := List.length_pos_iff.2 hne; omega⟩
   rw [pCl_end]
   have a1 := ha.next hs.ends (hk0 hk)
   have hl4 : isT [46] R.tail = true -> kindT R.tail.tail = 1 -> isT [40] R.tail.tail.tail = true -> R.tail.length = R.tail.tail.tail.tail.length + 3 := fun h1 h2 h3 => by
    have e1 := isT_len h1
    have e2 := kind_len h2 (by decide)
    have e3 := isT_len h3
    omega
   have a4 : isT [46] R.tail = true -> kindT R.tail.tail = 1 -> isT [40] R.tail.tail.tail = true -> AtR L (i + 4) R.tail.tail.tail.tail := fun h1 h2 h3 => isT_next h3 (kind_next h2 (by decide) (isT_next h1 a1 hs.ends) hs.ends) hs.ends
   by_cases hp : isT [46] R.tail = true /\ kindT R.tail.tail = 1 /\ isT [40] R.tail.tail.tail = true
   ·refine rcall_gen W i R _ _ hs ha (hk0 hk) (fun W j hj h h1 h2 h3 => ?_) (fun W j r l he hq h ht => ?_)
    ·subst hj
     exact (ih f0 (by omega)).ar W (i + 4) _ (by have := hl4 h1 h2 h3; omega) h (a4 h1 h2 h3)
    exact (ih (f0 + 1) (by omega)).un W j _ (by have := pAr_len he; have := isT_len hq; have := hl4 hp.1 hp.2.1 hp.2.2; omega) h ht
   have e : cEnd R (pAr f0 R.tail.tail.tail.tail) (pU (f0 + 1)) = cEnd R (.bad []) (pU (f0 + 1)) := by
    unfold cEnd
    by_cases h1 : isT [46] R.tail = true
    ·rw [if_pos h1, if_pos h1]
     by_cases h2 : kindT R.tail.tail = 1
     ·rw [if_pos h2, if_pos h2, if_neg (fun h3 => hp ⟨h1, h2, h3⟩), if_neg (fun h3 => hp ⟨h1, h2, h3⟩)]
     rw [if_neg h2, if_neg h2]
    rw [if_neg h1, if_neg h1]
   rw [e]
   exact rcall_gen W i R _ _ hs ha (hk0 hk) (fun W j hj h h1 h2 h3 => absurd ⟨h1, h2, h3⟩ hp) (fun W j r l he hq h ht => by cases he)
  exact rargs_gen W i R f hs ha (fun f' hf W j R' hl h ht => (ih f' hf).bi 0 (by omega) W j R' (by omega) h ht) hl
theorem rexpr_any {L : List Lx.Tok} {tb tq n tc : Nat} (W : World) (i : Nat) (R : List Tk) (hs : RS L tb tq n tc W) (ha : AtR L i R) : Calls Tryz.prog 42 #[.slice (some ⟨tb, tq, none⟩) n tc, .int .i64 i, .int .i64 0] W (RX L W (pE R)) :=
 (rx_all L tb tq n tc (8 * R.length + 7)).bi 0 (by omega) W i R (by omega) hs ha
theorem rcall_any {L : List Lx.Tok} {tb tq n tc : Nat} (W : World) (i : Nat) (R : List Tk) (hk : isT [104, 111, 115, 116] R = true ∨ kindT R = 1) (hs : RS L tb tq n tc W) (ha : AtR L i R) : Calls Tryz.prog 92 #[.slice (some ⟨tb, tq, none⟩) n tc, .int .i64 i] W (RX L W (pCl (8 * R.length + 7) R)) :=
 (rx_all L tb tq n tc (8 * R.length + 7)).ca W i R (by rw [List.length_tail]; omega) hk hs ha
theorem rended_any {L : List Lx.Tok} {tb tq n tc : Nat} (W : World) (i : Nat) (R : List Tk) (hs : RS L tb tq n tc W) (ha : AtR L i R) : Calls Tryz.prog 91 #[.slice (some ⟨tb, tq, none⟩) n tc, .int .i64 i] W (RX L W (pThen [59] (pE R))) :=
 rended_gen W i R _ hs ha fun W h => rexpr_any W i R h ha
open Go.RowKit
theorem SV.cells11 {w : World} {S : Nat -> Prop} {x : St} {cs : List Value} (h : SV w S x cs) : ∃ (k : Int) (s : Str) (n : Int) (ek en : Int) (es em : Str) (A : Option Addr) (na ca : Nat) (O : Option Addr) (no co : Nat) (B : Option Addr) (nb cb : Nat) (L : Option Addr) (nl cl : Nat), cs = stC k s n (exC ek en es em A na ca O no co) B nb cb L nl cl := by
 obtain ⟨k, s, n, e, b, l⟩ := x
 obtain ⟨ex, B, nb, cb, L, nl, cl, rfl, hx, -, -⟩ := h.open_
 obtain ⟨ek, en, es, em, A, na, ca, O, no, co, rfl⟩ := hx.cells6
 exact ⟨k, s, n, ek, en, es, em, A, na, ca, O, no, co, B, nb, cb, L, nl, cl, rfl⟩
theorem rblock_gen {L : List Lx.Tok} {tb tq n tc : Nat} (w : World) (i : Nat) (R : List Tk) (f : Nat) (hs : RS L tb tq n tc w) (ha : AtR L i R)
  (hS : ∀ f', f' < f -> ∀ W j R', 4 * R'.length + 3 <= f' -> RS L tb tq n tc W -> AtR L j R' -> Calls Tryz.prog 65 #[.slice (some ⟨tb, tq, none⟩) n tc, .int .i64 j] W (RT L W (pS f' R')))
  (hf : 4 * R.length + 1 <= f) :
  Calls Tryz.prog 35 #[.slice (some ⟨tb, tq, none⟩) n tc, .int .i64 i] w (RB L w (pBl f R)) := by
 obtain ⟨PZ, hPZ⟩ : ∃ P, P = pBl f R := ⟨_, rfl⟩
 rw [<- hPZ]
 have HPZ := hI hPZ
 have HS := hI hS
 have HF := hI hf
 clear hPZ hS hf
 obtain ⟨j1, hj1⟩ : ∃ j, j = i + 1 := ⟨_, rfl⟩
 have WR1 : IntKind.i64.wrap ((i : Int) + 1) = (j1 : Int) := by rw [hj1]; exact hs.wrap ha 1 (by omega)
 have J1 := hI hj1
 have TK1 := hI (show AtK L j1 _ from by rw [hj1]; exact ha.k1)
 clear hj1
 have TK0 := hI ha.k
 have A0 := hI ha
 have EN := hI hs.ends
 have S0 := hI hs
 have B := hI (Below.refl w.heap.size w)
 clear hs ha
 obtain ⟨b0, off0, c00, c01, c02⟩ := (S0.out.below B.out).cells TK0.out
 obtain ⟨f0, hf0⟩ : ∃ f0, f = f0 + 1 := ⟨f - 1, by have := HF.out; omega⟩
 have F0 := hI hf0
 clear hf0
 go_enter Tryz.func35, Tryz.ntmps35
 go_wp2_with fail
 refine (ris_any R _ [123] _).mono ?_
 rintro e wi0 ⟨rfl, hb⟩
 replace B := hI (B.out.trans (hb.mono B.out.size))
 clear hb
 clear b0 c00 c01 c02
 cases hq : isT [123] R with
 | false =>
  have Q0 := hI hq
  clear hq
  go_wp2
  go_ret3
  exact ⟨[], none, 0, 0, _, _, rfl, SL.nil_ _ _, B.out, RR.bad_ (by rw [HPZ.out, F0.out, pBl]; exact if_neg (by rw [Q0.out]; decide)) A0.out⟩
 | true =>
  have Q0 := hI hq
  clear hq
  have HZ := hI (show PZ = pM f0 [] R.tail from by rw [HPZ.out, F0.out, pBl]; exact if_pos Q0.out)
  go_wp2_with fail
  go_loopw [1, 7] (fun v1 v7 wr => ∃ (j : Nat) (r : List Tk) (acc : List St) (f1 : Nat), v1 = .int .i64 j /\ AtR L j r /\ OwnG SV 136 11 wr w.heap.size v7 acc /\ Below w.heap.size w wr /\ (4 * r.length + 4 <= f1 /\ f1 < f) /\ acc.length + r.length <= R.length /\ PZ = pM f1 acc r) (fun v1 _ _ => L.length - (intOf v1).toNat)
  case atStart => exact ⟨j1, R.tail, [], f0, rfl, by rw [J1.out]; exact isT_next Q0.out A0.out EN.out, OwnG.nil _ _, B.out, ⟨by have := HF.out; have := F0.out; have := isT_len Q0.out; omega, by have := F0.out; omega⟩, by simp, HZ.out⟩
  case round =>
   clear B HZ TK0 TK1 WR1 Q0
   obtain ⟨j, r, acc, f1, rfl, hA, hO, hb, hf, hl, hz⟩ := hrel
   have AR := hI hA
   have OW := hI hO
   have B := hI hb
   have HF1 := hI hf
   have HL := hI hl
   obtain ⟨f2, hf2⟩ : ∃ f2, f1 = f2 + 1 := ⟨f1 - 1, by omega⟩
   have F2 := hI hf2
   rw [hf2, pM] at hz
   have HZ := hI hz
   clear hA hO hb hf hl hz hf2
   obtain ⟨jn, hjn⟩ : ∃ k, k = j + 1 := ⟨_, rfl⟩
   have Wjn : IntKind.i64.wrap ((j : Int) + 1) = (jn : Int) := by rw [hjn]; exact S0.out.wrap AR.out 1 (by omega)
   have Hjn := hI hjn
   clear hjn
   obtain ⟨b0, off0, c00, c01, c02⟩ := (S0.out.below B.out).cells AR.out.k
   go_wp2_with fail
   refine (ris_any r _ [125] _).mono ?_
   rintro e wi1 ⟨rfl, hb⟩
   replace OW := hI (OW.out.below okSV hb)
   replace B := hI (B.out.trans (hb.mono B.out.size))
   clear hb
   clear b0 c00 c01 c02
   cases hq : isT [125] r with
   | true =>
    have Q1 := hI hq
    clear hq
    obtain ⟨AA, ac, rfl, hxl⟩ := OW.out.sl
    have HXL := hI hxl
    clear hxl
    go_wp2
    go_ret3
    exact ⟨acc, AA, _, ac, _, _, rfl, HXL.out, B.out, RR.ok_ (by rw [HZ.out]; exact if_pos Q1.out) (by rw [Hjn.out]; exact isT_next Q1.out AR.out EN.out)⟩
   | false =>
    have Q1 := hI hq
    clear hq Wjn Hjn
    have HZ1 := hI (HZ.out.trans (if_neg (by rw [Q1.out]; decide)))
    have HW := hI B.out.size
    have KX := hI (HS.out f2 (by have := F2.out; have := HF1.out; omega) wi1 j r (by have := F2.out; have := HF1.out; omega) (S0.out.below B.out) AR.out)
    go_wp2_with fail
    refine KX.out.mono ?_
    rintro e w1 ⟨x1, cs, nx1, bd1, rfl, hv, hb, hr⟩
    obtain ⟨k1, s1, n1, ek1, en1, es1, em1, eA1, ena1, eca1, eO1, eno1, eco1, Bb1, nb1, cb1, Ll1, nl1, cl1, rfl⟩ := hv.cells11
    rw [show (stC k1 s1 n1 (exC ek1 en1 es1 em1 eA1 ena1 eca1 eO1 eno1 eco1) Bb1 nb1 cb1 Ll1 nl1 cl1).toArray = #[.int .i64 k1, .string (bs s1), .int .i64 n1, .int .i64 ek1, .int .i64 en1, .string (bs es1), .string (bs em1), .slice eA1 ena1 eca1, .slice eO1 eno1 eco1, .slice Bb1 nb1 cb1, .slice Ll1 nl1 cl1] from rfl]
    obtain ⟨v1, hv1⟩ : ∃ W, W = w1.alloc (.cells #[.int .i64 k1, .string (bs s1), .int .i64 n1, .int .i64 ek1, .int .i64 en1, .string (bs es1), .string (bs em1), .slice eA1 ena1 eca1, .slice eO1 eno1 eco1, .slice Bb1 nb1 cb1, .slice Ll1 nl1 cl1] 136) := ⟨_, rfl⟩
    have hb2 : Below w1.heap.size w1 v1 := by rw [hv1]; exact (Below.refl _ _).alloc (Nat.le_refl _) _
    have HR1 := hI hr
    have YB1 := hI (show HB 136 v1 w1.heap.size #[.int .i64 k1, .string (bs s1), .int .i64 n1, .int .i64 ek1, .int .i64 en1, .string (bs es1), .string (bs em1), .slice eA1 ena1 eca1, .slice eO1 eno1 eco1, .slice Bb1 nb1 cb1, .slice Ll1 nl1 cl1] from by rw [hv1]; exact heap_alloc_new w1 _)
    have HO1 := hI (show w.heap.size <= w1.heap.size from Nat.le_trans B.out.size hb.size)
    have V1 := hI ((hv.more (S' := fun k => wi1.heap.size <= k) fun k hk2 hk => hk).below hb2)
    replace B := hI (B.out.trans (hb.mono B.out.size))
    obtain h0 := OW.out
    have OL := hI fun k hk => (h0.lt k hk).2
    clear OW
    have OW := hI ((h0.below okSV hb).below okSV hb2)
    clear h0
    replace B := hI (B.out.trans (hb2.mono B.out.size))
    clear hv hb hr hb2 KX
    go_upto_region 7 with fail
    rw [<- hv1]
    clear hv1
    generalize w1.heap.size = yb1 at *
    rcases HR1.out.cases with ⟨r', j', hP, rfl, rfl, hA⟩ | ⟨r', j', hP, rfl, hA⟩
    ·have AR2 := hI hA
     have HP := hI hP
     clear hP hA HR1
     obtain ⟨wv, hwv⟩ : ∃ W, W = v1.alloc (.cells #[.int .i64 k1, .string (bs s1), .int .i64 n1, .int .i64 ek1, .int .i64 en1, .string (bs es1), .string (bs em1), .slice eA1 ena1 eca1, .slice eO1 eno1 eco1, .slice Bb1 nb1 cb1, .slice Ll1 nl1 cl1] 136) := ⟨_, rfl⟩
     have hbv : Below v1.heap.size v1 wv := by rw [hwv]; exact (Below.refl _ _).alloc (Nat.le_refl _) _
     have hrv : wv.heap[v1.heap.size]? = some (.cells #[.int .i64 k1, .string (bs s1), .int .i64 n1, .int .i64 ek1, .int .i64 en1, .string (bs es1), .string (bs em1), .slice eA1 ena1 eca1, .slice eO1 eno1 eco1, .slice Bb1 nb1 cb1, .slice Ll1 nl1 cl1] 136 (0, 0)) := by rw [hwv]; exact heap_alloc_new v1 _
     have VV := hI (V1.out.below hbv)
     have HQV := hI (lt_of_block hrv)
     have HRV := hI (range_new (cs := stC k1 s1 n1 (exC ek1 en1 es1 em1 eA1 ena1 eca1 eO1 eno1 eco1) Bb1 nb1 cb1 Ll1 nl1 cl1) hrv)
     replace OW := hI (OW.out.below okSV hbv)
     replace B := hI (B.out.trans (hbv.mono B.out.size))
     clear hbv hrv V1
     go_wp2_with (with_reducible refine at_load_ (t := 136) ?_; refine Hid.out ?_)
     refine hI ?_
     refine wpList_load_row rfl _ _ rfl yb1 rfl _ _ _ _ YB1.out Tryz.underlying136 rfl rt_size ?_
     go_wp2_with (at_builtin; refine Hid.out ?_)
     refine hI ?_
     rw [<- hwv]
     clear hwv YB1
     generalize v1.heap.size = vb at *
     refine apG rfl (.tmp 38) (.tmp 40) rfl okSV apk_rs w.heap.size wi1.heap.size _ acc rfl OW.out vb x1 _ rfl HQV.out HRV.out VV.out (by have := HL.out; have := A0.out.len; have := S0.out.ok.len; omega) B.out.size (fun k hk => OL.out k hk) HW.out ?_
     intro v7 w4 ho hg
     have OW4 := hI ho
     have B4 := hI (B.out.grown hg B.out.size (fun q hq => (OW.out.lt q hq).1))
     clear ho hg OW VV HRV HQV OL B
     have LE := hI (pS_lt _ _ _ _ HP.out)
     go_wp2
     go_roundw
     case rel => exact ⟨j', r', acc ++ [x1], f2, rfl, AR2.out, OW4.out, B4.out, ⟨by have := LE.out; have := HF1.out; have := F2.out; omega, by have := HF1.out; have := F2.out; omega⟩, by have := LE.out; have := HL.out; rw [List.length_append, List.length_singleton]; omega, by rw [HZ1.out, HP.out]⟩
     case measure =>
      have e1 := AR.out.len
      have e2 := AR2.out.len
      have e3 := LE.out
      have e5 := AR.out.lt
      show L.length - (j' : Int).toNat < L.length - (j : Int).toNat
      omega
    have AR2 := hI hA
    have HP := hI hP
    clear hP hA HR1
    have eb2 : (0 : Int) <= (j' : Int) := by omega
    go_wp2
    go_ret3
    exact ⟨[], none, 0, 0, _, _, rfl, SL.nil_ _ _, B.out, RR.bad_ (by rw [HZ1.out, HP.out]) AR2.out⟩
open Go.RowKit
theorem pE_len {R r : List Tk} {x : Ex} (h : pE R = .ok x r) : r.length <= R.length := pB_len h
theorem pBl_len {f : Nat} {R r : List Tk} {x : List St} (h : pBl f R = .ok x r) : r.length <= R.length := suf_len ((suf_of ((suf_stmts f).2.2.1 R)).1 _ _ h)
theorem rbranch_gen {L : List Lx.Tok} {tb tq n tc : Nat} (w : World) (i : Nat) (R : List Tk) (f : Nat) (hs : RS L tb tq n tc w) (ha : AtR L i R) (hi : isT [105, 102] R = true)
  (hL : ∀ W j r, r.length <= R.tail.length -> RS L tb tq n tc W -> AtR L j r -> Calls Tryz.prog 35 #[.slice (some ⟨tb, tq, none⟩) n tc, .int .i64 j] W (RB L W (pBl f r)))
  (hR : ∀ W j r, isT [105, 102] r = true -> r.length + 1 <= R.tail.length -> RS L tb tq n tc W -> AtR L j r -> Calls Tryz.prog 93 #[.slice (some ⟨tb, tq, none⟩) n tc, .int .i64 j] W (RT L W (pI f r.tail))) :
  Calls Tryz.prog 93 #[.slice (some ⟨tb, tq, none⟩) n tc, .int .i64 i] w (RT L w (pI (f + 1) R.tail)) := by
 obtain ⟨PZ, hPZ⟩ : ∃ P, P = pI (f + 1) R.tail := ⟨_, rfl⟩
 rw [<- hPZ]
 have HPZ := hI hPZ
 have HBL := hI hL
 have HBR := hI hR
 have HIF := hI hi
 clear hPZ hL hR hi
 obtain ⟨j1, hj1⟩ : ∃ j, j = i + 1 := ⟨_, rfl⟩
 have WR1 : IntKind.i64.wrap ((i : Int) + 1) = (j1 : Int) := by rw [hj1]; exact hs.wrap ha 1 (by omega)
 have J1 := hI hj1
 have TK1 := hI (show AtK L j1 _ from by rw [hj1]; exact ha.k1)
 clear hj1
 have TK0 := hI ha.k
 have A0 := hI ha
 have EN := hI hs.ends
 obtain ⟨w0, hw0⟩ : ∃ W, W = w.alloc (.cells #[.int .i64 0, .string { data := #[] }, .int .i64 0, .int .i64 0, .int .i64 0, .string { data := #[] }, .string { data := #[] }, .slice none 0 0, .slice none 0 0, .slice none 0 0, .slice none 0 0] 136) := ⟨_, rfl⟩
 have hb : Below w.heap.size w w0 := by rw [hw0]; exact (Below.refl _ _).alloc (Nat.le_refl _) _
 have HSZ := hI (show w.heap.size < w0.heap.size from by rw [hw0, World.size_alloc]; omega)
 have X0 := hI (show HB 136 w0 w.heap.size #[.int .i64 0, .string { data := #[] }, .int .i64 0, .int .i64 0, .int .i64 0, .string { data := #[] }, .string { data := #[] }, .slice none 0 0, .slice none 0 0, .slice none 0 0, .slice none 0 0] from by rw [hw0]; exact heap_alloc_new w _)
 have B00 := hI hb
 have S0 := hI (hs.below hb)
 have B := hI (Below.refl w0.heap.size w0)
 clear hb hs ha
 have A1T := hI (show AtR L j1 R.tail from by rw [J1.out]; exact isT_next HIF.out A0.out EN.out)
 go_enter Tryz.func93, Tryz.ntmps93
 go_upto_region 1 with fail
 rw [<- hw0]
 clear hw0
 have KX := hI (rexpr_any w0 j1 R.tail S0.out A1T.out)
 go_wp2_with fail
 refine KX.out.mono ?_
 rintro e w1 ⟨x1, cs, nx1, bd1, rfl, hv, hb, hr⟩
 obtain ⟨k1, n1, s1, m1, A1, na1, ca1, O1, no1, co1, rfl⟩ := hv.cells6
 rw [show (exC k1 n1 s1 m1 A1 na1 ca1 O1 no1 co1).toArray = #[.int .i64 k1, .int .i64 n1, .string (bs s1), .string (bs m1), .slice A1 na1 ca1, .slice O1 no1 co1] from rfl]
 obtain ⟨v1, hv1⟩ : ∃ W, W = w1.alloc (.cells #[.int .i64 k1, .int .i64 n1, .string (bs s1), .string (bs m1), .slice A1 na1 ca1, .slice O1 no1 co1] 54) := ⟨_, rfl⟩
 have hb2 : Below w1.heap.size w1 v1 := by rw [hv1]; exact (Below.refl _ _).alloc (Nat.le_refl _) _
 have HR1 := hI hr
 have YB1 := hI (show HB 54 v1 w1.heap.size #[.int .i64 k1, .int .i64 n1, .string (bs s1), .string (bs m1), .slice A1 na1 ca1, .slice O1 no1 co1] from by rw [hv1]; exact heap_alloc_new w1 _)
 have HO1 := hI (show w0.heap.size <= w1.heap.size from Nat.le_trans B.out.size hb.size)
 have V1 := hI ((hv.more (S' := fun k => w0.heap.size <= k) fun k _ hk => Nat.le_trans B.out.size hk).below hb2)
 replace B := hI (B.out.trans (hb.mono B.out.size))
 replace B := hI (B.out.trans (hb2.mono B.out.size))
 clear hv hb hr hb2 KX
 go_upto_region 2 with fail
 rw [<- hv1]
 clear hv1
 generalize w1.heap.size = yb1 at *
 go_wp2_with (with_reducible refine at_load_ (t := 54) ?_; refine Hid.out ?_)
 refine hI ?_
 refine wpList_load_row rfl _ _ rfl yb1 rfl _ _ _ _ YB1.out Tryz.underlying54 rfl rx_size ?_
 obtain ⟨sb, hsb⟩ : ∃ z, z = v1.heap.size := ⟨_, rfl⟩
 obtain ⟨ve, hve⟩ : ∃ W, W = v1.alloc (.cells #[.int .i64 3, .string { data := #[] }, .int .i64 0, .int .i64 k1, .int .i64 n1, .string (bs s1), .string (bs m1), .slice A1 na1 ca1, .slice O1 no1 co1, .slice none 0 0, .slice none 0 0] 136) := ⟨_, rfl⟩
 have hbe : Below v1.heap.size v1 ve := by rw [hve]; exact (Below.refl _ _).alloc (Nat.le_refl _) _
 have E0 := hI (show HB 136 ve sb #[.int .i64 3, .string { data := #[] }, .int .i64 0, .int .i64 k1, .int .i64 n1, .string (bs s1), .string (bs m1), .slice A1 na1 ca1, .slice O1 no1 co1, .slice none 0 0, .slice none 0 0] from by rw [hve, hsb]; exact heap_alloc_new v1 _)
 have HOE := hI (show w0.heap.size <= sb from by rw [hsb]; exact B.out.size)
 obtain h0 := V1.out
 clear V1
 have V1 := hI ((h0.more (S' := fun k => w0.heap.size <= k /\ k ≠ sb) fun k hk hk2 => ⟨hk2, by omega⟩).below hbe)
 clear h0 YB1
 replace B := hI (B.out.trans (hbe.mono B.out.size))
 clear hbe
 go_upto_region 3 with fail
 rw [<- hve, <- hsb]
 clear hve hsb
 rcases HR1.out.cases with ⟨r, j, hP, rfl, rfl, hA⟩ | ⟨r, j, hP, rfl, hA⟩
 ·have AR := hI hA
  have HP := hI hP
  clear hP hA HR1
  have KA := hI (HBL.out ve j r (pE_len HP.out) (S0.out.below B.out) AR.out)
  go_wp2_with fail
  refine KA.out.mono ?_
  rintro e w2 ⟨l, AA, am, ac, nx, bd, rfl, hv, hb, hr⟩
  have VL := hI (hv.more (S' := fun k => w0.heap.size <= k /\ k ≠ sb) fun k _ hk => ⟨Nat.le_trans B.out.size hk, fun e => by have := E0.out.lt; omega⟩)
  have HR2 := hI hr
  replace E0 := hI (E0.out.below hb)
  replace V1 := hI (V1.out.below hb)
  replace B := hI (B.out.trans (hb.mono B.out.size))
  clear hv hb hr KA
  have cE : w2.cell? ⟨sb, 9, none⟩ = some (.slice none 0 0) := by rw [cell_of_row _ _ _ _ _ _ E0.out]; rfl
  have fE : w2.frozen? ⟨sb, 9, none⟩ = false := by simp [World.frozen?, show w2.heap[sb]? = _ from E0.out]
  replace E0 := hI (E0.out.set 9 (.slice AA am ac))
  have g9 := gr_put w2 sb 9 (.slice AA am ac)
  replace B := hI (B.out.trans (below_gr g9 B.out.size HOE.out))
  replace V1 := hI (V1.out.gr (S' := fun b => w0.heap.size <= b /\ b ≠ sb) g9 (fun b _ hb => ⟨hb.2, hb⟩))
  replace VL := hI (VL.out.gr (S' := fun b => w0.heap.size <= b /\ b ≠ sb) g9 (fun b _ hb => ⟨hb.2, hb⟩))
  clear g9
  go_upto_region 7 with fail
  clear cE fE
  generalize w2.setCell ⟨sb, 9, none⟩ (.slice AA am ac) = w3 at *
  rcases HR2.out.cases with ⟨r', j', hP', rfl, rfl, hA'⟩ | ⟨r', j', hP', rfl, hA'⟩
  ·have AR2 := hI hA'
   have HP2 := hI hP'
   clear hP' hA' HR2
   obtain ⟨b0, off0, c00, c01, c02⟩ := (S0.out.below B.out).cells AR2.out.k
   go_wp2_with fail
   refine (ris_any r' _ [101, 108, 115, 101] _).mono ?_
   rintro e wi3 ⟨rfl, hb⟩
   replace E0 := hI (E0.out.below hb)
   replace V1 := hI (V1.out.below hb)
   replace VL := hI (VL.out.below hb)
   replace B := hI (B.out.trans (hb.mono B.out.size))
   clear hb
   clear b0 c00 c01 c02
   cases hq : isT [101, 108, 115, 101] r' with
   | false =>
    have Q3 := hI hq
    clear hq
    go_wp2_with (with_reducible refine at_load_ (t := 136) ?_; refine Hid.out ?_)
    refine hI ?_
    refine wpList_load_row rfl _ _ rfl sb rfl _ _ _ _ E0.out Tryz.underlying136 rfl rt_size ?_
    have X := hI (X0.out.below B.out)
    go_wp2_with (with_reducible refine at_store_ (t := 136) ?_; refine Hid.out ?_)
    refine hI ?_
    refine hb_put rfl _ _ rfl rfl w.heap.size rfl rfl rt_size (by simp [Value.oneCell']) X.out rfl ?_
    intro wz hxz hgz hsz
    clear hsz
    have XZ := hI hxz
    have GZ := hI hgz
    have BZ := hI (bz_of B00.out B.out hgz)
    clear hxz hgz X
    go_wp2_with fail
    refine bodyPost_ret (results_row3 rfl _ _ w.heap.size _ _ _ _ rfl XZ.out Tryz.underlying136 rfl rt_size _ _ rfl rfl) rfl ?_
    exact ⟨.mk 3 [] 0 x1 l [], _, j', -1, rfl, SV.shut (by unfold InR; omega) (V1.out.gr (S' := fun b => w.heap.size <= b) GZ.out (fun b _ (hb : w0.heap.size <= b /\ b ≠ sb) => ⟨by have := HSZ.out; omega, by have := HSZ.out; omega⟩)) (VL.out.gr (S' := fun b => w.heap.size <= b) GZ.out (fun b _ (hb : w0.heap.size <= b /\ b ≠ sb) => ⟨by have := HSZ.out; omega, by have := HSZ.out; omega⟩)) (SL.nil_ _ _), BZ.out, RR.ok_ (by rw [HPZ.out, pI, HP.out]; dsimp only; rw [HP2.out]; exact if_neg (by rw [show isT tElse r' = false from Q3.out]; decide)) AR2.out⟩
   | true =>
    have Q3 := hI hq
    clear hq
    obtain ⟨jn, hjn⟩ : ∃ k, k = j' + 1 := ⟨_, rfl⟩
    have Wjn : IntKind.i64.wrap ((j' : Int) + 1) = (jn : Int) := by rw [hjn]; exact S0.out.wrap AR2.out 1 (by omega)
    have Hjn := hI hjn
    clear hjn
    have AT4 := hI (show AtR L jn r'.tail from by rw [Hjn.out]; exact isT_next Q3.out AR2.out EN.out)
    obtain ⟨b0, off0, c00, c01, c02⟩ := (S0.out.below B.out).cells AT4.out.k
    go_wp2_with fail
    refine (ris_any r'.tail _ [105, 102] _).mono ?_
    rintro e wi4 ⟨rfl, hb⟩
    replace E0 := hI (E0.out.below hb)
    replace V1 := hI (V1.out.below hb)
    replace VL := hI (VL.out.below hb)
    replace B := hI (B.out.trans (hb.mono B.out.size))
    clear hb
    clear b0 c00 c01 c02
    cases hq : isT [105, 102] r'.tail with
    | true =>
     have Q4 := hI hq
     clear hq
     have KX := hI (HBR.out wi4 jn r'.tail Q4.out (by have := pBl_len HP2.out; have := pE_len HP.out; have := isT_len Q3.out; omega) (S0.out.below B.out) AT4.out)
     go_wp2_with fail
     refine KX.out.mono ?_
     rintro e w4 ⟨x4, cs, nx4, bd4, rfl, hv, hb, hr⟩
     obtain ⟨k4, s4, n4, ek4, en4, es4, em4, eA4, ena4, eca4, eO4, eno4, eco4, Bb4, nb4, cb4, Ll4, nl4, cl4, rfl⟩ := hv.cells11
     rw [show (stC k4 s4 n4 (exC ek4 en4 es4 em4 eA4 ena4 eca4 eO4 eno4 eco4) Bb4 nb4 cb4 Ll4 nl4 cl4).toArray = #[.int .i64 k4, .string (bs s4), .int .i64 n4, .int .i64 ek4, .int .i64 en4, .string (bs es4), .string (bs em4), .slice eA4 ena4 eca4, .slice eO4 eno4 eco4, .slice Bb4 nb4 cb4, .slice Ll4 nl4 cl4] from rfl]
     obtain ⟨v4, hv4⟩ : ∃ W, W = w4.alloc (.cells #[.int .i64 k4, .string (bs s4), .int .i64 n4, .int .i64 ek4, .int .i64 en4, .string (bs es4), .string (bs em4), .slice eA4 ena4 eca4, .slice eO4 eno4 eco4, .slice Bb4 nb4 cb4, .slice Ll4 nl4 cl4] 136) := ⟨_, rfl⟩
     have hb2 : Below w4.heap.size w4 v4 := by rw [hv4]; exact (Below.refl _ _).alloc (Nat.le_refl _) _
     have HR4 := hI hr
     have YB4 := hI (show HB 136 v4 w4.heap.size #[.int .i64 k4, .string (bs s4), .int .i64 n4, .int .i64 ek4, .int .i64 en4, .string (bs es4), .string (bs em4), .slice eA4 ena4 eca4, .slice eO4 eno4 eco4, .slice Bb4 nb4 cb4, .slice Ll4 nl4 cl4] from by rw [hv4]; exact heap_alloc_new w4 _)
     have HO4 := hI (show w0.heap.size <= w4.heap.size from Nat.le_trans B.out.size hb.size)
     have V4 := hI ((hv.more (S' := fun k => w0.heap.size <= k /\ k ≠ sb) fun k hk2 hk => ⟨Nat.le_trans B.out.size hk, fun e => by have := E0.out.lt; omega⟩).below hb2)
     replace E0 := hI (E0.out.below hb)
     replace V1 := hI (V1.out.below hb)
     replace VL := hI (VL.out.below hb)
     replace B := hI (B.out.trans (hb.mono B.out.size))
     replace E0 := hI (E0.out.below hb2)
     replace V1 := hI (V1.out.below hb2)
     replace VL := hI (VL.out.below hb2)
     replace B := hI (B.out.trans (hb2.mono B.out.size))
     clear hv hb hr hb2 KX
     go_upto_region 11 with fail
     rw [<- hv4]
     clear hv4
     generalize w4.heap.size = yb4 at *
     go_wp2_with (with_reducible refine at_load_ (t := 136) ?_; refine Hid.out ?_)
     refine hI ?_
     refine wpList_load_row rfl _ _ rfl yb4 rfl _ _ _ _ YB4.out Tryz.underlying136 rfl rt_size ?_
     obtain ⟨wv, hwv⟩ : ∃ W, W = v4.alloc (.cells #[.int .i64 k4, .string (bs s4), .int .i64 n4, .int .i64 ek4, .int .i64 en4, .string (bs es4), .string (bs em4), .slice eA4 ena4 eca4, .slice eO4 eno4 eco4, .slice Bb4 nb4 cb4, .slice Ll4 nl4 cl4] 136) := ⟨_, rfl⟩
     have hbv : Below v4.heap.size v4 wv := by rw [hwv]; exact (Below.refl _ _).alloc (Nat.le_refl _) _
     have hrv : wv.heap[v4.heap.size]? = some (.cells #[.int .i64 k4, .string (bs s4), .int .i64 n4, .int .i64 ek4, .int .i64 en4, .string (bs es4), .string (bs em4), .slice eA4 ena4 eca4, .slice eO4 eno4 eco4, .slice Bb4 nb4 cb4, .slice Ll4 nl4 cl4] 136 (0, 0)) := by rw [hwv]; exact heap_alloc_new v4 _
     have VO := hI (SL.one (S := fun k => w0.heap.size <= k /\ k ≠ sb) (V4.out.below hbv) hrv ⟨B.out.size, fun e => by have := E0.out.lt; omega⟩)
     replace V1 := hI (V1.out.below hbv)
     replace VL := hI (VL.out.below hbv)
     replace E0 := hI (E0.out.below hbv)
     replace B := hI (B.out.trans (hbv.mono B.out.size))
     have cE : wv.cell? ⟨sb, 10, none⟩ = some (.slice none 0 0) := by rw [cell_of_row _ _ _ _ _ _ E0.out]; rfl
     have fE : wv.frozen? ⟨sb, 10, none⟩ = false := by simp [World.frozen?, show wv.heap[sb]? = _ from E0.out]
     replace E0 := hI (E0.out.set 10 (.slice (some ⟨v4.heap.size, 0, none⟩) 1 1))
     have g9 := gr_put wv sb 10 (.slice (some ⟨v4.heap.size, 0, none⟩) 1 1)
     replace B := hI (B.out.trans (below_gr g9 B.out.size HOE.out))
     replace V1 := hI (V1.out.gr (S' := fun b => w0.heap.size <= b /\ b ≠ sb) g9 (fun b _ hb => ⟨hb.2, hb⟩))
     replace VL := hI (VL.out.gr (S' := fun b => w0.heap.size <= b /\ b ≠ sb) g9 (fun b _ hb => ⟨hb.2, hb⟩))
     replace VO := hI (VO.out.gr (S' := fun b => w0.heap.size <= b /\ b ≠ sb) g9 (fun b _ hb => ⟨hb.2, hb⟩))
     clear g9
     rw [hwv] at cE fE
     clear hbv hrv V4 YB4
     go_wp2_with (with_reducible refine at_load_ (t := 136) ?_; refine Hid.out ?_)
     refine hI ?_
     rw [<- hwv]
     clear hwv cE fE
     generalize v4.heap.size = ob at *
     generalize wv.setCell ⟨sb, 10, none⟩ (.slice (some ⟨ob, 0, none⟩) 1 1) = w9 at *
     refine wpList_load_row rfl _ _ rfl sb rfl _ _ _ _ E0.out Tryz.underlying136 rfl rt_size ?_
     have X := hI (X0.out.below B.out)
     go_wp2_with (with_reducible refine at_store_ (t := 136) ?_; refine Hid.out ?_)
     refine hI ?_
     refine hb_put rfl _ _ rfl rfl w.heap.size rfl rfl rt_size (by simp [Value.oneCell']) X.out rfl ?_
     intro wz hxz hgz hsz
     clear hsz
     have XZ := hI hxz
     have GZ := hI hgz
     have BZ := hI (bz_of B00.out B.out hgz)
     clear hxz hgz X
     go_wp2_with fail
     refine bodyPost_ret (results_row3 rfl _ _ w.heap.size _ _ _ _ rfl XZ.out Tryz.underlying136 rfl rt_size _ _ rfl rfl) rfl ?_
     exact ⟨.mk 3 [] 0 x1 l [x4], _, _, _, rfl, SV.shut (by unfold InR; omega) (V1.out.gr (S' := fun b => w.heap.size <= b) GZ.out (fun b _ (hb : w0.heap.size <= b /\ b ≠ sb) => ⟨by have := HSZ.out; omega, by have := HSZ.out; omega⟩)) (VL.out.gr (S' := fun b => w.heap.size <= b) GZ.out (fun b _ (hb : w0.heap.size <= b /\ b ≠ sb) => ⟨by have := HSZ.out; omega, by have := HSZ.out; omega⟩)) (VO.out.gr (S' := fun b => w.heap.size <= b) GZ.out (fun b _ (hb : w0.heap.size <= b /\ b ≠ sb) => ⟨by have := HSZ.out; omega, by have := HSZ.out; omega⟩)), BZ.out, (by rw [HPZ.out, pI, HP.out]; dsimp only; rw [HP2.out]; dsimp only; rw [if_pos (show isT tElse r' = true from Q3.out), if_pos (show isT tIf r'.tail = true from Q4.out)]; have h := HR4.out.map (fun s => St.mk 3 [] 0 x1 l [s]); generalize pI f r'.tail.tail = P at h ⊢; cases P <;> exact h)⟩
    | false =>
     have Q4 := hI hq
     clear hq
     have KA := hI (HBL.out wi4 jn r'.tail (by have := pBl_len HP2.out; have := pE_len HP.out; have := isT_len Q3.out; omega) (S0.out.below B.out) AT4.out)
     go_wp2_with fail
     refine KA.out.mono ?_
     rintro e w5 ⟨l5, A5, m5, c5, nx5, bd5, rfl, hv, hb, hr⟩
     have VM := hI (hv.more (S' := fun k => w0.heap.size <= k /\ k ≠ sb) fun k _ hk => ⟨Nat.le_trans B.out.size hk, fun e => by have := E0.out.lt; omega⟩)
     have HR5 := hI hr
     replace E0 := hI (E0.out.below hb)
     replace V1 := hI (V1.out.below hb)
     replace VL := hI (VL.out.below hb)
     replace B := hI (B.out.trans (hb.mono B.out.size))
     clear hv hb hr KA
     have cE : w5.cell? ⟨sb, 10, none⟩ = some (.slice none 0 0) := by rw [cell_of_row _ _ _ _ _ _ E0.out]; rfl
     have fE : w5.frozen? ⟨sb, 10, none⟩ = false := by simp [World.frozen?, show w5.heap[sb]? = _ from E0.out]
     replace E0 := hI (E0.out.set 10 (.slice A5 m5 c5))
     have g9 := gr_put w5 sb 10 (.slice A5 m5 c5)
     replace B := hI (B.out.trans (below_gr g9 B.out.size HOE.out))
     replace V1 := hI (V1.out.gr (S' := fun b => w0.heap.size <= b /\ b ≠ sb) g9 (fun b _ hb => ⟨hb.2, hb⟩))
     replace VL := hI (VL.out.gr (S' := fun b => w0.heap.size <= b /\ b ≠ sb) g9 (fun b _ hb => ⟨hb.2, hb⟩))
     replace VM := hI (VM.out.gr (S' := fun b => w0.heap.size <= b /\ b ≠ sb) g9 (fun b _ hb => ⟨hb.2, hb⟩))
     clear g9
     go_wp2_with (with_reducible refine at_load_ (t := 136) ?_; refine Hid.out ?_)
     refine hI ?_
     clear cE fE
     generalize w5.setCell ⟨sb, 10, none⟩ (.slice A5 m5 c5) = w6 at *
     refine wpList_load_row rfl _ _ rfl sb rfl _ _ _ _ E0.out Tryz.underlying136 rfl rt_size ?_
     have X := hI (X0.out.below B.out)
     go_wp2_with (with_reducible refine at_store_ (t := 136) ?_; refine Hid.out ?_)
     refine hI ?_
     refine hb_put rfl _ _ rfl rfl w.heap.size rfl rfl rt_size (by simp [Value.oneCell']) X.out rfl ?_
     intro wz hxz hgz hsz
     clear hsz
     have XZ := hI hxz
     have GZ := hI hgz
     have BZ := hI (bz_of B00.out B.out hgz)
     clear hxz hgz X
     go_wp2_with fail
     refine bodyPost_ret (results_row3 rfl _ _ w.heap.size _ _ _ _ rfl XZ.out Tryz.underlying136 rfl rt_size _ _ rfl rfl) rfl ?_
     exact ⟨.mk 3 [] 0 x1 l l5, _, _, _, rfl, SV.shut (by unfold InR; omega) (V1.out.gr (S' := fun b => w.heap.size <= b) GZ.out (fun b _ (hb : w0.heap.size <= b /\ b ≠ sb) => ⟨by have := HSZ.out; omega, by have := HSZ.out; omega⟩)) (VL.out.gr (S' := fun b => w.heap.size <= b) GZ.out (fun b _ (hb : w0.heap.size <= b /\ b ≠ sb) => ⟨by have := HSZ.out; omega, by have := HSZ.out; omega⟩)) (VM.out.gr (S' := fun b => w.heap.size <= b) GZ.out (fun b _ (hb : w0.heap.size <= b /\ b ≠ sb) => ⟨by have := HSZ.out; omega, by have := HSZ.out; omega⟩)), BZ.out, (by rw [HPZ.out, pI, HP.out]; dsimp only; rw [HP2.out]; dsimp only; rw [if_pos (show isT tElse r' = true from Q3.out), if_neg (show ¬ isT tIf r'.tail = true from by rw [show isT tIf r'.tail = false from Q4.out]; decide)]; have h := HR5.out.map (fun s => St.mk 3 [] 0 x1 l s); generalize pBl f r'.tail = P at h ⊢; cases P <;> exact h)⟩
  have AR2 := hI hA'
  have HP2 := hI hP'
  clear hP' hA' HR2
  have eb2 : (0 : Int) <= (j' : Int) := by omega
  go_wp2_with (with_reducible refine at_load_ (t := 136) ?_; refine Hid.out ?_)
  refine hI ?_
  refine wpList_load_row rfl _ _ rfl sb rfl _ _ _ _ E0.out Tryz.underlying136 rfl rt_size ?_
  have X := hI (X0.out.below B.out)
  go_wp2_with (with_reducible refine at_store_ (t := 136) ?_; refine Hid.out ?_)
  refine hI ?_
  refine hb_put rfl _ _ rfl rfl w.heap.size rfl rfl rt_size (by simp [Value.oneCell']) X.out rfl ?_
  intro wz hxz hgz hsz
  clear hsz
  have XZ := hI hxz
  have GZ := hI hgz
  have BZ := hI (bz_of B00.out B.out hgz)
  clear hxz hgz X
  go_wp2_with fail
  refine bodyPost_ret (results_row3 rfl _ _ w.heap.size _ _ _ _ rfl XZ.out Tryz.underlying136 rfl rt_size _ _ rfl rfl) rfl ?_
  exact ⟨.mk 3 [] 0 x1 l [], _, _, j', rfl, SV.shut (by unfold InR; omega) (V1.out.gr (S' := fun b => w.heap.size <= b) GZ.out (fun b _ (hb : w0.heap.size <= b /\ b ≠ sb) => ⟨by have := HSZ.out; omega, by have := HSZ.out; omega⟩)) (VL.out.gr (S' := fun b => w.heap.size <= b) GZ.out (fun b _ (hb : w0.heap.size <= b /\ b ≠ sb) => ⟨by have := HSZ.out; omega, by have := HSZ.out; omega⟩)) (SL.nil_ _ _), BZ.out, RR.bad_ (by rw [HPZ.out, pI, HP.out]; dsimp only; rw [HP2.out]) AR2.out⟩
 have AR := hI hA
 have HP := hI hP
 clear hP hA HR1
 have eb1 : (0 : Int) <= (j : Int) := by omega
 go_wp2_with (with_reducible refine at_load_ (t := 136) ?_; refine Hid.out ?_)
 refine hI ?_
 refine wpList_load_row rfl _ _ rfl sb rfl _ _ _ _ E0.out Tryz.underlying136 rfl rt_size ?_
 have X := hI (X0.out.below B.out)
 go_wp2_with (with_reducible refine at_store_ (t := 136) ?_; refine Hid.out ?_)
 refine hI ?_
 refine hb_put rfl _ _ rfl rfl w.heap.size rfl rfl rt_size (by simp [Value.oneCell']) X.out rfl ?_
 intro wz hxz hgz hsz
 clear hsz
 have XZ := hI hxz
 have GZ := hI hgz
 have BZ := hI (bz_of B00.out B.out hgz)
 clear hxz hgz X
 go_wp2_with fail
 refine bodyPost_ret (results_row3 rfl _ _ w.heap.size _ _ _ _ rfl XZ.out Tryz.underlying136 rfl rt_size _ _ rfl rfl) rfl ?_
 exact ⟨.mk 3 [] 0 x1 [] [], _, _, j, rfl, SV.shut (by unfold InR; omega) (V1.out.gr (S' := fun b => w.heap.size <= b) GZ.out (fun b _ (hb : w0.heap.size <= b /\ b ≠ sb) => ⟨by have := HSZ.out; omega, by have := HSZ.out; omega⟩)) (SL.nil_ _ _) (SL.nil_ _ _), BZ.out, RR.bad_ (by rw [HPZ.out, pI, HP.out]) AR.out⟩
end Go.Proofs.YtkakbidllpjopaaGreatDoor
