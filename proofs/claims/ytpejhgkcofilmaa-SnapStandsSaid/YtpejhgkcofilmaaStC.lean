/- The walk of the store's Cut. Conditions: the maps and lists lie in blocks that meet S; the list is ascending. -/
import Derived.Test.YtpejhgkcofilmaaStB
set_option linter.unusedVariables false
namespace Go.Proofs.Ytpejhgkcofilmaa
open Go.RowKit

theorem wp_ins_mine {P : Program} {w : World} {K : Act → World → Prop} {o : Oper} {a : Act} {Q : Exit → Act → World → Prop} (m x v : Operand) (t : TypeId) (hop : o.op = Op.insert t m x v) (k e : TypeId) (ht : P.underlying t = some (.map k e)) (hk : P.underlying k = some (.int .i64)) (b : Nat) (f : Int → Option Value) (h : IntMap w b f)
    (hm : a.eval m = .map (some b)) (i : Int) (hx : a.eval x = .int .i64 i) (u : Value) (hv : a.eval v = u)
    (hK : ∀ w', IntMap w' b (upd f i u) → w.grownBy w' (some b) → w'.heap.size = w.heap.size → K (a.put o.dst undef) w') : o.wp P a w K Q := by
  obtain ⟨w', hrun, r1, r2, r3⟩ := h.store ht hk i u
  unfold Oper.wp
  simp [execOp, hop, hm, hx, hv, hrun, Result.andThen]
  exact hK w' r1 r2 r3
/-- S but two blocks. -/
def SX (S : Nat → Prop) (p m : Nat) (b : Nat) : Prop := S b ∧ b ≠ p ∧ b ≠ m
/-- The cells that a cut gives. -/
def oneL (i : Int) (l : List (Int × Int)) : Int → Option (List (Int × Int)) := fun k => if k = i then some l else none

set_option maxRecDepth 100000 in
set_option maxHeartbeats 12800000 in
theorem scut_no (c n : Int) (b1 b2 : Option Nat) (B : Nat → Bool) (T : Nat → Int) (i t : Int) (w : World) (h : (decide (0 ≤ i) && decide (i < c)) = false ∨ ((decide (0 ≤ i) && decide (i < c)) = true ∧ n < t)) :
    Calls Try.prog 40 #[sto c n (.map b1) (.map b2) B T, .int .i64 i, .int .i64 t] w fun e w' => e = .returned (sto c n (.map b1) (.map b2) B T) ∧ Below w.heap.size w w' := by
  have H1 := Lib.hid fun (o2 : Obj) => heap_alloc2_old w (.cells (stoCells c n (.map b1) (.map b2) B T) 57) o2
  have H2 := Lib.hid fun (o1 o2 : Obj) => heap_alloc2_new w o1 o2
  rcases h with h | ⟨h, hnt⟩
  all_goals
    have HC := Lib.hid h
    clear h
    go_enter Try.func40, Try.ntmps40
    go_wp2_with (first
      | (with_reducible refine at_box_ (t := 57) ?_; refine box_sto rfl _ rfl _ rfl (c := c) (n := n) (ml := .map b1) (mw := .map b2) (B := B) (T := T) rfl ?_)
      | (with_reducible refine at_alloc_ (t := 57) ?_; refine wpList_alloc_mine rfl 57 rfl _ rfl (stoZ 0) stoZ_zero rfl ?_)
      | (with_reducible refine at_load_ (t := 57) ?_; refine get_sto rfl _ rfl w.heap.size rfl (H1.out _) ?_))
    refine (scell_any c n b1 b2 B T i _).mono ?_
    rintro e w2 ⟨rfl, hb2⟩
    rw [HC.out]
    have P := Lib.hid ((hb2.block w.heap.size (by simp; omega)).trans (H1.out _))
    have P' := Lib.hid ((hb2.block (w.heap.size + 1) (by simp)).trans (H2.out _ _))
    have hb0 : Below w.heap.size w ((w.alloc (.cells (stoCells c n (.map b1) (.map b2) B T) 57)).alloc (.cells (stoZ 0) 57)) := ((Below.refl _ _).alloc (Nat.le_refl _) _).alloc (by simp) _
    have HB := Lib.hid (hb0.trans (hb2.mono hb0.size))
    have hx1 : w2.cell? ⟨w.heap.size, 1, none⟩ = some (.int .i64 n) := (sto_all P.out).2.1
    clear hb2 hb0 H1 H2
    go_wp2_with (first
      | (with_reducible refine at_load_ (t := 57) ?_; refine get_sto rfl _ rfl w.heap.size rfl P.out ?_)
      | (with_reducible refine at_store_ (t := 57) ?_; refine Hid.out ?_))
    refine Lib.hid ?_
    refine put_sto rfl (.tmp 6) (.tmp 17) rfl rfl (w.heap.size + 1) rfl rfl P'.out rfl ?_
    go_wp2_with fail
    have hl := load_sto _ _ _ _ _ (setRow_heap w2 (w.heap.size + 1) _ (stoCells c n (.map b1) (.map b2) B T) _ _ P'.out) rfl
    refine bodyPost_ret (v := sto c n (.map b1) (.map b2) B T) ?_ rfl ⟨rfl, below_setRow HB.out (Nat.le_succ _) _⟩
    simp [results, Try.results40, asAddr, hl, sto, Result.andThen]

set_option maxRecDepth 100000 in
set_option maxHeartbeats 25600000 in
theorem scut_ok {S : Nat → Prop} (c n : Int) (b1 b2 : Option Nat) (B : Nat → Bool) (T : Nat → Int) (f : Int → Option Value) (g : Int → Option (List (Int × Int))) (W : Int → Option Int) (i t : Int) (w : World) (hS : ∀ b, w.heap.size ≤ b → S b)
    (hm : IsMap w S (.map b1) f) (hg : LMap w S f g) (h2 : IsMap w S (.map b2) (wmap W)) (ha : Asc (listOf c g i)) (hl : (listOf c g i).length ≤ 1099511627776) (h : (decide (0 ≤ i) && decide (i < c)) = true) (hnt : t ≤ n) :
    Calls Try.prog 40 #[sto c n (.map b1) (.map b2) B T, .int .i64 i, .int .i64 t] w fun e w' =>
      ∃ b5 b6 f', e = .returned (sto c n (.map (some b5)) (.map (some b6)) B T) ∧ IsMap w' S (.map (some b5)) f' ∧ LMap w' S f' (fun k => (oneL i ((listOf c g i).drop (aft (listOf c g i) t - 1)) k).or (g k)) ∧
        IsMap w' S (.map (some b6)) (wmap W) ∧ Below w.heap.size w w' := by
  have H1 := Lib.hid fun (o2 : Obj) => heap_alloc2_old w (.cells (stoCells c n (.map b1) (.map b2) B T) 57) o2
  have H2 := Lib.hid fun (o1 o2 : Obj) => heap_alloc2_new w o1 o2
  have HC := Lib.hid h
  have hmm := @run_makeMap Try.prog
  have HS' := Lib.hid (show ∀ (W' : World) (m : Nat), w.heap.size + 2 ≤ W'.heap.size → m < W'.heap.size → ∀ b, W'.heap.size ≤ b → SX S (w.heap.size + 1) m b from fun W' m h1 h2 b hb => ⟨hS b (by omega), by omega, by omega⟩)
  have HS1 := Lib.hid (show ∀ b, w.heap.size + 2 ≤ b → SX S (w.heap.size + 1) (w.heap.size + 1) b from fun b hb => ⟨hS b (by omega), by omega, by omega⟩)
  have HM := Lib.hid fun m (h0 : w.heap.size ≤ m) => hm.more (S' := SX S (w.heap.size + 1) m) fun b hb h => ⟨h, by omega, by omega⟩
  have HG := Lib.hid fun m (h0 : w.heap.size ≤ m) => hg.more (S' := SX S (w.heap.size + 1) m) fun b hb h => ⟨h, by omega, by omega⟩
  have HU := Lib.hid fun m (h0 : w.heap.size ≤ m) => h2.more (S' := SX S (w.heap.size + 1) m) fun b hb h => ⟨h, by omega, by omega⟩
  have HAS := Lib.hid (And.intro ha hl)
  have CL := Lib.hid fun (m : Nat) (W' : World) (hb : Below w.heap.size w W') (hz : w.heap.size + 2 ≤ W'.heap.size) (h0 : w.heap.size ≤ m) (h1 : m < W'.heap.size) => slist_any (S := SX S (w.heap.size + 1) m) c n b1 b2 B T f g i W' (HS'.out W' m hz h1) ((HM.out m h0).below hb) ((HG.out m h0).below hb)
  have CC := Lib.hid fun (q : Nat) (A : Option Addr) (m cc : Nat) (W' : World) (hz : w.heap.size + 2 ≤ W'.heap.size) (h1 : q < W'.heap.size) (hc : m ≤ cc) (ho : Ones W' (SX S (w.heap.size + 1) q) A m (listOf c g i)) => cut_any (S := SX S (w.heap.size + 1) q) A m cc (listOf c g i) t W' (HS'.out W' q hz h1) ho HAS.out.1 hc HAS.out.2
  clear h hm hg h2 ha hl
  go_enter Try.func40, Try.ntmps40
  go_wp2_with (first
    | (with_reducible refine at_box_ (t := 57) ?_; refine box_sto rfl _ rfl _ rfl (c := c) (n := n) (ml := .map b1) (mw := .map b2) (B := B) (T := T) rfl ?_)
    | (with_reducible refine at_alloc_ (t := 57) ?_; refine wpList_alloc_mine rfl 57 rfl _ rfl (stoZ 0) stoZ_zero rfl ?_)
    | (with_reducible refine at_load_ (t := 57) ?_; refine get_sto rfl _ rfl w.heap.size rfl (H1.out _) ?_))
  refine (scell_any c n b1 b2 B T i _).mono ?_
  rintro e w2 ⟨rfl, hb2⟩
  rw [HC.out]
  have P := Lib.hid ((hb2.block w.heap.size (by simp; omega)).trans (H1.out _))
  have P' := Lib.hid ((hb2.block (w.heap.size + 1) (by simp)).trans (H2.out _ _))
  have hb0 : Below w.heap.size w ((w.alloc (.cells (stoCells c n (.map b1) (.map b2) B T) 57)).alloc (.cells (stoZ 0) 57)) := ((Below.refl _ _).alloc (Nat.le_refl _) _).alloc (by simp) _
  have HB := Lib.hid (hb0.trans (hb2.mono hb0.size))
  have HZ := Lib.hid (show w.heap.size + 2 ≤ w2.heap.size by have := lt_of_block P'.out; omega)
  have hx1 : w2.cell? ⟨w.heap.size, 1, none⟩ = some (.int .i64 n) := (sto_all P.out).2.1
  clear hb2 hb0 H1 H2
  go_wp2_with fail
  refine wp_region_held_drew (S := fun W => W.heap[w.heap.size]? = some (.cells (stoCells c n (.map b1) (.map b2) B T) 57 (0, 0))) (by kernel_rfl) P.out (fun hHeld => ?_)
  have PD := Lib.hid (show w2.drew.heap[w.heap.size + 1]? = some (.cells (stoZ 0) 57) from P'.out)
  have HBD := Lib.hid HB.out.drew
  have HZD := Lib.hid (show w.heap.size + 2 ≤ w2.drew.heap.size from HZ.out)
  have HHD := Lib.hid hHeld
  clear hx1 P P' HB HZ hHeld
  generalize w2.drew = w3 at *
  refine wpAnyH_take (i := 0) (oi := ⟨some 18, _, _, _, _, _⟩) (v := sto c n (.map b1) (.map b2) B T) rfl (by kernel_rfl) (by kernel_rfl) (by kernel_rfl) (fun _ _ _ h => h) (yields_sto (by rfl) _ rfl w.heap.size rfl 57 (0, 0) (fun _ h => h)) HHD.out ?_
  try simp only [Act.put, List.setIfInBounds_toArray, List.set_cons_zero, List.set_cons_succ]
  refine wpAnyH_take (i := 2) (oi := ⟨some 20, _, _, _, _, _⟩) (v := .int .i64 i) rfl (by kernel_rfl) (by kernel_rfl) (by kernel_rfl) (fun _ _ _ h => h) (Or.inl ⟨by rfl, ?_⟩) HHD.out ?_
  · intro W' hW
    go_simp
  try simp only [Act.put, List.setIfInBounds_toArray, List.set_cons_zero, List.set_cons_succ]
  refine wpAnyH_take (i := 3) (oi := ⟨some 21, _, _, _, _, _⟩) (v := sto c n (.map b1) (.map b2) B T) rfl (by kernel_rfl) (by kernel_rfl) (by kernel_rfl) (fun _ _ _ h => h) (yields_sto (by rfl) _ rfl w.heap.size rfl 57 (0, 0) (fun _ h => h)) HHD.out ?_
  try simp only [Act.put, List.setIfInBounds_toArray, List.set_cons_zero, List.set_cons_succ]
  refine wpAnyH_take (i := 4) (oi := ⟨some 22, _, _, _, _, _⟩) (v := .int .i64 i) rfl (by kernel_rfl) (by kernel_rfl) (by kernel_rfl) (fun _ _ _ h => h) (Or.inl ⟨by rfl, ?_⟩) HHD.out ?_
  · intro W' hW
    go_simp
  try simp only [Act.put, List.setIfInBounds_toArray, List.set_cons_zero, List.set_cons_succ]
  refine wpAnyH_take (i := 6) (oi := ⟨some 24, _, _, _, _, _⟩) (v := .int .i64 t) rfl (by kernel_rfl) (by kernel_rfl) (by kernel_rfl) (fun _ _ _ h => h) (Or.inl ⟨by rfl, ?_⟩) HHD.out ?_
  · intro W' hW
    go_simp
  try simp only [Act.put, List.setIfInBounds_toArray, List.set_cons_zero, List.set_cons_succ]
  have HH3 := Lib.hid HHD.out
  have PD3 := Lib.hid PD.out
  have HB3 := Lib.hid HBD.out
  have HZ3 := Lib.hid HZD.out
  clear PD HBD HZD
  refine wpAnyH_ready (rs := [1, 5]) (by kernel_rfl) (by simp) ?_
  refine AllReadyH.cons (o := ⟨some 19, _, _, _, _, _⟩) rfl (fun K hK => ?_) (AllReadyH.cons (o := ⟨some 23, _, _, _, _, _⟩) rfl (fun K hK => ?_) (AllReadyH.nil))
  · skip
    go_simp
    have IM4 := Lib.hid (IntMap.made w3)
    have HQ4 := Lib.hid HZ3.out
    have hb4 := (Below.refl w3.heap.size w3).alloc (Nat.le_refl _) (.map #[] 0)
    have HH4 := Lib.hid ((hb4.block w.heap.size (lt_of_block HH3.out)).trans HH3.out)
    have PD4 := Lib.hid ((hb4.block (w.heap.size + 1) (lt_of_block PD3.out)).trans PD3.out)
    have HB4 := Lib.hid (HB3.out.trans (hb4.mono HB3.out.size))
    have HZ4 := Lib.hid (Nat.le_trans HZ3.out hb4.size)
    have HQL := Lib.hid (show w3.heap.size < (w3.alloc (.map #[] 0)).heap.size by simp)
    clear hb4
    generalize w3.alloc (.map #[] 0) = w4 at *
    generalize w3.heap.size = m at *
    refine hK.out _ _ HH4.out (fun hHeld4 => ?_)
    clear hK
    try simp only [Act.put, List.setIfInBounds_toArray, List.set_cons_zero, List.set_cons_succ]
    have HQM := Lib.hid HQ4.out
    refine wpAnyH_ready (rs := [5]) (by kernel_rfl) (by simp) ?_
    refine AllReadyH.cons (o := ⟨some 23, _, _, _, _, _⟩) rfl (fun K hK => ?_) (AllReadyH.nil)
    go_simp
    refine (CL.out m w4 HB4.out HZ4.out (by have := HZ4.out; first | omega | (have := HQM.out; omega)) (by have := HZ4.out; first | omega | (have := HQL.out; omega))).mono ?_
    rintro e w5 ⟨u, rfl, ⟨A1, n1, c1, rfl, hc1, hc2, hv1⟩, hb5⟩
    have HH5 := Lib.hid ((hb5.block w.heap.size (lt_of_block HH4.out)).trans HH4.out)
    have PD5 := Lib.hid ((hb5.block (w.heap.size + 1) (lt_of_block PD4.out)).trans PD4.out)
    have HB5 := Lib.hid (HB4.out.trans (hb5.mono HB4.out.size))
    have HZ5 := Lib.hid (Nat.le_trans HZ4.out hb5.size)
    have V15 := Lib.hid hv1
    have IM5 := Lib.hid (IM4.out.below hb5)
    have HQL := Lib.hid (show m < w5.heap.size by have h1 := HQL.out; have h2 := hb5.size; omega)
    refine hK.out _ _ HH5.out (fun hHeld5 => ?_)
    clear hK hb5 hv1
    try simp only [Act.put, List.setIfInBounds_toArray, List.set_cons_zero, List.set_cons_succ]
    refine wpAnyH_ready (rs := [7]) (by kernel_rfl) (by simp) ?_
    refine AllReadyH.cons (o := ⟨some 25, _, _, _, _, _⟩) rfl (fun K hK => ?_) (AllReadyH.nil)
    go_simp
    refine (CC.out m A1 n1 c1 w5 HZ5.out (by have := HZ5.out; first | omega | (have := HQL.out; have := HB5.out; omega)) hc1 V15.out).mono ?_
    rintro e w6 ⟨A2, n2, c2, rfl, hd1, hd2, hv2, hb6⟩
    have HH6 := Lib.hid ((hb6.block w.heap.size (lt_of_block HH5.out)).trans HH5.out)
    have PD6 := Lib.hid ((hb6.block (w.heap.size + 1) (lt_of_block PD5.out)).trans PD5.out)
    have HB6 := Lib.hid (HB5.out.trans (hb6.mono HB5.out.size))
    have HZ6 := Lib.hid (Nat.le_trans HZ5.out hb6.size)
    have V26 := Lib.hid hv2
    have IM6 := Lib.hid (IM5.out.below hb6)
    have HQL := Lib.hid (show m < w6.heap.size by have h1 := HQL.out; have h2 := hb6.size; omega)
    refine hK.out _ _ HH6.out (fun hHeld6 => ?_)
    clear hK hb6 hv2
    try simp only [Act.put, List.setIfInBounds_toArray, List.set_cons_zero, List.set_cons_succ]
    have V26' := Lib.hid (show VList w6 (SX S (w.heap.size + 1) m) (.agg #[.slice A2 n2 c2]) ((listOf c g i).drop (aft (listOf c g i) t - 1)) from ⟨A2, n2, c2, rfl, hd1, hd2, V26.out⟩)
    clear hd1 hd2
    refine wpAnyH_ready (rs := [8]) (by kernel_rfl) (by simp) ?_
    refine AllReadyH.cons (o := ⟨none, _, _, _, _, _⟩) rfl (fun K hK => ?_) (AllReadyH.nil)
    refine Eq.mpr (if_pos (by kernel_rfl)) ?_
    refine wp_ins_mine (.tmp 19) (.tmp 20) (.tmp 25) 51 rfl 67 27 Try.underlying51 Try.underlying67 m _ IM6.out rfl i rfl (.agg #[.slice A2 n2 c2]) rfl (fun wi hm5 hg5 hs5 => ?_)
    have hgb : Below w.heap.size w wi := HB6.out.grown hg5 HB6.out.size (fun r hr => by injection hr with hr; have := HQM.out; omega)
    have HHi := Lib.hid ((hg5.block w.heap.size (lt_of_block HH6.out) (by intro e; injection e with e; have := HQM.out; omega)).trans HH6.out)
    have PDi := Lib.hid ((hg5.block (w.heap.size + 1) (lt_of_block PD6.out) (by intro e; injection e with e; have := HQM.out; omega)).trans PD6.out)
    have HBi := Lib.hid hgb
    have HZi := Lib.hid (show w.heap.size + 2 ≤ wi.heap.size by have := HZ6.out; omega)
    have IMi := Lib.hid (show IsMap wi (SX S (w.heap.size + 1) (w.heap.size + 1)) (.map (some m)) (upd (fun _ => none) i (.agg #[.slice A2 n2 c2])) from .inr ⟨m, rfl, HS1.out m HQM.out, hm5.lt, hm5⟩)
    have V3 := Lib.hid ((V26'.out.grown hg5 (fun h => h.2.2 rfl)).more (S' := SX S (w.heap.size + 1) (w.heap.size + 1)) (fun b _ h => ⟨h.1, h.2.1, h.2.1⟩))
    clear hm5 hg5 hs5 hgb
    refine hK.out _ _ HHi.out (fun hHeldi => ?_)
    clear hK
    try simp only [Act.put, List.setIfInBounds_toArray, List.set_cons_zero, List.set_cons_succ]
    refine wpAnyH_take (i := 9) (oi := ⟨some 26, _, _, _, _, _⟩) (v := .map (some m)) rfl (by kernel_rfl) (by kernel_rfl) (by kernel_rfl) (fun _ _ _ h => h) (Or.inl ⟨by rfl, ?_⟩) hHeldi ?_
    · intro W' hW
      go_simp
    try simp only [Act.put, List.setIfInBounds_toArray, List.set_cons_zero, List.set_cons_succ]
    refine wpAnyH_ready (rs := [10]) (by kernel_rfl) (by simp) ?_
    refine AllReadyH.cons (o := ⟨some 27, _, _, _, _, _⟩) rfl (fun K hK => ?_) (AllReadyH.nil)
    have LM3 := Lib.hid (show LMap wi (SX S (w.heap.size + 1) (w.heap.size + 1)) (upd (fun _ => none) i (.agg #[.slice A2 n2 c2])) (oneL i ((listOf c g i).drop (aft (listOf c g i) t - 1))) from fun k => by
      unfold upd oneL
      by_cases hk : k = i
      · rw [if_pos hk, if_pos hk]; exact .inr ⟨_, _, rfl, rfl, V3.out⟩
      · rw [if_neg hk, if_neg hk]; exact .inl ⟨rfl, rfl⟩)
    have CW := with_any (S := SX S (w.heap.size + 1) (w.heap.size + 1)) c n b1 b2 (some m) none B T f _ (fun _ => none) g _ W wi (HS'.out wi _ HZi.out (by have := HZi.out; omega)) ((HM.out _ (Nat.le_succ _)).below HBi.out) ((HG.out _ (Nat.le_succ _)).below HBi.out) ((HU.out _ (Nat.le_succ _)).below HBi.out) IMi.out LM3.out (.inl ⟨rfl, rfl⟩) (fun _ => .inl rfl)
    go_simp
    refine CW.mono ?_
    rintro e w8 ⟨b5, b6, rfl, h5, h6, hb8⟩
    have HH8 := Lib.hid ((hb8.block w.heap.size (lt_of_block HHi.out)).trans HHi.out)
    have PD8 := Lib.hid ((hb8.block (w.heap.size + 1) (lt_of_block PDi.out)).trans PDi.out)
    have HB8 := Lib.hid (HBi.out.trans (hb8.mono HBi.out.size))
    have M8 := Lib.hid h5
    have LM8 := Lib.hid ((LM3.out.below hb8).or ((HG.out _ (Nat.le_succ _)).below HB8.out))
    have U8 := Lib.hid (show IsMap w8 (SX S (w.heap.size + 1) (w.heap.size + 1)) (.map (some b6)) (wmap W) from by simpa using h6)
    clear CW h5 h6 hb8
    refine hK.out _ _ HH8.out (fun hHeld8 => ?_)
    clear hK
    try simp only [Act.put, List.setIfInBounds_toArray, List.set_cons_zero, List.set_cons_succ]
    refine wpAnyH_ready (rs := [11]) (by kernel_rfl) (by simp) ?_
    refine AllReadyH.cons (o := ⟨none, _, _, _, _, _⟩) rfl (fun K hK => ?_) (AllReadyH.nil)
    refine Eq.mpr (if_pos (by kernel_rfl)) ?_
    refine wp_store_row 57 (.tmp 6) (.tmp 27) rfl (w.heap.size + 1) (stoCells c n (.map (some b5)) (.map (some b6)) B T) rfl rfl 57 (stoZ 0) PD8.out Try.size57 rfl (sto_ones ..) ?_
    have E7 := Lib.hid (setRow_heap w8 (w.heap.size + 1) _ (stoCells c n (.map (some b5)) (.map (some b6)) B T) _ _ PD8.out)
    have FIN := Lib.hid (show IsMap (w8.setRow (w.heap.size + 1) (stoCells c n (.map (some b5)) (.map (some b6)) B T)) S (.map (some b5)) _ ∧ LMap (w8.setRow (w.heap.size + 1) (stoCells c n (.map (some b5)) (.map (some b6)) B T)) S _ (fun k => (oneL i ((listOf c g i).drop (aft (listOf c g i) t - 1)) k).or (g k)) ∧ IsMap (w8.setRow (w.heap.size + 1) (stoCells c n (.map (some b5)) (.map (some b6)) B T)) S (.map (some b6)) (wmap W) ∧ Below w.heap.size w (w8.setRow (w.heap.size + 1) (stoCells c n (.map (some b5)) (.map (some b6)) B T)) from
      ⟨(M8.out.setRow (fun h => h.2.1 rfl) _).more (fun b _ h => h.1), (LM8.out.setRow (fun h => h.2.1 rfl) _).more (fun b _ h => h.1), (U8.out.setRow (fun h => h.2.1 rfl) _).more (fun b _ h => h.1), below_setRow HB8.out (Nat.le_succ _) _⟩)
    refine hK.out _ _ ((setRow_other _ _ _ _ (by omega)).trans HH8.out) (fun hHeld9 => ?_)
    clear hK
    generalize w8.setRow (w.heap.size + 1) (stoCells c n (.map (some b5)) (.map (some b6)) B T) = w9 at *
    try simp only [Act.put, List.setIfInBounds_toArray, List.set_cons_zero, List.set_cons_succ]
    refine wpAnyH_done (by kernel_rfl) ?_ _
    go_wp2_with fail
    have hl := load_sto w9 _ _ _ _ E7.out rfl
    refine bodyPost_ret (v := sto c n (.map (some b5)) (.map (some b6)) B T) ?_ rfl ?_
    · simp [results, Try.results40, asAddr, hl, sto, Result.andThen]
    exact ⟨b5, b6, rfl, _, FIN.out.1, FIN.out.2.1, FIN.out.2.2.1, FIN.out.2.2.2⟩
  · skip
    go_simp
    refine (CL.out (w.heap.size + 1) w3 HB3.out HZ3.out (by have := HZ3.out; first | omega | (have := HQM.out; omega)) (by have := HZ3.out; first | omega | (have := HQL.out; omega))).mono ?_
    rintro e w4 ⟨u, rfl, ⟨A1, n1, c1, rfl, hc1, hc2, hv1⟩, hb4⟩
    have HH4 := Lib.hid ((hb4.block w.heap.size (lt_of_block HH3.out)).trans HH3.out)
    have PD4 := Lib.hid ((hb4.block (w.heap.size + 1) (lt_of_block PD3.out)).trans PD3.out)
    have HB4 := Lib.hid (HB3.out.trans (hb4.mono HB3.out.size))
    have HZ4 := Lib.hid (Nat.le_trans HZ3.out hb4.size)
    have V14 := Lib.hid hv1
    refine hK.out _ _ HH4.out (fun hHeld4 => ?_)
    clear hK hb4 hv1
    try simp only [Act.put, List.setIfInBounds_toArray, List.set_cons_zero, List.set_cons_succ]
    refine wpAnyH_ready (rs := [1, 7]) (by kernel_rfl) (by simp) ?_
    refine AllReadyH.cons (o := ⟨some 19, _, _, _, _, _⟩) rfl (fun K hK => ?_) (AllReadyH.cons (o := ⟨some 25, _, _, _, _, _⟩) rfl (fun K hK => ?_) (AllReadyH.nil))

    · skip
      go_simp
      have IM5 := Lib.hid (IntMap.made w4)
      have HQ5 := Lib.hid HZ4.out
      have hb5 := (Below.refl w4.heap.size w4).alloc (Nat.le_refl _) (.map #[] 0)
      have HH5 := Lib.hid ((hb5.block w.heap.size (lt_of_block HH4.out)).trans HH4.out)
      have PD5 := Lib.hid ((hb5.block (w.heap.size + 1) (lt_of_block PD4.out)).trans PD4.out)
      have HB5 := Lib.hid (HB4.out.trans (hb5.mono HB4.out.size))
      have HZ5 := Lib.hid (Nat.le_trans HZ4.out hb5.size)
      have V15 := Lib.hid (show Ones (w4.alloc (.map #[] 0)) (SX S (w.heap.size + 1) w4.heap.size) A1 n1 (listOf c g i) from (show Ones w4 (SX S (w.heap.size + 1) w4.heap.size) A1 n1 (listOf c g i) from ⟨V14.out.1, V14.out.2.more fun b hb h => ⟨h.1, h.2.1, by omega⟩⟩).below hb5)
      have HQL := Lib.hid (show w4.heap.size < (w4.alloc (.map #[] 0)).heap.size by simp)
      clear hb5
      generalize w4.alloc (.map #[] 0) = w5 at *
      generalize w4.heap.size = m at *
      refine hK.out _ _ HH5.out (fun hHeld5 => ?_)
      clear hK
      try simp only [Act.put, List.setIfInBounds_toArray, List.set_cons_zero, List.set_cons_succ]
      have HQM := Lib.hid HQ5.out
      refine wpAnyH_ready (rs := [7]) (by kernel_rfl) (by simp) ?_
      refine AllReadyH.cons (o := ⟨some 25, _, _, _, _, _⟩) rfl (fun K hK => ?_) (AllReadyH.nil)
      go_simp
      refine (CC.out m A1 n1 c1 w5 HZ5.out (by have := HZ5.out; first | omega | (have := HQL.out; have := HB5.out; omega)) hc1 V15.out).mono ?_
      rintro e w6 ⟨A2, n2, c2, rfl, hd1, hd2, hv2, hb6⟩
      have HH6 := Lib.hid ((hb6.block w.heap.size (lt_of_block HH5.out)).trans HH5.out)
      have PD6 := Lib.hid ((hb6.block (w.heap.size + 1) (lt_of_block PD5.out)).trans PD5.out)
      have HB6 := Lib.hid (HB5.out.trans (hb6.mono HB5.out.size))
      have HZ6 := Lib.hid (Nat.le_trans HZ5.out hb6.size)
      have V26 := Lib.hid hv2
      have IM6 := Lib.hid (IM5.out.below hb6)
      have HQL := Lib.hid (show m < w6.heap.size by have h1 := HQL.out; have h2 := hb6.size; omega)
      refine hK.out _ _ HH6.out (fun hHeld6 => ?_)
      clear hK hb6 hv2
      try simp only [Act.put, List.setIfInBounds_toArray, List.set_cons_zero, List.set_cons_succ]
      have V26' := Lib.hid (show VList w6 (SX S (w.heap.size + 1) m) (.agg #[.slice A2 n2 c2]) ((listOf c g i).drop (aft (listOf c g i) t - 1)) from ⟨A2, n2, c2, rfl, hd1, hd2, V26.out⟩)
      clear hd1 hd2
      refine wpAnyH_ready (rs := [8]) (by kernel_rfl) (by simp) ?_
      refine AllReadyH.cons (o := ⟨none, _, _, _, _, _⟩) rfl (fun K hK => ?_) (AllReadyH.nil)
      refine Eq.mpr (if_pos (by kernel_rfl)) ?_
      refine wp_ins_mine (.tmp 19) (.tmp 20) (.tmp 25) 51 rfl 67 27 Try.underlying51 Try.underlying67 m _ IM6.out rfl i rfl (.agg #[.slice A2 n2 c2]) rfl (fun wi hm5 hg5 hs5 => ?_)
      have hgb : Below w.heap.size w wi := HB6.out.grown hg5 HB6.out.size (fun r hr => by injection hr with hr; have := HQM.out; omega)
      have HHi := Lib.hid ((hg5.block w.heap.size (lt_of_block HH6.out) (by intro e; injection e with e; have := HQM.out; omega)).trans HH6.out)
      have PDi := Lib.hid ((hg5.block (w.heap.size + 1) (lt_of_block PD6.out) (by intro e; injection e with e; have := HQM.out; omega)).trans PD6.out)
      have HBi := Lib.hid hgb
      have HZi := Lib.hid (show w.heap.size + 2 ≤ wi.heap.size by have := HZ6.out; omega)
      have IMi := Lib.hid (show IsMap wi (SX S (w.heap.size + 1) (w.heap.size + 1)) (.map (some m)) (upd (fun _ => none) i (.agg #[.slice A2 n2 c2])) from .inr ⟨m, rfl, HS1.out m HQM.out, hm5.lt, hm5⟩)
      have V3 := Lib.hid ((V26'.out.grown hg5 (fun h => h.2.2 rfl)).more (S' := SX S (w.heap.size + 1) (w.heap.size + 1)) (fun b _ h => ⟨h.1, h.2.1, h.2.1⟩))
      clear hm5 hg5 hs5 hgb
      refine hK.out _ _ HHi.out (fun hHeldi => ?_)
      clear hK
      try simp only [Act.put, List.setIfInBounds_toArray, List.set_cons_zero, List.set_cons_succ]
      refine wpAnyH_take (i := 9) (oi := ⟨some 26, _, _, _, _, _⟩) (v := .map (some m)) rfl (by kernel_rfl) (by kernel_rfl) (by kernel_rfl) (fun _ _ _ h => h) (Or.inl ⟨by rfl, ?_⟩) hHeldi ?_
      · intro W' hW
        go_simp
      try simp only [Act.put, List.setIfInBounds_toArray, List.set_cons_zero, List.set_cons_succ]
      refine wpAnyH_ready (rs := [10]) (by kernel_rfl) (by simp) ?_
      refine AllReadyH.cons (o := ⟨some 27, _, _, _, _, _⟩) rfl (fun K hK => ?_) (AllReadyH.nil)
      have LM3 := Lib.hid (show LMap wi (SX S (w.heap.size + 1) (w.heap.size + 1)) (upd (fun _ => none) i (.agg #[.slice A2 n2 c2])) (oneL i ((listOf c g i).drop (aft (listOf c g i) t - 1))) from fun k => by
        unfold upd oneL
        by_cases hk : k = i
        · rw [if_pos hk, if_pos hk]; exact .inr ⟨_, _, rfl, rfl, V3.out⟩
        · rw [if_neg hk, if_neg hk]; exact .inl ⟨rfl, rfl⟩)
      have CW := with_any (S := SX S (w.heap.size + 1) (w.heap.size + 1)) c n b1 b2 (some m) none B T f _ (fun _ => none) g _ W wi (HS'.out wi _ HZi.out (by have := HZi.out; omega)) ((HM.out _ (Nat.le_succ _)).below HBi.out) ((HG.out _ (Nat.le_succ _)).below HBi.out) ((HU.out _ (Nat.le_succ _)).below HBi.out) IMi.out LM3.out (.inl ⟨rfl, rfl⟩) (fun _ => .inl rfl)
      go_simp
      refine CW.mono ?_
      rintro e w8 ⟨b5, b6, rfl, h5, h6, hb8⟩
      have HH8 := Lib.hid ((hb8.block w.heap.size (lt_of_block HHi.out)).trans HHi.out)
      have PD8 := Lib.hid ((hb8.block (w.heap.size + 1) (lt_of_block PDi.out)).trans PDi.out)
      have HB8 := Lib.hid (HBi.out.trans (hb8.mono HBi.out.size))
      have M8 := Lib.hid h5
      have LM8 := Lib.hid ((LM3.out.below hb8).or ((HG.out _ (Nat.le_succ _)).below HB8.out))
      have U8 := Lib.hid (show IsMap w8 (SX S (w.heap.size + 1) (w.heap.size + 1)) (.map (some b6)) (wmap W) from by simpa using h6)
      clear CW h5 h6 hb8
      refine hK.out _ _ HH8.out (fun hHeld8 => ?_)
      clear hK
      try simp only [Act.put, List.setIfInBounds_toArray, List.set_cons_zero, List.set_cons_succ]
      refine wpAnyH_ready (rs := [11]) (by kernel_rfl) (by simp) ?_
      refine AllReadyH.cons (o := ⟨none, _, _, _, _, _⟩) rfl (fun K hK => ?_) (AllReadyH.nil)
      refine Eq.mpr (if_pos (by kernel_rfl)) ?_
      refine wp_store_row 57 (.tmp 6) (.tmp 27) rfl (w.heap.size + 1) (stoCells c n (.map (some b5)) (.map (some b6)) B T) rfl rfl 57 (stoZ 0) PD8.out Try.size57 rfl (sto_ones ..) ?_
      have E7 := Lib.hid (setRow_heap w8 (w.heap.size + 1) _ (stoCells c n (.map (some b5)) (.map (some b6)) B T) _ _ PD8.out)
      have FIN := Lib.hid (show IsMap (w8.setRow (w.heap.size + 1) (stoCells c n (.map (some b5)) (.map (some b6)) B T)) S (.map (some b5)) _ ∧ LMap (w8.setRow (w.heap.size + 1) (stoCells c n (.map (some b5)) (.map (some b6)) B T)) S _ (fun k => (oneL i ((listOf c g i).drop (aft (listOf c g i) t - 1)) k).or (g k)) ∧ IsMap (w8.setRow (w.heap.size + 1) (stoCells c n (.map (some b5)) (.map (some b6)) B T)) S (.map (some b6)) (wmap W) ∧ Below w.heap.size w (w8.setRow (w.heap.size + 1) (stoCells c n (.map (some b5)) (.map (some b6)) B T)) from
        ⟨(M8.out.setRow (fun h => h.2.1 rfl) _).more (fun b _ h => h.1), (LM8.out.setRow (fun h => h.2.1 rfl) _).more (fun b _ h => h.1), (U8.out.setRow (fun h => h.2.1 rfl) _).more (fun b _ h => h.1), below_setRow HB8.out (Nat.le_succ _) _⟩)
      refine hK.out _ _ ((setRow_other _ _ _ _ (by omega)).trans HH8.out) (fun hHeld9 => ?_)
      clear hK
      generalize w8.setRow (w.heap.size + 1) (stoCells c n (.map (some b5)) (.map (some b6)) B T) = w9 at *
      try simp only [Act.put, List.setIfInBounds_toArray, List.set_cons_zero, List.set_cons_succ]
      refine wpAnyH_done (by kernel_rfl) ?_ _
      go_wp2_with fail
      have hl := load_sto w9 _ _ _ _ E7.out rfl
      refine bodyPost_ret (v := sto c n (.map (some b5)) (.map (some b6)) B T) ?_ rfl ?_
      · simp [results, Try.results40, asAddr, hl, sto, Result.andThen]
      exact ⟨b5, b6, rfl, _, FIN.out.1, FIN.out.2.1, FIN.out.2.2.1, FIN.out.2.2.2⟩
    · skip
      go_simp
      refine (CC.out (w.heap.size + 1) A1 n1 c1 w4 HZ4.out (by have := HZ4.out; first | omega | (have := HQL.out; have := HB4.out; omega)) hc1 V14.out).mono ?_
      rintro e w5 ⟨A2, n2, c2, rfl, hd1, hd2, hv2, hb5⟩
      have HH5 := Lib.hid ((hb5.block w.heap.size (lt_of_block HH4.out)).trans HH4.out)
      have PD5 := Lib.hid ((hb5.block (w.heap.size + 1) (lt_of_block PD4.out)).trans PD4.out)
      have HB5 := Lib.hid (HB4.out.trans (hb5.mono HB4.out.size))
      have HZ5 := Lib.hid (Nat.le_trans HZ4.out hb5.size)
      have V25 := Lib.hid hv2
      refine hK.out _ _ HH5.out (fun hHeld5 => ?_)
      clear hK hb5 hv2
      try simp only [Act.put, List.setIfInBounds_toArray, List.set_cons_zero, List.set_cons_succ]
      refine wpAnyH_ready (rs := [1]) (by kernel_rfl) (by simp) ?_
      refine AllReadyH.cons (o := ⟨some 19, _, _, _, _, _⟩) rfl (fun K hK => ?_) (AllReadyH.nil)
      go_simp
      have IM6 := Lib.hid (IntMap.made w5)
      have HQ6 := Lib.hid HZ5.out
      have hb6 := (Below.refl w5.heap.size w5).alloc (Nat.le_refl _) (.map #[] 0)
      have HH6 := Lib.hid ((hb6.block w.heap.size (lt_of_block HH5.out)).trans HH5.out)
      have PD6 := Lib.hid ((hb6.block (w.heap.size + 1) (lt_of_block PD5.out)).trans PD5.out)
      have HB6 := Lib.hid (HB5.out.trans (hb6.mono HB5.out.size))
      have HZ6 := Lib.hid (Nat.le_trans HZ5.out hb6.size)
      have V26 := Lib.hid (show Ones (w5.alloc (.map #[] 0)) (SX S (w.heap.size + 1) w5.heap.size) A2 n2 _ from (show Ones w5 (SX S (w.heap.size + 1) w5.heap.size) A2 n2 _ from ⟨V25.out.1, V25.out.2.more fun b hb h => ⟨h.1, h.2.1, by omega⟩⟩).below hb6)
      have HQL := Lib.hid (show w5.heap.size < (w5.alloc (.map #[] 0)).heap.size by simp)
      clear hb6
      generalize w5.alloc (.map #[] 0) = w6 at *
      generalize w5.heap.size = m at *
      refine hK.out _ _ HH6.out (fun hHeld6 => ?_)
      clear hK
      try simp only [Act.put, List.setIfInBounds_toArray, List.set_cons_zero, List.set_cons_succ]
      have HQM := Lib.hid HQ6.out
      have V26' := Lib.hid (show VList w6 (SX S (w.heap.size + 1) m) (.agg #[.slice A2 n2 c2]) ((listOf c g i).drop (aft (listOf c g i) t - 1)) from ⟨A2, n2, c2, rfl, hd1, hd2, V26.out⟩)
      clear hd1 hd2
      refine wpAnyH_ready (rs := [8]) (by kernel_rfl) (by simp) ?_
      refine AllReadyH.cons (o := ⟨none, _, _, _, _, _⟩) rfl (fun K hK => ?_) (AllReadyH.nil)
      refine Eq.mpr (if_pos (by kernel_rfl)) ?_
      refine wp_ins_mine (.tmp 19) (.tmp 20) (.tmp 25) 51 rfl 67 27 Try.underlying51 Try.underlying67 m _ IM6.out rfl i rfl (.agg #[.slice A2 n2 c2]) rfl (fun wi hm5 hg5 hs5 => ?_)
      have hgb : Below w.heap.size w wi := HB6.out.grown hg5 HB6.out.size (fun r hr => by injection hr with hr; have := HQM.out; omega)
      have HHi := Lib.hid ((hg5.block w.heap.size (lt_of_block HH6.out) (by intro e; injection e with e; have := HQM.out; omega)).trans HH6.out)
      have PDi := Lib.hid ((hg5.block (w.heap.size + 1) (lt_of_block PD6.out) (by intro e; injection e with e; have := HQM.out; omega)).trans PD6.out)
      have HBi := Lib.hid hgb
      have HZi := Lib.hid (show w.heap.size + 2 ≤ wi.heap.size by have := HZ6.out; omega)
      have IMi := Lib.hid (show IsMap wi (SX S (w.heap.size + 1) (w.heap.size + 1)) (.map (some m)) (upd (fun _ => none) i (.agg #[.slice A2 n2 c2])) from .inr ⟨m, rfl, HS1.out m HQM.out, hm5.lt, hm5⟩)
      have V3 := Lib.hid ((V26'.out.grown hg5 (fun h => h.2.2 rfl)).more (S' := SX S (w.heap.size + 1) (w.heap.size + 1)) (fun b _ h => ⟨h.1, h.2.1, h.2.1⟩))
      clear hm5 hg5 hs5 hgb
      refine hK.out _ _ HHi.out (fun hHeldi => ?_)
      clear hK
      try simp only [Act.put, List.setIfInBounds_toArray, List.set_cons_zero, List.set_cons_succ]
      refine wpAnyH_take (i := 9) (oi := ⟨some 26, _, _, _, _, _⟩) (v := .map (some m)) rfl (by kernel_rfl) (by kernel_rfl) (by kernel_rfl) (fun _ _ _ h => h) (Or.inl ⟨by rfl, ?_⟩) hHeldi ?_
      · intro W' hW
        go_simp
      try simp only [Act.put, List.setIfInBounds_toArray, List.set_cons_zero, List.set_cons_succ]
      refine wpAnyH_ready (rs := [10]) (by kernel_rfl) (by simp) ?_
      refine AllReadyH.cons (o := ⟨some 27, _, _, _, _, _⟩) rfl (fun K hK => ?_) (AllReadyH.nil)
      have LM3 := Lib.hid (show LMap wi (SX S (w.heap.size + 1) (w.heap.size + 1)) (upd (fun _ => none) i (.agg #[.slice A2 n2 c2])) (oneL i ((listOf c g i).drop (aft (listOf c g i) t - 1))) from fun k => by
        unfold upd oneL
        by_cases hk : k = i
        · rw [if_pos hk, if_pos hk]; exact .inr ⟨_, _, rfl, rfl, V3.out⟩
        · rw [if_neg hk, if_neg hk]; exact .inl ⟨rfl, rfl⟩)
      have CW := with_any (S := SX S (w.heap.size + 1) (w.heap.size + 1)) c n b1 b2 (some m) none B T f _ (fun _ => none) g _ W wi (HS'.out wi _ HZi.out (by have := HZi.out; omega)) ((HM.out _ (Nat.le_succ _)).below HBi.out) ((HG.out _ (Nat.le_succ _)).below HBi.out) ((HU.out _ (Nat.le_succ _)).below HBi.out) IMi.out LM3.out (.inl ⟨rfl, rfl⟩) (fun _ => .inl rfl)
      go_simp
      refine CW.mono ?_
      rintro e w8 ⟨b5, b6, rfl, h5, h6, hb8⟩
      have HH8 := Lib.hid ((hb8.block w.heap.size (lt_of_block HHi.out)).trans HHi.out)
      have PD8 := Lib.hid ((hb8.block (w.heap.size + 1) (lt_of_block PDi.out)).trans PDi.out)
      have HB8 := Lib.hid (HBi.out.trans (hb8.mono HBi.out.size))
      have M8 := Lib.hid h5
      have LM8 := Lib.hid ((LM3.out.below hb8).or ((HG.out _ (Nat.le_succ _)).below HB8.out))
      have U8 := Lib.hid (show IsMap w8 (SX S (w.heap.size + 1) (w.heap.size + 1)) (.map (some b6)) (wmap W) from by simpa using h6)
      clear CW h5 h6 hb8
      refine hK.out _ _ HH8.out (fun hHeld8 => ?_)
      clear hK
      try simp only [Act.put, List.setIfInBounds_toArray, List.set_cons_zero, List.set_cons_succ]
      refine wpAnyH_ready (rs := [11]) (by kernel_rfl) (by simp) ?_
      refine AllReadyH.cons (o := ⟨none, _, _, _, _, _⟩) rfl (fun K hK => ?_) (AllReadyH.nil)
      refine Eq.mpr (if_pos (by kernel_rfl)) ?_
      refine wp_store_row 57 (.tmp 6) (.tmp 27) rfl (w.heap.size + 1) (stoCells c n (.map (some b5)) (.map (some b6)) B T) rfl rfl 57 (stoZ 0) PD8.out Try.size57 rfl (sto_ones ..) ?_
      have E7 := Lib.hid (setRow_heap w8 (w.heap.size + 1) _ (stoCells c n (.map (some b5)) (.map (some b6)) B T) _ _ PD8.out)
      have FIN := Lib.hid (show IsMap (w8.setRow (w.heap.size + 1) (stoCells c n (.map (some b5)) (.map (some b6)) B T)) S (.map (some b5)) _ ∧ LMap (w8.setRow (w.heap.size + 1) (stoCells c n (.map (some b5)) (.map (some b6)) B T)) S _ (fun k => (oneL i ((listOf c g i).drop (aft (listOf c g i) t - 1)) k).or (g k)) ∧ IsMap (w8.setRow (w.heap.size + 1) (stoCells c n (.map (some b5)) (.map (some b6)) B T)) S (.map (some b6)) (wmap W) ∧ Below w.heap.size w (w8.setRow (w.heap.size + 1) (stoCells c n (.map (some b5)) (.map (some b6)) B T)) from
        ⟨(M8.out.setRow (fun h => h.2.1 rfl) _).more (fun b _ h => h.1), (LM8.out.setRow (fun h => h.2.1 rfl) _).more (fun b _ h => h.1), (U8.out.setRow (fun h => h.2.1 rfl) _).more (fun b _ h => h.1), below_setRow HB8.out (Nat.le_succ _) _⟩)
      refine hK.out _ _ ((setRow_other _ _ _ _ (by omega)).trans HH8.out) (fun hHeld9 => ?_)
      clear hK
      generalize w8.setRow (w.heap.size + 1) (stoCells c n (.map (some b5)) (.map (some b6)) B T) = w9 at *
      try simp only [Act.put, List.setIfInBounds_toArray, List.set_cons_zero, List.set_cons_succ]
      refine wpAnyH_done (by kernel_rfl) ?_ _
      go_wp2_with fail
      have hl := load_sto w9 _ _ _ _ E7.out rfl
      refine bodyPost_ret (v := sto c n (.map (some b5)) (.map (some b6)) B T) ?_ rfl ?_
      · simp [results, Try.results40, asAddr, hl, sto, Result.andThen]
      exact ⟨b5, b6, rfl, _, FIN.out.1, FIN.out.2.1, FIN.out.2.2.1, FIN.out.2.2.2⟩

def Sn.cut (s : Sn) (i t : Int) : Sn :=
  { s with L := fun k => if k = i ∧ (decide (0 ≤ i) && decide (i < s.c)) = true ∧ t ≤ s.n then (s.L k).drop (aft (s.L k) t - 1) else s.L k }
theorem Sn.cut_no {s : Sn} {i t : Int} (h : ¬ ((decide (0 ≤ i) && decide (i < s.c)) = true ∧ t ≤ s.n)) : s.cut i t = s := by
  unfold Sn.cut
  have : (fun k => if k = i ∧ (decide (0 ≤ i) && decide (i < s.c)) = true ∧ t ≤ s.n then (s.L k).drop (aft (s.L k) t - 1) else s.L k) = s.L := by
    funext k
    exact if_neg fun x => h x.2
  rw [this]
theorem st_cut {S : Nat → Prop} {s : Sn} {b1 b2 : Option Nat} {w : World} (i t : Int) (hS : ∀ b, w.heap.size ≤ b → S b) (hm : s.Maps w S b1 b2) (ha : Asc (s.L i)) (hl : (s.L i).length ≤ 1099511627776) :
    Calls Try.prog 40 #[s.val b1 b2, .int .i64 i, .int .i64 t] w fun e w' => ∃ b5 b6, e = .returned ((s.cut i t).val b5 b6) ∧ (s.cut i t).Maps w' S b5 b6 ∧ Below w.heap.size w w' := by
  by_cases hc : (decide (0 ≤ i) && decide (i < s.c)) = true ∧ t ≤ s.n
  · obtain ⟨f, g, W0, h1, h2, h3, h4, h5⟩ := hm
    refine (scut_ok s.c s.n b1 b2 s.B s.T f g W0 i t w hS h1 h2 h3 (by rw [h4]; exact ha) (by rw [h4]; exact hl) hc.1 hc.2).mono ?_
    rintro e w' ⟨b5, b6, f', rfl, hm, hg, hu, hb⟩
    refine ⟨some b5, some b6, rfl, ⟨f', _, W0, hm, hg, hu, fun k => ?_, h5⟩, hb⟩
    show (if 0 ≤ k ∧ k < s.c then ((oneL i ((listOf s.c g i).drop (aft (listOf s.c g i) t - 1)) k).or (g k)).getD [(0, 0)] else []) = if k = i ∧ (decide (0 ≤ i) && decide (i < s.c)) = true ∧ t ≤ s.n then (s.L k).drop (aft (s.L k) t - 1) else s.L k
    unfold oneL
    by_cases hk : k = i
    · subst hk
      have hr : 0 ≤ k ∧ k < s.c := by simpa using hc.1
      rw [if_pos hr, if_pos rfl, if_pos ⟨rfl, hc⟩, ← h4]
      rfl
    · rw [if_neg hk, if_neg (show ¬ (k = i ∧ (decide (0 ≤ i) && decide (i < s.c)) = true ∧ t ≤ s.n) from fun x => hk x.1), ← h4]
      rfl
  · rw [Sn.cut_no hc]
    refine (scut_no s.c s.n b1 b2 s.B s.T i t w ?_).mono ?_
    · by_cases h1 : (decide (0 ≤ i) && decide (i < s.c)) = true
      · exact .inr ⟨h1, by have : ¬ t ≤ s.n := fun x => hc ⟨h1, x⟩; omega⟩
      · exact .inl (by simpa using h1)
    · rintro e w' ⟨rfl, hb⟩
      exact ⟨b1, b2, rfl, hm.below hb, hb⟩
end Go.Proofs.Ytpejhgkcofilmaa
