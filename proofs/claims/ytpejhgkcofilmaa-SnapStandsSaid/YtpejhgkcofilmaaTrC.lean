/- The walk of trim's Cells over a store. Conditions: the maps and lists lie in blocks that meet S; the lists ascend and have at most 10^6 versions; at most 10^6 cells are named. -/
import Derived.Test.YtpejhgkcofilmaaTrB
set_option linter.unusedVariables false
namespace Go.Proofs.Ytpejhgkcofilmaa
open Go.RowKit

/-- The stamps of the open readers among the first k. -/
def rdI (B : Nat → Bool) (T : Nat → Int) : Nat → List Int
  | 0 => []
  | k + 1 => rdI B T k ++ if B k = true then [T k] else []
theorem rdL_rdI (B : Nat → Bool) (T : Nat → Int) (k : Nat) : rdL B T k = (rdI B T k).map (.int .i64 ·) := by
  induction k with
  | zero => rfl
  | succ k ih =>
    show rdL B T k ++ _ = (rdI B T k ++ _).map _
    rw [ih, List.map_append]
    split <;> rfl
theorem rdI_len (B : Nat → Bool) (T : Nat → Int) (k : Nat) : (rdI B T k).length ≤ k := by
  have := rdL_le B T k
  rw [rdL_rdI, List.length_map] at this
  exact this
theorem rdI_mem (B : Nat → Bool) (T : Nat → Int) (x : Int) (k : Nat) (h : x ∈ rdI B T k) : ∃ j, j < k ∧ B j = true ∧ T j = x := by
  induction k with
  | zero => cases h
  | succ k ih =>
    unfold rdI at h
    rcases List.mem_append.1 h with h | h
    · obtain ⟨j, h1, h2⟩ := ih h
      exact ⟨j, by omega, h2⟩
    · split at h
      · rename_i hb
        simp only [List.mem_singleton] at h
        exact ⟨k, by omega, hb, h.symm⟩
      · cases h
theorem mem_rdI (B : Nat → Bool) (T : Nat → Int) (j : Nat) (hb : B j = true) (k : Nat) (h : j < k) : T j ∈ rdI B T k := by
  induction k with
  | zero => omega
  | succ k ih =>
    unfold rdI
    rcases Nat.lt_or_ge j k with h1 | h1
    · exact List.mem_append_left _ (ih h1)
    · obtain rfl : j = k := by omega
      rw [if_pos hb]
      exact List.mem_append_right _ (List.mem_singleton_self _)
theorem foldl_min (l : List Int) (a : Int) : (l.foldl min a = a ∨ l.foldl min a ∈ l) ∧ l.foldl min a ≤ a ∧ ∀ x ∈ l, l.foldl min a ≤ x := by
  induction l generalizing a with
  | nil => exact ⟨.inl rfl, Int.le_refl _, fun x hx => by cases hx⟩
  | cons y t ih =>
    obtain ⟨h1, h2, h3⟩ := ih (min a y)
    rw [List.foldl_cons]
    refine ⟨?_, by omega, fun x hx => ?_⟩
    · rcases h1 with h | h
      · rw [h]
        rcases Int.le_total a y with h4 | h4
        · rw [Int.min_eq_left h4]; exact .inl rfl
        · rw [Int.min_eq_right h4]; exact .inr (List.mem_cons_self ..)
      · exact .inr (List.mem_cons_of_mem _ h)
    · rcases List.mem_cons.1 hx with rfl | hx
      · omega
      · exact h3 x hx
/-- The stamp of the oldest open reader, or the time. -/
def Sn.old (s : Sn) : Int := (rdI s.B s.T 8).foldl min s.n
theorem isMin_eq {v u : Int} {l : List Int} (h : IsMin v l) (h' : IsMin u l) : v = u := by
  have := h.2 u h'.1
  have := h'.2 v h.1
  omega
theorem isMin_fold (l : List Int) (t : Int) : IsMin (l.foldl min t) (l ++ [t]) := by
  obtain ⟨h1, h2, h3⟩ := foldl_min l t
  refine ⟨?_, fun x hx => ?_⟩
  · rcases h1 with h | h
    · rw [h]; exact List.mem_append_right _ (List.mem_singleton_self _)
    · exact List.mem_append_left _ h
  · rcases List.mem_append.1 hx with hx | hx
    · exact h3 x hx
    · simp only [List.mem_singleton] at hx; omega
/-- One cell cut at t, and the number of versions removed. -/
def Sn.cutF (t : Int) (p : Sn × Int) (i : Int) : Sn × Int := (p.1.cut i t, p.2 + ((p.1.L i).length - ((p.1.cut i t).L i).length))
def Sn.cells (s : Sn) (l : List Int) : Sn × Int := l.foldl (Sn.cutF s.old) (s, 0)
/-- What the walks ask of a store's lists. -/
def Sn.Ok (s : Sn) : Prop := (∀ k, Asc (s.L k)) ∧ s.Few
theorem Sn.cut_len (s : Sn) (i t k : Int) : ((s.cut i t).L k).length ≤ (s.L k).length := by
  unfold Sn.cut
  dsimp only
  split
  · simp
  · exact Nat.le_refl _
theorem Sn.Ok.cut {s : Sn} (h : s.Ok) (i t : Int) : (s.cut i t).Ok := by
  refine ⟨fun k => ?_, fun k => Nat.le_trans (s.cut_len i t k) (h.2 k)⟩
  unfold Sn.cut
  dsimp only
  split
  · exact List.Pairwise.drop (h.1 k)
  · exact h.1 k
theorem Sn.cells_ok {s : Sn} (h : s.Ok) (t : Int) (l : List Int) (d : Int) : (l.foldl (Sn.cutF t) (s, d)).1.Ok ∧ d ≤ (l.foldl (Sn.cutF t) (s, d)).2 ∧ (l.foldl (Sn.cutF t) (s, d)).2 ≤ d + l.length * 1000000 := by
  induction l generalizing s d with
  | nil => exact ⟨h, Int.le_refl _, by simp⟩
  | cons i t' ih =>
    obtain ⟨h1, h2, h3⟩ := ih (h.cut i t) (d + ((s.L i).length - ((s.cut i t).L i).length))
    have := s.cut_len i t i
    have := h.2 i
    rw [List.foldl_cons]
    show (List.foldl (Sn.cutF t) (s.cut i t, d + ((s.L i).length - ((s.cut i t).L i).length)) t').1.Ok ∧ _ ≤ (List.foldl (Sn.cutF t) (s.cut i t, d + ((s.L i).length - ((s.cut i t).L i).length)) t').2 ∧ (List.foldl (Sn.cutF t) (s.cut i t, d + ((s.L i).length - ((s.cut i t).L i).length)) t').2 ≤ _
    refine ⟨h1, by omega, ?_⟩
    rw [List.length_cons]
    omega
theorem foldl_take {α β : Type} (f : α → β → α) (a : α) (l : List β) (k : Nat) (hk : k < l.length) : (l.take (k + 1)).foldl f a = f ((l.take k).foldl f a) l[k] := by
  rw [List.take_succ_eq_append_getElem hk, List.foldl_append]
  rfl

set_option maxRecDepth 100000 in
set_option maxHeartbeats 12800000 in
theorem cells_any {S : Nat → Prop} {s : Sn} {b1 b2 : Option Nat} {S' : Nat → Prop} (A : Option Addr) (n c : Nat) (l : List Int) (w : World) (hS : ∀ b, w.heap.size ≤ b → S b) (hm : s.Maps w S b1 b2) (hok : s.Ok) (hl : Ints w S' A n l) (hn : l.length ≤ 1000000) :
    Calls Try.prog 51 #[s.val b1 b2, .slice A n c] w fun e w' => ∃ b5 b6, e = .returned (.tuple #[(s.cells l).1.val b5 b6, .int .i64 (s.cells l).2]) ∧ (s.cells l).1.Maps w' S b5 b6 ∧ Below w.heap.size w w' := by
  have HM := Lib.hid hm
  have HF := Lib.hid hok
  have HS := Lib.hid hS
  have HL := Lib.hid hl
  have HN := Lib.hid (And.intro hl.1 hn)
  have hnn : (n : Int) ≤ 1000000 := by have := hl.1; omega
  clear hm hok hS hl hn
  go_enter Try.func51, Try.ntmps51
  go_wp2_with (with_reducible refine at_box_ (t := 57) ?_; refine box_at rfl _ rfl rfl HM.out ?_)
  intro w0 hp hb1 hz1
  have P := Lib.hid hp
  have HB := Lib.hid hb1
  have HZ := Lib.hid hz1
  clear hp hb1 hz1
  go_wp2_with (with_reducible refine at_alloc_ (t := 57) ?_; refine alloc_at (S := fun _ => False) rfl rfl ?_)
  intro w1 hp hb1 hz1
  rw [HZ.out] at hp hz1 ⊢
  have P1 := Lib.hid ((P.out.more (S' := SX S w.heap.size (w.heap.size + 1)) fun b hb h => ⟨h.1, h.2, by have := HZ.out; omega⟩).below hb1)
  have R1 := Lib.hid hp
  have HB1 := Lib.hid (HB.out.trans (hb1.mono HB.out.size))
  have HZ1 := Lib.hid (show w.heap.size + 2 ≤ w1.heap.size by omega)
  clear hp hb1 hz1 P HB HZ HM
  go_wp2_with fail
  obtain ⟨c1, c2, p0, hm1⟩ := P1.out
  have HM1 := Lib.hid hm1
  have PP := Lib.hid p0
  clear P1 p0 hm1
  refine wp_region_held_drew (S := fun W => W.heap[w.heap.size]? = some (.cells (stoCells s.c s.n (.map c1) (.map c2) s.B s.T) 57 (0, 0))) (by kernel_rfl) PP.out (fun hHeld => ?_)
  have HHD := Lib.hid hHeld
  have RD := Lib.hid (show (Sn.zero 0).At w1.drew (fun _ => False) (w.heap.size + 1) from R1.out)
  have MD := Lib.hid (show s.Maps w1.drew (SX S w.heap.size (w.heap.size + 1)) c1 c2 from HM1.out)
  have HBD := Lib.hid HB1.out.drew
  have HZD := Lib.hid (show w.heap.size + 2 ≤ w1.drew.heap.size from HZ1.out)
  clear PP hHeld R1 HM1 HB1 HZ1
  generalize w1.drew = w2 at *
  refine wpAnyH_take (i := 0) (oi := ⟨some 11, _, _, _, _, _⟩) (v := s.val c1 c2) rfl (by kernel_rfl) (by kernel_rfl) (by kernel_rfl) (fun _ _ _ h => h) (yields_sto (by rfl) _ rfl w.heap.size rfl 57 (0, 0) (fun _ h => h)) HHD.out ?_
  try simp only [Act.put, List.setIfInBounds_toArray, List.set_cons_zero, List.set_cons_succ]
  refine wpAnyH_take (i := 2) (oi := ⟨some 13, _, _, _, _, _⟩) (v := s.val c1 c2) rfl (by kernel_rfl) (by kernel_rfl) (by kernel_rfl) (fun _ _ _ h => h) (yields_sto (by rfl) _ rfl w.heap.size rfl 57 (0, 0) (fun _ h => h)) HHD.out ?_
  try simp only [Act.put, List.setIfInBounds_toArray, List.set_cons_zero, List.set_cons_succ]
  refine wpAnyH_ready (rs := [1]) (by kernel_rfl) (by simp) ?_
  refine AllReadyH.cons (o := ⟨some 12, _, _, _, _, _⟩) rfl (fun K hK => ?_) (AllReadyH.nil)
  go_simp
  refine (st_now w2).mono ?_
  rintro e w3 ⟨rfl, hb3⟩
  have HH3 := Lib.hid ((hb3.block w.heap.size (lt_of_block HHD.out)).trans HHD.out)
  have R3 := Lib.hid (RD.out.below hb3)
  have M3 := Lib.hid (MD.out.below hb3)
  have HB3 := Lib.hid (HBD.out.trans (hb3.mono HBD.out.size))
  have HZ3 := Lib.hid (Nat.le_trans HZD.out hb3.size)
  refine hK.out _ _ HH3.out (fun hHeld3 => ?_)
  clear hK hb3 HHD RD MD HBD HZD
  try simp only [Act.put, List.setIfInBounds_toArray, List.set_cons_zero, List.set_cons_succ]
  refine wpAnyH_ready (rs := [3]) (by kernel_rfl) (by simp) ?_
  refine AllReadyH.cons (o := ⟨some 14, _, _, _, _, _⟩) rfl (fun K hK => ?_) (AllReadyH.nil)
  go_simp
  refine (st_readers w3).mono ?_
  rintro e w4 ⟨v, rfl, ho, hb4⟩
  obtain ⟨As, cs, rfl, g1, g2, g3⟩ := own_reads ho (S := fun _ => True) (fun b hb => trivial)
  have HI := Lib.hid (show Ints w4 (fun _ => True) As (rdL s.B s.T 8).length (rdI s.B s.T 8) from ⟨by rw [rdL_rdI, List.length_map], by have := g3; rw [rdL_rdI] at this ⊢; exact this⟩)
  have HC := Lib.hid (And.intro g1 g2)
  have HH4 := Lib.hid ((hb4.block w.heap.size (lt_of_block HH3.out)).trans HH3.out)
  have R4 := Lib.hid (R3.out.below hb4)
  have M4 := Lib.hid (M3.out.below hb4)
  have HB4 := Lib.hid (HB3.out.trans (hb4.mono HB3.out.size))
  have HZ4 := Lib.hid (Nat.le_trans HZ3.out hb4.size)
  generalize (rdL s.B s.T 8).length = m at *
  refine hK.out _ _ HH4.out (fun hHeld4 => ?_)
  clear hK hb4 ho g1 g2 g3 HH3 R3 M3 HB3 HZ3
  try simp only [Act.put, List.setIfInBounds_toArray, List.set_cons_zero, List.set_cons_succ]
  refine wpAnyH_ready (rs := [4]) (by kernel_rfl) (by simp) ?_
  refine AllReadyH.cons (o := ⟨some 15, _, _, _, _, _⟩) rfl (fun K hK => ?_) (AllReadyH.nil)
  go_simp
  refine (least_any As m cs (rdI s.B s.T 8) s.n w4 (fun _ _ => trivial) HI.out HC.out.1 HC.out.2 (Nat.le_trans (rdI_len _ _ 8) (by omega))).mono ?_
  rintro e w5 ⟨v, rfl, hv, hb5⟩
  obtain rfl : v = s.old := isMin_eq hv (isMin_fold _ _)
  have HH5 := Lib.hid ((hb5.block w.heap.size (lt_of_block HH4.out)).trans HH4.out)
  have P5 := Lib.hid (show s.At w5 (SX S w.heap.size (w.heap.size + 1)) w.heap.size from ⟨c1, c2, HH5.out, M4.out.below hb5⟩)
  have R5 := Lib.hid (R4.out.below hb5)
  have HB5 := Lib.hid (HB4.out.trans (hb5.mono HB4.out.size))
  have HZ5 := Lib.hid (Nat.le_trans HZ4.out hb5.size)
  refine hK.out _ _ HH5.out (fun hHeld5 => ?_)
  clear hK hb5 hv HH4 R4 M4 HB4 HZ4 HI HC HH5
  try simp only [Act.put, List.setIfInBounds_toArray, List.set_cons_zero, List.set_cons_succ]
  refine wpAnyH_take (i := 5) (oi := ⟨some 6, _, _, _, _, _⟩) (v := .int .i64 s.old) rfl (by kernel_rfl) (by kernel_rfl) (by kernel_rfl) (fun _ _ _ h => h) (Or.inl ⟨by rfl, ?_⟩) hHeld5 ?_
  · intro W' hW
    go_simp
  try simp only [Act.put, List.setIfInBounds_toArray, List.set_cons_zero, List.set_cons_succ]
  refine wpAnyH_done (by kernel_rfl) ?_ _
  have HT := Lib.hid (show s.cells l = l.foldl (Sn.cutF s.old) (s, 0) from rfl)
  generalize hold : s.old = t at *
  clear hold hHeld5
  go_wp2
  go_loopw [7, 18] (fun d i wr => ∃ k : Nat, k ≤ l.length ∧ i = .int .i64 k ∧ d = .int .i64 ((l.take k).foldl (Sn.cutF t) (s, 0)).2 ∧ Hid (((l.take k).foldl (Sn.cutF t) (s, 0)).1.At wr (SX S w.heap.size (w.heap.size + 1)) w.heap.size) ∧ Hid ((Sn.zero 0).At wr (fun _ => False) (w.heap.size + 1)) ∧ Hid (Below w.heap.size w wr) ∧ Hid (w.heap.size + 2 ≤ wr.heap.size)) (fun _ i _ => l.length - (intOf i).toNat)
  case atStart => exact ⟨0, by omega, rfl, rfl, P5, R5, HB5, HZ5⟩
  case round =>
    clear P5 R5 HB5 HZ5
    obtain ⟨k, hk, rfl, rfl, P, R, HB, HZ⟩ := hrel
    have hOK := Sn.cells_ok HF.out t (l.take k) 0
    by_cases hlt : k < l.length
    · have hi : (k : Int) < (n : Int) := by have := HN.out.1; omega
      obtain ⟨b, o, rfl, _, _, hc⟩ := HL.out.cell k hlt
      have h2 := hc wr HB.out
      have HE := Lib.hid (foldl_take (Sn.cutF t) (s, 0) l k hlt)
      have HK := Lib.hid hlt
      obtain ⟨hok, hd0, hd1⟩ := hOK
      have hd2 : (List.foldl (Sn.cutF t) (s, 0) (l.take k)).2 ≤ 1000000000000 := by have := HN.out.2; rw [List.length_take] at hd1; omega
      clear hd1 hc hk
      generalize List.foldl (Sn.cutF t) (s, 0) (l.take k) = x at *
      obtain ⟨st, d⟩ := x
      dsimp only at *
      have HOK := Lib.hid hok
      have hl0 : ((st.L l[k]).length : Int) ≤ 1000000 := by have := hok.2 l[k]; omega
      have hl1 : (((st.cut l[k] t).L l[k]).length : Int) ≤ 1000000 := by have := hok.2 l[k]; have := st.cut_len l[k] t l[k]; omega
      have HCF := Lib.hid (show Sn.cutF t (st, d) l[k] = (st.cut l[k] t, d + ((st.L l[k]).length - ((st.cut l[k] t).L l[k]).length)) from rfl)
      clear hok
      generalize l[k] = i at *
      clear hlt
      go_wp2_with (with_reducible refine at_load_ (t := 57) ?_; refine get_at rfl _ rfl w.heap.size rfl P.out ?_)
      intro b1 b2 hm
      have HM := Lib.hid hm
      clear hm
      try simp only [Act.put, List.setIfInBounds_toArray, List.set_cons_zero, List.set_cons_succ]
      go_wp2_with fail
      refine (st_list (S := SX S w.heap.size (w.heap.size + 1)) i (fun b hb => ⟨HS.out b (by have := HZ.out; omega), by have := HZ.out; omega, by have := HZ.out; omega⟩) HM.out).mono ?_
      rintro e w2 ⟨u, rfl, ⟨A1, n1, c1, rfl, hc1, hc2, hv⟩, hb2⟩
      have hn1 : (n1 : Int) ≤ 1000000 := by have := hv.1; omega
      have HN1 := Lib.hid hv.1
      have P2 := Lib.hid (P.out.below hb2)
      have R2 := Lib.hid (R.out.below hb2)
      have HB2 := Lib.hid (HB.out.trans (hb2.mono HB.out.size))
      have HZ2 := Lib.hid (Nat.le_trans HZ.out hb2.size)
      clear hv hb2 hc1 hc2 HM P R HB HZ h2 hl0
      go_wp2_with fail
      refine (len_any A1 n1 c1 w2).mono ?_
      rintro e w3 ⟨rfl, hb3⟩
      have P3 := Lib.hid (P2.out.below hb3)
      have R3 := Lib.hid (R2.out.below hb3)
      have HB3 := Lib.hid (HB2.out.trans (hb3.mono HB2.out.size))
      have HZ3 := Lib.hid (Nat.le_trans HZ2.out hb3.size)
      clear hb3 P2 R2 HB2 HZ2
      go_wp2_with (with_reducible refine at_load_ (t := 57) ?_; refine get_at rfl _ rfl w.heap.size rfl P3.out ?_)
      intro b1 b2 hm
      have HM := Lib.hid hm
      clear hm
      try simp only [Act.put, List.setIfInBounds_toArray, List.set_cons_zero, List.set_cons_succ]
      go_wp2_with fail
      refine (st_cut (S := SX S w.heap.size (w.heap.size + 1)) i t (fun b hb => ⟨HS.out b (by have := HZ3.out; omega), by have := HZ3.out; omega, by have := HZ3.out; omega⟩) HM.out (HOK.out.1 i) (Nat.le_trans (HOK.out.2 i) (by omega))).mono ?_
      rintro e w4 ⟨b5, b6, rfl, hm4, hb4⟩
      have P4 := Lib.hid (P3.out.below hb4)
      have R4 := Lib.hid (R3.out.below hb4)
      have HB4 := Lib.hid (HB3.out.trans (hb4.mono HB3.out.size))
      have HZ4 := Lib.hid (Nat.le_trans HZ3.out hb4.size)
      have HM4 := Lib.hid hm4
      clear hb4 P3 R3 HB3 HZ3 HM hm4
      go_wp2_with (with_reducible refine at_store_ (t := 57) ?_; refine Hid.out ?_)
      refine Lib.hid ?_
      refine put_at rfl (.tmp 2) (.tmp 29) rfl rfl w.heap.size rfl rfl P4.out HM4.out (fun h => h.2.1 rfl) ?_
      intro w5 hp5 ht5
      have P5 := Lib.hid hp5
      have R5 := Lib.hid (ht5.at R4.out (by omega) (fun h => h))
      have HB5 := Lib.hid (ht5.below HB4.out (Nat.le_refl _))
      have HZ5 := Lib.hid (show w.heap.size + 2 ≤ w5.heap.size by have := HZ4.out; have := ht5.size; omega)
      clear hp5 ht5 P4 R4 HB4 HZ4 HM4
      go_wp2_with (with_reducible refine at_load_ (t := 57) ?_; refine get_at rfl _ rfl w.heap.size rfl P5.out ?_)
      intro b1 b2 hm
      have HM := Lib.hid hm
      clear hm
      try simp only [Act.put, List.setIfInBounds_toArray, List.set_cons_zero, List.set_cons_succ]
      go_wp2_with fail
      refine (st_list (S := SX S w.heap.size (w.heap.size + 1)) i (fun b hb => ⟨HS.out b (by have := HZ5.out; omega), by have := HZ5.out; omega, by have := HZ5.out; omega⟩) HM.out).mono ?_
      rintro e w6 ⟨u, rfl, ⟨A2, n2, c2, rfl, hc1, hc2, hv⟩, hb6⟩
      have hn2 : (n2 : Int) ≤ 1000000 := by have := hv.1; omega
      have HN2 := Lib.hid hv.1
      have P6 := Lib.hid (P5.out.below hb6)
      have R6 := Lib.hid (R5.out.below hb6)
      have HB6 := Lib.hid (HB5.out.trans (hb6.mono HB5.out.size))
      have HZ6 := Lib.hid (Nat.le_trans HZ5.out hb6.size)
      clear hv hb6 hc1 hc2 HM P5 R5 HB5 HZ5 hl1
      go_wp2_with fail
      refine (len_any A2 n2 c2 w6).mono ?_
      rintro e w7 ⟨rfl, hb7⟩
      have P7 := Lib.hid (P6.out.below hb7)
      have R7 := Lib.hid (R6.out.below hb7)
      have HB7 := Lib.hid (HB6.out.trans (hb7.mono HB6.out.size))
      have HZ7 := Lib.hid (Nat.le_trans HZ6.out hb7.size)
      clear hb7 P6 R6 HB6 HZ6
      go_wp2
      go_roundw
      case rel => exact ⟨k + 1, HK.out, by go_num, by rw [HE.out, HCF.out, HN1.out, HN2.out], by rw [HE.out, HCF.out]; exact P7, R7, HB7, HZ7⟩
      case measure => exact meas_up _ _ HK.out
    · obtain rfl : k = l.length := by omega
      have hi : (n : Int) ≤ (l.length : Int) := by have := HN.out.1; omega
      rw [List.take_length] at P ⊢
      clear hlt hk hOK
      rw [← HT.out] at P ⊢
      go_wp2_with (with_reducible refine at_load_ (t := 57) ?_; refine get_at rfl _ rfl w.heap.size rfl P.out ?_)
      intro b1 b2 hm
      have HM := Lib.hid hm
      clear hm
      try simp only [Act.put, List.setIfInBounds_toArray, List.set_cons_zero, List.set_cons_succ]
      go_wp2_with (with_reducible refine at_store_ (t := 57) ?_; refine Hid.out ?_)
      refine Lib.hid ?_
      refine put_at rfl (.tmp 4) (.tmp 39) rfl rfl (w.heap.size + 1) rfl rfl R.out HM.out (fun h => h.2.2 rfl) ?_
      intro w5 hp5 ht5
      have HP := Lib.hid hp5
      have HB5 := Lib.hid (ht5.below HB.out (Nat.le_succ _))
      clear hp5 ht5
      go_wp2_with fail
      obtain ⟨b5, b6, hblk, hmm⟩ := HP.out
      have hl := load_sto _ _ _ _ _ hblk rfl
      refine bodyPost_ret (v := .tuple #[(s.cells l).1.val b5 b6, .int .i64 (s.cells l).2]) ?_ rfl ⟨b5, b6, rfl, hmm.more fun b _ h => h.1, HB5.out⟩
      simp [results, Try.results51, asAddr, hl, sto, Sn.val, Result.andThen]
end Go.Proofs.Ytpejhgkcofilmaa
