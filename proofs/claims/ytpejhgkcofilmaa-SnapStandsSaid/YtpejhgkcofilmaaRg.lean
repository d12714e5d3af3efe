/- The walk of the store's Commit where it errs and where no entry writes; Commit in one contract. Conditions: the maps, lists and entries lie in blocks that meet S; the numbers are of their kinds; no list is full. -/
import Derived.Test.YtpejhgkcofilmaaTrG
set_option linter.unusedVariables false
namespace Go.Proofs.Ytpejhgkcofilmaa
open Go.RowKit

theorem IntMap.empty {w : World} {b : Nat} (h : IntMap w b fun _ => none) : ∃ cl, w.heap[b]? = some (.map #[] cl) := by
  obtain ⟨es, cl, hb, _, hk, hf⟩ := h
  refine ⟨cl, ?_⟩
  have : es = #[] := by
    cases hes : es.toList with
    | nil => exact Array.toList_eq_nil_iff.1 hes
    | cons x t =>
      have hx : x ∈ es.toList := by rw [hes]; exact .head _
      obtain ⟨k, hk⟩ := hk x hx
      have := (hf k x.val).2 ⟨x, hx, hk, rfl⟩
      cases this
  rw [hb, this]

theorem wr_hit {l : List Ent} {e : Ent} (he : e ∈ l) (hw : e.wr = true) (h : wrOf l e.loc = none) : False := by
  have g : ∀ (l : List Ent) (k : Int) (a : Option Int), a ≠ none → l.foldl (fun acc (e : Ent) => if e.wr = true then (if k = e.loc then some e.new else acc) else acc) a ≠ none := by
    intro l
    induction l with
    | nil => intro k a h; exact h
    | cons x t ih =>
      intro k a h
      refine ih k _ ?_
      dsimp only
      split
      · split
        · simp
        · exact h
      · exact h
  obtain ⟨l1, l2, rfl⟩ := List.append_of_mem he
  unfold wrOf at h
  rw [List.foldl_append, List.foldl_cons, if_pos hw, if_pos rfl] at h
  exact g l2 e.loc _ (by simp) h

set_option maxRecDepth 100000 in
set_option maxHeartbeats 12800000 in
theorem commit_bad {S : Nat → Prop} (c n : Int) (b1 b2 : Option Nat) (B : Nat → Bool) (T : Nat → Int) (f : Int → Option Value) (g : Int → Option (List (Int × Int))) (W : Int → Option Int) (A : Option Addr) (m' cc : Nat) (l : List Ent) (w : World) (hS : ∀ b, w.heap.size ≤ b → S b)
    (hm : IsMap w S (.map b1) f) (hg : LMap w S f g) (h2 : IsMap w S (.map b2) (wmap W)) (hL : ∀ k, (listOf c g k).length ≤ 1099511627776) (hl : Ents w S A m' l) (hok : ∀ e ∈ l, EntOk e) (hn : m' ≤ 1099511627776) (hcc : m' ≤ cc)
    (hw : wrongE c g W l ≠ 0) :
    Calls Try.prog 31 #[sto c n (.map b1) (.map b2) B T, .slice A m' cc] w fun e w' => e = .returned (.tuple #[sto c n (.map b1) (.map b2) B T, .int .i64 0, .int .i64 (wrongE c g W l)]) ∧ Below w.heap.size w w' := by
  have hbb : ∀ o1 o2, Below w.heap.size w ((w.alloc o1).alloc o2) := fun o1 o2 => ((Below.refl _ _).alloc (Nat.le_refl _) _).alloc (by simp) _
  have C0 := Lib.hid fun (o2 : Obj) => wrong_any (S := S) c n b1 b2 B T f g W A m' cc l ((w.alloc (.cells (stoCells c n (.map b1) (.map b2) B T) 57)).alloc o2) (fun b hb => hS b (by simp at hb; omega)) (hm.below (hbb _ _)) (hg.below (hbb _ _)) (h2.below (hbb _ _)) hL (hl.below (hbb _ _)) hok hn hcc
  have H1 := Lib.hid fun (o2 : Obj) => heap_alloc2_old w (.cells (stoCells c n (.map b1) (.map b2) B T) 57) o2
  have H2 := Lib.hid fun (o1 o2 : Obj) => heap_alloc2_new w o1 o2
  have HL := Lib.hid hl
  have hmm := @run_makeMap Try.prog
  have HW := Lib.hid hw
  clear hm hg h2 hl hL hok hbb hw
  go_enter Try.func31, Try.ntmps31
  go_wp2_with (first
    | (with_reducible refine at_box_ (t := 57) ?_; refine box_sto rfl _ rfl _ rfl (c := c) (n := n) (ml := .map b1) (mw := .map b2) (B := B) (T := T) rfl ?_)
    | (with_reducible refine at_alloc_ (t := 57) ?_; refine wpList_alloc_mine rfl 57 rfl _ rfl (stoZ 0) stoZ_zero rfl ?_)
    | (with_reducible refine at_load_ (t := 57) ?_; refine get_sto rfl _ rfl w.heap.size rfl (H1.out _) ?_))
  refine (C0.out _).mono ?_
  rintro e w1 ⟨rfl, hb1⟩
  have P := Lib.hid ((hb1.block w.heap.size (by simp; omega)).trans (H1.out _))
  have P' := Lib.hid ((hb1.block (w.heap.size + 1) (by simp)).trans (H2.out _ _))
  have hb0 : Below w.heap.size w ((w.alloc (.cells (stoCells c n (.map b1) (.map b2) B T) 57)).alloc (.cells (stoZ 0) 57)) := ((Below.refl _ _).alloc (Nat.le_refl _) _).alloc (by simp) _
  have HB := Lib.hid (hb0.trans (hb1.mono hb0.size))
  have HZ := Lib.hid (show w.heap.size + 2 ≤ w1.heap.size by have := hb1.size; simpa using this)
  clear hb0 hb1 H1 H2 C0
  have hne : (wrongE c g W l != 0) = true := by simpa using HW.out
  have hne2 : (wrongE c g W l == 0) = false := by simpa using HW.out
  clear HL hmm
  generalize hE : wrongE c g W l = E at *
  have HE := Lib.hid hE
  clear hE
  go_wp2_with (first
    | (with_reducible refine at_load_ (t := 57) ?_; refine get_sto rfl _ rfl w.heap.size rfl P.out ?_)
    | (with_reducible refine at_store_ (t := 57) ?_; refine Hid.out ?_))
  refine Lib.hid ?_
  refine put_sto rfl (.tmp 4) (.tmp 20) rfl rfl (w.heap.size + 1) rfl rfl P'.out rfl ?_
  go_wp2_with fail
  have hl := load_sto _ _ _ _ _ (setRow_heap w1 (w.heap.size + 1) _ (stoCells c n (.map b1) (.map b2) B T) _ _ P'.out) rfl
  refine bodyPost_ret (v := .tuple #[sto c n (.map b1) (.map b2) B T, .int .i64 0, .int .i64 E]) ?_ rfl ⟨by rw [HE.out], below_setRow HB.out (Nat.le_succ _) _⟩
  simp [results, Try.results31, asAddr, hl, sto, Result.andThen]

set_option maxRecDepth 100000 in
set_option maxHeartbeats 12800000 in
theorem commit_none {S : Nat → Prop} (c n : Int) (b1 b2 : Option Nat) (B : Nat → Bool) (T : Nat → Int) (f : Int → Option Value) (g : Int → Option (List (Int × Int))) (W : Int → Option Int) (A : Option Addr) (m' cc : Nat) (l : List Ent) (w : World) (hS : ∀ b, w.heap.size ≤ b → S b)
    (hm : IsMap w S (.map b1) f) (hg : LMap w S f g) (h2 : IsMap w S (.map b2) (wmap W)) (hL : ∀ k, (listOf c g k).length ≤ 1099511627776) (hl : Ents w S A m' l) (hok : ∀ e ∈ l, EntOk e) (hn : m' ≤ 1099511627776) (hcc : m' ≤ cc)
    (hw : wrongE c g W l = 0) (hno : ∀ e ∈ l, e.wr = false) :
    Calls Try.prog 31 #[sto c n (.map b1) (.map b2) B T, .slice A m' cc] w fun e w' => e = .returned (.tuple #[sto c n (.map b1) (.map b2) B T, .int .i64 n, .int .i64 0]) ∧ Below w.heap.size w w' := by
  have hbb : ∀ o1 o2, Below w.heap.size w ((w.alloc o1).alloc o2) := fun o1 o2 => ((Below.refl _ _).alloc (Nat.le_refl _) _).alloc (by simp) _
  have C0 := Lib.hid fun (o2 : Obj) => wrong_any (S := S) c n b1 b2 B T f g W A m' cc l ((w.alloc (.cells (stoCells c n (.map b1) (.map b2) B T) 57)).alloc o2) (fun b hb => hS b (by simp at hb; omega)) (hm.below (hbb _ _)) (hg.below (hbb _ _)) (h2.below (hbb _ _)) hL (hl.below (hbb _ _)) hok hn hcc
  have H1 := Lib.hid fun (o2 : Obj) => heap_alloc2_old w (.cells (stoCells c n (.map b1) (.map b2) B T) 57) o2
  have H2 := Lib.hid fun (o1 o2 : Obj) => heap_alloc2_new w o1 o2
  have HL := Lib.hid hl
  have hmm := @run_makeMap Try.prog
  have HW := Lib.hid hw
  have HNO := Lib.hid hno
  clear hno
  clear hm hg h2 hl hL hok hbb hw
  go_enter Try.func31, Try.ntmps31
  go_wp2_with (first
    | (with_reducible refine at_box_ (t := 57) ?_; refine box_sto rfl _ rfl _ rfl (c := c) (n := n) (ml := .map b1) (mw := .map b2) (B := B) (T := T) rfl ?_)
    | (with_reducible refine at_alloc_ (t := 57) ?_; refine wpList_alloc_mine rfl 57 rfl _ rfl (stoZ 0) stoZ_zero rfl ?_)
    | (with_reducible refine at_load_ (t := 57) ?_; refine get_sto rfl _ rfl w.heap.size rfl (H1.out _) ?_))
  refine (C0.out _).mono ?_
  rintro e w1 ⟨rfl, hb1⟩
  have P := Lib.hid ((hb1.block w.heap.size (by simp; omega)).trans (H1.out _))
  have P' := Lib.hid ((hb1.block (w.heap.size + 1) (by simp)).trans (H2.out _ _))
  have hb0 : Below w.heap.size w ((w.alloc (.cells (stoCells c n (.map b1) (.map b2) B T) 57)).alloc (.cells (stoZ 0) 57)) := ((Below.refl _ _).alloc (Nat.le_refl _) _).alloc (by simp) _
  have HB := Lib.hid (hb0.trans (hb1.mono hb0.size))
  have HZ := Lib.hid (show w.heap.size + 2 ≤ w1.heap.size by have := hb1.size; simpa using this)
  clear hb0 hb1 H1 H2 C0
  rw [HW.out]
  have BI := Lib.hid (show IntMap ((w1.alloc (.map #[] 0)).alloc (.map #[] 0)) w1.heap.size (fun _ => none) from (IntMap.made w1).below ((Below.refl _ _).alloc (Nat.le_refl _) _))
  have hb2 : Below w1.heap.size w1 ((w1.alloc (.map #[] 0)).alloc (.map #[] 0)) := ((Below.refl _ _).alloc (Nat.le_refl _) _).alloc (by simp) _
  have P2 := Lib.hid ((hb2.block _ (lt_of_block P.out)).trans P.out)
  have P2' := Lib.hid ((hb2.block _ (lt_of_block P'.out)).trans P'.out)
  have HB2 := Lib.hid (HB.out.trans (hb2.mono HB.out.size))
  clear hb2 P P' HB HW
  go_wp2
  generalize (w1.alloc (.map #[] 0)).alloc (.map #[] 0) = w2 at *
  generalize w1.heap.size = m at *
  clear hmm
  go_loopw [26] (fun i wr => ∃ k : Nat, k ≤ m' ∧ i = .int .i64 k ∧ Hid (IntMap wr m (fun _ => none)) ∧ Hid (wr.heap[w.heap.size]? = some (.cells (stoCells c n (.map b1) (.map b2) B T) 57 (0, 0))) ∧ Hid (wr.heap[w.heap.size + 1]? = some (.cells (stoZ 0) 57 (0, 0))) ∧ Hid (Below w.heap.size w wr)) (fun i _ => m' - (intOf i).toNat)
  case atStart => exact ⟨0, by omega, rfl, BI, P2, P2', HB2⟩
  case round =>
    clear BI P2 P2' HB2
    obtain ⟨k, hk, rfl, BI, P, P', HB⟩ := hrel
    by_cases hlt : k < m'
    · obtain ⟨y, b, o, hy, rfl, hbk, hSb, hcell⟩ := HL.out.at k hlt
      obtain ⟨f0, f1, f2, f3', f4, f5⟩ := hcell wr HB.out
      have hi1 : (k : Int) < (m' : Int) := by omega
      have hwf := HNO.out y (List.mem_of_getElem? hy)
      have BA := Lib.hid fun o => BI.out.below ((Below.refl _ _).alloc (Nat.le_refl _) o)
      have PA := Lib.hid fun (o : Obj) => (heap_alloc_old wr o (r := w.heap.size) (lt_of_block P.out)).trans P.out
      have PB := Lib.hid fun (o : Obj) => (heap_alloc_old wr o (r := w.heap.size + 1) (lt_of_block P'.out)).trans P'.out
      have HBA := Lib.hid fun (o : Obj) => HB.out.alloc HB.out.size o
      clear hy hcell BI P P' HB
      obtain ⟨lo, va, ve, re, ne, wb⟩ := y
      dsimp only at f0 f1 f2 f3' f4 f5 hwf
      subst hwf
      go_wp2
      go_roundw
      case rel => exact ⟨k + 1, by omega, by go_num, Lib.hid (BA.out _), Lib.hid (PA.out _), Lib.hid (PB.out _), Lib.hid (HBA.out _)⟩
      case measure => simp [intOf]; omega
    · obtain rfl : k = m' := by omega
      obtain ⟨cl, hcl⟩ := BI.out.empty
      have hlen : (Builtin.len_ #[51] 3 #[.map (some m)]).run Try.prog wr = .ok (.int .i64 0) wr := by
        refine run_len_map wr _ _ _ #[] cl ?_ hcl
        kernel_rfl
      clear hcl BI HL HNO
      go_wp2_with fail
      refine wp_region_held_drew (S := fun W' => W'.heap[w.heap.size]? = some (.cells (stoCells c n (.map b1) (.map b2) B T) 57 (0, 0))) (by kernel_rfl) P.out (fun hHeld => ?_)
      have HHD := Lib.hid hHeld
      have PD := Lib.hid (show wr.drew.heap[w.heap.size + 1]? = some (.cells (stoZ 0) 57) from P'.out)
      have HBD := Lib.hid HB.out.drew
      clear hHeld P P' HB hlen
      generalize wr.drew = wd at *
      refine wpAnyH_take (i := 0) (oi := ⟨some 61, _, _, _, _, _⟩) (v := sto c n (.map b1) (.map b2) B T) rfl (by kernel_rfl) (by kernel_rfl) (by kernel_rfl) (fun _ _ _ h => h) (yields_sto (by rfl) _ rfl w.heap.size rfl 57 (0, 0) (fun _ h => h)) HHD.out ?_
      try simp only [Act.put, List.setIfInBounds_toArray, List.set_cons_zero, List.set_cons_succ]
      refine wpAnyH_take (i := 1) (oi := ⟨some 62, _, _, _, _, _⟩) (v := .pointer (some ⟨w.heap.size, 1, none⟩)) rfl (by kernel_rfl) (by kernel_rfl) (by kernel_rfl) (fun _ _ _ h => h) (Or.inl ⟨by rfl, ?_⟩) HHD.out ?_
      · intro W' hW
        go_simp
      try simp only [Act.put, List.setIfInBounds_toArray, List.set_cons_zero, List.set_cons_succ]
      refine wpAnyH_take (i := 2) (oi := ⟨some 63, _, _, _, _, _⟩) (v := .int .i64 n) rfl (by kernel_rfl) (by kernel_rfl) (by kernel_rfl) (fun _ _ _ h => h) (Or.inl ⟨by rfl, ?_⟩) HHD.out ?_
      · intro W' hW
        have hf := (sto_all hW).2.1
        go_simp
      try simp only [Act.put, List.setIfInBounds_toArray, List.set_cons_zero, List.set_cons_succ]
      refine wpAnyH_ready (rs := [3]) (by kernel_rfl) (by simp) ?_
      refine AllReadyH.cons (o := ⟨none, _, _, _, _, _⟩) rfl (fun K hK => ?_) AllReadyH.nil
      refine Eq.mpr (if_pos (by kernel_rfl)) ?_
      refine wp_store_row 57 (.tmp 4) (.tmp 61) rfl (w.heap.size + 1) (stoCells c n (.map b1) (.map b2) B T) rfl rfl 57 (stoZ 0) PD.out Try.size57 rfl (sto_ones ..) ?_
      have E7 := Lib.hid (show (wd.setRow (w.heap.size + 1) (stoCells c n (.map b1) (.map b2) B T)).heap[w.heap.size + 1]? = some (.cells (stoCells c n (.map b1) (.map b2) B T) 57 (0, 0)) from setRow_heap _ _ _ _ _ _ PD.out)
      have E8 := Lib.hid (show (wd.setRow (w.heap.size + 1) (stoCells c n (.map b1) (.map b2) B T)).heap[w.heap.size]? = some (.cells (stoCells c n (.map b1) (.map b2) B T) 57 (0, 0)) from (setRow_other _ _ _ _ (by omega)).trans HHD.out)
      have FIN := Lib.hid (below_setRow HBD.out (Nat.le_succ _) (stoCells c n (.map b1) (.map b2) B T))
      refine hK.out _ _ E8.out (fun hHeld9 => ?_)
      clear hK HHD PD HBD
      generalize wd.setRow (w.heap.size + 1) (stoCells c n (.map b1) (.map b2) B T) = w7 at *
      try simp only [Act.put]
      refine wpAnyH_take (i := 4) (oi := ⟨some 5, _, _, _, _, _⟩) (v := .int .i64 n) rfl (by kernel_rfl) (by kernel_rfl) (by kernel_rfl) (fun _ _ _ h => h) (Or.inl ⟨by rfl, ?_⟩) hHeld9 ?_
      · intro W' hW
        go_simp
      try simp only [Act.put, List.setIfInBounds_toArray, List.set_cons_zero, List.set_cons_succ]
      refine wpAnyH_take (i := 5) (oi := ⟨some 6, _, _, _, _, _⟩) (v := .int .i64 0) rfl (by kernel_rfl) (by kernel_rfl) (by kernel_rfl) (fun _ _ _ h => h) (Or.inl ⟨by rfl, ?_⟩) hHeld9 ?_
      · intro W' hW
        go_simp
      try simp only [Act.put, List.setIfInBounds_toArray, List.set_cons_zero, List.set_cons_succ]
      refine wpAnyH_done (by kernel_rfl) ?_ _
      go_wp2_with fail
      have hl := load_sto w7 _ _ _ _ E7.out rfl
      refine bodyPost_ret (v := .tuple #[sto c n (.map b1) (.map b2) B T, .int .i64 n, .int .i64 0]) ?_ rfl ⟨rfl, FIN.out⟩
      simp [results, Try.results31, asAddr, hl, sto, Result.andThen]

/-- What Commit leaves: the store, the time, the error. -/
def Sn.com (s : Sn) (l : List Ent) : Sn := if s.wrongS l = 0 ∧ l.any (fun e => e.wr) = true then s.commit l else s
def Sn.comT (s : Sn) (l : List Ent) : Int := if s.wrongS l ≠ 0 then 0 else if l.any (fun e => e.wr) = true then s.n + 1 else s.n
theorem scom_any {s : Sn} {S : Nat → Prop} {b1 b2 : Option Nat} {w : World} (A : Option Addr) (m cc : Nat) (l : List Ent) (hS : ∀ b, w.heap.size ≤ b → S b) (hm : s.Maps w S b1 b2) (hL : ∀ k, (s.L k).length ≤ 1099511627776) (hl : Ents w S A m l) (hok : ∀ e ∈ l, EntOk e) (hn : m ≤ 1099511627776) (hcc : m ≤ cc)
    (hn0 : 0 ≤ s.n) (hn1 : s.n < 4611686018427387904) (hadd : ∀ e ∈ l, e.wr = true → addE (s.L e.loc) (s.n + 1) = 0) :
    Calls Try.prog 31 #[s.val b1 b2, .slice A m cc] w fun e w' =>
      ∃ b5 b6, e = .returned (.tuple #[(s.com l).val b5 b6, .int .i64 (s.comT l), .int .i64 (s.wrongS l)]) ∧ (s.com l).Maps w' S b5 b6 ∧ Below w.heap.size w w' := by
  by_cases hw : s.wrongS l = 0
  · by_cases ha : l.any (fun e => e.wr) = true
    · refine (st_commit A m cc l hS hm hL hl hok hn hcc hw hn0 hn1 hadd ?_).mono ?_
      · obtain ⟨e, he, hwr⟩ := List.any_eq_true.1 ha
        refine ⟨e.loc, fun h => ?_⟩
        exact wr_hit he hwr h
      · rintro e w' ⟨b5, b6, rfl, h1, h2⟩
        refine ⟨some b5, some b6, ?_, ?_, h2⟩
        · unfold Sn.com Sn.comT
          rw [if_pos ⟨hw, ha⟩, if_neg (by rw [hw]; simp), if_pos ha, hw]
        · unfold Sn.com
          rw [if_pos ⟨hw, ha⟩]
          exact h1
    · obtain ⟨f, g, W0, h1, h2, h3, h4, h5⟩ := hm
      refine (commit_none s.c s.n b1 b2 s.B s.T f g W0 A m cc l w hS h1 h2 h3 (fun k => by rw [h4]; exact hL k) hl hok hn hcc (by rw [wrongS_eq h4 h5]; exact hw) ?_).mono ?_
      · intro e he
        cases hx : e.wr
        · rfl
        · exact absurd (List.any_eq_true.2 ⟨e, he, hx⟩) ha
      · rintro e w' ⟨rfl, hb⟩
        refine ⟨b1, b2, ?_, ?_, hb⟩
        · unfold Sn.com Sn.comT
          rw [if_neg (fun h => ha h.2), if_neg (by rw [hw]; simp), if_neg ha, hw]
          rfl
        · unfold Sn.com
          rw [if_neg (fun h => ha h.2)]
          exact Sn.Maps.below ⟨f, g, W0, h1, h2, h3, h4, h5⟩ hb
  · obtain ⟨f, g, W0, h1, h2, h3, h4, h5⟩ := hm
    refine (commit_bad s.c s.n b1 b2 s.B s.T f g W0 A m cc l w hS h1 h2 h3 (fun k => by rw [h4]; exact hL k) hl hok hn hcc (by rw [wrongS_eq h4 h5]; exact hw)).mono ?_
    rintro e w' ⟨rfl, hb⟩
    refine ⟨b1, b2, ?_, ?_, hb⟩
    · unfold Sn.com Sn.comT
      rw [if_neg (fun h => hw h.1), if_pos hw, wrongS_eq h4 h5]
      rfl
    · unfold Sn.com
      rw [if_neg (fun h => hw h.1)]
      exact Sn.Maps.below ⟨f, g, W0, h1, h2, h3, h4, h5⟩ hb
end Go.Proofs.Ytpejhgkcofilmaa
