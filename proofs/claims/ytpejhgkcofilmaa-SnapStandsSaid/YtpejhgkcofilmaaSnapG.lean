/- The walk of the store's Commit, where it succeeds and writes. Conditions: the maps, lists and entries lie in blocks that meet S; the numbers are of their kinds; no list is full. -/
import Derived.Test.YtpejhgkcofilmaaSnapF
set_option linter.unusedVariables false
namespace Go.Proofs.Ytpejhgkcofilmaa
open Go.RowKit

/-- The lists that a commit writes. -/
def stepG (c n : Int) (g : Int → Option (List (Int × Int))) (acc : Int → Option (List (Int × Int))) (e : Ent) : Int → Option (List (Int × Int)) :=
  if e.wr = true then fun i => if i = e.loc then some (listOf c g e.loc ++ [(n + 1, e.new)]) else acc i else acc
def accG (c n : Int) (g : Int → Option (List (Int × Int))) (l : List Ent) : Int → Option (List (Int × Int)) := l.foldl (stepG c n g) fun _ => none
def stepW (acc : Int → Option Value) (e : Ent) : Int → Option Value := if e.wr = true then upd acc e.loc (.bool true) else acc
def accW (l : List Ent) : Int → Option Value := l.foldl stepW fun _ => none
theorem accG_step {c n : Int} {g : Int → Option (List (Int × Int))} {l : List Ent} {k : Nat} {y : Ent} (h : l[k]? = some y) : accG c n g (l.take (k + 1)) = stepG c n g (accG c n g (l.take k)) y := by
  unfold accG
  rw [List.take_add_one, h, List.foldl_append]
  rfl
theorem accW_step {l : List Ent} {k : Nat} {y : Ent} (h : l[k]? = some y) : accW (l.take (k + 1)) = stepW (accW (l.take k)) y := by
  unfold accW
  rw [List.take_add_one, h, List.foldl_append]
  rfl
theorem accW_bool (l : List Ent) : ∀ k, accW l k = none ∨ accW l k = some (.bool true) := by
  unfold accW
  have : ∀ (l : List Ent) (a : Int → Option Value), (∀ k, a k = none ∨ a k = some (.bool true)) → ∀ k, l.foldl stepW a k = none ∨ l.foldl stepW a k = some (.bool true) := by
    intro l
    induction l with
    | nil => intro a h; exact h
    | cons x t ih =>
      intro a h
      refine ih _ fun k => ?_
      unfold stepW
      split
      · unfold upd
        split
        · exact .inr rfl
        · exact h k
      · exact h k
  exact this l _ fun _ => .inl rfl
theorem acc_same (c n : Int) (g : Int → Option (List (Int × Int))) (l : List Ent) (k : Int) : (accW l k).isSome = (accG c n g l k).isSome := by
  unfold accW accG
  have : ∀ (l : List Ent) (a : Int → Option Value) (b : Int → Option (List (Int × Int))), (∀ k, (a k).isSome = (b k).isSome) → ∀ k, (l.foldl stepW a k).isSome = (l.foldl (stepG c n g) b k).isSome := by
    intro l
    induction l with
    | nil => intro a b h; exact h
    | cons x t ih =>
      intro a b h
      refine ih _ _ fun k => ?_
      unfold stepW stepG
      split
      · unfold upd
        by_cases hk : k = x.loc
        · simp [hk]
        · simp [hk, h k]
      · exact h k
  exact this l _ _ (fun _ => rfl) k

/-- The blocks of a call of Commit: the store, the result, the two maps. -/
def ComI (p m : Nat) (cs : Array Value) (w wr : World) (F1 F2 : Int → Option Value) : Prop :=
  wr.heap[p]? = some (.cells cs 57) ∧ wr.heap[p + 1]? = some (.cells (stoZ 0) 57) ∧ IntMap wr m F1 ∧ IntMap wr (m + 1) F2 ∧ Below p w wr ∧ m + 2 ≤ wr.heap.size ∧ p + 2 ≤ m
section
variable {p m : Nat} {cs : Array Value} {w wr w1 : World} {F1 F2 F : Int → Option Value}
theorem ComI.below (h : ComI p m cs w wr F1 F2) (hb : Below wr.heap.size wr w1) : ComI p m cs w w1 F1 F2 := by
  obtain ⟨h1, h2, h3, h4, h5, h6, h7⟩ := h
  have k := fun i (hi : i < m + 2) => hb.block i (by omega)
  exact ⟨(k p (by omega)).trans h1, (k (p + 1) (by omega)).trans h2, h3.keep (k m (by omega)), h4.keep (k (m + 1) (by omega)), h5.trans (hb.mono (by omega)), by have := hb.size; omega, h7⟩
theorem ComI.alloc (h : ComI p m cs w wr F1 F2) (o : Obj) : ComI p m cs w (wr.alloc o) F1 F2 := h.below ((Below.refl _ _).alloc (Nat.le_refl _) o)
theorem ComI.setCell (h : ComI p m cs w wr F1 F2) {q i : Nat} (hq : m + 2 ≤ q) (v : Value) : ComI p m cs w (wr.setCell ⟨q, i, none⟩ v) F1 F2 := by
  obtain ⟨h1, h2, h3, h4, h5, h6, h7⟩ := h
  have k := fun j (hj : j < m + 2) => heap_setCell_other wr ⟨q, i, none⟩ j v (show j ≠ q by omega)
  exact ⟨(k p (by omega)).trans h1, (k (p + 1) (by omega)).trans h2, h3.keep (k m (by omega)), h4.keep (k (m + 1) (by omega)), h5.setCell (by show p ≤ q; omega) _, by simpa using h6, h7⟩
theorem ComI.upd1 (h : ComI p m cs w wr F1 F2) (hm : IntMap w1 m F) (hg : wr.grownBy w1 (some m)) : ComI p m cs w w1 F F2 := by
  obtain ⟨h1, h2, h3, h4, h5, h6, h7⟩ := h
  have k := fun i (hi : i < m + 2) (hne : i ≠ m) => hg.block i (by omega) (by intro e; cases e; omega)
  exact ⟨(k p (by omega) (by omega)).trans h1, (k (p + 1) (by omega) (by omega)).trans h2, hm, h4.keep (k (m + 1) (by omega) (by omega)), h5.grown hg (by omega) (by rintro j e; cases e; omega), by have := hg.size; omega, h7⟩
theorem ComI.upd2 (h : ComI p m cs w wr F1 F2) (hm : IntMap w1 (m + 1) F) (hg : wr.grownBy w1 (some (m + 1))) : ComI p m cs w w1 F1 F := by
  obtain ⟨h1, h2, h3, h4, h5, h6, h7⟩ := h
  have k := fun i (hi : i < m + 2) (hne : i ≠ m + 1) => hg.block i (by omega) (by intro e; cases e; omega)
  exact ⟨(k p (by omega) (by omega)).trans h1, (k (p + 1) (by omega) (by omega)).trans h2, h3.keep (k m (by omega) (by omega)), hm, h5.grown hg (by omega) (by rintro j e; cases e; omega), by have := hg.size; omega, h7⟩
end
theorem VList.grown {w w1 : World} {S : Nat → Prop} {u : Value} {l : List (Int × Int)} {q : Nat} (h : VList w S u l) (hg : w.grownBy w1 (some q)) (hq : ¬ S q) : VList w1 S u l := by
  obtain ⟨A, n, c, e, h1, h2, h3⟩ := h
  refine ⟨A, n, c, e, h1, h2, h3.1, h3.2.keep hg.size fun p hp hS => ?_⟩
  exact World.cell?_of_block (hg.block _ hp (by intro e; cases e; exact hq hS))
theorem LMap.grown {w w1 : World} {S : Nat → Prop} {f : Int → Option Value} {g : Int → Option (List (Int × Int))} {q : Nat} (h : LMap w S f g) (hg : w.grownBy w1 (some q)) (hq : ¬ S q) : LMap w1 S f g := fun k => by
  rcases h k with h | ⟨u, l, h1, h2, h3⟩
  · exact .inl h
  · exact .inr ⟨u, l, h1, h2, h3.grown hg hq⟩
theorem LMap.setCell {w : World} {S : Nat → Prop} {f : Int → Option Value} {g : Int → Option (List (Int × Int))} (h : LMap w S f g) {p : Addr} (hp : ¬ S p.block) (v : Value) : LMap (w.setCell p v) S f g := fun k => by
  rcases h k with h | ⟨u, l, h1, h2, h3⟩
  · exact .inl h
  · exact .inr ⟨u, l, h1, h2, h3.setCell hp v⟩
theorem LMap.upd {w : World} {S : Nat → Prop} {f : Int → Option Value} {g : Int → Option (List (Int × Int))} (h : LMap w S f g) {i : Int} {u : Value} {l : List (Int × Int)} (hv : VList w S u l) : LMap w S (upd f i u) (fun j => if j = i then some l else g j) := fun k => by
  unfold Go.Proofs.Ytpejhgkcofilmaa.upd
  by_cases hk : k = i
  · subst hk
    exact .inr ⟨u, l, if_pos rfl, if_pos rfl, hv⟩
  · rw [if_neg hk]
    have := h k
    simpa [hk] using this
theorem VList.keepB {w w1 : World} {S : Nat → Prop} {u : Value} {l : List (Int × Int)} (h : VList w S u l) (hs : w.heap.size ≤ w1.heap.size) (hk : ∀ b, b < w.heap.size → S b → w1.heap[b]? = w.heap[b]?) : VList w1 S u l := by
  obtain ⟨A, n, c, e, h1, h2, h3⟩ := h
  exact ⟨A, n, c, e, h1, h2, h3.1, h3.2.keep hs fun p hp hS => World.cell?_of_block (hk _ hp hS)⟩
theorem LMap.keepB {w w1 : World} {S : Nat → Prop} {f : Int → Option Value} {g : Int → Option (List (Int × Int))} (h : LMap w S f g) (hs : w.heap.size ≤ w1.heap.size) (hk : ∀ b, b < w.heap.size → S b → w1.heap[b]? = w.heap[b]?) : LMap w1 S f g := fun k => by
  rcases h k with h | ⟨u, l, h1, h2, h3⟩
  · exact .inl h
  · exact .inr ⟨u, l, h1, h2, h3.keepB hs hk⟩
theorem LMap.or {w : World} {S : Nat → Prop} {f3 f : Int → Option Value} {g3 g : Int → Option (List (Int × Int))} (h3 : LMap w S f3 g3) (h : LMap w S f g) : LMap w S (fun k => (f3 k).or (f k)) (fun k => (g3 k).or (g k)) := fun k => by
  dsimp only
  rcases h3 k with ⟨h1, h2⟩ | ⟨u, l, h1, h2, hv⟩
  · rw [h1, h2]; exact h k
  · rw [h1, h2]; exact .inr ⟨u, l, rfl, rfl, hv⟩
/-- A map's update, in a region that draws its order. -/
theorem wp_upd_mine {P : Program} {w : World} {K : Act → World → Prop} {o : Oper} {a : Act} {Q : Exit → Act → World → Prop} (m x v : Operand) (t : TypeId) (hop : o.op = Op.mapUpdate t m x v) (k e : TypeId) (ht : P.underlying t = some (.map k e)) (hk : P.underlying k = some (.int .i64)) (b : Nat) (f : Int → Option Value) (h : IntMap w b f)
    (hm : a.eval m = .map (some b)) (i : Int) (hx : a.eval x = .int .i64 i) (u : Value) (hv : a.eval v = u)
    (hK : ∀ w', IntMap w' b (upd f i u) → w.grownBy w' (some b) → w'.heap.size = w.heap.size → K (a.put o.dst undef) w') : o.wp P a w K Q := by
  obtain ⟨w', hrun, r1, r2, r3⟩ := h.store ht hk i u
  unfold Oper.wp
  simp [execOp, hop, hm, hx, hv, hrun, Result.andThen]
  exact hK w' r1 r2 r3

set_option maxRecDepth 100000 in
set_option maxHeartbeats 25600000 in
theorem commit_ok {S : Nat → Prop} (c n : Int) (b1 b2 : Option Nat) (B : Nat → Bool) (T : Nat → Int) (f : Int → Option Value) (g : Int → Option (List (Int × Int))) (W : Int → Option Int) (A : Option Addr) (m' cc : Nat) (l : List Ent) (w : World) (hS : ∀ b, w.heap.size ≤ b → S b)
    (hm : IsMap w S (.map b1) f) (hg : LMap w S f g) (h2 : IsMap w S (.map b2) (wmap W)) (hL : ∀ k, (listOf c g k).length ≤ 1099511627776) (hl : Ents w S A m' l) (hok : ∀ e ∈ l, EntOk e) (hn : m' ≤ 1099511627776) (hcc : m' ≤ cc)
    (hw0 : wrongE c g W l = 0) (hn0 : 0 ≤ n) (hn1 : n < 4611686018427387904) (hadd : ∀ e ∈ l, e.wr = true → addE (listOf c g e.loc) (n + 1) = 0) (hsome : ∃ i, accG c n g l i ≠ none) :
    Calls Try.prog 31 #[sto c n (.map b1) (.map b2) B T, .slice A m' cc] w fun e w' =>
      ∃ b5 b6 f', e = .returned (.tuple #[sto c (n + 1) (.map (some b5)) (.map (some b6)) B T, .int .i64 (n + 1), .int .i64 0]) ∧ IsMap w' S (.map (some b5)) f' ∧ LMap w' S f' (fun k => (accG c n g l k).or (g k)) ∧
        IsMap w' S (.map (some b6)) (wmap fun k => if (accG c n g l k).isSome then some (((W k).getD 0 + 1) % 4294967296) else W k) ∧ Below w.heap.size w w' := by
  have hbb : ∀ o1 o2, Below w.heap.size w ((w.alloc o1).alloc o2) := fun o1 o2 => ((Below.refl _ _).alloc (Nat.le_refl _) _).alloc (by simp) _
  have C0 := Lib.hid fun (o2 : Obj) => (show Calls Try.prog _ _ ((w.alloc (.cells (stoCells c n (.map b1) (.map b2) B T) 57)).alloc o2) _ from by
    have := wrong_any (S := S) c n b1 b2 B T f g W A m' cc l ((w.alloc (.cells (stoCells c n (.map b1) (.map b2) B T) 57)).alloc o2) (fun b hb => hS b (by simp at hb; omega)) (hm.below (hbb _ _)) (hg.below (hbb _ _)) (h2.below (hbb _ _)) hL (hl.below (hbb _ _)) hok hn hcc
    rwa [hw0] at this)
  have H1 := Lib.hid fun (o2 : Obj) => heap_alloc2_old w (.cells (stoCells c n (.map b1) (.map b2) B T) 57) o2
  have H2 := Lib.hid fun (o1 o2 : Obj) => heap_alloc2_new w o1 o2
  have HM := Lib.hid hm
  have HG := Lib.hid hg
  have HU := Lib.hid h2
  have HL := Lib.hid hl
  have HADD := Lib.hid hadd
  have HSOME := Lib.hid hsome
  have HLEN := Lib.hid hL
  have hmm := @run_makeMap Try.prog
  clear hm hg h2 hl hadd hsome hL hok hw0 hbb
  have hnw : IntKind.i64.wrap (n + 1) = n + 1 := by simp [IntKind.wrap, IntKind.bits, IntKind.signed]; omega
  go_enter Try.func31, Try.ntmps31
  go_wp2_with (first
    | (with_reducible refine at_box_ (t := 57) ?_; refine box_sto rfl _ rfl _ rfl (c := c) (n := n) (ml := .map b1) (mw := .map b2) (B := B) (T := T) rfl ?_)
    | (with_reducible refine at_alloc_ (t := 57) ?_; refine wpList_alloc_mine rfl 57 rfl _ rfl (stoZ 0) stoZ_zero rfl ?_)
    | (with_reducible refine at_load_ (t := 57) ?_; refine get_sto rfl _ rfl w.heap.size rfl (H1.out _) ?_))
  refine (C0.out _).mono ?_
  rintro e w1 ⟨rfl, hb1⟩
  have hsz : w.heap.size + 2 ≤ w1.heap.size := by have := hb1.size; simpa using this
  have base : ComI w.heap.size w1.heap.size (stoCells c n (.map b1) (.map b2) B T) w ((w1.alloc (.map #[] 0)).alloc (.map #[] 0)) (fun _ => none) (fun _ => none) := by
    have e1 := (hb1.block w.heap.size (by simp; omega)).trans (H1.out _)
    have e2 := (hb1.block (w.heap.size + 1) (by simp)).trans (H2.out _ _)
    have k := fun (W : World) (o : Obj) (i : Nat) (hi : i < W.heap.size) => heap_alloc_old W o (r := i) hi
    have m1 := (IntMap.made w1).below ((Below.refl _ _).alloc (Nat.le_refl _) (.map #[] 0))
    have m2 := IntMap.made (w1.alloc (.map #[] 0))
    refine ⟨?_, ?_, m1, by simpa using m2, ?_, by simp, hsz⟩
    · rw [k _ _ _ (by simp; omega), k _ _ _ (by omega)]; exact e1
    · rw [k _ _ _ (by simp; omega), k _ _ _ (by omega)]; exact e2
    · exact (((below_new (below_new hb1))).alloc (by omega) _).alloc (by simp; omega) _
  have BI := Lib.hid base
  clear base hb1 C0 H1 H2
  go_wp2
  generalize hw2 : (w1.alloc (.map #[] 0)).alloc (.map #[] 0) = w2 at *
  clear hw2
  have HSZ := Lib.hid hsz
  clear hsz
  generalize w1.heap.size = m at *
  go_loopw [26] (fun i wr => ∃ k : Nat, k ≤ m' ∧ i = .int .i64 k ∧ ∃ f3, Hid (ComI w.heap.size m (stoCells c n (.map b1) (.map b2) B T) w wr f3 (accW (l.take k))) ∧ Hid (LMap wr (fun b => S b ∧ (b < w.heap.size ∨ m + 2 ≤ b)) f3 (accG c n g (l.take k)))) (fun i _ => m' - (intOf i).toNat)
  case atStart => exact ⟨0, by omega, rfl, fun _ => none, BI, Lib.hid fun k => .inl ⟨rfl, rfl⟩⟩
  case round =>
    clear BI
    obtain ⟨k, hk, rfl, f3, BI, LM⟩ := hrel
    by_cases hlt : k < m'
    · obtain ⟨y, b, o, hy, rfl, hbk, hSb, hcell⟩ := HL.out.at k hlt
      obtain ⟨f0, f1, f2, f3', f4, f5⟩ := hcell wr BI.out.2.2.2.2.1
      have HY := Lib.hid hy
      have hi0 : (0 : Int) ≤ (k : Int) := by omega
      have hi1 : (k : Int) < (m' : Int) := by omega
      have GS := Lib.hid (accG_step (c := c) (n := n) (g := g) hy)
      have WS := Lib.hid (accW_step hy)
      have QBX := Lib.hid (EBox.new (w := wr) (e := y))
      have BA := Lib.hid (BI.out.alloc (entO y))
      have LA := Lib.hid (LM.out.below ((Below.refl _ _).alloc (Nat.le_refl _) (entO y)))
      have HE := Lib.hid (HADD.out y (List.mem_of_getElem? hy))
      clear hy hcell
      obtain ⟨lo, va, ve, re, ne, wb⟩ := y
      unfold entO at QBX BA LA
      dsimp only at f0 f1 f2 f3' f4 f5 BA LA
      cases wb with
      | false =>
        have GS2 := Lib.hid (show accG c n g (l.take (k + 1)) = accG c n g (l.take k) by rw [GS.out]; rfl)
        have WS2 := Lib.hid (show accW (l.take (k + 1)) = accW (l.take k) by rw [WS.out]; rfl)
        go_wp2
        go_roundw
        case rel => exact ⟨k + 1, by omega, by go_num, f3, by rw [WS2.out]; exact BA, by rw [GS2.out]; exact LA⟩
        case measure => simp [intOf]; omega
      | true =>
        have GS2 := Lib.hid (show accG c n g (l.take (k + 1)) = fun i => if i = lo then some (listOf c g lo ++ [(n + 1, ne)]) else accG c n g (l.take k) i by rw [GS.out]; rfl)
        have WS2 := Lib.hid (show accW (l.take (k + 1)) = upd (accW (l.take k)) lo (.bool true) by rw [WS.out]; rfl)
        have hadd0 : addE (listOf c g lo) (n + 1) = 0 := HE.out rfl
        have haddL : addL (listOf c g lo) (n + 1) ne = listOf c g lo ++ [(n + 1, ne)] := if_pos hadd0
        have CA := Lib.hid fun (S5 : Nat → Prop) (A1 : Option Addr) (n1 c1 : Nat) (W1 : World) (hS5 : ∀ b, W1.heap.size ≤ b → S5 b) h1 h2 h3 => (show Calls Try.prog _ _ W1 _ from by
          have := add_any (S := S5) A1 n1 c1 (listOf c g lo) (n + 1) ne W1 hS5 h1 h2 h3 (HLEN.out lo)
          rwa [hadd0, haddL] at this)
        have CL := Lib.hid fun (S5 : Nat → Prop) (W1 : World) (hS5 : ∀ b, W1.heap.size ≤ b → S5 b) (hb : Below w.heap.size w W1) (hSS : ∀ b, b < w.heap.size → S b → S5 b) => slist_any (S := S5) c n b1 b2 B T f g lo W1 hS5 ((HM.out.more hSS).below hb) ((HG.out.more hSS).below hb)
        clear GS WS HE hadd0 haddL
        generalize listOf c g lo = L at *
        go_wp2_with fail
        generalize hW0 : wr.alloc (.cells _ _) = w0 at *
        have hq11 : wr.heap.size < w0.heap.size := by rw [← hW0]; simp
        clear hW0
        have hq11m : m + 2 ≤ wr.heap.size := BI.out.2.2.2.2.2.1
        generalize wr.heap.size = q11 at *
        have SZ0 := Lib.hid (show m + 2 ≤ w0.heap.size from BA.out.2.2.2.2.2.1)
        have SZ1 := Lib.hid (show w.heap.size + 2 ≤ m from BA.out.2.2.2.2.2.2)
        have HB0 := Lib.hid (show Below w.heap.size w w0 from BA.out.2.2.2.2.1)
        have QBX2 := Lib.hid (show EBox w0 q11 ⟨lo, va, ve, re, ne, true⟩ from QBX.out)
        clear QBX
        have HQ11 := Lib.hid hq11
        have HQ11M := Lib.hid hq11m
        clear hq11 hq11m f0 f1 f2 f3' f4 f5
        refine wp_region_held_drew (S := fun W' => W'.heap[w.heap.size]? = some (.cells (stoCells c n (.map b1) (.map b2) B T) 57 (0, 0)) ∧ EBox W' q11 ⟨lo, va, ve, re, ne, true⟩) (by kernel_rfl) ⟨BA.out.1, QBX2.out⟩ (fun hHeld => ?_)
        refine wpAnyH_take (i := 0) (oi := ⟨some 34, _, _, _, _, _⟩) (v := sto c n (.map b1) (.map b2) B T) rfl (by kernel_rfl) (by kernel_rfl) (by kernel_rfl) (fun _ _ _ h => h) (yields_sto (by rfl) _ rfl w.heap.size rfl 57 (0, 0) (fun _ h => h.1)) hHeld ?_
        try simp only [Act.put, List.setIfInBounds_toArray, List.set_cons_zero, List.set_cons_succ]
        refine wpAnyH_take (i := 1) (oi := ⟨some 35, _, _, _, _, _⟩) (v := .pointer (some ⟨q11, 0, none⟩)) rfl (by kernel_rfl) (by kernel_rfl) (by kernel_rfl) (fun _ _ _ h => h) (Or.inl ⟨by rfl, ?_⟩) hHeld ?_
        · intro W' hW
          go_simp
        try simp only [Act.put, List.setIfInBounds_toArray, List.set_cons_zero, List.set_cons_succ]
        refine wpAnyH_take (i := 2) (oi := ⟨some 36, _, _, _, _, _⟩) (v := .int .i64 lo) rfl (by kernel_rfl) (by kernel_rfl) (by kernel_rfl) (fun _ _ _ h => h) (Or.inl ⟨by rfl, ?_⟩) hHeld ?_
        · intro W' hW
          obtain ⟨z0, z1, z2, z3, z4, z5⟩ := EBox.all hW.2
          dsimp only at z0 z1 z2 z3 z4 z5
          clear hW
          go_simp
        try simp only [Act.put, List.setIfInBounds_toArray, List.set_cons_zero, List.set_cons_succ]
        refine wpAnyH_take (i := 4) (oi := ⟨some 38, _, _, _, _, _⟩) (v := .pointer (some ⟨w.heap.size, 1, none⟩)) rfl (by kernel_rfl) (by kernel_rfl) (by kernel_rfl) (fun _ _ _ h => h) (Or.inl ⟨by rfl, ?_⟩) hHeld ?_
        · intro W' hW
          go_simp
        try simp only [Act.put, List.setIfInBounds_toArray, List.set_cons_zero, List.set_cons_succ]
        refine wpAnyH_take (i := 5) (oi := ⟨some 39, _, _, _, _, _⟩) (v := .int .i64 n) rfl (by kernel_rfl) (by kernel_rfl) (by kernel_rfl) (fun _ _ _ h => h) (Or.inl ⟨by rfl, ?_⟩) hHeld ?_
        · intro W' hW
          have zz := (sto_all hW.1).2.1
          clear hW
          go_simp
        try simp only [Act.put, List.setIfInBounds_toArray, List.set_cons_zero, List.set_cons_succ]
        refine wpAnyH_take (i := 6) (oi := ⟨some 40, _, _, _, _, _⟩) (v := .int .i64 (n + 1)) rfl (by kernel_rfl) (by kernel_rfl) (by kernel_rfl) (fun _ _ _ h => h) (Or.inl ⟨by rfl, ?_⟩) hHeld ?_
        · intro W' hW
          go_simp
        try simp only [Act.put, List.setIfInBounds_toArray, List.set_cons_zero, List.set_cons_succ]
        refine wpAnyH_take (i := 7) (oi := ⟨some 41, _, _, _, _, _⟩) (v := .pointer (some ⟨q11, 4, none⟩)) rfl (by kernel_rfl) (by kernel_rfl) (by kernel_rfl) (fun _ _ _ h => h) (Or.inl ⟨by rfl, ?_⟩) hHeld ?_
        · intro W' hW
          go_simp
        try simp only [Act.put, List.setIfInBounds_toArray, List.set_cons_zero, List.set_cons_succ]
        refine wpAnyH_take (i := 8) (oi := ⟨some 42, _, _, _, _, _⟩) (v := .int .i64 ne) rfl (by kernel_rfl) (by kernel_rfl) (by kernel_rfl) (fun _ _ _ h => h) (Or.inl ⟨by rfl, ?_⟩) hHeld ?_
        · intro W' hW
          obtain ⟨z0, z1, z2, z3, z4, z5⟩ := EBox.all hW.2
          dsimp only at z0 z1 z2 z3 z4 z5
          clear hW
          go_simp
        try simp only [Act.put, List.setIfInBounds_toArray, List.set_cons_zero, List.set_cons_succ]
        refine wpAnyH_ready (rs := [3, 13]) (by kernel_rfl) (by simp) ?_
        refine AllReadyH.cons (o := ⟨some 37, _, _, _, _, _⟩) rfl (fun K hK => ?_) (AllReadyH.cons (o := ⟨some 12, _, _, _, _, _⟩) rfl (fun K hK => ?_) AllReadyH.nil)
        · skip
          go_simp
          have HZ := Lib.hid (show w0.heap.size ≤ w0.drew.heap.size from Nat.le_refl _)
          refine (CL.out (fun b => S b ∧ (b < w.heap.size ∨ m + 2 ≤ b)) w0.drew (fun b hb => ⟨hS b (by have h1 := SZ0.out; have h2 := SZ1.out; have h3 : w0.drew.heap.size ≤ b := hb; have h4 := HZ.out; omega), .inr (by have h1 := SZ0.out; have h3 : w0.drew.heap.size ≤ b := hb; have h4 := HZ.out; omega)⟩) HB0.out.drew (fun b hb h => ⟨h, .inl hb⟩)).mono ?_
          rintro e w2 ⟨u1, rfl, ⟨A1, n1, c1, rfl, hc1, hc2, hv1⟩, hb2⟩
          have HB2 := Lib.hid (show Below w0.heap.size w0 w2 from (Below.refl _ _).drew.trans hb2)
          have P2 := Lib.hid (show w2.heap[w.heap.size]? = some (.cells (stoCells c n (.map b1) (.map b2) B T) 57 (0, 0)) ∧ EBox w2 q11 ⟨lo, va, ve, re, ne, true⟩ from ⟨(BA.out.below HB2.out).1, QBX2.out.below HB2.out⟩)
          refine hK.out _ _ P2.out (fun hHeld2 => ?_)
          clear hK hb2 hHeld HZ
          try simp only [Act.put, List.setIfInBounds_toArray, List.set_cons_zero, List.set_cons_succ]
          refine wpAnyH_ready (rs := [9, 13]) (by kernel_rfl) (by simp) ?_
          refine AllReadyH.cons (o := ⟨some 43, _, _, _, _, _⟩) rfl (fun K hK => ?_) (AllReadyH.cons (o := ⟨some 12, _, _, _, _, _⟩) rfl (fun K hK => ?_) (AllReadyH.nil))
          · skip
            go_simp
            have HZ := Lib.hid HB2.out.size
            refine (CA.out (fun b => S b ∧ (b < w.heap.size ∨ m + 2 ≤ b)) A1 n1 c1 w2 (fun b hb => ⟨hS b (by have h1 := SZ0.out; have h2 := SZ1.out; have h3 : w2.heap.size ≤ b := hb; have h4 := HZ.out; omega), .inr (by have h1 := SZ0.out; have h3 : w2.heap.size ≤ b := hb; have h4 := HZ.out; omega)⟩) hv1 hc1 hc2).mono ?_
            rintro e w3 ⟨A', n', c', rfl, hd1, hd2, hv2, hb3⟩
            have HB3 := Lib.hid (HB2.out.trans (hb3.mono HB2.out.size))
            refine hK.out _ _ ⟨(BA.out.below HB3.out).1, QBX2.out.below HB3.out⟩ (fun hHeld3 => ?_)
            clear hK hb3 HZ hv1 hc1 hc2 hHeld2
            try simp only [Act.put, List.setIfInBounds_toArray, List.set_cons_zero, List.set_cons_succ]
            refine wpAnyH_take (i := 10) (oi := ⟨some 33, _, _, _, _, _⟩) (v := .tuple #[.agg #[.slice A' n' c'], .int .i64 0]) rfl (by kernel_rfl) (by kernel_rfl) (by kernel_rfl) (fun _ _ _ h => h) (Or.inl ⟨by rfl, ?_⟩) hHeld3 ?_
            · intro W' hW
              go_simp
            try simp only [Act.put, List.setIfInBounds_toArray, List.set_cons_zero, List.set_cons_succ]
            refine wpAnyH_take (i := 11) (oi := ⟨some 44, _, _, _, _, _⟩) (v := .agg #[.slice A' n' c']) rfl (by kernel_rfl) (by kernel_rfl) (by kernel_rfl) (fun _ _ _ h => h) (Or.inl ⟨by rfl, ?_⟩) hHeld3 ?_
            · intro W' hW
              go_simp
            try simp only [Act.put, List.setIfInBounds_toArray, List.set_cons_zero, List.set_cons_succ]
            refine wpAnyH_take (i := 12) (oi := ⟨some 45, _, _, _, _, _⟩) (v := .int .i64 0) rfl (by kernel_rfl) (by kernel_rfl) (by kernel_rfl) (fun _ _ _ h => h) (Or.inl ⟨by rfl, ?_⟩) hHeld3 ?_
            · intro W' hW
              go_simp
            try simp only [Act.put, List.setIfInBounds_toArray, List.set_cons_zero, List.set_cons_succ]
            refine wpAnyH_ready (rs := [13]) (by kernel_rfl) (by simp) ?_
            refine AllReadyH.cons (o := ⟨some 12, _, _, _, _, _⟩) rfl (fun K hK => ?_) (AllReadyH.nil)
            go_simp
            have HS := Lib.hid (fun (o : Obj) => (show (w3.alloc o).heap[w.heap.size]? = some (.cells (stoCells c n (.map b1) (.map b2) B T) 57 (0, 0)) ∧ EBox (w3.alloc o) q11 ⟨lo, va, ve, re, ne, true⟩ from ⟨((BA.out.below HB3.out).alloc o).1, (QBX2.out.below HB3.out).alloc o⟩))
            refine hK.out _ _ (HS.out _) (fun hHeld4 => ?_)
            clear hK hHeld3
            try simp only [Act.put, List.setIfInBounds_toArray, List.set_cons_zero, List.set_cons_succ]
            refine wpAnyH_ready (rs := [14]) (by kernel_rfl) (by simp) ?_
            refine AllReadyH.cons (o := ⟨none, _, _, _, _, _⟩) rfl (fun K hK => ?_) (AllReadyH.nil)
            go_simp
            have CE := Lib.hid ((BA.out.below HB3.out).alloc (.cells #[.slice A' n' c'] 27))
            have QE := Lib.hid ((QBX2.out.below HB3.out).alloc (.cells #[.slice A' n' c'] 27))
            have LE := Lib.hid (heap_alloc_new w3 (.cells #[.slice A' n' c'] 27))
            have VE := Lib.hid (show VList (w3.alloc (.cells #[.slice A' n' c'] 27)) (fun b => S b ∧ (b < w.heap.size ∨ m + 2 ≤ b)) (.agg #[.slice A' n' c']) _ from ⟨A', n', c', rfl, hd1, hd2, hv2.1, hv2.2.alloc _⟩)
            have ME := Lib.hid ((LA.out.below HB3.out).below ((Below.refl _ _).alloc (Nat.le_refl _) (.cells #[.slice A' n' c'] 27)))
            have HQM := Lib.hid (show m + 2 ≤ q11 ∧ m + 2 ≤ w3.heap.size from ⟨HQ11M.out, by have h1 := SZ0.out; have h2 := HB3.out.size; omega⟩)
            refine hK.out _ _ (HS.out _) (fun hHeld5 => ?_)
            clear hK HS hHeld4
            try simp only [Act.put, List.setIfInBounds_toArray, List.set_cons_zero, List.set_cons_succ]
            refine wpAnyH_take (i := 15) (oi := ⟨some 13, _, _, _, _, _⟩) (v := .int .i64 0) rfl (by kernel_rfl) (by kernel_rfl) (by kernel_rfl) (fun _ _ _ h => h) (Or.inl ⟨by rfl, ?_⟩) hHeld5 ?_
            · intro W' hW
              go_simp
            try simp only [Act.put, List.setIfInBounds_toArray, List.set_cons_zero, List.set_cons_succ]
            refine wpAnyH_done (by kernel_rfl) ?_ _
            clear hd1 hd2 hv2 hHeld5 HB3
            generalize w3.alloc (.cells #[.slice A' n' c'] 27) = wE at *
            generalize w3.heap.size = q at *
            go_wp2_with fail
            refine wp_region_held_drew (S := fun W' => EBox W' q11 ⟨lo, va, ve, re, ne, true⟩ ∧ W'.heap[q]? = some (.cells #[.slice A' n' c'] 27 (0, 0))) (by kernel_rfl) ⟨QE.out, LE.out⟩ (fun hHeld => ?_)
            refine wpAnyH_take (i := 0) (oi := ⟨some 50, _, _, _, _, _⟩) (v := .map (some m)) rfl (by kernel_rfl) (by kernel_rfl) (by kernel_rfl) (fun _ _ _ h => h) (Or.inl ⟨by rfl, ?_⟩) hHeld ?_
            · intro W' hW
              go_simp
            try simp only [Act.put, List.setIfInBounds_toArray, List.set_cons_zero, List.set_cons_succ]
            refine wpAnyH_take (i := 1) (oi := ⟨some 51, _, _, _, _, _⟩) (v := .pointer (some ⟨q11, 0, none⟩)) rfl (by kernel_rfl) (by kernel_rfl) (by kernel_rfl) (fun _ _ _ h => h) (Or.inl ⟨by rfl, ?_⟩) hHeld ?_
            · intro W' hW
              go_simp
            try simp only [Act.put, List.setIfInBounds_toArray, List.set_cons_zero, List.set_cons_succ]
            refine wpAnyH_take (i := 2) (oi := ⟨some 52, _, _, _, _, _⟩) (v := .int .i64 lo) rfl (by kernel_rfl) (by kernel_rfl) (by kernel_rfl) (fun _ _ _ h => h) (Or.inl ⟨by rfl, ?_⟩) hHeld ?_
            · intro W' hW
              obtain ⟨z0, z1, z2, z3, z4, z5⟩ := EBox.all hW.1
              dsimp only at z0 z1 z2 z3 z4 z5
              clear hW
              go_simp
            try simp only [Act.put, List.setIfInBounds_toArray, List.set_cons_zero, List.set_cons_succ]
            refine wpAnyH_take (i := 3) (oi := ⟨some 53, _, _, _, _, _⟩) (v := .map (some (m + 1))) rfl (by kernel_rfl) (by kernel_rfl) (by kernel_rfl) (fun _ _ _ h => h) (Or.inl ⟨by rfl, ?_⟩) hHeld ?_
            · intro W' hW
              go_simp
            try simp only [Act.put, List.setIfInBounds_toArray, List.set_cons_zero, List.set_cons_succ]
            refine wpAnyH_take (i := 4) (oi := ⟨some 54, _, _, _, _, _⟩) (v := .pointer (some ⟨q11, 0, none⟩)) rfl (by kernel_rfl) (by kernel_rfl) (by kernel_rfl) (fun _ _ _ h => h) (Or.inl ⟨by rfl, ?_⟩) hHeld ?_
            · intro W' hW
              go_simp
            try simp only [Act.put, List.setIfInBounds_toArray, List.set_cons_zero, List.set_cons_succ]
            refine wpAnyH_take (i := 5) (oi := ⟨some 55, _, _, _, _, _⟩) (v := .int .i64 lo) rfl (by kernel_rfl) (by kernel_rfl) (by kernel_rfl) (fun _ _ _ h => h) (Or.inl ⟨by rfl, ?_⟩) hHeld ?_
            · intro W' hW
              obtain ⟨z0, z1, z2, z3, z4, z5⟩ := EBox.all hW.1
              dsimp only at z0 z1 z2 z3 z4 z5
              clear hW
              go_simp
            try simp only [Act.put, List.setIfInBounds_toArray, List.set_cons_zero, List.set_cons_succ]
            refine wpAnyH_take (i := 6) (oi := ⟨some 56, _, _, _, _, _⟩) (v := .agg #[.slice A' n' c']) rfl (by kernel_rfl) (by kernel_rfl) (by kernel_rfl) (fun _ _ _ h => h) (Or.inl ⟨by rfl, ?_⟩) hHeld ?_
            · intro W' hW
              have zz : W'.cell? ⟨q, 0, none⟩ = some (.slice A' n' c') := by rw [cell_of_row _ _ _ _ _ _ hW.2]; rfl
              clear hW
              go_simp
            try simp only [Act.put, List.setIfInBounds_toArray, List.set_cons_zero, List.set_cons_succ]
            refine wpAnyH_ready (rs := [7]) (by kernel_rfl) (by simp) ?_
            refine AllReadyH.cons (o := ⟨none, _, _, _, _, _⟩) rfl (fun K hK => ?_) (AllReadyH.nil)
            refine Eq.mpr (if_pos (by kernel_rfl)) ?_
            refine wp_upd_mine (.tmp 50) (.tmp 52) (.tmp 56) 51 rfl 67 27 Try.underlying51 Try.underlying67 m _ CE.out.2.2.1 rfl lo rfl (.agg #[.slice A' n' c']) rfl (fun wa hm5 hg5 hs5 => ?_)
            have hg5 : wE.grownBy wa (some m) := ⟨hg5.os, hg5.tape, hg5.output, hg5.size, hg5.block⟩
            have Cwa := Lib.hid (CE.out.upd1 hm5 hg5)
            have Mwa := Lib.hid ((ME).out.grown hg5 (fun h => by have h1 := SZ1.out; have h2 := h.2; omega))
            have Vwa := Lib.hid ((VE).out.grown hg5 (fun h => by have h1 := SZ1.out; have h2 := h.2; omega))
            have Xwa := Lib.hid (show EBox wa q11 ⟨lo, va, ve, re, ne, true⟩ ∧ wa.heap[q]? = some (.cells #[.slice A' n' c'] 27 (0, 0)) from ⟨(hg5.block q11 (hHeld.1.lt) (by intro e; injection e with e; have h1 := HQM.out.1; omega)).trans hHeld.1, (hg5.block q (lt_of_block hHeld.2) (by intro e; injection e with e; have h1 := HQM.out.2; omega)).trans hHeld.2⟩)
            clear hm5 hg5 hs5
            refine hK.out _ _ Xwa.out (fun hHwa => ?_)
            clear hK
            try simp only [Act.put, List.setIfInBounds_toArray, List.set_cons_zero, List.set_cons_succ]
            refine wpAnyH_ready (rs := [8]) (by kernel_rfl) (by simp) ?_
            refine AllReadyH.cons (o := ⟨none, _, _, _, _, _⟩) rfl (fun K hK => ?_) (AllReadyH.nil)
            refine Eq.mpr (if_pos (by kernel_rfl)) ?_
            refine wp_upd_mine (.tmp 53) (.tmp 55) (.const (.bool true)) 133 rfl 67 4 Try.underlying133 Try.underlying67 (m + 1) _ Cwa.out.2.2.2.1 rfl lo rfl (.bool true) rfl (fun wab hm5 hg5 hs5 => ?_)
            have Cwab := Lib.hid (Cwa.out.upd2 hm5 hg5)
            have Mwab := Lib.hid ((Mwa).out.grown hg5 (fun h => by have h1 := SZ1.out; have h2 := h.2; omega))
            have Vwab := Lib.hid ((Vwa).out.grown hg5 (fun h => by have h1 := SZ1.out; have h2 := h.2; omega))
            have Xwab := Lib.hid (show EBox wab q11 ⟨lo, va, ve, re, ne, true⟩ ∧ wab.heap[q]? = some (.cells #[.slice A' n' c'] 27 (0, 0)) from ⟨(hg5.block q11 (hHwa.1.lt) (by intro e; injection e with e; have h1 := HQM.out.1; omega)).trans hHwa.1, (hg5.block q (lt_of_block hHwa.2) (by intro e; injection e with e; have h1 := HQM.out.2; omega)).trans hHwa.2⟩)
            clear hm5 hg5 hs5
            refine hK.out _ _ Xwab.out (fun hHwab => ?_)
            clear hK
            try simp only [Act.put, List.setIfInBounds_toArray, List.set_cons_zero, List.set_cons_succ]
            refine wpAnyH_done (by kernel_rfl) ?_ _
            have MF := Lib.hid (Mwab.out.upd (i := lo) Vwab.out)
            rw [← GS2.out] at MF
            have CF := Lib.hid (Cwab.out)
            rw [← WS2.out] at CF
            go_wp2
            go_roundw
            case rel => exact ⟨k + 1, by omega, by go_num, _, CF, MF⟩
            case measure => simp [intOf]; omega
          · skip
            go_simp
            have HB2a := Lib.hid (HB2.out.alloc HB2.out.size (.cells #[.slice none 0 0] 27))
            refine hK.out _ _ ⟨(BA.out.below HB2a.out).1, QBX2.out.below HB2a.out⟩ (fun hHeld3 => ?_)
            clear hK hHeld2
            try simp only [Act.put, List.setIfInBounds_toArray, List.set_cons_zero, List.set_cons_succ]
            refine wpAnyH_ready (rs := [9]) (by kernel_rfl) (by simp) ?_
            refine AllReadyH.cons (o := ⟨some 43, _, _, _, _, _⟩) rfl (fun K hK => ?_) (AllReadyH.nil)
            go_simp
            have HZ := Lib.hid (show w0.heap.size ≤ (w2.alloc (.cells #[.slice none 0 0] 27)).heap.size ∧ w2.heap.size < (w2.alloc (.cells #[.slice none 0 0] 27)).heap.size from ⟨HB2a.out.size, by simp⟩)
            have HZQ := Lib.hid HB2.out.size
            refine (CA.out (fun b => (fun b => S b ∧ (b < w.heap.size ∨ m + 2 ≤ b)) b ∧ b ≠ w2.heap.size) A1 n1 c1 (w2.alloc (.cells #[.slice none 0 0] 27)) (fun b hb => ⟨⟨hS b (by have h1 := SZ0.out; have h2 := SZ1.out; have h3 : (w2.alloc (.cells #[.slice none 0 0] 27)).heap.size ≤ b := hb; have h4 := HZ.out; omega), .inr (by have h1 := SZ0.out; have h3 : (w2.alloc (.cells #[.slice none 0 0] 27)).heap.size ≤ b := hb; have h4 := HZ.out; omega)⟩, by have h3 : (w2.alloc (.cells #[.slice none 0 0] 27)).heap.size ≤ b := hb; have h4 := HZ.out; omega⟩) ⟨hv1.1, (hv1.2.more (fun b hb h => ⟨h, by omega⟩)).alloc _⟩ hc1 hc2).mono ?_
            rintro e w3 ⟨A', n', c', rfl, hd1, hd2, hv2, hb3⟩
            have HB3 := Lib.hid (HB2a.out.trans (hb3.mono HB2a.out.size))
            have BQ3 := Lib.hid ((hb3.block w2.heap.size (by simp)).trans (heap_alloc_new w2 (.cells #[.slice none 0 0] 27)))
            refine hK.out _ _ ⟨(BA.out.below HB3.out).1, QBX2.out.below HB3.out⟩ (fun hHeld4 => ?_)
            clear hK hb3 HZ hv1 hc1 hc2 hHeld3
            try simp only [Act.put, List.setIfInBounds_toArray, List.set_cons_zero, List.set_cons_succ]
            refine wpAnyH_take (i := 10) (oi := ⟨some 33, _, _, _, _, _⟩) (v := .tuple #[.agg #[.slice A' n' c'], .int .i64 0]) rfl (by kernel_rfl) (by kernel_rfl) (by kernel_rfl) (fun _ _ _ h => h) (Or.inl ⟨by rfl, ?_⟩) hHeld4 ?_
            · intro W' hW
              go_simp
            try simp only [Act.put, List.setIfInBounds_toArray, List.set_cons_zero, List.set_cons_succ]
            refine wpAnyH_take (i := 11) (oi := ⟨some 44, _, _, _, _, _⟩) (v := .agg #[.slice A' n' c']) rfl (by kernel_rfl) (by kernel_rfl) (by kernel_rfl) (fun _ _ _ h => h) (Or.inl ⟨by rfl, ?_⟩) hHeld4 ?_
            · intro W' hW
              go_simp
            try simp only [Act.put, List.setIfInBounds_toArray, List.set_cons_zero, List.set_cons_succ]
            refine wpAnyH_take (i := 12) (oi := ⟨some 45, _, _, _, _, _⟩) (v := .int .i64 0) rfl (by kernel_rfl) (by kernel_rfl) (by kernel_rfl) (fun _ _ _ h => h) (Or.inl ⟨by rfl, ?_⟩) hHeld4 ?_
            · intro W' hW
              go_simp
            try simp only [Act.put, List.setIfInBounds_toArray, List.set_cons_zero, List.set_cons_succ]
            refine wpAnyH_ready (rs := [14]) (by kernel_rfl) (by simp) ?_
            refine AllReadyH.cons (o := ⟨none, _, _, _, _, _⟩) rfl (fun K hK => ?_) (AllReadyH.nil)
            have cq : w3.cell? ⟨w2.heap.size, 0, none⟩ = some (.slice none 0 0) := by rw [cell_of_row _ _ _ _ _ _ BQ3.out]; rfl
            have fq := not_frozen BQ3.out
            go_simp
            clear cq fq
            have CE := Lib.hid ((BA.out.below HB3.out).setCell (q := w2.heap.size) (i := 0) (by have h1 := SZ0.out; have h2 := HZQ.out; omega) (.slice A' n' c'))
            have QE := Lib.hid (show EBox (w3.setCell ⟨w2.heap.size, 0, none⟩ (.slice A' n' c')) q11 ⟨lo, va, ve, re, ne, true⟩ from (heap_setCell_other w3 ⟨w2.heap.size, 0, none⟩ q11 _ (by show q11 ≠ w2.heap.size; have h1 := HQ11.out; have h2 := HZQ.out; omega)).trans (QBX2.out.below HB3.out))
            have LE := Lib.hid (show (w3.setCell ⟨w2.heap.size, 0, none⟩ (.slice A' n' c')).heap[w2.heap.size]? = some (.cells #[.slice A' n' c'] 27 (0, 0)) from heap_setCell_same w3 w2.heap.size 0 _ _ _ BQ3.out)
            have VE := Lib.hid ((VList.setCell (S := fun b => (fun b => S b ∧ (b < w.heap.size ∨ m + 2 ≤ b)) b ∧ b ≠ w2.heap.size) (p := ⟨w2.heap.size, 0, none⟩) ⟨A', n', c', rfl, hd1, hd2, hv2⟩ (by simp) (.slice A' n' c')).more (S' := fun b => S b ∧ (b < w.heap.size ∨ m + 2 ≤ b)) (fun b _ h => h.1))
            have ME := Lib.hid ((LMap.setCell (S := fun b => (fun b => S b ∧ (b < w.heap.size ∨ m + 2 ≤ b)) b ∧ b ≠ w2.heap.size) (p := ⟨w2.heap.size, 0, none⟩) ((LA.out.more (S' := fun b => (fun b => S b ∧ (b < w.heap.size ∨ m + 2 ≤ b)) b ∧ b ≠ w2.heap.size) (fun b hb h => ⟨h, by have h2 := HZQ.out; omega⟩)).below HB3.out) (by simp) (.slice A' n' c')).more (S' := fun b => S b ∧ (b < w.heap.size ∨ m + 2 ≤ b)) (fun b _ h => h.1))
            have HQM := Lib.hid (show m + 2 ≤ q11 ∧ m + 2 ≤ w2.heap.size from ⟨HQ11M.out, by have h1 := SZ0.out; have h2 := HZQ.out; omega⟩)
            refine hK.out _ _ ⟨CE.out.1, QE.out⟩ (fun hHeld9 => ?_)
            clear hK
            try simp only [Act.put, List.setIfInBounds_toArray, List.set_cons_zero, List.set_cons_succ]
            refine wpAnyH_take (i := 15) (oi := ⟨some 13, _, _, _, _, _⟩) (v := .int .i64 0) rfl (by kernel_rfl) (by kernel_rfl) (by kernel_rfl) (fun _ _ _ h => h) (Or.inl ⟨by rfl, ?_⟩) hHeld9 ?_
            · intro W' hW
              go_simp
            try simp only [Act.put, List.setIfInBounds_toArray, List.set_cons_zero, List.set_cons_succ]
            refine wpAnyH_done (by kernel_rfl) ?_ _
            clear hd1 hd2 hv2 hHeld9 BQ3 HB3
            generalize w3.setCell ⟨w2.heap.size, 0, none⟩ (.slice A' n' c') = wE at *
            generalize w2.heap.size = q at *
            go_wp2_with fail
            refine wp_region_held_drew (S := fun W' => EBox W' q11 ⟨lo, va, ve, re, ne, true⟩ ∧ W'.heap[q]? = some (.cells #[.slice A' n' c'] 27 (0, 0))) (by kernel_rfl) ⟨QE.out, LE.out⟩ (fun hHeld => ?_)
            refine wpAnyH_take (i := 0) (oi := ⟨some 50, _, _, _, _, _⟩) (v := .map (some m)) rfl (by kernel_rfl) (by kernel_rfl) (by kernel_rfl) (fun _ _ _ h => h) (Or.inl ⟨by rfl, ?_⟩) hHeld ?_
            · intro W' hW
              go_simp
            try simp only [Act.put, List.setIfInBounds_toArray, List.set_cons_zero, List.set_cons_succ]
            refine wpAnyH_take (i := 1) (oi := ⟨some 51, _, _, _, _, _⟩) (v := .pointer (some ⟨q11, 0, none⟩)) rfl (by kernel_rfl) (by kernel_rfl) (by kernel_rfl) (fun _ _ _ h => h) (Or.inl ⟨by rfl, ?_⟩) hHeld ?_
            · intro W' hW
              go_simp
            try simp only [Act.put, List.setIfInBounds_toArray, List.set_cons_zero, List.set_cons_succ]
            refine wpAnyH_take (i := 2) (oi := ⟨some 52, _, _, _, _, _⟩) (v := .int .i64 lo) rfl (by kernel_rfl) (by kernel_rfl) (by kernel_rfl) (fun _ _ _ h => h) (Or.inl ⟨by rfl, ?_⟩) hHeld ?_
            · intro W' hW
              obtain ⟨z0, z1, z2, z3, z4, z5⟩ := EBox.all hW.1
              dsimp only at z0 z1 z2 z3 z4 z5
              clear hW
              go_simp
            try simp only [Act.put, List.setIfInBounds_toArray, List.set_cons_zero, List.set_cons_succ]
            refine wpAnyH_take (i := 3) (oi := ⟨some 53, _, _, _, _, _⟩) (v := .map (some (m + 1))) rfl (by kernel_rfl) (by kernel_rfl) (by kernel_rfl) (fun _ _ _ h => h) (Or.inl ⟨by rfl, ?_⟩) hHeld ?_
            · intro W' hW
              go_simp
            try simp only [Act.put, List.setIfInBounds_toArray, List.set_cons_zero, List.set_cons_succ]
            refine wpAnyH_take (i := 4) (oi := ⟨some 54, _, _, _, _, _⟩) (v := .pointer (some ⟨q11, 0, none⟩)) rfl (by kernel_rfl) (by kernel_rfl) (by kernel_rfl) (fun _ _ _ h => h) (Or.inl ⟨by rfl, ?_⟩) hHeld ?_
            · intro W' hW
              go_simp
            try simp only [Act.put, List.setIfInBounds_toArray, List.set_cons_zero, List.set_cons_succ]
            refine wpAnyH_take (i := 5) (oi := ⟨some 55, _, _, _, _, _⟩) (v := .int .i64 lo) rfl (by kernel_rfl) (by kernel_rfl) (by kernel_rfl) (fun _ _ _ h => h) (Or.inl ⟨by rfl, ?_⟩) hHeld ?_
            · intro W' hW
              obtain ⟨z0, z1, z2, z3, z4, z5⟩ := EBox.all hW.1
              dsimp only at z0 z1 z2 z3 z4 z5
              clear hW
              go_simp
            try simp only [Act.put, List.setIfInBounds_toArray, List.set_cons_zero, List.set_cons_succ]
            refine wpAnyH_take (i := 6) (oi := ⟨some 56, _, _, _, _, _⟩) (v := .agg #[.slice A' n' c']) rfl (by kernel_rfl) (by kernel_rfl) (by kernel_rfl) (fun _ _ _ h => h) (Or.inl ⟨by rfl, ?_⟩) hHeld ?_
            · intro W' hW
              have zz : W'.cell? ⟨q, 0, none⟩ = some (.slice A' n' c') := by rw [cell_of_row _ _ _ _ _ _ hW.2]; rfl
              clear hW
              go_simp
            try simp only [Act.put, List.setIfInBounds_toArray, List.set_cons_zero, List.set_cons_succ]
            refine wpAnyH_ready (rs := [7]) (by kernel_rfl) (by simp) ?_
            refine AllReadyH.cons (o := ⟨none, _, _, _, _, _⟩) rfl (fun K hK => ?_) (AllReadyH.nil)
            refine Eq.mpr (if_pos (by kernel_rfl)) ?_
            refine wp_upd_mine (.tmp 50) (.tmp 52) (.tmp 56) 51 rfl 67 27 Try.underlying51 Try.underlying67 m _ CE.out.2.2.1 rfl lo rfl (.agg #[.slice A' n' c']) rfl (fun wa hm5 hg5 hs5 => ?_)
            have hg5 : wE.grownBy wa (some m) := ⟨hg5.os, hg5.tape, hg5.output, hg5.size, hg5.block⟩
            have Cwa := Lib.hid (CE.out.upd1 hm5 hg5)
            have Mwa := Lib.hid ((ME).out.grown hg5 (fun h => by have h1 := SZ1.out; have h2 := h.2; omega))
            have Vwa := Lib.hid ((VE).out.grown hg5 (fun h => by have h1 := SZ1.out; have h2 := h.2; omega))
            have Xwa := Lib.hid (show EBox wa q11 ⟨lo, va, ve, re, ne, true⟩ ∧ wa.heap[q]? = some (.cells #[.slice A' n' c'] 27 (0, 0)) from ⟨(hg5.block q11 (hHeld.1.lt) (by intro e; injection e with e; have h1 := HQM.out.1; omega)).trans hHeld.1, (hg5.block q (lt_of_block hHeld.2) (by intro e; injection e with e; have h1 := HQM.out.2; omega)).trans hHeld.2⟩)
            clear hm5 hg5 hs5
            refine hK.out _ _ Xwa.out (fun hHwa => ?_)
            clear hK
            try simp only [Act.put, List.setIfInBounds_toArray, List.set_cons_zero, List.set_cons_succ]
            refine wpAnyH_ready (rs := [8]) (by kernel_rfl) (by simp) ?_
            refine AllReadyH.cons (o := ⟨none, _, _, _, _, _⟩) rfl (fun K hK => ?_) (AllReadyH.nil)
            refine Eq.mpr (if_pos (by kernel_rfl)) ?_
            refine wp_upd_mine (.tmp 53) (.tmp 55) (.const (.bool true)) 133 rfl 67 4 Try.underlying133 Try.underlying67 (m + 1) _ Cwa.out.2.2.2.1 rfl lo rfl (.bool true) rfl (fun wab hm5 hg5 hs5 => ?_)
            have Cwab := Lib.hid (Cwa.out.upd2 hm5 hg5)
            have Mwab := Lib.hid ((Mwa).out.grown hg5 (fun h => by have h1 := SZ1.out; have h2 := h.2; omega))
            have Vwab := Lib.hid ((Vwa).out.grown hg5 (fun h => by have h1 := SZ1.out; have h2 := h.2; omega))
            have Xwab := Lib.hid (show EBox wab q11 ⟨lo, va, ve, re, ne, true⟩ ∧ wab.heap[q]? = some (.cells #[.slice A' n' c'] 27 (0, 0)) from ⟨(hg5.block q11 (hHwa.1.lt) (by intro e; injection e with e; have h1 := HQM.out.1; omega)).trans hHwa.1, (hg5.block q (lt_of_block hHwa.2) (by intro e; injection e with e; have h1 := HQM.out.2; omega)).trans hHwa.2⟩)
            clear hm5 hg5 hs5
            refine hK.out _ _ Xwab.out (fun hHwab => ?_)
            clear hK
            try simp only [Act.put, List.setIfInBounds_toArray, List.set_cons_zero, List.set_cons_succ]
            refine wpAnyH_done (by kernel_rfl) ?_ _
            have MF := Lib.hid (Mwab.out.upd (i := lo) Vwab.out)
            rw [← GS2.out] at MF
            have CF := Lib.hid (Cwab.out)
            rw [← WS2.out] at CF
            go_wp2
            go_roundw
            case rel => exact ⟨k + 1, by omega, by go_num, _, CF, MF⟩
            case measure => simp [intOf]; omega
        · skip
          go_simp
          have HB0a := Lib.hid (show Below w0.heap.size w0 (w0.alloc (.cells #[.slice none 0 0] 27)).drew from ((Below.refl _ _).alloc (Nat.le_refl _) _).drew)
          refine hK.out _ _ ⟨(BA.out.below HB0a.out).1, QBX2.out.below HB0a.out⟩ (fun hHeld2 => ?_)
          clear hK hHeld
          try simp only [Act.put, List.setIfInBounds_toArray, List.set_cons_zero, List.set_cons_succ]
          refine wpAnyH_ready (rs := [3]) (by kernel_rfl) (by simp) ?_
          refine AllReadyH.cons (o := ⟨some 37, _, _, _, _, _⟩) rfl (fun K hK => ?_) (AllReadyH.nil)
          go_simp
          have HZ := Lib.hid (show w0.heap.size ≤ (w0.alloc (.cells #[.slice none 0 0] 27)).drew.heap.size ∧ w0.heap.size < (w0.alloc (.cells #[.slice none 0 0] 27)).drew.heap.size from ⟨HB0a.out.size, by show w0.heap.size < (w0.alloc _).heap.size; simp⟩)
          refine (CL.out (fun b => (fun b => S b ∧ (b < w.heap.size ∨ m + 2 ≤ b)) b ∧ b ≠ w0.heap.size) (w0.alloc (.cells #[.slice none 0 0] 27)).drew (fun b hb => ⟨⟨hS b (by have h1 := SZ0.out; have h2 := SZ1.out; have h3 : (w0.alloc (.cells #[.slice none 0 0] 27)).drew.heap.size ≤ b := hb; have h4 := HZ.out; omega), .inr (by have h1 := SZ0.out; have h3 : (w0.alloc (.cells #[.slice none 0 0] 27)).drew.heap.size ≤ b := hb; have h4 := HZ.out; omega)⟩, by have h3 : (w0.alloc (.cells #[.slice none 0 0] 27)).drew.heap.size ≤ b := hb; have h4 := HZ.out; omega⟩) (HB0.out.trans (HB0a.out.mono HB0.out.size)) (fun b hb h => ⟨⟨h, .inl hb⟩, by have h1 := HB0.out.size; omega⟩)).mono ?_
          rintro e w2 ⟨u1, rfl, ⟨A1, n1, c1, rfl, hc1, hc2, hv1⟩, hb2⟩
          have HB2 := Lib.hid (HB0a.out.trans (hb2.mono HB0a.out.size))
          have BQ2 := Lib.hid ((hb2.block w0.heap.size HZ.out.2).trans (show (w0.alloc (.cells #[.slice none 0 0] 27)).drew.heap[w0.heap.size]? = _ from heap_alloc_new w0 (.cells #[.slice none 0 0] 27)))
          have HZ2 := Lib.hid (show w0.heap.size ≤ w2.heap.size ∧ w0.heap.size < w2.heap.size from ⟨HB2.out.size, Nat.lt_of_lt_of_le HZ.out.2 hb2.size⟩)
          refine hK.out _ _ ⟨(BA.out.below HB2.out).1, QBX2.out.below HB2.out⟩ (fun hHeld3 => ?_)
          clear hK hb2 HZ hHeld2
          try simp only [Act.put, List.setIfInBounds_toArray, List.set_cons_zero, List.set_cons_succ]
          refine wpAnyH_ready (rs := [9]) (by kernel_rfl) (by simp) ?_
          refine AllReadyH.cons (o := ⟨some 43, _, _, _, _, _⟩) rfl (fun K hK => ?_) (AllReadyH.nil)
          go_simp
          have HZ := HZ2
          have HZQ := Lib.hid (Nat.le_refl w0.heap.size)
          refine (CA.out (fun b => (fun b => S b ∧ (b < w.heap.size ∨ m + 2 ≤ b)) b ∧ b ≠ w0.heap.size) A1 n1 c1 w2 (fun b hb => ⟨⟨hS b (by have h1 := SZ0.out; have h2 := SZ1.out; have h3 : w2.heap.size ≤ b := hb; have h4 := HZ.out; omega), .inr (by have h1 := SZ0.out; have h3 : w2.heap.size ≤ b := hb; have h4 := HZ.out; omega)⟩, by have h3 : w2.heap.size ≤ b := hb; have h4 := HZ.out; omega⟩) hv1 hc1 hc2).mono ?_
          rintro e w3 ⟨A', n', c', rfl, hd1, hd2, hv2, hb3⟩
          have HB3 := Lib.hid (HB2.out.trans (hb3.mono HB2.out.size))
          have BQ3 := Lib.hid ((hb3.block w0.heap.size HZ2.out.2).trans BQ2.out)
          refine hK.out _ _ ⟨(BA.out.below HB3.out).1, QBX2.out.below HB3.out⟩ (fun hHeld4 => ?_)
          clear hK hb3 HZ HZ2 hv1 hc1 hc2 hHeld3 BQ2
          try simp only [Act.put, List.setIfInBounds_toArray, List.set_cons_zero, List.set_cons_succ]
          refine wpAnyH_take (i := 10) (oi := ⟨some 33, _, _, _, _, _⟩) (v := .tuple #[.agg #[.slice A' n' c'], .int .i64 0]) rfl (by kernel_rfl) (by kernel_rfl) (by kernel_rfl) (fun _ _ _ h => h) (Or.inl ⟨by rfl, ?_⟩) hHeld4 ?_
          · intro W' hW
            go_simp
          try simp only [Act.put, List.setIfInBounds_toArray, List.set_cons_zero, List.set_cons_succ]
          refine wpAnyH_take (i := 11) (oi := ⟨some 44, _, _, _, _, _⟩) (v := .agg #[.slice A' n' c']) rfl (by kernel_rfl) (by kernel_rfl) (by kernel_rfl) (fun _ _ _ h => h) (Or.inl ⟨by rfl, ?_⟩) hHeld4 ?_
          · intro W' hW
            go_simp
          try simp only [Act.put, List.setIfInBounds_toArray, List.set_cons_zero, List.set_cons_succ]
          refine wpAnyH_take (i := 12) (oi := ⟨some 45, _, _, _, _, _⟩) (v := .int .i64 0) rfl (by kernel_rfl) (by kernel_rfl) (by kernel_rfl) (fun _ _ _ h => h) (Or.inl ⟨by rfl, ?_⟩) hHeld4 ?_
          · intro W' hW
            go_simp
          try simp only [Act.put, List.setIfInBounds_toArray, List.set_cons_zero, List.set_cons_succ]
          refine wpAnyH_ready (rs := [14]) (by kernel_rfl) (by simp) ?_
          refine AllReadyH.cons (o := ⟨none, _, _, _, _, _⟩) rfl (fun K hK => ?_) (AllReadyH.nil)
          have cq : w3.cell? ⟨w0.heap.size, 0, none⟩ = some (.slice none 0 0) := by rw [cell_of_row _ _ _ _ _ _ BQ3.out]; rfl
          have fq := not_frozen BQ3.out
          go_simp
          clear cq fq
          have CE := Lib.hid ((BA.out.below HB3.out).setCell (q := w0.heap.size) (i := 0) (by have h1 := SZ0.out; have h2 := HZQ.out; omega) (.slice A' n' c'))
          have QE := Lib.hid (show EBox (w3.setCell ⟨w0.heap.size, 0, none⟩ (.slice A' n' c')) q11 ⟨lo, va, ve, re, ne, true⟩ from (heap_setCell_other w3 ⟨w0.heap.size, 0, none⟩ q11 _ (by show q11 ≠ w0.heap.size; have h1 := HQ11.out; have h2 := HZQ.out; omega)).trans (QBX2.out.below HB3.out))
          have LE := Lib.hid (show (w3.setCell ⟨w0.heap.size, 0, none⟩ (.slice A' n' c')).heap[w0.heap.size]? = some (.cells #[.slice A' n' c'] 27 (0, 0)) from heap_setCell_same w3 w0.heap.size 0 _ _ _ BQ3.out)
          have VE := Lib.hid ((VList.setCell (S := fun b => (fun b => S b ∧ (b < w.heap.size ∨ m + 2 ≤ b)) b ∧ b ≠ w0.heap.size) (p := ⟨w0.heap.size, 0, none⟩) ⟨A', n', c', rfl, hd1, hd2, hv2⟩ (by simp) (.slice A' n' c')).more (S' := fun b => S b ∧ (b < w.heap.size ∨ m + 2 ≤ b)) (fun b _ h => h.1))
          have ME := Lib.hid ((LMap.setCell (S := fun b => (fun b => S b ∧ (b < w.heap.size ∨ m + 2 ≤ b)) b ∧ b ≠ w0.heap.size) (p := ⟨w0.heap.size, 0, none⟩) ((LA.out.more (S' := fun b => (fun b => S b ∧ (b < w.heap.size ∨ m + 2 ≤ b)) b ∧ b ≠ w0.heap.size) (fun b hb h => ⟨h, by have h2 := HZQ.out; omega⟩)).below HB3.out) (by simp) (.slice A' n' c')).more (S' := fun b => S b ∧ (b < w.heap.size ∨ m + 2 ≤ b)) (fun b _ h => h.1))
          have HQM := Lib.hid (show m + 2 ≤ q11 ∧ m + 2 ≤ w0.heap.size from ⟨HQ11M.out, by have h1 := SZ0.out; have h2 := HZQ.out; omega⟩)
          refine hK.out _ _ ⟨CE.out.1, QE.out⟩ (fun hHeld9 => ?_)
          clear hK
          try simp only [Act.put, List.setIfInBounds_toArray, List.set_cons_zero, List.set_cons_succ]
          refine wpAnyH_take (i := 15) (oi := ⟨some 13, _, _, _, _, _⟩) (v := .int .i64 0) rfl (by kernel_rfl) (by kernel_rfl) (by kernel_rfl) (fun _ _ _ h => h) (Or.inl ⟨by rfl, ?_⟩) hHeld9 ?_
          · intro W' hW
            go_simp
          try simp only [Act.put, List.setIfInBounds_toArray, List.set_cons_zero, List.set_cons_succ]
          refine wpAnyH_done (by kernel_rfl) ?_ _
          clear hd1 hd2 hv2 hHeld9 BQ3 HB3
          generalize w3.setCell ⟨w0.heap.size, 0, none⟩ (.slice A' n' c') = wE at *
          generalize w0.heap.size = q at *
          go_wp2_with fail
          refine wp_region_held_drew (S := fun W' => EBox W' q11 ⟨lo, va, ve, re, ne, true⟩ ∧ W'.heap[q]? = some (.cells #[.slice A' n' c'] 27 (0, 0))) (by kernel_rfl) ⟨QE.out, LE.out⟩ (fun hHeld => ?_)
          refine wpAnyH_take (i := 0) (oi := ⟨some 50, _, _, _, _, _⟩) (v := .map (some m)) rfl (by kernel_rfl) (by kernel_rfl) (by kernel_rfl) (fun _ _ _ h => h) (Or.inl ⟨by rfl, ?_⟩) hHeld ?_
          · intro W' hW
            go_simp
          try simp only [Act.put, List.setIfInBounds_toArray, List.set_cons_zero, List.set_cons_succ]
          refine wpAnyH_take (i := 1) (oi := ⟨some 51, _, _, _, _, _⟩) (v := .pointer (some ⟨q11, 0, none⟩)) rfl (by kernel_rfl) (by kernel_rfl) (by kernel_rfl) (fun _ _ _ h => h) (Or.inl ⟨by rfl, ?_⟩) hHeld ?_
          · intro W' hW
            go_simp
          try simp only [Act.put, List.setIfInBounds_toArray, List.set_cons_zero, List.set_cons_succ]
          refine wpAnyH_take (i := 2) (oi := ⟨some 52, _, _, _, _, _⟩) (v := .int .i64 lo) rfl (by kernel_rfl) (by kernel_rfl) (by kernel_rfl) (fun _ _ _ h => h) (Or.inl ⟨by rfl, ?_⟩) hHeld ?_
          · intro W' hW
            obtain ⟨z0, z1, z2, z3, z4, z5⟩ := EBox.all hW.1
            dsimp only at z0 z1 z2 z3 z4 z5
            clear hW
            go_simp
          try simp only [Act.put, List.setIfInBounds_toArray, List.set_cons_zero, List.set_cons_succ]
          refine wpAnyH_take (i := 3) (oi := ⟨some 53, _, _, _, _, _⟩) (v := .map (some (m + 1))) rfl (by kernel_rfl) (by kernel_rfl) (by kernel_rfl) (fun _ _ _ h => h) (Or.inl ⟨by rfl, ?_⟩) hHeld ?_
          · intro W' hW
            go_simp
          try simp only [Act.put, List.setIfInBounds_toArray, List.set_cons_zero, List.set_cons_succ]
          refine wpAnyH_take (i := 4) (oi := ⟨some 54, _, _, _, _, _⟩) (v := .pointer (some ⟨q11, 0, none⟩)) rfl (by kernel_rfl) (by kernel_rfl) (by kernel_rfl) (fun _ _ _ h => h) (Or.inl ⟨by rfl, ?_⟩) hHeld ?_
          · intro W' hW
            go_simp
          try simp only [Act.put, List.setIfInBounds_toArray, List.set_cons_zero, List.set_cons_succ]
          refine wpAnyH_take (i := 5) (oi := ⟨some 55, _, _, _, _, _⟩) (v := .int .i64 lo) rfl (by kernel_rfl) (by kernel_rfl) (by kernel_rfl) (fun _ _ _ h => h) (Or.inl ⟨by rfl, ?_⟩) hHeld ?_
          · intro W' hW
            obtain ⟨z0, z1, z2, z3, z4, z5⟩ := EBox.all hW.1
            dsimp only at z0 z1 z2 z3 z4 z5
            clear hW
            go_simp
          try simp only [Act.put, List.setIfInBounds_toArray, List.set_cons_zero, List.set_cons_succ]
          refine wpAnyH_take (i := 6) (oi := ⟨some 56, _, _, _, _, _⟩) (v := .agg #[.slice A' n' c']) rfl (by kernel_rfl) (by kernel_rfl) (by kernel_rfl) (fun _ _ _ h => h) (Or.inl ⟨by rfl, ?_⟩) hHeld ?_
          · intro W' hW
            have zz : W'.cell? ⟨q, 0, none⟩ = some (.slice A' n' c') := by rw [cell_of_row _ _ _ _ _ _ hW.2]; rfl
            clear hW
            go_simp
          try simp only [Act.put, List.setIfInBounds_toArray, List.set_cons_zero, List.set_cons_succ]
          refine wpAnyH_ready (rs := [7]) (by kernel_rfl) (by simp) ?_
          refine AllReadyH.cons (o := ⟨none, _, _, _, _, _⟩) rfl (fun K hK => ?_) (AllReadyH.nil)
          refine Eq.mpr (if_pos (by kernel_rfl)) ?_
          refine wp_upd_mine (.tmp 50) (.tmp 52) (.tmp 56) 51 rfl 67 27 Try.underlying51 Try.underlying67 m _ CE.out.2.2.1 rfl lo rfl (.agg #[.slice A' n' c']) rfl (fun wa hm5 hg5 hs5 => ?_)
          have hg5 : wE.grownBy wa (some m) := ⟨hg5.os, hg5.tape, hg5.output, hg5.size, hg5.block⟩
          have Cwa := Lib.hid (CE.out.upd1 hm5 hg5)
          have Mwa := Lib.hid ((ME).out.grown hg5 (fun h => by have h1 := SZ1.out; have h2 := h.2; omega))
          have Vwa := Lib.hid ((VE).out.grown hg5 (fun h => by have h1 := SZ1.out; have h2 := h.2; omega))
          have Xwa := Lib.hid (show EBox wa q11 ⟨lo, va, ve, re, ne, true⟩ ∧ wa.heap[q]? = some (.cells #[.slice A' n' c'] 27 (0, 0)) from ⟨(hg5.block q11 (hHeld.1.lt) (by intro e; injection e with e; have h1 := HQM.out.1; omega)).trans hHeld.1, (hg5.block q (lt_of_block hHeld.2) (by intro e; injection e with e; have h1 := HQM.out.2; omega)).trans hHeld.2⟩)
          clear hm5 hg5 hs5
          refine hK.out _ _ Xwa.out (fun hHwa => ?_)
          clear hK
          try simp only [Act.put, List.setIfInBounds_toArray, List.set_cons_zero, List.set_cons_succ]
          refine wpAnyH_ready (rs := [8]) (by kernel_rfl) (by simp) ?_
          refine AllReadyH.cons (o := ⟨none, _, _, _, _, _⟩) rfl (fun K hK => ?_) (AllReadyH.nil)
          refine Eq.mpr (if_pos (by kernel_rfl)) ?_
          refine wp_upd_mine (.tmp 53) (.tmp 55) (.const (.bool true)) 133 rfl 67 4 Try.underlying133 Try.underlying67 (m + 1) _ Cwa.out.2.2.2.1 rfl lo rfl (.bool true) rfl (fun wab hm5 hg5 hs5 => ?_)
          have Cwab := Lib.hid (Cwa.out.upd2 hm5 hg5)
          have Mwab := Lib.hid ((Mwa).out.grown hg5 (fun h => by have h1 := SZ1.out; have h2 := h.2; omega))
          have Vwab := Lib.hid ((Vwa).out.grown hg5 (fun h => by have h1 := SZ1.out; have h2 := h.2; omega))
          have Xwab := Lib.hid (show EBox wab q11 ⟨lo, va, ve, re, ne, true⟩ ∧ wab.heap[q]? = some (.cells #[.slice A' n' c'] 27 (0, 0)) from ⟨(hg5.block q11 (hHwa.1.lt) (by intro e; injection e with e; have h1 := HQM.out.1; omega)).trans hHwa.1, (hg5.block q (lt_of_block hHwa.2) (by intro e; injection e with e; have h1 := HQM.out.2; omega)).trans hHwa.2⟩)
          clear hm5 hg5 hs5
          refine hK.out _ _ Xwab.out (fun hHwab => ?_)
          clear hK
          try simp only [Act.put, List.setIfInBounds_toArray, List.set_cons_zero, List.set_cons_succ]
          refine wpAnyH_done (by kernel_rfl) ?_ _
          have MF := Lib.hid (Mwab.out.upd (i := lo) Vwab.out)
          rw [← GS2.out] at MF
          have CF := Lib.hid (Cwab.out)
          rw [← WS2.out] at CF
          go_wp2
          go_roundw
          case rel => exact ⟨k + 1, by omega, by go_num, _, CF, MF⟩
          case measure => simp [intOf]; omega
    · have hkn : ¬ ((k : Int) < (m' : Int)) := by omega
      have htk : l.take k = l := List.take_of_length_le (by have h1 := HL.out.1; omega)
      rw [htk] at BI LM
      have hne : ∃ i, f3 i ≠ none := by
        obtain ⟨i, hi⟩ := HSOME.out
        refine ⟨i, fun h => hi ?_⟩
        rcases LM.out i with ⟨_, h2⟩ | ⟨u, l', h1, _⟩
        · exact h2
        · rw [h] at h1; cases h1
      obtain ⟨es, cl, hbm, hst, hks, hff⟩ := BI.out.2.2.1
      have hes : ((es.size : Int) == 0) = false := by
        refine beq_eq_false_iff_ne.2 fun h => ?_
        have h0 : es.size = 0 := by omega
        obtain ⟨i, hi⟩ := hne
        cases hv : f3 i with
        | none => exact hi hv
        | some v =>
          obtain ⟨e, he, _⟩ := (hff i v).1 hv
          have h1 := List.length_pos_of_mem he
          simp at h1
          omega
      have hlen : (Builtin.len_ #[51] 3 #[.map (some m)]).run Try.prog wr = .ok (goInt es.size) wr := by
        refine run_len_map wr _ _ _ es cl ?_ hbm
        kernel_rfl
      have SZ1 := Lib.hid (show w.heap.size + 2 ≤ m from BI.out.2.2.2.2.2.2)
      have SZ2 := Lib.hid (show m + 2 ≤ wr.heap.size from BI.out.2.2.2.2.2.1)
      have HBW := Lib.hid (show Below w.heap.size w wr from BI.out.2.2.2.2.1)
      have CW := Lib.hid (with_any (S := S) c n b1 b2 (some m) (some (m + 1)) B T f f3 (accW l) g (accG c n g l) W wr (fun b hb => hS b (by have h1 := SZ1.out; have h2 := SZ2.out; omega)) (HM.out.below HBW.out) (HG.out.below HBW.out) (HU.out.below HBW.out)
        (.inr ⟨m, rfl, hS m (by have h1 := SZ1.out; omega), by have h2 := SZ2.out; omega, BI.out.2.2.1⟩) (LM.out.more fun b _ h => h.1) (.inr ⟨m + 1, rfl, hS (m + 1) (by have h1 := SZ1.out; omega), by have h2 := SZ2.out; omega, BI.out.2.2.2.1⟩) (accW_bool l))
      have P0 := Lib.hid BI.out.1
      have P1 := Lib.hid BI.out.2.1
      have hft : ∀ i, (f3 i).isSome = (accG c n g l i).isSome := fun i => by
        rcases LM.out i with ⟨h1, h2⟩ | ⟨u, l', h1, h2, _⟩ <;> rw [h1, h2] <;> rfl
      have LMF := Lib.hid (LM.out.more (S' := fun b => S b ∧ b ≠ w.heap.size + 1) fun b _ h => ⟨h.1, by have h1 := SZ1.out; have h2 := h.2; omega⟩)
      have HFT := Lib.hid hft
      clear BI LM hne hst hks hff hft
      go_wp2_with (with_reducible refine at_load_ (t := 57) ?_; refine get_sto rfl _ rfl w.heap.size rfl P0.out ?_)
      refine CW.out.mono ?_
      rintro e w4 ⟨b5, b6, rfl, hm5, hm6, hb4⟩
      clear hbm hes CW P0 hlen
      have P4 := Lib.hid ((hb4.block (w.heap.size + 1) (by have h1 := SZ1.out; have h2 := SZ2.out; omega)).trans P1.out)
      have HB4 := Lib.hid (HBW.out.trans (hb4.mono HBW.out.size))
      have M5 := Lib.hid hm5
      have M6 := Lib.hid hm6
      have LM4 := Lib.hid (LMF.out.below hb4)
      have LG4 := Lib.hid ((HG.out.more (S' := fun b => S b ∧ b ≠ w.heap.size + 1) fun b hb h => ⟨h, by omega⟩).below HB4.out)
      have SZ4 := Lib.hid (show w.heap.size + 2 ≤ w4.heap.size by have h1 := SZ1.out; have h2 := SZ2.out; have h3 := hb4.size; omega)
      clear P1 HBW LMF hm5 hm6 hb4
      go_wp2_with (first
        | (with_reducible refine at_alloc_ (t := 57) ?_; refine wpList_alloc_mine rfl 57 rfl _ rfl (stoZ 0) stoZ_zero rfl ?_)
        | (with_reducible refine at_store_ (t := 57) ?_; refine Hid.out ?_))
      refine Lib.hid ?_
      refine put_sto rfl (.tmp 14) (.tmp 67) rfl rfl w4.heap.size rfl rfl (heap_alloc_new _ _) rfl ?_
      rw [setRow_alloc]
      have hl1 : (w4.alloc (.cells (stoCells c n (.map (some b5)) (.map (some b6)) B T) 57)).cell? ⟨w4.heap.size, 1, none⟩ = some (.int .i64 n) := by
        rw [cell_of_row _ _ _ _ _ _ (heap_alloc_new _ _)]; rfl
      have hz1 := not_frozen (heap_alloc_new w4 (.cells (stoCells c n (.map (some b5)) (.map (some b6)) B T) 57))
      have e6 : ((w4.alloc (.cells (stoCells c n (.map (some b5)) (.map (some b6)) B T) 57)).setCell ⟨w4.heap.size, 1, none⟩ (.int .i64 (n + 1))).heap[w4.heap.size]? = some (.cells (stoCells c (n + 1) (.map (some b5)) (.map (some b6)) B T) 57 (0, 0)) := by
        rw [setCell_block (heap_alloc_new _ _) _]
        rfl
      have hb6 : Below w4.heap.size w4 ((w4.alloc (.cells (stoCells c n (.map (some b5)) (.map (some b6)) B T) 57)).setCell ⟨w4.heap.size, 1, none⟩ (.int .i64 (n + 1))) := ((Below.refl _ _).alloc (Nat.le_refl _) _).setCell (Nat.le_refl _) _
      generalize hA : w4.alloc (.cells (stoCells c n (.map (some b5)) (.map (some b6)) B T) 57) = w5 at *
      clear hA
      have E6 := Lib.hid e6
      have HB6 := Lib.hid hb6
      clear e6 hb6
      go_wp2
      clear hl1 hz1
      generalize w5.setCell ⟨w4.heap.size, 1, none⟩ (.int .i64 (n + 1)) = w6 at *
      have P6 := Lib.hid ((HB6.out.block (w.heap.size + 1) (by have h1 := SZ4.out; omega)).trans P4.out)
      have HQ := Lib.hid (show w.heap.size + 1 ≠ w4.heap.size by have h1 := SZ4.out; omega)
      generalize hq : w4.heap.size = q at *
      refine wp_region_held_drew (S := fun W' => W'.heap[q]? = some (.cells (stoCells c (n + 1) (.map (some b5)) (.map (some b6)) B T) 57 (0, 0))) (by kernel_rfl) E6.out (fun hHeld => ?_)
      refine wpAnyH_take (i := 0) (oi := ⟨some 72, _, _, _, _, _⟩) (v := sto c (n + 1) (.map (some b5)) (.map (some b6)) B T) rfl (by kernel_rfl) (by kernel_rfl) (by kernel_rfl) (fun _ _ _ h => h) (yields_sto (by rfl) _ rfl q rfl 57 (0, 0) (fun _ h => h)) hHeld ?_
      try simp only [Act.put, List.setIfInBounds_toArray, List.set_cons_zero, List.set_cons_succ]
      refine wpAnyH_take (i := 1) (oi := ⟨some 73, _, _, _, _, _⟩) (v := .pointer (some ⟨q, 1, none⟩)) rfl (by kernel_rfl) (by kernel_rfl) (by kernel_rfl) (fun _ _ _ h => h) (Or.inl ⟨by rfl, ?_⟩) hHeld ?_
      · intro W' hW
        go_simp
      try simp only [Act.put, List.setIfInBounds_toArray, List.set_cons_zero, List.set_cons_succ]
      refine wpAnyH_take (i := 2) (oi := ⟨some 74, _, _, _, _, _⟩) (v := .int .i64 (n + 1)) rfl (by kernel_rfl) (by kernel_rfl) (by kernel_rfl) (fun _ _ _ h => h) (Or.inl ⟨by rfl, ?_⟩) hHeld ?_
      · intro W' hW
        have zz := (sto_all hW).2.1
        clear hW
        go_simp
      try simp only [Act.put, List.setIfInBounds_toArray, List.set_cons_zero, List.set_cons_succ]
      refine wpAnyH_ready (rs := [3]) (by kernel_rfl) (by simp) ?_
      refine AllReadyH.cons (o := ⟨none, _, _, _, _, _⟩) rfl (fun K hK => ?_) AllReadyH.nil
      refine Eq.mpr (if_pos (by kernel_rfl)) ?_
      refine wp_store_row 57 (.tmp 4) (.tmp 72) rfl (w.heap.size + 1) (stoCells c (n + 1) (.map (some b5)) (.map (some b6)) B T) rfl rfl 57 (stoZ 0) P6.out Try.size57 rfl (sto_ones ..) ?_
      have e7 : (w6.drew.setRow (w.heap.size + 1) (stoCells c (n + 1) (.map (some b5)) (.map (some b6)) B T)).heap[w.heap.size + 1]? = some (.cells (stoCells c (n + 1) (.map (some b5)) (.map (some b6)) B T) 57 (0, 0)) := setRow_heap _ _ _ _ _ _ P6.out
      have E7 := Lib.hid e7
      have E8 := Lib.hid (show (w6.drew.setRow (w.heap.size + 1) (stoCells c (n + 1) (.map (some b5)) (.map (some b6)) B T)).heap[q]? = some (.cells (stoCells c (n + 1) (.map (some b5)) (.map (some b6)) B T) 57 (0, 0)) from (setRow_other _ _ _ _ (fun h => HQ.out h.symm)).trans E6.out)
      have FIN := Lib.hid (show Below w.heap.size w (w6.drew.setRow (w.heap.size + 1) (stoCells c (n + 1) (.map (some b5)) (.map (some b6)) B T)) ∧ (∀ i, i ≠ w.heap.size + 1 → i < q → (w6.drew.setRow (w.heap.size + 1) (stoCells c (n + 1) (.map (some b5)) (.map (some b6)) B T)).heap[i]? = w4.heap[i]?) from
        ⟨below_setRow ((HB4.out.trans (HB6.out.mono (by rw [← hq]; exact HB4.out.size))).drew) (Nat.le_succ _) _, fun i hi hiq => (setRow_other _ _ _ _ hi).trans (HB6.out.block i hiq)⟩)
      clear e7
      refine hK.out _ _ E8.out (fun hHeld9 => ?_)
      clear hK hHeld
      generalize w6.drew.setRow (w.heap.size + 1) (stoCells c (n + 1) (.map (some b5)) (.map (some b6)) B T) = w7 at *
      try simp only [Act.put, List.setIfInBounds_toArray, List.set_cons_zero, List.set_cons_succ]
      refine wpAnyH_take (i := 4) (oi := ⟨some 5, _, _, _, _, _⟩) (v := .int .i64 (n + 1)) rfl (by kernel_rfl) (by kernel_rfl) (by kernel_rfl) (fun _ _ _ h => h) (Or.inl ⟨by rfl, ?_⟩) hHeld9 ?_
      · intro W' hW
        go_simp
      try simp only [Act.put, List.setIfInBounds_toArray, List.set_cons_zero, List.set_cons_succ]
      refine wpAnyH_take (i := 5) (oi := ⟨some 6, _, _, _, _, _⟩) (v := .int .i64 0) rfl (by kernel_rfl) (by kernel_rfl) (by kernel_rfl) (fun _ _ _ h => h) (Or.inl ⟨by rfl, ?_⟩) hHeld9 ?_
      · intro W' hW
        go_simp
      try simp only [Act.put, List.setIfInBounds_toArray, List.set_cons_zero, List.set_cons_succ]
      refine wpAnyH_done (by kernel_rfl) ?_ _
      go_wp2_with fail
      have hl := load_sto w7 _ _ _ _ E7.out rfl
      refine bodyPost_ret (v := .tuple #[sto c (n + 1) (.map (some b5)) (.map (some b6)) B T, .int .i64 (n + 1), .int .i64 0]) ?_ rfl ?_
      · simp [results, Try.results31, asAddr, hl, sto, Result.andThen]
      · have hsz7 : w4.heap.size ≤ w7.heap.size := by
          have h1 := lt_of_block E7.out
          have h2 := lt_of_block E8.out
          omega
        have kp : ∀ b, b < w4.heap.size → (S b ∧ b ≠ w.heap.size + 1) → w7.heap[b]? = w4.heap[b]? := fun b hb h => FIN.out.2 b h.2 (by omega)
        have km : ∀ (b : Nat) (F : Int → Option Value), IsMap w4 S (.map (some b)) F → IsMap w7 S (.map (some b)) F := fun b F h => by
          rcases h with ⟨h0, _⟩ | ⟨b', h0, hSb, hlt', hi⟩
          · cases h0
          · cases h0
            have hne : b ≠ w.heap.size + 1 := by
              rintro rfl
              obtain ⟨es', cl', hb', _⟩ := hi
              rw [P4.out] at hb'
              cases hb'
            exact .inr ⟨b, rfl, hSb, by omega, hi.keep (FIN.out.2 b hne (by omega))⟩
        have hW : (wmap fun k => if (accG c n g l k).isSome = true then some (((W k).getD 0 + 1) % 4294967296) else W k) = wmap fun k => if (f3 k).isSome = true ∧ (accW l k).isSome = true then some (((W k).getD 0 + 1) % 4294967296) else W k := by
          congr 1
          funext k
          rw [HFT.out k, acc_same c n g l k]
          simp only [and_self]
        rw [hW]
        exact ⟨b5, b6, _, rfl, km b5 _ M5.out, ((LM4.out.keepB hsz7 kp).or (LG4.out.keepB hsz7 kp)).more (S' := S) (fun b _ h => h.1), km b6 _ M6.out, FIN.out.1⟩
end Go.Proofs.Ytpejhgkcofilmaa
