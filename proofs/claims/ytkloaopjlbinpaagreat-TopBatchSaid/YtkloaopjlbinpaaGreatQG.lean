/- The walk of the trie's take. Condition: at most 80000 writes; at most eight cells; the pool's free list is empty. What a split and a new leaf write: the words behind the writes hold the trie again. Pure but for the list of writes. -/
import Derived.Test.YtkloaopjlbinpaaGreatTbJ
set_option linter.unusedVariables false
set_option linter.unusedSimpArgs false
namespace Go.Proofs.YtkloaopjlbinpaaGreat
open Go.RowKit Go.MapKept

/-- The writes of a list from a on. -/
def wrL (a : Int) (l : List Int) : List (Int × Int) := (List.range l.length).map fun i : Nat => (a + (i : Int), l.getD i 0)
theorem wrL_len (a : Int) (l : List Int) : (wrL a l).length = l.length := by unfold wrL; simp
theorem wrL_snoc (a : Int) (l : List Int) (x : Int) : wrL a (l ++ [x]) = wrL a l ++ [(a + (l.length : Int), x)] := by
  unfold wrL
  rw [List.length_append, List.length_singleton, List.range_succ, List.map_append]
  congr 1
  · refine List.map_congr_left fun i hi => ?_
    have := List.mem_range.1 hi
    rw [List.getD_eq_getElem?_getD, List.getD_eq_getElem?_getD, List.getElem?_append_left this]
  · simp
theorem cur_wrL_other (g : Mem) (P : List (Int × Int)) (a : Int) (l : List Int) (x : Int) : (∀ i : Nat, i < l.length → x ≠ a + (i : Int)) → cur g (P ++ wrL a l) x = cur g P x := by
  refine snocInd (p := fun l => (∀ i : Nat, i < l.length → x ≠ a + (i : Int)) → cur g (P ++ wrL a l) x = cur g P x) ?_ ?_ l
  · intro _; simp [wrL]
  · intro l v ih h
    rw [wrL_snoc, ← List.append_assoc, cur_push]
    have h1 := h l.length (by simp)
    unfold setI
    rw [if_neg h1]
    exact ih fun i hi => h i (by simp; omega)
theorem cur_wrL_at (g : Mem) (P : List (Int × Int)) (a : Int) (l : List Int) (j : Nat) : j < l.length → cur g (P ++ wrL a l) (a + (j : Int)) = l.getD j 0 := by
  refine snocInd (p := fun l => j < l.length → cur g (P ++ wrL a l) (a + (j : Int)) = l.getD j 0) ?_ ?_ l
  · intro h; simp at h
  · intro l v ih h
    rw [wrL_snoc, ← List.append_assoc, cur_push]
    unfold setI
    rcases Nat.lt_or_ge j l.length with h1 | h1
    · rw [if_neg (by omega), ih h1, List.getD_eq_getElem?_getD, List.getD_eq_getElem?_getD, List.getElem?_append_left h1]
    · have : j = l.length := by simp at h; omega
      subst this
      rw [if_pos rfl]
      simp
theorem reads_kx {X S : Nat → Prop} {w w' : World} {sz n : Nat} {A : Option Addr} {xs : List Value} (h : Reads w S sz A n xs) (hk : KX X w w') (hs : ∀ b, S b → ¬ X b) : Reads w' S sz A n xs := by
  refine ⟨h.1, fun hn => ?_⟩
  obtain ⟨b, o, e, hb, hS, hc⟩ := h.2 hn
  refine ⟨b, o, e, Nat.lt_of_lt_of_le hb hk.size, hS, fun j u hu => ?_⟩
  rw [← hc j u hu, World.cell?, World.cell?, hk.block b hb (hs b hS)]
set_option maxRecDepth 100000 in
set_option maxHeartbeats 6400000 in
theorem ttake_any {X : Nat → Prop} {w : World} {base sb : Nat} {g : Mem} {P : List (Int × Int)} (h : SpE w X base sb g P) (hX : ∀ b, w.heap.size ≤ b → X b) (hn : P.length ≤ 80000) (n : Nat) (hnn : n < 128) (h1 : cur g P 1 = 0) (h2 : cur g P 2 = n) (h47 : cur g P 47 = n) (A : Option Addr) (c : Nat) (L : List Int) (nl : Nat) (hl : L.length = nl) (hl8 : nl ≤ 8) (hA : Reads w (fun b => ¬ X b) 1 A nl (L.map (.int .i64))) :
    Calls Tryz.prog 45 #[.agg #[.iface 50 (.agg #[]), .int .i64 1, .int .i64 96, .int .i64 128, .int .i64 40], .pointer (some ⟨sb, 0, none⟩), .slice A nl c] w fun e w' => e = .returned (.tuple #[.int .i64 (adr n), .int .i64 0]) ∧ SpE w' X base sb g (P ++ [(2, (n : Int) + 1)] ++ wrL (adr n) L ++ [(47, (n : Int) + 1)]) ∧ KX X w w' := by
  obtain ⟨W0, hW0⟩ : ∃ W, W = w.alloc (.cells #[.iface 50 (.agg #[]), .int .i64 1, .int .i64 96, .int .i64 128, .int .i64 40] 61) := ⟨_, rfl⟩
  obtain ⟨Y0, hY0⟩ : ∃ Y : Nat → Prop, Y = fun b => X b ∧ b ≠ w.heap.size := ⟨_, rfl⟩
  have e0 : W0.heap.size = w.heap.size + 1 := by rw [hW0, World.size_alloc]
  have F0 : Fr X Y0 w W0 := by rw [hW0, hY0]; exact (Fr.start hX).new _
  have S0 : SpE W0 Y0 base sb g P := by rw [hW0, hY0]; exact h.new _
  have T0 : Bx 61 X Y0 W0 (w.heap.size) #[.iface 50 (.agg #[]), .int .i64 1, .int .i64 96, .int .i64 128, .int .i64 40] := by rw [hW0, hY0]; exact Bx.new (Fr.start hX) _ _
  have F := Lib.hid F0
  have S := Lib.hid S0
  have T := Lib.hid T0
  clear hY0 F0 S0 T0 e0
  have HN := Lib.hid (And.intro hn hnn)
  have H1 := Lib.hid h1
  have H2 := Lib.hid h2
  have H47 := Lib.hid h47
  have HL := Lib.hid (And.intro hl hl8)
  have HA := Lib.hid (reads_kx (X := fun _ => False) hA (KX.of_below (show Below w.heap.size w W0 from by rw [hW0]; exact below_alloc _ _)) (fun _ _ h => h))
  obtain ⟨a, ha⟩ : ∃ z, z = adr n := ⟨_, rfl⟩
  rw [← ha]
  have HAD := Lib.hid ha
  have ea : 96 + 8 * (n : Int) = a := by rw [ha]; rfl
  have hab : 96 ≤ a ∧ a ≤ 1112 := by rw [ha]; unfold adr; omega
  have HAB := Lib.hid hab
  clear h hX hn hnn h1 h2 h47 hl hl8 hA ha hab
  go_enter Tryz.func45, Tryz.ntmps45
  go_upto_region 1 with fail
  rw [← hW0]
  clear hW0
  have pT0 : _ = some (Value.iface 50 (.agg #[])) := T.out.hb.cell 0
  have pT1 : _ = some (Value.int .i64 1) := T.out.hb.cell 1
  have pT2 : _ = some (Value.int .i64 96) := T.out.hb.cell 2
  have pT3 : _ = some (Value.int .i64 128) := T.out.hb.cell 3
  have pT4 : _ = some (Value.int .i64 40) := T.out.hb.cell 4
  go_wp2_with fail
  have KT := take_new S.out F.out.yn (by have := HN.out; omega) n HN.out.2 H1.out H2.out
  rw [ea] at KT
  have KTH := Lib.hid KT
  clear KT
  refine KTH.out.mono ?_
  rintro e w1 ⟨rfl, hs, hk⟩
  clear S
  have S := Lib.hid hs
  clear pT0 pT1 pT2 pT3 pT4
  obtain h0 := F.out
  clear F
  have F := Lib.hid (h0.step hk)
  clear h0
  obtain h0 := T.out
  clear T
  have T := Lib.hid (h0.step hk)
  clear h0
  have hkk := hk
  clear hs hk
  clear KTH
  obtain h0 := HA.out
  clear HA
  have HA := Lib.hid (show Reads w1 (fun b => ¬ X b) 1 A nl (L.map (.int .i64)) from reads_kx h0 hkk (fun b hb hy => hb (F.out.yx b hy)))
  clear h0
  clear hkk
  go_wp2_with fail
  go_loopw [24] (fun v24 wr => ∃ j : Nat, v24 = .int .i64 j ∧ j ≤ nl ∧ Fr X Y0 w wr ∧ SpE wr Y0 base sb g (P ++ [(2, (n : Int) + 1)] ++ wrL a (L.take j)) ∧ Bx 61 X Y0 wr w.heap.size #[.iface 50 (.agg #[]), .int .i64 1, .int .i64 96, .int .i64 128, .int .i64 40] ∧ Reads wr (fun b => ¬ X b) 1 A nl (L.map (.int .i64))) (fun v24 _ => nl - (intOf v24).toNat)
  case atStart => exact ⟨0, rfl, Nat.zero_le _, F.out, by simpa [wrL] using S.out, T.out, HA.out⟩
  case round =>
    obtain ⟨j, rfl, hj, hF, hS, hTb, hR⟩ := hrel
    have hn8 : (nl : Int) ≤ 8 := by have := HL.out; omega
    clear F S T HA
    have F := Lib.hid hF
    have S := Lib.hid hS
    have T := Lib.hid hTb
    have HA := Lib.hid hR
    have HJ := Lib.hid hj
    clear hF hS hTb hR hj
    have hlen : (P ++ [(2, (n : Int) + 1)] ++ wrL a (L.take j)).length ≤ 80009 := by
      rw [List.length_append, List.length_append, wrL_len, List.length_take, List.length_singleton]
      have := HN.out.1
      have := HJ.out
      have := HL.out
      omega
    have HLEN := Lib.hid hlen
    clear hlen
    by_cases hlt : j < nl
    · have hi3 : (j : Int) < (nl : Int) := by omega
      obtain ⟨b, q, rfl, hbl, hSb, hc⟩ := HA.out.2 (by omega)
      obtain ⟨x, hx⟩ : ∃ x, L[j]? = some x := ⟨_, List.getElem?_eq_getElem (by have := HL.out.1; omega)⟩
      have e2 : wr.cell? ⟨b, q + j, none⟩ = some (.int .i64 x) := hc j _ (by rw [List.getElem?_map, hx]; rfl)
      have HX := Lib.hid hx
      have HLT := Lib.hid hlt
      have W1 : IntKind.i64.wrap (a + (j : Int)) = a + (j : Int) := wrap_i64 _ (by have := HAB.out; omega) (by have := HAB.out; have := HL.out; omega)
      clear hbl hSb hc hx hlt
      go_wp2_with fail
      refine (sput S.out F.out.yn (by have := HLEN.out; omega) (a + (j : Int)) x (by unfold inM; have := HAB.out; have := HLT.out; have := HL.out; omega)).mono ?_
      rintro e w5 ⟨rfl, hs, hk⟩
      have F5 := Lib.hid (F.out.step hk)
      have T5 := Lib.hid (T.out.step hk)
      have HA5 := Lib.hid (reads_kx HA.out hk (fun b hb hy => hb (F.out.yx b hy)))
      have S5 := Lib.hid (show SpE w5 Y0 base sb g (P ++ [(2, (n : Int) + 1)] ++ wrL a (L.take (j + 1))) from by
        rw [List.take_add_one, HX.out]
        show SpE w5 Y0 base sb g (P ++ [(2, (n : Int) + 1)] ++ wrL a (L.take j ++ [x]))
        rw [wrL_snoc, List.length_take, Nat.min_eq_left (by have := HL.out.1; have := HLT.out; omega), ← List.append_assoc]
        exact hs)
      clear hs hk e2
      go_wp2_with fail
      go_roundw
      case rel => exact ⟨j + 1, by go_num, HLT.out, F5.out, S5.out, T5.out, HA5.out⟩
      case measure =>
        have := HLT.out
        show nl - ((j + 1 : Nat) : Int).toNat < nl - (j : Int).toNat
        omega
    · have hi3 : ¬ (j : Int) < (nl : Int) := by omega
      have hT : L.take j = L := List.take_of_length_le (by have := HL.out.1; omega)
      obtain h0 := S.out
      rw [hT] at h0
      clear S
      have S := Lib.hid h0
      clear h0 hT hlt
      have HV := Lib.hid (show cur g (P ++ [(2, (n : Int) + 1)] ++ wrL a L) 47 = n from by
        rw [cur_wrL_other _ _ _ _ _ (fun i hi => by have := HAB.out; omega), cur_push]
        exact H47.out)
      have HLE := Lib.hid (show (P ++ [(2, (n : Int) + 1)] ++ wrL a L).length ≤ 80009 from by
        rw [List.length_append, List.length_append, wrL_len, List.length_singleton]
        have := HN.out.1
        have := HL.out
        omega)
      have W9 : IntKind.i64.wrap ((n : Int) + 1) = (n : Int) + 1 := wrap_i64 _ (by omega) (by have := HN.out; omega)
      have pT0 : _ = some (Value.iface 50 (.agg #[])) := T.out.hb.cell 0
      have pT1 : _ = some (Value.int .i64 1) := T.out.hb.cell 1
      have pT2 : _ = some (Value.int .i64 96) := T.out.hb.cell 2
      have pT3 : _ = some (Value.int .i64 128) := T.out.hb.cell 3
      have pT4 : _ = some (Value.int .i64 40) := T.out.hb.cell 4
      go_wp2_with fail
      have KA := Lib.hid (tadd_any S.out F.out.yn (by have := HLE.out; omega) 7 1 n 47 (by decide) (by decide) HV.out)
      rw [W9] at KA
      refine (KA.out).mono ?_
      rintro e w6 ⟨rfl, hs, hk⟩
      clear S
      have S := Lib.hid hs
      clear pT0 pT1 pT2 pT3 pT4
      obtain h0 := F.out
      clear F
      have F := Lib.hid (h0.step hk)
      clear h0
      obtain h0 := T.out
      clear T
      have T := Lib.hid (h0.step hk)
      clear h0
      clear hs hk
      go_wp2
      go_ret2
      exact ⟨rfl, S.out.back F.out, F.out.k⟩
end Go.Proofs.YtkloaopjlbinpaaGreat
namespace Go.Proofs.YtkloaopjlbinpaaGreat
open Go.RowKit Go.MapKept

def z8 : Array Value := #[.int .i64 0, .int .i64 0, .int .i64 0, .int .i64 0, .int .i64 0, .int .i64 0, .int .i64 0, .int .i64 0]
theorem make8 (w : World) : (Instr.makeSlice 26 (.int .i64 8) (.int .i64 8)).run Tryz.prog w = .ok (.slice (some ⟨w.heap.size, 0, none⟩) 8 8) (w.alloc (.cells z8 2)) := by
  obtain ⟨i, h1, h2, h3, h4⟩ := i64_info
  have hr := run_makeSlice (P := Tryz.prog) w 26 2 i _ Tryz.underlying26 h1 h2 .i64 .i64 8 8 (by omega) (Int.le_refl _) (by rw [h3]; decide) (by rw [h4]; decide) (by decide)
  have e : madeCells (Value.int .i64 0).cells (Int.toNat 8 * 1) = z8 := by kernel_rfl
  rw [hr, h3, e]
  rfl
/-- The writes of a taken node. -/
def tkP (n : Nat) (L : List Int) : List (Int × Int) := [(2, (n : Int) + 1)] ++ wrL (adr n) L ++ [(47, (n : Int) + 1)]
theorem tkP_len (n : Nat) (L : List Int) : (tkP n L).length = L.length + 2 := by
  unfold tkP
  rw [List.length_append, List.length_append, wrL_len, List.length_singleton, List.length_singleton]
  omega
theorem tkP_other (g : Mem) (P : List (Int × Int)) (n : Nat) (L : List Int) (x : Int) (h2 : x ≠ 2) (h47 : x ≠ 47) (ha : ∀ i : Nat, i < L.length → x ≠ adr n + (i : Int)) : cur g (P ++ tkP n L) x = cur g P x := by
  unfold tkP
  rw [← List.append_assoc, ← List.append_assoc, cur_push]
  unfold setI
  rw [if_neg h47, cur_wrL_other _ _ _ _ _ ha, cur_push]
  unfold setI
  rw [if_neg h2]
theorem tkP_2 (g : Mem) (P : List (Int × Int)) (n : Nat) (L : List Int) : cur g (P ++ tkP n L) 2 = (n : Int) + 1 := by
  unfold tkP
  rw [← List.append_assoc, ← List.append_assoc, cur_push]
  unfold setI
  rw [if_neg (by decide), cur_wrL_other _ _ _ _ _ (fun i _ => by unfold adr; omega), cur_push]
  exact if_pos rfl
theorem tkP_47 (g : Mem) (P : List (Int × Int)) (n : Nat) (L : List Int) : cur g (P ++ tkP n L) 47 = (n : Int) + 1 := by
  unfold tkP
  rw [← List.append_assoc, ← List.append_assoc, cur_push]
  exact if_pos rfl
theorem tkP_at (g : Mem) (P : List (Int × Int)) (n : Nat) (L : List Int) (j : Nat) (hj : j < L.length) : cur g (P ++ tkP n L) (adr n + (j : Int)) = L.getD j 0 := by
  unfold tkP
  rw [← List.append_assoc, ← List.append_assoc, cur_push]
  unfold setI
  rw [if_neg (by unfold adr; omega), cur_wrL_at _ _ _ _ _ hj]
/-- The writes of one split. -/
def spP (n : Nat) (x y c : Int) : List (Int × Int) := tkP n [0, 0, 0, 0, 0, 0, 0, 0] ++ [(x, y)] ++ [(c, -adr n)]
theorem TI.splitP {g : Mem} {P : List (Int × Int)} {t : Tr} {n a : Nat} {k k0 v0 : Int} (h : TI (cur g P) t n) (hk : key k) (hb : t.bot k 0 = .l a k0 v0) (hne : k0 ≠ k) :
    TI (cur g (P ++ spP n (adr n + (dg (t.dep k 0) k0 : Int)) (adr a) (t.cell k 0 40))) (Tr.repl k (brn n a k0 v0 (t.dep k 0)) t 0) (n + 1) ∧ (Tr.repl k (brn n a k0 v0 (t.dep k 0)) t 0).bot k 0 = (if dg (t.dep k 0) k = dg (t.dep k 0) k0 then .l a k0 v0 else .e)
    ∧ (Tr.repl k (brn n a k0 v0 (t.dep k 0)) t 0).cell k 0 40 = adr n + (dg (t.dep k 0) k : Int) ∧ (Tr.repl k (brn n a k0 v0 (t.dep k 0)) t 0).dep k 0 = t.dep k 0 + 1
    ∧ ∀ k', (Tr.repl k (brn n a k0 v0 (t.dep k 0)) t 0).get k' 0 = t.get k' 0 := by
  have hc := h.cell k
  have h8 := dg_lt (t.dep k 0) k0
  obtain ⟨j0, hj0⟩ : ∃ j, j = dg (t.dep k 0) k0 := ⟨_, rfl⟩
  have hval : ∀ x, cur g (P ++ spP n (adr n + (dg (t.dep k 0) k0 : Int)) (adr a) (t.cell k 0 40)) x = if x = t.cell k 0 40 then -adr n else if x = adr n + (dg (t.dep k 0) k0 : Int) then adr a else cur g (P ++ tkP n [0, 0, 0, 0, 0, 0, 0, 0]) x := by
    intro x
    unfold spP
    rw [← List.append_assoc, ← List.append_assoc, cur_push, cur_push]
    rfl
  refine TI.split h hk hb hne ?_ ?_ ?_ ?_ ?_ ?_
  · intro x h2 h47 hx hj
    rw [hval, if_neg hx, if_neg (hj _ h8), tkP_other g P n [0, 0, 0, 0, 0, 0, 0, 0] x h2 h47 fun i hi => hj i (by simpa using hi)]
  · rw [hval, if_neg (fun e => hc.2.1 e.symm), if_neg (by unfold adr; omega), tkP_2]
  · rw [hval, if_neg (fun e => hc.2.2.2.1 e.symm), if_neg (by unfold adr; omega), tkP_47]
  · rw [hval, if_pos rfl]
  · intro j hj hjn
    rw [hval, if_neg (fun e => hc.2.2.2.2 j hj e.symm), if_neg (fun e => hjn (adr_inj hj h8 e).2), tkP_at _ _ _ _ _ (by simpa using hj)]
    have : ∀ j : Fin 8, ([0, 0, 0, 0, 0, 0, 0, 0] : List Int).getD j 0 = 0 := by decide
    exact this ⟨j, hj⟩
  · rw [hval, if_neg (fun e => hc.2.2.2.2 _ h8 e.symm), if_pos rfl]
/-- The writes of a new leaf. -/
def adP (n : Nat) (k v c m : Int) : List (Int × Int) := tkP n [k, v, 0] ++ [(c, adr n)] ++ [(41, m)]
theorem TI.addP {g : Mem} {P : List (Int × Int)} {t : Tr} {n : Nat} {k v : Int} (h : TI (cur g P) t n) (hk : key k) (hb : t.bot k 0 = .e) :
    TI (cur g (P ++ adP n k v (t.cell k 0 40) (cur g P 41 + 1))) (Tr.repl k (.l n k v) t 0) (n + 1) ∧ (Tr.repl k (.l n k v) t 0).get k 0 = some v ∧ ∀ k', k' ≠ k → (Tr.repl k (.l n k v) t 0).get k' 0 = t.get k' 0 := by
  have hc := h.cell k
  have hval : ∀ x, cur g (P ++ adP n k v (t.cell k 0 40) (cur g P 41 + 1)) x = if x = 41 then cur g P 41 + 1 else if x = t.cell k 0 40 then adr n else cur g (P ++ tkP n [k, v, 0]) x := by
    intro x
    unfold adP
    rw [← List.append_assoc, ← List.append_assoc, cur_push, cur_push]
    rfl
  have hat : ∀ j : Nat, j < 3 → cur g (P ++ adP n k v (t.cell k 0 40) (cur g P 41 + 1)) (adr n + (j : Int)) = [k, v, 0].getD j 0 := by
    intro j hj
    rw [hval, if_neg (by unfold adr; omega), if_neg (fun e => hc.2.2.2.2 j (by omega) e.symm), tkP_at _ _ _ _ _ (by simpa using hj)]
  have h0 := hat 0 (by omega)
  have h1 := hat 1 (by omega)
  have h2 := hat 2 (by omega)
  simp only [Int.natCast_zero, Int.add_zero] at h0
  refine TI.add h hk hb ?_ ?_ ?_ ?_ ?_ h0 h1 h2
  · intro x x2 x41 x47 xc xa xb xd
    rw [hval, if_neg x41, if_neg xc, tkP_other _ _ _ _ _ x2 x47 fun i hi e => ?_]
    have : i = 0 ∨ i = 1 ∨ i = 2 := by simp at hi; omega
    rcases this with rfl | rfl | rfl
    · exact xa (by simpa using e)
    · exact xb e
    · exact xd e
  · rw [hval, if_neg (by decide), if_neg (fun e => hc.2.1 e.symm), tkP_2]
  · rw [hval, if_pos rfl]
  · rw [hval, if_neg (by decide), if_neg (fun e => hc.2.2.2.1 e.symm), tkP_47]
  · rw [hval, if_neg hc.2.2.1, if_pos rfl]
end Go.Proofs.YtkloaopjlbinpaaGreat
