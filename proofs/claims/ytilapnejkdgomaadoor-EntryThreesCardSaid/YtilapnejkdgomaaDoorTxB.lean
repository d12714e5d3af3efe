/- The walks of the reference's number and Text. Conditions: the numbers are of their kinds. -/
import Derived.Test.YtilapnejkdgomaaDoorTxA
import Derived.Deep.RegionWith
import Derived.Deep.RegionHeld3
set_option linter.unusedVariables false
set_option linter.unusedSimpArgs false
namespace Go.Proofs.YtilapnejkdgomaaDoor
open Go.RowKit

/-- A string out of its bytes. -/
def bs (l : List UInt8) : ByteArray := ⟨⟨l⟩⟩
theorem bs_eta (s : ByteArray) : bs s.data.toList = s := by obtain ⟨⟨l⟩⟩ := s; rfl
theorem bs_list (l : List UInt8) : (bs l).data.toList = l := rfl
theorem bs_size (l : List UInt8) : (bs l).size = l.length := rfl
theorem bs_extract (l : List UInt8) (a b : Nat) : (bs l).extract a b = bs ((l.drop a).take (b - a)) := by
  rw [← bs_eta ((bs l).extract a b), ← Lib.toList_data, Lib.extract_toList, bs_list]
theorem bs_tail (l : List UInt8) (a : Nat) : (bs l).extract a (bs l).size = bs (l.drop a) := by
  rw [bs_extract, bs_size, List.take_of_length_le (by simp)]
theorem bs_head (l : List UInt8) (b : Nat) : (bs l).extract 0 b = bs (l.take b) := by
  rw [bs_extract, List.drop_zero, Nat.sub_zero]
theorem bs_inj {a b : List UInt8} (h : bs a = bs b) : a = b := by
  have := congrArg (fun s => s.data.toList) h
  exact this
theorem ofN (k : Nat) (h : k < 10) : (UInt8.ofNat (48 + k)).toNat = 48 + k := by rw [UInt8.toNat_ofNat']; omega
theorem kind_cases {r : Int} (h : kindV r ≠ 2) : r = 0 ∨ (r ≠ 0 ∧ kindV r = 1 ∧ 0 < whoA r) := by
  unfold kindV at *
  by_cases h0 : r = 0
  · exact .inl h0
  · rw [if_neg h0] at h ⊢
    by_cases h1 : 0 < whoA r
    · exact .inr ⟨h0, by rw [if_pos h1], h1⟩
    · rw [if_neg h1] at h; exact absurd rfl h
theorem who_pos {r : Int} (h : 0 < whoA r) : wOk (whoA r) (whoB r) ∧ rVal (whoA r) (whoB r) = r := by
  by_cases hw : wOk (r / 16777216) (r % 16777216)
  · rw [whoA_ok hw, whoB_ok hw]
    exact ⟨hw, by unfold rVal; rw [if_pos hw]; omega⟩
  · rw [whoA_no hw] at h; omega
theorem txt_len (v n r : Int) (h0 : -9223372036854775808 ≤ v) (h1 : v ≤ 9223372036854775807) (h2 : 0 ≤ n) (h3 : n < 4294967296) (h4 : 0 ≤ r) (h5 : r < 4294967296) : (txt v n r).length ≤ 110 := by
  have d : ∀ k : Nat, k < 4294967296 → (Lib.decDigits k).length ≤ 20 := fun k hk => by rw [Lib.decDigits_length]; exact Lib.nDigits_le20 _ (by omega)
  have a := Lib.itoa_length_le v h0 h1
  have b := d n.toNat (by omega)
  have c : (Lib.decDigits (whoA r).toNat).length ≤ 20 := d _ (by unfold whoA; split <;> omega)
  have e : (Lib.decDigits (whoB r).toNat).length ≤ 20 := d _ (by unfold whoB; split <;> omega)
  unfold txt
  split
  · simp
  · rw [List.length_append, List.length_append]
    have x : (if n ≠ 0 ∨ kindV r = 1 then 46 :: Lib.decDigits n.toNat else []).length ≤ 21 := by split <;> simp <;> omega
    have y : (if kindV r = 1 then 35 :: (Lib.decDigits (whoA r).toNat ++ 58 :: Lib.decDigits (whoB r).toNat) else []).length ≤ 50 := by split <;> simp <;> omega
    omega
theorem bs_eq (l : List UInt8) : (⟨l.toArray⟩ : ByteArray) = bs l := rfl
theorem kind_two {r : Int} (h : kindV r = 2) : r ≠ 0 ∧ whoA r = 0 := by
  unfold kindV at h
  split at h
  · cases h
  · next h0 =>
    split at h
    · cases h
    · next h1 =>
      refine ⟨h0, ?_⟩
      by_cases hw : wOk (r / 16777216) (r % 16777216)
      · rw [whoA_ok hw] at h1; unfold wOk at hw; omega
      · exact whoA_no hw
set_option maxRecDepth 100000 in
set_option maxHeartbeats 1600000 in
theorem refWho_any (r : Int) (w : World) (h0 : 0 ≤ r) (h1 : r < 4294967296) :
    Calls Tryd.prog 55 #[.int .u32 r] w fun e w' => e = .returned (.tuple #[.int .i64 (whoA r), .int .i64 (whoB r)]) ∧ w' = w := by
  have t1 : r.tdiv 16777216 = r / 16777216 := Int.tdiv_eq_ediv_of_nonneg h0
  have t2 : r.tmod 16777216 = r % 16777216 := Int.tmod_eq_emod_of_nonneg h0
  by_cases h : wOk (r / 16777216) (r % 16777216)
  · rw [whoA_ok h, whoB_ok h]
    obtain ⟨k1, k2, k3, k4⟩ := h
    go_enter Tryd.func55, Tryd.ntmps55
    go_wp2
    go_ret2
    exact ⟨rfl, rfl⟩
  · rw [whoA_no h, whoB_no h]
    have h' : r / 16777216 < 1 ∨ (1 ≤ r / 16777216 ∧ 72 < r / 16777216) ∨ (1 ≤ r / 16777216 ∧ r / 16777216 ≤ 72 ∧ r % 16777216 < 1) := by unfold wOk at h; omega
    clear h
    rcases h' with h1 | ⟨h1, h2⟩ | ⟨h1, h2, h3⟩
    all_goals
      go_enter Tryd.func55, Tryd.ntmps55
      go_wp2
      go_ret2
      exact ⟨rfl, rfl⟩
theorem dd_big {n : Nat} (h : ¬ n < 10) : Lib.decDigits n = Lib.decDigits (n / 10) ++ [UInt8.ofNat (48 + n % 10)] := by
  conv => lhs; rw [Lib.decDigits]
  rw [dif_neg h]
theorem dd_small {n : Nat} (h : n < 10) : Lib.decDigits n = [UInt8.ofNat (48 + n)] := by rw [Lib.decDigits, dif_pos h]
theorem bs_join (a b : List UInt8) : bs a ++ bs b = bs (a ++ b) := by
  rw [← bs_eta (bs a ++ bs b)]
  congr 1
/-- A string out of a slice of one byte. -/
theorem conv_at (W : World) (g : Nat) (b : UInt8) (v : Int) (hv : v = (b.toNat : Int)) (h : W.cell? ⟨g, 0, none⟩ = some (.int .u8 v)) : (convert 81 9 (.slice (some ⟨g, 0, none⟩) 1 1)).run Tryd.prog W = .ok (.string (bs [b])) W := by
  subst hv
  exact run_convert_bytes_back W 81 9 5 ⟨g, 0, none⟩ 1 [b] Tryd.underlying81 Tryd.underlying5 Tryd.underlying9 (fun j hj => by
    obtain rfl : j = 0 := by simp at hj; omega
    exact h)
theorem conv_new (W : World) (b : UInt8) (v : Int) (hv : v = (b.toNat : Int)) : (convert 81 9 (.slice (some ⟨W.heap.size, 0, none⟩) 1 1)).run Tryd.prog (W.alloc (.cells #[.int .u8 v] 5)) = .ok (.string (bs [b])) (W.alloc (.cells #[.int .u8 v] 5)) :=
  conv_at _ _ b v hv (by rw [cell_of_row _ _ _ _ _ _ (heap_alloc_new W (.cells #[.int .u8 v] 5))]; rfl)
theorem add_bs (x y : List UInt8) (h : x.length + y.length ≤ 1000) (w : World) : (Op.stringOp .add (bs x) (bs y)).run Tryd.prog w = .ok (.string (bs (x ++ y))) w := add_lists x y h w
theorem itoa_min : Lib.itoa (-9223372036854775808) = [45, 57, 50, 50, 51, 51, 55, 50, 48, 51, 54, 56, 53, 52, 55, 55, 53, 56, 48, 56] := by
  unfold Lib.itoa
  rw [if_pos (by decide)]
  show 45 :: Lib.decDigits 9223372036854775808 = _
  simp only [dd_big (show ¬ 9223372036854775808 < 10 by omega), dd_big (show ¬ 922337203685477580 < 10 by omega)]
  simp [Lib.decDigits]

set_option maxRecDepth 100000 in
set_option maxHeartbeats 12800000 in
theorem num_small (n : Nat) (h : n < 10) (w : World) :
    Calls Tryd.prog 56 #[.int .i64 n] w fun e w' => e = .returned (.string (bs (Lib.decDigits n))) ∧ Below w.heap.size w w' := by
  rw [dd_small h]
  have hcv := conv_new w (UInt8.ofNat (48 + n)) (48 + (n : Int)) (by rw [ofN n h]; omega)
  have w2 : IntKind.u8.wrap (48 + (n : Int)) = 48 + (n : Int) := by simp [IntKind.wrap, IntKind.bits, IntKind.signed]; omega
  have hn0 : ¬ (n : Int) = -9223372036854775808 := by omega
  have hn1 : ¬ (n : Int) < 0 := by omega
  have hn2 : (n : Int) < 10 := by omega
  clear h
  generalize UInt8.ofNat (48 + n) = b at *
  go_enter Tryd.func56, Tryd.ntmps56
  go_wp2
  go_ret
  exact ⟨rfl, (Below.refl _ _).alloc (Nat.le_refl _) _⟩

set_option maxRecDepth 100000 in
set_option maxHeartbeats 12800000 in
theorem num_nat (n : Nat) : ∀ (hn : n ≤ 9223372036854775807) (w : World),
    Calls Tryd.prog 56 #[.int .i64 n] w fun e w' => e = .returned (.string (bs (Lib.decDigits n))) ∧ Below w.heap.size w w' := by
  induction n using Nat.strongRecOn with
  | _ n ih =>
    intro hn w
    by_cases h : n < 10
    · exact num_small n h w
    · have IH := Lib.hid (ih (n / 10) (by omega) (by omega))
      have hl : (Lib.decDigits (n / 10)).length ≤ 20 := by rw [Lib.decDigits_length]; exact Lib.nDigits_le20 _ (by omega)
      have hb : (UInt8.ofNat (48 + n % 10)).toNat = 48 + n % 10 := ofN _ (by omega)
      have hd : (n : Int).tdiv 10 = ((n / 10 : Nat) : Int) := by rw [Int.tdiv_eq_ediv_of_nonneg (by omega)]; omega
      have hm : (n : Int).tmod 10 = ((n % 10 : Nat) : Int) := by rw [Int.tmod_eq_emod_of_nonneg (by omega)]; omega
      have hr : n % 10 < 10 := by omega
      rw [dd_big h]
      have hn0 : ¬ (n : Int) = -9223372036854775808 := by omega
      have hn1 : ¬ (n : Int) < 0 := by omega
      have hn2 : ¬ (n : Int) < 10 := by omega
      have hqb : n / 10 ≤ 922337203685477580 := by omega
      clear ih h hn
      generalize Lib.decDigits (n / 10) = T at *
      generalize UInt8.ofNat (48 + n % 10) = b at *
      generalize n % 10 = r at *
      generalize n / 10 = q at *
      have w1 : IntKind.i64.wrap (48 + (r : Int)) = 48 + (r : Int) := by simp [IntKind.wrap, IntKind.bits, IntKind.signed]; omega
      have w2 : IntKind.u8.wrap (48 + (r : Int)) = 48 + (r : Int) := by simp [IntKind.wrap, IntKind.bits, IntKind.signed]; omega
      have hv : 48 + (r : Int) = (b.toNat : Int) := by omega
      have HV := Lib.hid hv
      have hcat := bs_join T [b]
      have hs1 : ((bs T).size : Int) ≤ 20 := by rw [bs_size]; omega
      have hs2 : (bs [b]).size = 1 := rfl
      have hwq : IntKind.i64.wrap (q : Int) = (q : Int) := by simp [IntKind.wrap, IntKind.bits, IntKind.signed]; omega
      have hsn : ¬ 9223372036854775807 < (bs T).size + 1 := by omega
      clear hqb
      have hbr : r ≤ 9 := by omega
      clear hb hr hl hv
      go_enter Tryd.func56, Tryd.ntmps56
      go_wp2_with fail
      refine wp_region_held_drew (S := fun _ => True) (by kernel_rfl) trivial (fun hHeld => ?_)
      have H0 := Lib.hid (show Below w.heap.size w w.drew from (Below.refl _ _).drew)
      clear hHeld
      generalize w.drew = w0 at *
      refine wpAnyH_take (i := 0) (oi := ⟨some 18, _, _, _, _, _⟩) (v := .int .i64 n) rfl (by kernel_rfl) (by kernel_rfl) (by kernel_rfl) (fun _ _ _ h => h) (Or.inl ⟨by rfl, ?_⟩) trivial ?_
      · intro W' hW
        go_simp
      try simp only [Act.put, List.setIfInBounds_toArray, List.set_cons_zero, List.set_cons_succ]
      refine wpAnyH_take (i := 1) (oi := ⟨some 19, _, _, _, _, _⟩) (v := .int .i64 q) rfl (by kernel_rfl) (by kernel_rfl) (by kernel_rfl) (fun _ _ _ h => h) (Or.inl ⟨by rfl, ?_⟩) trivial ?_
      · intro W' hW
        go_simp
      try simp only [Act.put, List.setIfInBounds_toArray, List.set_cons_zero, List.set_cons_succ]
      refine wpAnyH_take (i := 3) (oi := ⟨some 21, _, _, _, _, _⟩) (v := .int .i64 n) rfl (by kernel_rfl) (by kernel_rfl) (by kernel_rfl) (fun _ _ _ h => h) (Or.inl ⟨by rfl, ?_⟩) trivial ?_
      · intro W' hW
        go_simp
      try simp only [Act.put, List.setIfInBounds_toArray, List.set_cons_zero, List.set_cons_succ]
      refine wpAnyH_take (i := 4) (oi := ⟨some 22, _, _, _, _, _⟩) (v := .int .i64 r) rfl (by kernel_rfl) (by kernel_rfl) (by kernel_rfl) (fun _ _ _ h => h) (Or.inl ⟨by rfl, ?_⟩) trivial ?_
      · intro W' hW
        go_simp
      try simp only [Act.put, List.setIfInBounds_toArray, List.set_cons_zero, List.set_cons_succ]
      refine wpAnyH_take (i := 5) (oi := ⟨some 23, _, _, _, _, _⟩) (v := .int .i64 (48 + (r : Int))) rfl (by kernel_rfl) (by kernel_rfl) (by kernel_rfl) (fun _ _ _ h => h) (Or.inl ⟨by rfl, ?_⟩) trivial ?_
      · intro W' hW
        go_simp
      try simp only [Act.put, List.setIfInBounds_toArray, List.set_cons_zero, List.set_cons_succ]
      refine wpAnyH_take (i := 6) (oi := ⟨some 24, _, _, _, _, _⟩) (v := .int .u8 (48 + (r : Int))) rfl (by kernel_rfl) (by kernel_rfl) (by kernel_rfl) (fun _ _ _ h => h) (Or.inl ⟨by rfl, ?_⟩) trivial ?_
      · intro W' hW
        go_simp
      try simp only [Act.put, List.setIfInBounds_toArray, List.set_cons_zero, List.set_cons_succ]
      refine wpAnyH_ready (rs := [2, 7]) (by kernel_rfl) (by simp) ?_
      refine AllReadyH.cons (o := ⟨some 20, _, _, _, _, _⟩) rfl (fun K hK => ?_) (AllReadyH.cons (o := ⟨some 25, _, _, _, _, _⟩) rfl (fun K hK => ?_) (AllReadyH.nil))
      · skip
        go_simp
        refine (IH.out w0).mono ?_
        rintro e w1 ⟨rfl, hb⟩
        have H1 := Lib.hid (H0.out.trans (hb.mono H0.out.size))
        refine hK.out _ _ trivial (fun hHeldq => ?_)
        clear hK hHeldq
        try simp only [Act.put, List.setIfInBounds_toArray, List.set_cons_zero, List.set_cons_succ]
        refine wpAnyH_ready (rs := [7]) (by kernel_rfl) (by simp) ?_
        refine AllReadyH.cons (o := ⟨some 25, _, _, _, _, _⟩) rfl (fun K hK => ?_) (AllReadyH.nil)
        go_simp
        have hbb : Below w1.heap.size w1 (w1.alloc (.cells #[.int .u8 (48 + (r : Int))] 5)) := (Below.refl _ _).alloc (Nat.le_refl _) _
        have H2 := Lib.hid (H1.out.trans (hbb.mono H1.out.size))
        have X2 := Lib.hid (show (w1.alloc (.cells #[.int .u8 (48 + (r : Int))] 5)).cell? ⟨w1.heap.size, 0, none⟩ = some (.int .u8 (48 + (r : Int))) by rw [cell_of_row _ _ _ _ _ _ (heap_alloc_new w1 (.cells #[.int .u8 (48 + (r : Int))] 5))]; rfl)
        generalize w1.alloc (.cells #[.int .u8 (48 + (r : Int))] 5) = w2 at *
        skip
        clear hbb
        refine hK.out _ _ trivial (fun hHeldq => ?_)
        clear hK hHeldq
        try simp only [Act.put, List.setIfInBounds_toArray, List.set_cons_zero, List.set_cons_succ]
        refine wpAnyH_ready (rs := [8]) (by kernel_rfl) (by simp) ?_
        refine AllReadyH.cons (o := ⟨some 26, _, _, _, _, _⟩) rfl (fun K hK => ?_) (AllReadyH.nil)
        have hcv := conv_at w2 w1.heap.size b _ HV.out X2.out
        go_simp
        clear hcv
        refine hK.out _ _ trivial (fun hHeldq => ?_)
        clear hK hHeldq
        try simp only [Act.put, List.setIfInBounds_toArray, List.set_cons_zero, List.set_cons_succ]
        refine wpAnyH_ready (rs := [9]) (by kernel_rfl) (by simp) ?_
        refine AllReadyH.cons (o := ⟨some 27, _, _, _, _, _⟩) rfl (fun K hK => ?_) (AllReadyH.nil)
        go_simp
        refine hK.out _ _ trivial (fun hHeldq => ?_)
        clear hK hHeldq
        try simp only [Act.put, List.setIfInBounds_toArray, List.set_cons_zero, List.set_cons_succ]
        refine wpAnyH_ready (rs := [10]) (by kernel_rfl) (by simp) ?_
        refine AllReadyH.cons (o := ⟨some 2, _, _, _, _, _⟩) rfl (fun K hK => ?_) (AllReadyH.nil)
        go_simp
        refine hK.out _ _ trivial (fun hHeldq => ?_)
        clear hK hHeldq
        try simp only [Act.put, List.setIfInBounds_toArray, List.set_cons_zero, List.set_cons_succ]
        refine wpAnyH_done (by kernel_rfl) ?_ _
        go_wp2
        go_ret
        exact ⟨rfl, H2.out⟩
      · skip
        go_simp
        have hbb : Below w0.heap.size w0 (w0.alloc (.cells #[.int .u8 (48 + (r : Int))] 5)) := (Below.refl _ _).alloc (Nat.le_refl _) _
        have H1 := Lib.hid (H0.out.trans (hbb.mono H0.out.size))
        have X1 := Lib.hid (show (w0.alloc (.cells #[.int .u8 (48 + (r : Int))] 5)).cell? ⟨w0.heap.size, 0, none⟩ = some (.int .u8 (48 + (r : Int))) by rw [cell_of_row _ _ _ _ _ _ (heap_alloc_new w0 (.cells #[.int .u8 (48 + (r : Int))] 5))]; rfl)
        generalize w0.alloc (.cells #[.int .u8 (48 + (r : Int))] 5) = w1 at *
        skip
        clear hbb
        have XL := Lib.hid (World.block_lt_of_cell? _ _ X1.out)
        refine hK.out _ _ trivial (fun hHeldq => ?_)
        clear hK hHeldq
        try simp only [Act.put, List.setIfInBounds_toArray, List.set_cons_zero, List.set_cons_succ]
        refine wpAnyH_ready (rs := [2, 8]) (by kernel_rfl) (by simp) ?_
        refine AllReadyH.cons (o := ⟨some 20, _, _, _, _, _⟩) rfl (fun K hK => ?_) (AllReadyH.cons (o := ⟨some 26, _, _, _, _, _⟩) rfl (fun K hK => ?_) (AllReadyH.nil))
        · skip
          go_simp
          refine (IH.out w1).mono ?_
          rintro e w2 ⟨rfl, hb⟩
          have H2 := Lib.hid (H1.out.trans (hb.mono H1.out.size))
          have X2 := Lib.hid ((hb.cell (p := ⟨w0.heap.size, 0, none⟩) XL.out).trans X1.out)
          refine hK.out _ _ trivial (fun hHeldq => ?_)
          clear hK hHeldq
          try simp only [Act.put, List.setIfInBounds_toArray, List.set_cons_zero, List.set_cons_succ]
          refine wpAnyH_ready (rs := [8]) (by kernel_rfl) (by simp) ?_
          refine AllReadyH.cons (o := ⟨some 26, _, _, _, _, _⟩) rfl (fun K hK => ?_) (AllReadyH.nil)
          have hcv := conv_at w2 w0.heap.size b _ HV.out X2.out
          go_simp
          clear hcv
          refine hK.out _ _ trivial (fun hHeldq => ?_)
          clear hK hHeldq
          try simp only [Act.put, List.setIfInBounds_toArray, List.set_cons_zero, List.set_cons_succ]
          refine wpAnyH_ready (rs := [9]) (by kernel_rfl) (by simp) ?_
          refine AllReadyH.cons (o := ⟨some 27, _, _, _, _, _⟩) rfl (fun K hK => ?_) (AllReadyH.nil)
          go_simp
          refine hK.out _ _ trivial (fun hHeldq => ?_)
          clear hK hHeldq
          try simp only [Act.put, List.setIfInBounds_toArray, List.set_cons_zero, List.set_cons_succ]
          refine wpAnyH_ready (rs := [10]) (by kernel_rfl) (by simp) ?_
          refine AllReadyH.cons (o := ⟨some 2, _, _, _, _, _⟩) rfl (fun K hK => ?_) (AllReadyH.nil)
          go_simp
          refine hK.out _ _ trivial (fun hHeldq => ?_)
          clear hK hHeldq
          try simp only [Act.put, List.setIfInBounds_toArray, List.set_cons_zero, List.set_cons_succ]
          refine wpAnyH_done (by kernel_rfl) ?_ _
          go_wp2
          go_ret
          exact ⟨rfl, H2.out⟩
        · skip
          have hcv := conv_at w1 w0.heap.size b _ HV.out X1.out
          go_simp
          clear hcv
          refine hK.out _ _ trivial (fun hHeldq => ?_)
          clear hK hHeldq
          try simp only [Act.put, List.setIfInBounds_toArray, List.set_cons_zero, List.set_cons_succ]
          refine wpAnyH_ready (rs := [2]) (by kernel_rfl) (by simp) ?_
          refine AllReadyH.cons (o := ⟨some 20, _, _, _, _, _⟩) rfl (fun K hK => ?_) (AllReadyH.nil)
          go_simp
          refine (IH.out w1).mono ?_
          rintro e w2 ⟨rfl, hb⟩
          have H2 := Lib.hid (H1.out.trans (hb.mono H1.out.size))
          refine hK.out _ _ trivial (fun hHeldq => ?_)
          clear hK hHeldq
          try simp only [Act.put, List.setIfInBounds_toArray, List.set_cons_zero, List.set_cons_succ]
          refine wpAnyH_ready (rs := [9]) (by kernel_rfl) (by simp) ?_
          refine AllReadyH.cons (o := ⟨some 27, _, _, _, _, _⟩) rfl (fun K hK => ?_) (AllReadyH.nil)
          go_simp
          refine hK.out _ _ trivial (fun hHeldq => ?_)
          clear hK hHeldq
          try simp only [Act.put, List.setIfInBounds_toArray, List.set_cons_zero, List.set_cons_succ]
          refine wpAnyH_ready (rs := [10]) (by kernel_rfl) (by simp) ?_
          refine AllReadyH.cons (o := ⟨some 2, _, _, _, _, _⟩) rfl (fun K hK => ?_) (AllReadyH.nil)
          go_simp
          refine hK.out _ _ trivial (fun hHeldq => ?_)
          clear hK hHeldq
          try simp only [Act.put, List.setIfInBounds_toArray, List.set_cons_zero, List.set_cons_succ]
          refine wpAnyH_done (by kernel_rfl) ?_ _
          go_wp2
          go_ret
          exact ⟨rfl, H2.out⟩
set_option maxRecDepth 100000 in
set_option maxHeartbeats 12800000 in
theorem num_any (n : Int) (h0 : -9223372036854775808 ≤ n) (h1 : n ≤ 9223372036854775807) (w : World) :
    Calls Tryd.prog 56 #[.int .i64 n] w fun e w' => e = .returned (.string (bs (Lib.itoa n))) ∧ Below w.heap.size w w' := by
  by_cases hmin : n = -9223372036854775808
  · subst hmin
    rw [itoa_min]
    go_enter Tryd.func56, Tryd.ntmps56
    go_wp2
    go_ret
    exact ⟨rfl, Below.refl _ _⟩
  · by_cases hneg : n < 0
    · have HN := Lib.hid (num_nat n.natAbs (by omega))
      have hi : Lib.itoa n = 45 :: Lib.decDigits n.natAbs := by unfold Lib.itoa; rw [if_pos hneg]
      have hw : IntKind.i64.wrap (-n) = ((n.natAbs : Nat) : Int) := by simp [IntKind.wrap, IntKind.bits, IntKind.signed]; omega
      have hl : (Lib.decDigits n.natAbs).length ≤ 20 := by rw [Lib.decDigits_length]; exact Lib.nDigits_le20 _ (by omega)
      rw [hi]
      have hcat : (⟨#[45]⟩ : ByteArray) ++ bs (Lib.decDigits n.natAbs) = bs (45 :: Lib.decDigits n.natAbs) := bs_join [45] _
      have hs : ((bs (Lib.decDigits n.natAbs)).size : Int) ≤ 20 := by rw [bs_size]; omega
      clear hi hl h0 h1
      generalize Lib.decDigits n.natAbs = T at *
      generalize n.natAbs = k at *
      go_enter Tryd.func56, Tryd.ntmps56
      go_wp2_with fail
      refine (HN.out w).mono ?_
      rintro e w1 ⟨rfl, hb⟩
      have HB := Lib.hid hb
      clear hb HN
      go_wp2
      go_ret
      exact ⟨rfl, HB.out⟩
    · have h := num_nat n.toNat (by omega) w
      rw [show ((n.toNat : Nat) : Int) = n by omega] at h
      rwa [show Lib.itoa n = Lib.decDigits n.toNat by unfold Lib.itoa; rw [if_neg hneg]]

set_option maxRecDepth 100000 in
set_option maxHeartbeats 12800000 in
theorem rtext_two (v n r : Int) (w : World) (h0 : -9223372036854775808 ≤ v) (h1 : v ≤ 9223372036854775807) (h2 : 0 ≤ n) (h3 : n < 4294967296) (h4 : 0 ≤ r) (h5 : r < 4294967296) (hk : kindV r = 2) :
    Calls Tryd.prog 34 #[wd v n r] w fun e w' => e = .returned (.string (bs (txt v n r))) ∧ Below w.heap.size w w' := by
  have HWH := Lib.hid fun W => refWho_any r W h4 h5
  have HNV := Lib.hid fun W => num_any v h0 h1 W
  have HNN := Lib.hid fun W => num_any n (by omega) (by omega) W
  have dl : ∀ k : Nat, k < 4294967296 → (Lib.decDigits k).length ≤ 20 := fun k hk => by rw [Lib.decDigits_length]; exact Lib.nDigits_le20 _ (by omega)
  have lv := Lib.itoa_length_le v h0 h1
  have ln := dl n.toNat (by omega)
  have en : Lib.itoa n = Lib.decDigits n.toNat := by unfold Lib.itoa; rw [if_neg (by omega)]
  rw [en] at HNN
  obtain ⟨hr0, hwa⟩ := kind_two hk
  rw [show txt v n r = [] by unfold txt; rw [if_pos hk]]
  rw [hwa] at HWH
  have hrb : (r == 0) = false := beq_eq_false_iff_ne.2 hr0
  have hrc : (r != 0) = true := by rw [bne, hrb]; rfl
  clear dl lv ln en hk hwa h0 h1 h2 h3 h4 h5 HNV HNN
  unfold wd
  go_enter Tryd.func34, Tryd.ntmps34
  go_wp2_with fail
  have hb0 : Below w.heap.size w (w.alloc (wdO v n r)) := (Below.refl _ _).alloc (Nat.le_refl _) _
  have HB1 := Lib.hid hb0
  have X1 := Lib.hid (show WBox (w.alloc (wdO v n r)) w.heap.size v n r from WBox.new)
  clear hb0
  unfold wdO at HB1 X1
  generalize w.alloc (.cells #[.int .i64 v, .int .u32 n, .int .u32 r] 37) = w1 at *
  have x0 := X1.out.c0
  have x1 := X1.out.c1
  have x2 := X1.out.c2
  go_wp2_with fail
  refine (HWH.out w1).mono ?_
  rintro e w2 ⟨rfl, hx⟩
  subst w2
  clear HWH
  go_wp2
  go_ret
  exact ⟨rfl, HB1.out⟩
set_option maxRecDepth 100000 in
set_option maxHeartbeats 12800000 in
theorem rtext_zero0 (v n r : Int) (w : World) (h0 : -9223372036854775808 ≤ v) (h1 : v ≤ 9223372036854775807) (h2 : 0 ≤ n) (h3 : n < 4294967296) (h4 : 0 ≤ r) (h5 : r < 4294967296) (hk : kindV r ≠ 2) (hr : r = 0) (hn : n = 0) :
    Calls Tryd.prog 34 #[wd v n r] w fun e w' => e = .returned (.string (bs (txt v n r))) ∧ Below w.heap.size w w' := by
  have HWH := Lib.hid fun W => refWho_any r W h4 h5
  have HNV := Lib.hid fun W => num_any v h0 h1 W
  have HNN := Lib.hid fun W => num_any n (by omega) (by omega) W
  have dl : ∀ k : Nat, k < 4294967296 → (Lib.decDigits k).length ≤ 20 := fun k hk => by rw [Lib.decDigits_length]; exact Lib.nDigits_le20 _ (by omega)
  have lv := Lib.itoa_length_le v h0 h1
  have ln := dl n.toNat (by omega)
  have en : Lib.itoa n = Lib.decDigits n.toNat := by unfold Lib.itoa; rw [if_neg (by omega)]
  rw [en] at HNN
  subst hr
  subst hn
  rw [show txt v 0 0 = Lib.itoa v by unfold txt; rw [if_neg hk]; simp [show kindV 0 = 0 from rfl]]
  rw [whoA_zero, whoB_zero] at HWH
  clear dl lv ln en hk h0 h1 h2 h3 h4 h5 HNN
  generalize Lib.itoa v = T at *
  unfold wd
  go_enter Tryd.func34, Tryd.ntmps34
  go_wp2_with fail
  have hb0 : Below w.heap.size w (w.alloc (wdO v 0 0)) := (Below.refl _ _).alloc (Nat.le_refl _) _
  have HB1 := Lib.hid hb0
  have X1 := Lib.hid (show WBox (w.alloc (wdO v 0 0)) w.heap.size v 0 0 from WBox.new)
  clear hb0
  unfold wdO at HB1 X1
  generalize w.alloc (.cells #[.int .i64 v, .int .u32 0, .int .u32 0] 37) = w1 at *
  have x0 := X1.out.c0
  have x1 := X1.out.c1
  have x2 := X1.out.c2
  go_wp2_with fail
  refine (HWH.out w1).mono ?_
  rintro e w2 ⟨rfl, hx⟩
  subst w2
  clear HWH
  go_wp2_with fail
  refine (HNV.out w1).mono ?_
  rintro e w2 ⟨rfl, hb⟩
  have HB2 := Lib.hid (HB1.out.trans (hb.mono HB1.out.size))
  have X2 := Lib.hid (X1.out.below hb)
  clear hb x0 x1 x2 HB1 X1
  have x0 := X2.out.c0
  have x1 := X2.out.c1
  have x2 := X2.out.c2
  go_wp2
  go_ret
  exact ⟨rfl, HB2.out⟩
set_option maxRecDepth 100000 in
set_option maxHeartbeats 12800000 in
theorem rtext_zero1 (v n r : Int) (w : World) (h0 : -9223372036854775808 ≤ v) (h1 : v ≤ 9223372036854775807) (h2 : 0 ≤ n) (h3 : n < 4294967296) (h4 : 0 ≤ r) (h5 : r < 4294967296) (hk : kindV r ≠ 2) (hr : r = 0) (hn : n ≠ 0) :
    Calls Tryd.prog 34 #[wd v n r] w fun e w' => e = .returned (.string (bs (txt v n r))) ∧ Below w.heap.size w w' := by
  have HWH := Lib.hid fun W => refWho_any r W h4 h5
  have HNV := Lib.hid fun W => num_any v h0 h1 W
  have HNN := Lib.hid fun W => num_any n (by omega) (by omega) W
  have dl : ∀ k : Nat, k < 4294967296 → (Lib.decDigits k).length ≤ 20 := fun k hk => by rw [Lib.decDigits_length]; exact Lib.nDigits_le20 _ (by omega)
  have lv := Lib.itoa_length_le v h0 h1
  have ln := dl n.toNat (by omega)
  have en : Lib.itoa n = Lib.decDigits n.toNat := by unfold Lib.itoa; rw [if_neg (by omega)]
  rw [en] at HNN
  subst hr
  rw [show txt v n 0 = Lib.itoa v ++ (46 :: Lib.decDigits n.toNat) by unfold txt; rw [if_neg hk, if_pos (Or.inl hn), show kindV 0 = 0 from rfl]; simp]
  rw [whoA_zero, whoB_zero] at HWH
  have hnb : (n == 0) = false := beq_eq_false_iff_ne.2 hn
  have hnc : (n != 0) = true := by rw [bne, hnb]; rfl
  have hwn : IntKind.i64.wrap n = n := by simp [IntKind.wrap, IntKind.bits, IntKind.signed]; omega
  clear dl en hk h0 h1 h2 h3 h4 h5
  generalize Lib.itoa v = T at *
  generalize Lib.decDigits n.toNat = D at *
  have j1 : bs T ++ (⟨#[46]⟩ : ByteArray) = bs (T ++ [46]) := bs_join T [46]
  have j2 : bs (T ++ [46]) ++ bs D = bs (T ++ 46 :: D) := by rw [bs_join]; simp
  have z1 : ((bs T).size : Int) ≤ 21 := by rw [bs_size]; omega
  have z2 : ((bs (T ++ [46])).size : Int) ≤ 22 := by rw [bs_size]; simp; omega
  have z3 : ((bs D).size : Int) ≤ 20 := by rw [bs_size]; omega
  have z4 : ((⟨#[46]⟩ : ByteArray).size : Int) = 1 := rfl
  clear lv ln
  unfold wd
  go_enter Tryd.func34, Tryd.ntmps34
  go_wp2_with fail
  have hb0 : Below w.heap.size w (w.alloc (wdO v n 0)) := (Below.refl _ _).alloc (Nat.le_refl _) _
  have HB1 := Lib.hid hb0
  have X1 := Lib.hid (show WBox (w.alloc (wdO v n 0)) w.heap.size v n 0 from WBox.new)
  clear hb0
  unfold wdO at HB1 X1
  generalize w.alloc (.cells #[.int .i64 v, .int .u32 n, .int .u32 0] 37) = w1 at *
  have x0 := X1.out.c0
  have x1 := X1.out.c1
  have x2 := X1.out.c2
  go_wp2_with fail
  refine (HWH.out w1).mono ?_
  rintro e w2 ⟨rfl, hx⟩
  subst w2
  clear HWH
  go_wp2_with fail
  refine (HNV.out w1).mono ?_
  rintro e w2 ⟨rfl, hb⟩
  have HB2 := Lib.hid (HB1.out.trans (hb.mono HB1.out.size))
  have X2 := Lib.hid (X1.out.below hb)
  clear hb x0 x1 x2 HB1 X1
  have x0 := X2.out.c0
  have x1 := X2.out.c1
  have x2 := X2.out.c2
  go_wp2_with fail
  refine (HNN.out w2).mono ?_
  rintro e w3 ⟨rfl, hb⟩
  have HB3 := Lib.hid (HB2.out.trans (hb.mono HB2.out.size))
  have X3 := Lib.hid (X2.out.below hb)
  clear hb x0 x1 x2 HB2 X2
  have x0 := X3.out.c0
  have x1 := X3.out.c1
  have x2 := X3.out.c2
  go_wp2
  go_ret
  exact ⟨rfl, HB3.out⟩
set_option maxRecDepth 100000 in
set_option maxHeartbeats 12800000 in
theorem rtext_held0 (v n r : Int) (w : World) (h0 : -9223372036854775808 ≤ v) (h1 : v ≤ 9223372036854775807) (h2 : 0 ≤ n) (h3 : n < 4294967296) (h4 : 0 ≤ r) (h5 : r < 4294967296) (hk : kindV r ≠ 2) (hr : r ≠ 0) (hn : n = 0) :
    Calls Tryd.prog 34 #[wd v n r] w fun e w' => e = .returned (.string (bs (txt v n r))) ∧ Below w.heap.size w w' := by
  have HWH := Lib.hid fun W => refWho_any r W h4 h5
  have HNV := Lib.hid fun W => num_any v h0 h1 W
  have HNN := Lib.hid fun W => num_any n (by omega) (by omega) W
  have dl : ∀ k : Nat, k < 4294967296 → (Lib.decDigits k).length ≤ 20 := fun k hk => by rw [Lib.decDigits_length]; exact Lib.nDigits_le20 _ (by omega)
  have lv := Lib.itoa_length_le v h0 h1
  have ln := dl n.toNat (by omega)
  have en : Lib.itoa n = Lib.decDigits n.toNat := by unfold Lib.itoa; rw [if_neg (by omega)]
  rw [en] at HNN
  have hnb : (n == 0) = true := beq_iff_eq.2 hn
  have hnc : (n != 0) = false := by rw [bne, hnb]; rfl
  clear hn
  obtain ⟨_, hk1, hwp⟩ := (kind_cases hk).resolve_left hr
  have hA0 : 0 ≤ whoA r ∧ whoA r ≤ 72 ∧ 0 ≤ whoB r ∧ whoB r < 4294967296 := by obtain ⟨ho, _⟩ := who_pos hwp; unfold wOk at ho; omega
  have la := dl (whoA r).toNat (by omega)
  have lb := dl (whoB r).toNat (by omega)
  have HNA := Lib.hid fun W => num_any (whoA r) (by omega) (by omega) W
  have HNB := Lib.hid fun W => num_any (whoB r) (by omega) (by omega) W
  rw [show Lib.itoa (whoA r) = Lib.decDigits (whoA r).toNat by unfold Lib.itoa; rw [if_neg (by omega)]] at HNA
  rw [show Lib.itoa (whoB r) = Lib.decDigits (whoB r).toNat by unfold Lib.itoa; rw [if_neg (by omega)]] at HNB
  rw [show txt v n r = (Lib.itoa v ++ 46 :: Lib.decDigits n.toNat) ++ 35 :: (Lib.decDigits (whoA r).toNat ++ 58 :: Lib.decDigits (whoB r).toNat) by unfold txt; rw [hk1, if_neg (by decide), if_pos (Or.inr rfl), if_pos rfl]]
  have hrb : (r == 0) = false := beq_eq_false_iff_ne.2 hr
  have hrc : (r != 0) = true := by rw [bne, hrb]; rfl
  have hab : (whoA r == 0) = false := beq_eq_false_iff_ne.2 (by omega)
  have had : ¬ whoA r = 0 := by omega
  have hwn : IntKind.i64.wrap n = n := by simp [IntKind.wrap, IntKind.bits, IntKind.signed]; omega
  clear dl en hk hk1 hwp hA0 h0 h1 h4 h5
  generalize Lib.itoa v = T at *
  generalize Lib.decDigits n.toNat = D at *
  generalize Lib.decDigits (whoA r).toNat = A at *
  generalize Lib.decDigits (whoB r).toNat = B at *
  generalize whoA r = wa at *
  generalize whoB r = wb at *
  rw [show (T ++ 46 :: D) ++ 35 :: (A ++ 58 :: B) = (((((T ++ [46]) ++ D) ++ [35]) ++ A) ++ [58]) ++ B by simp]
  have c1 := fun W => add_bs T [46] (by simp; omega) W
  have c2 := fun W => add_bs (T ++ [46]) D (by simp; omega) W
  have c3 := fun W => add_bs ((T ++ [46]) ++ D) [35] (by simp; omega) W
  have c4 := fun W => add_bs (((T ++ [46]) ++ D) ++ [35]) A (by simp; omega) W
  have c5 := fun W => add_bs ((((T ++ [46]) ++ D) ++ [35]) ++ A) [58] (by simp; omega) W
  have c6 := fun W => add_bs (((((T ++ [46]) ++ D) ++ [35]) ++ A) ++ [58]) B (by simp; omega) W
  clear la lb lv ln
  generalize (((((T ++ [46]) ++ D) ++ [35]) ++ A) ++ [58]) ++ B = M6 at *
  generalize ((((T ++ [46]) ++ D) ++ [35]) ++ A) ++ [58] = M5 at *
  generalize (((T ++ [46]) ++ D) ++ [35]) ++ A = M4 at *
  generalize ((T ++ [46]) ++ D) ++ [35] = M3 at *
  generalize (T ++ [46]) ++ D = M2 at *
  generalize T ++ [46] = M1 at *
  rw [show bs [46] = (⟨#[46]⟩ : ByteArray) from rfl] at c1
  rw [show bs [35] = (⟨#[35]⟩ : ByteArray) from rfl] at c3
  rw [show bs [58] = (⟨#[58]⟩ : ByteArray) from rfl] at c5
  unfold wd
  go_enter Tryd.func34, Tryd.ntmps34
  go_wp2_with fail
  have hb0 : Below w.heap.size w (w.alloc (wdO v n r)) := (Below.refl _ _).alloc (Nat.le_refl _) _
  have HB1 := Lib.hid hb0
  have X1 := Lib.hid (show WBox (w.alloc (wdO v n r)) w.heap.size v n r from WBox.new)
  clear hb0
  unfold wdO at HB1 X1
  generalize w.alloc (.cells #[.int .i64 v, .int .u32 n, .int .u32 r] 37) = w1 at *
  have x0 := X1.out.c0
  have x1 := X1.out.c1
  have x2 := X1.out.c2
  go_wp2_with fail
  refine (HWH.out w1).mono ?_
  rintro e w2 ⟨rfl, hx⟩
  subst w2
  clear HWH
  go_wp2_with fail
  refine (HNV.out w1).mono ?_
  rintro e w2 ⟨rfl, hb⟩
  have HB2 := Lib.hid (HB1.out.trans (hb.mono HB1.out.size))
  have X2 := Lib.hid (X1.out.below hb)
  clear hb x0 x1 x2 HB1 X1
  have x0 := X2.out.c0
  have x1 := X2.out.c1
  have x2 := X2.out.c2
  go_wp2_with fail
  refine (HNN.out w2).mono ?_
  rintro e w3 ⟨rfl, hb⟩
  have HB3 := Lib.hid (HB2.out.trans (hb.mono HB2.out.size))
  have X3 := Lib.hid (X2.out.below hb)
  clear hb x0 x1 x2 HB2 X2
  have x0 := X3.out.c0
  have x1 := X3.out.c1
  have x2 := X3.out.c2
  go_wp2_with fail
  refine (HNA.out w3).mono ?_
  rintro e w4 ⟨rfl, hb⟩
  have HB4 := Lib.hid (HB3.out.trans (hb.mono HB3.out.size))
  have X4 := Lib.hid (X3.out.below hb)
  clear hb x0 x1 x2 HB3 X3
  have x0 := X4.out.c0
  have x1 := X4.out.c1
  have x2 := X4.out.c2
  go_wp2_with fail
  refine (HNB.out w4).mono ?_
  rintro e w5 ⟨rfl, hb⟩
  have HB5 := Lib.hid (HB4.out.trans (hb.mono HB4.out.size))
  have X5 := Lib.hid (X4.out.below hb)
  clear hb x0 x1 x2 HB4 X4
  have x0 := X5.out.c0
  have x1 := X5.out.c1
  have x2 := X5.out.c2
  go_wp2
  go_ret
  exact ⟨rfl, HB5.out⟩
set_option maxRecDepth 100000 in
set_option maxHeartbeats 12800000 in
theorem rtext_held1 (v n r : Int) (w : World) (h0 : -9223372036854775808 ≤ v) (h1 : v ≤ 9223372036854775807) (h2 : 0 ≤ n) (h3 : n < 4294967296) (h4 : 0 ≤ r) (h5 : r < 4294967296) (hk : kindV r ≠ 2) (hr : r ≠ 0) (hn : n ≠ 0) :
    Calls Tryd.prog 34 #[wd v n r] w fun e w' => e = .returned (.string (bs (txt v n r))) ∧ Below w.heap.size w w' := by
  have HWH := Lib.hid fun W => refWho_any r W h4 h5
  have HNV := Lib.hid fun W => num_any v h0 h1 W
  have HNN := Lib.hid fun W => num_any n (by omega) (by omega) W
  have dl : ∀ k : Nat, k < 4294967296 → (Lib.decDigits k).length ≤ 20 := fun k hk => by rw [Lib.decDigits_length]; exact Lib.nDigits_le20 _ (by omega)
  have lv := Lib.itoa_length_le v h0 h1
  have ln := dl n.toNat (by omega)
  have en : Lib.itoa n = Lib.decDigits n.toNat := by unfold Lib.itoa; rw [if_neg (by omega)]
  rw [en] at HNN
  have hnb : (n == 0) = false := beq_eq_false_iff_ne.2 hn
  have hnc : (n != 0) = true := by rw [bne, hnb]; rfl
  have hni : ¬ n = 0 := hn
  clear hn
  obtain ⟨_, hk1, hwp⟩ := (kind_cases hk).resolve_left hr
  have hA0 : 0 ≤ whoA r ∧ whoA r ≤ 72 ∧ 0 ≤ whoB r ∧ whoB r < 4294967296 := by obtain ⟨ho, _⟩ := who_pos hwp; unfold wOk at ho; omega
  have la := dl (whoA r).toNat (by omega)
  have lb := dl (whoB r).toNat (by omega)
  have HNA := Lib.hid fun W => num_any (whoA r) (by omega) (by omega) W
  have HNB := Lib.hid fun W => num_any (whoB r) (by omega) (by omega) W
  rw [show Lib.itoa (whoA r) = Lib.decDigits (whoA r).toNat by unfold Lib.itoa; rw [if_neg (by omega)]] at HNA
  rw [show Lib.itoa (whoB r) = Lib.decDigits (whoB r).toNat by unfold Lib.itoa; rw [if_neg (by omega)]] at HNB
  rw [show txt v n r = (Lib.itoa v ++ 46 :: Lib.decDigits n.toNat) ++ 35 :: (Lib.decDigits (whoA r).toNat ++ 58 :: Lib.decDigits (whoB r).toNat) by unfold txt; rw [hk1, if_neg (by decide), if_pos (Or.inr rfl), if_pos rfl]]
  have hrb : (r == 0) = false := beq_eq_false_iff_ne.2 hr
  have hrc : (r != 0) = true := by rw [bne, hrb]; rfl
  have hab : (whoA r == 0) = false := beq_eq_false_iff_ne.2 (by omega)
  have had : ¬ whoA r = 0 := by omega
  have hwn : IntKind.i64.wrap n = n := by simp [IntKind.wrap, IntKind.bits, IntKind.signed]; omega
  clear dl en hk hk1 hwp hA0 h0 h1 h4 h5
  generalize Lib.itoa v = T at *
  generalize Lib.decDigits n.toNat = D at *
  generalize Lib.decDigits (whoA r).toNat = A at *
  generalize Lib.decDigits (whoB r).toNat = B at *
  generalize whoA r = wa at *
  generalize whoB r = wb at *
  rw [show (T ++ 46 :: D) ++ 35 :: (A ++ 58 :: B) = (((((T ++ [46]) ++ D) ++ [35]) ++ A) ++ [58]) ++ B by simp]
  have c1 := fun W => add_bs T [46] (by simp; omega) W
  have c2 := fun W => add_bs (T ++ [46]) D (by simp; omega) W
  have c3 := fun W => add_bs ((T ++ [46]) ++ D) [35] (by simp; omega) W
  have c4 := fun W => add_bs (((T ++ [46]) ++ D) ++ [35]) A (by simp; omega) W
  have c5 := fun W => add_bs ((((T ++ [46]) ++ D) ++ [35]) ++ A) [58] (by simp; omega) W
  have c6 := fun W => add_bs (((((T ++ [46]) ++ D) ++ [35]) ++ A) ++ [58]) B (by simp; omega) W
  clear la lb lv ln
  generalize (((((T ++ [46]) ++ D) ++ [35]) ++ A) ++ [58]) ++ B = M6 at *
  generalize ((((T ++ [46]) ++ D) ++ [35]) ++ A) ++ [58] = M5 at *
  generalize (((T ++ [46]) ++ D) ++ [35]) ++ A = M4 at *
  generalize ((T ++ [46]) ++ D) ++ [35] = M3 at *
  generalize (T ++ [46]) ++ D = M2 at *
  generalize T ++ [46] = M1 at *
  rw [show bs [46] = (⟨#[46]⟩ : ByteArray) from rfl] at c1
  rw [show bs [35] = (⟨#[35]⟩ : ByteArray) from rfl] at c3
  rw [show bs [58] = (⟨#[58]⟩ : ByteArray) from rfl] at c5
  unfold wd
  go_enter Tryd.func34, Tryd.ntmps34
  go_wp2_with fail
  have hb0 : Below w.heap.size w (w.alloc (wdO v n r)) := (Below.refl _ _).alloc (Nat.le_refl _) _
  have HB1 := Lib.hid hb0
  have X1 := Lib.hid (show WBox (w.alloc (wdO v n r)) w.heap.size v n r from WBox.new)
  clear hb0
  unfold wdO at HB1 X1
  generalize w.alloc (.cells #[.int .i64 v, .int .u32 n, .int .u32 r] 37) = w1 at *
  have x0 := X1.out.c0
  have x1 := X1.out.c1
  have x2 := X1.out.c2
  go_wp2_with fail
  refine (HWH.out w1).mono ?_
  rintro e w2 ⟨rfl, hx⟩
  subst w2
  clear HWH
  go_wp2_with fail
  refine (HNV.out w1).mono ?_
  rintro e w2 ⟨rfl, hb⟩
  have HB2 := Lib.hid (HB1.out.trans (hb.mono HB1.out.size))
  have X2 := Lib.hid (X1.out.below hb)
  clear hb x0 x1 x2 HB1 X1
  have x0 := X2.out.c0
  have x1 := X2.out.c1
  have x2 := X2.out.c2
  go_wp2_with fail
  refine (HNN.out w2).mono ?_
  rintro e w3 ⟨rfl, hb⟩
  have HB3 := Lib.hid (HB2.out.trans (hb.mono HB2.out.size))
  have X3 := Lib.hid (X2.out.below hb)
  clear hb x0 x1 x2 HB2 X2
  have x0 := X3.out.c0
  have x1 := X3.out.c1
  have x2 := X3.out.c2
  go_wp2_with fail
  refine (HNA.out w3).mono ?_
  rintro e w4 ⟨rfl, hb⟩
  have HB4 := Lib.hid (HB3.out.trans (hb.mono HB3.out.size))
  have X4 := Lib.hid (X3.out.below hb)
  clear hb x0 x1 x2 HB3 X3
  have x0 := X4.out.c0
  have x1 := X4.out.c1
  have x2 := X4.out.c2
  go_wp2_with fail
  refine (HNB.out w4).mono ?_
  rintro e w5 ⟨rfl, hb⟩
  have HB5 := Lib.hid (HB4.out.trans (hb.mono HB4.out.size))
  have X5 := Lib.hid (X4.out.below hb)
  clear hb x0 x1 x2 HB4 X4
  have x0 := X5.out.c0
  have x1 := X5.out.c1
  have x2 := X5.out.c2
  go_wp2
  go_ret
  exact ⟨rfl, HB5.out⟩
theorem rtext_any (v n r : Int) (w : World) (h0 : -9223372036854775808 ≤ v) (h1 : v ≤ 9223372036854775807) (h2 : 0 ≤ n) (h3 : n < 4294967296) (h4 : 0 ≤ r) (h5 : r < 4294967296) :
    Calls Tryd.prog 34 #[wd v n r] w fun e w' => e = .returned (.string (bs (txt v n r))) ∧ Below w.heap.size w w' := by
  by_cases hk : kindV r = 2
  · exact rtext_two v n r w h0 h1 h2 h3 h4 h5 hk
  · by_cases hr : r = 0
    · by_cases hn : n = 0
      · exact rtext_zero0 v n r w h0 h1 h2 h3 h4 h5 hk hr hn
      · exact rtext_zero1 v n r w h0 h1 h2 h3 h4 h5 hk hr hn
    · by_cases hn : n = 0
      · exact rtext_held0 v n r w h0 h1 h2 h3 h4 h5 hk hr hn
      · exact rtext_held1 v n r w h0 h1 h2 h3 h4 h5 hk hr hn
end Go.Proofs.YtilapnejkdgomaaDoor
