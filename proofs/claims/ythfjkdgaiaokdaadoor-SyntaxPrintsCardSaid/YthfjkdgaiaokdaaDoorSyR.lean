/- The walk of the reference's number: a number's decimal form (by wip/mksyr.py). Condition: it is not negative. -/
import Derived.Test.YthfjkdgaiaokdaaDoorSyG
import Derived.Test.YthfjkdgaiaokdaaDoorSxY
set_option linter.unusedVariables false
set_option linter.unusedSimpArgs false
namespace Go.Proofs.YthfjkdgaiaokdaaDoor
open Go.RowKit

theorem ofN (k : Nat) (h : k < 10) : (UInt8.ofNat (48 + k)).toNat = 48 + k := by rw [UInt8.toNat_ofNat']; omega
theorem dd_big {n : Nat} (h : ¬ n < 10) : Lib.decDigits n = Lib.decDigits (n / 10) ++ [UInt8.ofNat (48 + n % 10)] := by
  conv => lhs; rw [Lib.decDigits]
  rw [dif_neg h]
theorem dd_small {n : Nat} (h : n < 10) : Lib.decDigits n = [UInt8.ofNat (48 + n)] := by rw [Lib.decDigits, dif_pos h]
theorem bs_join (a b : List UInt8) : bs a ++ bs b = bs (a ++ b) := by
  rw [← bs_eta (bs a ++ bs b)]
  congr 1
/-- A string out of a slice of one byte. -/
theorem conv_at (W : World) (g : Nat) (b : UInt8) (v : Int) (hv : v = (b.toNat : Int)) (h : W.cell? ⟨g, 0, none⟩ = some (.int .u8 v)) : (convert 61 9 (.slice (some ⟨g, 0, none⟩) 1 1)).run Tryd.prog W = .ok (.string (bs [b])) W := by
  subst hv
  exact run_convert_bytes_back W 61 9 5 ⟨g, 0, none⟩ 1 [b] Tryd.underlying61 Tryd.underlying5 Tryd.underlying9 (fun j hj => by
    obtain rfl : j = 0 := by simp at hj; omega
    exact h)
theorem conv_new (W : World) (b : UInt8) (v : Int) (hv : v = (b.toNat : Int)) : (convert 61 9 (.slice (some ⟨W.heap.size, 0, none⟩) 1 1)).run Tryd.prog (W.alloc (.cells #[.int .u8 v] 5)) = .ok (.string (bs [b])) (W.alloc (.cells #[.int .u8 v] 5)) :=
  conv_at _ _ b v hv (by rw [cell_of_row _ _ _ _ _ _ (heap_alloc_new W (.cells #[.int .u8 v] 5))]; rfl)
set_option maxRecDepth 100000 in
set_option maxHeartbeats 12800000 in
theorem num_small (n : Nat) (h : n < 10) (w : World) :
    Calls Tryd.prog 47 #[.int .i64 n] w fun e w' => e = .returned (.string (bs (Lib.decDigits n))) ∧ Below w.heap.size w w' := by
  rw [dd_small h]
  have hcv := conv_new w (UInt8.ofNat (48 + n)) (48 + (n : Int)) (by rw [ofN n h]; omega)
  have w2 : IntKind.u8.wrap (48 + (n : Int)) = 48 + (n : Int) := by simp [IntKind.wrap, IntKind.bits, IntKind.signed]; omega
  have hn0 : ¬ (n : Int) = -9223372036854775808 := by omega
  have hn1 : ¬ (n : Int) < 0 := by omega
  have hn2 : (n : Int) < 10 := by omega
  clear h
  generalize UInt8.ofNat (48 + n) = b at *
  go_enter Tryd.func47, Tryd.ntmps47
  go_wp2
  go_ret
  exact ⟨rfl, (Below.refl _ _).alloc (Nat.le_refl _) _⟩

set_option maxRecDepth 100000 in
set_option maxHeartbeats 12800000 in
theorem num_nat (n : Nat) : ∀ (hn : n ≤ 9223372036854775807) (w : World),
    Calls Tryd.prog 47 #[.int .i64 n] w fun e w' => e = .returned (.string (bs (Lib.decDigits n))) ∧ Below w.heap.size w w' := by
  induction n using Nat.strongRecOn with
  | _ n ih =>
    intro hn w
    by_cases h : n < 10
    · exact num_small n h w
    · have IH := Lib.hid (ih (n / 10) (by omega) (by omega))
      have hl : (Lib.decDigits (n / 10)).length ≤ 20 := by rw [Lib.decDigits_length]; exact Lib.nDigits_le20 _ (by omega)
      have hb : (UInt8.ofNat (48 + n % 10)).toNat = 48 + n % 10 := ofN _ (by omega)
      have hd : (n : Int).tdiv 10 = ((n / 10 : Nat) : Int) := by rw [Int.tdiv_eq_ediv_of_nonneg (by omega)]; omega
      have hm : (n : Int).tmod 10 = ((n % 10 : Nat) : Int) := by rw [Int.tmod_eq_emod_of_nonneg (by omega)]; omega
      have hr : n % 10 < 10 := by omega
      rw [dd_big h]
      have hn0 : ¬ (n : Int) = -9223372036854775808 := by omega
      have hn1 : ¬ (n : Int) < 0 := by omega
      have hn2 : ¬ (n : Int) < 10 := by omega
      have hqb : n / 10 ≤ 922337203685477580 := by omega
      clear ih h hn
      generalize Lib.decDigits (n / 10) = T at *
      generalize UInt8.ofNat (48 + n % 10) = b at *
      generalize n % 10 = r at *
      generalize n / 10 = q at *
      have w1 : IntKind.i64.wrap (48 + (r : Int)) = 48 + (r : Int) := by simp [IntKind.wrap, IntKind.bits, IntKind.signed]; omega
      have w2 : IntKind.u8.wrap (48 + (r : Int)) = 48 + (r : Int) := by simp [IntKind.wrap, IntKind.bits, IntKind.signed]; omega
      have hv : 48 + (r : Int) = (b.toNat : Int) := by omega
      have HV := Lib.hid hv
      have hcat := bs_join T [b]
      have hs1 : ((bs T).size : Int) ≤ 20 := by rw [bs_size]; omega
      have hs2 : (bs [b]).size = 1 := rfl
      have hwq : IntKind.i64.wrap (q : Int) = (q : Int) := by simp [IntKind.wrap, IntKind.bits, IntKind.signed]; omega
      have hsn : ¬ 9223372036854775807 < (bs T).size + 1 := by omega
      clear hqb
      have hbr : r ≤ 9 := by omega
      clear hb hr hl hv
      go_enter Tryd.func47, Tryd.ntmps47
      go_wp2_with fail
      refine wp_region_held_drew (S := fun _ => True) (by kernel_rfl) trivial (fun hHeld => ?_)
      have H0 := Lib.hid (show Below w.heap.size w w.drew from (Below.refl _ _).drew)
      clear hHeld
      generalize w.drew = w0 at *
      refine wpAnyH_take (i := 0) (oi := ⟨some 10, _, _, _, _, _⟩) (v := .int .i64 n) rfl (by kernel_rfl) (by kernel_rfl) (by kernel_rfl) (fun _ _ _ h => h) (Or.inl ⟨by rfl, ?_⟩) trivial ?_
      · intro W' hW
        go_simp
      try simp only [Act.put, List.setIfInBounds_toArray, List.set_cons_zero, List.set_cons_succ]
      refine wpAnyH_take (i := 1) (oi := ⟨some 11, _, _, _, _, _⟩) (v := .int .i64 q) rfl (by kernel_rfl) (by kernel_rfl) (by kernel_rfl) (fun _ _ _ h => h) (Or.inl ⟨by rfl, ?_⟩) trivial ?_
      · intro W' hW
        go_simp
      try simp only [Act.put, List.setIfInBounds_toArray, List.set_cons_zero, List.set_cons_succ]
      refine wpAnyH_take (i := 3) (oi := ⟨some 13, _, _, _, _, _⟩) (v := .int .i64 n) rfl (by kernel_rfl) (by kernel_rfl) (by kernel_rfl) (fun _ _ _ h => h) (Or.inl ⟨by rfl, ?_⟩) trivial ?_
      · intro W' hW
        go_simp
      try simp only [Act.put, List.setIfInBounds_toArray, List.set_cons_zero, List.set_cons_succ]
      refine wpAnyH_take (i := 4) (oi := ⟨some 14, _, _, _, _, _⟩) (v := .int .i64 r) rfl (by kernel_rfl) (by kernel_rfl) (by kernel_rfl) (fun _ _ _ h => h) (Or.inl ⟨by rfl, ?_⟩) trivial ?_
      · intro W' hW
        go_simp
      try simp only [Act.put, List.setIfInBounds_toArray, List.set_cons_zero, List.set_cons_succ]
      refine wpAnyH_take (i := 5) (oi := ⟨some 15, _, _, _, _, _⟩) (v := .int .i64 (48 + (r : Int))) rfl (by kernel_rfl) (by kernel_rfl) (by kernel_rfl) (fun _ _ _ h => h) (Or.inl ⟨by rfl, ?_⟩) trivial ?_
      · intro W' hW
        go_simp
      try simp only [Act.put, List.setIfInBounds_toArray, List.set_cons_zero, List.set_cons_succ]
      refine wpAnyH_take (i := 6) (oi := ⟨some 16, _, _, _, _, _⟩) (v := .int .u8 (48 + (r : Int))) rfl (by kernel_rfl) (by kernel_rfl) (by kernel_rfl) (fun _ _ _ h => h) (Or.inl ⟨by rfl, ?_⟩) trivial ?_
      · intro W' hW
        go_simp
      try simp only [Act.put, List.setIfInBounds_toArray, List.set_cons_zero, List.set_cons_succ]
      refine wpAnyH_ready (rs := [2, 7]) (by kernel_rfl) (by simp) ?_
      refine AllReadyH.cons (o := ⟨some 12, _, _, _, _, _⟩) rfl (fun K hK => ?_) (AllReadyH.cons (o := ⟨some 17, _, _, _, _, _⟩) rfl (fun K hK => ?_) (AllReadyH.nil))
      · skip
        go_simp
        refine (IH.out w0).mono ?_
        rintro e w1 ⟨rfl, hb⟩
        have H1 := Lib.hid (H0.out.trans (hb.mono H0.out.size))
        refine hK.out _ _ trivial (fun hHeldq => ?_)
        clear hK hHeldq
        try simp only [Act.put, List.setIfInBounds_toArray, List.set_cons_zero, List.set_cons_succ]
        refine wpAnyH_ready (rs := [7]) (by kernel_rfl) (by simp) ?_
        refine AllReadyH.cons (o := ⟨some 17, _, _, _, _, _⟩) rfl (fun K hK => ?_) (AllReadyH.nil)
        go_simp
        have hbb : Below w1.heap.size w1 (w1.alloc (.cells #[.int .u8 (48 + (r : Int))] 5)) := (Below.refl _ _).alloc (Nat.le_refl _) _
        have H2 := Lib.hid (H1.out.trans (hbb.mono H1.out.size))
        have X2 := Lib.hid (show (w1.alloc (.cells #[.int .u8 (48 + (r : Int))] 5)).cell? ⟨w1.heap.size, 0, none⟩ = some (.int .u8 (48 + (r : Int))) by rw [cell_of_row _ _ _ _ _ _ (heap_alloc_new w1 (.cells #[.int .u8 (48 + (r : Int))] 5))]; rfl)
        generalize w1.alloc (.cells #[.int .u8 (48 + (r : Int))] 5) = w2 at *
        skip
        clear hbb
        refine hK.out _ _ trivial (fun hHeldq => ?_)
        clear hK hHeldq
        try simp only [Act.put, List.setIfInBounds_toArray, List.set_cons_zero, List.set_cons_succ]
        refine wpAnyH_ready (rs := [8]) (by kernel_rfl) (by simp) ?_
        refine AllReadyH.cons (o := ⟨some 18, _, _, _, _, _⟩) rfl (fun K hK => ?_) (AllReadyH.nil)
        have hcv := conv_at w2 w1.heap.size b _ HV.out X2.out
        go_simp
        clear hcv
        refine hK.out _ _ trivial (fun hHeldq => ?_)
        clear hK hHeldq
        try simp only [Act.put, List.setIfInBounds_toArray, List.set_cons_zero, List.set_cons_succ]
        refine wpAnyH_ready (rs := [9]) (by kernel_rfl) (by simp) ?_
        refine AllReadyH.cons (o := ⟨some 19, _, _, _, _, _⟩) rfl (fun K hK => ?_) (AllReadyH.nil)
        go_simp
        refine hK.out _ _ trivial (fun hHeldq => ?_)
        clear hK hHeldq
        try simp only [Act.put, List.setIfInBounds_toArray, List.set_cons_zero, List.set_cons_succ]
        refine wpAnyH_ready (rs := [10]) (by kernel_rfl) (by simp) ?_
        refine AllReadyH.cons (o := ⟨some 2, _, _, _, _, _⟩) rfl (fun K hK => ?_) (AllReadyH.nil)
        go_simp
        refine hK.out _ _ trivial (fun hHeldq => ?_)
        clear hK hHeldq
        try simp only [Act.put, List.setIfInBounds_toArray, List.set_cons_zero, List.set_cons_succ]
        refine wpAnyH_done (by kernel_rfl) ?_ _
        go_wp2
        go_ret
        exact ⟨rfl, H2.out⟩
      · skip
        go_simp
        have hbb : Below w0.heap.size w0 (w0.alloc (.cells #[.int .u8 (48 + (r : Int))] 5)) := (Below.refl _ _).alloc (Nat.le_refl _) _
        have H1 := Lib.hid (H0.out.trans (hbb.mono H0.out.size))
        have X1 := Lib.hid (show (w0.alloc (.cells #[.int .u8 (48 + (r : Int))] 5)).cell? ⟨w0.heap.size, 0, none⟩ = some (.int .u8 (48 + (r : Int))) by rw [cell_of_row _ _ _ _ _ _ (heap_alloc_new w0 (.cells #[.int .u8 (48 + (r : Int))] 5))]; rfl)
        generalize w0.alloc (.cells #[.int .u8 (48 + (r : Int))] 5) = w1 at *
        skip
        clear hbb
        have XL := Lib.hid (World.block_lt_of_cell? _ _ X1.out)
        refine hK.out _ _ trivial (fun hHeldq => ?_)
        clear hK hHeldq
        try simp only [Act.put, List.setIfInBounds_toArray, List.set_cons_zero, List.set_cons_succ]
        refine wpAnyH_ready (rs := [2, 8]) (by kernel_rfl) (by simp) ?_
        refine AllReadyH.cons (o := ⟨some 12, _, _, _, _, _⟩) rfl (fun K hK => ?_) (AllReadyH.cons (o := ⟨some 18, _, _, _, _, _⟩) rfl (fun K hK => ?_) (AllReadyH.nil))
        · skip
          go_simp
          refine (IH.out w1).mono ?_
          rintro e w2 ⟨rfl, hb⟩
          have H2 := Lib.hid (H1.out.trans (hb.mono H1.out.size))
          have X2 := Lib.hid ((hb.cell (p := ⟨w0.heap.size, 0, none⟩) XL.out).trans X1.out)
          refine hK.out _ _ trivial (fun hHeldq => ?_)
          clear hK hHeldq
          try simp only [Act.put, List.setIfInBounds_toArray, List.set_cons_zero, List.set_cons_succ]
          refine wpAnyH_ready (rs := [8]) (by kernel_rfl) (by simp) ?_
          refine AllReadyH.cons (o := ⟨some 18, _, _, _, _, _⟩) rfl (fun K hK => ?_) (AllReadyH.nil)
          have hcv := conv_at w2 w0.heap.size b _ HV.out X2.out
          go_simp
          clear hcv
          refine hK.out _ _ trivial (fun hHeldq => ?_)
          clear hK hHeldq
          try simp only [Act.put, List.setIfInBounds_toArray, List.set_cons_zero, List.set_cons_succ]
          refine wpAnyH_ready (rs := [9]) (by kernel_rfl) (by simp) ?_
          refine AllReadyH.cons (o := ⟨some 19, _, _, _, _, _⟩) rfl (fun K hK => ?_) (AllReadyH.nil)
          go_simp
          refine hK.out _ _ trivial (fun hHeldq => ?_)
          clear hK hHeldq
          try simp only [Act.put, List.setIfInBounds_toArray, List.set_cons_zero, List.set_cons_succ]
          refine wpAnyH_ready (rs := [10]) (by kernel_rfl) (by simp) ?_
          refine AllReadyH.cons (o := ⟨some 2, _, _, _, _, _⟩) rfl (fun K hK => ?_) (AllReadyH.nil)
          go_simp
          refine hK.out _ _ trivial (fun hHeldq => ?_)
          clear hK hHeldq
          try simp only [Act.put, List.setIfInBounds_toArray, List.set_cons_zero, List.set_cons_succ]
          refine wpAnyH_done (by kernel_rfl) ?_ _
          go_wp2
          go_ret
          exact ⟨rfl, H2.out⟩
        · skip
          have hcv := conv_at w1 w0.heap.size b _ HV.out X1.out
          go_simp
          clear hcv
          refine hK.out _ _ trivial (fun hHeldq => ?_)
          clear hK hHeldq
          try simp only [Act.put, List.setIfInBounds_toArray, List.set_cons_zero, List.set_cons_succ]
          refine wpAnyH_ready (rs := [2]) (by kernel_rfl) (by simp) ?_
          refine AllReadyH.cons (o := ⟨some 12, _, _, _, _, _⟩) rfl (fun K hK => ?_) (AllReadyH.nil)
          go_simp
          refine (IH.out w1).mono ?_
          rintro e w2 ⟨rfl, hb⟩
          have H2 := Lib.hid (H1.out.trans (hb.mono H1.out.size))
          refine hK.out _ _ trivial (fun hHeldq => ?_)
          clear hK hHeldq
          try simp only [Act.put, List.setIfInBounds_toArray, List.set_cons_zero, List.set_cons_succ]
          refine wpAnyH_ready (rs := [9]) (by kernel_rfl) (by simp) ?_
          refine AllReadyH.cons (o := ⟨some 19, _, _, _, _, _⟩) rfl (fun K hK => ?_) (AllReadyH.nil)
          go_simp
          refine hK.out _ _ trivial (fun hHeldq => ?_)
          clear hK hHeldq
          try simp only [Act.put, List.setIfInBounds_toArray, List.set_cons_zero, List.set_cons_succ]
          refine wpAnyH_ready (rs := [10]) (by kernel_rfl) (by simp) ?_
          refine AllReadyH.cons (o := ⟨some 2, _, _, _, _, _⟩) rfl (fun K hK => ?_) (AllReadyH.nil)
          go_simp
          refine hK.out _ _ trivial (fun hHeldq => ?_)
          clear hK hHeldq
          try simp only [Act.put, List.setIfInBounds_toArray, List.set_cons_zero, List.set_cons_succ]
          refine wpAnyH_done (by kernel_rfl) ?_ _
          go_wp2
          go_ret
          exact ⟨rfl, H2.out⟩
theorem itoa_nat (n : Int) (h : 0 ≤ n) : Lib.itoa n = Lib.decDigits n.natAbs := by
  unfold Lib.itoa
  rw [if_neg (by omega), show n.toNat = n.natAbs by omega]
theorem number_any (n : Int) (h0 : 0 ≤ n) (h1 : n ≤ 9223372036854775807) (w : World) : Calls Tryd.prog 47 #[.int .i64 n] w fun e w' => e = .returned (.string (bs (Lib.itoa n))) ∧ Below w.heap.size w w' := by
  obtain ⟨k, rfl⟩ := Int.eq_ofNat_of_zero_le h0
  rw [itoa_nat _ h0]
  exact num_nat k (by omega) w
end Go.Proofs.YthfjkdgaiaokdaaDoor
