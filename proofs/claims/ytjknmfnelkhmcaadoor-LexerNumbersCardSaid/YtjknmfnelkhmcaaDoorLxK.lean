/- Decimal numerals as the lexer reads them; the walk of the law LexerNumbers: true. Condition: the package's tables are laid (LxW). -/
import Derived.Test.YtjknmfnelkhmcaaDoorLxG
import Derived.Lib.ItoaNum
import Derived.Laws.IdiomStrings
set_option linter.unusedVariables false
set_option linter.unusedSimpArgs false
namespace Go.Proofs.YtjknmfnelkhmcaaDoor
open Go.RowKit

theorem dd_small {n : Nat} (h : n < 10) : Lib.decDigits n = [UInt8.ofNat (48 + n)] := by rw [Lib.decDigits, dif_pos h]
theorem dd_big {n : Nat} (h : ¬ n < 10) : Lib.decDigits n = Lib.decDigits (n / 10) ++ [UInt8.ofNat (48 + n % 10)] := by rw [Lib.decDigits, dif_neg h]
theorem dig_of {r : Nat} (h : r < 10) : (UInt8.ofNat (48 + r)).toNat = 48 + r := by
  rw [UInt8.toNat_ofNat']
  omega
theorem dd_all (n : Nat) : (Lib.decDigits n).all digB = true := by
  induction n using Nat.strongRecOn with
  | ind n ih =>
    by_cases h : n < 10
    · rw [dd_small h, List.all_cons]
      unfold digB
      rw [dig_of h]
      simp [digN]
      omega
    · rw [dd_big h, List.all_append, ih (n / 10) (by omega), List.all_cons]
      unfold digB
      rw [dig_of (by omega)]
      simp [digN]
      omega
theorem dd_val (n : Nat) : numV (Lib.decDigits n) = n := by
  induction n using Nat.strongRecOn with
  | ind n ih =>
    unfold numV
    by_cases h : n < 10
    · rw [dd_small h, List.foldl_cons, List.foldl_nil, dig_of h]
      omega
    · have h1 := ih (n / 10) (by omega)
      unfold numV at h1
      rw [dd_big h, List.foldl_append, h1, List.foldl_cons, List.foldl_nil, dig_of (by omega)]
      omega
theorem dd_ne (n : Nat) : Lib.decDigits n ≠ [] := by
  by_cases h : n < 10
  · rw [dd_small h]; simp
  · rw [dd_big h]; simp
theorem dd_head (n : Nat) : 1 ≤ n → (Lib.decDigits n).head? ≠ some 48 := by
  induction n using Nat.strongRecOn with
  | ind n ih =>
    intro h1
    by_cases h : n < 10
    · rw [dd_small h, List.head?_cons]
      intro e
      have e := congrArg UInt8.toNat (Option.some.inj e)
      rw [dig_of h] at e
      have : (48 : UInt8).toNat = 48 := rfl
      omega
    · rw [dd_big h]
      have h2 := ih (n / 10) (by omega) (by omega)
      cases hq : Lib.decDigits (n / 10) with
      | nil => exact absurd hq (dd_ne _)
      | cons b u => rw [hq] at h2; exact h2
theorem dd_len (m : Nat) : ∀ n, n < 10 ^ m → 1 ≤ m → (Lib.decDigits n).length ≤ m := by
  induction m with
  | zero => intro n _ h; omega
  | succ m ih =>
    intro n hn _
    by_cases h : n < 10
    · rw [dd_small h]; simp
    · rw [dd_big h, List.length_append, List.length_singleton]
      have hm : 1 ≤ m := by
        cases m with
        | zero => simp at hn; omega
        | succ m => omega
      have := ih (n / 10) (by rw [Nat.pow_succ] at hn; omega) hm
      omega
theorem dd_numE (n : Nat) : numE (Lib.decDigits n) = if n ≤ 9223372036854775807 then 0 else 3 := by
  unfold numE
  rw [if_pos (dd_all n), dd_val, if_neg]
  rintro ⟨h1, h2⟩
  by_cases h : 1 ≤ n
  · exact dd_head n h h2
  · obtain rfl : n = 0 := by omega
    rw [dd_small (by omega)] at h1
    simp at h1
theorem word_of_all {l : List UInt8} (h : l.all partB = true) : word l = l := by
  unfold word
  induction l with
  | nil => rfl
  | cons a t ih =>
    rw [List.all_cons, Bool.and_eq_true] at h
    rw [List.takeWhile_cons, if_pos h.1, ih h.2]
theorem dig_part {l : List UInt8} (h : l.all digB = true) : l.all partB = true := by
  rw [List.all_eq_true] at *
  intro a ha
  unfold partB partN
  have := h a ha
  unfold digB at this
  rw [this, Bool.or_true]
theorem blank_dig {l : List UInt8} (h : headDig l = true) : blankA false l = 0 := by
  cases l with
  | nil => rfl
  | cons b t =>
    have hb : 48 ≤ b.toNat ∧ b.toNat ≤ 57 := by
      have h : digN b.toNat = true := h
      unfold digN at h
      simpa using h
    have hw : wsB b = false := by
      rw [ws_nat]
      simp
      omega
    have h35 : ¬ b = 35 := by
      intro e
      subst e
      have : (35 : UInt8).toNat = 35 := rfl
      omega
    simp [blankA, hw, h35]
theorem next_dig {l : List UInt8} (h1 : l.all partB = true) (h2 : headDig l = true) : nextT l = (2, l, numE l) := by
  unfold nextT
  rw [word_of_all h1, if_pos h2]
theorem scan_num {l : List UInt8} (h1 : l.all partB = true) (h2 : headDig l = true) (h6 : l.length ≤ 65536) : scanL l = if numE l = 0 then ([⟨2, l, 0⟩, ⟨0, [], l.length⟩], 0, 0) else ([], 0, numE l) := by
  have hne : l ≠ [] := headDig_ne h2
  unfold scanL
  rw [if_neg (by omega)]
  unfold scanR
  rw [blank_dig h2, List.drop_zero, scanG_succ, if_neg hne, next_dig h1 h2]
  dsimp only
  by_cases he : numE l = 0
  · rw [if_neg (by rw [he]; exact fun x => x rfl), if_pos he, List.drop_length]
    cases l with
    | nil => exact absurd rfl hne
    | cons b t => rfl
  · rw [if_pos he, if_neg he]
theorem scan_blank_num {l : List UInt8} (h1 : l.all partB = true) (h2 : headDig l = true) (h6 : l.length < 65536) (he : numE l ≠ 0) : scanL (32 :: l) = ([], 1, numE l) := by
  have hne : l ≠ [] := headDig_ne h2
  have hb : blankA false (32 :: l) = 1 := by
    have : blankA false (32 :: l) = blankA false l + 1 := by simp [blankA, wsB]
    rw [this, blank_dig h2]
  unfold scanL
  rw [if_neg (by simp; omega)]
  unfold scanR
  rw [hb, List.drop_succ_cons, List.drop_zero, scanG_succ, if_neg hne, next_dig h1 h2, if_pos he]
theorem head_dd (n : Nat) (t : List UInt8) : headDig (Lib.decDigits n ++ t) = true := by
  have h := dd_all n
  cases hq : Lib.decDigits n with
  | nil => exact absurd hq (dd_ne n)
  | cons b u =>
    rw [hq, List.all_cons, Bool.and_eq_true] at h
    exact h.1
theorem bs_cat (a b : List UInt8) : bs a ++ bs b = bs (a ++ b) := by
  rw [← bs_eta (bs a ++ bs b)]
  congr 1
/-- A string out of one byte just made. -/
theorem conv_one (w : World) (b : UInt8) (v : Int) (hv : v = (b.toNat : Int)) : (convert 34 9 (.slice (some ⟨w.heap.size, 0, none⟩) 1 1)).run Tryd.prog (w.alloc (.cells #[.int .u8 v] 5)) = .ok (.string (bs [b])) (w.alloc (.cells #[.int .u8 v] 5)) := by
  subst hv
  exact run_convert_bytes_back _ 34 9 5 ⟨w.heap.size, 0, none⟩ 1 [b] Tryd.underlying34 Tryd.underlying5 Tryd.underlying9 (fun j hj => by
    obtain rfl : j = 0 := by simp at hj; omega
    rw [show (⟨w.heap.size, 0, none⟩ : Addr).add 0 = ⟨w.heap.size, 0, none⟩ from rfl, cell_of_row _ _ _ _ _ _ (heap_alloc_new _ _)]
    rfl)
theorem let_of {q : Nat} (h : q < 26) : (UInt8.ofNat (97 + q)).toNat = 97 + q := by
  rw [UInt8.toNat_ofNat']
  omega
theorem numE_let (l : List UInt8) (q : Nat) (h : q < 26) : numE (l ++ [UInt8.ofNat (97 + q)]) = 5 := by
  unfold numE
  rw [if_neg]
  rw [List.all_append, List.all_cons]
  unfold digB
  rw [let_of h]
  simp [digN]
  omega
theorem part_let (l : List UInt8) (q : Nat) (h : q < 26) (hl : l.all digB = true) : (l ++ [UInt8.ofNat (97 + q)]).all partB = true := by
  rw [List.all_append, dig_part hl, List.all_cons]
  unfold partB partN
  rw [let_of h]
  simp [letN]
  omega
theorem numE_zero (n : Nat) : numE (48 :: Lib.decDigits n) = 5 := by
  unfold numE
  rw [if_pos (by rw [List.all_cons, dd_all]; rfl), if_pos ⟨by simp; exact List.length_pos_iff.2 (dd_ne n), rfl⟩]


set_option maxRecDepth 100000 in
set_option maxHeartbeats 12800000 in
theorem nums_ok (n : Nat) (c : Int) (w : World) (hw : LxW w) (hn : n ≤ 18446744073709551615) (hc0 : 0 ≤ c) (hc1 : c ≤ 255)  :
    Calls Tryd.prog 6 #[.int .u64 n, .int .u8 c] w fun e w' => e = .returned (.bool true) ∧ Below w.heap.size w w' := by
  have HW := Lib.hid hw
  have HN := Lib.hid hn
  have hni : (n : Int) ≤ 18446744073709551615 := by omega
  have HLN := Lib.hid (dd_len 20 n (by omega) (by omega))
  clear hw hn
  go_enter Tryd.func6, Tryd.ntmps6
  go_wp2
  go_loopw [5, 6] (fun tx kk wr => ∃ (k : Nat) (t : List UInt8), k ≤ n ∧ kk = .int .u64 k ∧ tx = .string (bs t) ∧ Hid (Lib.decDigits n = Lib.decDigits k ++ t) ∧ Hid (Below w.heap.size w wr)) (fun _ kk _ => (intOf kk).toNat)
  case atStart => exact ⟨n, [], Nat.le_refl _, rfl, rfl, Lib.hid (by simp), Lib.hid (Below.refl _ _)⟩
  case round =>
    obtain ⟨k, t, hkn, rfl, rfl, HD, HB⟩ := hrel
    have hm : ((k : Int)).tmod 10 = ((k % 10 : Nat) : Int) := by rw [Int.tmod_eq_emod_of_nonneg (by omega)]; omega
    have hd : ((k : Int)).tdiv 10 = ((k / 10 : Nat) : Int) := by rw [Int.tdiv_eq_ediv_of_nonneg (by omega)]; omega
    have hr : k % 10 < 10 := by omega
    have HR := Lib.hid hr
    have HKN := Lib.hid hkn
    have hki : (k : Int) ≤ 18446744073709551615 := by have := HN.out; omega
    have hts : t.length ≤ 19 := by have h1 := congrArg List.length HD.out; rw [List.length_append] at h1; have := HLN.out; have := List.length_pos_iff.2 (dd_ne k); omega
    have hsz := bs_size t
    have htsi : (t.length : Int) ≤ 19 := by omega
    generalize hrr : k % 10 = r at *
    have HRR := Lib.hid hrr
    generalize hqq : k / 10 = q2 at *
    have HQQ := Lib.hid hqq
    have hri : (r : Int) < 10 := by omega
    have w1 : IntKind.u64.wrap (48 + (r : Int)) = 48 + (r : Int) := by simp [IntKind.wrap, IntKind.bits, IntKind.signed]; omega
    have w2 : IntKind.u8.wrap (48 + (r : Int)) = 48 + (r : Int) := by simp [IntKind.wrap, IntKind.bits, IntKind.signed]; omega
    have hdn := dig_of hr
    generalize hdx : UInt8.ofNat (48 + r) = dx at *
    have HDX := Lib.hid hdx
    have hcv := conv_one wr dx (48 + (r : Int)) (by rw [hdn]; omega)
    clear hdx hdn
    have hcat : bs [dx] ++ bs t = bs (dx :: t) := bs_cat [dx] t
    have hs1 : (bs [dx]).size = 1 := rfl
    have HBv := Lib.hid (HB.out.alloc HB.out.size (.cells #[.int .u8 (48 + (r : Int))] 5))
    clear hr hkn hrr hqq hts HB
    by_cases h10 : k < 10
    · skip
      have h10i : (k : Int) < 10 := by omega
      have HT := Lib.hid (show dx :: t = Lib.decDigits n by rw [HD.out, dd_small h10, ← HDX.out]; have := HRR.out; rw [show r = k by omega]; rfl)
      rw [HT.out] at hcat
      clear h10 HD HRR HQQ HKN HR
      have HW2 := Lib.hid (HW.out.below HBv.out)
      have HA1 := Lib.hid fun W (h : LxW W) => scan_any (Lib.decDigits n) W h (by have := HLN.out; omega)
      have HA2 := Lib.hid fun W (h : LxW W) => scan_any (48 :: Lib.decDigits n) W h (by have := HLN.out; simp; omega)
      have hq26 : (c % 26).toNat < 26 := by omega
      have hcm : c.tmod 26 = ((c % 26).toNat : Int) := by rw [Int.tmod_eq_emod_of_nonneg hc0]; omega
      generalize (c % 26).toNat = qc at *
      have hqi : (qc : Int) < 26 := by omega
      have w3 : IntKind.u8.wrap (97 + (qc : Int)) = 97 + (qc : Int) := by simp [IntKind.wrap, IntKind.bits, IntKind.signed]; omega
      have HA3 := Lib.hid fun W (h : LxW W) => scan_any (32 :: (Lib.decDigits n ++ [UInt8.ofNat (97 + qc)])) W h (by have := HLN.out; simp; omega)
      rw [scan_num (dig_part (dd_all n)) (by have := head_dd n []; rwa [List.append_nil] at this) (by have := HLN.out; omega), dd_numE] at HA1
      rw [scan_num (dig_part (by rw [List.all_cons, dd_all]; rfl)) (by rfl) (by have := HLN.out; simp; omega), numE_zero, if_neg (by decide)] at HA2
      rw [scan_blank_num (part_let _ _ hq26 (dd_all n)) (head_dd n _) (by have := HLN.out; simp; omega) (by rw [numE_let _ _ hq26]; decide), numE_let _ _ hq26] at HA3
      have hlx : (97 + (qc : Int)) = ((UInt8.ofNat (97 + qc)).toNat : Int) := by rw [let_of hq26]; omega
      have HLX := Lib.hid hlx
      have HTL := Lib.hid (bs_toList (Lib.decDigits n))
      have hts : (bs (Lib.decDigits n)).size ≤ 20 := by rw [bs_size]; exact HLN.out
      have HTS := Lib.hid hts
      clear hlx hq26 hts
      generalize Lib.decDigits n = T at *
      generalize UInt8.ofNat (97 + qc) = x at *
      have hc48 : (⟨#[48]⟩ : ByteArray) ++ bs T = bs (48 :: T) := bs_cat [48] T
      have hc32 : (⟨#[32]⟩ : ByteArray) ++ bs T = bs (32 :: T) := bs_cat [32] T
      have hcx : bs (32 :: T) ++ bs [x] = bs (32 :: (T ++ [x])) := bs_cat (32 :: T) [x]
      have z48 : (⟨#[48]⟩ : ByteArray).size = 1 := rfl
      have z32 : (⟨#[32]⟩ : ByteArray).size = 1 := rfl
      have zT : ((bs T).size : Int) ≤ 20 := by have := HTS.out; omega
      have z32T : ((bs (32 :: T)).size : Int) ≤ 21 := by have := HTS.out; rw [bs_size] at *; simp; omega
      have zx : (bs [x]).size = 1 := rfl
      have htl : (bs T).toList = T := HTL.out
      by_cases hbig : 9223372036854775807 < n
      · skip
        have hbi : (9223372036854775807 : Int) < (n : Int) := by omega
        have hE : (if n ≤ 9223372036854775807 then (0 : Int) else 3) = 3 := if_neg (by omega)
        rw [hE] at HA1
        rw [if_neg (by decide)] at HA1
        clear hbig hE
        go_wp2_with fail
        refine (HA1.out _ HW2.out).mono ?_
        rintro e wa ⟨v1, rfl, ho, hb⟩
        have HBa := Lib.hid (HBv.out.trans (hb.mono HBv.out.size))
        have HWa := Lib.hid (HW2.out.below hb)
        clear hb ho HA1 HBv HW2
        go_wp2_with fail
        refine (HA2.out _ HWa.out).mono ?_
        rintro e wb ⟨v2, rfl, _, hb⟩
        have HBb := Lib.hid (HBa.out.trans (hb.mono HBa.out.size))
        have HWb := Lib.hid (HWa.out.below hb)
        clear hb HA2 HBa HWa
        have hcv2 := conv_one wb x (97 + (qc : Int)) HLX.out
        have HBv := Lib.hid (HBb.out.alloc HBb.out.size (.cells #[.int .u8 (97 + (qc : Int))] 5))
        have HWv := Lib.hid (HWb.out.below ((Below.refl wb.heap.size wb).alloc (Nat.le_refl _) (.cells #[.int .u8 (97 + (qc : Int))] 5)))
        clear HBb HWb
        go_wp2_with fail
        refine (HA3.out _ HWv.out).mono ?_
        rintro e wc ⟨v3, rfl, _, hb⟩
        have HBc := Lib.hid (HBv.out.trans (hb.mono HBv.out.size))
        have HWc := Lib.hid (HWv.out.below hb)
        clear hb HA3 HBv HWv hcv2
        go_wp2_with fail
        refine (awake_any wc HWc.out).mono ?_
        rintro e wz ⟨rfl, hb⟩
        have HBz := Lib.hid (HBc.out.trans (hb.mono HBc.out.size))
        clear hb HBc HWc
        go_wp2
        go_ret
        exact ⟨by first | rfl | simp, HBz.out⟩
      · skip
        have hbi : (n : Int) ≤ 9223372036854775807 := by omega
        have hE : (if n ≤ 9223372036854775807 then (0 : Int) else 3) = 0 := if_pos (by omega)
        rw [hE] at HA1
        rw [if_pos rfl] at HA1
        clear hbig hE
        go_wp2_with fail
        refine (HA1.out _ HW2.out).mono ?_
        rintro e wa ⟨v1, rfl, ho, hb⟩
        have HBa := Lib.hid (HBv.out.trans (hb.mono HBv.out.size))
        have HWa := Lib.hid (HW2.out.below hb)
        obtain ⟨g, c1, rfl, _, _, hc⟩ := toks_at ho (by simp)
        have HC := Lib.hid fun wz (h : Below wa.heap.size wa wz) => (show wz.cell? ⟨g, 0, none⟩ = some (.int .i64 2) ∧ wz.cell? ⟨g, 1, none⟩ = some (.string (bs T)) ∧ wz.cell? ⟨g, 2, none⟩ = some (.int .i64 0) from hc wz h 0 (by simp))
        clear hb ho HA1 HBv HW2 hc
        go_wp2_with fail
        refine (HA2.out _ HWa.out).mono ?_
        rintro e wb ⟨v2, rfl, _, hb⟩
        have HBb := Lib.hid (HBa.out.trans (hb.mono HBa.out.size))
        have HWb := Lib.hid (HWa.out.below hb)
        have HSb := Lib.hid hb
        clear hb HA2 HBa HWa
        have hcv2 := conv_one wb x (97 + (qc : Int)) HLX.out
        have HBv := Lib.hid (HBb.out.alloc HBb.out.size (.cells #[.int .u8 (97 + (qc : Int))] 5))
        have HWv := Lib.hid (HWb.out.below ((Below.refl wb.heap.size wb).alloc (Nat.le_refl _) (.cells #[.int .u8 (97 + (qc : Int))] 5)))
        have HSv := Lib.hid (HSb.out.alloc HSb.out.size (.cells #[.int .u8 (97 + (qc : Int))] 5))
        clear HBb HWb
        go_wp2_with fail
        refine (HA3.out _ HWv.out).mono ?_
        rintro e wc ⟨v3, rfl, _, hb⟩
        have HBc := Lib.hid (HBv.out.trans (hb.mono HBv.out.size))
        have HWc := Lib.hid (HWv.out.below hb)
        have HSc := Lib.hid (HSv.out.trans (hb.mono HSv.out.size))
        clear hb HA3 HBv HWv hcv2
        go_wp2_with fail
        refine (awake_any wc HWc.out).mono ?_
        rintro e wz ⟨rfl, hb⟩
        have HBz := Lib.hid (HBc.out.trans (hb.mono HBc.out.size))
        obtain ⟨t0, t1, _⟩ := HC.out wz (HSc.out.trans (hb.mono HSc.out.size))
        clear hb HBc HWc
        go_wp2
        go_ret
        exact ⟨by first | rfl | simp, HBz.out⟩
    · skip
      have h10i : ¬ (k : Int) < 10 := by omega
      have HN2 := Lib.hid (show Lib.decDigits n = Lib.decDigits q2 ++ (dx :: t) by rw [HD.out, dd_big h10, HRR.out, HQQ.out, List.append_assoc, HDX.out]; rfl)
      have HK3 := Lib.hid (show q2 < k by have := HQQ.out; omega)
      have w5 : IntKind.u64.wrap (q2 : Int) = (q2 : Int) := by have := HK3.out; simp [IntKind.wrap, IntKind.bits, IntKind.signed]; omega
      clear h10 HD
      go_wp2
      go_roundw
      case rel => exact ⟨q2, dx :: t, by have := HK3.out; have := HKN.out; omega, rfl, by rfl, HN2, HBv⟩
      case measure => have := HK3.out; show ((q2 : Int)).toNat < ((k : Int)).toNat; omega
theorem nums_any (n c : Int) (w : World) (hw : LxW w) (hn : 0 ≤ n ∧ n ≤ 18446744073709551615) (hc : 0 ≤ c ∧ c ≤ 255) :
    Calls Tryd.prog 6 #[.int .u64 n, .int .u8 c] w fun e w' => e = .returned (.bool true) ∧ Below w.heap.size w w' := by
  have h := nums_ok n.toNat c w hw (by omega) hc.1 hc.2
  rwa [show (n.toNat : Int) = n by omega] at h
end Go.Proofs.YtjknmfnelkhmcaaDoor
