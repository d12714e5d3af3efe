/- The walks of the laws EntryMerges, EntryKinds and EntryNone: true. Conditions: the entries' numbers are of their kinds; the table of powers of ten is laid. -/
import Derived.Test.YtilapnejkdgomaaDoorEnJ
set_option linter.unusedVariables false
set_option linter.unusedSimpArgs false
namespace Go.Proofs.YtilapnejkdgomaaDoor
open Go.RowKit

theorem ents_nil (w : World) (S : Nat → Prop) : Ents w S none 0 [] := ⟨rfl, Reads.none_⟩
theorem wrs_app (a b : List Ent) : wrs (a ++ b) = wrs a + wrs b := by unfold wrs; rw [List.filter_append, List.length_append]
/-- A list, turned. -/
def turnE (l : List Ent) (t : Nat) : List Ent := l.drop (t % l.length) ++ l.take (t % l.length)
theorem turnE_wrs (l : List Ent) (t : Nat) : wrs (turnE l t) = wrs l := by
  unfold turnE
  rw [wrs_app, Nat.add_comm, ← wrs_app, List.take_append_drop]
theorem turnE_len (l : List Ent) (t : Nat) : (turnE l t).length = l.length := by
  unfold turnE
  rw [List.length_append, Nat.add_comm, ← List.length_append, List.take_append_drop]
theorem turnE_knd (l : List Ent) (t : Nat) : knd (turnE l t) = knd l := by unfold knd; rw [turnE_wrs, turnE_len]
theorem turnE_at (l : List Ent) (t k : Nat) (hk : k < l.length) : (turnE l t)[k]? = l[(k + t) % l.length]? := by
  have hr : t % l.length < l.length := Nat.mod_lt _ (by omega)
  have e : (k + t) % l.length = (k + t % l.length) % l.length := by rw [Nat.add_mod_mod]
  rw [e]
  unfold turnE
  generalize t % l.length = r at *
  by_cases h : k + r < l.length
  · rw [List.getElem?_append_left (by rw [List.length_drop]; omega), List.getElem?_drop, Nat.mod_eq_of_lt h, Nat.add_comm]
  · rw [List.getElem?_append_right (by rw [List.length_drop]; omega), List.length_drop, List.getElem?_take, if_pos (by omega)]
    have : (k + r) % l.length = k + r - l.length := by rw [Nat.mod_eq_sub_mod (by omega), Nat.mod_eq_of_lt (by omega)]
    rw [this]
    congr 1
    omega
theorem rGo_new {b : List Ent} : ∀ {out : List Ent}, Dst b → (∀ x ∈ b, ∀ y ∈ out, y.loc ≠ x.loc) → rGo out b = out ++ b := by
  induction b with
  | nil => intro out _ _; exact (List.append_nil _).symm
  | cons x t ih =>
    intro out hd hn
    have hd' := List.pairwise_cons.1 hd
    have hp : rPut out x = out ++ [x] := by
      unfold rPut
      rw [if_neg]
      intro h
      obtain ⟨y, hy, he⟩ := List.any_eq_true.1 h
      exact hn x (.head _) y hy (by simpa using he)
    show rGo (rPut out x) t = _
    rw [hp, ih hd'.2 fun z hz y hy => by
      rcases List.mem_append.1 hy with hy | hy
      · exact hn z (.tail _ hz) y hy
      · rw [List.mem_singleton.1 hy]; exact hd'.1 z hz]
    simp
theorem chk0_nil : chk0 [] = 0 := rfl
/-- The list that is composed with the empty one. -/
def oneM (l : List Ent) : List Ent × Int := if chk0 l ≠ 0 then ([], chk0 l) else (srt Ent.loc l, 0)
theorem mrg_nil_right (l : List Ent) : mrg l [] = oneM l := by
  rw [mrg_ref]
  unfold rMrg oneM
  split
  · rfl
  · next h =>
    have hz := chk0_zero (Classical.not_not.1 h)
    rw [if_neg (by rw [chk0_nil]; simp), if_neg (by simp), show rGo l [] = l from rfl, if_neg (by have := hz.2.2; omega)]
theorem mrg_nil_left (l : List Ent) : mrg [] l = oneM l := by
  rw [mrg_ref]
  unfold rMrg oneM
  rw [if_neg (by rw [chk0_nil]; simp)]
  split
  · rfl
  · next h =>
    have hz := chk0_zero (Classical.not_not.1 h)
    have hb : l.any (rBad []) = false := by
      refine Bool.eq_false_iff.2 fun e => ?_
      obtain ⟨x, _, hx⟩ := List.any_eq_true.1 e
      cases hx
    rw [if_neg (by rw [hb]; simp), rGo_new hz.1 (fun x _ y hy => by cases hy), List.nil_append, if_neg (by have := hz.2.2; omega)]
theorem mrg_self {l : List Ent} (hok : ∀ e ∈ l, EntOk e) (h : chk0 l = 0) : ((mrg l l).2 == 14) = decide (0 < wrs l) := by
  have hz := chk0_zero h
  have key : l.any (rBad l) = decide (0 < wrs l) := by
    by_cases hw : 0 < wrs l
    · rw [decide_eq_true hw]
      obtain ⟨x, hx⟩ := List.exists_mem_of_length_pos hw
      obtain ⟨hx, hxw⟩ := List.mem_filter.1 hx
      have hxw : x.wr = true := by simpa using hxw
      refine List.any_eq_true.2 ⟨x, hx, List.any_eq_true.2 ⟨x, hx, ?_⟩⟩
      have ho := (hok x hx).1
      have hn : ¬ leafN x = x.ver := by unfold leafN; rw [if_pos hxw]; omega
      unfold rMis
      rw [decide_eq_false hn]
      simp
    · rw [decide_eq_false hw]
      refine Bool.eq_false_iff.2 fun e => hw ?_
      obtain ⟨x, hx, hb⟩ := List.any_eq_true.1 e
      obtain ⟨y, hy, hb⟩ := List.any_eq_true.1 hb
      unfold rMis at hb
      simp only [Bool.and_eq_true, beq_iff_eq, Bool.not_eq_true', Bool.and_eq_false_iff, decide_eq_false_iff_not] at hb
      have hxy : y = x := by
        obtain ⟨i, hi, rfl⟩ := List.getElem_of_mem hx
        obtain ⟨j, hj, rfl⟩ := List.getElem_of_mem hy
        have hp := List.pairwise_iff_getElem.1 hz.1
        rcases Nat.lt_trichotomy i j with h | h | h
        · exact absurd hb.1.symm (hp i j hi hj h)
        · subst h; rfl
        · exact absurd hb.1 (hp j i hj hi h)
      subst hxy
      have hwr : y.wr = true := by
        refine Classical.byContradiction fun hn => ?_
        have hf : y.wr = false := by simpa using hn
        rcases hb.2 with h | h
        · exact h (by unfold leafV; rw [hf]; simp)
        · exact h (by unfold leafN; rw [hf]; simp)
      exact List.length_pos_of_mem (List.mem_filter.2 ⟨hx, hwr⟩)
  rw [mrg_ref]
  unfold rMrg
  rw [if_neg (by rw [h]; simp), if_neg (by rw [h]; simp), key]
  by_cases hw : 0 < wrs l
  · simp [hw]
  · simp only [hw, decide_false, Bool.false_eq_true, if_false]
    split <;> rfl
theorem mrg_len {a b : List Ent} {n m : Nat} (h1 : n = a.length) (h2 : m = b.length) (hn : n ≤ 60) (hm : m ≤ 60) : (mrg a b).1.length ≤ 200 := by
  rw [mrg_ref]
  unfold rMrg
  split
  · exact Nat.zero_le _
  · split
    · exact Nat.zero_le _
    · split
      · exact Nat.zero_le _
      · split
        · exact Nat.zero_le _
        · have := rGo_length (b := b) (out := a)
          show (srt Ent.loc (rGo a b)).length ≤ 200
          rw [srt_len]
          omega

set_option maxRecDepth 100000 in
set_option maxHeartbeats 12800000 in
theorem merges_any {S T : Nat → Prop} (A B : Option Addr) (n c m d : Nat) (a b : List Ent) (w : World) (ha : Ents w S A n a) (hb : Ents w T B m b) (hoa : ∀ e ∈ a, EntWf e) (hob : ∀ e ∈ b, EntWf e) (hc : n ≤ c) (hd : m ≤ d) (hA : A = none → n = 0 ∧ c = 0) (hB : B = none → m = 0 ∧ d = 0) (hp : Pow w) :
    Calls Tryd.prog 5 #[.slice A n c, .slice B m d] w fun e w' => e = .returned (.bool true) ∧ Below w.heap.size w w' := by
  have HP := Lib.hid hp
  have HB0 := Lib.hid (Below.refl w.heap.size w)
  have AW := Lib.hid (fun W (h : Below w.heap.size w W) => awake_any W (hp.below h))
  clear hp
  by_cases hn : 60 < n
  · have hni : (60 : Int) < (n : Int) := by omega
    clear ha hb hoa hob hc hd hA hB
    go_enter Tryd.func5, Tryd.ntmps5
    go_wp2_with fail
    refine (AW.out _ HB0.out).mono ?_
    rintro e w1 ⟨rfl, hb⟩
    go_wp2
    go_ret
    exact ⟨rfl, hb⟩
  have hni : ¬ (60 : Int) < (n : Int) := by omega
  by_cases hm : 60 < m
  · have hmi : (60 : Int) < (m : Int) := by omega
    clear ha hb hoa hob hc hd hA hB
    go_enter Tryd.func5, Tryd.ntmps5
    go_wp2_with fail
    refine (AW.out _ HB0.out).mono ?_
    rintro e w1 ⟨rfl, hb⟩
    go_wp2
    go_ret
    exact ⟨rfl, hb⟩
  have hmi : ¬ (60 : Int) < (m : Int) := by omega
  have C1 := Lib.hid (merge_any A B n c m d a b w ha hb (fun e he => (hoa e he).1) (fun e he => (hob e he).1) (by omega) hc (by omega) hd hA hB)
  have C2 := Lib.hid (fun W (h : Below w.heap.size w W) => rmerge_any A B n c m d a b W (ha.below h) (hb.below h) (fun e he => (hoa e he).1) (fun e he => (hob e he).1) (by omega) hc (by omega) hd)
  rw [← mrg_ref] at C2
  obtain ⟨R, hR⟩ : ∃ R, R = mrg a b := ⟨_, rfl⟩
  rw [← hR] at C1 C2
  have HRL := Lib.hid (show R.1.length ≤ 200 by rw [hR]; exact mrg_len ha.1 hb.1 (by omega) (by omega))
  obtain ⟨R1, R2⟩ := R
  dsimp only at C1 C2 HRL
  clear ha hb hoa hob hc hd hA hB hn hm hR
  go_enter Tryd.func5, Tryd.ntmps5
  go_wp2_with fail
  refine C1.out.mono ?_
  rintro e w1 ⟨v1, rfl, ho, hb⟩
  have HB1 := Lib.hid hb
  obtain ⟨A1, c1, rfl, he, hcc, hAA⟩ := own_slice ho
  have HE1 := Lib.hid he
  have HC1 := Lib.hid hcc
  clear ho he hcc hAA hb C1
  go_wp2_with fail
  refine (C2.out _ HB1.out).mono ?_
  rintro e w2 ⟨v2, rfl, ho, hb⟩
  have HB2 := Lib.hid (HB1.out.trans (hb.mono HB1.out.size))
  have HE2 := Lib.hid (HE1.out.below hb)
  obtain ⟨A2, c2, rfl, he, hcc, hAA⟩ := own_slice ho
  have HE3 := Lib.hid he
  have HC3 := Lib.hid hcc
  clear ho he hcc hAA hb C2 HE1
  have E1 := Lib.hid (alike_any A1 A2 R1.length c1 R1.length c2 R1 R1 w2 HE2.out HE3.out (by have := HRL.out; omega) (by have := HRL.out; omega) HC1.out HC3.out)
  rw [eqE_self] at E1
  go_wp2_with fail
  refine E1.out.mono ?_
  rintro e w3 ⟨rfl, hb⟩
  have HB3 := Lib.hid (HB2.out.trans (hb.mono HB2.out.size))
  clear hb E1
  go_wp2_with fail
  refine (AW.out _ HB3.out).mono ?_
  rintro e w4 ⟨rfl, hb⟩
  have HB4 := Lib.hid (HB3.out.trans (hb.mono HB3.out.size))
  clear hb
  go_wp2
  go_ret
  exact ⟨by first | rfl | simp, HB4.out⟩
set_option maxRecDepth 100000 in
set_option maxHeartbeats 12800000 in
theorem kinds_any {S : Nat → Prop} (A : Option Addr) (n c : Nat) (l : List Ent) (t : Nat) (w : World) (hl : Ents w S A n l) (hok : ∀ e ∈ l, EntWf e) (hc : n ≤ c) (hA : A = none → n = 0 ∧ c = 0) (ht : t < 256) (hp : Pow w) :
    Calls Tryd.prog 7 #[.slice A n c, .int .u8 (t : Int)] w fun e w' => e = .returned (.bool true) ∧ Below w.heap.size w w' := by
  have HP := Lib.hid hp
  have HB0 := Lib.hid (Below.refl w.heap.size w)
  have AW := Lib.hid (fun W (h : Below w.heap.size w W) => awake_any W (hp.below h))
  clear hp
  by_cases hn : 60 < n
  · have hni : (60 : Int) < (n : Int) := by omega
    clear hl hok hc hA hn ht
    go_enter Tryd.func7, Tryd.ntmps7
    go_wp2_with fail
    refine (AW.out _ HB0.out).mono ?_
    rintro e w1 ⟨rfl, hb⟩
    go_wp2
    go_ret
    exact ⟨rfl, hb⟩
  have hni : ¬ (60 : Int) < (n : Int) := by omega
  have hmax : n ≤ 1099511627776 := by omega
  have HL := Lib.hid hl
  have HLN := Lib.hid hl.1
  have HCC := Lib.hid hc
  have HNN := Lib.hid (show n ≤ 60 by omega)
  have ht0 : (0 : Int) ≤ (t : Int) := by omega
  have ht1 : (t : Int) < 256 := by omega
  have hci : (n : Int) ≤ (c : Int) := by omega
  have HO0 := Lib.hid (show OwnE w w.heap.size (.slice none 0 0) ((turnE l t).take 0) from World.ownsRow_nil _ _ _ _)
  have HTL := Lib.hid (turnE_len l t)
  have HTW := Lib.hid (turnE_wrs l t)
  have HTK := Lib.hid (turnE_knd l t)
  have HTA := Lib.hid (fun k hk => turnE_at l t k hk)
  generalize turnE l t = M at *
  clear hl hok hmax hc hA hn ht
  go_enter Tryd.func7, Tryd.ntmps7
  go_wp2
  go_loopw [5, 14] (fun vv ii wr => ∃ k : Nat, k ≤ n ∧ ii = .int .i64 k ∧ Hid (OwnE wr w.heap.size vv (M.take k)) ∧ Hid (Below w.heap.size w wr)) (fun vv ii _ => n - (intOf ii).toNat)
  case atStart => exact ⟨0, Nat.zero_le _, rfl, HO0, HB0⟩
  case round =>
    clear HO0 HB0
    obtain ⟨k, hk, rfl, HO, HB⟩ := hrel
    obtain ⟨wo, rfl⟩ : ∃ wo : World, wo = wr := ⟨_, rfl⟩
    by_cases hlt : k < n
    · have hlm : (k + t) % n < n := Nat.mod_lt _ (by omega)
      obtain ⟨y, b, o, hy, rfl, hbb, hSb, hcell⟩ := HL.out.at ((k + t) % n) hlm
      have HMS := Lib.hid (show M.take (k + 1) = M.take k ++ [y] by
        have h1 := HTA.out k (by have := HLN.out; omega)
        rw [← HLN.out, hy] at h1
        rw [List.take_add_one, h1]; rfl)
      obtain ⟨f0, f1, f2, f3, f4, f5⟩ := hcell wo HB.out
      have hmod : ((k : Int) + (t : Int)).tmod (n : Int) = (((k + t) % n : Nat) : Int) := by rw [Int.tmod_eq_emod_of_nonneg (by omega)]; simp
      have HI := Lib.hid hlt
      obtain ⟨r, hr⟩ : ∃ r, r = (k + t) % n := ⟨_, rfl⟩
      rw [← hr] at f0 f1 f2 f3 f4 f5 hmod hlm
      have hr1 : (r : Int) < (n : Int) := by omega
      have hi1 : (k : Int) < (n : Int) := by omega
      have hn0 : ¬ (n : Int) = 0 := by omega
      have hn1 : ((n : Int) == 0) = false := beq_eq_false_iff_ne.2 (by omega)
      have HEX := Lib.hid (Ents.box (w := wo) y)
      have HOX := Lib.hid (OwnE.below HO.out (show Below wo.heap.size wo (wo.alloc (entO y)) from (Below.refl _ _).alloc (Nat.le_refl _) _))
      have HSX := Lib.hid (show w.heap.size ≤ (wo.alloc (entO y)).heap.size by have := HB.out.size; simp; omega)
      have HBX := Lib.hid (HB.out.alloc HB.out.size (entO y))
      have HML := Lib.hid (show (M.take k).length ≤ 60 by rw [List.length_take]; have := HNN.out; omega)
      unfold entO at HEX HOX HSX HBX
      clear hr hy hcell hbb hSb hlt
      go_wp2_with (at_builtin; refine ap_any rfl (.tmp 17) (.tmp 28) rfl w.heap.size _ (M.take k) rfl HOX.out _ _ _ _ _ rfl HEX.out (by have := HML.out; omega) HSX.out ?_)
      intro v1 w1 ho hg hv
      have HB1 := Lib.hid (HBX.out.grown hg HSX.out (fun k h => (HOX.out.lt k h).1))
      have HO1 := Lib.hid ho
      clear ho hg hv f0 f1 f2 f3 f4 f5 hmod
      go_wp2
      go_roundw
      case rel => exact ⟨k + 1, by have := HI.out; omega, by go_num, Lib.hid (by rw [HMS.out]; exact HO1.out), HB1⟩
      case measure => have := HI.out; simp [intOf]; omega
    · have hkn : ¬ ((k : Int) < (n : Int)) := by omega
      have hall : M.take k = M := List.take_of_length_le (by have := HTL.out; have := HLN.out; omega)
      rw [hall] at HO
      obtain ⟨A1, c1, rfl, he, hcc, hAA⟩ := own_slice HO.out
      rw [HTL.out, ← HLN.out] at he hcc
      have HE1 := Lib.hid he
      have HC1 := Lib.hid hcc
      rw [HTL.out, ← HLN.out]
      have W1 := Lib.hid (fun W (h : Below w.heap.size w W) => writes_any A n c l W (HL.out.below h) (by have := HNN.out; omega))
      have K1 := Lib.hid (fun W (h : Below w.heap.size w W) => kindE_any A n c l W (HL.out.below h) (by have := HNN.out; omega))
      have R1 := Lib.hid (fun W (h : Below w.heap.size w W) => rkind_any A n c l W (HL.out.below h) (by have := HNN.out; omega))
      have R2 := Lib.hid (fun W (h : Below w.heap.size w W) => rwrites_any A n c l W (HL.out.below h) (by have := HNN.out; omega))
      have K2 := Lib.hid (fun W (h : Below wo.heap.size wo W) => kindE_any A1 n c1 M W (HE1.out.below h) (by have := HNN.out; omega))
      have W2 := Lib.hid (fun W (h : Below wo.heap.size wo W) => writes_any A1 n c1 M W (HE1.out.below h) (by have := HNN.out; omega))
      rw [HTK.out] at K2
      rw [HTW.out] at W2
      have HQ := Lib.hid (show (wrs l : Int) ≤ 60 by have := wrs_le l; have := HLN.out; have := HNN.out; omega)
      generalize knd l = kd at *
      generalize wrs l = q at *
      clear he hcc hAA hall hk hlt HO
      have HK := Lib.hid (Below.refl wo.heap.size wo)
      go_wp2_with fail
      refine (W1.out _ HB.out).mono ?_
      rintro e w1 ⟨rfl, hb⟩
      have HB1 := Lib.hid (HB.out.trans (hb.mono HB.out.size))
      have HK1 := Lib.hid (HK.out.trans (hb.mono HK.out.size))
      clear hb
      go_wp2_with fail
      refine (K1.out _ HB1.out).mono ?_
      rintro e w2 ⟨rfl, hb⟩
      have HB2 := Lib.hid (HB1.out.trans (hb.mono HB1.out.size))
      have HK2 := Lib.hid (HK1.out.trans (hb.mono HK1.out.size))
      clear hb
      go_wp2_with fail
      refine (R1.out _ HB2.out).mono ?_
      rintro e w3 ⟨rfl, rfl⟩
      have HB3 := HB2
      have HK3 := HK2
      go_wp2_with fail
      refine (R2.out _ HB3.out).mono ?_
      rintro e w4 ⟨rfl, rfl⟩
      have HB4 := HB3
      have HK4 := HK3
      go_wp2_with fail
      refine (K2.out _ HK4.out).mono ?_
      rintro e w5 ⟨rfl, hb⟩
      have HB5 := Lib.hid (HB4.out.trans (hb.mono HB4.out.size))
      have HK5 := Lib.hid (HK4.out.trans (hb.mono HK4.out.size))
      clear hb
      go_wp2_with fail
      refine (R1.out _ HB5.out).mono ?_
      rintro e w6 ⟨rfl, rfl⟩
      have HB6 := HB5
      have HK6 := HK5
      go_wp2_with fail
      refine (W2.out _ HK6.out).mono ?_
      rintro e w7 ⟨rfl, hb⟩
      have HB7 := Lib.hid (HB6.out.trans (hb.mono HB6.out.size))
      have HK7 := Lib.hid (HK6.out.trans (hb.mono HK6.out.size))
      clear hb
      go_wp2_with fail
      refine (AW.out _ HB7.out).mono ?_
      rintro e w8 ⟨rfl, hb⟩
      have HB8 := Lib.hid (HB7.out.trans (hb.mono HB7.out.size))
      clear hb
      go_wp2
      go_ret
      exact ⟨by first | rfl | simp, HB8.out⟩
theorem bounds_u8 {n : Int} (h : (Lit.int .u8 n).wf = true) : 0 ≤ n ∧ n < 256 := by
  simp [Lit.wf, IntKind.min, IntKind.max, IntKind.bits, IntKind.signed] at h
  omega
theorem kinds_lift {S : Nat → Prop} (A : Option Addr) (n c : Nat) (l : List Ent) (t : Int) (w : World) (hl : Ents w S A n l) (hok : ∀ e ∈ l, EntWf e) (hc : n ≤ c) (hA : A = none → n = 0 ∧ c = 0) (ht : 0 ≤ t ∧ t < 256) (hp : Pow w) :
    Calls Tryd.prog 7 #[.slice A n c, .int .u8 t] w fun e w' => e = .returned (.bool true) ∧ Below w.heap.size w w' := by
  have h := kinds_any A n c l t.toNat w hl hok hc hA (by omega) hp
  rwa [show ((t.toNat : Nat) : Int) = t by omega] at h
end Go.Proofs.YtilapnejkdgomaaDoor
