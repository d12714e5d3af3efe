/- The reference's checkStmt and CheckStmts (printed by wip/gensyd.py). Conditions: names of at most 1000000 bytes; at most 1000000 parts. -/
import Derived.Test.YthfjkdgaiaokdaaDoorSyC
set_option linter.unusedVariables false
set_option linter.unusedSimpArgs false
namespace Go.Proofs.YthfjkdgaiaokdaaDoor
open Go.RowKit

mutual
/-- Short names. -/
def St.Sm : St → Prop
  | .mk _ s _ e b l => s.length ≤ 1000000 ∧ e.Sm ∧ St.Sms b ∧ St.Sms l
def St.Sms : List St → Prop
  | [] => True
  | e :: t => e.Sm ∧ St.Sms t
end
theorem St.Sms_mem : ∀ {l : List St}, St.Sms l → ∀ e ∈ l, e.Sm
  | a :: t, h, e, he => by
    rw [St.Sms] at h
    rcases List.mem_cons.1 he with rfl | he
    · exact h.1
    · exact St.Sms_mem h.2 e he
def RWrongS (e : St) : Prop := ∀ (d : Int) (w : World) (S : Nat → Prop) (cs : List Value), 0 ≤ d → d ≤ 4611686018427387904 → e.Sm → e.size ≤ 1000000 → SV w S e cs →
  Calls Tryd.prog 40 #[.agg cs.toArray, .int .i64 d] w fun e' w' => e' = .returned (.int .i64 (chkS d e)) ∧ Below w.heap.size w w'
def RWrongL (l : List St) : Prop := ∀ (d : Int) (w : World) (S : Nat → Prop) (A : Option Addr) (n c : Nat), 0 ≤ d → d ≤ 4611686018427387904 → St.Sms l → St.sizes l ≤ 1000000 → SL w S A n c l →
  Calls Tryd.prog 22 #[.slice A n c, .int .i64 d] w fun e' w' => e' = .returned (.int .i64 (chkSs d l)) ∧ Below w.heap.size w w'

set_option maxRecDepth 100000 in
set_option maxHeartbeats 12800000 in
theorem rstmt0_mid (s : Str) (n : Int) (x : Ex) (b l : List St) (ihb : RWrongL b) (ihl : RWrongL l) (d : Int) (w : World) (S : Nat → Prop) (cs : List Value) (hd0 : 0 ≤ d) (hd : ¬ 12 < d) (hsm : (St.mk 0 s n x b l).Sm) (hsz : (St.mk 0 s n x b l).size ≤ 1000000) (hx : SV w S (.mk 0 s n x b l) cs) :
    Calls Tryd.prog 40 #[.agg cs.toArray, .int .i64 d] w fun e' w' => e' = .returned (.int .i64 (chkS d (.mk 0 s n x b l))) ∧ Below w.heap.size w w' := by
  rw [St.Sm] at hsm
  rw [St.size] at hsz
  obtain ⟨ex, B, nb, cb, L, nl, cl, rfl, hex, hB, hL⟩ := hx.open_
  obtain ⟨V, hV⟩ : ∃ V, V = chkE 1 x := ⟨_, rfl⟩
  obtain ⟨VB, hVB⟩ : ∃ V, V = chkSs (d + 1) b := ⟨_, rfl⟩
  obtain ⟨VL, hVL⟩ : ∃ V, V = chkSs (d + 1) l := ⟨_, rfl⟩
  obtain ⟨E, hE⟩ : ∃ E, E = chkS d (.mk 0 s n x b l) := ⟨_, rfl⟩
  rw [← hE]
  have HX := Lib.hid (show ∀ v, v ≠ 0 → headS d 0 s n x b.length l.length = v → E = v from fun v h1 h2 => by rw [hE, chkS_head (by rw [h2]; exact h1), h2])
  have HP := Lib.hid (show headS d 0 s n x b.length l.length = 0 → E = if hasX 0 = true ∧ V ≠ 0 then V else if VB ≠ 0 then VB else VL from fun h => by rw [hE, chkS_parts h, ← hV, ← hVB, ← hVL])
  obtain ⟨f, hf⟩ : ∃ f, f = formS 0 s n x nb nl := ⟨_, rfl⟩
  have HH := Lib.hid (headS_cases 0 (by decide) s n x nb nl d hd hf)
  rw [hB.1.1, hL.1.1] at HH
  have KB := Lib.hid (show ∀ W, Below w.heap.size w W → Calls Tryd.prog 22 #[.slice B nb cb, .int .i64 (d + 1)] W fun e' w' => e' = .returned (.int .i64 VB) ∧ Below W.heap.size W w' from fun W h => by rw [hVB]; exact ihb (d + 1) W S B nb cb (by omega) (by omega) hsm.2.2.1 (by omega) (hB.below h))
  have KL := Lib.hid (show ∀ W, Below w.heap.size w W → Calls Tryd.prog 22 #[.slice L nl cl, .int .i64 (d + 1)] W fun e' w' => e' = .returned (.int .i64 VL) ∧ Below W.heap.size W w' from fun W h => by rw [hVL]; exact ihl (d + 1) W S L nl cl (by omega) (by omega) hsm.2.2.2 (by omega) (hL.below h))
  have KV := Lib.hid (show ∀ W, Below w.heap.size w W → Calls Tryd.prog 60 #[.agg ex.toArray, .int .i64 1] W fun e' w' => e' = .returned (.int .i64 V) ∧ Below W.heap.size W w' from fun W h => by rw [hV]; exact rexprWrong_any x 1 W S ex (by decide) (by decide) hsm.2.1 (hex.below h))
  have KS := Lib.hid (fun W => name_any s W hsm.1)
  obtain ⟨QS, hQS⟩ : ∃ q, q = nameOk s := ⟨_, rfl⟩
  rw [← hQS] at HH KS
  clear hV hVB hVL hE hQS
  obtain ⟨ek, en, es, em, a, o⟩ := x
  obtain ⟨A, na, ca, O, no, co, rfl, hA, hO⟩ := hex.open_
  have KE := Lib.hid (fun W => rempty_any ek en es em A na ca O no co a o W hA.1.1 hO.1.1)
  have KX := Lib.hid (show ∀ W, Calls Tryd.prog 58 #[.int .i64 0] W fun e w' => e = .returned (.bool true) ∧ w' = W from fun W => has_any 0 W)
  obtain ⟨q, hq⟩ : ∃ q, q = emptyE (.mk ek en es em a o) := ⟨_, rfl⟩
  rw [← hq] at KE
  unfold formS hasX at hf
  rw [← hq] at hf
  simp only [Ex.kind] at hf
  clear hq
  have HB0 := Lib.hid (show Below w.heap.size w (w.alloc (.cells #[.int .i64 0, .string (bs s), .int .i64 n, .int .i64 ek, .int .i64 en, .string (bs es), .string (bs em), .slice A na ca, .slice O no co, .slice B nb cb, .slice L nl cl] 85)) from (Below.refl _ _).alloc (Nat.le_refl _) _)
  have HF := Lib.hid (show ∀ W, Bz (w.alloc (.cells #[.int .i64 0, .string (bs s), .int .i64 n, .int .i64 ek, .int .i64 en, .string (bs es), .string (bs em), .slice A na ca, .slice O no co, .slice B nb cb, .slice L nl cl] 85)) W → (W.cell? ⟨w.heap.size, 0, none⟩ = some (.int .i64 0) ∧ W.cell? ⟨w.heap.size, 1, none⟩ = some (.string (bs s)) ∧ W.cell? ⟨w.heap.size, 2, none⟩ = some (.int .i64 n) ∧ W.cell? ⟨w.heap.size, 3, none⟩ = some (.int .i64 ek) ∧ W.cell? ⟨w.heap.size, 4, none⟩ = some (.int .i64 en) ∧ W.cell? ⟨w.heap.size, 5, none⟩ = some (.string (bs es)) ∧ W.cell? ⟨w.heap.size, 6, none⟩ = some (.string (bs em)) ∧ W.cell? ⟨w.heap.size, 7, none⟩ = some (.slice A na ca) ∧ W.cell? ⟨w.heap.size, 8, none⟩ = some (.slice O no co) ∧ W.cell? ⟨w.heap.size, 9, none⟩ = some (.slice B nb cb) ∧ W.cell? ⟨w.heap.size, 10, none⟩ = some (.slice L nl cl)) ∧ Below w.heap.size w W from fun W h => ⟨st_cells ((h.b.block _ (lt_alloc w _)).trans (heap_alloc_new w _)), HB0.out.trans (h.b.mono HB0.out.size)⟩)
  have z0 : Bz (w.alloc (.cells #[.int .i64 0, .string (bs s), .int .i64 n, .int .i64 ek, .int .i64 en, .string (bs es), .string (bs em), .slice A na ca, .slice O no co, .slice B nb cb, .slice L nl cl] 85)) (w.alloc (.cells #[.int .i64 0, .string (bs s), .int .i64 n, .int .i64 ek, .int .i64 en, .string (bs es), .string (bs em), .slice A na ca, .slice O no co, .slice B nb cb, .slice L nl cl] 85)) := ⟨Below.refl _ _⟩
  clear hx hex hB hL hA hO ihb ihl hsm hsz HB0
  unfold exC at KV
  unfold stC exC
  simp only [List.cons_append, List.nil_append]
  by_cases qn : n = 0
  rotate_left
  · have qn1 : (n != 0) = true := by simp [qn]
    have HR := Lib.hid (HX.out 5 (by decide) (HH.out.1 (by rw [hf]; simp [qn])))
    clear hf
    go_enter Tryd.func40, Tryd.ntmps40
    go_wp2_with (go_at_call 58; refine (KX.out _).mono ?_; rintro e w1 ⟨rfl, rfl⟩)
    go_ret
    exact ⟨congrArg (fun v => Ending.returned (.int .i64 v)) HR.out.symm, (HF.out _ z0).2⟩
  subst qn
  by_cases ql : nl = 0
  rotate_left
  · have ql1 : 0 < (nl : Int) := by omega
    have ql2 : 0 < nl := by omega
    have HR := Lib.hid (HX.out 5 (by decide) (HH.out.1 (by rw [hf]; simp [ql, ql2])))
    clear hf
    go_enter Tryd.func40, Tryd.ntmps40
    go_wp2_with (go_at_call 58; refine (KX.out _).mono ?_; rintro e w1 ⟨rfl, rfl⟩)
    go_ret
    exact ⟨congrArg (fun v => Ending.returned (.int .i64 v)) HR.out.symm, (HF.out _ z0).2⟩
  subst ql
  by_cases qb : nb = 0
  rotate_left
  · have qb1 : 0 < (nb : Int) := by omega
    have qb2 : 0 < nb := by omega
    have HR := Lib.hid (HX.out 5 (by decide) (HH.out.1 (by rw [hf]; simp [qb, qb2])))
    clear hf
    go_enter Tryd.func40, Tryd.ntmps40
    go_wp2_with (go_at_call 58; refine (KX.out _).mono ?_; rintro e w1 ⟨rfl, rfl⟩)
    go_ret
    exact ⟨congrArg (fun v => Ending.returned (.int .i64 v)) HR.out.symm, (HF.out _ z0).2⟩
  subst qb
  have HFT := Lib.hid (show f = true by rw [hf]; simp [])
  clear hf
  cases QS with
  | false =>
    have HR := Lib.hid (HX.out 16 (by decide) (HH.out.2.1 HFT.out (by decide) rfl))
    go_enter Tryd.func40, Tryd.ntmps40
    go_wp2_with (go_at_call 58; refine (KX.out _).mono ?_; rintro e w1 ⟨rfl, rfl⟩)
    refine (KS.out _).mono ?_
    rintro e w2 ⟨rfl, hb⟩
    have z2 := z0.next hb
    clear hb
    go_wp2
    go_ret
    exact ⟨congrArg (fun v => Ending.returned (.int .i64 v)) HR.out.symm, (HF.out _ z2).2⟩
  | true =>
    have HEP := Lib.hid (HP.out (HH.out.2.2.2 HFT.out (fun _ => rfl) (by omega) (by omega)))
    go_enter Tryd.func40, Tryd.ntmps40
    go_wp2_with (go_at_call 58; refine (KX.out _).mono ?_; rintro e w1 ⟨rfl, rfl⟩)
    refine (KS.out _).mono ?_
    rintro e w2 ⟨rfl, hb⟩
    have z2 := z0.next hb
    clear hb
    obtain ⟨⟨c0, c1, c2, c3, c4, c5, c6, c7, c8, c9, c10⟩, -⟩ := HF.out _ z2
    go_wp2_with (go_at_call 58; refine (KX.out _).mono ?_; rintro e w1 ⟨rfl, rfl⟩)
    refine (KV.out _ (HF.out _ z2).2).mono ?_
    rintro e w5 ⟨rfl, hb⟩
    have z5 := z2.next hb
    clear hb c0 c1 c2 c3 c4 c5 c6 c7 c8 c9 c10 z2
    obtain ⟨⟨c0, c1, c2, c3, c4, c5, c6, c7, c8, c9, c10⟩, -⟩ := HF.out _ z5
    by_cases hv : V = 0
    rotate_left
    · have hv1 : (V != 0) = true := by simp [hv]
      have HR := Lib.hid (show E = V by rw [HEP.out, if_pos ⟨rfl, hv⟩])
      go_wp2
      go_ret
      exact ⟨congrArg (fun v => Ending.returned (.int .i64 v)) HR.out.symm, (HF.out _ z5).2⟩
    have HEP2 := Lib.hid (show E = if VB ≠ 0 then VB else VL by rw [HEP.out, if_neg (fun h => h.2 hv)])
    have hv1 : (V != 0) = false := by simp [hv]
    clear hv
    go_wp2_with fail
    refine (KB.out _ (HF.out _ z5).2).mono ?_
    rintro e w6 ⟨rfl, hb⟩
    have z6 := z5.next hb
    clear hb c0 c1 c2 c3 c4 c5 c6 c7 c8 c9 c10 z5
    obtain ⟨⟨c0, c1, c2, c3, c4, c5, c6, c7, c8, c9, c10⟩, -⟩ := HF.out _ z6
    by_cases hv6 : VB = 0
    rotate_left
    · have hv1' : (VB != 0) = true := by simp [hv6]
      have HR := Lib.hid (show E = VB by rw [HEP2.out, if_pos hv6])
      go_wp2
      go_ret
      exact ⟨congrArg (fun v => Ending.returned (.int .i64 v)) HR.out.symm, (HF.out _ z6).2⟩
    have HEP3 := Lib.hid (show E = VL by rw [HEP2.out, if_neg (fun h => h hv6)])
    have hv1' : (VB != 0) = false := by simp [hv6]
    clear hv6
    go_wp2_with fail
    refine (KL.out _ (HF.out _ z6).2).mono ?_
    rintro e w7 ⟨rfl, hb⟩
    have z7 := z6.next hb
    clear hb c0 c1 c2 c3 c4 c5 c6 c7 c8 c9 c10 z6
    go_wp2
    go_ret
    exact ⟨congrArg (fun v => Ending.returned (.int .i64 v)) HEP3.out.symm, (HF.out _ z7).2⟩

set_option maxRecDepth 100000 in
set_option maxHeartbeats 12800000 in
theorem rstmt1_mid (s : Str) (n : Int) (x : Ex) (b l : List St) (ihb : RWrongL b) (ihl : RWrongL l) (d : Int) (w : World) (S : Nat → Prop) (cs : List Value) (hd0 : 0 ≤ d) (hd : ¬ 12 < d) (hsm : (St.mk 1 s n x b l).Sm) (hsz : (St.mk 1 s n x b l).size ≤ 1000000) (hx : SV w S (.mk 1 s n x b l) cs) :
    Calls Tryd.prog 40 #[.agg cs.toArray, .int .i64 d] w fun e' w' => e' = .returned (.int .i64 (chkS d (.mk 1 s n x b l))) ∧ Below w.heap.size w w' := by
  rw [St.Sm] at hsm
  rw [St.size] at hsz
  obtain ⟨ex, B, nb, cb, L, nl, cl, rfl, hex, hB, hL⟩ := hx.open_
  obtain ⟨V, hV⟩ : ∃ V, V = chkE 1 x := ⟨_, rfl⟩
  obtain ⟨VB, hVB⟩ : ∃ V, V = chkSs (d + 1) b := ⟨_, rfl⟩
  obtain ⟨VL, hVL⟩ : ∃ V, V = chkSs (d + 1) l := ⟨_, rfl⟩
  obtain ⟨E, hE⟩ : ∃ E, E = chkS d (.mk 1 s n x b l) := ⟨_, rfl⟩
  rw [← hE]
  have HX := Lib.hid (show ∀ v, v ≠ 0 → headS d 1 s n x b.length l.length = v → E = v from fun v h1 h2 => by rw [hE, chkS_head (by rw [h2]; exact h1), h2])
  have HP := Lib.hid (show headS d 1 s n x b.length l.length = 0 → E = if hasX 1 = true ∧ V ≠ 0 then V else if VB ≠ 0 then VB else VL from fun h => by rw [hE, chkS_parts h, ← hV, ← hVB, ← hVL])
  obtain ⟨f, hf⟩ : ∃ f, f = formS 1 s n x nb nl := ⟨_, rfl⟩
  have HH := Lib.hid (headS_cases 1 (by decide) s n x nb nl d hd hf)
  rw [hB.1.1, hL.1.1] at HH
  have KB := Lib.hid (show ∀ W, Below w.heap.size w W → Calls Tryd.prog 22 #[.slice B nb cb, .int .i64 (d + 1)] W fun e' w' => e' = .returned (.int .i64 VB) ∧ Below W.heap.size W w' from fun W h => by rw [hVB]; exact ihb (d + 1) W S B nb cb (by omega) (by omega) hsm.2.2.1 (by omega) (hB.below h))
  have KL := Lib.hid (show ∀ W, Below w.heap.size w W → Calls Tryd.prog 22 #[.slice L nl cl, .int .i64 (d + 1)] W fun e' w' => e' = .returned (.int .i64 VL) ∧ Below W.heap.size W w' from fun W h => by rw [hVL]; exact ihl (d + 1) W S L nl cl (by omega) (by omega) hsm.2.2.2 (by omega) (hL.below h))
  have KV := Lib.hid (show ∀ W, Below w.heap.size w W → Calls Tryd.prog 60 #[.agg ex.toArray, .int .i64 1] W fun e' w' => e' = .returned (.int .i64 V) ∧ Below W.heap.size W w' from fun W h => by rw [hV]; exact rexprWrong_any x 1 W S ex (by decide) (by decide) hsm.2.1 (hex.below h))
  have KS := Lib.hid (fun W => name_any s W hsm.1)
  obtain ⟨QS, hQS⟩ : ∃ q, q = nameOk s := ⟨_, rfl⟩
  rw [← hQS] at HH KS
  clear hV hVB hVL hE hQS
  obtain ⟨ek, en, es, em, a, o⟩ := x
  obtain ⟨A, na, ca, O, no, co, rfl, hA, hO⟩ := hex.open_
  have KE := Lib.hid (fun W => rempty_any ek en es em A na ca O no co a o W hA.1.1 hO.1.1)
  have KX := Lib.hid (show ∀ W, Calls Tryd.prog 58 #[.int .i64 1] W fun e w' => e = .returned (.bool true) ∧ w' = W from fun W => has_any 1 W)
  obtain ⟨q, hq⟩ : ∃ q, q = emptyE (.mk ek en es em a o) := ⟨_, rfl⟩
  rw [← hq] at KE
  unfold formS hasX at hf
  rw [← hq] at hf
  simp only [Ex.kind] at hf
  clear hq
  have HB0 := Lib.hid (show Below w.heap.size w (w.alloc (.cells #[.int .i64 1, .string (bs s), .int .i64 n, .int .i64 ek, .int .i64 en, .string (bs es), .string (bs em), .slice A na ca, .slice O no co, .slice B nb cb, .slice L nl cl] 85)) from (Below.refl _ _).alloc (Nat.le_refl _) _)
  have HF := Lib.hid (show ∀ W, Bz (w.alloc (.cells #[.int .i64 1, .string (bs s), .int .i64 n, .int .i64 ek, .int .i64 en, .string (bs es), .string (bs em), .slice A na ca, .slice O no co, .slice B nb cb, .slice L nl cl] 85)) W → (W.cell? ⟨w.heap.size, 0, none⟩ = some (.int .i64 1) ∧ W.cell? ⟨w.heap.size, 1, none⟩ = some (.string (bs s)) ∧ W.cell? ⟨w.heap.size, 2, none⟩ = some (.int .i64 n) ∧ W.cell? ⟨w.heap.size, 3, none⟩ = some (.int .i64 ek) ∧ W.cell? ⟨w.heap.size, 4, none⟩ = some (.int .i64 en) ∧ W.cell? ⟨w.heap.size, 5, none⟩ = some (.string (bs es)) ∧ W.cell? ⟨w.heap.size, 6, none⟩ = some (.string (bs em)) ∧ W.cell? ⟨w.heap.size, 7, none⟩ = some (.slice A na ca) ∧ W.cell? ⟨w.heap.size, 8, none⟩ = some (.slice O no co) ∧ W.cell? ⟨w.heap.size, 9, none⟩ = some (.slice B nb cb) ∧ W.cell? ⟨w.heap.size, 10, none⟩ = some (.slice L nl cl)) ∧ Below w.heap.size w W from fun W h => ⟨st_cells ((h.b.block _ (lt_alloc w _)).trans (heap_alloc_new w _)), HB0.out.trans (h.b.mono HB0.out.size)⟩)
  have z0 : Bz (w.alloc (.cells #[.int .i64 1, .string (bs s), .int .i64 n, .int .i64 ek, .int .i64 en, .string (bs es), .string (bs em), .slice A na ca, .slice O no co, .slice B nb cb, .slice L nl cl] 85)) (w.alloc (.cells #[.int .i64 1, .string (bs s), .int .i64 n, .int .i64 ek, .int .i64 en, .string (bs es), .string (bs em), .slice A na ca, .slice O no co, .slice B nb cb, .slice L nl cl] 85)) := ⟨Below.refl _ _⟩
  clear hx hex hB hL hA hO ihb ihl hsm hsz HB0
  unfold exC at KV
  unfold stC exC
  simp only [List.cons_append, List.nil_append]
  by_cases qn : n = 0
  rotate_left
  · have qn1 : (n != 0) = true := by simp [qn]
    have HR := Lib.hid (HX.out 5 (by decide) (HH.out.1 (by rw [hf]; simp [qn])))
    clear hf
    go_enter Tryd.func40, Tryd.ntmps40
    go_wp2_with (go_at_call 58; refine (KX.out _).mono ?_; rintro e w1 ⟨rfl, rfl⟩)
    go_ret
    exact ⟨congrArg (fun v => Ending.returned (.int .i64 v)) HR.out.symm, (HF.out _ z0).2⟩
  subst qn
  by_cases ql : nl = 0
  rotate_left
  · have ql1 : 0 < (nl : Int) := by omega
    have ql2 : 0 < nl := by omega
    have HR := Lib.hid (HX.out 5 (by decide) (HH.out.1 (by rw [hf]; simp [ql, ql2])))
    clear hf
    go_enter Tryd.func40, Tryd.ntmps40
    go_wp2_with (go_at_call 58; refine (KX.out _).mono ?_; rintro e w1 ⟨rfl, rfl⟩)
    go_ret
    exact ⟨congrArg (fun v => Ending.returned (.int .i64 v)) HR.out.symm, (HF.out _ z0).2⟩
  subst ql
  by_cases qb : nb = 0
  rotate_left
  · have qb1 : 0 < (nb : Int) := by omega
    have qb2 : 0 < nb := by omega
    have HR := Lib.hid (HX.out 5 (by decide) (HH.out.1 (by rw [hf]; simp [qb, qb2])))
    clear hf
    go_enter Tryd.func40, Tryd.ntmps40
    go_wp2_with (go_at_call 58; refine (KX.out _).mono ?_; rintro e w1 ⟨rfl, rfl⟩)
    go_ret
    exact ⟨congrArg (fun v => Ending.returned (.int .i64 v)) HR.out.symm, (HF.out _ z0).2⟩
  subst qb
  have HFT := Lib.hid (show f = true by rw [hf]; simp [])
  clear hf
  cases QS with
  | false =>
    have HR := Lib.hid (HX.out 16 (by decide) (HH.out.2.1 HFT.out (by decide) rfl))
    go_enter Tryd.func40, Tryd.ntmps40
    go_wp2_with (go_at_call 58; refine (KX.out _).mono ?_; rintro e w1 ⟨rfl, rfl⟩)
    refine (KS.out _).mono ?_
    rintro e w2 ⟨rfl, hb⟩
    have z2 := z0.next hb
    clear hb
    go_wp2
    go_ret
    exact ⟨congrArg (fun v => Ending.returned (.int .i64 v)) HR.out.symm, (HF.out _ z2).2⟩
  | true =>
    have HEP := Lib.hid (HP.out (HH.out.2.2.2 HFT.out (fun _ => rfl) (by omega) (by omega)))
    go_enter Tryd.func40, Tryd.ntmps40
    go_wp2_with (go_at_call 58; refine (KX.out _).mono ?_; rintro e w1 ⟨rfl, rfl⟩)
    refine (KS.out _).mono ?_
    rintro e w2 ⟨rfl, hb⟩
    have z2 := z0.next hb
    clear hb
    obtain ⟨⟨c0, c1, c2, c3, c4, c5, c6, c7, c8, c9, c10⟩, -⟩ := HF.out _ z2
    go_wp2_with (go_at_call 58; refine (KX.out _).mono ?_; rintro e w1 ⟨rfl, rfl⟩)
    refine (KV.out _ (HF.out _ z2).2).mono ?_
    rintro e w5 ⟨rfl, hb⟩
    have z5 := z2.next hb
    clear hb c0 c1 c2 c3 c4 c5 c6 c7 c8 c9 c10 z2
    obtain ⟨⟨c0, c1, c2, c3, c4, c5, c6, c7, c8, c9, c10⟩, -⟩ := HF.out _ z5
    by_cases hv : V = 0
    rotate_left
    · have hv1 : (V != 0) = true := by simp [hv]
      have HR := Lib.hid (show E = V by rw [HEP.out, if_pos ⟨rfl, hv⟩])
      go_wp2
      go_ret
      exact ⟨congrArg (fun v => Ending.returned (.int .i64 v)) HR.out.symm, (HF.out _ z5).2⟩
    have HEP2 := Lib.hid (show E = if VB ≠ 0 then VB else VL by rw [HEP.out, if_neg (fun h => h.2 hv)])
    have hv1 : (V != 0) = false := by simp [hv]
    clear hv
    go_wp2_with fail
    refine (KB.out _ (HF.out _ z5).2).mono ?_
    rintro e w6 ⟨rfl, hb⟩
    have z6 := z5.next hb
    clear hb c0 c1 c2 c3 c4 c5 c6 c7 c8 c9 c10 z5
    obtain ⟨⟨c0, c1, c2, c3, c4, c5, c6, c7, c8, c9, c10⟩, -⟩ := HF.out _ z6
    by_cases hv6 : VB = 0
    rotate_left
    · have hv1' : (VB != 0) = true := by simp [hv6]
      have HR := Lib.hid (show E = VB by rw [HEP2.out, if_pos hv6])
      go_wp2
      go_ret
      exact ⟨congrArg (fun v => Ending.returned (.int .i64 v)) HR.out.symm, (HF.out _ z6).2⟩
    have HEP3 := Lib.hid (show E = VL by rw [HEP2.out, if_neg (fun h => h hv6)])
    have hv1' : (VB != 0) = false := by simp [hv6]
    clear hv6
    go_wp2_with fail
    refine (KL.out _ (HF.out _ z6).2).mono ?_
    rintro e w7 ⟨rfl, hb⟩
    have z7 := z6.next hb
    clear hb c0 c1 c2 c3 c4 c5 c6 c7 c8 c9 c10 z6
    go_wp2
    go_ret
    exact ⟨congrArg (fun v => Ending.returned (.int .i64 v)) HEP3.out.symm, (HF.out _ z7).2⟩

set_option maxRecDepth 100000 in
set_option maxHeartbeats 12800000 in
theorem rstmt2_mid (s : Str) (n : Int) (x : Ex) (b l : List St) (ihb : RWrongL b) (ihl : RWrongL l) (d : Int) (w : World) (S : Nat → Prop) (cs : List Value) (hd0 : 0 ≤ d) (hd : ¬ 12 < d) (hsm : (St.mk 2 s n x b l).Sm) (hsz : (St.mk 2 s n x b l).size ≤ 1000000) (hx : SV w S (.mk 2 s n x b l) cs) :
    Calls Tryd.prog 40 #[.agg cs.toArray, .int .i64 d] w fun e' w' => e' = .returned (.int .i64 (chkS d (.mk 2 s n x b l))) ∧ Below w.heap.size w w' := by
  rw [St.Sm] at hsm
  rw [St.size] at hsz
  obtain ⟨ex, B, nb, cb, L, nl, cl, rfl, hex, hB, hL⟩ := hx.open_
  obtain ⟨V, hV⟩ : ∃ V, V = chkE 1 x := ⟨_, rfl⟩
  obtain ⟨VB, hVB⟩ : ∃ V, V = chkSs (d + 1) b := ⟨_, rfl⟩
  obtain ⟨VL, hVL⟩ : ∃ V, V = chkSs (d + 1) l := ⟨_, rfl⟩
  obtain ⟨E, hE⟩ : ∃ E, E = chkS d (.mk 2 s n x b l) := ⟨_, rfl⟩
  rw [← hE]
  have HX := Lib.hid (show ∀ v, v ≠ 0 → headS d 2 s n x b.length l.length = v → E = v from fun v h1 h2 => by rw [hE, chkS_head (by rw [h2]; exact h1), h2])
  have HP := Lib.hid (show headS d 2 s n x b.length l.length = 0 → E = if hasX 2 = true ∧ V ≠ 0 then V else if VB ≠ 0 then VB else VL from fun h => by rw [hE, chkS_parts h, ← hV, ← hVB, ← hVL])
  obtain ⟨f, hf⟩ : ∃ f, f = formS 2 s n x nb nl := ⟨_, rfl⟩
  have HH := Lib.hid (headS_cases 2 (by decide) s n x nb nl d hd hf)
  rw [hB.1.1, hL.1.1] at HH
  have KB := Lib.hid (show ∀ W, Below w.heap.size w W → Calls Tryd.prog 22 #[.slice B nb cb, .int .i64 (d + 1)] W fun e' w' => e' = .returned (.int .i64 VB) ∧ Below W.heap.size W w' from fun W h => by rw [hVB]; exact ihb (d + 1) W S B nb cb (by omega) (by omega) hsm.2.2.1 (by omega) (hB.below h))
  have KL := Lib.hid (show ∀ W, Below w.heap.size w W → Calls Tryd.prog 22 #[.slice L nl cl, .int .i64 (d + 1)] W fun e' w' => e' = .returned (.int .i64 VL) ∧ Below W.heap.size W w' from fun W h => by rw [hVL]; exact ihl (d + 1) W S L nl cl (by omega) (by omega) hsm.2.2.2 (by omega) (hL.below h))
  have KV := Lib.hid (show ∀ W, Below w.heap.size w W → Calls Tryd.prog 60 #[.agg ex.toArray, .int .i64 1] W fun e' w' => e' = .returned (.int .i64 V) ∧ Below W.heap.size W w' from fun W h => by rw [hV]; exact rexprWrong_any x 1 W S ex (by decide) (by decide) hsm.2.1 (hex.below h))
  have KS := Lib.hid (fun W => name_any s W hsm.1)
  obtain ⟨QS, hQS⟩ : ∃ q, q = nameOk s := ⟨_, rfl⟩
  rw [← hQS] at HH KS
  clear hV hVB hVL hE hQS
  obtain ⟨ek, en, es, em, a, o⟩ := x
  obtain ⟨A, na, ca, O, no, co, rfl, hA, hO⟩ := hex.open_
  have KE := Lib.hid (fun W => rempty_any ek en es em A na ca O no co a o W hA.1.1 hO.1.1)
  have KX := Lib.hid (show ∀ W, Calls Tryd.prog 58 #[.int .i64 2] W fun e w' => e = .returned (.bool true) ∧ w' = W from fun W => has_any 2 W)
  obtain ⟨q, hq⟩ : ∃ q, q = emptyE (.mk ek en es em a o) := ⟨_, rfl⟩
  rw [← hq] at KE
  unfold formS hasX at hf
  rw [← hq] at hf
  simp only [Ex.kind] at hf
  clear hq
  have HB0 := Lib.hid (show Below w.heap.size w (w.alloc (.cells #[.int .i64 2, .string (bs s), .int .i64 n, .int .i64 ek, .int .i64 en, .string (bs es), .string (bs em), .slice A na ca, .slice O no co, .slice B nb cb, .slice L nl cl] 85)) from (Below.refl _ _).alloc (Nat.le_refl _) _)
  have HF := Lib.hid (show ∀ W, Bz (w.alloc (.cells #[.int .i64 2, .string (bs s), .int .i64 n, .int .i64 ek, .int .i64 en, .string (bs es), .string (bs em), .slice A na ca, .slice O no co, .slice B nb cb, .slice L nl cl] 85)) W → (W.cell? ⟨w.heap.size, 0, none⟩ = some (.int .i64 2) ∧ W.cell? ⟨w.heap.size, 1, none⟩ = some (.string (bs s)) ∧ W.cell? ⟨w.heap.size, 2, none⟩ = some (.int .i64 n) ∧ W.cell? ⟨w.heap.size, 3, none⟩ = some (.int .i64 ek) ∧ W.cell? ⟨w.heap.size, 4, none⟩ = some (.int .i64 en) ∧ W.cell? ⟨w.heap.size, 5, none⟩ = some (.string (bs es)) ∧ W.cell? ⟨w.heap.size, 6, none⟩ = some (.string (bs em)) ∧ W.cell? ⟨w.heap.size, 7, none⟩ = some (.slice A na ca) ∧ W.cell? ⟨w.heap.size, 8, none⟩ = some (.slice O no co) ∧ W.cell? ⟨w.heap.size, 9, none⟩ = some (.slice B nb cb) ∧ W.cell? ⟨w.heap.size, 10, none⟩ = some (.slice L nl cl)) ∧ Below w.heap.size w W from fun W h => ⟨st_cells ((h.b.block _ (lt_alloc w _)).trans (heap_alloc_new w _)), HB0.out.trans (h.b.mono HB0.out.size)⟩)
  have z0 : Bz (w.alloc (.cells #[.int .i64 2, .string (bs s), .int .i64 n, .int .i64 ek, .int .i64 en, .string (bs es), .string (bs em), .slice A na ca, .slice O no co, .slice B nb cb, .slice L nl cl] 85)) (w.alloc (.cells #[.int .i64 2, .string (bs s), .int .i64 n, .int .i64 ek, .int .i64 en, .string (bs es), .string (bs em), .slice A na ca, .slice O no co, .slice B nb cb, .slice L nl cl] 85)) := ⟨Below.refl _ _⟩
  clear hx hex hB hL hA hO ihb ihl hsm hsz HB0
  unfold exC at KV
  unfold stC exC
  simp only [List.cons_append, List.nil_append]
  by_cases qs : s = []
  rotate_left
  · obtain ⟨qs1, qs2⟩ := cons_facts qs
    have qs3 := beq_nil qs
    have HR := Lib.hid (HX.out 5 (by decide) (HH.out.1 (by rw [hf]; simp [qs])))
    clear hf
    go_enter Tryd.func40, Tryd.ntmps40
    go_wp2_with (go_at_call 58; refine (KX.out _).mono ?_; rintro e w1 ⟨rfl, rfl⟩)
    go_ret
    exact ⟨congrArg (fun v => Ending.returned (.int .i64 v)) HR.out.symm, (HF.out _ z0).2⟩
  obtain ⟨qs1, qs2⟩ := nil_facts qs
  subst qs
  by_cases qn : n = 0
  rotate_left
  · have qn1 : (n != 0) = true := by simp [qn]
    have HR := Lib.hid (HX.out 5 (by decide) (HH.out.1 (by rw [hf]; simp [qn])))
    clear hf
    go_enter Tryd.func40, Tryd.ntmps40
    go_wp2_with (go_at_call 58; refine (KX.out _).mono ?_; rintro e w1 ⟨rfl, rfl⟩)
    go_ret
    exact ⟨congrArg (fun v => Ending.returned (.int .i64 v)) HR.out.symm, (HF.out _ z0).2⟩
  subst qn
  by_cases ql : nl = 0
  rotate_left
  · have ql1 : 0 < (nl : Int) := by omega
    have ql2 : 0 < nl := by omega
    have HR := Lib.hid (HX.out 5 (by decide) (HH.out.1 (by rw [hf]; simp [ql, ql2])))
    clear hf
    go_enter Tryd.func40, Tryd.ntmps40
    go_wp2_with (go_at_call 58; refine (KX.out _).mono ?_; rintro e w1 ⟨rfl, rfl⟩)
    go_ret
    exact ⟨congrArg (fun v => Ending.returned (.int .i64 v)) HR.out.symm, (HF.out _ z0).2⟩
  subst ql
  by_cases qb : nb = 0
  rotate_left
  · have qb1 : 0 < (nb : Int) := by omega
    have qb2 : 0 < nb := by omega
    have HR := Lib.hid (HX.out 5 (by decide) (HH.out.1 (by rw [hf]; simp [qb, qb2])))
    clear hf
    go_enter Tryd.func40, Tryd.ntmps40
    go_wp2_with (go_at_call 58; refine (KX.out _).mono ?_; rintro e w1 ⟨rfl, rfl⟩)
    go_ret
    exact ⟨congrArg (fun v => Ending.returned (.int .i64 v)) HR.out.symm, (HF.out _ z0).2⟩
  subst qb
  by_cases q6 : ek = 6
  · subst q6
    have HFT := Lib.hid (show f = true by rw [hf]; simp [])
    clear hf
    have HEP := Lib.hid (HP.out (HH.out.2.2.2 HFT.out (fun h => by have := of_decide_eq_true h; omega) (by omega) (by omega)))
    go_enter Tryd.func40, Tryd.ntmps40
    go_wp2_with (go_at_call 58; refine (KX.out _).mono ?_; rintro e w1 ⟨rfl, rfl⟩)
    refine (KV.out _ (HF.out _ z0).2).mono ?_
    rintro e w5 ⟨rfl, hb⟩
    have z5 := z0.next hb
    clear hb  z0
    obtain ⟨⟨c0, c1, c2, c3, c4, c5, c6, c7, c8, c9, c10⟩, -⟩ := HF.out _ z5
    by_cases hv : V = 0
    rotate_left
    · have hv1 : (V != 0) = true := by simp [hv]
      have HR := Lib.hid (show E = V by rw [HEP.out, if_pos ⟨rfl, hv⟩])
      go_wp2
      go_ret
      exact ⟨congrArg (fun v => Ending.returned (.int .i64 v)) HR.out.symm, (HF.out _ z5).2⟩
    have HEP2 := Lib.hid (show E = if VB ≠ 0 then VB else VL by rw [HEP.out, if_neg (fun h => h.2 hv)])
    have hv1 : (V != 0) = false := by simp [hv]
    clear hv
    go_wp2_with fail
    refine (KB.out _ (HF.out _ z5).2).mono ?_
    rintro e w6 ⟨rfl, hb⟩
    have z6 := z5.next hb
    clear hb c0 c1 c2 c3 c4 c5 c6 c7 c8 c9 c10 z5
    obtain ⟨⟨c0, c1, c2, c3, c4, c5, c6, c7, c8, c9, c10⟩, -⟩ := HF.out _ z6
    by_cases hv6 : VB = 0
    rotate_left
    · have hv1' : (VB != 0) = true := by simp [hv6]
      have HR := Lib.hid (show E = VB by rw [HEP2.out, if_pos hv6])
      go_wp2
      go_ret
      exact ⟨congrArg (fun v => Ending.returned (.int .i64 v)) HR.out.symm, (HF.out _ z6).2⟩
    have HEP3 := Lib.hid (show E = VL by rw [HEP2.out, if_neg (fun h => h hv6)])
    have hv1' : (VB != 0) = false := by simp [hv6]
    clear hv6
    go_wp2_with fail
    refine (KL.out _ (HF.out _ z6).2).mono ?_
    rintro e w7 ⟨rfl, hb⟩
    have z7 := z6.next hb
    clear hb c0 c1 c2 c3 c4 c5 c6 c7 c8 c9 c10 z6
    go_wp2
    go_ret
    exact ⟨congrArg (fun v => Ending.returned (.int .i64 v)) HEP3.out.symm, (HF.out _ z7).2⟩

  have q61 : (ek != 6) = true := by simp [q6]
  by_cases q7 : ek = 7
  · subst q7
    have HFT := Lib.hid (show f = true by rw [hf]; simp [])
    clear hf
    have HEP := Lib.hid (HP.out (HH.out.2.2.2 HFT.out (fun h => by have := of_decide_eq_true h; omega) (by omega) (by omega)))
    go_enter Tryd.func40, Tryd.ntmps40
    go_wp2_with (go_at_call 58; refine (KX.out _).mono ?_; rintro e w1 ⟨rfl, rfl⟩)
    refine (KV.out _ (HF.out _ z0).2).mono ?_
    rintro e w5 ⟨rfl, hb⟩
    have z5 := z0.next hb
    clear hb  z0
    obtain ⟨⟨c0, c1, c2, c3, c4, c5, c6, c7, c8, c9, c10⟩, -⟩ := HF.out _ z5
    by_cases hv : V = 0
    rotate_left
    · have hv1 : (V != 0) = true := by simp [hv]
      have HR := Lib.hid (show E = V by rw [HEP.out, if_pos ⟨rfl, hv⟩])
      go_wp2
      go_ret
      exact ⟨congrArg (fun v => Ending.returned (.int .i64 v)) HR.out.symm, (HF.out _ z5).2⟩
    have HEP2 := Lib.hid (show E = if VB ≠ 0 then VB else VL by rw [HEP.out, if_neg (fun h => h.2 hv)])
    have hv1 : (V != 0) = false := by simp [hv]
    clear hv
    go_wp2_with fail
    refine (KB.out _ (HF.out _ z5).2).mono ?_
    rintro e w6 ⟨rfl, hb⟩
    have z6 := z5.next hb
    clear hb c0 c1 c2 c3 c4 c5 c6 c7 c8 c9 c10 z5
    obtain ⟨⟨c0, c1, c2, c3, c4, c5, c6, c7, c8, c9, c10⟩, -⟩ := HF.out _ z6
    by_cases hv6 : VB = 0
    rotate_left
    · have hv1' : (VB != 0) = true := by simp [hv6]
      have HR := Lib.hid (show E = VB by rw [HEP2.out, if_pos hv6])
      go_wp2
      go_ret
      exact ⟨congrArg (fun v => Ending.returned (.int .i64 v)) HR.out.symm, (HF.out _ z6).2⟩
    have HEP3 := Lib.hid (show E = VL by rw [HEP2.out, if_neg (fun h => h hv6)])
    have hv1' : (VB != 0) = false := by simp [hv6]
    clear hv6
    go_wp2_with fail
    refine (KL.out _ (HF.out _ z6).2).mono ?_
    rintro e w7 ⟨rfl, hb⟩
    have z7 := z6.next hb
    clear hb c0 c1 c2 c3 c4 c5 c6 c7 c8 c9 c10 z6
    go_wp2
    go_ret
    exact ⟨congrArg (fun v => Ending.returned (.int .i64 v)) HEP3.out.symm, (HF.out _ z7).2⟩

  have q71 : (ek != 7) = true := by simp [q7]
  have HR := Lib.hid (HX.out 5 (by decide) (HH.out.1 (by rw [hf]; simp [q6, q7])))
  clear hf
  go_enter Tryd.func40, Tryd.ntmps40
  go_wp2_with (go_at_call 58; refine (KX.out _).mono ?_; rintro e w1 ⟨rfl, rfl⟩)
  go_ret
  exact ⟨congrArg (fun v => Ending.returned (.int .i64 v)) HR.out.symm, (HF.out _ z0).2⟩
set_option maxRecDepth 100000 in
set_option maxHeartbeats 12800000 in
theorem rstmt3_mid (s : Str) (n : Int) (x : Ex) (b l : List St) (ihb : RWrongL b) (ihl : RWrongL l) (d : Int) (w : World) (S : Nat → Prop) (cs : List Value) (hd0 : 0 ≤ d) (hd : ¬ 12 < d) (hsm : (St.mk 3 s n x b l).Sm) (hsz : (St.mk 3 s n x b l).size ≤ 1000000) (hx : SV w S (.mk 3 s n x b l) cs) :
    Calls Tryd.prog 40 #[.agg cs.toArray, .int .i64 d] w fun e' w' => e' = .returned (.int .i64 (chkS d (.mk 3 s n x b l))) ∧ Below w.heap.size w w' := by
  rw [St.Sm] at hsm
  rw [St.size] at hsz
  obtain ⟨ex, B, nb, cb, L, nl, cl, rfl, hex, hB, hL⟩ := hx.open_
  obtain ⟨V, hV⟩ : ∃ V, V = chkE 1 x := ⟨_, rfl⟩
  obtain ⟨VB, hVB⟩ : ∃ V, V = chkSs (d + 1) b := ⟨_, rfl⟩
  obtain ⟨VL, hVL⟩ : ∃ V, V = chkSs (d + 1) l := ⟨_, rfl⟩
  obtain ⟨E, hE⟩ : ∃ E, E = chkS d (.mk 3 s n x b l) := ⟨_, rfl⟩
  rw [← hE]
  have HX := Lib.hid (show ∀ v, v ≠ 0 → headS d 3 s n x b.length l.length = v → E = v from fun v h1 h2 => by rw [hE, chkS_head (by rw [h2]; exact h1), h2])
  have HP := Lib.hid (show headS d 3 s n x b.length l.length = 0 → E = if hasX 3 = true ∧ V ≠ 0 then V else if VB ≠ 0 then VB else VL from fun h => by rw [hE, chkS_parts h, ← hV, ← hVB, ← hVL])
  obtain ⟨f, hf⟩ : ∃ f, f = formS 3 s n x nb nl := ⟨_, rfl⟩
  have HH := Lib.hid (headS_cases 3 (by decide) s n x nb nl d hd hf)
  rw [hB.1.1, hL.1.1] at HH
  have KB := Lib.hid (show ∀ W, Below w.heap.size w W → Calls Tryd.prog 22 #[.slice B nb cb, .int .i64 (d + 1)] W fun e' w' => e' = .returned (.int .i64 VB) ∧ Below W.heap.size W w' from fun W h => by rw [hVB]; exact ihb (d + 1) W S B nb cb (by omega) (by omega) hsm.2.2.1 (by omega) (hB.below h))
  have KL := Lib.hid (show ∀ W, Below w.heap.size w W → Calls Tryd.prog 22 #[.slice L nl cl, .int .i64 (d + 1)] W fun e' w' => e' = .returned (.int .i64 VL) ∧ Below W.heap.size W w' from fun W h => by rw [hVL]; exact ihl (d + 1) W S L nl cl (by omega) (by omega) hsm.2.2.2 (by omega) (hL.below h))
  have KV := Lib.hid (show ∀ W, Below w.heap.size w W → Calls Tryd.prog 60 #[.agg ex.toArray, .int .i64 1] W fun e' w' => e' = .returned (.int .i64 V) ∧ Below W.heap.size W w' from fun W h => by rw [hV]; exact rexprWrong_any x 1 W S ex (by decide) (by decide) hsm.2.1 (hex.below h))
  have KS := Lib.hid (fun W => name_any s W hsm.1)
  obtain ⟨QS, hQS⟩ : ∃ q, q = nameOk s := ⟨_, rfl⟩
  rw [← hQS] at HH KS
  clear hV hVB hVL hE hQS
  obtain ⟨ek, en, es, em, a, o⟩ := x
  obtain ⟨A, na, ca, O, no, co, rfl, hA, hO⟩ := hex.open_
  have KE := Lib.hid (fun W => rempty_any ek en es em A na ca O no co a o W hA.1.1 hO.1.1)
  have KX := Lib.hid (show ∀ W, Calls Tryd.prog 58 #[.int .i64 3] W fun e w' => e = .returned (.bool true) ∧ w' = W from fun W => has_any 3 W)
  obtain ⟨q, hq⟩ : ∃ q, q = emptyE (.mk ek en es em a o) := ⟨_, rfl⟩
  rw [← hq] at KE
  unfold formS hasX at hf
  rw [← hq] at hf
  simp only [Ex.kind] at hf
  clear hq
  have HB0 := Lib.hid (show Below w.heap.size w (w.alloc (.cells #[.int .i64 3, .string (bs s), .int .i64 n, .int .i64 ek, .int .i64 en, .string (bs es), .string (bs em), .slice A na ca, .slice O no co, .slice B nb cb, .slice L nl cl] 85)) from (Below.refl _ _).alloc (Nat.le_refl _) _)
  have HF := Lib.hid (show ∀ W, Bz (w.alloc (.cells #[.int .i64 3, .string (bs s), .int .i64 n, .int .i64 ek, .int .i64 en, .string (bs es), .string (bs em), .slice A na ca, .slice O no co, .slice B nb cb, .slice L nl cl] 85)) W → (W.cell? ⟨w.heap.size, 0, none⟩ = some (.int .i64 3) ∧ W.cell? ⟨w.heap.size, 1, none⟩ = some (.string (bs s)) ∧ W.cell? ⟨w.heap.size, 2, none⟩ = some (.int .i64 n) ∧ W.cell? ⟨w.heap.size, 3, none⟩ = some (.int .i64 ek) ∧ W.cell? ⟨w.heap.size, 4, none⟩ = some (.int .i64 en) ∧ W.cell? ⟨w.heap.size, 5, none⟩ = some (.string (bs es)) ∧ W.cell? ⟨w.heap.size, 6, none⟩ = some (.string (bs em)) ∧ W.cell? ⟨w.heap.size, 7, none⟩ = some (.slice A na ca) ∧ W.cell? ⟨w.heap.size, 8, none⟩ = some (.slice O no co) ∧ W.cell? ⟨w.heap.size, 9, none⟩ = some (.slice B nb cb) ∧ W.cell? ⟨w.heap.size, 10, none⟩ = some (.slice L nl cl)) ∧ Below w.heap.size w W from fun W h => ⟨st_cells ((h.b.block _ (lt_alloc w _)).trans (heap_alloc_new w _)), HB0.out.trans (h.b.mono HB0.out.size)⟩)
  have z0 : Bz (w.alloc (.cells #[.int .i64 3, .string (bs s), .int .i64 n, .int .i64 ek, .int .i64 en, .string (bs es), .string (bs em), .slice A na ca, .slice O no co, .slice B nb cb, .slice L nl cl] 85)) (w.alloc (.cells #[.int .i64 3, .string (bs s), .int .i64 n, .int .i64 ek, .int .i64 en, .string (bs es), .string (bs em), .slice A na ca, .slice O no co, .slice B nb cb, .slice L nl cl] 85)) := ⟨Below.refl _ _⟩
  clear hx hex hB hL hA hO ihb ihl hsm hsz HB0
  unfold exC at KV
  unfold stC exC
  simp only [List.cons_append, List.nil_append]
  by_cases qs : s = []
  rotate_left
  · obtain ⟨qs1, qs2⟩ := cons_facts qs
    have qs3 := beq_nil qs
    have HR := Lib.hid (HX.out 5 (by decide) (HH.out.1 (by rw [hf]; simp [qs])))
    clear hf
    go_enter Tryd.func40, Tryd.ntmps40
    go_wp2_with (go_at_call 58; refine (KX.out _).mono ?_; rintro e w1 ⟨rfl, rfl⟩)
    go_ret
    exact ⟨congrArg (fun v => Ending.returned (.int .i64 v)) HR.out.symm, (HF.out _ z0).2⟩
  obtain ⟨qs1, qs2⟩ := nil_facts qs
  subst qs
  by_cases qn : n = 0
  rotate_left
  · have qn1 : (n != 0) = true := by simp [qn]
    have HR := Lib.hid (HX.out 5 (by decide) (HH.out.1 (by rw [hf]; simp [qn])))
    clear hf
    go_enter Tryd.func40, Tryd.ntmps40
    go_wp2_with (go_at_call 58; refine (KX.out _).mono ?_; rintro e w1 ⟨rfl, rfl⟩)
    go_ret
    exact ⟨congrArg (fun v => Ending.returned (.int .i64 v)) HR.out.symm, (HF.out _ z0).2⟩
  subst qn
  have HFT := Lib.hid (show f = true by rw [hf]; simp [])
  clear hf
  have HEP := Lib.hid (HP.out (HH.out.2.2.2 HFT.out (fun h => by have := of_decide_eq_true h; omega) (by omega) (by omega)))
  go_enter Tryd.func40, Tryd.ntmps40
  go_wp2_with (go_at_call 58; refine (KX.out _).mono ?_; rintro e w1 ⟨rfl, rfl⟩)
  refine (KV.out _ (HF.out _ z0).2).mono ?_
  rintro e w5 ⟨rfl, hb⟩
  have z5 := z0.next hb
  clear hb  z0
  obtain ⟨⟨c0, c1, c2, c3, c4, c5, c6, c7, c8, c9, c10⟩, -⟩ := HF.out _ z5
  by_cases hv : V = 0
  rotate_left
  · have hv1 : (V != 0) = true := by simp [hv]
    have HR := Lib.hid (show E = V by rw [HEP.out, if_pos ⟨rfl, hv⟩])
    go_wp2
    go_ret
    exact ⟨congrArg (fun v => Ending.returned (.int .i64 v)) HR.out.symm, (HF.out _ z5).2⟩
  have HEP2 := Lib.hid (show E = if VB ≠ 0 then VB else VL by rw [HEP.out, if_neg (fun h => h.2 hv)])
  have hv1 : (V != 0) = false := by simp [hv]
  clear hv
  go_wp2_with fail
  refine (KB.out _ (HF.out _ z5).2).mono ?_
  rintro e w6 ⟨rfl, hb⟩
  have z6 := z5.next hb
  clear hb c0 c1 c2 c3 c4 c5 c6 c7 c8 c9 c10 z5
  obtain ⟨⟨c0, c1, c2, c3, c4, c5, c6, c7, c8, c9, c10⟩, -⟩ := HF.out _ z6
  by_cases hv6 : VB = 0
  rotate_left
  · have hv1' : (VB != 0) = true := by simp [hv6]
    have HR := Lib.hid (show E = VB by rw [HEP2.out, if_pos hv6])
    go_wp2
    go_ret
    exact ⟨congrArg (fun v => Ending.returned (.int .i64 v)) HR.out.symm, (HF.out _ z6).2⟩
  have HEP3 := Lib.hid (show E = VL by rw [HEP2.out, if_neg (fun h => h hv6)])
  have hv1' : (VB != 0) = false := by simp [hv6]
  clear hv6
  go_wp2_with fail
  refine (KL.out _ (HF.out _ z6).2).mono ?_
  rintro e w7 ⟨rfl, hb⟩
  have z7 := z6.next hb
  clear hb c0 c1 c2 c3 c4 c5 c6 c7 c8 c9 c10 z6
  go_wp2
  go_ret
  exact ⟨congrArg (fun v => Ending.returned (.int .i64 v)) HEP3.out.symm, (HF.out _ z7).2⟩

set_option maxRecDepth 100000 in
set_option maxHeartbeats 12800000 in
theorem rstmt4_mid (s : Str) (n : Int) (x : Ex) (b l : List St) (ihb : RWrongL b) (ihl : RWrongL l) (d : Int) (w : World) (S : Nat → Prop) (cs : List Value) (hd0 : 0 ≤ d) (hd : ¬ 12 < d) (hsm : (St.mk 4 s n x b l).Sm) (hsz : (St.mk 4 s n x b l).size ≤ 1000000) (hx : SV w S (.mk 4 s n x b l) cs) :
    Calls Tryd.prog 40 #[.agg cs.toArray, .int .i64 d] w fun e' w' => e' = .returned (.int .i64 (chkS d (.mk 4 s n x b l))) ∧ Below w.heap.size w w' := by
  rw [St.Sm] at hsm
  rw [St.size] at hsz
  obtain ⟨ex, B, nb, cb, L, nl, cl, rfl, hex, hB, hL⟩ := hx.open_
  obtain ⟨V, hV⟩ : ∃ V, V = chkE 1 x := ⟨_, rfl⟩
  obtain ⟨VB, hVB⟩ : ∃ V, V = chkSs (d + 1) b := ⟨_, rfl⟩
  obtain ⟨VL, hVL⟩ : ∃ V, V = chkSs (d + 1) l := ⟨_, rfl⟩
  obtain ⟨E, hE⟩ : ∃ E, E = chkS d (.mk 4 s n x b l) := ⟨_, rfl⟩
  rw [← hE]
  have HX := Lib.hid (show ∀ v, v ≠ 0 → headS d 4 s n x b.length l.length = v → E = v from fun v h1 h2 => by rw [hE, chkS_head (by rw [h2]; exact h1), h2])
  have HP := Lib.hid (show headS d 4 s n x b.length l.length = 0 → E = if hasX 4 = true ∧ V ≠ 0 then V else if VB ≠ 0 then VB else VL from fun h => by rw [hE, chkS_parts h, ← hV, ← hVB, ← hVL])
  obtain ⟨f, hf⟩ : ∃ f, f = formS 4 s n x nb nl := ⟨_, rfl⟩
  have HH := Lib.hid (headS_cases 4 (by decide) s n x nb nl d hd hf)
  rw [hB.1.1, hL.1.1] at HH
  have KB := Lib.hid (show ∀ W, Below w.heap.size w W → Calls Tryd.prog 22 #[.slice B nb cb, .int .i64 (d + 1)] W fun e' w' => e' = .returned (.int .i64 VB) ∧ Below W.heap.size W w' from fun W h => by rw [hVB]; exact ihb (d + 1) W S B nb cb (by omega) (by omega) hsm.2.2.1 (by omega) (hB.below h))
  have KL := Lib.hid (show ∀ W, Below w.heap.size w W → Calls Tryd.prog 22 #[.slice L nl cl, .int .i64 (d + 1)] W fun e' w' => e' = .returned (.int .i64 VL) ∧ Below W.heap.size W w' from fun W h => by rw [hVL]; exact ihl (d + 1) W S L nl cl (by omega) (by omega) hsm.2.2.2 (by omega) (hL.below h))
  have KV := Lib.hid (show ∀ W, Below w.heap.size w W → Calls Tryd.prog 60 #[.agg ex.toArray, .int .i64 1] W fun e' w' => e' = .returned (.int .i64 V) ∧ Below W.heap.size W w' from fun W h => by rw [hV]; exact rexprWrong_any x 1 W S ex (by decide) (by decide) hsm.2.1 (hex.below h))
  have KS := Lib.hid (fun W => name_any s W hsm.1)
  obtain ⟨QS, hQS⟩ : ∃ q, q = nameOk s := ⟨_, rfl⟩
  rw [← hQS] at HH KS
  clear hV hVB hVL hE hQS
  obtain ⟨ek, en, es, em, a, o⟩ := x
  obtain ⟨A, na, ca, O, no, co, rfl, hA, hO⟩ := hex.open_
  have KE := Lib.hid (fun W => rempty_any ek en es em A na ca O no co a o W hA.1.1 hO.1.1)
  have KX := Lib.hid (show ∀ W, Calls Tryd.prog 58 #[.int .i64 4] W fun e w' => e = .returned (.bool false) ∧ w' = W from fun W => has_any 4 W)
  obtain ⟨q, hq⟩ : ∃ q, q = emptyE (.mk ek en es em a o) := ⟨_, rfl⟩
  rw [← hq] at KE
  unfold formS hasX at hf
  rw [← hq] at hf
  simp only [Ex.kind] at hf
  clear hq
  have HB0 := Lib.hid (show Below w.heap.size w (w.alloc (.cells #[.int .i64 4, .string (bs s), .int .i64 n, .int .i64 ek, .int .i64 en, .string (bs es), .string (bs em), .slice A na ca, .slice O no co, .slice B nb cb, .slice L nl cl] 85)) from (Below.refl _ _).alloc (Nat.le_refl _) _)
  have HF := Lib.hid (show ∀ W, Bz (w.alloc (.cells #[.int .i64 4, .string (bs s), .int .i64 n, .int .i64 ek, .int .i64 en, .string (bs es), .string (bs em), .slice A na ca, .slice O no co, .slice B nb cb, .slice L nl cl] 85)) W → (W.cell? ⟨w.heap.size, 0, none⟩ = some (.int .i64 4) ∧ W.cell? ⟨w.heap.size, 1, none⟩ = some (.string (bs s)) ∧ W.cell? ⟨w.heap.size, 2, none⟩ = some (.int .i64 n) ∧ W.cell? ⟨w.heap.size, 3, none⟩ = some (.int .i64 ek) ∧ W.cell? ⟨w.heap.size, 4, none⟩ = some (.int .i64 en) ∧ W.cell? ⟨w.heap.size, 5, none⟩ = some (.string (bs es)) ∧ W.cell? ⟨w.heap.size, 6, none⟩ = some (.string (bs em)) ∧ W.cell? ⟨w.heap.size, 7, none⟩ = some (.slice A na ca) ∧ W.cell? ⟨w.heap.size, 8, none⟩ = some (.slice O no co) ∧ W.cell? ⟨w.heap.size, 9, none⟩ = some (.slice B nb cb) ∧ W.cell? ⟨w.heap.size, 10, none⟩ = some (.slice L nl cl)) ∧ Below w.heap.size w W from fun W h => ⟨st_cells ((h.b.block _ (lt_alloc w _)).trans (heap_alloc_new w _)), HB0.out.trans (h.b.mono HB0.out.size)⟩)
  have z0 : Bz (w.alloc (.cells #[.int .i64 4, .string (bs s), .int .i64 n, .int .i64 ek, .int .i64 en, .string (bs es), .string (bs em), .slice A na ca, .slice O no co, .slice B nb cb, .slice L nl cl] 85)) (w.alloc (.cells #[.int .i64 4, .string (bs s), .int .i64 n, .int .i64 ek, .int .i64 en, .string (bs es), .string (bs em), .slice A na ca, .slice O no co, .slice B nb cb, .slice L nl cl] 85)) := ⟨Below.refl _ _⟩
  clear hx hex hB hL hA hO ihb ihl hsm hsz HB0
  unfold exC at KV
  unfold stC exC
  simp only [List.cons_append, List.nil_append]
  by_cases qs : s = []
  rotate_left
  · obtain ⟨qs1, qs2⟩ := cons_facts qs
    have qs3 := beq_nil qs
    have HR := Lib.hid (HX.out 5 (by decide) (HH.out.1 (by rw [hf]; simp [qs])))
    clear hf
    go_enter Tryd.func40, Tryd.ntmps40
    go_wp2_with (go_at_call 58; refine (KX.out _).mono ?_; rintro e w1 ⟨rfl, rfl⟩)
    go_ret
    exact ⟨congrArg (fun v => Ending.returned (.int .i64 v)) HR.out.symm, (HF.out _ z0).2⟩
  obtain ⟨qs1, qs2⟩ := nil_facts qs
  subst qs
  by_cases ql : nl = 0
  rotate_left
  · have ql1 : 0 < (nl : Int) := by omega
    have ql2 : 0 < nl := by omega
    have HR := Lib.hid (HX.out 5 (by decide) (HH.out.1 (by rw [hf]; simp [ql, ql2])))
    clear hf
    go_enter Tryd.func40, Tryd.ntmps40
    go_wp2_with (go_at_call 58; refine (KX.out _).mono ?_; rintro e w1 ⟨rfl, rfl⟩)
    go_ret
    exact ⟨congrArg (fun v => Ending.returned (.int .i64 v)) HR.out.symm, (HF.out _ z0).2⟩
  subst ql
  cases q with
  | false =>
    have HR := Lib.hid (HX.out 5 (by decide) (HH.out.1 (by rw [hf]; simp [])))
    clear hf
    go_enter Tryd.func40, Tryd.ntmps40
    go_wp2_with (go_at_call 58; refine (KX.out _).mono ?_; rintro e w1 ⟨rfl, rfl⟩)
    refine (KE.out _).mono ?_
    rintro e w1 ⟨rfl, hb⟩
    have z1 := z0.next hb
    clear hb z0
    obtain ⟨⟨c0, c1, c2, c3, c4, c5, c6, c7, c8, c9, c10⟩, -⟩ := HF.out _ z1
    go_wp2_with (go_at_call 58; refine (KX.out _).mono ?_; rintro e w1 ⟨rfl, rfl⟩)
    go_ret
    exact ⟨congrArg (fun v => Ending.returned (.int .i64 v)) HR.out.symm, (HF.out _ z1).2⟩
  | true =>
    have HFT := Lib.hid (show f = true by rw [hf]; simp [])
    clear hf
    by_cases hn0 : n < 0
    · have HR := Lib.hid (HX.out 3 (by decide) (HH.out.2.2.1 HFT.out (fun h => by have := of_decide_eq_true h; omega) (.inl hn0)))
      go_enter Tryd.func40, Tryd.ntmps40
      go_wp2_with (go_at_call 58; refine (KX.out _).mono ?_; rintro e w1 ⟨rfl, rfl⟩)
      refine (KE.out _).mono ?_
      rintro e w1 ⟨rfl, hb⟩
      have z1 := z0.next hb
      clear hb z0
      obtain ⟨⟨c0, c1, c2, c3, c4, c5, c6, c7, c8, c9, c10⟩, -⟩ := HF.out _ z1
      go_wp2_with (go_at_call 58; refine (KX.out _).mono ?_; rintro e w1 ⟨rfl, rfl⟩)
      go_ret
      exact ⟨congrArg (fun v => Ending.returned (.int .i64 v)) HR.out.symm, (HF.out _ z1).2⟩
    by_cases h64 : 64 < n
    · have HR := Lib.hid (HX.out 3 (by decide) (HH.out.2.2.1 HFT.out (fun h => by have := of_decide_eq_true h; omega) (.inr ⟨rfl, h64⟩)))
      go_enter Tryd.func40, Tryd.ntmps40
      go_wp2_with (go_at_call 58; refine (KX.out _).mono ?_; rintro e w1 ⟨rfl, rfl⟩)
      refine (KE.out _).mono ?_
      rintro e w1 ⟨rfl, hb⟩
      have z1 := z0.next hb
      clear hb z0
      obtain ⟨⟨c0, c1, c2, c3, c4, c5, c6, c7, c8, c9, c10⟩, -⟩ := HF.out _ z1
      go_wp2_with (go_at_call 58; refine (KX.out _).mono ?_; rintro e w1 ⟨rfl, rfl⟩)
      go_ret
      exact ⟨congrArg (fun v => Ending.returned (.int .i64 v)) HR.out.symm, (HF.out _ z1).2⟩
    have HEP := Lib.hid (HP.out (HH.out.2.2.2 HFT.out (fun h => by have := of_decide_eq_true h; omega) (by omega) (by omega)))
    go_enter Tryd.func40, Tryd.ntmps40
    go_wp2_with (go_at_call 58; refine (KX.out _).mono ?_; rintro e w1 ⟨rfl, rfl⟩)
    refine (KE.out _).mono ?_
    rintro e w1 ⟨rfl, hb⟩
    have z1 := z0.next hb
    clear hb z0
    obtain ⟨⟨c0, c1, c2, c3, c4, c5, c6, c7, c8, c9, c10⟩, -⟩ := HF.out _ z1
    go_wp2_with (go_at_call 58; refine (KX.out _).mono ?_; rintro e w1 ⟨rfl, rfl⟩)
    have HEP2 := Lib.hid (show E = if VB ≠ 0 then VB else VL by rw [HEP.out, if_neg (fun h => by have := h.1; cases this)])
    refine (KB.out _ (HF.out _ z1).2).mono ?_
    rintro e w6 ⟨rfl, hb⟩
    have z6 := z1.next hb
    clear hb c0 c1 c2 c3 c4 c5 c6 c7 c8 c9 c10 z1
    obtain ⟨⟨c0, c1, c2, c3, c4, c5, c6, c7, c8, c9, c10⟩, -⟩ := HF.out _ z6
    by_cases hv6 : VB = 0
    rotate_left
    · have hv1' : (VB != 0) = true := by simp [hv6]
      have HR := Lib.hid (show E = VB by rw [HEP2.out, if_pos hv6])
      go_wp2
      go_ret
      exact ⟨congrArg (fun v => Ending.returned (.int .i64 v)) HR.out.symm, (HF.out _ z6).2⟩
    have HEP3 := Lib.hid (show E = VL by rw [HEP2.out, if_neg (fun h => h hv6)])
    have hv1' : (VB != 0) = false := by simp [hv6]
    clear hv6
    go_wp2_with fail
    refine (KL.out _ (HF.out _ z6).2).mono ?_
    rintro e w7 ⟨rfl, hb⟩
    have z7 := z6.next hb
    clear hb c0 c1 c2 c3 c4 c5 c6 c7 c8 c9 c10 z6
    go_wp2
    go_ret
    exact ⟨congrArg (fun v => Ending.returned (.int .i64 v)) HEP3.out.symm, (HF.out _ z7).2⟩

set_option maxRecDepth 100000 in
set_option maxHeartbeats 12800000 in
theorem rstmt5_mid (s : Str) (n : Int) (x : Ex) (b l : List St) (ihb : RWrongL b) (ihl : RWrongL l) (d : Int) (w : World) (S : Nat → Prop) (cs : List Value) (hd0 : 0 ≤ d) (hd : ¬ 12 < d) (hsm : (St.mk 5 s n x b l).Sm) (hsz : (St.mk 5 s n x b l).size ≤ 1000000) (hx : SV w S (.mk 5 s n x b l) cs) :
    Calls Tryd.prog 40 #[.agg cs.toArray, .int .i64 d] w fun e' w' => e' = .returned (.int .i64 (chkS d (.mk 5 s n x b l))) ∧ Below w.heap.size w w' := by
  rw [St.Sm] at hsm
  rw [St.size] at hsz
  obtain ⟨ex, B, nb, cb, L, nl, cl, rfl, hex, hB, hL⟩ := hx.open_
  obtain ⟨V, hV⟩ : ∃ V, V = chkE 1 x := ⟨_, rfl⟩
  obtain ⟨VB, hVB⟩ : ∃ V, V = chkSs (d + 1) b := ⟨_, rfl⟩
  obtain ⟨VL, hVL⟩ : ∃ V, V = chkSs (d + 1) l := ⟨_, rfl⟩
  obtain ⟨E, hE⟩ : ∃ E, E = chkS d (.mk 5 s n x b l) := ⟨_, rfl⟩
  rw [← hE]
  have HX := Lib.hid (show ∀ v, v ≠ 0 → headS d 5 s n x b.length l.length = v → E = v from fun v h1 h2 => by rw [hE, chkS_head (by rw [h2]; exact h1), h2])
  have HP := Lib.hid (show headS d 5 s n x b.length l.length = 0 → E = if hasX 5 = true ∧ V ≠ 0 then V else if VB ≠ 0 then VB else VL from fun h => by rw [hE, chkS_parts h, ← hV, ← hVB, ← hVL])
  obtain ⟨f, hf⟩ : ∃ f, f = formS 5 s n x nb nl := ⟨_, rfl⟩
  have HH := Lib.hid (headS_cases 5 (by decide) s n x nb nl d hd hf)
  rw [hB.1.1, hL.1.1] at HH
  have KB := Lib.hid (show ∀ W, Below w.heap.size w W → Calls Tryd.prog 22 #[.slice B nb cb, .int .i64 (d + 1)] W fun e' w' => e' = .returned (.int .i64 VB) ∧ Below W.heap.size W w' from fun W h => by rw [hVB]; exact ihb (d + 1) W S B nb cb (by omega) (by omega) hsm.2.2.1 (by omega) (hB.below h))
  have KL := Lib.hid (show ∀ W, Below w.heap.size w W → Calls Tryd.prog 22 #[.slice L nl cl, .int .i64 (d + 1)] W fun e' w' => e' = .returned (.int .i64 VL) ∧ Below W.heap.size W w' from fun W h => by rw [hVL]; exact ihl (d + 1) W S L nl cl (by omega) (by omega) hsm.2.2.2 (by omega) (hL.below h))
  have KV := Lib.hid (show ∀ W, Below w.heap.size w W → Calls Tryd.prog 60 #[.agg ex.toArray, .int .i64 1] W fun e' w' => e' = .returned (.int .i64 V) ∧ Below W.heap.size W w' from fun W h => by rw [hV]; exact rexprWrong_any x 1 W S ex (by decide) (by decide) hsm.2.1 (hex.below h))
  have KS := Lib.hid (fun W => name_any s W hsm.1)
  obtain ⟨QS, hQS⟩ : ∃ q, q = nameOk s := ⟨_, rfl⟩
  rw [← hQS] at HH KS
  clear hV hVB hVL hE hQS
  obtain ⟨ek, en, es, em, a, o⟩ := x
  obtain ⟨A, na, ca, O, no, co, rfl, hA, hO⟩ := hex.open_
  have KE := Lib.hid (fun W => rempty_any ek en es em A na ca O no co a o W hA.1.1 hO.1.1)
  have KX := Lib.hid (show ∀ W, Calls Tryd.prog 58 #[.int .i64 5] W fun e w' => e = .returned (.bool true) ∧ w' = W from fun W => has_any 5 W)
  obtain ⟨q, hq⟩ : ∃ q, q = emptyE (.mk ek en es em a o) := ⟨_, rfl⟩
  rw [← hq] at KE
  unfold formS hasX at hf
  rw [← hq] at hf
  simp only [Ex.kind] at hf
  clear hq
  have HB0 := Lib.hid (show Below w.heap.size w (w.alloc (.cells #[.int .i64 5, .string (bs s), .int .i64 n, .int .i64 ek, .int .i64 en, .string (bs es), .string (bs em), .slice A na ca, .slice O no co, .slice B nb cb, .slice L nl cl] 85)) from (Below.refl _ _).alloc (Nat.le_refl _) _)
  have HF := Lib.hid (show ∀ W, Bz (w.alloc (.cells #[.int .i64 5, .string (bs s), .int .i64 n, .int .i64 ek, .int .i64 en, .string (bs es), .string (bs em), .slice A na ca, .slice O no co, .slice B nb cb, .slice L nl cl] 85)) W → (W.cell? ⟨w.heap.size, 0, none⟩ = some (.int .i64 5) ∧ W.cell? ⟨w.heap.size, 1, none⟩ = some (.string (bs s)) ∧ W.cell? ⟨w.heap.size, 2, none⟩ = some (.int .i64 n) ∧ W.cell? ⟨w.heap.size, 3, none⟩ = some (.int .i64 ek) ∧ W.cell? ⟨w.heap.size, 4, none⟩ = some (.int .i64 en) ∧ W.cell? ⟨w.heap.size, 5, none⟩ = some (.string (bs es)) ∧ W.cell? ⟨w.heap.size, 6, none⟩ = some (.string (bs em)) ∧ W.cell? ⟨w.heap.size, 7, none⟩ = some (.slice A na ca) ∧ W.cell? ⟨w.heap.size, 8, none⟩ = some (.slice O no co) ∧ W.cell? ⟨w.heap.size, 9, none⟩ = some (.slice B nb cb) ∧ W.cell? ⟨w.heap.size, 10, none⟩ = some (.slice L nl cl)) ∧ Below w.heap.size w W from fun W h => ⟨st_cells ((h.b.block _ (lt_alloc w _)).trans (heap_alloc_new w _)), HB0.out.trans (h.b.mono HB0.out.size)⟩)
  have z0 : Bz (w.alloc (.cells #[.int .i64 5, .string (bs s), .int .i64 n, .int .i64 ek, .int .i64 en, .string (bs es), .string (bs em), .slice A na ca, .slice O no co, .slice B nb cb, .slice L nl cl] 85)) (w.alloc (.cells #[.int .i64 5, .string (bs s), .int .i64 n, .int .i64 ek, .int .i64 en, .string (bs es), .string (bs em), .slice A na ca, .slice O no co, .slice B nb cb, .slice L nl cl] 85)) := ⟨Below.refl _ _⟩
  clear hx hex hB hL hA hO ihb ihl hsm hsz HB0
  unfold exC at KV
  unfold stC exC
  simp only [List.cons_append, List.nil_append]
  by_cases qs : s = []
  rotate_left
  · obtain ⟨qs1, qs2⟩ := cons_facts qs
    have qs3 := beq_nil qs
    have HR := Lib.hid (HX.out 5 (by decide) (HH.out.1 (by rw [hf]; simp [qs])))
    clear hf
    go_enter Tryd.func40, Tryd.ntmps40
    go_wp2_with (go_at_call 58; refine (KX.out _).mono ?_; rintro e w1 ⟨rfl, rfl⟩)
    go_ret
    exact ⟨congrArg (fun v => Ending.returned (.int .i64 v)) HR.out.symm, (HF.out _ z0).2⟩
  obtain ⟨qs1, qs2⟩ := nil_facts qs
  subst qs
  by_cases qn : n = 0
  rotate_left
  · have qn1 : (n != 0) = true := by simp [qn]
    have HR := Lib.hid (HX.out 5 (by decide) (HH.out.1 (by rw [hf]; simp [qn])))
    clear hf
    go_enter Tryd.func40, Tryd.ntmps40
    go_wp2_with (go_at_call 58; refine (KX.out _).mono ?_; rintro e w1 ⟨rfl, rfl⟩)
    go_ret
    exact ⟨congrArg (fun v => Ending.returned (.int .i64 v)) HR.out.symm, (HF.out _ z0).2⟩
  subst qn
  by_cases ql : nl = 0
  rotate_left
  · have ql1 : 0 < (nl : Int) := by omega
    have ql2 : 0 < nl := by omega
    have HR := Lib.hid (HX.out 5 (by decide) (HH.out.1 (by rw [hf]; simp [ql, ql2])))
    clear hf
    go_enter Tryd.func40, Tryd.ntmps40
    go_wp2_with (go_at_call 58; refine (KX.out _).mono ?_; rintro e w1 ⟨rfl, rfl⟩)
    go_ret
    exact ⟨congrArg (fun v => Ending.returned (.int .i64 v)) HR.out.symm, (HF.out _ z0).2⟩
  subst ql
  by_cases qb : nb = 0
  rotate_left
  · have qb1 : 0 < (nb : Int) := by omega
    have qb2 : 0 < nb := by omega
    have HR := Lib.hid (HX.out 5 (by decide) (HH.out.1 (by rw [hf]; simp [qb, qb2])))
    clear hf
    go_enter Tryd.func40, Tryd.ntmps40
    go_wp2_with (go_at_call 58; refine (KX.out _).mono ?_; rintro e w1 ⟨rfl, rfl⟩)
    go_ret
    exact ⟨congrArg (fun v => Ending.returned (.int .i64 v)) HR.out.symm, (HF.out _ z0).2⟩
  subst qb
  have HFT := Lib.hid (show f = true by rw [hf]; simp [])
  clear hf
  have HEP := Lib.hid (HP.out (HH.out.2.2.2 HFT.out (fun h => by have := of_decide_eq_true h; omega) (by omega) (by omega)))
  go_enter Tryd.func40, Tryd.ntmps40
  go_wp2_with (go_at_call 58; refine (KX.out _).mono ?_; rintro e w1 ⟨rfl, rfl⟩)
  refine (KV.out _ (HF.out _ z0).2).mono ?_
  rintro e w5 ⟨rfl, hb⟩
  have z5 := z0.next hb
  clear hb  z0
  obtain ⟨⟨c0, c1, c2, c3, c4, c5, c6, c7, c8, c9, c10⟩, -⟩ := HF.out _ z5
  by_cases hv : V = 0
  rotate_left
  · have hv1 : (V != 0) = true := by simp [hv]
    have HR := Lib.hid (show E = V by rw [HEP.out, if_pos ⟨rfl, hv⟩])
    go_wp2
    go_ret
    exact ⟨congrArg (fun v => Ending.returned (.int .i64 v)) HR.out.symm, (HF.out _ z5).2⟩
  have HEP2 := Lib.hid (show E = if VB ≠ 0 then VB else VL by rw [HEP.out, if_neg (fun h => h.2 hv)])
  have hv1 : (V != 0) = false := by simp [hv]
  clear hv
  go_wp2_with fail
  refine (KB.out _ (HF.out _ z5).2).mono ?_
  rintro e w6 ⟨rfl, hb⟩
  have z6 := z5.next hb
  clear hb c0 c1 c2 c3 c4 c5 c6 c7 c8 c9 c10 z5
  obtain ⟨⟨c0, c1, c2, c3, c4, c5, c6, c7, c8, c9, c10⟩, -⟩ := HF.out _ z6
  by_cases hv6 : VB = 0
  rotate_left
  · have hv1' : (VB != 0) = true := by simp [hv6]
    have HR := Lib.hid (show E = VB by rw [HEP2.out, if_pos hv6])
    go_wp2
    go_ret
    exact ⟨congrArg (fun v => Ending.returned (.int .i64 v)) HR.out.symm, (HF.out _ z6).2⟩
  have HEP3 := Lib.hid (show E = VL by rw [HEP2.out, if_neg (fun h => h hv6)])
  have hv1' : (VB != 0) = false := by simp [hv6]
  clear hv6
  go_wp2_with fail
  refine (KL.out _ (HF.out _ z6).2).mono ?_
  rintro e w7 ⟨rfl, hb⟩
  have z7 := z6.next hb
  clear hb c0 c1 c2 c3 c4 c5 c6 c7 c8 c9 c10 z6
  go_wp2
  go_ret
  exact ⟨congrArg (fun v => Ending.returned (.int .i64 v)) HEP3.out.symm, (HF.out _ z7).2⟩

set_option maxRecDepth 100000 in
set_option maxHeartbeats 12800000 in
theorem rstmt6_mid (s : Str) (n : Int) (x : Ex) (b l : List St) (ihb : RWrongL b) (ihl : RWrongL l) (d : Int) (w : World) (S : Nat → Prop) (cs : List Value) (hd0 : 0 ≤ d) (hd : ¬ 12 < d) (hsm : (St.mk 6 s n x b l).Sm) (hsz : (St.mk 6 s n x b l).size ≤ 1000000) (hx : SV w S (.mk 6 s n x b l) cs) :
    Calls Tryd.prog 40 #[.agg cs.toArray, .int .i64 d] w fun e' w' => e' = .returned (.int .i64 (chkS d (.mk 6 s n x b l))) ∧ Below w.heap.size w w' := by
  rw [St.Sm] at hsm
  rw [St.size] at hsz
  obtain ⟨ex, B, nb, cb, L, nl, cl, rfl, hex, hB, hL⟩ := hx.open_
  obtain ⟨V, hV⟩ : ∃ V, V = chkE 1 x := ⟨_, rfl⟩
  obtain ⟨VB, hVB⟩ : ∃ V, V = chkSs (d + 1) b := ⟨_, rfl⟩
  obtain ⟨VL, hVL⟩ : ∃ V, V = chkSs (d + 1) l := ⟨_, rfl⟩
  obtain ⟨E, hE⟩ : ∃ E, E = chkS d (.mk 6 s n x b l) := ⟨_, rfl⟩
  rw [← hE]
  have HX := Lib.hid (show ∀ v, v ≠ 0 → headS d 6 s n x b.length l.length = v → E = v from fun v h1 h2 => by rw [hE, chkS_head (by rw [h2]; exact h1), h2])
  have HP := Lib.hid (show headS d 6 s n x b.length l.length = 0 → E = if hasX 6 = true ∧ V ≠ 0 then V else if VB ≠ 0 then VB else VL from fun h => by rw [hE, chkS_parts h, ← hV, ← hVB, ← hVL])
  obtain ⟨f, hf⟩ : ∃ f, f = formS 6 s n x nb nl := ⟨_, rfl⟩
  have HH := Lib.hid (headS_cases 6 (by decide) s n x nb nl d hd hf)
  rw [hB.1.1, hL.1.1] at HH
  have KB := Lib.hid (show ∀ W, Below w.heap.size w W → Calls Tryd.prog 22 #[.slice B nb cb, .int .i64 (d + 1)] W fun e' w' => e' = .returned (.int .i64 VB) ∧ Below W.heap.size W w' from fun W h => by rw [hVB]; exact ihb (d + 1) W S B nb cb (by omega) (by omega) hsm.2.2.1 (by omega) (hB.below h))
  have KL := Lib.hid (show ∀ W, Below w.heap.size w W → Calls Tryd.prog 22 #[.slice L nl cl, .int .i64 (d + 1)] W fun e' w' => e' = .returned (.int .i64 VL) ∧ Below W.heap.size W w' from fun W h => by rw [hVL]; exact ihl (d + 1) W S L nl cl (by omega) (by omega) hsm.2.2.2 (by omega) (hL.below h))
  have KV := Lib.hid (show ∀ W, Below w.heap.size w W → Calls Tryd.prog 60 #[.agg ex.toArray, .int .i64 1] W fun e' w' => e' = .returned (.int .i64 V) ∧ Below W.heap.size W w' from fun W h => by rw [hV]; exact rexprWrong_any x 1 W S ex (by decide) (by decide) hsm.2.1 (hex.below h))
  have KS := Lib.hid (fun W => name_any s W hsm.1)
  obtain ⟨QS, hQS⟩ : ∃ q, q = nameOk s := ⟨_, rfl⟩
  rw [← hQS] at HH KS
  clear hV hVB hVL hE hQS
  obtain ⟨ek, en, es, em, a, o⟩ := x
  obtain ⟨A, na, ca, O, no, co, rfl, hA, hO⟩ := hex.open_
  have KE := Lib.hid (fun W => rempty_any ek en es em A na ca O no co a o W hA.1.1 hO.1.1)
  have KX := Lib.hid (show ∀ W, Calls Tryd.prog 58 #[.int .i64 6] W fun e w' => e = .returned (.bool false) ∧ w' = W from fun W => has_any 6 W)
  obtain ⟨q, hq⟩ : ∃ q, q = emptyE (.mk ek en es em a o) := ⟨_, rfl⟩
  rw [← hq] at KE
  unfold formS hasX at hf
  rw [← hq] at hf
  simp only [Ex.kind] at hf
  clear hq
  have HB0 := Lib.hid (show Below w.heap.size w (w.alloc (.cells #[.int .i64 6, .string (bs s), .int .i64 n, .int .i64 ek, .int .i64 en, .string (bs es), .string (bs em), .slice A na ca, .slice O no co, .slice B nb cb, .slice L nl cl] 85)) from (Below.refl _ _).alloc (Nat.le_refl _) _)
  have HF := Lib.hid (show ∀ W, Bz (w.alloc (.cells #[.int .i64 6, .string (bs s), .int .i64 n, .int .i64 ek, .int .i64 en, .string (bs es), .string (bs em), .slice A na ca, .slice O no co, .slice B nb cb, .slice L nl cl] 85)) W → (W.cell? ⟨w.heap.size, 0, none⟩ = some (.int .i64 6) ∧ W.cell? ⟨w.heap.size, 1, none⟩ = some (.string (bs s)) ∧ W.cell? ⟨w.heap.size, 2, none⟩ = some (.int .i64 n) ∧ W.cell? ⟨w.heap.size, 3, none⟩ = some (.int .i64 ek) ∧ W.cell? ⟨w.heap.size, 4, none⟩ = some (.int .i64 en) ∧ W.cell? ⟨w.heap.size, 5, none⟩ = some (.string (bs es)) ∧ W.cell? ⟨w.heap.size, 6, none⟩ = some (.string (bs em)) ∧ W.cell? ⟨w.heap.size, 7, none⟩ = some (.slice A na ca) ∧ W.cell? ⟨w.heap.size, 8, none⟩ = some (.slice O no co) ∧ W.cell? ⟨w.heap.size, 9, none⟩ = some (.slice B nb cb) ∧ W.cell? ⟨w.heap.size, 10, none⟩ = some (.slice L nl cl)) ∧ Below w.heap.size w W from fun W h => ⟨st_cells ((h.b.block _ (lt_alloc w _)).trans (heap_alloc_new w _)), HB0.out.trans (h.b.mono HB0.out.size)⟩)
  have z0 : Bz (w.alloc (.cells #[.int .i64 6, .string (bs s), .int .i64 n, .int .i64 ek, .int .i64 en, .string (bs es), .string (bs em), .slice A na ca, .slice O no co, .slice B nb cb, .slice L nl cl] 85)) (w.alloc (.cells #[.int .i64 6, .string (bs s), .int .i64 n, .int .i64 ek, .int .i64 en, .string (bs es), .string (bs em), .slice A na ca, .slice O no co, .slice B nb cb, .slice L nl cl] 85)) := ⟨Below.refl _ _⟩
  clear hx hex hB hL hA hO ihb ihl hsm hsz HB0
  unfold exC at KV
  unfold stC exC
  simp only [List.cons_append, List.nil_append]
  by_cases qs : s = []
  rotate_left
  · obtain ⟨qs1, qs2⟩ := cons_facts qs
    have qs3 := beq_nil qs
    have HR := Lib.hid (HX.out 5 (by decide) (HH.out.1 (by rw [hf]; simp [qs])))
    clear hf
    go_enter Tryd.func40, Tryd.ntmps40
    go_wp2_with (go_at_call 58; refine (KX.out _).mono ?_; rintro e w1 ⟨rfl, rfl⟩)
    go_ret
    exact ⟨congrArg (fun v => Ending.returned (.int .i64 v)) HR.out.symm, (HF.out _ z0).2⟩
  obtain ⟨qs1, qs2⟩ := nil_facts qs
  subst qs
  by_cases ql : nl = 0
  rotate_left
  · have ql1 : 0 < (nl : Int) := by omega
    have ql2 : 0 < nl := by omega
    have HR := Lib.hid (HX.out 5 (by decide) (HH.out.1 (by rw [hf]; simp [ql, ql2])))
    clear hf
    go_enter Tryd.func40, Tryd.ntmps40
    go_wp2_with (go_at_call 58; refine (KX.out _).mono ?_; rintro e w1 ⟨rfl, rfl⟩)
    go_ret
    exact ⟨congrArg (fun v => Ending.returned (.int .i64 v)) HR.out.symm, (HF.out _ z0).2⟩
  subst ql
  by_cases qb : nb = 0
  rotate_left
  · have qb1 : 0 < (nb : Int) := by omega
    have qb2 : 0 < nb := by omega
    have HR := Lib.hid (HX.out 5 (by decide) (HH.out.1 (by rw [hf]; simp [qb, qb2])))
    clear hf
    go_enter Tryd.func40, Tryd.ntmps40
    go_wp2_with (go_at_call 58; refine (KX.out _).mono ?_; rintro e w1 ⟨rfl, rfl⟩)
    go_ret
    exact ⟨congrArg (fun v => Ending.returned (.int .i64 v)) HR.out.symm, (HF.out _ z0).2⟩
  subst qb
  cases q with
  | false =>
    have HR := Lib.hid (HX.out 5 (by decide) (HH.out.1 (by rw [hf]; simp [])))
    clear hf
    go_enter Tryd.func40, Tryd.ntmps40
    go_wp2_with (go_at_call 58; refine (KX.out _).mono ?_; rintro e w1 ⟨rfl, rfl⟩)
    refine (KE.out _).mono ?_
    rintro e w1 ⟨rfl, hb⟩
    have z1 := z0.next hb
    clear hb z0
    obtain ⟨⟨c0, c1, c2, c3, c4, c5, c6, c7, c8, c9, c10⟩, -⟩ := HF.out _ z1
    go_wp2_with (go_at_call 58; refine (KX.out _).mono ?_; rintro e w1 ⟨rfl, rfl⟩)
    go_ret
    exact ⟨congrArg (fun v => Ending.returned (.int .i64 v)) HR.out.symm, (HF.out _ z1).2⟩
  | true =>
    have HFT := Lib.hid (show f = true by rw [hf]; simp [])
    clear hf
    by_cases hn0 : n < 0
    · have HR := Lib.hid (HX.out 3 (by decide) (HH.out.2.2.1 HFT.out (fun h => by have := of_decide_eq_true h; omega) (.inl hn0)))
      go_enter Tryd.func40, Tryd.ntmps40
      go_wp2_with (go_at_call 58; refine (KX.out _).mono ?_; rintro e w1 ⟨rfl, rfl⟩)
      refine (KE.out _).mono ?_
      rintro e w1 ⟨rfl, hb⟩
      have z1 := z0.next hb
      clear hb z0
      obtain ⟨⟨c0, c1, c2, c3, c4, c5, c6, c7, c8, c9, c10⟩, -⟩ := HF.out _ z1
      go_wp2_with (go_at_call 58; refine (KX.out _).mono ?_; rintro e w1 ⟨rfl, rfl⟩)
      go_ret
      exact ⟨congrArg (fun v => Ending.returned (.int .i64 v)) HR.out.symm, (HF.out _ z1).2⟩
    have HEP := Lib.hid (HP.out (HH.out.2.2.2 HFT.out (fun h => by have := of_decide_eq_true h; omega) (by omega) (by omega)))
    go_enter Tryd.func40, Tryd.ntmps40
    go_wp2_with (go_at_call 58; refine (KX.out _).mono ?_; rintro e w1 ⟨rfl, rfl⟩)
    refine (KE.out _).mono ?_
    rintro e w1 ⟨rfl, hb⟩
    have z1 := z0.next hb
    clear hb z0
    obtain ⟨⟨c0, c1, c2, c3, c4, c5, c6, c7, c8, c9, c10⟩, -⟩ := HF.out _ z1
    go_wp2_with (go_at_call 58; refine (KX.out _).mono ?_; rintro e w1 ⟨rfl, rfl⟩)
    have HEP2 := Lib.hid (show E = if VB ≠ 0 then VB else VL by rw [HEP.out, if_neg (fun h => by have := h.1; cases this)])
    refine (KB.out _ (HF.out _ z1).2).mono ?_
    rintro e w6 ⟨rfl, hb⟩
    have z6 := z1.next hb
    clear hb c0 c1 c2 c3 c4 c5 c6 c7 c8 c9 c10 z1
    obtain ⟨⟨c0, c1, c2, c3, c4, c5, c6, c7, c8, c9, c10⟩, -⟩ := HF.out _ z6
    by_cases hv6 : VB = 0
    rotate_left
    · have hv1' : (VB != 0) = true := by simp [hv6]
      have HR := Lib.hid (show E = VB by rw [HEP2.out, if_pos hv6])
      go_wp2
      go_ret
      exact ⟨congrArg (fun v => Ending.returned (.int .i64 v)) HR.out.symm, (HF.out _ z6).2⟩
    have HEP3 := Lib.hid (show E = VL by rw [HEP2.out, if_neg (fun h => h hv6)])
    have hv1' : (VB != 0) = false := by simp [hv6]
    clear hv6
    go_wp2_with fail
    refine (KL.out _ (HF.out _ z6).2).mono ?_
    rintro e w7 ⟨rfl, hb⟩
    have z7 := z6.next hb
    clear hb c0 c1 c2 c3 c4 c5 c6 c7 c8 c9 c10 z6
    go_wp2
    go_ret
    exact ⟨congrArg (fun v => Ending.returned (.int .i64 v)) HEP3.out.symm, (HF.out _ z7).2⟩

set_option maxRecDepth 100000 in
theorem rstmtWrong_head (e : St) (d : Int) (w : World) (S : Nat → Prop) (cs : List Value) (hd : 12 < d) (hx : SV w S e cs) :
    Calls Tryd.prog 40 #[.agg cs.toArray, .int .i64 d] w fun e' w' => e' = .returned (.int .i64 18) ∧ Below w.heap.size w w' := by
  obtain ⟨k, s, n, x, b, l⟩ := e
  obtain ⟨ex, B, nb, cb, L, nl, cl, rfl, hex, -, -⟩ := hx.open_
  obtain ⟨ek, en, es, em, a, o⟩ := x
  obtain ⟨A, na, ca, O, no, co, rfl, -, -⟩ := hex.open_
  clear hx hex
  unfold stC exC
  simp only [List.cons_append, List.nil_append]
  go_enter Tryd.func40, Tryd.ntmps40
  go_wp2
  go_ret
  exact ⟨rfl, (Below.refl _ _).alloc (Nat.le_refl _) _⟩
set_option maxRecDepth 100000 in
theorem rstmtWrong_kind (k : Int) (s : Str) (n : Int) (x : Ex) (b l : List St) (d : Int) (w : World) (S : Nat → Prop) (cs : List Value) (hd : ¬ 12 < d) (hk : k < 0 ∨ 6 < k) (hx : SV w S (.mk k s n x b l) cs) :
    Calls Tryd.prog 40 #[.agg cs.toArray, .int .i64 d] w fun e' w' => e' = .returned (.int .i64 2) ∧ Below w.heap.size w w' := by
  obtain ⟨ex, B, nb, cb, L, nl, cl, rfl, hex, -, -⟩ := hx.open_
  obtain ⟨ek, en, es, em, a, o⟩ := x
  obtain ⟨A, na, ca, O, no, co, rfl, -, -⟩ := hex.open_
  clear hx hex
  unfold stC exC
  simp only [List.cons_append, List.nil_append]
  rcases Classical.em (k < 0) with h0 | h0
  · clear hk
    go_enter Tryd.func40, Tryd.ntmps40
    go_wp2
    go_ret
    exact ⟨rfl, (Below.refl _ _).alloc (Nat.le_refl _) _⟩
  · have h7 : 6 < k := by omega
    clear hk
    go_enter Tryd.func40, Tryd.ntmps40
    go_wp2
    go_ret
    exact ⟨rfl, (Below.refl _ _).alloc (Nat.le_refl _) _⟩
set_option maxRecDepth 100000 in
set_option maxHeartbeats 12800000 in
theorem rwrongL_of (l : List St) (h : ∀ e ∈ l, RWrongS e) : RWrongL l := by
  intro d w S A n c hd0 hd hsm hsz hl
  have HIN := Lib.hid h
  have HL := Lib.hid hl
  have HLEN := Lib.hid hl.1.1
  have HSM := Lib.hid hsm
  have HSZ := Lib.hid hsz
  have hn6 : (n : Int) ≤ 1000000 := by have := hl.1.1; have := St.len_sizes l; omega
  obtain ⟨E, hE⟩ : ∃ E, E = chkSs d l := ⟨_, rfl⟩
  rw [← hE]
  have HE := Lib.hid hE
  have hb0 : Below w.heap.size w w := Below.refl _ _
  clear h hl hsm hsz hE
  go_enter Tryd.func22, Tryd.ntmps22
  go_wp2_with fail
  go_loopw [5] (fun i wx => ∃ q : Nat, q ≤ l.length ∧ i = .int .i64 q ∧ Hid (chkSs d (l.take q) = 0) ∧ Below w.heap.size w wx) (fun i _ => l.length - (intOf i).toNat)
  case atStart => exact ⟨0, Nat.zero_le _, rfl, Lib.hid (by rw [List.take_zero, chkSs]), hb0⟩
  case round =>
    clear hb0
    obtain ⟨q, hq, rfl, n3, zq⟩ := hrel
    by_cases hlq : q < l.length
    · have hi2 : (q : Int) < (n : Int) := by have := HLEN.out; omega
      obtain ⟨x, b, off, cs, hx, rfl, hb, hS, hxv, hrow⟩ := HL.out.at q (by have := HLEN.out; omega)
      have HXV := Lib.hid hxv
      have HQL := Lib.hid hlq
      have HXQ := Lib.hid hx
      have HXS := Lib.hid (show x.size ≤ 1000000 from by have := St.sizes_mem (List.mem_of_getElem? hx); have := HSZ.out; omega)
      have HIH := Lib.hid (HIN.out x (List.mem_of_getElem? hx))
      obtain ⟨v, hv⟩ : ∃ v, v = chkS d x := ⟨_, rfl⟩
      have HV := Lib.hid hv
      have hrow2 := rangeAt_keep hrow (zq.block b hb)
      obtain ⟨xk, xs, xn, xe, xb, xl⟩ := x
      obtain ⟨ex, B2, nb2, cb2, L2, nl2, cl2, rfl, hex, -, -⟩ := hxv.open_
      obtain ⟨ek, en, es, em, ea, eo⟩ := xe
      obtain ⟨A2, na2, ca2, O2, no2, co2, rfl, -, -⟩ := hex.open_
      obtain ⟨e0, e1, e2, e3, e4, e5, e6, e7, e8, e9, e10⟩ := stC_at hrow2
      clear hx hb hS hxv hrow hrow2 hlq hq hv hex
      unfold stC exC at HXV
      simp only [List.cons_append, List.nil_append] at HXV
      go_wp2_with fail
      have zq1 := zq
      have HC2 := HIH.out d _ S _ hd0 hd (St.Sms_mem HSM.out _ (List.mem_of_getElem? HXQ.out)) HXS.out (HXV.out.below zq1)
      rw [← HV.out] at HC2
      refine HC2.mono ?_
      rintro e' w2 ⟨rfl, hb2⟩
      have zq2 := zq1.trans (hb2.mono zq1.size)
      clear HC2 hb2 e0 e1 e2 e3 e4 e5 e6 e7 e8 e9 e10 zq zq1 HIH HXV
      by_cases hv0 : v = 0
      · subst hv0
        go_wp2
        go_roundw
        case rel => exact ⟨q + 1, HQL.out, by go_num, Lib.hid (chkSs_take_ok HXQ.out n3.out HV.out.symm), zq2⟩
        case measure => exact meas_up _ _ HQL.out
      · have HV0 := Lib.hid hv0
        have hv1 : (v != 0) = true := by simp [hv0]
        have HR := Lib.hid (show E = v from HE.out.trans ((chkSs_take_bad HXQ.out n3.out (by rw [← HV.out]; exact hv0)).trans HV.out.symm))
        go_wp2
        go_ret
        exact ⟨congrArg (fun v => Ending.returned (.int .i64 v)) HR.out.symm, zq2⟩
    · have hi2 : ¬ (q : Int) < (n : Int) := by have := HLEN.out; omega
      have HR := Lib.hid (show E = 0 from HE.out.trans (by rw [← n3.out, List.take_of_length_le (by omega)]))
      clear hlq hq n3
      go_wp2
      go_ret
      exact ⟨congrArg (fun v => Ending.returned (.int .i64 v)) HR.out.symm, zq⟩
theorem rstmtWrong_any (e : St) : RWrongS e := by
  obtain ⟨N, hN⟩ : ∃ N, N = e.size := ⟨_, rfl⟩
  induction N using Nat.strongRecOn generalizing e with
  | _ N ih =>
    intro d w S cs hd0 hdb hsm hsz hx
    obtain ⟨k, s, n, x, b, l⟩ := e
    by_cases hd : 12 < d
    · have h1 : headS d k s n x b.length l.length = 18 := by unfold headS; rw [if_pos hd]
      rw [chkS_head (by rw [h1]; decide), h1]
      exact rstmtWrong_head _ d w S cs hd hx
    · by_cases hk : k < 0 ∨ 6 < k
      · have h1 : headS d k s n x b.length l.length = 2 := by
          unfold headS
          rw [if_neg hd, if_pos hk]
        rw [chkS_head (by rw [h1]; decide), h1]
        exact rstmtWrong_kind k s n x b l d w S cs hd hk hx
      · obtain ⟨j, rfl⟩ : ∃ j : Nat, k = j := ⟨k.toNat, by omega⟩
        have ihb : RWrongL b := rwrongL_of b fun y hy => ih y.size (by have h1 := St.sizes_mem hy; rw [hN, St.size]; omega) y rfl
        have ihl : RWrongL l := rwrongL_of l fun y hy => ih y.size (by have h1 := St.sizes_mem hy; rw [hN, St.size]; omega) y rfl
        have hj : j < 7 := by omega
        match j, hj with
        | 0, _ => exact rstmt0_mid s n x b l ihb ihl d w S cs hd0 hd hsm hsz hx
        | 1, _ => exact rstmt1_mid s n x b l ihb ihl d w S cs hd0 hd hsm hsz hx
        | 2, _ => exact rstmt2_mid s n x b l ihb ihl d w S cs hd0 hd hsm hsz hx
        | 3, _ => exact rstmt3_mid s n x b l ihb ihl d w S cs hd0 hd hsm hsz hx
        | 4, _ => exact rstmt4_mid s n x b l ihb ihl d w S cs hd0 hd hsm hsz hx
        | 5, _ => exact rstmt5_mid s n x b l ihb ihl d w S cs hd0 hd hsm hsz hx
        | 6, _ => exact rstmt6_mid s n x b l ihb ihl d w S cs hd0 hd hsm hsz hx
theorem rstmtsWrong_any (l : List St) : RWrongL l := rwrongL_of l fun e _ => rstmtWrong_any e
end Go.Proofs.YthfjkdgaiaokdaaDoor
