/- The printer's walk: each kind of statement (printed by wip/gensxw.py). Conditions: valid statements; the library's tables are laid (SxW); the text stays short. The printer's walk: lists of statements; how long a text is; strings.Join of parameters. Conditions: valid statements; the library's tables are laid (SxW). -/
import Derived.Test.YtkakbidllpjopaaGreatDoorW12
set_option linter.unusedVariables false
set_option linter.unusedSimpArgs false
namespace Go.Proofs.YtkakbidllpjopaaGreatDoor
open Go.RowKit

set_option maxRecDepth 100000 in
set_option maxHeartbeats 12800000 in
theorem stmt_let (s : Str) (e : Ex) : StmtAt (.mk 0 s 0 e [] []) := by
  intro d D w0 S cs B b l w hD hw hc hz hlen hx hB0 hwB hBw hp
  obtain ⟨hd12, -, -, -, hsn, hn0, hn64, hce, hcb, hcl⟩ := chkS_fields hc
  have hnr := hx.num
  obtain ⟨ex, Bb, nb, cb, Ls, nl, cl, rfl, hex, hbB, hbL⟩ := hx.open_
  have hd1000 : d ≤ 1000 := by omega
  simp only [St.size, St.sizes] at hz
  have z0 := Pz.start (T := 74) (X := (stC 0 s 0 ex Bb nb cb Ls nl cl).toArray) hp hBw (by decide)
  have HBS := Lib.hid (show ∀ W, Below B w W → Below w0.heap.size w0 W from fun W h => hB0.trans (h.mono hwB))
  have hce1 := hce rfl
  have hlt := txE_len e 1 hce1 hex.wd
  have HT0 := textAt_any e
  unfold TextAt at HT0
  obtain ⟨t, ht⟩ : ∃ t, t = txE e := ⟨_, rfl⟩
  rw [← ht] at HT0 hlt
  have hls := name_len (hsn (by decide))
  obtain ⟨T, hT⟩ : ∃ T, T = txS d (.mk 0 s 0 e [] []) := ⟨_, rfl⟩
  rw [← hT] at hlen ⊢
  rw [txS, if_pos rfl, ← ht] at hT
  obtain ⟨c1, hc1⟩ : ∃ c, c = ([108, 101, 116, 32] : Str) ++ s := ⟨_, rfl⟩
  have lc1 : c1.length = 4 + s.length := by rw [hc1]; exact List.length_append
  have jc1 : ∀ w, (Op.stringOp .add (⟨#[108, 101, 116, 32]⟩ : ByteArray) (bs s)).run Tryz.prog w = .ok (.string (bs c1)) w := fun w => by rw [hc1]; exact add_big ([108, 101, 116, 32] : Str) s (by first | omega | (simp; omega)) w
  obtain ⟨c2, hc2⟩ : ∃ c, c = c1 ++ ([32, 61, 32] : Str) := ⟨_, rfl⟩
  have lc2 : c2.length = c1.length + 3 := by rw [hc2]; exact List.length_append
  have jc2 : ∀ w, (Op.stringOp .add (bs c1) (⟨#[32, 61, 32]⟩ : ByteArray)).run Tryz.prog w = .ok (.string (bs c2)) w := fun w => by rw [hc2]; exact add_big c1 ([32, 61, 32] : Str) (by first | omega | (simp; omega)) w
  obtain ⟨c3, hc3⟩ : ∃ c, c = c2 ++ t := ⟨_, rfl⟩
  have lc3 : c3.length = c2.length + t.length := by rw [hc3]; exact List.length_append
  have jc3 : ∀ w, (Op.stringOp .add (bs c2) (bs t)).run Tryz.prog w = .ok (.string (bs c3)) w := fun w => by rw [hc3]; exact add_big c2 t (by first | omega | (simp; omega)) w
  obtain ⟨c4, hc4⟩ : ∃ c, c = c3 ++ ([59] : Str) := ⟨_, rfl⟩
  have lc4 : c4.length = c3.length + 1 := by rw [hc4]; exact List.length_append
  have jc4 : ∀ w, (Op.stringOp .add (bs c3) (⟨#[59]⟩ : ByteArray)).run Tryz.prog w = .ok (.string (bs c4)) w := fun w => by rw [hc4]; exact add_big c3 ([59] : Str) (by first | omega | (simp; omega)) w
  rw [← hc1, ← hc2, ← hc3, ← hc4] at hT
  have hTl := congrArg List.length hT
  rw [lineT_len] at hTl
  obtain ⟨ek, en, es, em, ea, eo⟩ := e
  obtain ⟨A2, na2, ca2, O2, no2, co2, rfl, -, -⟩ := hex.open_
  have z0 : Pz B b w w.heap.size 74 #[.int .i64 0, .string (bs s), .int .i64 0, .int .i64 ek, .int .i64 en, .string (bs es), .string (bs em), .slice A2 na2 ca2, .slice O2 no2 co2, .slice Bb nb cb, .slice Ls nl cl] l (w.alloc (.cells #[.int .i64 0, .string (bs s), .int .i64 0, .int .i64 ek, .int .i64 en, .string (bs es), .string (bs em), .slice A2 na2 ca2, .slice O2 no2 co2, .slice Bb nb cb, .slice Ls nl cl] 74)) := z0
  have HC := Lib.hid (show ∀ l' W, Pz B b w w.heap.size 74 #[.int .i64 0, .string (bs s), .int .i64 0, .int .i64 ek, .int .i64 en, .string (bs es), .string (bs em), .slice A2 na2 ca2, .slice O2 no2 co2, .slice Bb nb cb, .slice Ls nl cl] l' W → (W.cell? ⟨w.heap.size, 0, none⟩ = some (.int .i64 0) ∧ W.cell? ⟨w.heap.size, 1, none⟩ = some (.string (bs s)) ∧ W.cell? ⟨w.heap.size, 2, none⟩ = some (.int .i64 0) ∧ W.cell? ⟨w.heap.size, 3, none⟩ = some (.int .i64 ek) ∧ W.cell? ⟨w.heap.size, 4, none⟩ = some (.int .i64 en) ∧ W.cell? ⟨w.heap.size, 5, none⟩ = some (.string (bs es)) ∧ W.cell? ⟨w.heap.size, 6, none⟩ = some (.string (bs em)) ∧ W.cell? ⟨w.heap.size, 7, none⟩ = some (.slice A2 na2 ca2) ∧ W.cell? ⟨w.heap.size, 8, none⟩ = some (.slice O2 no2 co2) ∧ W.cell? ⟨w.heap.size, 9, none⟩ = some (.slice Bb nb cb) ∧ W.cell? ⟨w.heap.size, 10, none⟩ = some (.slice Ls nl cl)) from fun l' W z => st_cells z.bx)
  have HW := Lib.hid (show ∀ l' W, Pz B b w w.heap.size 74 #[.int .i64 0, .string (bs s), .int .i64 0, .int .i64 ek, .int .i64 en, .string (bs es), .string (bs em), .slice A2 na2 ca2, .slice O2 no2 co2, .slice Bb nb cb, .slice Ls nl cl] l' W → SxW W from fun l' W z => hw.below (HBS.out W z.bl))
  have HT := Lib.hid (show ∀ l' W, Pz B b w w.heap.size 74 #[.int .i64 0, .string (bs s), .int .i64 0, .int .i64 ek, .int .i64 en, .string (bs es), .string (bs em), .slice A2 na2 ca2, .slice O2 no2 co2, .slice Bb nb cb, .slice Ls nl cl] l' W → Calls Tryz.prog 85 #[.agg #[.int .i64 ek, .int .i64 en, .string (bs es), .string (bs em), .slice A2 na2 ca2, .slice O2 no2 co2]] W fun e' w' => e' = .returned (.string (bs t)) ∧ Below W.heap.size W w' from fun l' W z => HT0 1 W S _ (HW.out l' W z) hce1 (by omega) (hex.below (HBS.out W z.bl)))
  have HL1 := Lib.hid (show ∀ W, Pz B b w w.heap.size 74 #[.int .i64 0, .string (bs s), .int .i64 0, .int .i64 ek, .int .i64 en, .string (bs es), .string (bs em), .slice A2 na2 ca2, .slice O2 no2 co2, .slice Bb nb cb, .slice Ls nl cl] (l) W → Calls Tryz.prog 25 #[.pointer (some ⟨b, 0, none⟩), .int .i64 D, .string (bs c4)] W fun e w' => e = .returned (.tuple #[]) ∧ PB B b (l ++ lineT d c4) w' ∧ Below B W w' ∧ Fr b W w' from fun W z => by
    rw [hD]
    exact line_any B b (l) c4 d W hd1000 z.pb (by omega) z.sz)
  have HEND := Lib.hid (show l ++ lineT d c4 = l ++ T from by rw [hT]; all_goals simp only [List.append_assoc])
  clear hT hTl hc1 lc1 hc2 lc2 hc3 lc3 hc4 lc4 ht hlt HT0 hex hbB hbL hcb hcl hce hsn hn0 hn64 hnr hc hz hlen hx hB0 hwB hBw hp hd1000 hw hD hce1 hls
  unfold stC exC
  simp only [List.cons_append, List.nil_append]
  go_enter Tryz.func52, Tryz.ntmps52
  go_upto_region 3 with fail
  have z1 := z0.drew
  go_region_held3 (fun W => (W.cell? ⟨w.heap.size, 0, none⟩ = some (.int .i64 0) ∧ W.cell? ⟨w.heap.size, 1, none⟩ = some (.string (bs s)) ∧ W.cell? ⟨w.heap.size, 2, none⟩ = some (.int .i64 0) ∧ W.cell? ⟨w.heap.size, 3, none⟩ = some (.int .i64 ek) ∧ W.cell? ⟨w.heap.size, 4, none⟩ = some (.int .i64 en) ∧ W.cell? ⟨w.heap.size, 5, none⟩ = some (.string (bs es)) ∧ W.cell? ⟨w.heap.size, 6, none⟩ = some (.string (bs em)) ∧ W.cell? ⟨w.heap.size, 7, none⟩ = some (.slice A2 na2 ca2) ∧ W.cell? ⟨w.heap.size, 8, none⟩ = some (.slice O2 no2 co2) ∧ W.cell? ⟨w.heap.size, 9, none⟩ = some (.slice Bb nb cb) ∧ W.cell? ⟨w.heap.size, 10, none⟩ = some (.slice Ls nl cl))) (exact HC.out _ _ (by assumption)) (first
    | (go_at_call 85; refine (HT.out _ _ (by assumption)).mono ?_; rintro e wt ⟨rfl, hb⟩; have zt := Pz.next (by assumption) hb; clear hb)
    | (go_at_call 25; refine (HL1.out _ (by assumption)).mono ?_; rintro e ws ⟨rfl, hp', hb', hf'⟩; have zs := Pz.put (by assumption) hp' hb' hf'; clear hp' hb' hf'))
  all_goals
    try go_wp2
    go_end0
    have zf := zs
    rw [HEND.out] at zf
    exact ⟨rfl, zf.pb, zf.bl, zf.fr⟩
set_option maxRecDepth 100000 in
set_option maxHeartbeats 12800000 in
theorem stmt_set (s : Str) (e : Ex) : StmtAt (.mk 1 s 0 e [] []) := by
  intro d D w0 S cs B b l w hD hw hc hz hlen hx hB0 hwB hBw hp
  obtain ⟨hd12, -, -, -, hsn, hn0, hn64, hce, hcb, hcl⟩ := chkS_fields hc
  have hnr := hx.num
  obtain ⟨ex, Bb, nb, cb, Ls, nl, cl, rfl, hex, hbB, hbL⟩ := hx.open_
  have hd1000 : d ≤ 1000 := by omega
  simp only [St.size, St.sizes] at hz
  have z0 := Pz.start (T := 74) (X := (stC 1 s 0 ex Bb nb cb Ls nl cl).toArray) hp hBw (by decide)
  have HBS := Lib.hid (show ∀ W, Below B w W → Below w0.heap.size w0 W from fun W h => hB0.trans (h.mono hwB))
  have hce1 := hce rfl
  have hlt := txE_len e 1 hce1 hex.wd
  have HT0 := textAt_any e
  unfold TextAt at HT0
  obtain ⟨t, ht⟩ : ∃ t, t = txE e := ⟨_, rfl⟩
  rw [← ht] at HT0 hlt
  have hls := name_len (hsn (by decide))
  obtain ⟨T, hT⟩ : ∃ T, T = txS d (.mk 1 s 0 e [] []) := ⟨_, rfl⟩
  rw [← hT] at hlen ⊢
  rw [txS, if_neg (by decide), if_pos rfl, ← ht] at hT
  obtain ⟨c1, hc1⟩ : ∃ c, c = s ++ ([32, 61, 32] : Str) := ⟨_, rfl⟩
  have lc1 : c1.length = s.length + 3 := by rw [hc1]; exact List.length_append
  have jc1 : ∀ w, (Op.stringOp .add (bs s) (⟨#[32, 61, 32]⟩ : ByteArray)).run Tryz.prog w = .ok (.string (bs c1)) w := fun w => by rw [hc1]; exact add_big s ([32, 61, 32] : Str) (by first | omega | (simp; omega)) w
  obtain ⟨c2, hc2⟩ : ∃ c, c = c1 ++ t := ⟨_, rfl⟩
  have lc2 : c2.length = c1.length + t.length := by rw [hc2]; exact List.length_append
  have jc2 : ∀ w, (Op.stringOp .add (bs c1) (bs t)).run Tryz.prog w = .ok (.string (bs c2)) w := fun w => by rw [hc2]; exact add_big c1 t (by first | omega | (simp; omega)) w
  obtain ⟨c3, hc3⟩ : ∃ c, c = c2 ++ ([59] : Str) := ⟨_, rfl⟩
  have lc3 : c3.length = c2.length + 1 := by rw [hc3]; exact List.length_append
  have jc3 : ∀ w, (Op.stringOp .add (bs c2) (⟨#[59]⟩ : ByteArray)).run Tryz.prog w = .ok (.string (bs c3)) w := fun w => by rw [hc3]; exact add_big c2 ([59] : Str) (by first | omega | (simp; omega)) w
  rw [← hc1, ← hc2, ← hc3] at hT
  have hTl := congrArg List.length hT
  rw [lineT_len] at hTl
  obtain ⟨ek, en, es, em, ea, eo⟩ := e
  obtain ⟨A2, na2, ca2, O2, no2, co2, rfl, -, -⟩ := hex.open_
  have z0 : Pz B b w w.heap.size 74 #[.int .i64 1, .string (bs s), .int .i64 0, .int .i64 ek, .int .i64 en, .string (bs es), .string (bs em), .slice A2 na2 ca2, .slice O2 no2 co2, .slice Bb nb cb, .slice Ls nl cl] l (w.alloc (.cells #[.int .i64 1, .string (bs s), .int .i64 0, .int .i64 ek, .int .i64 en, .string (bs es), .string (bs em), .slice A2 na2 ca2, .slice O2 no2 co2, .slice Bb nb cb, .slice Ls nl cl] 74)) := z0
  have HC := Lib.hid (show ∀ l' W, Pz B b w w.heap.size 74 #[.int .i64 1, .string (bs s), .int .i64 0, .int .i64 ek, .int .i64 en, .string (bs es), .string (bs em), .slice A2 na2 ca2, .slice O2 no2 co2, .slice Bb nb cb, .slice Ls nl cl] l' W → (W.cell? ⟨w.heap.size, 0, none⟩ = some (.int .i64 1) ∧ W.cell? ⟨w.heap.size, 1, none⟩ = some (.string (bs s)) ∧ W.cell? ⟨w.heap.size, 2, none⟩ = some (.int .i64 0) ∧ W.cell? ⟨w.heap.size, 3, none⟩ = some (.int .i64 ek) ∧ W.cell? ⟨w.heap.size, 4, none⟩ = some (.int .i64 en) ∧ W.cell? ⟨w.heap.size, 5, none⟩ = some (.string (bs es)) ∧ W.cell? ⟨w.heap.size, 6, none⟩ = some (.string (bs em)) ∧ W.cell? ⟨w.heap.size, 7, none⟩ = some (.slice A2 na2 ca2) ∧ W.cell? ⟨w.heap.size, 8, none⟩ = some (.slice O2 no2 co2) ∧ W.cell? ⟨w.heap.size, 9, none⟩ = some (.slice Bb nb cb) ∧ W.cell? ⟨w.heap.size, 10, none⟩ = some (.slice Ls nl cl)) from fun l' W z => st_cells z.bx)
  have HW := Lib.hid (show ∀ l' W, Pz B b w w.heap.size 74 #[.int .i64 1, .string (bs s), .int .i64 0, .int .i64 ek, .int .i64 en, .string (bs es), .string (bs em), .slice A2 na2 ca2, .slice O2 no2 co2, .slice Bb nb cb, .slice Ls nl cl] l' W → SxW W from fun l' W z => hw.below (HBS.out W z.bl))
  have HT := Lib.hid (show ∀ l' W, Pz B b w w.heap.size 74 #[.int .i64 1, .string (bs s), .int .i64 0, .int .i64 ek, .int .i64 en, .string (bs es), .string (bs em), .slice A2 na2 ca2, .slice O2 no2 co2, .slice Bb nb cb, .slice Ls nl cl] l' W → Calls Tryz.prog 85 #[.agg #[.int .i64 ek, .int .i64 en, .string (bs es), .string (bs em), .slice A2 na2 ca2, .slice O2 no2 co2]] W fun e' w' => e' = .returned (.string (bs t)) ∧ Below W.heap.size W w' from fun l' W z => HT0 1 W S _ (HW.out l' W z) hce1 (by omega) (hex.below (HBS.out W z.bl)))
  have HL1 := Lib.hid (show ∀ W, Pz B b w w.heap.size 74 #[.int .i64 1, .string (bs s), .int .i64 0, .int .i64 ek, .int .i64 en, .string (bs es), .string (bs em), .slice A2 na2 ca2, .slice O2 no2 co2, .slice Bb nb cb, .slice Ls nl cl] (l) W → Calls Tryz.prog 25 #[.pointer (some ⟨b, 0, none⟩), .int .i64 D, .string (bs c3)] W fun e w' => e = .returned (.tuple #[]) ∧ PB B b (l ++ lineT d c3) w' ∧ Below B W w' ∧ Fr b W w' from fun W z => by
    rw [hD]
    exact line_any B b (l) c3 d W hd1000 z.pb (by omega) z.sz)
  have HEND := Lib.hid (show l ++ lineT d c3 = l ++ T from by rw [hT]; all_goals simp only [List.append_assoc])
  clear hT hTl hc1 lc1 hc2 lc2 hc3 lc3 ht hlt HT0 hex hbB hbL hcb hcl hce hsn hn0 hn64 hnr hc hz hlen hx hB0 hwB hBw hp hd1000 hw hD hce1 hls
  unfold stC exC
  simp only [List.cons_append, List.nil_append]
  go_enter Tryz.func52, Tryz.ntmps52
  go_upto_region 5 with fail
  have z1 := z0.drew
  go_region_held3 (fun W => (W.cell? ⟨w.heap.size, 0, none⟩ = some (.int .i64 1) ∧ W.cell? ⟨w.heap.size, 1, none⟩ = some (.string (bs s)) ∧ W.cell? ⟨w.heap.size, 2, none⟩ = some (.int .i64 0) ∧ W.cell? ⟨w.heap.size, 3, none⟩ = some (.int .i64 ek) ∧ W.cell? ⟨w.heap.size, 4, none⟩ = some (.int .i64 en) ∧ W.cell? ⟨w.heap.size, 5, none⟩ = some (.string (bs es)) ∧ W.cell? ⟨w.heap.size, 6, none⟩ = some (.string (bs em)) ∧ W.cell? ⟨w.heap.size, 7, none⟩ = some (.slice A2 na2 ca2) ∧ W.cell? ⟨w.heap.size, 8, none⟩ = some (.slice O2 no2 co2) ∧ W.cell? ⟨w.heap.size, 9, none⟩ = some (.slice Bb nb cb) ∧ W.cell? ⟨w.heap.size, 10, none⟩ = some (.slice Ls nl cl))) (exact HC.out _ _ (by assumption)) (first
    | (go_at_call 85; refine (HT.out _ _ (by assumption)).mono ?_; rintro e wt ⟨rfl, hb⟩; have zt := Pz.next (by assumption) hb; clear hb)
    | (go_at_call 25; refine (HL1.out _ (by assumption)).mono ?_; rintro e ws ⟨rfl, hp', hb', hf'⟩; have zs := Pz.put (by assumption) hp' hb' hf'; clear hp' hb' hf'))
  all_goals
    try go_wp2
    go_end0
    have zf := zs
    rw [HEND.out] at zf
    exact ⟨rfl, zf.pb, zf.bl, zf.fr⟩
set_option maxRecDepth 100000 in
set_option maxHeartbeats 12800000 in
theorem stmt_do (e : Ex) : StmtAt (.mk 2 [] 0 e [] []) := by
  intro d D w0 S cs B b l w hD hw hc hz hlen hx hB0 hwB hBw hp
  obtain ⟨hd12, -, -, -, hsn, hn0, hn64, hce, hcb, hcl⟩ := chkS_fields hc
  have hnr := hx.num
  obtain ⟨ex, Bb, nb, cb, Ls, nl, cl, rfl, hex, hbB, hbL⟩ := hx.open_
  have hd1000 : d ≤ 1000 := by omega
  simp only [St.size, St.sizes] at hz
  have z0 := Pz.start (T := 74) (X := (stC 2 [] 0 ex Bb nb cb Ls nl cl).toArray) hp hBw (by decide)
  have HBS := Lib.hid (show ∀ W, Below B w W → Below w0.heap.size w0 W from fun W h => hB0.trans (h.mono hwB))
  have hce1 := hce rfl
  have hlt := txE_len e 1 hce1 hex.wd
  have HT0 := textAt_any e
  unfold TextAt at HT0
  obtain ⟨t, ht⟩ : ∃ t, t = txE e := ⟨_, rfl⟩
  rw [← ht] at HT0 hlt
  obtain ⟨T, hT⟩ : ∃ T, T = txS d (.mk 2 [] 0 e [] []) := ⟨_, rfl⟩
  rw [← hT] at hlen ⊢
  rw [txS, if_neg (by decide), if_neg (by decide), if_pos rfl, ← ht] at hT
  obtain ⟨c1, hc1⟩ : ∃ c, c = t ++ ([59] : Str) := ⟨_, rfl⟩
  have lc1 : c1.length = t.length + 1 := by rw [hc1]; exact List.length_append
  have jc1 : ∀ w, (Op.stringOp .add (bs t) (⟨#[59]⟩ : ByteArray)).run Tryz.prog w = .ok (.string (bs c1)) w := fun w => by rw [hc1]; exact add_big t ([59] : Str) (by first | omega | (simp; omega)) w
  rw [← hc1] at hT
  have hTl := congrArg List.length hT
  rw [lineT_len] at hTl
  obtain ⟨ek, en, es, em, ea, eo⟩ := e
  obtain ⟨A2, na2, ca2, O2, no2, co2, rfl, -, -⟩ := hex.open_
  have z0 : Pz B b w w.heap.size 74 #[.int .i64 2, .string (bs []), .int .i64 0, .int .i64 ek, .int .i64 en, .string (bs es), .string (bs em), .slice A2 na2 ca2, .slice O2 no2 co2, .slice Bb nb cb, .slice Ls nl cl] l (w.alloc (.cells #[.int .i64 2, .string (bs []), .int .i64 0, .int .i64 ek, .int .i64 en, .string (bs es), .string (bs em), .slice A2 na2 ca2, .slice O2 no2 co2, .slice Bb nb cb, .slice Ls nl cl] 74)) := z0
  have HC := Lib.hid (show ∀ l' W, Pz B b w w.heap.size 74 #[.int .i64 2, .string (bs []), .int .i64 0, .int .i64 ek, .int .i64 en, .string (bs es), .string (bs em), .slice A2 na2 ca2, .slice O2 no2 co2, .slice Bb nb cb, .slice Ls nl cl] l' W → (W.cell? ⟨w.heap.size, 0, none⟩ = some (.int .i64 2) ∧ W.cell? ⟨w.heap.size, 1, none⟩ = some (.string (bs [])) ∧ W.cell? ⟨w.heap.size, 2, none⟩ = some (.int .i64 0) ∧ W.cell? ⟨w.heap.size, 3, none⟩ = some (.int .i64 ek) ∧ W.cell? ⟨w.heap.size, 4, none⟩ = some (.int .i64 en) ∧ W.cell? ⟨w.heap.size, 5, none⟩ = some (.string (bs es)) ∧ W.cell? ⟨w.heap.size, 6, none⟩ = some (.string (bs em)) ∧ W.cell? ⟨w.heap.size, 7, none⟩ = some (.slice A2 na2 ca2) ∧ W.cell? ⟨w.heap.size, 8, none⟩ = some (.slice O2 no2 co2) ∧ W.cell? ⟨w.heap.size, 9, none⟩ = some (.slice Bb nb cb) ∧ W.cell? ⟨w.heap.size, 10, none⟩ = some (.slice Ls nl cl)) from fun l' W z => st_cells z.bx)
  have HW := Lib.hid (show ∀ l' W, Pz B b w w.heap.size 74 #[.int .i64 2, .string (bs []), .int .i64 0, .int .i64 ek, .int .i64 en, .string (bs es), .string (bs em), .slice A2 na2 ca2, .slice O2 no2 co2, .slice Bb nb cb, .slice Ls nl cl] l' W → SxW W from fun l' W z => hw.below (HBS.out W z.bl))
  have HT := Lib.hid (show ∀ l' W, Pz B b w w.heap.size 74 #[.int .i64 2, .string (bs []), .int .i64 0, .int .i64 ek, .int .i64 en, .string (bs es), .string (bs em), .slice A2 na2 ca2, .slice O2 no2 co2, .slice Bb nb cb, .slice Ls nl cl] l' W → Calls Tryz.prog 85 #[.agg #[.int .i64 ek, .int .i64 en, .string (bs es), .string (bs em), .slice A2 na2 ca2, .slice O2 no2 co2]] W fun e' w' => e' = .returned (.string (bs t)) ∧ Below W.heap.size W w' from fun l' W z => HT0 1 W S _ (HW.out l' W z) hce1 (by omega) (hex.below (HBS.out W z.bl)))
  have HL1 := Lib.hid (show ∀ W, Pz B b w w.heap.size 74 #[.int .i64 2, .string (bs []), .int .i64 0, .int .i64 ek, .int .i64 en, .string (bs es), .string (bs em), .slice A2 na2 ca2, .slice O2 no2 co2, .slice Bb nb cb, .slice Ls nl cl] (l) W → Calls Tryz.prog 25 #[.pointer (some ⟨b, 0, none⟩), .int .i64 D, .string (bs c1)] W fun e w' => e = .returned (.tuple #[]) ∧ PB B b (l ++ lineT d c1) w' ∧ Below B W w' ∧ Fr b W w' from fun W z => by
    rw [hD]
    exact line_any B b (l) c1 d W hd1000 z.pb (by omega) z.sz)
  have HEND := Lib.hid (show l ++ lineT d c1 = l ++ T from by rw [hT]; all_goals simp only [List.append_assoc])
  clear hT hTl hc1 lc1 ht hlt HT0 hex hbB hbL hcb hcl hce hsn hn0 hn64 hnr hc hz hlen hx hB0 hwB hBw hp hd1000 hw hD hce1
  unfold stC exC
  simp only [List.cons_append, List.nil_append]
  go_enter Tryz.func52, Tryz.ntmps52
  obtain ⟨c0, c1, c2, c3, c4, c5, c6, c7, c8, c9, c10⟩ := HC.out _ _ z0
  go_wp2_with fail
  refine (HT.out _ _ z0).mono ?_
  rintro e wt ⟨rfl, hb⟩
  have z1 := z0.next hb
  clear hb c0 c1 c2 c3 c4 c5 c6 c7 c8 c9 c10 z0
  obtain ⟨c0, c1, c2, c3, c4, c5, c6, c7, c8, c9, c10⟩ := HC.out _ _ z1
  go_wp2_with fail
  refine (HL1.out _ z1).mono ?_
  rintro e w2 ⟨rfl, hp', hb', hf'⟩
  have z2 := z1.put hp' hb' hf'
  clear hp' hb' hf' c0 c1 c2 c3 c4 c5 c6 c7 c8 c9 c10 z1
  try go_wp2
  go_end0
  rw [HEND.out] at z2
  exact ⟨rfl, z2.pb, z2.bl, z2.fr⟩
set_option maxRecDepth 100000 in
set_option maxHeartbeats 12800000 in
theorem stmt_return (e : Ex) : StmtAt (.mk 5 [] 0 e [] []) := by
  intro d D w0 S cs B b l w hD hw hc hz hlen hx hB0 hwB hBw hp
  obtain ⟨hd12, -, -, -, hsn, hn0, hn64, hce, hcb, hcl⟩ := chkS_fields hc
  have hnr := hx.num
  obtain ⟨ex, Bb, nb, cb, Ls, nl, cl, rfl, hex, hbB, hbL⟩ := hx.open_
  have hd1000 : d ≤ 1000 := by omega
  simp only [St.size, St.sizes] at hz
  have z0 := Pz.start (T := 74) (X := (stC 5 [] 0 ex Bb nb cb Ls nl cl).toArray) hp hBw (by decide)
  have HBS := Lib.hid (show ∀ W, Below B w W → Below w0.heap.size w0 W from fun W h => hB0.trans (h.mono hwB))
  have hce1 := hce rfl
  have hlt := txE_len e 1 hce1 hex.wd
  have HT0 := textAt_any e
  unfold TextAt at HT0
  obtain ⟨t, ht⟩ : ∃ t, t = txE e := ⟨_, rfl⟩
  rw [← ht] at HT0 hlt
  obtain ⟨T, hT⟩ : ∃ T, T = txS d (.mk 5 [] 0 e [] []) := ⟨_, rfl⟩
  rw [← hT] at hlen ⊢
  rw [txS, if_neg (by decide), if_neg (by decide), if_neg (by decide), if_pos rfl, ← ht] at hT
  obtain ⟨c1, hc1⟩ : ∃ c, c = ([114, 101, 116, 117, 114, 110, 32] : Str) ++ t := ⟨_, rfl⟩
  have lc1 : c1.length = 7 + t.length := by rw [hc1]; exact List.length_append
  have jc1 : ∀ w, (Op.stringOp .add (⟨#[114, 101, 116, 117, 114, 110, 32]⟩ : ByteArray) (bs t)).run Tryz.prog w = .ok (.string (bs c1)) w := fun w => by rw [hc1]; exact add_big ([114, 101, 116, 117, 114, 110, 32] : Str) t (by first | omega | (simp; omega)) w
  obtain ⟨c2, hc2⟩ : ∃ c, c = c1 ++ ([59] : Str) := ⟨_, rfl⟩
  have lc2 : c2.length = c1.length + 1 := by rw [hc2]; exact List.length_append
  have jc2 : ∀ w, (Op.stringOp .add (bs c1) (⟨#[59]⟩ : ByteArray)).run Tryz.prog w = .ok (.string (bs c2)) w := fun w => by rw [hc2]; exact add_big c1 ([59] : Str) (by first | omega | (simp; omega)) w
  rw [← hc1, ← hc2] at hT
  have hTl := congrArg List.length hT
  rw [lineT_len] at hTl
  obtain ⟨ek, en, es, em, ea, eo⟩ := e
  obtain ⟨A2, na2, ca2, O2, no2, co2, rfl, -, -⟩ := hex.open_
  have z0 : Pz B b w w.heap.size 74 #[.int .i64 5, .string (bs []), .int .i64 0, .int .i64 ek, .int .i64 en, .string (bs es), .string (bs em), .slice A2 na2 ca2, .slice O2 no2 co2, .slice Bb nb cb, .slice Ls nl cl] l (w.alloc (.cells #[.int .i64 5, .string (bs []), .int .i64 0, .int .i64 ek, .int .i64 en, .string (bs es), .string (bs em), .slice A2 na2 ca2, .slice O2 no2 co2, .slice Bb nb cb, .slice Ls nl cl] 74)) := z0
  have HC := Lib.hid (show ∀ l' W, Pz B b w w.heap.size 74 #[.int .i64 5, .string (bs []), .int .i64 0, .int .i64 ek, .int .i64 en, .string (bs es), .string (bs em), .slice A2 na2 ca2, .slice O2 no2 co2, .slice Bb nb cb, .slice Ls nl cl] l' W → (W.cell? ⟨w.heap.size, 0, none⟩ = some (.int .i64 5) ∧ W.cell? ⟨w.heap.size, 1, none⟩ = some (.string (bs [])) ∧ W.cell? ⟨w.heap.size, 2, none⟩ = some (.int .i64 0) ∧ W.cell? ⟨w.heap.size, 3, none⟩ = some (.int .i64 ek) ∧ W.cell? ⟨w.heap.size, 4, none⟩ = some (.int .i64 en) ∧ W.cell? ⟨w.heap.size, 5, none⟩ = some (.string (bs es)) ∧ W.cell? ⟨w.heap.size, 6, none⟩ = some (.string (bs em)) ∧ W.cell? ⟨w.heap.size, 7, none⟩ = some (.slice A2 na2 ca2) ∧ W.cell? ⟨w.heap.size, 8, none⟩ = some (.slice O2 no2 co2) ∧ W.cell? ⟨w.heap.size, 9, none⟩ = some (.slice Bb nb cb) ∧ W.cell? ⟨w.heap.size, 10, none⟩ = some (.slice Ls nl cl)) from fun l' W z => st_cells z.bx)
  have HW := Lib.hid (show ∀ l' W, Pz B b w w.heap.size 74 #[.int .i64 5, .string (bs []), .int .i64 0, .int .i64 ek, .int .i64 en, .string (bs es), .string (bs em), .slice A2 na2 ca2, .slice O2 no2 co2, .slice Bb nb cb, .slice Ls nl cl] l' W → SxW W from fun l' W z => hw.below (HBS.out W z.bl))
  have HT := Lib.hid (show ∀ l' W, Pz B b w w.heap.size 74 #[.int .i64 5, .string (bs []), .int .i64 0, .int .i64 ek, .int .i64 en, .string (bs es), .string (bs em), .slice A2 na2 ca2, .slice O2 no2 co2, .slice Bb nb cb, .slice Ls nl cl] l' W → Calls Tryz.prog 85 #[.agg #[.int .i64 ek, .int .i64 en, .string (bs es), .string (bs em), .slice A2 na2 ca2, .slice O2 no2 co2]] W fun e' w' => e' = .returned (.string (bs t)) ∧ Below W.heap.size W w' from fun l' W z => HT0 1 W S _ (HW.out l' W z) hce1 (by omega) (hex.below (HBS.out W z.bl)))
  have HL1 := Lib.hid (show ∀ W, Pz B b w w.heap.size 74 #[.int .i64 5, .string (bs []), .int .i64 0, .int .i64 ek, .int .i64 en, .string (bs es), .string (bs em), .slice A2 na2 ca2, .slice O2 no2 co2, .slice Bb nb cb, .slice Ls nl cl] (l) W → Calls Tryz.prog 25 #[.pointer (some ⟨b, 0, none⟩), .int .i64 D, .string (bs c2)] W fun e w' => e = .returned (.tuple #[]) ∧ PB B b (l ++ lineT d c2) w' ∧ Below B W w' ∧ Fr b W w' from fun W z => by
    rw [hD]
    exact line_any B b (l) c2 d W hd1000 z.pb (by omega) z.sz)
  have HEND := Lib.hid (show l ++ lineT d c2 = l ++ T from by rw [hT]; all_goals simp only [List.append_assoc])
  clear hT hTl hc1 lc1 hc2 lc2 ht hlt HT0 hex hbB hbL hcb hcl hce hsn hn0 hn64 hnr hc hz hlen hx hB0 hwB hBw hp hd1000 hw hD hce1
  unfold stC exC
  simp only [List.cons_append, List.nil_append]
  go_enter Tryz.func52, Tryz.ntmps52
  obtain ⟨c0, c1, c2, c3, c4, c5, c6, c7, c8, c9, c10⟩ := HC.out _ _ z0
  go_wp2_with fail
  refine (HT.out _ _ z0).mono ?_
  rintro e wt ⟨rfl, hb⟩
  have z1 := z0.next hb
  clear hb c0 c1 c2 c3 c4 c5 c6 c7 c8 c9 c10 z0
  obtain ⟨c0, c1, c2, c3, c4, c5, c6, c7, c8, c9, c10⟩ := HC.out _ _ z1
  go_wp2_with fail
  refine (HL1.out _ z1).mono ?_
  rintro e w2 ⟨rfl, hp', hb', hf'⟩
  have z2 := z1.put hp' hb' hf'
  clear hp' hb' hf' c0 c1 c2 c3 c4 c5 c6 c7 c8 c9 c10 z1
  try go_wp2
  go_end0
  rw [HEND.out] at z2
  exact ⟨rfl, z2.pb, z2.bl, z2.fr⟩
set_option maxRecDepth 100000 in
set_option maxHeartbeats 12800000 in
theorem stmt_abort (n : Int) : StmtAt (.mk 6 [] n (.mk 0 0 [] [] [] []) [] []) := by
  intro d D w0 S cs B b l w hD hw hc hz hlen hx hB0 hwB hBw hp
  obtain ⟨hd12, -, -, -, hsn, hn0, hn64, hce, hcb, hcl⟩ := chkS_fields hc
  have hnr := hx.num
  obtain ⟨ex, Bb, nb, cb, Ls, nl, cl, rfl, hex, hbB, hbL⟩ := hx.open_
  have hd1000 : d ≤ 1000 := by omega
  simp only [St.size, St.sizes] at hz
  have z0 := Pz.start (T := 74) (X := (stC 6 [] n ex Bb nb cb Ls nl cl).toArray) hp hBw (by decide)
  have HBS := Lib.hid (show ∀ W, Below B w W → Below w0.heap.size w0 W from fun W h => hB0.trans (h.mono hwB))
  have hlt := Lib.itoa_length_le n hnr.1 hnr.2
  have HT0 := fmtI_any n hnr
  obtain ⟨t, ht⟩ : ∃ t, t = Lib.itoa n := ⟨_, rfl⟩
  rw [← ht] at HT0 hlt
  obtain ⟨T, hT⟩ : ∃ T, T = txS d (.mk 6 [] n (.mk 0 0 [] [] [] []) [] []) := ⟨_, rfl⟩
  rw [← hT] at hlen ⊢
  rw [txS, if_neg (by decide), if_neg (by decide), if_neg (by decide), if_neg (by decide), if_pos rfl, ← ht] at hT
  obtain ⟨c1, hc1⟩ : ∃ c, c = ([97, 98, 111, 114, 116, 32] : Str) ++ t := ⟨_, rfl⟩
  have lc1 : c1.length = 6 + t.length := by rw [hc1]; exact List.length_append
  have jc1 : ∀ w, (Op.stringOp .add (⟨#[97, 98, 111, 114, 116, 32]⟩ : ByteArray) (bs t)).run Tryz.prog w = .ok (.string (bs c1)) w := fun w => by rw [hc1]; exact add_big ([97, 98, 111, 114, 116, 32] : Str) t (by first | omega | (simp; omega)) w
  obtain ⟨c2, hc2⟩ : ∃ c, c = c1 ++ ([59] : Str) := ⟨_, rfl⟩
  have lc2 : c2.length = c1.length + 1 := by rw [hc2]; exact List.length_append
  have jc2 : ∀ w, (Op.stringOp .add (bs c1) (⟨#[59]⟩ : ByteArray)).run Tryz.prog w = .ok (.string (bs c2)) w := fun w => by rw [hc2]; exact add_big c1 ([59] : Str) (by first | omega | (simp; omega)) w
  rw [← hc1, ← hc2] at hT
  have hTl := congrArg List.length hT
  rw [lineT_len] at hTl
  obtain ⟨A2, na2, ca2, O2, no2, co2, rfl, -, -⟩ := hex.open_
  have z0 : Pz B b w w.heap.size 74 #[.int .i64 6, .string (bs []), .int .i64 n, .int .i64 0, .int .i64 0, .string (bs []), .string (bs []), .slice A2 na2 ca2, .slice O2 no2 co2, .slice Bb nb cb, .slice Ls nl cl] l (w.alloc (.cells #[.int .i64 6, .string (bs []), .int .i64 n, .int .i64 0, .int .i64 0, .string (bs []), .string (bs []), .slice A2 na2 ca2, .slice O2 no2 co2, .slice Bb nb cb, .slice Ls nl cl] 74)) := z0
  have HC := Lib.hid (show ∀ l' W, Pz B b w w.heap.size 74 #[.int .i64 6, .string (bs []), .int .i64 n, .int .i64 0, .int .i64 0, .string (bs []), .string (bs []), .slice A2 na2 ca2, .slice O2 no2 co2, .slice Bb nb cb, .slice Ls nl cl] l' W → (W.cell? ⟨w.heap.size, 0, none⟩ = some (.int .i64 6) ∧ W.cell? ⟨w.heap.size, 1, none⟩ = some (.string (bs [])) ∧ W.cell? ⟨w.heap.size, 2, none⟩ = some (.int .i64 n) ∧ W.cell? ⟨w.heap.size, 3, none⟩ = some (.int .i64 0) ∧ W.cell? ⟨w.heap.size, 4, none⟩ = some (.int .i64 0) ∧ W.cell? ⟨w.heap.size, 5, none⟩ = some (.string (bs [])) ∧ W.cell? ⟨w.heap.size, 6, none⟩ = some (.string (bs [])) ∧ W.cell? ⟨w.heap.size, 7, none⟩ = some (.slice A2 na2 ca2) ∧ W.cell? ⟨w.heap.size, 8, none⟩ = some (.slice O2 no2 co2) ∧ W.cell? ⟨w.heap.size, 9, none⟩ = some (.slice Bb nb cb) ∧ W.cell? ⟨w.heap.size, 10, none⟩ = some (.slice Ls nl cl)) from fun l' W z => st_cells z.bx)
  have HW := Lib.hid (show ∀ l' W, Pz B b w w.heap.size 74 #[.int .i64 6, .string (bs []), .int .i64 n, .int .i64 0, .int .i64 0, .string (bs []), .string (bs []), .slice A2 na2 ca2, .slice O2 no2 co2, .slice Bb nb cb, .slice Ls nl cl] l' W → SxW W from fun l' W z => hw.below (HBS.out W z.bl))
  have HT := Lib.hid (show ∀ l' W, Pz B b w w.heap.size 74 #[.int .i64 6, .string (bs []), .int .i64 n, .int .i64 0, .int .i64 0, .string (bs []), .string (bs []), .slice A2 na2 ca2, .slice O2 no2 co2, .slice Bb nb cb, .slice Ls nl cl] l' W → Calls Tryz.prog 86 #[.int .i64 n, .int .i64 10] W fun e' w' => e' = .returned (.string (bs t)) ∧ Below W.heap.size W w' from fun l' W z => HT0 W (HW.out l' W z))
  have HL1 := Lib.hid (show ∀ W, Pz B b w w.heap.size 74 #[.int .i64 6, .string (bs []), .int .i64 n, .int .i64 0, .int .i64 0, .string (bs []), .string (bs []), .slice A2 na2 ca2, .slice O2 no2 co2, .slice Bb nb cb, .slice Ls nl cl] (l) W → Calls Tryz.prog 25 #[.pointer (some ⟨b, 0, none⟩), .int .i64 D, .string (bs c2)] W fun e w' => e = .returned (.tuple #[]) ∧ PB B b (l ++ lineT d c2) w' ∧ Below B W w' ∧ Fr b W w' from fun W z => by
    rw [hD]
    exact line_any B b (l) c2 d W hd1000 z.pb (by omega) z.sz)
  have HEND := Lib.hid (show l ++ lineT d c2 = l ++ T from by rw [hT]; all_goals simp only [List.append_assoc])
  clear hT hTl hc1 lc1 hc2 lc2 ht hlt HT0 hex hbB hbL hcb hcl hce hsn hn0 hn64 hnr hc hz hlen hx hB0 hwB hBw hp hd1000 hw hD
  unfold stC exC
  simp only [List.cons_append, List.nil_append]
  go_enter Tryz.func52, Tryz.ntmps52
  obtain ⟨c0, c1, c2, c3, c4, c5, c6, c7, c8, c9, c10⟩ := HC.out _ _ z0
  go_wp2_with fail
  refine (HT.out _ _ z0).mono ?_
  rintro e wt ⟨rfl, hb⟩
  have z1 := z0.next hb
  clear hb c0 c1 c2 c3 c4 c5 c6 c7 c8 c9 c10 z0
  obtain ⟨c0, c1, c2, c3, c4, c5, c6, c7, c8, c9, c10⟩ := HC.out _ _ z1
  go_wp2_with fail
  refine (HL1.out _ z1).mono ?_
  rintro e w2 ⟨rfl, hp', hb', hf'⟩
  have z2 := z1.put hp' hb' hf'
  clear hp' hb' hf' c0 c1 c2 c3 c4 c5 c6 c7 c8 c9 c10 z1
  try go_wp2
  go_end0
  rw [HEND.out] at z2
  exact ⟨rfl, z2.pb, z2.bl, z2.fr⟩
set_option maxRecDepth 100000 in
set_option maxHeartbeats 12800000 in
theorem stmt_repeat (n : Int) (b1 : List St) (ihb : AllAt b1) : StmtAt (.mk 4 [] n (.mk 0 0 [] [] [] []) b1 []) := by
  intro d D w0 S cs B b l w hD hw hc hz hlen hx hB0 hwB hBw hp
  obtain ⟨hd12, -, -, -, hsn, hn0, hn64, hce, hcb, hcl⟩ := chkS_fields hc
  have hnr := hx.num
  obtain ⟨ex, Bb, nb, cb, Ls, nl, cl, rfl, hex, hbB, hbL⟩ := hx.open_
  have hd1000 : d ≤ 1000 := by omega
  simp only [St.size, St.sizes] at hz
  have z0 := Pz.start (T := 74) (X := (stC 4 [] n ex Bb nb cb Ls nl cl).toArray) hp hBw (by decide)
  have HBS := Lib.hid (show ∀ W, Below B w W → Below w0.heap.size w0 W from fun W h => hB0.trans (h.mono hwB))
  have hlt := Lib.itoa_length_le n hnr.1 hnr.2
  have HT0 := fmtI_any n hnr
  obtain ⟨t, ht⟩ : ∃ t, t = Lib.itoa n := ⟨_, rfl⟩
  rw [← ht] at HT0 hlt
  obtain ⟨T, hT⟩ : ∃ T, T = txS d (.mk 4 [] n (.mk 0 0 [] [] [] []) b1 []) := ⟨_, rfl⟩
  rw [← hT] at hlen ⊢
  rw [txS, if_neg (by decide), if_neg (by decide), if_neg (by decide), if_neg (by decide), if_neg (by decide), if_pos rfl, ← ht] at hT
  obtain ⟨c1, hc1⟩ : ∃ c, c = ([114, 101, 112, 101, 97, 116, 32] : Str) ++ t := ⟨_, rfl⟩
  have lc1 : c1.length = 7 + t.length := by rw [hc1]; exact List.length_append
  have jc1 : ∀ w, (Op.stringOp .add (⟨#[114, 101, 112, 101, 97, 116, 32]⟩ : ByteArray) (bs t)).run Tryz.prog w = .ok (.string (bs c1)) w := fun w => by rw [hc1]; exact add_big ([114, 101, 112, 101, 97, 116, 32] : Str) t (by first | omega | (simp; omega)) w
  obtain ⟨c2, hc2⟩ : ∃ c, c = c1 ++ ([32, 123] : Str) := ⟨_, rfl⟩
  have lc2 : c2.length = c1.length + 2 := by rw [hc2]; exact List.length_append
  have jc2 : ∀ w, (Op.stringOp .add (bs c1) (⟨#[32, 123]⟩ : ByteArray)).run Tryz.prog w = .ok (.string (bs c2)) w := fun w => by rw [hc2]; exact add_big c1 ([32, 123] : Str) (by first | omega | (simp; omega)) w
  rw [← hc1, ← hc2] at hT
  obtain ⟨tb, htb⟩ : ∃ tb, tb = txSs (d + 1) b1 := ⟨_, rfl⟩
  rw [← htb] at hT
  have hTl := congrArg List.length hT
  simp only [List.length_append, lineT_len] at hTl
  obtain ⟨A2, na2, ca2, O2, no2, co2, rfl, -, -⟩ := hex.open_
  have z0 : Pz B b w w.heap.size 74 #[.int .i64 4, .string (bs []), .int .i64 n, .int .i64 0, .int .i64 0, .string (bs []), .string (bs []), .slice A2 na2 ca2, .slice O2 no2 co2, .slice Bb nb cb, .slice Ls nl cl] l (w.alloc (.cells #[.int .i64 4, .string (bs []), .int .i64 n, .int .i64 0, .int .i64 0, .string (bs []), .string (bs []), .slice A2 na2 ca2, .slice O2 no2 co2, .slice Bb nb cb, .slice Ls nl cl] 74)) := z0
  have HC := Lib.hid (show ∀ l' W, Pz B b w w.heap.size 74 #[.int .i64 4, .string (bs []), .int .i64 n, .int .i64 0, .int .i64 0, .string (bs []), .string (bs []), .slice A2 na2 ca2, .slice O2 no2 co2, .slice Bb nb cb, .slice Ls nl cl] l' W → (W.cell? ⟨w.heap.size, 0, none⟩ = some (.int .i64 4) ∧ W.cell? ⟨w.heap.size, 1, none⟩ = some (.string (bs [])) ∧ W.cell? ⟨w.heap.size, 2, none⟩ = some (.int .i64 n) ∧ W.cell? ⟨w.heap.size, 3, none⟩ = some (.int .i64 0) ∧ W.cell? ⟨w.heap.size, 4, none⟩ = some (.int .i64 0) ∧ W.cell? ⟨w.heap.size, 5, none⟩ = some (.string (bs [])) ∧ W.cell? ⟨w.heap.size, 6, none⟩ = some (.string (bs [])) ∧ W.cell? ⟨w.heap.size, 7, none⟩ = some (.slice A2 na2 ca2) ∧ W.cell? ⟨w.heap.size, 8, none⟩ = some (.slice O2 no2 co2) ∧ W.cell? ⟨w.heap.size, 9, none⟩ = some (.slice Bb nb cb) ∧ W.cell? ⟨w.heap.size, 10, none⟩ = some (.slice Ls nl cl)) from fun l' W z => st_cells z.bx)
  have HW := Lib.hid (show ∀ l' W, Pz B b w w.heap.size 74 #[.int .i64 4, .string (bs []), .int .i64 n, .int .i64 0, .int .i64 0, .string (bs []), .string (bs []), .slice A2 na2 ca2, .slice O2 no2 co2, .slice Bb nb cb, .slice Ls nl cl] l' W → SxW W from fun l' W z => hw.below (HBS.out W z.bl))
  have HT := Lib.hid (show ∀ l' W, Pz B b w w.heap.size 74 #[.int .i64 4, .string (bs []), .int .i64 n, .int .i64 0, .int .i64 0, .string (bs []), .string (bs []), .slice A2 na2 ca2, .slice O2 no2 co2, .slice Bb nb cb, .slice Ls nl cl] l' W → Calls Tryz.prog 86 #[.int .i64 n, .int .i64 10] W fun e' w' => e' = .returned (.string (bs t)) ∧ Below W.heap.size W w' from fun l' W z => HT0 W (HW.out l' W z))
  have HL1 := Lib.hid (show ∀ W, Pz B b w w.heap.size 74 #[.int .i64 4, .string (bs []), .int .i64 n, .int .i64 0, .int .i64 0, .string (bs []), .string (bs []), .slice A2 na2 ca2, .slice O2 no2 co2, .slice Bb nb cb, .slice Ls nl cl] (l) W → Calls Tryz.prog 25 #[.pointer (some ⟨b, 0, none⟩), .int .i64 D, .string (bs c2)] W fun e w' => e = .returned (.tuple #[]) ∧ PB B b (l ++ lineT d c2) w' ∧ Below B W w' ∧ Fr b W w' from fun W z => by
    rw [hD]
    exact line_any B b (l) c2 d W hd1000 z.pb (by omega) z.sz)
  have HA1 := Lib.hid (show ∀ W, Pz B b w w.heap.size 74 #[.int .i64 4, .string (bs []), .int .i64 n, .int .i64 0, .int .i64 0, .string (bs []), .string (bs []), .slice A2 na2 ca2, .slice O2 no2 co2, .slice Bb nb cb, .slice Ls nl cl] (l ++ lineT d c2) W → Calls Tryz.prog 27 #[.pointer (some ⟨b, 0, none⟩), .int .i64 (D + 1), .slice Bb nb cb] W fun e w' => e = .returned (.tuple #[]) ∧ PB B b (l ++ lineT d c2 ++ tb) w' ∧ Below B W w' ∧ Fr b W w' from fun W z => by
    rw [htb]
    exact ihb (d + 1) (D + 1) w0 S Bb nb cb B b (l ++ lineT d c2) W (by rw [hD]; rfl) hw hcb (by omega) (by rw [← htb]; simp only [List.length_append, lineT_len]; omega) hbB (HBS.out W z.bl) hwB z.sz z.pb)
  have HL2 := Lib.hid (show ∀ W, Pz B b w w.heap.size 74 #[.int .i64 4, .string (bs []), .int .i64 n, .int .i64 0, .int .i64 0, .string (bs []), .string (bs []), .slice A2 na2 ca2, .slice O2 no2 co2, .slice Bb nb cb, .slice Ls nl cl] (l ++ lineT d c2 ++ tb) W → Calls Tryz.prog 25 #[.pointer (some ⟨b, 0, none⟩), .int .i64 D, .string ⟨#[125]⟩] W fun e w' => e = .returned (.tuple #[]) ∧ PB B b (l ++ lineT d c2 ++ tb ++ lineT d ([125] : Str)) w' ∧ Below B W w' ∧ Fr b W w' from fun W z => by
    rw [hD]
    exact line_any B b (l ++ lineT d c2 ++ tb) ([125] : Str) d W hd1000 z.pb (by simp only [List.length_append, lineT_len]; simp only [List.length_cons, List.length_nil] at hTl ⊢; omega) z.sz)
  have HEND := Lib.hid (show l ++ lineT d c2 ++ tb ++ lineT d ([125] : Str) = l ++ T from by rw [hT]; all_goals simp only [List.append_assoc])
  have hdb : D ≤ 12 := hd12
  have hdb0 : 0 ≤ D := by omega
  clear hT hTl hc1 lc1 hc2 lc2 ht hlt HT0 hex hbB hbL hcb hcl hce hsn hn0 hn64 hnr hc hz hlen hx hB0 hwB hBw hp hd1000 hw hD
  unfold stC exC
  simp only [List.cons_append, List.nil_append]
  go_enter Tryz.func52, Tryz.ntmps52
  obtain ⟨c0, c1, c2, c3, c4, c5, c6, c7, c8, c9, c10⟩ := HC.out _ _ z0
  go_wp2_with fail
  refine (HT.out _ _ z0).mono ?_
  rintro e wt ⟨rfl, hb⟩
  have z1 := z0.next hb
  clear hb c0 c1 c2 c3 c4 c5 c6 c7 c8 c9 c10 z0
  obtain ⟨c0, c1, c2, c3, c4, c5, c6, c7, c8, c9, c10⟩ := HC.out _ _ z1
  go_wp2_with fail
  refine (HL1.out _ z1).mono ?_
  rintro e w2 ⟨rfl, hp', hb', hf'⟩
  have z2 := z1.put hp' hb' hf'
  clear hp' hb' hf' c0 c1 c2 c3 c4 c5 c6 c7 c8 c9 c10 z1
  obtain ⟨c0, c1, c2, c3, c4, c5, c6, c7, c8, c9, c10⟩ := HC.out _ _ z2
  go_wp2_with fail
  refine (HA1.out _ z2).mono ?_
  rintro e w3 ⟨rfl, hp', hb', hf'⟩
  have z3 := z2.put hp' hb' hf'
  clear hp' hb' hf' c0 c1 c2 c3 c4 c5 c6 c7 c8 c9 c10 z2
  obtain ⟨c0, c1, c2, c3, c4, c5, c6, c7, c8, c9, c10⟩ := HC.out _ _ z3
  go_wp2_with fail
  refine (HL2.out _ z3).mono ?_
  rintro e w6 ⟨rfl, hp', hb', hf'⟩
  have z6 := z3.put hp' hb' hf'
  clear hp' hb' hf' c0 c1 c2 c3 c4 c5 c6 c7 c8 c9 c10 z3
  try go_wp2
  go_end0
  rw [HEND.out] at z6
  exact ⟨rfl, z6.pb, z6.bl, z6.fr⟩
set_option maxRecDepth 100000 in
set_option maxHeartbeats 12800000 in
theorem stmt_if (e : Ex) (b1 : List St) (ihb : AllAt b1) : StmtAt (.mk 3 [] 0 e b1 []) := by
  intro d D w0 S cs B b l w hD hw hc hz hlen hx hB0 hwB hBw hp
  obtain ⟨hd12, -, -, -, hsn, hn0, hn64, hce, hcb, hcl⟩ := chkS_fields hc
  have hnr := hx.num
  obtain ⟨ex, Bb, nb, cb, Ls, nl, cl, rfl, hex, hbB, hbL⟩ := hx.open_
  have hd1000 : d ≤ 1000 := by omega
  simp only [St.size, St.sizes] at hz
  have z0 := Pz.start (T := 74) (X := (stC 3 [] 0 ex Bb nb cb Ls nl cl).toArray) hp hBw (by decide)
  have HBS := Lib.hid (show ∀ W, Below B w W → Below w0.heap.size w0 W from fun W h => hB0.trans (h.mono hwB))
  have hce1 := hce rfl
  have hlt := txE_len e 1 hce1 hex.wd
  have HT0 := textAt_any e
  unfold TextAt at HT0
  obtain ⟨t, ht⟩ : ∃ t, t = txE e := ⟨_, rfl⟩
  rw [← ht] at HT0 hlt
  obtain ⟨T, hT⟩ : ∃ T, T = txS d (.mk 3 [] 0 e b1 []) := ⟨_, rfl⟩
  rw [← hT] at hlen ⊢
  rw [txS, if_neg (by decide), if_neg (by decide), if_neg (by decide), if_neg (by decide), if_neg (by decide), if_neg (by decide), ← ht] at hT
  obtain ⟨c1, hc1⟩ : ∃ c, c = ([105, 102, 32] : Str) ++ t := ⟨_, rfl⟩
  have lc1 : c1.length = 3 + t.length := by rw [hc1]; exact List.length_append
  have jc1 : ∀ w, (Op.stringOp .add (⟨#[105, 102, 32]⟩ : ByteArray) (bs t)).run Tryz.prog w = .ok (.string (bs c1)) w := fun w => by rw [hc1]; exact add_big ([105, 102, 32] : Str) t (by first | omega | (simp; omega)) w
  obtain ⟨c2, hc2⟩ : ∃ c, c = c1 ++ ([32, 123] : Str) := ⟨_, rfl⟩
  have lc2 : c2.length = c1.length + 2 := by rw [hc2]; exact List.length_append
  have jc2 : ∀ w, (Op.stringOp .add (bs c1) (⟨#[32, 123]⟩ : ByteArray)).run Tryz.prog w = .ok (.string (bs c2)) w := fun w => by rw [hc2]; exact add_big c1 ([32, 123] : Str) (by first | omega | (simp; omega)) w
  rw [← hc1, ← hc2] at hT
  obtain ⟨tb, htb⟩ : ∃ tb, tb = txSs (d + 1) b1 := ⟨_, rfl⟩
  rw [← htb] at hT
  rw [if_pos (show ([] : List St).length = 0 from rfl), List.append_nil] at hT
  have hTl := congrArg List.length hT
  simp only [List.length_append, lineT_len] at hTl
  obtain ⟨ek, en, es, em, ea, eo⟩ := e
  obtain ⟨A2, na2, ca2, O2, no2, co2, rfl, -, -⟩ := hex.open_
  have z0 : Pz B b w w.heap.size 74 #[.int .i64 3, .string (bs []), .int .i64 0, .int .i64 ek, .int .i64 en, .string (bs es), .string (bs em), .slice A2 na2 ca2, .slice O2 no2 co2, .slice Bb nb cb, .slice Ls nl cl] l (w.alloc (.cells #[.int .i64 3, .string (bs []), .int .i64 0, .int .i64 ek, .int .i64 en, .string (bs es), .string (bs em), .slice A2 na2 ca2, .slice O2 no2 co2, .slice Bb nb cb, .slice Ls nl cl] 74)) := z0
  have HC := Lib.hid (show ∀ l' W, Pz B b w w.heap.size 74 #[.int .i64 3, .string (bs []), .int .i64 0, .int .i64 ek, .int .i64 en, .string (bs es), .string (bs em), .slice A2 na2 ca2, .slice O2 no2 co2, .slice Bb nb cb, .slice Ls nl cl] l' W → (W.cell? ⟨w.heap.size, 0, none⟩ = some (.int .i64 3) ∧ W.cell? ⟨w.heap.size, 1, none⟩ = some (.string (bs [])) ∧ W.cell? ⟨w.heap.size, 2, none⟩ = some (.int .i64 0) ∧ W.cell? ⟨w.heap.size, 3, none⟩ = some (.int .i64 ek) ∧ W.cell? ⟨w.heap.size, 4, none⟩ = some (.int .i64 en) ∧ W.cell? ⟨w.heap.size, 5, none⟩ = some (.string (bs es)) ∧ W.cell? ⟨w.heap.size, 6, none⟩ = some (.string (bs em)) ∧ W.cell? ⟨w.heap.size, 7, none⟩ = some (.slice A2 na2 ca2) ∧ W.cell? ⟨w.heap.size, 8, none⟩ = some (.slice O2 no2 co2) ∧ W.cell? ⟨w.heap.size, 9, none⟩ = some (.slice Bb nb cb) ∧ W.cell? ⟨w.heap.size, 10, none⟩ = some (.slice Ls nl cl)) from fun l' W z => st_cells z.bx)
  have HW := Lib.hid (show ∀ l' W, Pz B b w w.heap.size 74 #[.int .i64 3, .string (bs []), .int .i64 0, .int .i64 ek, .int .i64 en, .string (bs es), .string (bs em), .slice A2 na2 ca2, .slice O2 no2 co2, .slice Bb nb cb, .slice Ls nl cl] l' W → SxW W from fun l' W z => hw.below (HBS.out W z.bl))
  have HT := Lib.hid (show ∀ l' W, Pz B b w w.heap.size 74 #[.int .i64 3, .string (bs []), .int .i64 0, .int .i64 ek, .int .i64 en, .string (bs es), .string (bs em), .slice A2 na2 ca2, .slice O2 no2 co2, .slice Bb nb cb, .slice Ls nl cl] l' W → Calls Tryz.prog 85 #[.agg #[.int .i64 ek, .int .i64 en, .string (bs es), .string (bs em), .slice A2 na2 ca2, .slice O2 no2 co2]] W fun e' w' => e' = .returned (.string (bs t)) ∧ Below W.heap.size W w' from fun l' W z => HT0 1 W S _ (HW.out l' W z) hce1 (by omega) (hex.below (HBS.out W z.bl)))
  have HL1 := Lib.hid (show ∀ W, Pz B b w w.heap.size 74 #[.int .i64 3, .string (bs []), .int .i64 0, .int .i64 ek, .int .i64 en, .string (bs es), .string (bs em), .slice A2 na2 ca2, .slice O2 no2 co2, .slice Bb nb cb, .slice Ls nl cl] (l) W → Calls Tryz.prog 25 #[.pointer (some ⟨b, 0, none⟩), .int .i64 D, .string (bs c2)] W fun e w' => e = .returned (.tuple #[]) ∧ PB B b (l ++ lineT d c2) w' ∧ Below B W w' ∧ Fr b W w' from fun W z => by
    rw [hD]
    exact line_any B b (l) c2 d W hd1000 z.pb (by omega) z.sz)
  have HA1 := Lib.hid (show ∀ W, Pz B b w w.heap.size 74 #[.int .i64 3, .string (bs []), .int .i64 0, .int .i64 ek, .int .i64 en, .string (bs es), .string (bs em), .slice A2 na2 ca2, .slice O2 no2 co2, .slice Bb nb cb, .slice Ls nl cl] (l ++ lineT d c2) W → Calls Tryz.prog 27 #[.pointer (some ⟨b, 0, none⟩), .int .i64 (D + 1), .slice Bb nb cb] W fun e w' => e = .returned (.tuple #[]) ∧ PB B b (l ++ lineT d c2 ++ tb) w' ∧ Below B W w' ∧ Fr b W w' from fun W z => by
    rw [htb]
    exact ihb (d + 1) (D + 1) w0 S Bb nb cb B b (l ++ lineT d c2) W (by rw [hD]; rfl) hw hcb (by omega) (by rw [← htb]; simp only [List.length_append, lineT_len]; omega) hbB (HBS.out W z.bl) hwB z.sz z.pb)
  have HL2 := Lib.hid (show ∀ W, Pz B b w w.heap.size 74 #[.int .i64 3, .string (bs []), .int .i64 0, .int .i64 ek, .int .i64 en, .string (bs es), .string (bs em), .slice A2 na2 ca2, .slice O2 no2 co2, .slice Bb nb cb, .slice Ls nl cl] (l ++ lineT d c2 ++ tb) W → Calls Tryz.prog 25 #[.pointer (some ⟨b, 0, none⟩), .int .i64 D, .string ⟨#[125]⟩] W fun e w' => e = .returned (.tuple #[]) ∧ PB B b (l ++ lineT d c2 ++ tb ++ lineT d ([125] : Str)) w' ∧ Below B W w' ∧ Fr b W w' from fun W z => by
    rw [hD]
    exact line_any B b (l ++ lineT d c2 ++ tb) ([125] : Str) d W hd1000 z.pb (by simp only [List.length_append, lineT_len]; simp only [List.length_cons, List.length_nil] at hTl ⊢; omega) z.sz)
  have HEND := Lib.hid (show l ++ lineT d c2 ++ tb ++ lineT d ([125] : Str) = l ++ T from by rw [hT]; all_goals simp only [List.append_assoc])
  obtain rfl : nl = 0 := hbL.1.1
  have hdb : D ≤ 12 := hd12
  have hdb0 : 0 ≤ D := by omega
  clear hT hTl hc1 lc1 hc2 lc2 ht hlt HT0 hex hbB hbL hcb hcl hce hsn hn0 hn64 hnr hc hz hlen hx hB0 hwB hBw hp hd1000 hw hD hce1
  unfold stC exC
  simp only [List.cons_append, List.nil_append]
  go_enter Tryz.func52, Tryz.ntmps52
  obtain ⟨c0, c1, c2, c3, c4, c5, c6, c7, c8, c9, c10⟩ := HC.out _ _ z0
  go_wp2_with fail
  refine (HT.out _ _ z0).mono ?_
  rintro e wt ⟨rfl, hb⟩
  have z1 := z0.next hb
  clear hb c0 c1 c2 c3 c4 c5 c6 c7 c8 c9 c10 z0
  obtain ⟨c0, c1, c2, c3, c4, c5, c6, c7, c8, c9, c10⟩ := HC.out _ _ z1
  go_wp2_with fail
  refine (HL1.out _ z1).mono ?_
  rintro e w2 ⟨rfl, hp', hb', hf'⟩
  have z2 := z1.put hp' hb' hf'
  clear hp' hb' hf' c0 c1 c2 c3 c4 c5 c6 c7 c8 c9 c10 z1
  obtain ⟨c0, c1, c2, c3, c4, c5, c6, c7, c8, c9, c10⟩ := HC.out _ _ z2
  go_wp2_with fail
  refine (HA1.out _ z2).mono ?_
  rintro e w3 ⟨rfl, hp', hb', hf'⟩
  have z3 := z2.put hp' hb' hf'
  clear hp' hb' hf' c0 c1 c2 c3 c4 c5 c6 c7 c8 c9 c10 z2
  obtain ⟨c0, c1, c2, c3, c4, c5, c6, c7, c8, c9, c10⟩ := HC.out _ _ z3
  go_wp2_with fail
  refine (HL2.out _ z3).mono ?_
  rintro e w6 ⟨rfl, hp', hb', hf'⟩
  have z6 := z3.put hp' hb' hf'
  clear hp' hb' hf' c0 c1 c2 c3 c4 c5 c6 c7 c8 c9 c10 z3
  try go_wp2
  go_end0
  rw [HEND.out] at z6
  exact ⟨rfl, z6.pb, z6.bl, z6.fr⟩
set_option maxRecDepth 100000 in
set_option maxHeartbeats 12800000 in
theorem stmt_ifelse (e : Ex) (b1 l1 : List St) (ihb : AllAt b1) (ihl : AllAt l1) (hl1 : l1 ≠ []) : StmtAt (.mk 3 [] 0 e b1 l1) := by
  intro d D w0 S cs B b l w hD hw hc hz hlen hx hB0 hwB hBw hp
  obtain ⟨hd12, -, -, -, hsn, hn0, hn64, hce, hcb, hcl⟩ := chkS_fields hc
  have hnr := hx.num
  obtain ⟨ex, Bb, nb, cb, Ls, nl, cl, rfl, hex, hbB, hbL⟩ := hx.open_
  have hd1000 : d ≤ 1000 := by omega
  simp only [St.size, St.sizes] at hz
  have z0 := Pz.start (T := 74) (X := (stC 3 [] 0 ex Bb nb cb Ls nl cl).toArray) hp hBw (by decide)
  have HBS := Lib.hid (show ∀ W, Below B w W → Below w0.heap.size w0 W from fun W h => hB0.trans (h.mono hwB))
  have hce1 := hce rfl
  have hlt := txE_len e 1 hce1 hex.wd
  have HT0 := textAt_any e
  unfold TextAt at HT0
  obtain ⟨t, ht⟩ : ∃ t, t = txE e := ⟨_, rfl⟩
  rw [← ht] at HT0 hlt
  obtain ⟨T, hT⟩ : ∃ T, T = txS d (.mk 3 [] 0 e b1 l1) := ⟨_, rfl⟩
  rw [← hT] at hlen ⊢
  rw [txS, if_neg (by decide), if_neg (by decide), if_neg (by decide), if_neg (by decide), if_neg (by decide), if_neg (by decide), ← ht] at hT
  obtain ⟨c1, hc1⟩ : ∃ c, c = ([105, 102, 32] : Str) ++ t := ⟨_, rfl⟩
  have lc1 : c1.length = 3 + t.length := by rw [hc1]; exact List.length_append
  have jc1 : ∀ w, (Op.stringOp .add (⟨#[105, 102, 32]⟩ : ByteArray) (bs t)).run Tryz.prog w = .ok (.string (bs c1)) w := fun w => by rw [hc1]; exact add_big ([105, 102, 32] : Str) t (by first | omega | (simp; omega)) w
  obtain ⟨c2, hc2⟩ : ∃ c, c = c1 ++ ([32, 123] : Str) := ⟨_, rfl⟩
  have lc2 : c2.length = c1.length + 2 := by rw [hc2]; exact List.length_append
  have jc2 : ∀ w, (Op.stringOp .add (bs c1) (⟨#[32, 123]⟩ : ByteArray)).run Tryz.prog w = .ok (.string (bs c2)) w := fun w => by rw [hc2]; exact add_big c1 ([32, 123] : Str) (by first | omega | (simp; omega)) w
  rw [← hc1, ← hc2] at hT
  obtain ⟨tb, htb⟩ : ∃ tb, tb = txSs (d + 1) b1 := ⟨_, rfl⟩
  rw [← htb] at hT
  rw [if_neg (fun h => hl1 (List.eq_nil_of_length_eq_zero h))] at hT
  obtain ⟨tl, htl⟩ : ∃ tl, tl = txSs (d + 1) l1 := ⟨_, rfl⟩
  rw [← htl] at hT
  have hTl := congrArg List.length hT
  simp only [List.length_append, lineT_len] at hTl
  obtain ⟨ek, en, es, em, ea, eo⟩ := e
  obtain ⟨A2, na2, ca2, O2, no2, co2, rfl, -, -⟩ := hex.open_
  have z0 : Pz B b w w.heap.size 74 #[.int .i64 3, .string (bs []), .int .i64 0, .int .i64 ek, .int .i64 en, .string (bs es), .string (bs em), .slice A2 na2 ca2, .slice O2 no2 co2, .slice Bb nb cb, .slice Ls nl cl] l (w.alloc (.cells #[.int .i64 3, .string (bs []), .int .i64 0, .int .i64 ek, .int .i64 en, .string (bs es), .string (bs em), .slice A2 na2 ca2, .slice O2 no2 co2, .slice Bb nb cb, .slice Ls nl cl] 74)) := z0
  have HC := Lib.hid (show ∀ l' W, Pz B b w w.heap.size 74 #[.int .i64 3, .string (bs []), .int .i64 0, .int .i64 ek, .int .i64 en, .string (bs es), .string (bs em), .slice A2 na2 ca2, .slice O2 no2 co2, .slice Bb nb cb, .slice Ls nl cl] l' W → (W.cell? ⟨w.heap.size, 0, none⟩ = some (.int .i64 3) ∧ W.cell? ⟨w.heap.size, 1, none⟩ = some (.string (bs [])) ∧ W.cell? ⟨w.heap.size, 2, none⟩ = some (.int .i64 0) ∧ W.cell? ⟨w.heap.size, 3, none⟩ = some (.int .i64 ek) ∧ W.cell? ⟨w.heap.size, 4, none⟩ = some (.int .i64 en) ∧ W.cell? ⟨w.heap.size, 5, none⟩ = some (.string (bs es)) ∧ W.cell? ⟨w.heap.size, 6, none⟩ = some (.string (bs em)) ∧ W.cell? ⟨w.heap.size, 7, none⟩ = some (.slice A2 na2 ca2) ∧ W.cell? ⟨w.heap.size, 8, none⟩ = some (.slice O2 no2 co2) ∧ W.cell? ⟨w.heap.size, 9, none⟩ = some (.slice Bb nb cb) ∧ W.cell? ⟨w.heap.size, 10, none⟩ = some (.slice Ls nl cl)) from fun l' W z => st_cells z.bx)
  have HW := Lib.hid (show ∀ l' W, Pz B b w w.heap.size 74 #[.int .i64 3, .string (bs []), .int .i64 0, .int .i64 ek, .int .i64 en, .string (bs es), .string (bs em), .slice A2 na2 ca2, .slice O2 no2 co2, .slice Bb nb cb, .slice Ls nl cl] l' W → SxW W from fun l' W z => hw.below (HBS.out W z.bl))
  have HT := Lib.hid (show ∀ l' W, Pz B b w w.heap.size 74 #[.int .i64 3, .string (bs []), .int .i64 0, .int .i64 ek, .int .i64 en, .string (bs es), .string (bs em), .slice A2 na2 ca2, .slice O2 no2 co2, .slice Bb nb cb, .slice Ls nl cl] l' W → Calls Tryz.prog 85 #[.agg #[.int .i64 ek, .int .i64 en, .string (bs es), .string (bs em), .slice A2 na2 ca2, .slice O2 no2 co2]] W fun e' w' => e' = .returned (.string (bs t)) ∧ Below W.heap.size W w' from fun l' W z => HT0 1 W S _ (HW.out l' W z) hce1 (by omega) (hex.below (HBS.out W z.bl)))
  have HL1 := Lib.hid (show ∀ W, Pz B b w w.heap.size 74 #[.int .i64 3, .string (bs []), .int .i64 0, .int .i64 ek, .int .i64 en, .string (bs es), .string (bs em), .slice A2 na2 ca2, .slice O2 no2 co2, .slice Bb nb cb, .slice Ls nl cl] (l) W → Calls Tryz.prog 25 #[.pointer (some ⟨b, 0, none⟩), .int .i64 D, .string (bs c2)] W fun e w' => e = .returned (.tuple #[]) ∧ PB B b (l ++ lineT d c2) w' ∧ Below B W w' ∧ Fr b W w' from fun W z => by
    rw [hD]
    exact line_any B b (l) c2 d W hd1000 z.pb (by omega) z.sz)
  have HA1 := Lib.hid (show ∀ W, Pz B b w w.heap.size 74 #[.int .i64 3, .string (bs []), .int .i64 0, .int .i64 ek, .int .i64 en, .string (bs es), .string (bs em), .slice A2 na2 ca2, .slice O2 no2 co2, .slice Bb nb cb, .slice Ls nl cl] (l ++ lineT d c2) W → Calls Tryz.prog 27 #[.pointer (some ⟨b, 0, none⟩), .int .i64 (D + 1), .slice Bb nb cb] W fun e w' => e = .returned (.tuple #[]) ∧ PB B b (l ++ lineT d c2 ++ tb) w' ∧ Below B W w' ∧ Fr b W w' from fun W z => by
    rw [htb]
    exact ihb (d + 1) (D + 1) w0 S Bb nb cb B b (l ++ lineT d c2) W (by rw [hD]; rfl) hw hcb (by omega) (by rw [← htb]; simp only [List.length_append, lineT_len]; omega) hbB (HBS.out W z.bl) hwB z.sz z.pb)
  have HL3 := Lib.hid (show ∀ W, Pz B b w w.heap.size 74 #[.int .i64 3, .string (bs []), .int .i64 0, .int .i64 ek, .int .i64 en, .string (bs es), .string (bs em), .slice A2 na2 ca2, .slice O2 no2 co2, .slice Bb nb cb, .slice Ls nl cl] (l ++ lineT d c2 ++ tb) W → Calls Tryz.prog 25 #[.pointer (some ⟨b, 0, none⟩), .int .i64 D, .string ⟨#[125, 32, 101, 108, 115, 101, 32, 123]⟩] W fun e w' => e = .returned (.tuple #[]) ∧ PB B b (l ++ lineT d c2 ++ tb ++ lineT d ([125, 32, 101, 108, 115, 101, 32, 123] : Str)) w' ∧ Below B W w' ∧ Fr b W w' from fun W z => by
    rw [hD]
    exact line_any B b (l ++ lineT d c2 ++ tb) ([125, 32, 101, 108, 115, 101, 32, 123] : Str) d W hd1000 z.pb (by simp only [List.length_append, lineT_len]; simp only [List.length_cons, List.length_nil] at hTl ⊢; omega) z.sz)
  have HA2 := Lib.hid (show ∀ W, Pz B b w w.heap.size 74 #[.int .i64 3, .string (bs []), .int .i64 0, .int .i64 ek, .int .i64 en, .string (bs es), .string (bs em), .slice A2 na2 ca2, .slice O2 no2 co2, .slice Bb nb cb, .slice Ls nl cl] (l ++ lineT d c2 ++ tb ++ lineT d ([125, 32, 101, 108, 115, 101, 32, 123] : Str)) W → Calls Tryz.prog 27 #[.pointer (some ⟨b, 0, none⟩), .int .i64 (D + 1), .slice Ls nl cl] W fun e w' => e = .returned (.tuple #[]) ∧ PB B b (l ++ lineT d c2 ++ tb ++ lineT d ([125, 32, 101, 108, 115, 101, 32, 123] : Str) ++ tl) w' ∧ Below B W w' ∧ Fr b W w' from fun W z => by
    rw [htl]
    exact ihl (d + 1) (D + 1) w0 S Ls nl cl B b (l ++ lineT d c2 ++ tb ++ lineT d ([125, 32, 101, 108, 115, 101, 32, 123] : Str)) W (by rw [hD]; rfl) hw hcl (by omega) (by rw [← htl]; simp only [List.length_append, lineT_len]; simp only [List.length_cons, List.length_nil] at hTl ⊢; omega) hbL (HBS.out W z.bl) hwB z.sz z.pb)
  have HL2 := Lib.hid (show ∀ W, Pz B b w w.heap.size 74 #[.int .i64 3, .string (bs []), .int .i64 0, .int .i64 ek, .int .i64 en, .string (bs es), .string (bs em), .slice A2 na2 ca2, .slice O2 no2 co2, .slice Bb nb cb, .slice Ls nl cl] (l ++ lineT d c2 ++ tb ++ lineT d ([125, 32, 101, 108, 115, 101, 32, 123] : Str) ++ tl) W → Calls Tryz.prog 25 #[.pointer (some ⟨b, 0, none⟩), .int .i64 D, .string ⟨#[125]⟩] W fun e w' => e = .returned (.tuple #[]) ∧ PB B b (l ++ lineT d c2 ++ tb ++ lineT d ([125, 32, 101, 108, 115, 101, 32, 123] : Str) ++ tl ++ lineT d ([125] : Str)) w' ∧ Below B W w' ∧ Fr b W w' from fun W z => by
    rw [hD]
    exact line_any B b (l ++ lineT d c2 ++ tb ++ lineT d ([125, 32, 101, 108, 115, 101, 32, 123] : Str) ++ tl) ([125] : Str) d W hd1000 z.pb (by simp only [List.length_append, lineT_len]; simp only [List.length_cons, List.length_nil] at hTl ⊢; omega) z.sz)
  have HEND := Lib.hid (show l ++ lineT d c2 ++ tb ++ lineT d ([125, 32, 101, 108, 115, 101, 32, 123] : Str) ++ tl ++ lineT d ([125] : Str) = l ++ T from by rw [hT]; all_goals simp only [List.append_assoc])
  have hnl : 0 < (nl : Int) := by have h1 := hbL.1.1; have h2 : 0 < l1.length := List.length_pos_iff.2 hl1; omega
  have hdb : D ≤ 12 := hd12
  have hdb0 : 0 ≤ D := by omega
  clear hT hTl hc1 lc1 hc2 lc2 ht hlt HT0 hex hbB hbL hcb hcl hce hsn hn0 hn64 hnr hc hz hlen hx hB0 hwB hBw hp hd1000 hw hD hce1
  unfold stC exC
  simp only [List.cons_append, List.nil_append]
  go_enter Tryz.func52, Tryz.ntmps52
  obtain ⟨c0, c1, c2, c3, c4, c5, c6, c7, c8, c9, c10⟩ := HC.out _ _ z0
  go_wp2_with fail
  refine (HT.out _ _ z0).mono ?_
  rintro e wt ⟨rfl, hb⟩
  have z1 := z0.next hb
  clear hb c0 c1 c2 c3 c4 c5 c6 c7 c8 c9 c10 z0
  obtain ⟨c0, c1, c2, c3, c4, c5, c6, c7, c8, c9, c10⟩ := HC.out _ _ z1
  go_wp2_with fail
  refine (HL1.out _ z1).mono ?_
  rintro e w2 ⟨rfl, hp', hb', hf'⟩
  have z2 := z1.put hp' hb' hf'
  clear hp' hb' hf' c0 c1 c2 c3 c4 c5 c6 c7 c8 c9 c10 z1
  obtain ⟨c0, c1, c2, c3, c4, c5, c6, c7, c8, c9, c10⟩ := HC.out _ _ z2
  go_wp2_with fail
  refine (HA1.out _ z2).mono ?_
  rintro e w3 ⟨rfl, hp', hb', hf'⟩
  have z3 := z2.put hp' hb' hf'
  clear hp' hb' hf' c0 c1 c2 c3 c4 c5 c6 c7 c8 c9 c10 z2
  obtain ⟨c0, c1, c2, c3, c4, c5, c6, c7, c8, c9, c10⟩ := HC.out _ _ z3
  go_wp2_with fail
  refine (HL3.out _ z3).mono ?_
  rintro e w4 ⟨rfl, hp', hb', hf'⟩
  have z4 := z3.put hp' hb' hf'
  clear hp' hb' hf' c0 c1 c2 c3 c4 c5 c6 c7 c8 c9 c10 z3
  obtain ⟨c0, c1, c2, c3, c4, c5, c6, c7, c8, c9, c10⟩ := HC.out _ _ z4
  go_wp2_with fail
  refine (HA2.out _ z4).mono ?_
  rintro e w5 ⟨rfl, hp', hb', hf'⟩
  have z5 := z4.put hp' hb' hf'
  clear hp' hb' hf' c0 c1 c2 c3 c4 c5 c6 c7 c8 c9 c10 z4
  obtain ⟨c0, c1, c2, c3, c4, c5, c6, c7, c8, c9, c10⟩ := HC.out _ _ z5
  go_wp2_with fail
  refine (HL2.out _ z5).mono ?_
  rintro e w6 ⟨rfl, hp', hb', hf'⟩
  have z6 := z5.put hp' hb' hf'
  clear hp' hb' hf' c0 c1 c2 c3 c4 c5 c6 c7 c8 c9 c10 z5
  try go_wp2
  go_end0
  rw [HEND.out] at z6
  exact ⟨rfl, z6.pb, z6.bl, z6.fr⟩
end Go.Proofs.YtkakbidllpjopaaGreatDoor
namespace Go.Proofs.YtkakbidllpjopaaGreatDoor
open Go.RowKit

theorem stmtAt_any (e : St) : StmtAt e := by
  obtain ⟨N, hN⟩ : ∃ N, N = e.size := ⟨_, rfl⟩
  induction N using Nat.strongRecOn generalizing e with
  | _ N ih =>
    intro d D w0 S cs B b l w hD hw hc hz hlen hx hB0 hwB hBw hp
    have key : ∀ x : St, x.size < e.size → StmtAt x := fun x hlt => ih x.size (by omega) x rfl
    clear ih hN
    rcases (shapeS_of hc).1 with ⟨s, x, hs, he⟩ | ⟨s, x, hs, he⟩ | ⟨x, hk, he⟩ | ⟨x, bb, ll, he, hb, hl⟩ | ⟨n, bb, h0, h1, hb⟩ | ⟨x, he⟩ | ⟨n, h0⟩
    · exact stmt_let s x d D w0 S cs B b l w hD hw hc hz hlen hx hB0 hwB hBw hp
    · exact stmt_set s x d D w0 S cs B b l w hD hw hc hz hlen hx hB0 hwB hBw hp
    · exact stmt_do x d D w0 S cs B b l w hD hw hc hz hlen hx hB0 hwB hBw hp
    · have ihb : AllAt bb := allAt_of fun y hy => key y (by rw [St.size]; have := St.sizes_mem hy; omega)
      by_cases hl0 : ll = []
      · subst hl0
        exact stmt_if x bb ihb d D w0 S cs B b l w hD hw hc hz hlen hx hB0 hwB hBw hp
      · exact stmt_ifelse x bb ll ihb (allAt_of fun y hy => key y (by rw [St.size]; have := St.sizes_mem hy; omega)) hl0 d D w0 S cs B b l w hD hw hc hz hlen hx hB0 hwB hBw hp
    · exact stmt_repeat n bb (allAt_of fun y hy => key y (by rw [St.size]; have := St.sizes_mem hy; omega)) d D w0 S cs B b l w hD hw hc hz hlen hx hB0 hwB hBw hp
    · exact stmt_return x d D w0 S cs B b l w hD hw hc hz hlen hx hB0 hwB hBw hp
    · exact stmt_abort n d D w0 S cs B b l w hD hw hc hz hlen hx hB0 hwB hBw hp
theorem allAt_any (l : List St) : AllAt l := allAt_of fun e _ => stmtAt_any e
mutual
/-- Its numbers are int64. -/
def St.Wd : St → Prop
  | .mk _ _ n e b l => InR n ∧ e.Wd ∧ St.Wds b ∧ St.Wds l
def St.Wds : List St → Prop
  | [] => True
  | e :: t => e.Wd ∧ St.Wds t
end
theorem St.Wds_mem : ∀ {l : List St}, St.Wds l → ∀ e ∈ l, e.Wd
  | a :: t, h, e, he => by
    rw [St.Wds] at h
    rcases List.mem_cons.1 he with rfl | he
    · exact h.1
    · exact St.Wds_mem h.2 e he
mutual
theorem SV.wd {w : World} {S : Nat → Prop} : ∀ {e : St} {cs : List Value}, SV w S e cs → e.Wd
  | .mk k s n e b l, cs, h => by
    rw [SV] at h
    obtain ⟨ex, B, nb, cb, L, nl, cl, h1, h0, h2, h3, h4, h5, h6⟩ := h
    rw [St.Wd]
    refine ⟨h0, h2.wd, ?_, ?_⟩
    · cases b with
      | nil => rw [St.Wds]; trivial
      | cons e t =>
        obtain ⟨b, q, _, _, _, hx⟩ := h5 (by rw [h3.1]; simp)
        exact SLf.wd hx
    · cases l with
      | nil => rw [St.Wds]; trivial
      | cons e t =>
        obtain ⟨b, q, _, _, _, hx⟩ := h6 (by rw [h4.1]; simp)
        exact SLf.wd hx
theorem SLf.wd {w : World} {S : Nat → Prop} {b q : Nat} : ∀ {i : Nat} {l : List St}, SLf w S b q i l → St.Wds l
  | _, [], _ => by rw [St.Wds]; trivial
  | i, e :: t, h => by
    rw [SLf] at h
    obtain ⟨⟨cs, h1, _⟩, h3⟩ := h
    rw [St.Wds]
    exact ⟨SV.wd h1, SLf.wd h3⟩
end
theorem SL.wds {w : World} {S : Nat → Prop} {A : Option Addr} {n c : Nat} {l : List St} (h : SL w S A n c l) : St.Wds l := by
  cases l with
  | nil => rw [St.Wds]; trivial
  | cons e t =>
    obtain ⟨b, q, _, _, _, hx⟩ := h.2 (by rw [h.1.1]; simp)
    exact SLf.wd hx
theorem txSs_len {d : Nat} : ∀ {l : List St}, (∀ x ∈ l, (txS d x).length ≤ 300 * x.size) → (txSs d l).length ≤ 300 * St.sizes l
  | [], _ => by simp [txSs, St.sizes]
  | e :: t, h => by
    have h1 := h e (by simp)
    have h2 := txSs_len (l := t) fun x hx => h x (by simp [hx])
    rw [txSs, St.sizes, List.length_append, Nat.mul_add]
    omega
theorem txS_len (e : St) : ∀ d : Nat, chkS (d : Int) e = 0 → e.Wd → (txS d e).length ≤ 300 * e.size := by
  obtain ⟨N, hN⟩ : ∃ N, N = e.size := ⟨_, rfl⟩
  induction N using Nat.strongRecOn generalizing e with
  | _ N ih =>
    intro d h hw
    obtain ⟨hsh, hd⟩ := shapeS_of h
    have key : ∀ l : List St, (∀ x ∈ l, x.size < e.size) → chkSs ((d : Int) + 1) l = 0 → St.Wds l → (txSs (d + 1) l).length ≤ 300 * St.sizes l := fun l h1 h2 h3 =>
      txSs_len fun x hx => ih x.size (by have := h1 x hx; omega) x rfl (d + 1) (chkSs_all h2 x hx) (St.Wds_mem h3 x hx)
    clear ih hN h
    rcases hsh with ⟨s, x, hs, he⟩ | ⟨s, x, hs, he⟩ | ⟨x, hk, he⟩ | ⟨x, bb, ll, he, hb, hl⟩ | ⟨n, bb, h0, h1, hb⟩ | ⟨x, he⟩ | ⟨n, h0⟩
    all_goals rw [St.Wd] at hw
    · have h1 := name_len hs
      have h2 := txE_len x 1 he hw.2.1
      rw [txS, if_pos rfl, lineT_len, St.size]
      simp only [List.length_append, List.length_cons, List.length_nil]
      omega
    · have h1 := name_len hs
      have h2 := txE_len x 1 he hw.2.1
      rw [txS, if_neg (by decide), if_pos rfl, lineT_len, St.size]
      simp only [List.length_append, List.length_cons, List.length_nil]
      omega
    · have h2 := txE_len x 1 he hw.2.1
      rw [txS, if_neg (by decide), if_neg (by decide), if_pos rfl, lineT_len, St.size]
      simp only [List.length_append, List.length_cons, List.length_nil]
      omega
    · have h2 := txE_len x 1 he hw.2.1
      have h3 := key bb (fun y hy => by rw [St.size]; have := St.sizes_mem hy; omega) hb hw.2.2.1
      have h4 := key ll (fun y hy => by rw [St.size]; have := St.sizes_mem hy; omega) hl hw.2.2.2
      have h5 : (if ll.length = 0 then [] else lineT d [125, 32, 101, 108, 115, 101, 32, 123] ++ txSs (d + 1) ll).length ≤ 40 + 300 * St.sizes ll := by
        split
        · simp
        · rw [List.length_append, lineT_len]
          simp only [List.length_cons, List.length_nil]
          omega
      rw [txS, if_neg (by decide), if_neg (by decide), if_neg (by decide), if_neg (by decide), if_neg (by decide), if_neg (by decide), St.size]
      rw [List.length_append, List.length_append, List.length_append, lineT_len, lineT_len]
      simp only [List.length_append, List.length_cons, List.length_nil] at h5 ⊢
      omega
    · have h2 := Lib.itoa_length_le n hw.1.1 hw.1.2
      have h3 := key bb (fun y hy => by rw [St.size]; have := St.sizes_mem hy; omega) hb hw.2.2.1
      rw [txS, if_neg (by decide), if_neg (by decide), if_neg (by decide), if_neg (by decide), if_neg (by decide), if_pos rfl, St.size]
      simp only [List.length_append, lineT_len, List.length_cons, List.length_nil]
      omega
    · have h2 := txE_len x 1 he hw.2.1
      rw [txS, if_neg (by decide), if_neg (by decide), if_neg (by decide), if_pos rfl, lineT_len, St.size]
      simp only [List.length_append, List.length_cons, List.length_nil]
      omega
    · have h2 := Lib.itoa_length_le n hw.1.1 hw.1.2
      rw [txS, if_neg (by decide), if_neg (by decide), if_neg (by decide), if_neg (by decide), if_pos rfl, lineT_len, St.size]
      simp only [List.length_append, List.length_cons, List.length_nil]
      omega
/-- strings.Join of a slice of strings. -/
theorem join_ss {w : World} {S : Nat → Prop} {A : Option Addr} {n c : Nat} {l : List Str} (h : SS w S A n c l) (sep : Str) (hN : l.length ≤ 100000) (hlen : (Lib.join l sep).length ≤ 100000000) :
    Calls Tryz.prog 26 #[.slice A n c, .string (bs sep)] w fun e w' => e = .returned (.string (bs (Lib.join l sep))) ∧ Below w.heap.size w w' := by
  cases l with
  | nil =>
    obtain rfl : n = 0 := h.1
    refine (Tryz.strings_Join_none A c (bs sep) w).mono ?_
    rintro e w' ⟨rfl, rfl⟩
    exact ⟨rfl, Below.refl _ _⟩
  | cons x t =>
    obtain ⟨b, q, rfl, hb, _, hcell⟩ := h.2.2 (by rw [h.1]; simp)
    have e : ((x :: t).map bs).map (fun s => s.data.toList) = x :: t := by
      rw [List.map_map]
      exact (List.map_congr_left fun y _ => rfl).trans (List.map_id _)
    have hJ := Tryz.strings_Join b q c ((x :: t).map bs) (bs sep) w (fun j y hy => by
      rw [List.getElem?_map] at hy
      obtain ⟨z, hz, rfl⟩ := Option.map_eq_some_iff.1 hy
      obtain ⟨cs, ⟨s, hs, rfl⟩, hr⟩ := hcell j (by rw [h.1]; exact (List.getElem?_eq_some_iff.1 hz).1)
      obtain rfl : z = s := by rw [hz] at hs; injection hs
      have := hr 0 _ rfl
      simpa using this) hb (by rw [List.length_map]; omega) (by rw [List.length_map, ← h.1]; exact h.2.1.1) (by rw [e, bs_list]; omega)
    rw [e, bs_list, List.length_map, ← h.1] at hJ
    exact hJ
end Go.Proofs.YtkakbidllpjopaaGreatDoor
