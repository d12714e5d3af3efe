/- The printer's walk: each kind of statement (printed by wip/gensxw.py). Conditions: valid statements; the library's tables are laid (SxW); the text stays short. The printer's walk: lists of statements; how long a text is; strings.Join of parameters. Conditions: valid statements; the library's tables are laid (SxW). The walk of syntax.Print (printed by wip/gensxy.py). Conditions: the library's tables are laid (SxW); at most 10000 parts an operation. The walks of law45's alone and awake. Conditions: the laid tables and error variables (WW). -/
import Derived.Test.YtkakbidllpjopaaGreatDoorV12
import Derived.Test.YtkakbidllpjopaaGreatDoorV08
set_option linter.unusedVariables false
set_option linter.unusedSimpArgs false
namespace Go.Proofs.YtkakbidllpjopaaGreatDoor
open Go.RowKit

set_option maxRecDepth 100000 in
set_option maxHeartbeats 12800000 in
theorem stmt_let (s : Str) (e : Ex) : StmtAt (.mk 0 s 0 e [] []) := by
 intro d D w0 S cs B b l w hD hw hc hz hlen hx hB0 hwB hBw hp
 obtain ⟨hd12, -, -, -, hsn, hn0, hn64, hce, hcb, hcl⟩ := chkS_fields hc
 have hnr := hx.num
 obtain ⟨ex, Bb, nb, cb, Ls, nl, cl, rfl, hex, hbB, hbL⟩ := hx.open_
 have hd1000 : d ≤ 1000 := by omega
 simp only [St.size, St.sizes] at hz
 have z0 := Pz.start (T := 74) (X := (stC 0 s 0 ex Bb nb cb Ls nl cl).toArray) hp hBw (by decide)
 have HBS := Lib.hid (show ∀ W, Below B w W → Below w0.heap.size w0 W from fun W h => hB0.trans (h.mono hwB))
 have hce1 := hce rfl
 have hlt := txE_len e 1 hce1 hex.wd
 have HT0 := textAt_any e
 unfold TextAt at HT0
 obtain ⟨t, ht⟩ : ∃ t, t = txE e := ⟨_, rfl⟩
 rw [← ht] at HT0 hlt
 have hls := name_len (hsn (by decide))
 obtain ⟨T, hT⟩ : ∃ T, T = txS d (.mk 0 s 0 e [] []) := ⟨_, rfl⟩
 rw [← hT] at hlen ⊢
 rw [txS, if_pos rfl, ← ht] at hT
 obtain ⟨c1, hc1⟩ : ∃ c, c = ([108, 101, 116, 32] : Str) ++ s := ⟨_, rfl⟩
 have lc1 : c1.length = 4 + s.length := by rw [hc1]; exact List.length_append
 have jc1 : ∀ w, (Op.stringOp .add (⟨#[108, 101, 116, 32]⟩ : ByteArray) (bs s)).run Tryz.prog w = .ok (.string (bs c1)) w := fun w => by rw [hc1]; exact add_big ([108, 101, 116, 32] : Str) s (by first | omega | (simp; omega)) w
 obtain ⟨c2, hc2⟩ : ∃ c, c = c1 ++ ([32, 61, 32] : Str) := ⟨_, rfl⟩
 have lc2 : c2.length = c1.length + 3 := by rw [hc2]; exact List.length_append
 have jc2 : ∀ w, (Op.stringOp .add (bs c1) (⟨#[32, 61, 32]⟩ : ByteArray)).run Tryz.prog w = .ok (.string (bs c2)) w := fun w => by rw [hc2]; exact add_big c1 ([32, 61, 32] : Str) (by first | omega | (simp; omega)) w
 obtain ⟨c3, hc3⟩ : ∃ c, c = c2 ++ t := ⟨_, rfl⟩
 have lc3 : c3.length = c2.length + t.length := by rw [hc3]; exact List.length_append
 have jc3 : ∀ w, (Op.stringOp .add (bs c2) (bs t)).run Tryz.prog w = .ok (.string (bs c3)) w := fun w => by rw [hc3]; exact add_big c2 t (by first | omega | (simp; omega)) w
 obtain ⟨c4, hc4⟩ : ∃ c, c = c3 ++ ([59] : Str) := ⟨_, rfl⟩
 have lc4 : c4.length = c3.length + 1 := by rw [hc4]; exact List.length_append
 have jc4 : ∀ w, (Op.stringOp .add (bs c3) (⟨#[59]⟩ : ByteArray)).run Tryz.prog w = .ok (.string (bs c4)) w := fun w => by rw [hc4]; exact add_big c3 ([59] : Str) (by first | omega | (simp; omega)) w
 rw [← hc1, ← hc2, ← hc3, ← hc4] at hT
 have hTl := congrArg List.length hT
 rw [lineT_len] at hTl
 obtain ⟨ek, en, es, em, ea, eo⟩ := e
 obtain ⟨A2, na2, ca2, O2, no2, co2, rfl, -, -⟩ := hex.open_
 have z0 : Pz B b w w.heap.size 74 #[.int .i64 0, .string (bs s), .int .i64 0, .int .i64 ek, .int .i64 en, .string (bs es), .string (bs em), .slice A2 na2 ca2, .slice O2 no2 co2, .slice Bb nb cb, .slice Ls nl cl] l (w.alloc (.cells #[.int .i64 0, .string (bs s), .int .i64 0, .int .i64 ek, .int .i64 en, .string (bs es), .string (bs em), .slice A2 na2 ca2, .slice O2 no2 co2, .slice Bb nb cb, .slice Ls nl cl] 74)) := z0
 have HC := Lib.hid (show ∀ l' W, Pz B b w w.heap.size 74 #[.int .i64 0, .string (bs s), .int .i64 0, .int .i64 ek, .int .i64 en, .string (bs es), .string (bs em), .slice A2 na2 ca2, .slice O2 no2 co2, .slice Bb nb cb, .slice Ls nl cl] l' W → (W.cell? ⟨w.heap.size, 0, none⟩ = some (.int .i64 0) ∧ W.cell? ⟨w.heap.size, 1, none⟩ = some (.string (bs s)) ∧ W.cell? ⟨w.heap.size, 2, none⟩ = some (.int .i64 0) ∧ W.cell? ⟨w.heap.size, 3, none⟩ = some (.int .i64 ek) ∧ W.cell? ⟨w.heap.size, 4, none⟩ = some (.int .i64 en) ∧ W.cell? ⟨w.heap.size, 5, none⟩ = some (.string (bs es)) ∧ W.cell? ⟨w.heap.size, 6, none⟩ = some (.string (bs em)) ∧ W.cell? ⟨w.heap.size, 7, none⟩ = some (.slice A2 na2 ca2) ∧ W.cell? ⟨w.heap.size, 8, none⟩ = some (.slice O2 no2 co2) ∧ W.cell? ⟨w.heap.size, 9, none⟩ = some (.slice Bb nb cb) ∧ W.cell? ⟨w.heap.size, 10, none⟩ = some (.slice Ls nl cl)) from fun l' W z => st_cells z.bx)
 have HW := Lib.hid (show ∀ l' W, Pz B b w w.heap.size 74 #[.int .i64 0, .string (bs s), .int .i64 0, .int .i64 ek, .int .i64 en, .string (bs es), .string (bs em), .slice A2 na2 ca2, .slice O2 no2 co2, .slice Bb nb cb, .slice Ls nl cl] l' W → SxW W from fun l' W z => hw.below (HBS.out W z.bl))
 have HT := Lib.hid (show ∀ l' W, Pz B b w w.heap.size 74 #[.int .i64 0, .string (bs s), .int .i64 0, .int .i64 ek, .int .i64 en, .string (bs es), .string (bs em), .slice A2 na2 ca2, .slice O2 no2 co2, .slice Bb nb cb, .slice Ls nl cl] l' W → Calls Tryz.prog 85 #[.agg #[.int .i64 ek, .int .i64 en, .string (bs es), .string (bs em), .slice A2 na2 ca2, .slice O2 no2 co2]] W fun e' w' => e' = .returned (.string (bs t)) ∧ Below W.heap.size W w' from fun l' W z => HT0 1 W S _ (HW.out l' W z) hce1 (by omega) (hex.below (HBS.out W z.bl)))
 have HL1 := Lib.hid (show ∀ W, Pz B b w w.heap.size 74 #[.int .i64 0, .string (bs s), .int .i64 0, .int .i64 ek, .int .i64 en, .string (bs es), .string (bs em), .slice A2 na2 ca2, .slice O2 no2 co2, .slice Bb nb cb, .slice Ls nl cl] (l) W → Calls Tryz.prog 25 #[.pointer (some ⟨b, 0, none⟩), .int .i64 D, .string (bs c4)] W fun e w' => e = .returned (.tuple #[]) ∧ PB B b (l ++ lineT d c4) w' ∧ Below B W w' ∧ Fr b W w' from fun W z => by
  rw [hD]
  exact line_any B b (l) c4 d W hd1000 z.pb (by omega) z.sz)
 have HEND := Lib.hid (show l ++ lineT d c4 = l ++ T from by rw [hT]; all_goals simp only [List.append_assoc])
 clear hT hTl hc1 lc1 hc2 lc2 hc3 lc3 hc4 lc4 ht hlt HT0 hex hbB hbL hcb hcl hce hsn hn0 hn64 hnr hc hz hlen hx hB0 hwB hBw hp hd1000 hw hD hce1 hls
 unfold stC exC
 simp only [List.cons_append, List.nil_append]
 go_enter Tryz.func52, Tryz.ntmps52
 go_upto_region 3 with fail
 have z1 := z0.drew
 go_region_held3 (fun W => (W.cell? ⟨w.heap.size, 0, none⟩ = some (.int .i64 0) ∧ W.cell? ⟨w.heap.size, 1, none⟩ = some (.string (bs s)) ∧ W.cell? ⟨w.heap.size, 2, none⟩ = some (.int .i64 0) ∧ W.cell? ⟨w.heap.size, 3, none⟩ = some (.int .i64 ek) ∧ W.cell? ⟨w.heap.size, 4, none⟩ = some (.int .i64 en) ∧ W.cell? ⟨w.heap.size, 5, none⟩ = some (.string (bs es)) ∧ W.cell? ⟨w.heap.size, 6, none⟩ = some (.string (bs em)) ∧ W.cell? ⟨w.heap.size, 7, none⟩ = some (.slice A2 na2 ca2) ∧ W.cell? ⟨w.heap.size, 8, none⟩ = some (.slice O2 no2 co2) ∧ W.cell? ⟨w.heap.size, 9, none⟩ = some (.slice Bb nb cb) ∧ W.cell? ⟨w.heap.size, 10, none⟩ = some (.slice Ls nl cl))) (exact HC.out _ _ (by assumption)) (first
  | (go_at_call 85; refine (HT.out _ _ (by assumption)).mono ?_; rintro e wt ⟨rfl, hb⟩; have zt := Pz.next (by assumption) hb; clear hb)
  | (go_at_call 25; refine (HL1.out _ (by assumption)).mono ?_; rintro e ws ⟨rfl, hp', hb', hf'⟩; have zs := Pz.put (by assumption) hp' hb' hf'; clear hp' hb' hf'))
 all_goals
  try go_wp2
  go_end0
  have zf := zs
  rw [HEND.out] at zf
  exact ⟨rfl, zf.pb, zf.bl, zf.fr⟩
set_option maxRecDepth 100000 in
set_option maxHeartbeats 12800000 in
theorem stmt_set (s : Str) (e : Ex) : StmtAt (.mk 1 s 0 e [] []) := by
 intro d D w0 S cs B b l w hD hw hc hz hlen hx hB0 hwB hBw hp
 obtain ⟨hd12, -, -, -, hsn, hn0, hn64, hce, hcb, hcl⟩ := chkS_fields hc
 have hnr := hx.num
 obtain ⟨ex, Bb, nb, cb, Ls, nl, cl, rfl, hex, hbB, hbL⟩ := hx.open_
 have hd1000 : d ≤ 1000 := by omega
 simp only [St.size, St.sizes] at hz
 have z0 := Pz.start (T := 74) (X := (stC 1 s 0 ex Bb nb cb Ls nl cl).toArray) hp hBw (by decide)
 have HBS := Lib.hid (show ∀ W, Below B w W → Below w0.heap.size w0 W from fun W h => hB0.trans (h.mono hwB))
 have hce1 := hce rfl
 have hlt := txE_len e 1 hce1 hex.wd
 have HT0 := textAt_any e
 unfold TextAt at HT0
 obtain ⟨t, ht⟩ : ∃ t, t = txE e := ⟨_, rfl⟩
 rw [← ht] at HT0 hlt
 have hls := name_len (hsn (by decide))
 obtain ⟨T, hT⟩ : ∃ T, T = txS d (.mk 1 s 0 e [] []) := ⟨_, rfl⟩
 rw [← hT] at hlen ⊢
 rw [txS, if_neg (by decide), if_pos rfl, ← ht] at hT
 obtain ⟨c1, hc1⟩ : ∃ c, c = s ++ ([32, 61, 32] : Str) := ⟨_, rfl⟩
 have lc1 : c1.length = s.length + 3 := by rw [hc1]; exact List.length_append
 have jc1 : ∀ w, (Op.stringOp .add (bs s) (⟨#[32, 61, 32]⟩ : ByteArray)).run Tryz.prog w = .ok (.string (bs c1)) w := fun w => by rw [hc1]; exact add_big s ([32, 61, 32] : Str) (by first | omega | (simp; omega)) w
 obtain ⟨c2, hc2⟩ : ∃ c, c = c1 ++ t := ⟨_, rfl⟩
 have lc2 : c2.length = c1.length + t.length := by rw [hc2]; exact List.length_append
 have jc2 : ∀ w, (Op.stringOp .add (bs c1) (bs t)).run Tryz.prog w = .ok (.string (bs c2)) w := fun w => by rw [hc2]; exact add_big c1 t (by first | omega | (simp; omega)) w
 obtain ⟨c3, hc3⟩ : ∃ c, c = c2 ++ ([59] : Str) := ⟨_, rfl⟩
 have lc3 : c3.length = c2.length + 1 := by rw [hc3]; exact List.length_append
 have jc3 : ∀ w, (Op.stringOp .add (bs c2) (⟨#[59]⟩ : ByteArray)).run Tryz.prog w = .ok (.string (bs c3)) w := fun w => by rw [hc3]; exact add_big c2 ([59] : Str) (by first | omega | (simp; omega)) w
 rw [← hc1, ← hc2, ← hc3] at hT
 have hTl := congrArg List.length hT
 rw [lineT_len] at hTl
 obtain ⟨ek, en, es, em, ea, eo⟩ := e
 obtain ⟨A2, na2, ca2, O2, no2, co2, rfl, -, -⟩ := hex.open_
 have z0 : Pz B b w w.heap.size 74 #[.int .i64 1, .string (bs s), .int .i64 0, .int .i64 ek, .int .i64 en, .string (bs es), .string (bs em), .slice A2 na2 ca2, .slice O2 no2 co2, .slice Bb nb cb, .slice Ls nl cl] l (w.alloc (.cells #[.int .i64 1, .string (bs s), .int .i64 0, .int .i64 ek, .int .i64 en, .string (bs es), .string (bs em), .slice A2 na2 ca2, .slice O2 no2 co2, .slice Bb nb cb, .slice Ls nl cl] 74)) := z0
 have HC := Lib.hid (show ∀ l' W, Pz B b w w.heap.size 74 #[.int .i64 1, .string (bs s), .int .i64 0, .int .i64 ek, .int .i64 en, .string (bs es), .string (bs em), .slice A2 na2 ca2, .slice O2 no2 co2, .slice Bb nb cb, .slice Ls nl cl] l' W → (W.cell? ⟨w.heap.size, 0, none⟩ = some (.int .i64 1) ∧ W.cell? ⟨w.heap.size, 1, none⟩ = some (.string (bs s)) ∧ W.cell? ⟨w.heap.size, 2, none⟩ = some (.int .i64 0) ∧ W.cell? ⟨w.heap.size, 3, none⟩ = some (.int .i64 ek) ∧ W.cell? ⟨w.heap.size, 4, none⟩ = some (.int .i64 en) ∧ W.cell? ⟨w.heap.size, 5, none⟩ = some (.string (bs es)) ∧ W.cell? ⟨w.heap.size, 6, none⟩ = some (.string (bs em)) ∧ W.cell? ⟨w.heap.size, 7, none⟩ = some (.slice A2 na2 ca2) ∧ W.cell? ⟨w.heap.size, 8, none⟩ = some (.slice O2 no2 co2) ∧ W.cell? ⟨w.heap.size, 9, none⟩ = some (.slice Bb nb cb) ∧ W.cell? ⟨w.heap.size, 10, none⟩ = some (.slice Ls nl cl)) from fun l' W z => st_cells z.bx)
 have HW := Lib.hid (show ∀ l' W, Pz B b w w.heap.size 74 #[.int .i64 1, .string (bs s), .int .i64 0, .int .i64 ek, .int .i64 en, .string (bs es), .string (bs em), .slice A2 na2 ca2, .slice O2 no2 co2, .slice Bb nb cb, .slice Ls nl cl] l' W → SxW W from fun l' W z => hw.below (HBS.out W z.bl))
 have HT := Lib.hid (show ∀ l' W, Pz B b w w.heap.size 74 #[.int .i64 1, .string (bs s), .int .i64 0, .int .i64 ek, .int .i64 en, .string (bs es), .string (bs em), .slice A2 na2 ca2, .slice O2 no2 co2, .slice Bb nb cb, .slice Ls nl cl] l' W → Calls Tryz.prog 85 #[.agg #[.int .i64 ek, .int .i64 en, .string (bs es), .string (bs em), .slice A2 na2 ca2, .slice O2 no2 co2]] W fun e' w' => e' = .returned (.string (bs t)) ∧ Below W.heap.size W w' from fun l' W z => HT0 1 W S _ (HW.out l' W z) hce1 (by omega) (hex.below (HBS.out W z.bl)))
 have HL1 := Lib.hid (show ∀ W, Pz B b w w.heap.size 74 #[.int .i64 1, .string (bs s), .int .i64 0, .int .i64 ek, .int .i64 en, .string (bs es), .string (bs em), .slice A2 na2 ca2, .slice O2 no2 co2, .slice Bb nb cb, .slice Ls nl cl] (l) W → Calls Tryz.prog 25 #[.pointer (some ⟨b, 0, none⟩), .int .i64 D, .string (bs c3)] W fun e w' => e = .returned (.tuple #[]) ∧ PB B b (l ++ lineT d c3) w' ∧ Below B W w' ∧ Fr b W w' from fun W z => by
  rw [hD]
  exact line_any B b (l) c3 d W hd1000 z.pb (by omega) z.sz)
 have HEND := Lib.hid (show l ++ lineT d c3 = l ++ T from by rw [hT]; all_goals simp only [List.append_assoc])
 clear hT hTl hc1 lc1 hc2 lc2 hc3 lc3 ht hlt HT0 hex hbB hbL hcb hcl hce hsn hn0 hn64 hnr hc hz hlen hx hB0 hwB hBw hp hd1000 hw hD hce1 hls
 unfold stC exC
 simp only [List.cons_append, List.nil_append]
 go_enter Tryz.func52, Tryz.ntmps52
 go_upto_region 5 with fail
 have z1 := z0.drew
 go_region_held3 (fun W => (W.cell? ⟨w.heap.size, 0, none⟩ = some (.int .i64 1) ∧ W.cell? ⟨w.heap.size, 1, none⟩ = some (.string (bs s)) ∧ W.cell? ⟨w.heap.size, 2, none⟩ = some (.int .i64 0) ∧ W.cell? ⟨w.heap.size, 3, none⟩ = some (.int .i64 ek) ∧ W.cell? ⟨w.heap.size, 4, none⟩ = some (.int .i64 en) ∧ W.cell? ⟨w.heap.size, 5, none⟩ = some (.string (bs es)) ∧ W.cell? ⟨w.heap.size, 6, none⟩ = some (.string (bs em)) ∧ W.cell? ⟨w.heap.size, 7, none⟩ = some (.slice A2 na2 ca2) ∧ W.cell? ⟨w.heap.size, 8, none⟩ = some (.slice O2 no2 co2) ∧ W.cell? ⟨w.heap.size, 9, none⟩ = some (.slice Bb nb cb) ∧ W.cell? ⟨w.heap.size, 10, none⟩ = some (.slice Ls nl cl))) (exact HC.out _ _ (by assumption)) (first
  | (go_at_call 85; refine (HT.out _ _ (by assumption)).mono ?_; rintro e wt ⟨rfl, hb⟩; have zt := Pz.next (by assumption) hb; clear hb)
  | (go_at_call 25; refine (HL1.out _ (by assumption)).mono ?_; rintro e ws ⟨rfl, hp', hb', hf'⟩; have zs := Pz.put (by assumption) hp' hb' hf'; clear hp' hb' hf'))
 all_goals
  try go_wp2
  go_end0
  have zf := zs
  rw [HEND.out] at zf
  exact ⟨rfl, zf.pb, zf.bl, zf.fr⟩
set_option maxRecDepth 100000 in
set_option maxHeartbeats 12800000 in
theorem stmt_do (e : Ex) : StmtAt (.mk 2 [] 0 e [] []) := by
 intro d D w0 S cs B b l w hD hw hc hz hlen hx hB0 hwB hBw hp
 obtain ⟨hd12, -, -, -, hsn, hn0, hn64, hce, hcb, hcl⟩ := chkS_fields hc
 have hnr := hx.num
 obtain ⟨ex, Bb, nb, cb, Ls, nl, cl, rfl, hex, hbB, hbL⟩ := hx.open_
 have hd1000 : d ≤ 1000 := by omega
 simp only [St.size, St.sizes] at hz
 have z0 := Pz.start (T := 74) (X := (stC 2 [] 0 ex Bb nb cb Ls nl cl).toArray) hp hBw (by decide)
 have HBS := Lib.hid (show ∀ W, Below B w W → Below w0.heap.size w0 W from fun W h => hB0.trans (h.mono hwB))
 have hce1 := hce rfl
 have hlt := txE_len e 1 hce1 hex.wd
 have HT0 := textAt_any e
 unfold TextAt at HT0
 obtain ⟨t, ht⟩ : ∃ t, t = txE e := ⟨_, rfl⟩
 rw [← ht] at HT0 hlt
 obtain ⟨T, hT⟩ : ∃ T, T = txS d (.mk 2 [] 0 e [] []) := ⟨_, rfl⟩
 rw [← hT] at hlen ⊢
 rw [txS, if_neg (by decide), if_neg (by decide), if_pos rfl, ← ht] at hT
 obtain ⟨c1, hc1⟩ : ∃ c, c = t ++ ([59] : Str) := ⟨_, rfl⟩
 have lc1 : c1.length = t.length + 1 := by rw [hc1]; exact List.length_append
 have jc1 : ∀ w, (Op.stringOp .add (bs t) (⟨#[59]⟩ : ByteArray)).run Tryz.prog w = .ok (.string (bs c1)) w := fun w => by rw [hc1]; exact add_big t ([59] : Str) (by first | omega | (simp; omega)) w
 rw [← hc1] at hT
 have hTl := congrArg List.length hT
 rw [lineT_len] at hTl
 obtain ⟨ek, en, es, em, ea, eo⟩ := e
 obtain ⟨A2, na2, ca2, O2, no2, co2, rfl, -, -⟩ := hex.open_
 have z0 : Pz B b w w.heap.size 74 #[.int .i64 2, .string (bs []), .int .i64 0, .int .i64 ek, .int .i64 en, .string (bs es), .string (bs em), .slice A2 na2 ca2, .slice O2 no2 co2, .slice Bb nb cb, .slice Ls nl cl] l (w.alloc (.cells #[.int .i64 2, .string (bs []), .int .i64 0, .int .i64 ek, .int .i64 en, .string (bs es), .string (bs em), .slice A2 na2 ca2, .slice O2 no2 co2, .slice Bb nb cb, .slice Ls nl cl] 74)) := z0
 have HC := Lib.hid (show ∀ l' W, Pz B b w w.heap.size 74 #[.int .i64 2, .string (bs []), .int .i64 0, .int .i64 ek, .int .i64 en, .string (bs es), .string (bs em), .slice A2 na2 ca2, .slice O2 no2 co2, .slice Bb nb cb, .slice Ls nl cl] l' W → (W.cell? ⟨w.heap.size, 0, none⟩ = some (.int .i64 2) ∧ W.cell? ⟨w.heap.size, 1, none⟩ = some (.string (bs [])) ∧ W.cell? ⟨w.heap.size, 2, none⟩ = some (.int .i64 0) ∧ W.cell? ⟨w.heap.size, 3, none⟩ = some (.int .i64 ek) ∧ W.cell? ⟨w.heap.size, 4, none⟩ = some (.int .i64 en) ∧ W.cell? ⟨w.heap.size, 5, none⟩ = some (.string (bs es)) ∧ W.cell? ⟨w.heap.size, 6, none⟩ = some (.string (bs em)) ∧ W.cell? ⟨w.heap.size, 7, none⟩ = some (.slice A2 na2 ca2) ∧ W.cell? ⟨w.heap.size, 8, none⟩ = some (.slice O2 no2 co2) ∧ W.cell? ⟨w.heap.size, 9, none⟩ = some (.slice Bb nb cb) ∧ W.cell? ⟨w.heap.size, 10, none⟩ = some (.slice Ls nl cl)) from fun l' W z => st_cells z.bx)
 have HW := Lib.hid (show ∀ l' W, Pz B b w w.heap.size 74 #[.int .i64 2, .string (bs []), .int .i64 0, .int .i64 ek, .int .i64 en, .string (bs es), .string (bs em), .slice A2 na2 ca2, .slice O2 no2 co2, .slice Bb nb cb, .slice Ls nl cl] l' W → SxW W from fun l' W z => hw.below (HBS.out W z.bl))
 have HT := Lib.hid (show ∀ l' W, Pz B b w w.heap.size 74 #[.int .i64 2, .string (bs []), .int .i64 0, .int .i64 ek, .int .i64 en, .string (bs es), .string (bs em), .slice A2 na2 ca2, .slice O2 no2 co2, .slice Bb nb cb, .slice Ls nl cl] l' W → Calls Tryz.prog 85 #[.agg #[.int .i64 ek, .int .i64 en, .string (bs es), .string (bs em), .slice A2 na2 ca2, .slice O2 no2 co2]] W fun e' w' => e' = .returned (.string (bs t)) ∧ Below W.heap.size W w' from fun l' W z => HT0 1 W S _ (HW.out l' W z) hce1 (by omega) (hex.below (HBS.out W z.bl)))
 have HL1 := Lib.hid (show ∀ W, Pz B b w w.heap.size 74 #[.int .i64 2, .string (bs []), .int .i64 0, .int .i64 ek, .int .i64 en, .string (bs es), .string (bs em), .slice A2 na2 ca2, .slice O2 no2 co2, .slice Bb nb cb, .slice Ls nl cl] (l) W → Calls Tryz.prog 25 #[.pointer (some ⟨b, 0, none⟩), .int .i64 D, .string (bs c1)] W fun e w' => e = .returned (.tuple #[]) ∧ PB B b (l ++ lineT d c1) w' ∧ Below B W w' ∧ Fr b W w' from fun W z => by
  rw [hD]
  exact line_any B b (l) c1 d W hd1000 z.pb (by omega) z.sz)
 have HEND := Lib.hid (show l ++ lineT d c1 = l ++ T from by rw [hT]; all_goals simp only [List.append_assoc])
 clear hT hTl hc1 lc1 ht hlt HT0 hex hbB hbL hcb hcl hce hsn hn0 hn64 hnr hc hz hlen hx hB0 hwB hBw hp hd1000 hw hD hce1
 unfold stC exC
 simp only [List.cons_append, List.nil_append]
 go_enter Tryz.func52, Tryz.ntmps52
 obtain ⟨c0, c1, c2, c3, c4, c5, c6, c7, c8, c9, c10⟩ := HC.out _ _ z0
 go_wp2_with fail
 refine (HT.out _ _ z0).mono ?_
 rintro e wt ⟨rfl, hb⟩
 have z1 := z0.next hb
 clear hb c0 c1 c2 c3 c4 c5 c6 c7 c8 c9 c10 z0
 obtain ⟨c0, c1, c2, c3, c4, c5, c6, c7, c8, c9, c10⟩ := HC.out _ _ z1
 go_wp2_with fail
 refine (HL1.out _ z1).mono ?_
 rintro e w2 ⟨rfl, hp', hb', hf'⟩
 have z2 := z1.put hp' hb' hf'
 clear hp' hb' hf' c0 c1 c2 c3 c4 c5 c6 c7 c8 c9 c10 z1
 try go_wp2
 go_end0
 rw [HEND.out] at z2
 exact ⟨rfl, z2.pb, z2.bl, z2.fr⟩
set_option maxRecDepth 100000 in
set_option maxHeartbeats 12800000 in
theorem stmt_return (e : Ex) : StmtAt (.mk 5 [] 0 e [] []) := by
 intro d D w0 S cs B b l w hD hw hc hz hlen hx hB0 hwB hBw hp
 obtain ⟨hd12, -, -, -, hsn, hn0, hn64, hce, hcb, hcl⟩ := chkS_fields hc
 have hnr := hx.num
 obtain ⟨ex, Bb, nb, cb, Ls, nl, cl, rfl, hex, hbB, hbL⟩ := hx.open_
 have hd1000 : d ≤ 1000 := by omega
 simp only [St.size, St.sizes] at hz
 have z0 := Pz.start (T := 74) (X := (stC 5 [] 0 ex Bb nb cb Ls nl cl).toArray) hp hBw (by decide)
 have HBS := Lib.hid (show ∀ W, Below B w W → Below w0.heap.size w0 W from fun W h => hB0.trans (h.mono hwB))
 have hce1 := hce rfl
 have hlt := txE_len e 1 hce1 hex.wd
 have HT0 := textAt_any e
 unfold TextAt at HT0
 obtain ⟨t, ht⟩ : ∃ t, t = txE e := ⟨_, rfl⟩
 rw [← ht] at HT0 hlt
 obtain ⟨T, hT⟩ : ∃ T, T = txS d (.mk 5 [] 0 e [] []) := ⟨_, rfl⟩
 rw [← hT] at hlen ⊢
 rw [txS, if_neg (by decide), if_neg (by decide), if_neg (by decide), if_pos rfl, ← ht] at hT
 obtain ⟨c1, hc1⟩ : ∃ c, c = ([114, 101, 116, 117, 114, 110, 32] : Str) ++ t := ⟨_, rfl⟩
 have lc1 : c1.length = 7 + t.length := by rw [hc1]; exact List.length_append
 have jc1 : ∀ w, (Op.stringOp .add (⟨#[114, 101, 116, 117, 114, 110, 32]⟩ : ByteArray) (bs t)).run Tryz.prog w = .ok (.string (bs c1)) w := fun w => by rw [hc1]; exact add_big ([114, 101, 116, 117, 114, 110, 32] : Str) t (by first | omega | (simp; omega)) w
 obtain ⟨c2, hc2⟩ : ∃ c, c = c1 ++ ([59] : Str) := ⟨_, rfl⟩
 have lc2 : c2.length = c1.length + 1 := by rw [hc2]; exact List.length_append
 have jc2 : ∀ w, (Op.stringOp .add (bs c1) (⟨#[59]⟩ : ByteArray)).run Tryz.prog w = .ok (.string (bs c2)) w := fun w => by rw [hc2]; exact add_big c1 ([59] : Str) (by first | omega | (simp; omega)) w
 rw [← hc1, ← hc2] at hT
 have hTl := congrArg List.length hT
 rw [lineT_len] at hTl
 obtain ⟨ek, en, es, em, ea, eo⟩ := e
 obtain ⟨A2, na2, ca2, O2, no2, co2, rfl, -, -⟩ := hex.open_
 have z0 : Pz B b w w.heap.size 74 #[.int .i64 5, .string (bs []), .int .i64 0, .int .i64 ek, .int .i64 en, .string (bs es), .string (bs em), .slice A2 na2 ca2, .slice O2 no2 co2, .slice Bb nb cb, .slice Ls nl cl] l (w.alloc (.cells #[.int .i64 5, .string (bs []), .int .i64 0, .int .i64 ek, .int .i64 en, .string (bs es), .string (bs em), .slice A2 na2 ca2, .slice O2 no2 co2, .slice Bb nb cb, .slice Ls nl cl] 74)) := z0
 have HC := Lib.hid (show ∀ l' W, Pz B b w w.heap.size 74 #[.int .i64 5, .string (bs []), .int .i64 0, .int .i64 ek, .int .i64 en, .string (bs es), .string (bs em), .slice A2 na2 ca2, .slice O2 no2 co2, .slice Bb nb cb, .slice Ls nl cl] l' W → (W.cell? ⟨w.heap.size, 0, none⟩ = some (.int .i64 5) ∧ W.cell? ⟨w.heap.size, 1, none⟩ = some (.string (bs [])) ∧ W.cell? ⟨w.heap.size, 2, none⟩ = some (.int .i64 0) ∧ W.cell? ⟨w.heap.size, 3, none⟩ = some (.int .i64 ek) ∧ W.cell? ⟨w.heap.size, 4, none⟩ = some (.int .i64 en) ∧ W.cell? ⟨w.heap.size, 5, none⟩ = some (.string (bs es)) ∧ W.cell? ⟨w.heap.size, 6, none⟩ = some (.string (bs em)) ∧ W.cell? ⟨w.heap.size, 7, none⟩ = some (.slice A2 na2 ca2) ∧ W.cell? ⟨w.heap.size, 8, none⟩ = some (.slice O2 no2 co2) ∧ W.cell? ⟨w.heap.size, 9, none⟩ = some (.slice Bb nb cb) ∧ W.cell? ⟨w.heap.size, 10, none⟩ = some (.slice Ls nl cl)) from fun l' W z => st_cells z.bx)
 have HW := Lib.hid (show ∀ l' W, Pz B b w w.heap.size 74 #[.int .i64 5, .string (bs []), .int .i64 0, .int .i64 ek, .int .i64 en, .string (bs es), .string (bs em), .slice A2 na2 ca2, .slice O2 no2 co2, .slice Bb nb cb, .slice Ls nl cl] l' W → SxW W from fun l' W z => hw.below (HBS.out W z.bl))
 have HT := Lib.hid (show ∀ l' W, Pz B b w w.heap.size 74 #[.int .i64 5, .string (bs []), .int .i64 0, .int .i64 ek, .int .i64 en, .string (bs es), .string (bs em), .slice A2 na2 ca2, .slice O2 no2 co2, .slice Bb nb cb, .slice Ls nl cl] l' W → Calls Tryz.prog 85 #[.agg #[.int .i64 ek, .int .i64 en, .string (bs es), .string (bs em), .slice A2 na2 ca2, .slice O2 no2 co2]] W fun e' w' => e' = .returned (.string (bs t)) ∧ Below W.heap.size W w' from fun l' W z => HT0 1 W S _ (HW.out l' W z) hce1 (by omega) (hex.below (HBS.out W z.bl)))
 have HL1 := Lib.hid (show ∀ W, Pz B b w w.heap.size 74 #[.int .i64 5, .string (bs []), .int .i64 0, .int .i64 ek, .int .i64 en, .string (bs es), .string (bs em), .slice A2 na2 ca2, .slice O2 no2 co2, .slice Bb nb cb, .slice Ls nl cl] (l) W → Calls Tryz.prog 25 #[.pointer (some ⟨b, 0, none⟩), .int .i64 D, .string (bs c2)] W fun e w' => e = .returned (.tuple #[]) ∧ PB B b (l ++ lineT d c2) w' ∧ Below B W w' ∧ Fr b W w' from fun W z => by
  rw [hD]
  exact line_any B b (l) c2 d W hd1000 z.pb (by omega) z.sz)
 have HEND := Lib.hid (show l ++ lineT d c2 = l ++ T from by rw [hT]; all_goals simp only [List.append_assoc])
 clear hT hTl hc1 lc1 hc2 lc2 ht hlt HT0 hex hbB hbL hcb hcl hce hsn hn0 hn64 hnr hc hz hlen hx hB0 hwB hBw hp hd1000 hw hD hce1
 unfold stC exC
 simp only [List.cons_append, List.nil_append]
 go_enter Tryz.func52, Tryz.ntmps52
 obtain ⟨c0, c1, c2, c3, c4, c5, c6, c7, c8, c9, c10⟩ := HC.out _ _ z0
 go_wp2_with fail
 refine (HT.out _ _ z0).mono ?_
 rintro e wt ⟨rfl, hb⟩
 have z1 := z0.next hb
 clear hb c0 c1 c2 c3 c4 c5 c6 c7 c8 c9 c10 z0
 obtain ⟨c0, c1, c2, c3, c4, c5, c6, c7, c8, c9, c10⟩ := HC.out _ _ z1
 go_wp2_with fail
 refine (HL1.out _ z1).mono ?_
 rintro e w2 ⟨rfl, hp', hb', hf'⟩
 have z2 := z1.put hp' hb' hf'
 clear hp' hb' hf' c0 c1 c2 c3 c4 c5 c6 c7 c8 c9 c10 z1
 try go_wp2
 go_end0
 rw [HEND.out] at z2
 exact ⟨rfl, z2.pb, z2.bl, z2.fr⟩
set_option maxRecDepth 100000 in
set_option maxHeartbeats 12800000 in
theorem stmt_abort (n : Int) : StmtAt (.mk 6 [] n (.mk 0 0 [] [] [] []) [] []) := by
 intro d D w0 S cs B b l w hD hw hc hz hlen hx hB0 hwB hBw hp
 obtain ⟨hd12, -, -, -, hsn, hn0, hn64, hce, hcb, hcl⟩ := chkS_fields hc
 have hnr := hx.num
 obtain ⟨ex, Bb, nb, cb, Ls, nl, cl, rfl, hex, hbB, hbL⟩ := hx.open_
 have hd1000 : d ≤ 1000 := by omega
 simp only [St.size, St.sizes] at hz
 have z0 := Pz.start (T := 74) (X := (stC 6 [] n ex Bb nb cb Ls nl cl).toArray) hp hBw (by decide)
 have HBS := Lib.hid (show ∀ W, Below B w W → Below w0.heap.size w0 W from fun W h => hB0.trans (h.mono hwB))
 have hlt := Lib.itoa_length_le n hnr.1 hnr.2
 have HT0 := fmtI_any n hnr
 obtain ⟨t, ht⟩ : ∃ t, t = Lib.itoa n := ⟨_, rfl⟩
 rw [← ht] at HT0 hlt
 obtain ⟨T, hT⟩ : ∃ T, T = txS d (.mk 6 [] n (.mk 0 0 [] [] [] []) [] []) := ⟨_, rfl⟩
 rw [← hT] at hlen ⊢
 rw [txS, if_neg (by decide), if_neg (by decide), if_neg (by decide), if_neg (by decide), if_pos rfl, ← ht] at hT
 obtain ⟨c1, hc1⟩ : ∃ c, c = ([97, 98, 111, 114, 116, 32] : Str) ++ t := ⟨_, rfl⟩
 have lc1 : c1.length = 6 + t.length := by rw [hc1]; exact List.length_append
 have jc1 : ∀ w, (Op.stringOp .add (⟨#[97, 98, 111, 114, 116, 32]⟩ : ByteArray) (bs t)).run Tryz.prog w = .ok (.string (bs c1)) w := fun w => by rw [hc1]; exact add_big ([97, 98, 111, 114, 116, 32] : Str) t (by first | omega | (simp; omega)) w
 obtain ⟨c2, hc2⟩ : ∃ c, c = c1 ++ ([59] : Str) := ⟨_, rfl⟩
 have lc2 : c2.length = c1.length + 1 := by rw [hc2]; exact List.length_append
 have jc2 : ∀ w, (Op.stringOp .add (bs c1) (⟨#[59]⟩ : ByteArray)).run Tryz.prog w = .ok (.string (bs c2)) w := fun w => by rw [hc2]; exact add_big c1 ([59] : Str) (by first | omega | (simp; omega)) w
 rw [← hc1, ← hc2] at hT
 have hTl := congrArg List.length hT
 rw [lineT_len] at hTl
 obtain ⟨A2, na2, ca2, O2, no2, co2, rfl, -, -⟩ := hex.open_
 have z0 : Pz B b w w.heap.size 74 #[.int .i64 6, .string (bs []), .int .i64 n, .int .i64 0, .int .i64 0, .string (bs []), .string (bs []), .slice A2 na2 ca2, .slice O2 no2 co2, .slice Bb nb cb, .slice Ls nl cl] l (w.alloc (.cells #[.int .i64 6, .string (bs []), .int .i64 n, .int .i64 0, .int .i64 0, .string (bs []), .string (bs []), .slice A2 na2 ca2, .slice O2 no2 co2, .slice Bb nb cb, .slice Ls nl cl] 74)) := z0
 have HC := Lib.hid (show ∀ l' W, Pz B b w w.heap.size 74 #[.int .i64 6, .string (bs []), .int .i64 n, .int .i64 0, .int .i64 0, .string (bs []), .string (bs []), .slice A2 na2 ca2, .slice O2 no2 co2, .slice Bb nb cb, .slice Ls nl cl] l' W → (W.cell? ⟨w.heap.size, 0, none⟩ = some (.int .i64 6) ∧ W.cell? ⟨w.heap.size, 1, none⟩ = some (.string (bs [])) ∧ W.cell? ⟨w.heap.size, 2, none⟩ = some (.int .i64 n) ∧ W.cell? ⟨w.heap.size, 3, none⟩ = some (.int .i64 0) ∧ W.cell? ⟨w.heap.size, 4, none⟩ = some (.int .i64 0) ∧ W.cell? ⟨w.heap.size, 5, none⟩ = some (.string (bs [])) ∧ W.cell? ⟨w.heap.size, 6, none⟩ = some (.string (bs [])) ∧ W.cell? ⟨w.heap.size, 7, none⟩ = some (.slice A2 na2 ca2) ∧ W.cell? ⟨w.heap.size, 8, none⟩ = some (.slice O2 no2 co2) ∧ W.cell? ⟨w.heap.size, 9, none⟩ = some (.slice Bb nb cb) ∧ W.cell? ⟨w.heap.size, 10, none⟩ = some (.slice Ls nl cl)) from fun l' W z => st_cells z.bx)
 have HW := Lib.hid (show ∀ l' W, Pz B b w w.heap.size 74 #[.int .i64 6, .string (bs []), .int .i64 n, .int .i64 0, .int .i64 0, .string (bs []), .string (bs []), .slice A2 na2 ca2, .slice O2 no2 co2, .slice Bb nb cb, .slice Ls nl cl] l' W → SxW W from fun l' W z => hw.below (HBS.out W z.bl))
 have HT := Lib.hid (show ∀ l' W, Pz B b w w.heap.size 74 #[.int .i64 6, .string (bs []), .int .i64 n, .int .i64 0, .int .i64 0, .string (bs []), .string (bs []), .slice A2 na2 ca2, .slice O2 no2 co2, .slice Bb nb cb, .slice Ls nl cl] l' W → Calls Tryz.prog 86 #[.int .i64 n, .int .i64 10] W fun e' w' => e' = .returned (.string (bs t)) ∧ Below W.heap.size W w' from fun l' W z => HT0 W (HW.out l' W z))
 have HL1 := Lib.hid (show ∀ W, Pz B b w w.heap.size 74 #[.int .i64 6, .string (bs []), .int .i64 n, .int .i64 0, .int .i64 0, .string (bs []), .string (bs []), .slice A2 na2 ca2, .slice O2 no2 co2, .slice Bb nb cb, .slice Ls nl cl] (l) W → Calls Tryz.prog 25 #[.pointer (some ⟨b, 0, none⟩), .int .i64 D, .string (bs c2)] W fun e w' => e = .returned (.tuple #[]) ∧ PB B b (l ++ lineT d c2) w' ∧ Below B W w' ∧ Fr b W w' from fun W z => by
  rw [hD]
  exact line_any B b (l) c2 d W hd1000 z.pb (by omega) z.sz)
 have HEND := Lib.hid (show l ++ lineT d c2 = l ++ T from by rw [hT]; all_goals simp only [List.append_assoc])
 clear hT hTl hc1 lc1 hc2 lc2 ht hlt HT0 hex hbB hbL hcb hcl hce hsn hn0 hn64 hnr hc hz hlen hx hB0 hwB hBw hp hd1000 hw hD
 unfold stC exC
 simp only [List.cons_append, List.nil_append]
 go_enter Tryz.func52, Tryz.ntmps52
 obtain ⟨c0, c1, c2, c3, c4, c5, c6, c7, c8, c9, c10⟩ := HC.out _ _ z0
 go_wp2_with fail
 refine (HT.out _ _ z0).mono ?_
 rintro e wt ⟨rfl, hb⟩
 have z1 := z0.next hb
 clear hb c0 c1 c2 c3 c4 c5 c6 c7 c8 c9 c10 z0
 obtain ⟨c0, c1, c2, c3, c4, c5, c6, c7, c8, c9, c10⟩ := HC.out _ _ z1
 go_wp2_with fail
 refine (HL1.out _ z1).mono ?_
 rintro e w2 ⟨rfl, hp', hb', hf'⟩
 have z2 := z1.put hp' hb' hf'
 clear hp' hb' hf' c0 c1 c2 c3 c4 c5 c6 c7 c8 c9 c10 z1
 try go_wp2
 go_end0
 rw [HEND.out] at z2
 exact ⟨rfl, z2.pb, z2.bl, z2.fr⟩
set_option maxRecDepth 100000 in
set_option maxHeartbeats 12800000 in
theorem stmt_repeat (n : Int) (b1 : List St) (ihb : AllAt b1) : StmtAt (.mk 4 [] n (.mk 0 0 [] [] [] []) b1 []) := by
 intro d D w0 S cs B b l w hD hw hc hz hlen hx hB0 hwB hBw hp
 obtain ⟨hd12, -, -, -, hsn, hn0, hn64, hce, hcb, hcl⟩ := chkS_fields hc
 have hnr := hx.num
 obtain ⟨ex, Bb, nb, cb, Ls, nl, cl, rfl, hex, hbB, hbL⟩ := hx.open_
 have hd1000 : d ≤ 1000 := by omega
 simp only [St.size, St.sizes] at hz
 have z0 := Pz.start (T := 74) (X := (stC 4 [] n ex Bb nb cb Ls nl cl).toArray) hp hBw (by decide)
 have HBS := Lib.hid (show ∀ W, Below B w W → Below w0.heap.size w0 W from fun W h => hB0.trans (h.mono hwB))
 have hlt := Lib.itoa_length_le n hnr.1 hnr.2
 have HT0 := fmtI_any n hnr
 obtain ⟨t, ht⟩ : ∃ t, t = Lib.itoa n := ⟨_, rfl⟩
 rw [← ht] at HT0 hlt
 obtain ⟨T, hT⟩ : ∃ T, T = txS d (.mk 4 [] n (.mk 0 0 [] [] [] []) b1 []) := ⟨_, rfl⟩
 rw [← hT] at hlen ⊢
 rw [txS, if_neg (by decide), if_neg (by decide), if_neg (by decide), if_neg (by decide), if_neg (by decide), if_pos rfl, ← ht] at hT
 obtain ⟨c1, hc1⟩ : ∃ c, c = ([114, 101, 112, 101, 97, 116, 32] : Str) ++ t := ⟨_, rfl⟩
 have lc1 : c1.length = 7 + t.length := by rw [hc1]; exact List.length_append
 have jc1 : ∀ w, (Op.stringOp .add (⟨#[114, 101, 112, 101, 97, 116, 32]⟩ : ByteArray) (bs t)).run Tryz.prog w = .ok (.string (bs c1)) w := fun w => by rw [hc1]; exact add_big ([114, 101, 112, 101, 97, 116, 32] : Str) t (by first | omega | (simp; omega)) w
 obtain ⟨c2, hc2⟩ : ∃ c, c = c1 ++ ([32, 123] : Str) := ⟨_, rfl⟩
 have lc2 : c2.length = c1.length + 2 := by rw [hc2]; exact List.length_append
 have jc2 : ∀ w, (Op.stringOp .add (bs c1) (⟨#[32, 123]⟩ : ByteArray)).run Tryz.prog w = .ok (.string (bs c2)) w := fun w => by rw [hc2]; exact add_big c1 ([32, 123] : Str) (by first | omega | (simp; omega)) w
 rw [← hc1, ← hc2] at hT
 obtain ⟨tb, htb⟩ : ∃ tb, tb = txSs (d + 1) b1 := ⟨_, rfl⟩
 rw [← htb] at hT
 have hTl := congrArg List.length hT
 simp only [List.length_append, lineT_len] at hTl
 obtain ⟨A2, na2, ca2, O2, no2, co2, rfl, -, -⟩ := hex.open_
 have z0 : Pz B b w w.heap.size 74 #[.int .i64 4, .string (bs []), .int .i64 n, .int .i64 0, .int .i64 0, .string (bs []), .string (bs []), .slice A2 na2 ca2, .slice O2 no2 co2, .slice Bb nb cb, .slice Ls nl cl] l (w.alloc (.cells #[.int .i64 4, .string (bs []), .int .i64 n, .int .i64 0, .int .i64 0, .string (bs []), .string (bs []), .slice A2 na2 ca2, .slice O2 no2 co2, .slice Bb nb cb, .slice Ls nl cl] 74)) := z0
 have HC := Lib.hid (show ∀ l' W, Pz B b w w.heap.size 74 #[.int .i64 4, .string (bs []), .int .i64 n, .int .i64 0, .int .i64 0, .string (bs []), .string (bs []), .slice A2 na2 ca2, .slice O2 no2 co2, .slice Bb nb cb, .slice Ls nl cl] l' W → (W.cell? ⟨w.heap.size, 0, none⟩ = some (.int .i64 4) ∧ W.cell? ⟨w.heap.size, 1, none⟩ = some (.string (bs [])) ∧ W.cell? ⟨w.heap.size, 2, none⟩ = some (.int .i64 n) ∧ W.cell? ⟨w.heap.size, 3, none⟩ = some (.int .i64 0) ∧ W.cell? ⟨w.heap.size, 4, none⟩ = some (.int .i64 0) ∧ W.cell? ⟨w.heap.size, 5, none⟩ = some (.string (bs [])) ∧ W.cell? ⟨w.heap.size, 6, none⟩ = some (.string (bs [])) ∧ W.cell? ⟨w.heap.size, 7, none⟩ = some (.slice A2 na2 ca2) ∧ W.cell? ⟨w.heap.size, 8, none⟩ = some (.slice O2 no2 co2) ∧ W.cell? ⟨w.heap.size, 9, none⟩ = some (.slice Bb nb cb) ∧ W.cell? ⟨w.heap.size, 10, none⟩ = some (.slice Ls nl cl)) from fun l' W z => st_cells z.bx)
 have HW := Lib.hid (show ∀ l' W, Pz B b w w.heap.size 74 #[.int .i64 4, .string (bs []), .int .i64 n, .int .i64 0, .int .i64 0, .string (bs []), .string (bs []), .slice A2 na2 ca2, .slice O2 no2 co2, .slice Bb nb cb, .slice Ls nl cl] l' W → SxW W from fun l' W z => hw.below (HBS.out W z.bl))
 have HT := Lib.hid (show ∀ l' W, Pz B b w w.heap.size 74 #[.int .i64 4, .string (bs []), .int .i64 n, .int .i64 0, .int .i64 0, .string (bs []), .string (bs []), .slice A2 na2 ca2, .slice O2 no2 co2, .slice Bb nb cb, .slice Ls nl cl] l' W → Calls Tryz.prog 86 #[.int .i64 n, .int .i64 10] W fun e' w' => e' = .returned (.string (bs t)) ∧ Below W.heap.size W w' from fun l' W z => HT0 W (HW.out l' W z))
 have HL1 := Lib.hid (show ∀ W, Pz B b w w.heap.size 74 #[.int .i64 4, .string (bs []), .int .i64 n, .int .i64 0, .int .i64 0, .string (bs []), .string (bs []), .slice A2 na2 ca2, .slice O2 no2 co2, .slice Bb nb cb, .slice Ls nl cl] (l) W → Calls Tryz.prog 25 #[.pointer (some ⟨b, 0, none⟩), .int .i64 D, .string (bs c2)] W fun e w' => e = .returned (.tuple #[]) ∧ PB B b (l ++ lineT d c2) w' ∧ Below B W w' ∧ Fr b W w' from fun W z => by
  rw [hD]
  exact line_any B b (l) c2 d W hd1000 z.pb (by omega) z.sz)
 have HA1 := Lib.hid (show ∀ W, Pz B b w w.heap.size 74 #[.int .i64 4, .string (bs []), .int .i64 n, .int .i64 0, .int .i64 0, .string (bs []), .string (bs []), .slice A2 na2 ca2, .slice O2 no2 co2, .slice Bb nb cb, .slice Ls nl cl] (l ++ lineT d c2) W → Calls Tryz.prog 27 #[.pointer (some ⟨b, 0, none⟩), .int .i64 (D + 1), .slice Bb nb cb] W fun e w' => e = .returned (.tuple #[]) ∧ PB B b (l ++ lineT d c2 ++ tb) w' ∧ Below B W w' ∧ Fr b W w' from fun W z => by
  rw [htb]
  exact ihb (d + 1) (D + 1) w0 S Bb nb cb B b (l ++ lineT d c2) W (by rw [hD]; rfl) hw hcb (by omega) (by rw [← htb]; simp only [List.length_append, lineT_len]; omega) hbB (HBS.out W z.bl) hwB z.sz z.pb)
 have HL2 := Lib.hid (show ∀ W, Pz B b w w.heap.size 74 #[.int .i64 4, .string (bs []), .int .i64 n, .int .i64 0, .int .i64 0, .string (bs []), .string (bs []), .slice A2 na2 ca2, .slice O2 no2 co2, .slice Bb nb cb, .slice Ls nl cl] (l ++ lineT d c2 ++ tb) W → Calls Tryz.prog 25 #[.pointer (some ⟨b, 0, none⟩), .int .i64 D, .string ⟨#[125]⟩] W fun e w' => e = .returned (.tuple #[]) ∧ PB B b (l ++ lineT d c2 ++ tb ++ lineT d ([125] : Str)) w' ∧ Below B W w' ∧ Fr b W w' from fun W z => by
  rw [hD]
  exact line_any B b (l ++ lineT d c2 ++ tb) ([125] : Str) d W hd1000 z.pb (by simp only [List.length_append, lineT_len]; simp only [List.length_cons, List.length_nil] at hTl ⊢; omega) z.sz)
 have HEND := Lib.hid (show l ++ lineT d c2 ++ tb ++ lineT d ([125] : Str) = l ++ T from by rw [hT]; all_goals simp only [List.append_assoc])
 have hdb : D ≤ 12 := hd12
 have hdb0 : 0 ≤ D := by omega
 clear hT hTl hc1 lc1 hc2 lc2 ht hlt HT0 hex hbB hbL hcb hcl hce hsn hn0 hn64 hnr hc hz hlen hx hB0 hwB hBw hp hd1000 hw hD
 unfold stC exC
 simp only [List.cons_append, List.nil_append]
 go_enter Tryz.func52, Tryz.ntmps52
 obtain ⟨c0, c1, c2, c3, c4, c5, c6, c7, c8, c9, c10⟩ := HC.out _ _ z0
 go_wp2_with fail
 refine (HT.out _ _ z0).mono ?_
 rintro e wt ⟨rfl, hb⟩
 have z1 := z0.next hb
 clear hb c0 c1 c2 c3 c4 c5 c6 c7 c8 c9 c10 z0
 obtain ⟨c0, c1, c2, c3, c4, c5, c6, c7, c8, c9, c10⟩ := HC.out _ _ z1
 go_wp2_with fail
 refine (HL1.out _ z1).mono ?_
 rintro e w2 ⟨rfl, hp', hb', hf'⟩
 have z2 := z1.put hp' hb' hf'
 clear hp' hb' hf' c0 c1 c2 c3 c4 c5 c6 c7 c8 c9 c10 z1
 obtain ⟨c0, c1, c2, c3, c4, c5, c6, c7, c8, c9, c10⟩ := HC.out _ _ z2
 go_wp2_with fail
 refine (HA1.out _ z2).mono ?_
 rintro e w3 ⟨rfl, hp', hb', hf'⟩
 have z3 := z2.put hp' hb' hf'
 clear hp' hb' hf' c0 c1 c2 c3 c4 c5 c6 c7 c8 c9 c10 z2
 obtain ⟨c0, c1, c2, c3, c4, c5, c6, c7, c8, c9, c10⟩ := HC.out _ _ z3
 go_wp2_with fail
 refine (HL2.out _ z3).mono ?_
 rintro e w6 ⟨rfl, hp', hb', hf'⟩
 have z6 := z3.put hp' hb' hf'
 clear hp' hb' hf' c0 c1 c2 c3 c4 c5 c6 c7 c8 c9 c10 z3
 try go_wp2
 go_end0
 rw [HEND.out] at z6
 exact ⟨rfl, z6.pb, z6.bl, z6.fr⟩
set_option maxRecDepth 100000 in
set_option maxHeartbeats 12800000 in
theorem stmt_if (e : Ex) (b1 : List St) (ihb : AllAt b1) : StmtAt (.mk 3 [] 0 e b1 []) := by
 intro d D w0 S cs B b l w hD hw hc hz hlen hx hB0 hwB hBw hp
 obtain ⟨hd12, -, -, -, hsn, hn0, hn64, hce, hcb, hcl⟩ := chkS_fields hc
 have hnr := hx.num
 obtain ⟨ex, Bb, nb, cb, Ls, nl, cl, rfl, hex, hbB, hbL⟩ := hx.open_
 have hd1000 : d ≤ 1000 := by omega
 simp only [St.size, St.sizes] at hz
 have z0 := Pz.start (T := 74) (X := (stC 3 [] 0 ex Bb nb cb Ls nl cl).toArray) hp hBw (by decide)
 have HBS := Lib.hid (show ∀ W, Below B w W → Below w0.heap.size w0 W from fun W h => hB0.trans (h.mono hwB))
 have hce1 := hce rfl
 have hlt := txE_len e 1 hce1 hex.wd
 have HT0 := textAt_any e
 unfold TextAt at HT0
 obtain ⟨t, ht⟩ : ∃ t, t = txE e := ⟨_, rfl⟩
 rw [← ht] at HT0 hlt
 obtain ⟨T, hT⟩ : ∃ T, T = txS d (.mk 3 [] 0 e b1 []) := ⟨_, rfl⟩
 rw [← hT] at hlen ⊢
 rw [txS, if_neg (by decide), if_neg (by decide), if_neg (by decide), if_neg (by decide), if_neg (by decide), if_neg (by decide), ← ht] at hT
 obtain ⟨c1, hc1⟩ : ∃ c, c = ([105, 102, 32] : Str) ++ t := ⟨_, rfl⟩
 have lc1 : c1.length = 3 + t.length := by rw [hc1]; exact List.length_append
 have jc1 : ∀ w, (Op.stringOp .add (⟨#[105, 102, 32]⟩ : ByteArray) (bs t)).run Tryz.prog w = .ok (.string (bs c1)) w := fun w => by rw [hc1]; exact add_big ([105, 102, 32] : Str) t (by first | omega | (simp; omega)) w
 obtain ⟨c2, hc2⟩ : ∃ c, c = c1 ++ ([32, 123] : Str) := ⟨_, rfl⟩
 have lc2 : c2.length = c1.length + 2 := by rw [hc2]; exact List.length_append
 have jc2 : ∀ w, (Op.stringOp .add (bs c1) (⟨#[32, 123]⟩ : ByteArray)).run Tryz.prog w = .ok (.string (bs c2)) w := fun w => by rw [hc2]; exact add_big c1 ([32, 123] : Str) (by first | omega | (simp; omega)) w
 rw [← hc1, ← hc2] at hT
 obtain ⟨tb, htb⟩ : ∃ tb, tb = txSs (d + 1) b1 := ⟨_, rfl⟩
 rw [← htb] at hT
 rw [if_pos (show ([] : List St).length = 0 from rfl), List.append_nil] at hT
 have hTl := congrArg List.length hT
 simp only [List.length_append, lineT_len] at hTl
 obtain ⟨ek, en, es, em, ea, eo⟩ := e
 obtain ⟨A2, na2, ca2, O2, no2, co2, rfl, -, -⟩ := hex.open_
 have z0 : Pz B b w w.heap.size 74 #[.int .i64 3, .string (bs []), .int .i64 0, .int .i64 ek, .int .i64 en, .string (bs es), .string (bs em), .slice A2 na2 ca2, .slice O2 no2 co2, .slice Bb nb cb, .slice Ls nl cl] l (w.alloc (.cells #[.int .i64 3, .string (bs []), .int .i64 0, .int .i64 ek, .int .i64 en, .string (bs es), .string (bs em), .slice A2 na2 ca2, .slice O2 no2 co2, .slice Bb nb cb, .slice Ls nl cl] 74)) := z0
 have HC := Lib.hid (show ∀ l' W, Pz B b w w.heap.size 74 #[.int .i64 3, .string (bs []), .int .i64 0, .int .i64 ek, .int .i64 en, .string (bs es), .string (bs em), .slice A2 na2 ca2, .slice O2 no2 co2, .slice Bb nb cb, .slice Ls nl cl] l' W → (W.cell? ⟨w.heap.size, 0, none⟩ = some (.int .i64 3) ∧ W.cell? ⟨w.heap.size, 1, none⟩ = some (.string (bs [])) ∧ W.cell? ⟨w.heap.size, 2, none⟩ = some (.int .i64 0) ∧ W.cell? ⟨w.heap.size, 3, none⟩ = some (.int .i64 ek) ∧ W.cell? ⟨w.heap.size, 4, none⟩ = some (.int .i64 en) ∧ W.cell? ⟨w.heap.size, 5, none⟩ = some (.string (bs es)) ∧ W.cell? ⟨w.heap.size, 6, none⟩ = some (.string (bs em)) ∧ W.cell? ⟨w.heap.size, 7, none⟩ = some (.slice A2 na2 ca2) ∧ W.cell? ⟨w.heap.size, 8, none⟩ = some (.slice O2 no2 co2) ∧ W.cell? ⟨w.heap.size, 9, none⟩ = some (.slice Bb nb cb) ∧ W.cell? ⟨w.heap.size, 10, none⟩ = some (.slice Ls nl cl)) from fun l' W z => st_cells z.bx)
 have HW := Lib.hid (show ∀ l' W, Pz B b w w.heap.size 74 #[.int .i64 3, .string (bs []), .int .i64 0, .int .i64 ek, .int .i64 en, .string (bs es), .string (bs em), .slice A2 na2 ca2, .slice O2 no2 co2, .slice Bb nb cb, .slice Ls nl cl] l' W → SxW W from fun l' W z => hw.below (HBS.out W z.bl))
 have HT := Lib.hid (show ∀ l' W, Pz B b w w.heap.size 74 #[.int .i64 3, .string (bs []), .int .i64 0, .int .i64 ek, .int .i64 en, .string (bs es), .string (bs em), .slice A2 na2 ca2, .slice O2 no2 co2, .slice Bb nb cb, .slice Ls nl cl] l' W → Calls Tryz.prog 85 #[.agg #[.int .i64 ek, .int .i64 en, .string (bs es), .string (bs em), .slice A2 na2 ca2, .slice O2 no2 co2]] W fun e' w' => e' = .returned (.string (bs t)) ∧ Below W.heap.size W w' from fun l' W z => HT0 1 W S _ (HW.out l' W z) hce1 (by omega) (hex.below (HBS.out W z.bl)))
 have HL1 := Lib.hid (show ∀ W, Pz B b w w.heap.size 74 #[.int .i64 3, .string (bs []), .int .i64 0, .int .i64 ek, .int .i64 en, .string (bs es), .string (bs em), .slice A2 na2 ca2, .slice O2 no2 co2, .slice Bb nb cb, .slice Ls nl cl] (l) W → Calls Tryz.prog 25 #[.pointer (some ⟨b, 0, none⟩), .int .i64 D, .string (bs c2)] W fun e w' => e = .returned (.tuple #[]) ∧ PB B b (l ++ lineT d c2) w' ∧ Below B W w' ∧ Fr b W w' from fun W z => by
  rw [hD]
  exact line_any B b (l) c2 d W hd1000 z.pb (by omega) z.sz)
 have HA1 := Lib.hid (show ∀ W, Pz B b w w.heap.size 74 #[.int .i64 3, .string (bs []), .int .i64 0, .int .i64 ek, .int .i64 en, .string (bs es), .string (bs em), .slice A2 na2 ca2, .slice O2 no2 co2, .slice Bb nb cb, .slice Ls nl cl] (l ++ lineT d c2) W → Calls Tryz.prog 27 #[.pointer (some ⟨b, 0, none⟩), .int .i64 (D + 1), .slice Bb nb cb] W fun e w' => e = .returned (.tuple #[]) ∧ PB B b (l ++ lineT d c2 ++ tb) w' ∧ Below B W w' ∧ Fr b W w' from fun W z => by
  rw [htb]
  exact ihb (d + 1) (D + 1) w0 S Bb nb cb B b (l ++ lineT d c2) W (by rw [hD]; rfl) hw hcb (by omega) (by rw [← htb]; simp only [List.length_append, lineT_len]; omega) hbB (HBS.out W z.bl) hwB z.sz z.pb)
 have HL2 := Lib.hid (show ∀ W, Pz B b w w.heap.size 74 #[.int .i64 3, .string (bs []), .int .i64 0, .int .i64 ek, .int .i64 en, .string (bs es), .string (bs em), .slice A2 na2 ca2, .slice O2 no2 co2, .slice Bb nb cb, .slice Ls nl cl] (l ++ lineT d c2 ++ tb) W → Calls Tryz.prog 25 #[.pointer (some ⟨b, 0, none⟩), .int .i64 D, .string ⟨#[125]⟩] W fun e w' => e = .returned (.tuple #[]) ∧ PB B b (l ++ lineT d c2 ++ tb ++ lineT d ([125] : Str)) w' ∧ Below B W w' ∧ Fr b W w' from fun W z => by
  rw [hD]
  exact line_any B b (l ++ lineT d c2 ++ tb) ([125] : Str) d W hd1000 z.pb (by simp only [List.length_append, lineT_len]; simp only [List.length_cons, List.length_nil] at hTl ⊢; omega) z.sz)
 have HEND := Lib.hid (show l ++ lineT d c2 ++ tb ++ lineT d ([125] : Str) = l ++ T from by rw [hT]; all_goals simp only [List.append_assoc])
 obtain rfl : nl = 0 := hbL.1.1
 have hdb : D ≤ 12 := hd12
 have hdb0 : 0 ≤ D := by omega
 clear hT hTl hc1 lc1 hc2 lc2 ht hlt HT0 hex hbB hbL hcb hcl hce hsn hn0 hn64 hnr hc hz hlen hx hB0 hwB hBw hp hd1000 hw hD hce1
 unfold stC exC
 simp only [List.cons_append, List.nil_append]
 go_enter Tryz.func52, Tryz.ntmps52
 obtain ⟨c0, c1, c2, c3, c4, c5, c6, c7, c8, c9, c10⟩ := HC.out _ _ z0
 go_wp2_with fail
 refine (HT.out _ _ z0).mono ?_
 rintro e wt ⟨rfl, hb⟩
 have z1 := z0.next hb
 clear hb c0 c1 c2 c3 c4 c5 c6 c7 c8 c9 c10 z0
 obtain ⟨c0, c1, c2, c3, c4, c5, c6, c7, c8, c9, c10⟩ := HC.out _ _ z1
 go_wp2_with fail
 refine (HL1.out _ z1).mono ?_
 rintro e w2 ⟨rfl, hp', hb', hf'⟩
 have z2 := z1.put hp' hb' hf'
 clear hp' hb' hf' c0 c1 c2 c3 c4 c5 c6 c7 c8 c9 c10 z1
 obtain ⟨c0, c1, c2, c3, c4, c5, c6, c7, c8, c9, c10⟩ := HC.out _ _ z2
 go_wp2_with fail
 refine (HA1.out _ z2).mono ?_
 rintro e w3 ⟨rfl, hp', hb', hf'⟩
 have z3 := z2.put hp' hb' hf'
 clear hp' hb' hf' c0 c1 c2 c3 c4 c5 c6 c7 c8 c9 c10 z2
 obtain ⟨c0, c1, c2, c3, c4, c5, c6, c7, c8, c9, c10⟩ := HC.out _ _ z3
 go_wp2_with fail
 refine (HL2.out _ z3).mono ?_
 rintro e w6 ⟨rfl, hp', hb', hf'⟩
 have z6 := z3.put hp' hb' hf'
 clear hp' hb' hf' c0 c1 c2 c3 c4 c5 c6 c7 c8 c9 c10 z3
 try go_wp2
 go_end0
 rw [HEND.out] at z6
 exact ⟨rfl, z6.pb, z6.bl, z6.fr⟩
set_option maxRecDepth 100000 in
set_option maxHeartbeats 12800000 in
theorem stmt_ifelse (e : Ex) (b1 l1 : List St) (ihb : AllAt b1) (ihl : AllAt l1) (hl1 : l1 ≠ []) : StmtAt (.mk 3 [] 0 e b1 l1) := by
 intro d D w0 S cs B b l w hD hw hc hz hlen hx hB0 hwB hBw hp
 obtain ⟨hd12, -, -, -, hsn, hn0, hn64, hce, hcb, hcl⟩ := chkS_fields hc
 have hnr := hx.num
 obtain ⟨ex, Bb, nb, cb, Ls, nl, cl, rfl, hex, hbB, hbL⟩ := hx.open_
 have hd1000 : d ≤ 1000 := by omega
 simp only [St.size, St.sizes] at hz
 have z0 := Pz.start (T := 74) (X := (stC 3 [] 0 ex Bb nb cb Ls nl cl).toArray) hp hBw (by decide)
 have HBS := Lib.hid (show ∀ W, Below B w W → Below w0.heap.size w0 W from fun W h => hB0.trans (h.mono hwB))
 have hce1 := hce rfl
 have hlt := txE_len e 1 hce1 hex.wd
 have HT0 := textAt_any e
 unfold TextAt at HT0
 obtain ⟨t, ht⟩ : ∃ t, t = txE e := ⟨_, rfl⟩
 rw [← ht] at HT0 hlt
 obtain ⟨T, hT⟩ : ∃ T, T = txS d (.mk 3 [] 0 e b1 l1) := ⟨_, rfl⟩
 rw [← hT] at hlen ⊢
 rw [txS, if_neg (by decide), if_neg (by decide), if_neg (by decide), if_neg (by decide), if_neg (by decide), if_neg (by decide), ← ht] at hT
 obtain ⟨c1, hc1⟩ : ∃ c, c = ([105, 102, 32] : Str) ++ t := ⟨_, rfl⟩
 have lc1 : c1.length = 3 + t.length := by rw [hc1]; exact List.length_append
 have jc1 : ∀ w, (Op.stringOp .add (⟨#[105, 102, 32]⟩ : ByteArray) (bs t)).run Tryz.prog w = .ok (.string (bs c1)) w := fun w => by rw [hc1]; exact add_big ([105, 102, 32] : Str) t (by first | omega | (simp; omega)) w
 obtain ⟨c2, hc2⟩ : ∃ c, c = c1 ++ ([32, 123] : Str) := ⟨_, rfl⟩
 have lc2 : c2.length = c1.length + 2 := by rw [hc2]; exact List.length_append
 have jc2 : ∀ w, (Op.stringOp .add (bs c1) (⟨#[32, 123]⟩ : ByteArray)).run Tryz.prog w = .ok (.string (bs c2)) w := fun w => by rw [hc2]; exact add_big c1 ([32, 123] : Str) (by first | omega | (simp; omega)) w
 rw [← hc1, ← hc2] at hT
 obtain ⟨tb, htb⟩ : ∃ tb, tb = txSs (d + 1) b1 := ⟨_, rfl⟩
 rw [← htb] at hT
 rw [if_neg (fun h => hl1 (List.eq_nil_of_length_eq_zero h))] at hT
 obtain ⟨tl, htl⟩ : ∃ tl, tl = txSs (d + 1) l1 := ⟨_, rfl⟩
 rw [← htl] at hT
 have hTl := congrArg List.length hT
 simp only [List.length_append, lineT_len] at hTl
 obtain ⟨ek, en, es, em, ea, eo⟩ := e
 obtain ⟨A2, na2, ca2, O2, no2, co2, rfl, -, -⟩ := hex.open_
 have z0 : Pz B b w w.heap.size 74 #[.int .i64 3, .string (bs []), .int .i64 0, .int .i64 ek, .int .i64 en, .string (bs es), .string (bs em), .slice A2 na2 ca2, .slice O2 no2 co2, .slice Bb nb cb, .slice Ls nl cl] l (w.alloc (.cells #[.int .i64 3, .string (bs []), .int .i64 0, .int .i64 ek, .int .i64 en, .string (bs es), .string (bs em), .slice A2 na2 ca2, .slice O2 no2 co2, .slice Bb nb cb, .slice Ls nl cl] 74)) := z0
 have HC := Lib.hid (show ∀ l' W, Pz B b w w.heap.size 74 #[.int .i64 3, .string (bs []), .int .i64 0, .int .i64 ek, .int .i64 en, .string (bs es), .string (bs em), .slice A2 na2 ca2, .slice O2 no2 co2, .slice Bb nb cb, .slice Ls nl cl] l' W → (W.cell? ⟨w.heap.size, 0, none⟩ = some (.int .i64 3) ∧ W.cell? ⟨w.heap.size, 1, none⟩ = some (.string (bs [])) ∧ W.cell? ⟨w.heap.size, 2, none⟩ = some (.int .i64 0) ∧ W.cell? ⟨w.heap.size, 3, none⟩ = some (.int .i64 ek) ∧ W.cell? ⟨w.heap.size, 4, none⟩ = some (.int .i64 en) ∧ W.cell? ⟨w.heap.size, 5, none⟩ = some (.string (bs es)) ∧ W.cell? ⟨w.heap.size, 6, none⟩ = some (.string (bs em)) ∧ W.cell? ⟨w.heap.size, 7, none⟩ = some (.slice A2 na2 ca2) ∧ W.cell? ⟨w.heap.size, 8, none⟩ = some (.slice O2 no2 co2) ∧ W.cell? ⟨w.heap.size, 9, none⟩ = some (.slice Bb nb cb) ∧ W.cell? ⟨w.heap.size, 10, none⟩ = some (.slice Ls nl cl)) from fun l' W z => st_cells z.bx)
 have HW := Lib.hid (show ∀ l' W, Pz B b w w.heap.size 74 #[.int .i64 3, .string (bs []), .int .i64 0, .int .i64 ek, .int .i64 en, .string (bs es), .string (bs em), .slice A2 na2 ca2, .slice O2 no2 co2, .slice Bb nb cb, .slice Ls nl cl] l' W → SxW W from fun l' W z => hw.below (HBS.out W z.bl))
 have HT := Lib.hid (show ∀ l' W, Pz B b w w.heap.size 74 #[.int .i64 3, .string (bs []), .int .i64 0, .int .i64 ek, .int .i64 en, .string (bs es), .string (bs em), .slice A2 na2 ca2, .slice O2 no2 co2, .slice Bb nb cb, .slice Ls nl cl] l' W → Calls Tryz.prog 85 #[.agg #[.int .i64 ek, .int .i64 en, .string (bs es), .string (bs em), .slice A2 na2 ca2, .slice O2 no2 co2]] W fun e' w' => e' = .returned (.string (bs t)) ∧ Below W.heap.size W w' from fun l' W z => HT0 1 W S _ (HW.out l' W z) hce1 (by omega) (hex.below (HBS.out W z.bl)))
 have HL1 := Lib.hid (show ∀ W, Pz B b w w.heap.size 74 #[.int .i64 3, .string (bs []), .int .i64 0, .int .i64 ek, .int .i64 en, .string (bs es), .string (bs em), .slice A2 na2 ca2, .slice O2 no2 co2, .slice Bb nb cb, .slice Ls nl cl] (l) W → Calls Tryz.prog 25 #[.pointer (some ⟨b, 0, none⟩), .int .i64 D, .string (bs c2)] W fun e w' => e = .returned (.tuple #[]) ∧ PB B b (l ++ lineT d c2) w' ∧ Below B W w' ∧ Fr b W w' from fun W z => by
  rw [hD]
  exact line_any B b (l) c2 d W hd1000 z.pb (by omega) z.sz)
 have HA1 := Lib.hid (show ∀ W, Pz B b w w.heap.size 74 #[.int .i64 3, .string (bs []), .int .i64 0, .int .i64 ek, .int .i64 en, .string (bs es), .string (bs em), .slice A2 na2 ca2, .slice O2 no2 co2, .slice Bb nb cb, .slice Ls nl cl] (l ++ lineT d c2) W → Calls Tryz.prog 27 #[.pointer (some ⟨b, 0, none⟩), .int .i64 (D + 1), .slice Bb nb cb] W fun e w' => e = .returned (.tuple #[]) ∧ PB B b (l ++ lineT d c2 ++ tb) w' ∧ Below B W w' ∧ Fr b W w' from fun W z => by
  rw [htb]
  exact ihb (d + 1) (D + 1) w0 S Bb nb cb B b (l ++ lineT d c2) W (by rw [hD]; rfl) hw hcb (by omega) (by rw [← htb]; simp only [List.length_append, lineT_len]; omega) hbB (HBS.out W z.bl) hwB z.sz z.pb)
 have HL3 := Lib.hid (show ∀ W, Pz B b w w.heap.size 74 #[.int .i64 3, .string (bs []), .int .i64 0, .int .i64 ek, .int .i64 en, .string (bs es), .string (bs em), .slice A2 na2 ca2, .slice O2 no2 co2, .slice Bb nb cb, .slice Ls nl cl] (l ++ lineT d c2 ++ tb) W → Calls Tryz.prog 25 #[.pointer (some ⟨b, 0, none⟩), .int .i64 D, .string ⟨#[125, 32, 101, 108, 115, 101, 32, 123]⟩] W fun e w' => e = .returned (.tuple #[]) ∧ PB B b (l ++ lineT d c2 ++ tb ++ lineT d ([125, 32, 101, 108, 115, 101, 32, 123] : Str)) w' ∧ Below B W w' ∧ Fr b W w' from fun W z => by
  rw [hD]
  exact line_any B b (l ++ lineT d c2 ++ tb) ([125, 32, 101, 108, 115, 101, 32, 123] : Str) d W hd1000 z.pb (by simp only [List.length_append, lineT_len]; simp only [List.length_cons, List.length_nil] at hTl ⊢; omega) z.sz)
 have HA2 := Lib.hid (show ∀ W, Pz B b w w.heap.size 74 #[.int .i64 3, .string (bs []), .int .i64 0, .int .i64 ek, .int .i64 en, .string (bs es), .string (bs em), .slice A2 na2 ca2, .slice O2 no2 co2, .slice Bb nb cb, .slice Ls nl cl] (l ++ lineT d c2 ++ tb ++ lineT d ([125, 32, 101, 108, 115, 101, 32, 123] : Str)) W → Calls Tryz.prog 27 #[.pointer (some ⟨b, 0, none⟩), .int .i64 (D + 1), .slice Ls nl cl] W fun e w' => e = .returned (.tuple #[]) ∧ PB B b (l ++ lineT d c2 ++ tb ++ lineT d ([125, 32, 101, 108, 115, 101, 32, 123] : Str) ++ tl) w' ∧ Below B W w' ∧ Fr b W w' from fun W z => by
  rw [htl]
  exact ihl (d + 1) (D + 1) w0 S Ls nl cl B b (l ++ lineT d c2 ++ tb ++ lineT d ([125, 32, 101, 108, 115, 101, 32, 123] : Str)) W (by rw [hD]; rfl) hw hcl (by omega) (by rw [← htl]; simp only [List.length_append, lineT_len]; simp only [List.length_cons, List.length_nil] at hTl ⊢; omega) hbL (HBS.out W z.bl) hwB z.sz z.pb)
 have HL2 := Lib.hid (show ∀ W, Pz B b w w.heap.size 74 #[.int .i64 3, .string (bs []), .int .i64 0, .int .i64 ek, .int .i64 en, .string (bs es), .string (bs em), .slice A2 na2 ca2, .slice O2 no2 co2, .slice Bb nb cb, .slice Ls nl cl] (l ++ lineT d c2 ++ tb ++ lineT d ([125, 32, 101, 108, 115, 101, 32, 123] : Str) ++ tl) W → Calls Tryz.prog 25 #[.pointer (some ⟨b, 0, none⟩), .int .i64 D, .string ⟨#[125]⟩] W fun e w' => e = .returned (.tuple #[]) ∧ PB B b (l ++ lineT d c2 ++ tb ++ lineT d ([125, 32, 101, 108, 115, 101, 32, 123] : Str) ++ tl ++ lineT d ([125] : Str)) w' ∧ Below B W w' ∧ Fr b W w' from fun W z => by
  rw [hD]
  exact line_any B b (l ++ lineT d c2 ++ tb ++ lineT d ([125, 32, 101, 108, 115, 101, 32, 123] : Str) ++ tl) ([125] : Str) d W hd1000 z.pb (by simp only [List.length_append, lineT_len]; simp only [List.length_cons, List.length_nil] at hTl ⊢; omega) z.sz)
 have HEND := Lib.hid (show l ++ lineT d c2 ++ tb ++ lineT d ([125, 32, 101, 108, 115, 101, 32, 123] : Str) ++ tl ++ lineT d ([125] : Str) = l ++ T from by rw [hT]; all_goals simp only [List.append_assoc])
 have hnl : 0 < (nl : Int) := by have h1 := hbL.1.1; have h2 : 0 < l1.length := List.length_pos_iff.2 hl1; omega
 have hdb : D ≤ 12 := hd12
 have hdb0 : 0 ≤ D := by omega
 clear hT hTl hc1 lc1 hc2 lc2 ht hlt HT0 hex hbB hbL hcb hcl hce hsn hn0 hn64 hnr hc hz hlen hx hB0 hwB hBw hp hd1000 hw hD hce1
 unfold stC exC
 simp only [List.cons_append, List.nil_append]
 go_enter Tryz.func52, Tryz.ntmps52
 obtain ⟨c0, c1, c2, c3, c4, c5, c6, c7, c8, c9, c10⟩ := HC.out _ _ z0
 go_wp2_with fail
 refine (HT.out _ _ z0).mono ?_
 rintro e wt ⟨rfl, hb⟩
 have z1 := z0.next hb
 clear hb c0 c1 c2 c3 c4 c5 c6 c7 c8 c9 c10 z0
 obtain ⟨c0, c1, c2, c3, c4, c5, c6, c7, c8, c9, c10⟩ := HC.out _ _ z1
 go_wp2_with fail
 refine (HL1.out _ z1).mono ?_
 rintro e w2 ⟨rfl, hp', hb', hf'⟩
 have z2 := z1.put hp' hb' hf'
 clear hp' hb' hf' c0 c1 c2 c3 c4 c5 c6 c7 c8 c9 c10 z1
 obtain ⟨c0, c1, c2, c3, c4, c5, c6, c7, c8, c9, c10⟩ := HC.out _ _ z2
 go_wp2_with fail
 refine (HA1.out _ z2).mono ?_
 rintro e w3 ⟨rfl, hp', hb', hf'⟩
 have z3 := z2.put hp' hb' hf'
 clear hp' hb' hf' c0 c1 c2 c3 c4 c5 c6 c7 c8 c9 c10 z2
 obtain ⟨c0, c1, c2, c3, c4, c5, c6, c7, c8, c9, c10⟩ := HC.out _ _ z3
 go_wp2_with fail
 refine (HL3.out _ z3).mono ?_
 rintro e w4 ⟨rfl, hp', hb', hf'⟩
 have z4 := z3.put hp' hb' hf'
 clear hp' hb' hf' c0 c1 c2 c3 c4 c5 c6 c7 c8 c9 c10 z3
 obtain ⟨c0, c1, c2, c3, c4, c5, c6, c7, c8, c9, c10⟩ := HC.out _ _ z4
 go_wp2_with fail
 refine (HA2.out _ z4).mono ?_
 rintro e w5 ⟨rfl, hp', hb', hf'⟩
 have z5 := z4.put hp' hb' hf'
 clear hp' hb' hf' c0 c1 c2 c3 c4 c5 c6 c7 c8 c9 c10 z4
 obtain ⟨c0, c1, c2, c3, c4, c5, c6, c7, c8, c9, c10⟩ := HC.out _ _ z5
 go_wp2_with fail
 refine (HL2.out _ z5).mono ?_
 rintro e w6 ⟨rfl, hp', hb', hf'⟩
 have z6 := z5.put hp' hb' hf'
 clear hp' hb' hf' c0 c1 c2 c3 c4 c5 c6 c7 c8 c9 c10 z5
 try go_wp2
 go_end0
 rw [HEND.out] at z6
 exact ⟨rfl, z6.pb, z6.bl, z6.fr⟩
end Go.Proofs.YtkakbidllpjopaaGreatDoor
namespace Go.Proofs.YtkakbidllpjopaaGreatDoor
open Go.RowKit

theorem stmtAt_any (e : St) : StmtAt e := by
 obtain ⟨N, hN⟩ : ∃ N, N = e.size := ⟨_, rfl⟩
 induction N using Nat.strongRecOn generalizing e with
 | _ N ih =>
  intro d D w0 S cs B b l w hD hw hc hz hlen hx hB0 hwB hBw hp
  have key : ∀ x : St, x.size < e.size → StmtAt x := fun x hlt => ih x.size (by omega) x rfl
  clear ih hN
  rcases (shapeS_of hc).1 with ⟨s, x, hs, he⟩ | ⟨s, x, hs, he⟩ | ⟨x, hk, he⟩ | ⟨x, bb, ll, he, hb, hl⟩ | ⟨n, bb, h0, h1, hb⟩ | ⟨x, he⟩ | ⟨n, h0⟩
  ·exact stmt_let s x d D w0 S cs B b l w hD hw hc hz hlen hx hB0 hwB hBw hp
  ·exact stmt_set s x d D w0 S cs B b l w hD hw hc hz hlen hx hB0 hwB hBw hp
  ·exact stmt_do x d D w0 S cs B b l w hD hw hc hz hlen hx hB0 hwB hBw hp
  ·have ihb : AllAt bb := allAt_of fun y hy => key y (by rw [St.size]; have := St.sizes_mem hy; omega)
   by_cases hl0 : ll = []
   ·subst hl0
    exact stmt_if x bb ihb d D w0 S cs B b l w hD hw hc hz hlen hx hB0 hwB hBw hp
   ·exact stmt_ifelse x bb ll ihb (allAt_of fun y hy => key y (by rw [St.size]; have := St.sizes_mem hy; omega)) hl0 d D w0 S cs B b l w hD hw hc hz hlen hx hB0 hwB hBw hp
  ·exact stmt_repeat n bb (allAt_of fun y hy => key y (by rw [St.size]; have := St.sizes_mem hy; omega)) d D w0 S cs B b l w hD hw hc hz hlen hx hB0 hwB hBw hp
  ·exact stmt_return x d D w0 S cs B b l w hD hw hc hz hlen hx hB0 hwB hBw hp
  ·exact stmt_abort n d D w0 S cs B b l w hD hw hc hz hlen hx hB0 hwB hBw hp
theorem allAt_any (l : List St) : AllAt l := allAt_of fun e _ => stmtAt_any e
mutual
/-- Its numbers are int64. -/
def St.Wd : St → Prop
 | .mk _ _ n e b l => InR n ∧ e.Wd ∧ St.Wds b ∧ St.Wds l
def St.Wds : List St → Prop
 | [] => True
 | e :: t => e.Wd ∧ St.Wds t
end
theorem St.Wds_mem : ∀ {l : List St}, St.Wds l → ∀ e ∈ l, e.Wd
 | a :: t, h, e, he => by
  rw [St.Wds] at h
  rcases List.mem_cons.1 he with rfl | he
  ·exact h.1
  ·exact St.Wds_mem h.2 e he
mutual
theorem SV.wd {w : World} {S : Nat → Prop} : ∀ {e : St} {cs : List Value}, SV w S e cs → e.Wd
 | .mk k s n e b l, cs, h => by
  rw [SV] at h
  obtain ⟨ex, B, nb, cb, L, nl, cl, h1, h0, h2, h3, h4, h5, h6⟩ := h
  rw [St.Wd]
  refine ⟨h0, h2.wd, ?_, ?_⟩
  ·cases b with
   | nil => rw [St.Wds]; trivial
   | cons e t =>
    obtain ⟨b, q, _, _, _, hx⟩ := h5 (by rw [h3.1]; simp)
    exact SLf.wd hx
  ·cases l with
   | nil => rw [St.Wds]; trivial
   | cons e t =>
    obtain ⟨b, q, _, _, _, hx⟩ := h6 (by rw [h4.1]; simp)
    exact SLf.wd hx
theorem SLf.wd {w : World} {S : Nat → Prop} {b q : Nat} : ∀ {i : Nat} {l : List St}, SLf w S b q i l → St.Wds l
 | _, [], _ => by rw [St.Wds]; trivial
 | i, e :: t, h => by
  rw [SLf] at h
  obtain ⟨⟨cs, h1, _⟩, h3⟩ := h
  rw [St.Wds]
  exact ⟨SV.wd h1, SLf.wd h3⟩
end
theorem SL.wds {w : World} {S : Nat → Prop} {A : Option Addr} {n c : Nat} {l : List St} (h : SL w S A n c l) : St.Wds l := by
 cases l with
 | nil => rw [St.Wds]; trivial
 | cons e t =>
  obtain ⟨b, q, _, _, _, hx⟩ := h.2 (by rw [h.1.1]; simp)
  exact SLf.wd hx
theorem txSs_len {d : Nat} : ∀ {l : List St}, (∀ x ∈ l, (txS d x).length ≤ 300 * x.size) → (txSs d l).length ≤ 300 * St.sizes l
 | [], _ => by simp [txSs, St.sizes]
 | e :: t, h => by
  have h1 := h e (by simp)
  have h2 := txSs_len (l := t) fun x hx => h x (by simp [hx])
  rw [txSs, St.sizes, List.length_append, Nat.mul_add]
  omega
theorem txS_len (e : St) : ∀ d : Nat, chkS (d : Int) e = 0 → e.Wd → (txS d e).length ≤ 300 * e.size := by
 obtain ⟨N, hN⟩ : ∃ N, N = e.size := ⟨_, rfl⟩
 induction N using Nat.strongRecOn generalizing e with
 | _ N ih =>
  intro d h hw
  obtain ⟨hsh, hd⟩ := shapeS_of h
  have key : ∀ l : List St, (∀ x ∈ l, x.size < e.size) → chkSs ((d : Int) + 1) l = 0 → St.Wds l → (txSs (d + 1) l).length ≤ 300 * St.sizes l := fun l h1 h2 h3 =>
   txSs_len fun x hx => ih x.size (by have := h1 x hx; omega) x rfl (d + 1) (chkSs_all h2 x hx) (St.Wds_mem h3 x hx)
  clear ih hN h
  rcases hsh with ⟨s, x, hs, he⟩ | ⟨s, x, hs, he⟩ | ⟨x, hk, he⟩ | ⟨x, bb, ll, he, hb, hl⟩ | ⟨n, bb, h0, h1, hb⟩ | ⟨x, he⟩ | ⟨n, h0⟩
  all_goals rw [St.Wd] at hw
  ·have h1 := name_len hs
   have h2 := txE_len x 1 he hw.2.1
   rw [txS, if_pos rfl, lineT_len, St.size]
   simp only [List.length_append, List.length_cons, List.length_nil]
   omega
  ·have h1 := name_len hs
   have h2 := txE_len x 1 he hw.2.1
   rw [txS, if_neg (by decide), if_pos rfl, lineT_len, St.size]
   simp only [List.length_append, List.length_cons, List.length_nil]
   omega
  ·have h2 := txE_len x 1 he hw.2.1
   rw [txS, if_neg (by decide), if_neg (by decide), if_pos rfl, lineT_len, St.size]
   simp only [List.length_append, List.length_cons, List.length_nil]
   omega
  ·have h2 := txE_len x 1 he hw.2.1
   have h3 := key bb (fun y hy => by rw [St.size]; have := St.sizes_mem hy; omega) hb hw.2.2.1
   have h4 := key ll (fun y hy => by rw [St.size]; have := St.sizes_mem hy; omega) hl hw.2.2.2
   have h5 : (if ll.length = 0 then [] else lineT d [125, 32, 101, 108, 115, 101, 32, 123] ++ txSs (d + 1) ll).length ≤ 40 + 300 * St.sizes ll := by
    split
    ·simp
    ·rw [List.length_append, lineT_len]
     simp only [List.length_cons, List.length_nil]
     omega
   rw [txS, if_neg (by decide), if_neg (by decide), if_neg (by decide), if_neg (by decide), if_neg (by decide), if_neg (by decide), St.size]
   rw [List.length_append, List.length_append, List.length_append, lineT_len, lineT_len]
   simp only [List.length_append, List.length_cons, List.length_nil] at h5 ⊢
   omega
  ·have h2 := Lib.itoa_length_le n hw.1.1 hw.1.2
   have h3 := key bb (fun y hy => by rw [St.size]; have := St.sizes_mem hy; omega) hb hw.2.2.1
   rw [txS, if_neg (by decide), if_neg (by decide), if_neg (by decide), if_neg (by decide), if_neg (by decide), if_pos rfl, St.size]
   simp only [List.length_append, lineT_len, List.length_cons, List.length_nil]
   omega
  ·have h2 := txE_len x 1 he hw.2.1
   rw [txS, if_neg (by decide), if_neg (by decide), if_neg (by decide), if_pos rfl, lineT_len, St.size]
   simp only [List.length_append, List.length_cons, List.length_nil]
   omega
  ·have h2 := Lib.itoa_length_le n hw.1.1 hw.1.2
   rw [txS, if_neg (by decide), if_neg (by decide), if_neg (by decide), if_neg (by decide), if_pos rfl, lineT_len, St.size]
   simp only [List.length_append, List.length_cons, List.length_nil]
   omega
/-- strings.Join of a slice of strings. -/
theorem join_ss {w : World} {S : Nat → Prop} {A : Option Addr} {n c : Nat} {l : List Str} (h : SS w S A n c l) (sep : Str) (hN : l.length ≤ 100000) (hlen : (Lib.join l sep).length ≤ 100000000) :
  Calls Tryz.prog 26 #[.slice A n c, .string (bs sep)] w fun e w' => e = .returned (.string (bs (Lib.join l sep))) ∧ Below w.heap.size w w' := by
 cases l with
 | nil =>
  obtain rfl : n = 0 := h.1
  refine (Tryz.strings_Join_none A c (bs sep) w).mono ?_
  rintro e w' ⟨rfl, rfl⟩
  exact ⟨rfl, Below.refl _ _⟩
 | cons x t =>
  obtain ⟨b, q, rfl, hb, _, hcell⟩ := h.2.2 (by rw [h.1]; simp)
  have e : ((x :: t).map bs).map (fun s => s.data.toList) = x :: t := by
   rw [List.map_map]
   exact (List.map_congr_left fun y _ => rfl).trans (List.map_id _)
  have hJ := Tryz.strings_Join b q c ((x :: t).map bs) (bs sep) w (fun j y hy => by
   rw [List.getElem?_map] at hy
   obtain ⟨z, hz, rfl⟩ := Option.map_eq_some_iff.1 hy
   obtain ⟨cs, ⟨s, hs, rfl⟩, hr⟩ := hcell j (by rw [h.1]; exact (List.getElem?_eq_some_iff.1 hz).1)
   obtain rfl : z = s := by rw [hz] at hs; injection hs
   have := hr 0 _ rfl
   simpa using this) hb (by rw [List.length_map]; omega) (by rw [List.length_map, ← h.1]; exact h.2.1.1) (by rw [e, bs_list]; omega)
  rw [e, bs_list, List.length_map, ← h.1] at hJ
  exact hJ
end Go.Proofs.YtkakbidllpjopaaGreatDoor
namespace Go.Proofs.YtkakbidllpjopaaGreatDoor
open Go.RowKit

/-- A store's line. -/
def storeT (d : Decl') : Str := lineT 0 (([115, 116, 111, 114, 101, 32] : Str) ++ d.name ++ [32] ++ d.kind ++ [59])
/-- An operation's lines. -/
def operT (o : Oper') : Str := lineT 0 (([111, 112, 32] : Str) ++ o.name ++ [40] ++ Lib.join o.params [44, 32] ++ [41, 32, 123]) ++ txSs 1 o.body ++ lineT 0 [125]
/-- A program's text. -/
def txP (p : Prog') : Str := (p.stores.map storeT).flatten ++ (p.opers.map operT).flatten
/-- What Print answers: the text. -/
def printS (p : Prog') : Str := if chkP p ≠ 0 then [] else if 65536 < (txP p).length then [] else txP p
/-- .. and the error. -/
def printE (p : Prog') : Int := if chkP p ≠ 0 then chkP p else if 65536 < (txP p).length then 7 else 0
theorem runC_all {α : Type} {c : List Str → α → Int} {nm : α → Str} : ∀ {l : List α} {met : List Str}, runC c nm met l = 0 → ∀ x ∈ l, ∃ m, c m x = 0
 | [], _, _, x, h => by cases h
 | e :: t, met, h, x, hx => by
  rw [runC] at h
  split at h
  ·exact absurd h (by assumption)
  ·rename_i h3
   rcases List.mem_cons.1 hx with rfl | hx
   ·exact ⟨met, Classical.not_not.1 h3⟩
   ·exact runC_all h x hx
theorem freshL_all : ∀ {l met : List Str}, freshL met l = 0 → ∀ s ∈ l, nameOk s = true
 | [], _, _, x, h => by cases h
 | e :: t, met, h, x, hx => by
  rw [freshL] at h
  split at h
  ·cases h
  ·rename_i h3
   split at h
   ·cases h
   ·rcases List.mem_cons.1 hx with rfl | hx
    ·simpa using h3
    ·exact freshL_all h x hx
theorem freshC_ok {met : List Str} {s : Str} {r : Bool} (h : freshC met s r = 0) : nameOk s = true ∧ r = false ∧ met.contains s = false := by
 unfold freshC at h
 split at h
 ·cases h
 ·rename_i h1
  split at h
  ·cases h
  ·rename_i h2
   refine ⟨?_, ?_, by simpa using h2⟩
   ·cases hq : nameOk s with
    | true => rfl
    | false => exact absurd (.inl hq) h1
   ·cases r with
    | false => rfl
    | true => exact absurd (.inr rfl) h1
theorem decl_ok {met : List Str} {d : Decl'} (h : declC met d = 0) : nameOk d.name = true ∧ nameOk d.kind = true := by
 obtain ⟨h1, h2, _⟩ := freshC_ok h
 exact ⟨h1, by simpa using h2⟩
theorem oper_ok {met : List Str} {o : Oper'} (h : operC met o = 0) : nameOk o.name = true ∧ o.params.length ≤ 4 ∧ freshL [] o.params = 0 ∧ chkSs 1 o.body = 0 ∧ met.contains o.name = false := by
 unfold operC at h
 split at h
 ·exact absurd h (by assumption)
 rename_i h0
 split at h
 ·cases h
 rename_i h1
 split at h
 ·exact absurd h (by assumption)
 rename_i h2
 obtain ⟨h3, _, h4⟩ := freshC_ok (Classical.not_not.1 h0)
 exact ⟨h3, by omega, Classical.not_not.1 h2, h, h4⟩
/-- What a valid program's parts are. -/
theorem chkP_ok {p : Prog'} (h : chkP p = 0) : p.stores.length ≤ 12 ∧ p.opers.length ≤ 32 ∧ (∀ d ∈ p.stores, nameOk d.name = true ∧ nameOk d.kind = true) ∧ (∀ o ∈ p.opers, nameOk o.name = true ∧ o.params.length ≤ 4 ∧ freshL [] o.params = 0 ∧ chkSs 1 o.body = 0) ∧ runC declC Decl'.name [] p.stores = 0 ∧ runC operC Oper'.name [] p.opers = 0 := by
 unfold chkP at h
 split at h
 ·cases h
 rename_i h0
 split at h
 ·exact absurd h (by assumption)
 rename_i h1
 have h2 := Classical.not_not.1 h1
 rw [storesL_run] at h2
 rw [opersL_run] at h
 refine ⟨by omega, by omega, fun d hd => ?_, fun o ho => ?_, h2, h⟩
 ·obtain ⟨m, hm⟩ := runC_all h2 d hd
  exact decl_ok hm
 ·obtain ⟨m, hm⟩ := runC_all h o ho
  obtain ⟨a1, a2, a3, a4, _⟩ := oper_ok hm
  exact ⟨a1, a2, a3, a4⟩
theorem sum_names : ∀ {l : List Str}, (∀ s ∈ l, nameOk s = true) → (l.map List.length).sum ≤ 24 * l.length
 | [], _ => by simp
 | e :: t, h => by
  have h1 := name_len (h e (by simp))
  have h2 := sum_names (l := t) fun s hs => h s (by simp [hs])
  simp only [List.map_cons, List.sum_cons, List.length_cons]
  omega
theorem params_len {l : List Str} (h : ∀ s ∈ l, nameOk s = true) (h4 : l.length ≤ 4) : (Lib.join l [44, 32]).length ≤ 104 := by
 have h1 := join_len [44, 32] l
 have h2 := sum_names h
 simp only [List.length_cons, List.length_nil] at h1
 omega
theorem flat_take {α : Type} {f : α → Str} {l : List α} {q : Nat} {x : α} (h : l[q]? = some x) : ((l.take (q + 1)).map f).flatten = ((l.take q).map f).flatten ++ f x := by
 rw [List.take_add_one, h]
 simp
theorem flat_len {α : Type} {f : α → Str} {c : Nat} : ∀ {l : List α}, (∀ x ∈ l, (f x).length ≤ c) → (l.map f).flatten.length ≤ l.length * c
 | [], _ => by simp
 | e :: t, h => by
  have h1 := h e (by simp)
  have h2 := flat_len (l := t) fun s hs => h s (by simp [hs])
  simp only [List.map_cons, List.flatten_cons, List.length_append, List.length_cons, Nat.succ_mul]
  omega
/-- Few parts an operation. -/
def Prog'.Few2 (p : Prog') : Prop := p.stores.length ≤ 10000 ∧ p.opers.length ≤ 10000 ∧ ∀ o ∈ p.opers, St.sizes o.body ≤ 10000
theorem Prog'.Few2.few {p : Prog'} (h : p.Few2) : p.Few := ⟨by have := h.1; omega, by have := h.2.1; omega, fun o ho => by have := h.2.2 o ho; omega⟩
theorem storeT_len {d : Decl'} (h : nameOk d.name = true ∧ nameOk d.kind = true) : (storeT d).length ≤ 60 := by
 have h1 := name_len h.1
 have h2 := name_len h.2
 rw [storeT, lineT_len]
 simp only [List.length_append, List.length_cons, List.length_nil]
 omega
theorem operT_len {o : Oper'} (h : nameOk o.name = true ∧ o.params.length ≤ 4 ∧ freshL [] o.params = 0 ∧ chkSs 1 o.body = 0) (hw : St.Wds o.body) (hz : St.sizes o.body ≤ 10000) : (operT o).length ≤ 3000200 := by
 have h1 := name_len h.1
 have h2 := params_len (freshL_all h.2.2.1) h.2.1
 have h3 : (txSs 1 o.body).length ≤ 300 * St.sizes o.body := txSs_len fun x hx => txS_len x 1 (chkSs_all h.2.2.2 x hx) (St.Wds_mem hw x hx)
 rw [operT, List.length_append, List.length_append, lineT_len, lineT_len]
 simp only [List.length_append, List.length_cons, List.length_nil]
 omega
theorem PV.wd {w : World} {S : Nat → Prop} {p : Prog'} {v : Value} (h : PV w S p v) : ∀ o ∈ p.opers, St.Wds o.body := by
 obtain ⟨D, nd, cd, O, no, co, _, _, h2, h3⟩ := h
 intro o ho
 obtain ⟨i, hi⟩ := List.mem_iff_getElem?.1 ho
 obtain ⟨b, q, cs, _, _, _, ⟨o', ho', hov⟩, _⟩ := h3.at i (by rw [h2]; exact (List.getElem?_eq_some_iff.1 hi).1)
 rw [hi] at ho'
 injection ho' with ho'
 subst ho'
 obtain ⟨P, np, cp, B, nb, cb, _, _, hb⟩ := hov
 exact hb.wds
set_option maxRecDepth 100000 in
set_option maxHeartbeats 12800000 in
theorem print_bad (p : Prog') (v : Value) (S : Nat → Prop) (w : World) (hw : SxW w) (hp : PV w S p v) (hf : p.Few2) (hc : chkP p ≠ 0) :
  Calls Tryz.prog 11 #[v] w fun e w' => e = .returned (.tuple #[.string (bs []), .int .i64 (chkP p)]) ∧ Below w.heap.size w w' := by
 have HB := Lib.hid (show ∀ X, Below w.heap.size w (w.alloc X) from fun X => (Below.refl _ _).alloc (Nat.le_refl _) X)
 have HCK := Lib.hid (show ∀ X, Calls Tryz.prog 18 #[v] (w.alloc X) fun e w' => e = .returned (.int .i64 (chkP p)) ∧ Below (w.alloc X).heap.size (w.alloc X) w' from fun X => check_any p v S _ (hw.below (HB.out X)) (hp.below (HB.out X)) hf.few)
 obtain ⟨D, nd, cd, O, no, co, rfl, -, -⟩ := hp
 generalize chkP p = C at *
 have hc1 : (C != 0) = true := by simp [hc]
 clear hw hf
 go_enter Tryz.func11, Tryz.ntmps11
 go_wp2_with fail
 refine (HCK.out _).mono ?_
 rintro e w1 ⟨rfl, hb⟩
 go_wp2
 go_ret2
 exact ⟨rfl, below_new hb⟩
set_option maxRecDepth 100000 in
set_option maxHeartbeats 12800000 in
theorem print_ok (p : Prog') (v : Value) (S : Nat → Prop) (w : World) (hw : SxW w) (hp : PV w S p v) (hf : p.Few2) (hc : chkP p = 0) :
  Calls Tryz.prog 11 #[v] w fun e w' => e = .returned (.tuple #[.string (bs (if 65536 < (txP p).length then [] else txP p)), .int .i64 (if 65536 < (txP p).length then 7 else 0)]) ∧ Below w.heap.size w w' := by
 have HB := Lib.hid (show ∀ X, Below w.heap.size w (w.alloc X) from fun X => (Below.refl _ _).alloc (Nat.le_refl _) X)
 have HCK := Lib.hid (show ∀ X, Calls Tryz.prog 18 #[v] (w.alloc X) fun e w' => e = .returned (.int .i64 0) ∧ Below (w.alloc X).heap.size (w.alloc X) w' from fun X => by
  have := check_any p v S _ (hw.below (HB.out X)) (hp.below (HB.out X)) hf.few
  rwa [hc] at this)
 obtain ⟨h12, h32, hds, hos, -, -⟩ := chkP_ok hc
 have hwd := hp.wd
 obtain ⟨TS, hTS⟩ : ∃ T, T = (if 65536 < (txP p).length then [] else txP p) := ⟨_, rfl⟩
 obtain ⟨TE, hTE⟩ : ∃ T : Int, T = (if 65536 < (txP p).length then 7 else 0) := ⟨_, rfl⟩
 rw [← hTS, ← hTE]
 have HTS := Lib.hid hTS
 have HTE := Lib.hid hTE
 obtain ⟨ds, os⟩ := p
 dsimp only at h12 h32 hds hos hwd
 have HSL := Lib.hid (show ∀ q, ((ds.take q).map storeT).flatten.length ≤ 1000 from fun q => by
  have h1 := flat_len (f := storeT) (c := 60) (l := ds.take q) fun x hx => storeT_len (hds x (List.mem_of_mem_take hx))
  have h2 : (ds.take q).length ≤ 12 := by rw [List.length_take]; omega
  have h3 := Nat.mul_le_mul_right 60 h2
  omega)
 have HOL := Lib.hid (show ∀ q, ((os.take q).map operT).flatten.length ≤ 97000000 from fun q => by
  have h1 := flat_len (f := operT) (c := 3000200) (l := os.take q) fun x hx => operT_len (hos x (List.mem_of_mem_take hx)) (hwd x (List.mem_of_mem_take hx)) (hf.2.2 x (List.mem_of_mem_take hx))
  have h2 : (os.take q).length ≤ 32 := by rw [List.length_take]; omega
  have h3 := Nat.mul_le_mul_right 3000200 h2
  omega)
 obtain ⟨D, nd, cd, O, no, co, rfl, hd, ho⟩ := hp
 dsimp only at hd ho
 have HD := Lib.hid hd
 have HO := Lib.hid ho
 have HND := Lib.hid hd.1
 have HNO := Lib.hid ho.1
 have HWS := Lib.hid hw
 have HDS := Lib.hid hds
 have HOS := Lib.hid hos
 have HWD := Lib.hid hwd
 have HFW := Lib.hid hf
 have hnd : (nd : Int) ≤ 12 := by have := hd.1; omega
 have hno : (no : Int) ≤ 32 := by have := ho.1; omega
 clear hw hf hc h12 h32 hds hos hwd hd ho hTS hTE
 go_enter Tryz.func11, Tryz.ntmps11
 go_wp2_with fail
 refine (HCK.out _).mono ?_
 rintro e w1 ⟨rfl, hb⟩
 have hX1 : w1.heap[w.heap.size]? = some (.cells #[.slice D nd cd, .slice O no co] 36 (0, 0)) := (hb.block _ (lt_alloc w _)).trans (heap_alloc_new w _)
 have HB1 := Lib.hid (below_new hb)
 have hlt1 : w.heap.size < w1.heap.size := lt_of_block hX1
 have HX1 := Lib.hid hX1
 have HLT1 := Lib.hid hlt1
 obtain ⟨d0, d1⟩ := cells2 ((heap_alloc_old w1 (.cells #[.pointer none, .slice none 0 0] 81) hlt1).trans hX1)
 clear hb HCK HB hX1 hlt1
 go_wp2_with fail
 obtain ⟨w2, hw2⟩ : ∃ w2 : World, w2 = w1.alloc (.cells #[.pointer none, .slice none 0 0] 81) := ⟨_, rfl⟩
 have HXW := Lib.hid (show ∀ W, Below w1.heap.size w2 W → (W.heap[w.heap.size]? = some (.cells #[.slice D nd cd, .slice O no co] 36 (0, 0))) ∧ Below w.heap.size w W from fun W h => by
  subst hw2
  refine ⟨(h.block _ HLT1.out).trans ((heap_alloc_old _ _ HLT1.out).trans HX1.out), (HB1.out.alloc HB1.out.size _).trans (h.mono (Nat.le_of_lt HLT1.out))⟩)
 have HZ := Lib.hid (show PB w1.heap.size w1.heap.size (((ds.take 0).map storeT).flatten) w2 ∧ Below w1.heap.size w2 w2 ∧ w1.heap.size ≤ w2.heap.size from by
  rw [hw2]
  exact ⟨PB.fresh w1, Below.refl _ _, by simp⟩)
 rw [← hw2]
 clear hw2 d0 d1 HX1
 go_loopw [18] (fun i wr => ∃ q : Nat, q ≤ ds.length ∧ i = .int .i64 q ∧ Hid (PB w1.heap.size w1.heap.size (((ds.take q).map storeT).flatten) wr ∧ Below w1.heap.size w2 wr ∧ w1.heap.size ≤ wr.heap.size)) (fun i _ => ds.length - (intOf i).toNat)
 case atStart => exact ⟨0, Nat.zero_le _, rfl, HZ⟩
 case round =>
  clear HZ
  obtain ⟨q, hq, rfl, Z⟩ := hrel
  by_cases hl : q < ds.length
  ·have hi2 : (q : Int) < (nd : Int) := by have := HND.out; omega
   obtain ⟨b, off, cs, rfl, hb, hS, ⟨x, hx, rfl⟩, hrow⟩ := HD.out.2.at q (by have := HND.out; omega)
   have HQL := Lib.hid hl
   have hrow2 := rangeAt_keep hrow ((HXW.out _ Z.out.2.1).2.block b hb)
   have e0 := hrow2 0 _ rfl
   have e1 := hrow2 1 _ rfl
   simp only [Nat.add_zero] at e0
   have hxl := HDS.out x (List.mem_of_getElem? hx)
   have HSN := Lib.hid (show ((ds.take (q + 1)).map storeT).flatten = ((ds.take q).map storeT).flatten ++ storeT x from flat_take hx)
   obtain ⟨xn, xk⟩ := x
   have hl1 := name_len hxl.1
   have hl2 := name_len hxl.2
   dsimp only at hl1 hl2 e0 e1
   obtain ⟨c1, hc1⟩ : ∃ c, c = ([115, 116, 111, 114, 101, 32] : Str) ++ xn := ⟨_, rfl⟩
   have lc1 : c1.length = 6 + xn.length := by rw [hc1]; exact List.length_append
   have jc1 : ∀ w, (Op.stringOp .add (⟨#[115, 116, 111, 114, 101, 32]⟩ : ByteArray) (bs xn)).run Tryz.prog w = .ok (.string (bs c1)) w := fun w => by rw [hc1]; exact add_big ([115, 116, 111, 114, 101, 32] : Str) xn (by first | omega | (simp; omega)) w
   obtain ⟨c2, hc2⟩ : ∃ c, c = c1 ++ ([32] : Str) := ⟨_, rfl⟩
   have lc2 : c2.length = c1.length + 1 := by rw [hc2]; exact List.length_append
   have jc2 : ∀ w, (Op.stringOp .add (bs c1) (⟨#[32]⟩ : ByteArray)).run Tryz.prog w = .ok (.string (bs c2)) w := fun w => by rw [hc2]; exact add_big c1 ([32] : Str) (by first | omega | (simp; omega)) w
   obtain ⟨c3, hc3⟩ : ∃ c, c = c2 ++ xk := ⟨_, rfl⟩
   have lc3 : c3.length = c2.length + xk.length := by rw [hc3]; exact List.length_append
   have jc3 : ∀ w, (Op.stringOp .add (bs c2) (bs xk)).run Tryz.prog w = .ok (.string (bs c3)) w := fun w => by rw [hc3]; exact add_big c2 xk (by first | omega | (simp; omega)) w
   obtain ⟨c4, hc4⟩ : ∃ c, c = c3 ++ ([59] : Str) := ⟨_, rfl⟩
   have lc4 : c4.length = c3.length + 1 := by rw [hc4]; exact List.length_append
   have jc4 : ∀ w, (Op.stringOp .add (bs c3) (⟨#[59]⟩ : ByteArray)).run Tryz.prog w = .ok (.string (bs c4)) w := fun w => by rw [hc4]; exact add_big c3 ([59] : Str) (by first | omega | (simp; omega)) w
   have HTX := Lib.hid (show storeT ⟨xn, xk⟩ = lineT 0 c4 from by rw [storeT, hc4, hc3, hc2, hc1])
   have ha : Below wr.heap.size wr ((wr.alloc (.cells #[.string (bs xn), .string (bs xk)] 83))) := (Below.refl _ _).alloc (Nat.le_refl _) _
   have HA := Lib.hid ha
   have HLN := Lib.hid (line_any w1.heap.size w1.heap.size (((ds.take q).map storeT).flatten) c4 0 _ (by decide) (Z.out.1.keep ha) (by have := HSL.out q; omega) (Nat.le_trans Z.out.2.2 ha.size))
   clear hx hb hS hrow hrow2 hl hq ha hxl hl1 hl2 hc1 lc1 hc2 lc2 hc3 lc3 hc4 lc4
   go_wp2_with fail
   refine HLN.out.mono ?_
   rintro e w4 ⟨rfl, hp4, hb4, -⟩
   have Z4 : Hid (PB w1.heap.size w1.heap.size (((ds.take (q + 1)).map storeT).flatten) w4 ∧ Below w1.heap.size w2 w4 ∧ w1.heap.size ≤ w4.heap.size) := Lib.hid ⟨by rw [HSN.out, HTX.out]; exact hp4, (Z.out.2.1.trans (HA.out.mono Z.out.2.2)).trans hb4, Nat.le_trans (Nat.le_trans Z.out.2.2 HA.out.size) hb4.size⟩
   clear hp4 hb4 e0 e1 HLN
   go_wp2
   go_roundw
   case rel => exact ⟨q + 1, HQL.out, by go_num, Z4⟩
   case measure => exact meas_up _ _ HQL.out
  ·have hi2 : ¬ (q : Int) < (nd : Int) := by have := HND.out; omega
   have hqd : ds.take q = ds := List.take_of_length_le (by omega)
   have HSD := Lib.hid (HSL.out q)
   rw [hqd] at Z HSD
   obtain ⟨TD, hTD⟩ : ∃ T, T = (ds.map storeT).flatten := ⟨_, rfl⟩
   have HTD := Lib.hid hTD
   rw [← hTD] at Z HSD
   clear hl hq hqd hTD HSL
   obtain ⟨d0, d1⟩ := cells2 (HXW.out _ Z.out.2.1).1
   go_wp2_with fail
   have Z0 : Hid (PB w1.heap.size w1.heap.size (TD ++ ((os.take 0).map operT).flatten) wr ∧ Below w1.heap.size w2 wr ∧ w1.heap.size ≤ wr.heap.size) := Lib.hid ⟨by simpa using Z.out.1, Z.out.2⟩
   clear d0 d1 Z
   go_loopw [35] (fun i wr => ∃ q : Nat, q ≤ os.length ∧ i = .int .i64 q ∧ Hid (PB w1.heap.size w1.heap.size (TD ++ ((os.take q).map operT).flatten) wr ∧ Below w1.heap.size w2 wr ∧ w1.heap.size ≤ wr.heap.size)) (fun i _ => os.length - (intOf i).toNat)
   case atStart => exact ⟨0, Nat.zero_le _, rfl, Z0⟩
   case round =>
    clear Z0
    obtain ⟨q, hq, rfl, Z⟩ := hrel
    by_cases hl : q < os.length
    ·have hi2 : (q : Int) < (no : Int) := by have := HNO.out; omega
     obtain ⟨b, off, cs, rfl, hb, hS, ⟨x, hx, hov⟩, hrow⟩ := HO.out.2.at q (by have := HNO.out; omega)
     have HQL := Lib.hid hl
     have hbase := (HXW.out _ Z.out.2.1).2
     have hrow2 := rangeAt_keep hrow (hbase.block b hb)
     have hxl := HOS.out x (List.mem_of_getElem? hx)
     have hxf := HFW.out.2.2 x (List.mem_of_getElem? hx)
     have hxw := HWD.out x (List.mem_of_getElem? hx)
     have HSN := Lib.hid (show TD ++ ((os.take (q + 1)).map operT).flatten = (TD ++ ((os.take q).map operT).flatten) ++ operT x by rw [flat_take hx, List.append_assoc])
     have hol := HOL.out q
     have hol2 := operT_len hxl hxw hxf
     obtain ⟨xn, xp, xb⟩ := x
     obtain ⟨P2, np2, cp2, B2, nb2, cb2, rfl, hss, hsb⟩ := hov
     dsimp only at hxl hxf hss hsb hrow2 hxw
     have e0 := hrow2 0 _ rfl
     have e1 := hrow2 1 _ rfl
     have e2 := hrow2 2 _ rfl
     simp only [Nat.add_zero] at e0
     have hl1 := name_len hxl.1
     have hl2 := params_len (freshL_all hxl.2.2.1) hxl.2.1
     have hJ := fun W (h : Below w.heap.size w W) => join_ss (hss.keep h.size (fun b hlt _ => h.block b hlt) (S' := S) (fun _ _ h => h)) [44, 32] (by have := hxl.2.1; omega) (by omega)
     obtain ⟨tj, htj⟩ : ∃ t, t = Lib.join xp [44, 32] := ⟨_, rfl⟩
     rw [← htj] at hl2 hJ
     obtain ⟨c1, hc1⟩ : ∃ c, c = ([111, 112, 32] : Str) ++ xn := ⟨_, rfl⟩
     have lc1 : c1.length = 3 + xn.length := by rw [hc1]; exact List.length_append
     have jc1 : ∀ w, (Op.stringOp .add (⟨#[111, 112, 32]⟩ : ByteArray) (bs xn)).run Tryz.prog w = .ok (.string (bs c1)) w := fun w => by rw [hc1]; exact add_big ([111, 112, 32] : Str) xn (by first | omega | (simp; omega)) w
     obtain ⟨c2, hc2⟩ : ∃ c, c = c1 ++ ([40] : Str) := ⟨_, rfl⟩
     have lc2 : c2.length = c1.length + 1 := by rw [hc2]; exact List.length_append
     have jc2 : ∀ w, (Op.stringOp .add (bs c1) (⟨#[40]⟩ : ByteArray)).run Tryz.prog w = .ok (.string (bs c2)) w := fun w => by rw [hc2]; exact add_big c1 ([40] : Str) (by first | omega | (simp; omega)) w
     obtain ⟨c3, hc3⟩ : ∃ c, c = c2 ++ tj := ⟨_, rfl⟩
     have lc3 : c3.length = c2.length + tj.length := by rw [hc3]; exact List.length_append
     have jc3 : ∀ w, (Op.stringOp .add (bs c2) (bs tj)).run Tryz.prog w = .ok (.string (bs c3)) w := fun w => by rw [hc3]; exact add_big c2 tj (by first | omega | (simp; omega)) w
     obtain ⟨c4, hc4⟩ : ∃ c, c = c3 ++ ([41, 32, 123] : Str) := ⟨_, rfl⟩
     have lc4 : c4.length = c3.length + 3 := by rw [hc4]; exact List.length_append
     have jc4 : ∀ w, (Op.stringOp .add (bs c3) (⟨#[41, 32, 123]⟩ : ByteArray)).run Tryz.prog w = .ok (.string (bs c4)) w := fun w => by rw [hc4]; exact add_big c3 ([41, 32, 123] : Str) (by first | omega | (simp; omega)) w
     obtain ⟨tb, htb⟩ : ∃ t, t = txSs 1 xb := ⟨_, rfl⟩
     have hTX : operT ⟨xn, xp, xb⟩ = lineT 0 c4 ++ tb ++ lineT 0 [125] := by rw [operT, hc4, hc3, hc2, hc1, htj, htb]
     have hTXl := congrArg List.length hTX
     simp only [List.length_append, lineT_len] at hTXl
     simp only [List.length_cons, List.length_nil] at hTXl
     obtain ⟨l0, hl0⟩ : ∃ l, l = TD ++ ((os.take q).map operT).flatten := ⟨_, rfl⟩
     have hl0l := congrArg List.length hl0
     rw [List.length_append] at hl0l
     have hsd := HSD.out
     have z0 : Pz w1.heap.size w1.heap.size wr wr.heap.size 76 #[.string (bs xn), .slice P2 np2 cp2, .slice B2 nb2 cb2] l0 (wr.alloc (.cells #[.string (bs xn), .slice P2 np2 cp2, .slice B2 nb2 cb2] 76)) := Pz.start (by rw [hl0]; exact Z.out.1) Z.out.2.2 (by decide)
     have HBS := Lib.hid (show ∀ W, Below w1.heap.size wr W → Below w.heap.size w W from fun W h => (HXW.out W (Z.out.2.1.trans h)).2)
     have HJN := Lib.hid (show ∀ l' W, Pz w1.heap.size w1.heap.size wr wr.heap.size 76 #[.string (bs xn), .slice P2 np2 cp2, .slice B2 nb2 cb2] l' W → Calls Tryz.prog 26 #[.slice P2 np2 cp2, .string ⟨#[44, 32]⟩] W fun e w' => e = .returned (.string (bs tj)) ∧ Below W.heap.size W w' from fun l' W z => hJ W (HBS.out W z.bl))
     have HC := Lib.hid (show ∀ l' W, Pz w1.heap.size w1.heap.size wr wr.heap.size 76 #[.string (bs xn), .slice P2 np2 cp2, .slice B2 nb2 cb2] l' W → (W.cell? ⟨wr.heap.size, 0, none⟩ = some (.string (bs xn)) ∧ W.cell? ⟨wr.heap.size, 1, none⟩ = some (.slice P2 np2 cp2) ∧ W.cell? ⟨wr.heap.size, 2, none⟩ = some (.slice B2 nb2 cb2)) from fun l' W z => cells3 z.bx)
     have HL1 := Lib.hid (show ∀ W, Pz w1.heap.size w1.heap.size wr wr.heap.size 76 #[.string (bs xn), .slice P2 np2 cp2, .slice B2 nb2 cb2] l0 W → Calls Tryz.prog 25 #[.pointer (some ⟨w1.heap.size, 0, none⟩), .int .i64 0, .string (bs c4)] W fun e w' => e = .returned (.tuple #[]) ∧ PB w1.heap.size w1.heap.size (l0 ++ lineT 0 c4) w' ∧ Below w1.heap.size W w' ∧ Fr w1.heap.size W w' from fun W z => line_any w1.heap.size w1.heap.size l0 c4 0 W (by decide) z.pb (by omega) z.sz)
     have HA1 := Lib.hid (show ∀ W, Pz w1.heap.size w1.heap.size wr wr.heap.size 76 #[.string (bs xn), .slice P2 np2 cp2, .slice B2 nb2 cb2] (l0 ++ lineT 0 c4) W → Calls Tryz.prog 27 #[.pointer (some ⟨w1.heap.size, 0, none⟩), .int .i64 1, .slice B2 nb2 cb2] W fun e w' => e = .returned (.tuple #[]) ∧ PB w1.heap.size w1.heap.size (l0 ++ lineT 0 c4 ++ tb) w' ∧ Below w1.heap.size W w' ∧ Fr w1.heap.size W w' from fun W z => by
      rw [htb]
      exact allAt_any xb 1 1 w S B2 nb2 cb2 w1.heap.size w1.heap.size (l0 ++ lineT 0 c4) W rfl HWS.out hxl.2.2.2 (by omega) (by rw [← htb, List.length_append, lineT_len]; omega) hsb (HBS.out W z.bl) (Nat.le_of_lt HLT1.out) z.sz z.pb)
     have HL2 := Lib.hid (show ∀ W, Pz w1.heap.size w1.heap.size wr wr.heap.size 76 #[.string (bs xn), .slice P2 np2 cp2, .slice B2 nb2 cb2] (l0 ++ lineT 0 c4 ++ tb) W → Calls Tryz.prog 25 #[.pointer (some ⟨w1.heap.size, 0, none⟩), .int .i64 0, .string ⟨#[125]⟩] W fun e w' => e = .returned (.tuple #[]) ∧ PB w1.heap.size w1.heap.size (l0 ++ lineT 0 c4 ++ tb ++ lineT 0 ([125] : Str)) w' ∧ Below w1.heap.size W w' ∧ Fr w1.heap.size W w' from fun W z => line_any w1.heap.size w1.heap.size (l0 ++ lineT 0 c4 ++ tb) [125] 0 W (by decide) z.pb (by rw [List.length_append, List.length_append, lineT_len]; simp only [List.length_cons, List.length_nil]; omega) z.sz)
     have HEND := Lib.hid (show l0 ++ lineT 0 c4 ++ tb ++ lineT 0 ([125] : Str) = TD ++ ((os.take (q + 1)).map operT).flatten by rw [HSN.out, hTX, hl0]; simp only [List.append_assoc])
     clear hx hb hS hrow hrow2 hl hq hxl hxf hxw hss hsb hl1 hl2 hJ htj htb hTX hTXl hl0 hl0l hsd hbase hol hol2 hc1 lc1 hc2 lc2 hc3 lc3 hc4 lc4
     go_upto_region 13 with fail
     have z1 := z0.drew
     go_region_held3 (fun W => (W.cell? ⟨wr.heap.size, 0, none⟩ = some (.string (bs xn)) ∧ W.cell? ⟨wr.heap.size, 1, none⟩ = some (.slice P2 np2 cp2) ∧ W.cell? ⟨wr.heap.size, 2, none⟩ = some (.slice B2 nb2 cb2))) (exact HC.out _ _ (by assumption)) (first
      | (go_at_call 26; refine (HJN.out _ _ (by assumption)).mono ?_; rintro e wt ⟨rfl, hb⟩; have zt := Pz.next (by assumption) hb; clear hb)
      | (go_at_call 25; refine (HL1.out _ (by assumption)).mono ?_; rintro e ws ⟨rfl, hp', hb', hf'⟩; have zs := Pz.put (by assumption) hp' hb' hf'; clear hp' hb' hf'))
     all_goals
      obtain ⟨c0, c1', c2'⟩ := HC.out _ _ zs
      go_wp2_with fail
      refine (HA1.out _ zs).mono ?_
      rintro e w5 ⟨rfl, hp', hb', hf'⟩
      have z5 := zs.put hp' hb' hf'
      clear hp' hb' hf' c0 c1' c2'
      go_wp2_with fail
      refine (HL2.out _ z5).mono ?_
      rintro e w6 ⟨rfl, hp', hb', hf'⟩
      have z6 := z5.put hp' hb' hf'
      clear hp' hb' hf'
      have Z6 : Hid (PB w1.heap.size w1.heap.size (TD ++ ((os.take (q + 1)).map operT).flatten) w6 ∧ Below w1.heap.size w2 w6 ∧ w1.heap.size ≤ w6.heap.size) := Lib.hid ⟨by rw [← HEND.out]; exact z6.pb, Z.out.2.1.trans z6.bl, z6.sz⟩
      go_wp2
      go_roundw
      case rel => exact ⟨q + 1, HQL.out, by go_num, Z6⟩
      case measure => exact meas_up _ _ HQL.out
    ·have hi2 : ¬ (q : Int) < (no : Int) := by have := HNO.out; omega
     have hqo : os.take q = os := List.take_of_length_le (by omega)
     have HOD := Lib.hid (HOL.out q)
     rw [hqo] at Z HOD
     obtain ⟨T, hT⟩ : ∃ T, T = TD ++ (os.map operT).flatten := ⟨_, rfl⟩
     have hTP : txP ⟨ds, os⟩ = T := by rw [hT, HTD.out]; rfl
     have HLEN := Lib.hid (show T.length ≤ 98000000 by rw [hT, List.length_append]; have := HSD.out; have := HOD.out; omega)
     rw [hTP] at HTS HTE
     rw [← hT] at Z
     have HLN := Lib.hid (len_any w1.heap.size w1.heap.size T wr Z.out.1.1)
     have HST := Lib.hid (string_any w1.heap.size w1.heap.size T wr Z.out.1)
     clear hl hq hqo hT hTP HOL
     go_wp2_with fail
     refine HLN.out.mono ?_
     rintro e w5 ⟨rfl, h⟩
     subst w5
     by_cases hbig : 65536 < (T.length : Int)
     ·have HR1 := Lib.hid (show TS = [] by rw [HTS.out, if_pos (by omega)])
      have HR2 := Lib.hid (show TE = 7 by rw [HTE.out, if_pos (by omega)])
      go_wp2
      go_ret2
      exact ⟨by rw [HR1.out, HR2.out]; rfl, (HXW.out _ Z.out.2.1).2⟩
     ·have HR1 := Lib.hid (show TS = T by rw [HTS.out, if_neg (by omega)])
      have HR2 := Lib.hid (show TE = 0 by rw [HTE.out, if_neg (by omega)])
      go_wp2_with fail
      refine HST.out.mono ?_
      rintro e w6 ⟨rfl, hb6⟩
      have HB6 := Lib.hid ((HXW.out _ (Z.out.2.1.trans hb6)).2)
      clear hb6
      go_wp2
      go_ret2
      exact ⟨by rw [HR1.out, HR2.out]; rfl, HB6.out⟩
theorem print_any (p : Prog') (v : Value) (S : Nat → Prop) (w : World) (hw : SxW w) (hp : PV w S p v) (hf : p.Few2) :
  Calls Tryz.prog 11 #[v] w fun e w' => e = .returned (.tuple #[.string (bs (printS p)), .int .i64 (printE p)]) ∧ Below w.heap.size w w' := by
 unfold printS printE
 by_cases hc : chkP p = 0
 ·rw [if_neg (show ¬ chkP p ≠ 0 by simp [hc]), if_neg (show ¬ chkP p ≠ 0 by simp [hc])]
  exact print_ok p v S w hw hp hf hc
 ·rw [if_pos hc, if_pos hc]
  exact print_bad p v S w hw hp hf hc
end Go.Proofs.YtkakbidllpjopaaGreatDoor
namespace Go.Proofs.YtkakbidllpjopaaGreatDoor
open Go.RowKit

theorem alone_few2 {e : Ex} (h : e.size ≤ 9000) : (aloneP e).Few2 := by
 refine ⟨Nat.zero_le _, show 1 ≤ 10000 from by omega, fun o ho => ?_⟩
 rw [List.mem_singleton.1 ho]
 simp only [St.sizes, St.size]
 omega
set_option maxRecDepth 100000 in
set_option maxHeartbeats 12800000 in
theorem alone_any (x : Ex) (cs : List Value) (w : World) (S : Nat → Prop) (h : XV w S x cs) : Calls Tryz.prog 12 #[.agg cs.toArray] w fun e w' => ∃ v, e = .returned v ∧ PV w' (fun _ => True) (aloneP x) v ∧ Below w.heap.size w w' := by
 obtain ⟨xx, hxx⟩ : ∃ z, z = x := ⟨_, rfl⟩
 have HXX := Lib.hid hxx
 rw [← hxx]
 obtain ⟨k1, n1, s1, m1, a1, o1⟩ := x
 obtain ⟨A1, na1, ca1, O1, no1, co1, rfl, -, -⟩ := h.open_
 rw [show (exC k1 n1 s1 m1 A1 na1 ca1 O1 no1 co1).toArray = #[.int .i64 k1, .int .i64 n1, .string (bs s1), .string (bs m1), .slice A1 na1 ca1, .slice O1 no1 co1] from rfl]
 obtain ⟨wa, hwa⟩ : ∃ W, W = w.alloc (.cells #[.int .i64 k1, .int .i64 n1, .string (bs s1), .string (bs m1), .slice A1 na1 ca1, .slice O1 no1 co1] 27) := ⟨_, rfl⟩
 obtain ⟨wb, hwb⟩ : ∃ W, W = wa.alloc (.cells #[.slice none 0 0, .slice none 0 0] 36) := ⟨_, rfl⟩
 obtain ⟨wS, hwS⟩ : ∃ W, W = wb.alloc (.cells #[.int .i64 5, .string { data := #[] }, .int .i64 0, .int .i64 k1, .int .i64 n1, .string (bs s1), .string (bs m1), .slice A1 na1 ca1, .slice O1 no1 co1, .slice none 0 0, .slice none 0 0] 74) := ⟨_, rfl⟩
 obtain ⟨wO, hwO⟩ : ∃ W, W = wS.alloc (.cells #[.string { data := #[120] }, .slice none 0 0, .slice (some ⟨w.heap.size + 2, 0, none⟩) 1 1] 76) := ⟨_, rfl⟩
 have ha : Below w.heap.size w wa := by rw [hwa]; exact (Below.refl _ _).alloc (Nat.le_refl _) _
 have hb : Below wa.heap.size wa wb := by rw [hwb]; exact (Below.refl _ _).alloc (Nat.le_refl _) _
 have hS : Below wb.heap.size wb wS := by rw [hwS]; exact (Below.refl _ _).alloc (Nat.le_refl _) _
 have hO : Below wS.heap.size wS wO := by rw [hwO]; exact (Below.refl _ _).alloc (Nat.le_refl _) _
 have sa : wa.heap.size = w.heap.size + 1 := by rw [hwa]; exact World.size_alloc ..
 have sb : wb.heap.size = w.heap.size + 2 := by rw [hwb, World.size_alloc, sa]
 have sS : wS.heap.size = w.heap.size + 3 := by rw [hwS, World.size_alloc, sb]
 have qx : XB wb w.heap.size #[.int .i64 k1, .int .i64 n1, .string (bs s1), .string (bs m1), .slice A1 na1 ca1, .slice O1 no1 co1] := XB.below (w := wa) (show wa.heap[w.heap.size]? = _ from by rw [hwa]; exact heap_alloc_new w _) hb
 have qr : HB 36 wO (w.heap.size + 1) #[.slice none 0 0, .slice none 0 0] := HB.below (HB.below (show HB 36 wb _ _ from by rw [← sa, hwb]; exact heap_alloc_new wa _) hS) hO
 have qS : wO.heap[w.heap.size + 2]? = some (.cells #[.int .i64 5, .string { data := #[] }, .int .i64 0, .int .i64 k1, .int .i64 n1, .string (bs s1), .string (bs m1), .slice A1 na1 ca1, .slice O1 no1 co1, .slice none 0 0, .slice none 0 0] 74 (0, 0)) := by rw [hO.block _ (by omega), ← sb, hwS]; exact heap_alloc_new wb _
 have qO : wO.heap[w.heap.size + 3]? = some (.cells #[.string { data := #[120] }, .slice none 0 0, .slice (some ⟨w.heap.size + 2, 0, none⟩) 1 1] 76 (0, 0)) := by rw [← sS, hwO]; exact heap_alloc_new wS _
 have hbO : Below w.heap.size w wO := ha.trans ((hb.mono (by omega)).trans ((hS.mono (by omega)).trans (hO.mono (by omega))))
 have QX := Lib.hid qx
 have QR := Lib.hid qr
 have BO := Lib.hid hbO
 have PVO := Lib.hid (alone_pv (S := fun k => k ≠ w.heap.size + 1) (by rw [HXX.out]; exact XV.keep (S' := fun k => k ≠ w.heap.size + 1) hbO.size (fun k hk _ => hbO.block k hk) (fun k hk _ => by omega) h) qS qO (by omega) (by omega) : PV wO (fun k => k ≠ w.heap.size + 1) (aloneP xx) _)
 clear h ha hb hS hO sa sb sS qx qr qS qO hbO hxx
 rw [hwa] at hwb
 rw [hwb] at hwS
 rw [hwS] at hwO
 go_enter Tryz.func12, Tryz.ntmps12
 go_upto_region 1 with fail
 rw [← hwb]
 go_wp2_with (with_reducible refine at_load_ (t := 27) ?_; refine Hid.out ?_)
 refine Lib.hid ?_
 refine xb_load rfl _ rfl w.heap.size rfl QX.out rfl ?_
 go_wp2_with (with_reducible refine at_store_ (t := 36) ?_; refine Hid.out ?_)
 refine Lib.hid ?_
 rw [show w.heap.size + 1 + 1 + 1 = w.heap.size + 3 from rfl, show w.heap.size + 1 + 1 = w.heap.size + 2 from rfl]
 rw [← hwO]
 clear hwO hwb hwS hwa
 refine hb_put rfl _ _ rfl rfl (w.heap.size + 1) rfl rfl pr_size (by simp [Value.oneCell']) QR.out rfl ?_
 intro wz hxz hgz hsz
 clear hsz
 have XZ := Lib.hid hxz
 have BZ := Lib.hid (BO.out.trans (below_gr hgz (B := w.heap.size) BO.out.size (Nat.le_succ _)))
 have HVZ := Lib.hid (PVO.out.gr (S' := fun _ => True) hgz (fun k _ hk => ⟨hk, trivial⟩))
 clear hxz hgz QX QR BO PVO
 go_wp2_with fail
 refine bodyPost_ret (results_cell_row rfl _ _ (w.heap.size + 1) _ _ _ _ rfl XZ.out Tryz.underlying36 rfl pr_size) rfl ?_
 exact ⟨_, rfl, HVZ.out, BZ.out⟩
/-- The chapter's example. -/
def exX : Ex := .mk 5 0 [] [45] [.mk 5 0 [] [43] [.mk 0 1 [] [] [] [], .mk 5 0 [] [42] [.mk 0 2 [] [] [] [], .mk 4 0 [] [] [.mk 2 0 [120] [] [] []] []] []] [], .mk 0 3 [] [] [] []] []
def exXs : Str := [49, 32, 43, 32, 50, 32, 42, 32, 45, 120, 32, 45, 32, 51]
def exXt : Str := [111, 112, 32, 120, 40, 41, 32, 123, 10, 32, 32, 114, 101, 116, 117, 114, 110, 32, 40, 49, 32, 43, 32, 40, 50, 32, 42, 32, 40, 45, 120, 41, 41, 41, 32, 45, 32, 51, 59, 10, 125, 10]
def exYs : Str := [111, 112, 32, 102, 40, 41, 32, 123, 32, 49, 59, 32, 125]
theorem exX_prE : prE exXs = (exX, 0, 0) := by kernel_rfl
theorem exX_txt : printS (aloneP exX) = exXt := by decide +kernel
theorem exX_err : printE (aloneP exX) = 0 := by decide +kernel
theorem exY_prP : prP exYs = (emP, 9, 5) := by kernel_rfl
set_option maxRecDepth 100000 in
set_option maxHeartbeats 12800000 in
theorem awake_any (w : World) (hw : WW w) : Calls Tryz.prog 13 #[] w fun e w' => e = .returned (.bool true) ∧ Below w.heap.size w w' := by
 have hk := pexpr_any exXs w hw (by decide)
 rw [exX_prE] at hk
 dsimp only at hk
 have K := Lib.hid (show Calls _ _ #[.string { data := #[49, 32, 43, 32, 50, 32, 42, 32, 45, 120, 32, 45, 32, 51] }] _ _ from hk)
 have HW := Lib.hid hw
 have K3 := Lib.hid (show ∀ W, WW W → Calls Tryz.prog 14 #[.string { data := #[111, 112, 32, 102, 40, 41, 32, 123, 32, 49, 59, 32, 125] }] W fun e w' => ∃ v, e = .returned (.tuple #[v, .int .i64 9, .int .i64 5]) ∧ PV w' (fun b => W.heap.size ≤ b) emP v ∧ Below W.heap.size W w' from fun W hW => by
  have h := parse_any exYs W hW (by decide)
  rw [exY_prP] at h
  exact h)
 clear hw hk
 go_enter Tryz.func13, Tryz.ntmps13
 go_wp2_with fail
 refine K.out.mono ?_
 rintro e w1 ⟨cs, rfl, hv, hb⟩
 obtain ⟨A1, na1, ca1, O1, no1, co1, rfl, -, -⟩ := XV.open_ (show XV w1 _ exX cs from hv)
 rw [show (exC 5 0 [] [45] A1 na1 ca1 O1 no1 co1).toArray = #[.int .i64 5, .int .i64 0, .string { data := #[] }, .string { data := #[45] }, .slice A1 na1 ca1, .slice O1 no1 co1] from rfl]
 obtain ⟨w2, hw2⟩ : ∃ W, W = w1.alloc (.cells #[.int .i64 5, .int .i64 0, .string { data := #[] }, .string { data := #[45] }, .slice A1 na1 ca1, .slice O1 no1 co1] 27) := ⟨_, rfl⟩
 have hb2 : Below w1.heap.size w1 w2 := by rw [hw2]; exact (Below.refl _ _).alloc (Nat.le_refl _) _
 have YB := Lib.hid (show XB w2 w1.heap.size _ from by rw [hw2]; exact heap_alloc_new w1 _)
 have HV := Lib.hid (hv.below hb2)
 have B2 := Lib.hid (hb.trans (hb2.mono hb.size))
 clear hv hb hb2 K
 go_upto_region 2 with fail
 rw [← hw2]
 clear hw2
 go_wp2_with (with_reducible refine at_load_ (t := 27) ?_; refine Hid.out ?_)
 refine Lib.hid ?_
 refine xb_load rfl _ rfl w1.heap.size rfl YB.out rfl ?_
 have KA := Lib.hid (alone_any exX _ w2 _ HV.out)
 clear HV YB
 go_wp2_with fail
 refine KA.out.mono ?_
 rintro e w3 ⟨v, rfl, hp, hb⟩
 have B3 := Lib.hid (B2.out.trans (hb.mono B2.out.size))
 have HP := Lib.hid hp
 clear hp hb KA B2
 have kp := print_any (aloneP exX) v _ w3 (HW.out.below B3.out).sx HP.out (alone_few2 (by decide))
 rw [exX_txt, exX_err] at kp
 have KP := Lib.hid kp
 clear kp HP
 go_wp2_with fail
 refine KP.out.mono ?_
 rintro e w4 ⟨rfl, hb⟩
 have B4 := Lib.hid (B3.out.trans (hb.mono B3.out.size))
 clear hb KP B3
 go_wp2_with fail
 refine (K3.out w4 (HW.out.below B4.out)).mono ?_
 rintro e w5 ⟨u, rfl, hp, hb⟩
 obtain ⟨D, nd, cd, O, no, co, rfl, -, -⟩ := hp
 have B5 := Lib.hid (B4.out.trans (hb.mono B4.out.size))
 have hxt : (bs exXt).toList = [111, 112, 32, 120, 40, 41, 32, 123, 10, 32, 32, 114, 101, 116, 117, 114, 110, 32, 40, 49, 32, 43, 32, 40, 50, 32, 42, 32, 40, 45, 120, 41, 41, 41, 32, 45, 32, 51, 59, 10, 125, 10] := bs_toList _
 have hxe : (bs exXt) = { data := #[111, 112, 32, 120, 40, 41, 32, 123, 10, 32, 32, 114, 101, 116, 117, 114, 110, 32, 40, 49, 32, 43, 32, 40, 50, 32, 42, 32, 40, 45, 120, 41, 41, 41, 32, 45, 32, 51, 59, 10, 125, 10] } := rfl
 clear hb K3 B4
 go_wp2
 go_ret
 exact ⟨rfl, B5.out.alloc B5.out.size _⟩
end Go.Proofs.YtkakbidllpjopaaGreatDoor
