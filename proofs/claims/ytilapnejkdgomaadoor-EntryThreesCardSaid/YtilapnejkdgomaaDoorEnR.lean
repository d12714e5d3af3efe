/- The walk of the law EntryThrees: true. Conditions: the numbers are of their kinds; at most 2^43 puts a list; the table of powers of ten is laid. -/
import Derived.Test.YtilapnejkdgomaaDoorEnN
set_option linter.unusedVariables false
set_option linter.unusedSimpArgs false
namespace Go.Proofs.YtilapnejkdgomaaDoor
open Go.RowKit

def w3C (ws : List (Int × Int × Int)) : List Value := ws.flatMap fun p => [.int .i64 p.1, .int .u32 p.2.1, .int .u32 p.2.2]
def z3 (p : Int × Int × Int) : Int × Int × Int := (p.1, p.2.1, 0)
def p2 (p : Int × Int × Int) : Int × Int := (p.1, p.2.1)
def zk (ws : List (Int × Int × Int)) (k : Nat) : List (Int × Int × Int) := (ws.take k).map z3 ++ ws.drop k
theorem w3C_len (ws : List (Int × Int × Int)) : (w3C ws).length = ws.length * 3 := by
  induction ws with
  | nil => rfl
  | cons a t ih => simp only [w3C, List.flatMap_cons, List.length_append, List.length_cons, List.length_nil] at *; omega
theorem w3C_at : ∀ (ws : List (Int × Int × Int)) (i : Nat) (h : i < ws.length) (j : Nat) (hj : j < 3), (w3C ws)[i * 3 + j]? = [Value.int .i64 ws[i].1, .int .u32 ws[i].2.1, .int .u32 ws[i].2.2][j]?
  | a :: t, 0, _, j, hj => by
    simp only [w3C, List.flatMap_cons, Nat.zero_mul, Nat.zero_add, List.getElem_cons_zero]
    rw [List.getElem?_append_left (by simpa using hj)]
  | a :: t, k + 1, h, j, hj => by
    have := w3C_at t k (by simpa using h) j hj
    simp only [w3C, List.flatMap_cons, List.getElem_cons_succ] at *
    rw [List.getElem?_append_right (by simp; omega), ← this]
    congr 1
    simp; omega
theorem w3C_set : ∀ (ws : List (Int × Int × Int)) (i : Nat) (h : i < ws.length), (w3C ws).set (i * 3 + 2) (.int .u32 0) = w3C (ws.set i (z3 ws[i]))
  | a :: t, 0, _ => rfl
  | a :: t, k + 1, h => by
    have ih := w3C_set t k (by simpa using h)
    have e : w3C (a :: t) = [.int .i64 a.1, .int .u32 a.2.1, .int .u32 a.2.2] ++ w3C t := rfl
    rw [e, List.set_append_right _ _ (by simp; omega), show (k + 1) * 3 + 2 - [Value.int .i64 a.1, .int .u32 a.2.1, .int .u32 a.2.2].length = k * 3 + 2 by simp; omega, ih]
    rfl
theorem zk_len (ws : List (Int × Int × Int)) (k : Nat) : (zk ws k).length = ws.length := by unfold zk; rw [List.length_append, List.length_map, List.length_take, List.length_drop]; omega
theorem zk_zero (ws : List (Int × Int × Int)) : zk ws 0 = ws := by simp [zk]
theorem zk_get {ws : List (Int × Int × Int)} {k : Nat} (h : k < ws.length) : (zk ws k)[k]'(by rw [zk_len]; exact h) = ws[k] := by
  unfold zk
  rw [List.getElem_append_right (by rw [List.length_map, List.length_take]; omega)]
  simp only [List.length_map, List.length_take, List.getElem_drop]
  congr 1
  omega
theorem zk_succ {ws : List (Int × Int × Int)} {k : Nat} (h : k < ws.length) : (zk ws k).set k (z3 ws[k]) = zk ws (k + 1) := by
  unfold zk
  have hl : ((ws.take k).map z3).length = k := by rw [List.length_map, List.length_take]; omega
  rw [List.set_append_right _ _ (by omega), hl, Nat.sub_self, List.drop_eq_getElem_cons h, List.set_cons_zero, List.take_add_one, List.getElem?_eq_getElem h, List.map_append]
  simp
theorem zk_all {ws : List (Int × Int × Int)} (h : ws.length = 6) : w3C (zk ws 6) = wC (ws.map p2) := by
  unfold zk
  rw [List.take_of_length_le (by omega), List.drop_of_length_le (by omega), List.append_nil]
  unfold w3C wC
  rw [List.flatMap_map, List.flatMap_map]
  rfl
/-- The run in memory: the words and three slices. -/
abbrev RB (w : World) (q : Nat) (ws : List (Int × Int × Int)) (tl : List Value) : Prop := Blk w q 41 (w3C ws ++ tl)
def rV (ws : List (Int × Int × Int)) (tl : List Value) : Value := .agg (w3C ws ++ tl).toArray
theorem Tryd.sizeR : (Tryd.prog.info? 41).map (·.size) = some 21 := by kernel_rfl
theorem RB.word {w : World} {q : Nat} {ws : List (Int × Int × Int)} {tl : List Value} (h : RB w q ws tl) {i : Nat} (hi : i < ws.length) : w.cell? ⟨q, i * 3, none⟩ = some (.int .i64 ws[i].1) ∧ w.cell? ⟨q, i * 3 + 1, none⟩ = some (.int .u32 ws[i].2.1) ∧ w.cell? ⟨q, i * 3 + 2, none⟩ = some (.int .u32 ws[i].2.2) := by
  have hl := w3C_len ws
  have g := fun j (hj : j < 3) => (List.getElem?_append_left (l₁ := w3C ws) (l₂ := tl) (i := i * 3 + j) (by omega)).trans (w3C_at ws i hi j hj)
  refine ⟨?_, ?_, ?_⟩
  · have := g 0 (by omega); rw [Nat.add_zero] at this; exact h.cell this
  · exact h.cell (g 1 (by omega))
  · exact h.cell (g 2 (by omega))
theorem RB.tail {w : World} {q : Nat} {ws : List (Int × Int × Int)} {a b c : Value} (h : RB w q ws [a, b, c]) (hl : ws.length = 6) : w.cell? ⟨q, 18, none⟩ = some a ∧ w.cell? ⟨q, 19, none⟩ = some b ∧ w.cell? ⟨q, 20, none⟩ = some c := by
  have h3 := w3C_len ws
  rw [hl] at h3
  refine ⟨h.cell ?_, h.cell ?_, h.cell ?_⟩ <;> rw [List.getElem?_append_right (by omega), h3] <;> rfl
section
variable {ops : Array Oper} {rest : List Oper} {a : Act} {w : World} {Q : Exit → Act → World → Prop} {o : Oper}
theorem rb_box {ws : List (Int × Int × Int)} {x1 x2 x3 : Value} (hg : o.guard = none) (x : Operand) (ho : o.op = .box 41 x) (hl : ws.length = 6) (hx : a.eval x = rV ws [x1, x2, x3])
    (h : ∀ w', RB w' w.heap.size ws [x1, x2, x3] → Below w.heap.size w w' → wpList Tryd.prog ops Q rest (a.put o.dst (.pointer (some ⟨w.heap.size, 0, none⟩))) w') : wpList Tryd.prog ops Q (o :: rest) a w :=
  wpList_box_mine hg _ x ho _ rfl (w3C ws ++ [x1, x2, x3]).toArray hx (by rw [Tryd.sizeR, List.size_toArray, List.length_append, w3C_len, hl]; rfl) (h _ (heap_alloc_new _ _) ((Below.refl _ _).alloc (Nat.le_refl _) _))
theorem wb_load_in {ws : List (Int × Int)} {t : TypeId} {tl : List Value} (hg : o.guard = none) (x : Operand) (ho : o.op = .load 38 x) (hl : ws.length = 6) (g : Nat) (hx : a.eval x = .pointer (some ⟨g, 0, none⟩)) (hb : Blk w g t (wC ws ++ tl))
    (h : wpList Tryd.prog ops Q rest (a.put o.dst (wV ws)) w) : wpList Tryd.prog ops Q (o :: rest) a w :=
  wpList_plain hg fun _ hK => wp_load_mid _ x ho g 0 hx (wC ws) _ (hb.range fun j v hv => by
    rw [Nat.zero_add, List.getElem?_append_left (List.getElem?_eq_some_iff.1 hv).1]; exact hv) Tryd.underlying38 rfl (by have := sizeW ws hl; rwa [List.size_toArray] at this) (hK _ _ h)
end
theorem rz_tail {w : World} {q : Nat} {t : TypeId} {ws : List (Int × Int)} {a b c : Value} (h : Blk w q t (wC ws ++ [a, b, c])) (hl : ws.length = 6) : w.cell? ⟨q, 18, none⟩ = some a ∧ w.cell? ⟨q, 19, none⟩ = some b ∧ w.cell? ⟨q, 20, none⟩ = some c := by
  have h3 := wC_len ws
  rw [hl] at h3
  refine ⟨h.cell ?_, h.cell ?_, h.cell ?_⟩ <;> rw [List.getElem?_append_right (by omega), h3] <;> rfl
theorem rz_word {w : World} {q : Nat} {t : TypeId} {ws : List (Int × Int)} {tl : List Value} (h : Blk w q t (wC ws ++ tl)) {i : Nat} (hi : i < ws.length) : w.cell? ⟨q, i * 3, none⟩ = some (.int .i64 ws[i].1) ∧ w.cell? ⟨q, i * 3 + 1, none⟩ = some (.int .u32 ws[i].2) ∧ w.cell? ⟨q, i * 3 + 2, none⟩ = some (.int .u32 0) := by
  have hl := wC_len ws
  have g := fun j (hj : j < 3) => (List.getElem?_append_left (l₁ := wC ws) (l₂ := tl) (i := i * 3 + j) (by omega)).trans (wC_at ws i hi j hj)
  refine ⟨?_, ?_, ?_⟩
  · have := g 0 (by omega); rw [Nat.add_zero] at this; exact h.cell this
  · exact h.cell (g 1 (by omega))
  · exact h.cell (g 2 (by omega))
theorem below_nk {W wa ws : World} (hb : Below W.heap.size W wa) (hk : Keep (fun k => k = W.heap.size) wa ws) : Below W.heap.size W ws := hb.trans (hk.below hb.size (fun k hk e => by omega))
theorem wG_at {ws : List (Int × Int)} {i : Nat} (h : i < ws.length) : wG ws (i : Int) = ws[i] := by
  unfold wG
  rw [List.getD_eq_getElem?_getD, show ((i : Int)).toNat = i by omega, List.getElem?_eq_getElem h]
  rfl
theorem twice_take {a b : List Ent} {i : Nat} {p : Ent} (h : a[i]? = some p) : twice (a.take (i + 1)) b = (twice (a.take i) b || b.any fun q => p.loc == q.loc && p.wr && q.wr) := by
  unfold twice; rw [List.take_add_one, h, List.any_append]; simp
theorem any_take1 {b : List Ent} {j : Nat} {q : Ent} {f : Ent → Bool} (h : b[j]? = some q) : (b.take (j + 1)).any f = ((b.take j).any f || f q) := by
  rw [List.take_add_one, h, List.any_append]; simp
theorem ents_go {a b : List Ent} (ha : Dst a) (hb : Dst b) (h1 : ∀ e ∈ a, EntOk e) (h2 : ∀ e ∈ b, EntOk e) : ∀ e ∈ rGo a b, EntOk e := fun e he => by
  rcases mem_go ha hb he with h | h | ⟨y, hy, x, hx, _, rfl⟩
  · exact h1 e h.1
  · exact h2 e h.1
  · exact h1 y hy
theorem Sw.ok {w x : List (Int × Int)} {a : List Ent} (h : Sw w a x) {B : Int} (hB : VerB w B) (hb : B < 4294967296) : ∀ e ∈ a, EntOk e := fun e he => by
  have h1 := h.old e he
  have h2 := hB e.loc (h.loc e he).1 (h.loc e he).2
  unfold EntOk
  rw [h1.2.1, h1.2.2]
  omega
theorem ents_srt {a : List Ent} (h : ∀ e ∈ a, EntOk e) : ∀ e ∈ srt Ent.loc a, EntOk e := fun e he => h e (((srt_sts Ent.loc a).mem Ent.loc e).1 he)
theorem verb_of {ws : List (Int × Int × Int)} (hl : ws.length = 6) (h0 : ∀ p ∈ ws, 0 ≤ p.2.1) (h : ∀ i (hi : i < ws.length), ws[i].2.1 ≤ 1073741824) : VerB (ws.map p2) 1073741824 := by
  intro i h1 h2
  have hi : i.toNat < ws.length := by omega
  have e : wG (ws.map p2) i = p2 ws[i.toNat] := by
    unfold wG
    rw [List.getD_eq_getElem?_getD, List.getElem?_map, List.getElem?_eq_getElem hi]
    rfl
  rw [e]
  exact ⟨h0 _ (List.getElem_mem hi), h i.toNat hi⟩
set_option maxRecDepth 100000 in
set_option maxHeartbeats 12800000 in
theorem threes_any {S : Nat → Prop} (ws : List (Int × Int × Int)) (A B C : Option Addr) (na ca nb cb nc cc : Nat) (la lb lc : List Put) (w : World) (hws : ws.length = 6) (hok : ∀ p ∈ ws, 0 ≤ p.2.1) (ha : Puts w S A na la) (hb : Puts w S B nb lb) (hc : Puts w S C nc lc) (h1 : na ≤ ca) (h2 : nb ≤ cb) (h3 : nc ≤ cc)
    (p1 : ∀ p ∈ la, p.at_ < 256) (p2' : ∀ p ∈ lb, p.at_ < 256) (p3 : ∀ p ∈ lc, p.at_ < 256) (b1 : na ≤ 8796093022208) (b2 : nb ≤ 8796093022208) (b3 : nc ≤ 8796093022208) (hp : Pow w) :
    Calls Tryd.prog 6 #[rV ws [.slice A na ca, .slice B nb cb, .slice C nc cc]] w fun e w' => e = .returned (.bool true) ∧ Below w.heap.size w w' := by
  have HW6 := Lib.hid hws
  have HOK := Lib.hid hok
  have HPA := Lib.hid p1
  have HPB := Lib.hid p2'
  have HPC := Lib.hid p3
  have HA := Lib.hid ha
  have HBB := Lib.hid hb
  have HC := Lib.hid hc
  have AW := Lib.hid (fun W (h : Below w.heap.size w W) => awake_any W (hp.below h))
  have b1i : (na : Int) ≤ 8796093022208 := by omega
  have b2i : (nb : Int) ≤ 8796093022208 := by omega
  have b3i : (nc : Int) ≤ 8796093022208 := by omega
  clear hws hok p1 p2' p3 ha hb hc hp
  by_cases hsum : 60 < na + nb + nc
  · have hsi : (60 : Int) < (na : Int) + (nb : Int) + (nc : Int) := by omega
    clear hsum
    go_enter Tryd.func6, Tryd.ntmps6
    go_wp2_with (with_reducible refine at_box_ (t := 41) ?_; refine Hid.out ?_)
    refine Lib.hid ?_
    refine rb_box rfl _ rfl HW6.out rfl ?_
    intro wb hx hb
    have RB0 := Lib.hid hx
    have HB := Lib.hid hb
    obtain ⟨c18, c19, c20⟩ := RB.tail hx HW6.out
    clear hx hb
    go_wp2_with fail
    refine (AW.out _ HB.out).mono ?_
    rintro e w1 ⟨rfl, hb⟩
    have HB1 := Lib.hid (HB.out.trans (hb.mono HB.out.size))
    clear hb
    go_wp2
    go_ret
    exact ⟨rfl, HB1.out⟩
  have hsi : ¬ (60 : Int) < (na : Int) + (nb : Int) + (nc : Int) := by omega
  have HNA := Lib.hid (show na ≤ 60 by omega)
  have HNB := Lib.hid (show nb ≤ 60 by omega)
  have HNC := Lib.hid (show nc ≤ 60 by omega)
  have HCA := Lib.hid h1
  have HCB := Lib.hid h2
  have HCC := Lib.hid h3
  clear hsum h1 h2 h3 b1 b2 b3
  go_enter Tryd.func6, Tryd.ntmps6
  go_wp2_with (with_reducible refine at_box_ (t := 41) ?_; refine Hid.out ?_)
  refine Lib.hid ?_
  refine rb_box rfl _ rfl HW6.out rfl ?_
  intro wb hx hb
  have RB0 := Lib.hid hx
  have HB := Lib.hid hb
  obtain ⟨c18, c19, c20⟩ := RB.tail hx HW6.out
  clear hx hb
  have RB1 := Lib.hid (show RB wb w.heap.size (zk ws 0) [.slice A na ca, .slice B nb cb, .slice C nc cc] from by rw [zk_zero]; exact RB0.out)
  clear RB0
  go_wp2
  clear c18 c19 c20 b1i b2i b3i hsi
  go_loopw [38] (fun ii wr => ∃ k : Nat, k ≤ 6 ∧ ii = .int .i64 k ∧ Hid (∀ i (hi : i < ws.length), i < k → ws[i].2.1 ≤ 1073741824) ∧ Hid (RB wr w.heap.size (zk ws k) [.slice A na ca, .slice B nb cb, .slice C nc cc]) ∧ Hid (Below w.heap.size w wr)) (fun ii _ => 6 - (intOf ii).toNat)
  case atStart => exact ⟨0, by omega, rfl, Lib.hid (fun i _ h => absurd h (by omega)), RB1, HB⟩
  case round =>
    clear RB1 HB
    obtain ⟨k, hk, rfl, HV, RB1, HB⟩ := hrel
    by_cases hlt : k < 6
    · have hkl : k < ws.length := by rw [HW6.out]; exact hlt
      have hkz : k < (zk ws k).length := by rw [zk_len]; exact hkl
      obtain ⟨c0, c1, c2⟩ := RB.word RB1.out hkz
      rw [zk_get hkl] at c0 c1 c2
      have hki : (k : Int) < 6 := by omega
      obtain ⟨x, hx⟩ : ∃ x, x = ws[k] := ⟨_, rfl⟩
      rw [← hx] at c0 c1 c2
      have HX := Lib.hid hx
      have hxv : 0 ≤ x.2.1 := by rw [hx]; exact HOK.out _ (List.getElem_mem hkl)
      clear hx
      obtain ⟨xv, xn, xr⟩ := x
      dsimp only at c0 c1 c2 hxv
      by_cases hbig : 1073741824 < xn
      · go_wp2_with fail
        refine (AW.out _ HB.out).mono ?_
        rintro e w1 ⟨rfl, hb⟩
        have HB1 := Lib.hid (HB.out.trans (hb.mono HB.out.size))
        clear hb
        go_wp2
        go_ret
        exact ⟨rfl, HB1.out⟩
      · have z2 := Blk.free RB1.out (k * 3 + 2)
        have RBn := Lib.hid (show RB (wr.setCell ⟨w.heap.size, k * 3 + 2, none⟩ (.int .u32 0)) w.heap.size (zk ws (k + 1)) [.slice A na ca, .slice B nb cb, .slice C nc cc] from by
          have h := Blk.setCell RB1.out (k * 3 + 2) (.int .u32 0)
          rw [List.set_append_left _ _ (by rw [w3C_len, zk_len, HW6.out]; omega), w3C_set _ k hkz, zk_get hkl, zk_succ hkl] at h
          exact h)
        have HBn := Lib.hid (show Below w.heap.size w (wr.setCell ⟨w.heap.size, k * 3 + 2, none⟩ (.int .u32 0)) from HB.out.trans ((Keep.setCells (S := fun j => j = w.heap.size) (w := wr) (w' := wr) (vs := [.int .u32 0]) Keep.refl rfl _).below HB.out.size (fun j hj e => by omega)))
        have HVn := Lib.hid (show ∀ i (hi : i < ws.length), i < k + 1 → ws[i].2.1 ≤ 1073741824 from fun i hi h => by
          by_cases e : i = k
          · subst e; rw [← HX.out]; dsimp only; omega
          · exact HV.out i hi (by omega))
        have HI := Lib.hid hlt
        clear HX hlt hkl hkz
        go_wp2
        go_roundw
        case rel => exact ⟨k + 1, by have := HI.out; omega, by go_num, HVn, RBn, HBn⟩
        case measure => have := HI.out; simp [intOf]; omega
    · obtain rfl : k = 6 := by omega
      clear hlt hk
      have HVW := Lib.hid (verb_of HW6.out HOK.out (fun i hi => HV.out i hi (by rw [← HW6.out]; exact hi)))
      have RBZ := Lib.hid (show Blk wr w.heap.size 41 (wC (ws.map p2) ++ [.slice A na ca, .slice B nb cb, .slice C nc cc]) from by rw [← zk_all HW6.out]; exact RB1.out)
      have HW2 := Lib.hid (show (ws.map p2).length = 6 by rw [List.length_map]; exact HW6.out)
      obtain ⟨c18, c19, c20⟩ := RB.tail RB1.out (by rw [zk_len]; exact HW6.out)
      obtain ⟨wz, rfl⟩ : ∃ wz : World, wz = wr := ⟨_, rfl⟩
      clear RB1 HV HOK HW6
      have MA := mk_sw HW2.out la
      have MB := mk_sw MA.2 lb
      have MC := mk_sw MB.2 lc
      obtain ⟨w0, hw0⟩ : ∃ w0, w0 = ws.map p2 := ⟨_, rfl⟩
      rw [← hw0] at MA MB MC HVW RBZ HW2
      have K1 := Lib.hid (fun W (h : Below w.heap.size w W) => made_any A na ca la w0 W (HA.out.below h) HW2.out (fun i h0 h1 => by have := HVW.out i h0 h1; omega) HNA.out HCA.out HPA.out)
      obtain ⟨sa, hsa⟩ : ∃ sa, sa = mk w0 la := ⟨_, rfl⟩
      rw [← hsa] at MA MB MC K1
      obtain ⟨a, x⟩ := sa
      dsimp only at MA MB MC K1
      have HVX := Lib.hid (MA.1.bound HVW.out)
      have K2 := Lib.hid (fun W (h : Below w.heap.size w W) => made_any B nb cb lb x W (HBB.out.below h) MA.2 (fun i h0 h1 => by have := HVX.out i h0 h1; omega) HNB.out HCB.out HPB.out)
      obtain ⟨sb, hsb⟩ : ∃ sb, sb = mk x lb := ⟨_, rfl⟩
      rw [← hsb] at MB MC K2
      obtain ⟨b, y⟩ := sb
      dsimp only at MB MC K2
      have HVY := Lib.hid (MB.1.bound HVX.out)
      have K3 := Lib.hid (fun W (h : Below w.heap.size w W) => made_any C nc cc lc y W (HC.out.below h) MB.2 (fun i h0 h1 => by have := HVY.out i h0 h1; omega) HNC.out HCC.out HPC.out)
      obtain ⟨sc, hsc⟩ : ∃ sc, sc = mk y lc := ⟨_, rfl⟩
      rw [← hsc] at MC K3
      obtain ⟨c, z⟩ := sc
      dsimp only at MC K3
      have SA := Lib.hid MA.1
      have SB := Lib.hid MB.1
      have SC := Lib.hid MC.1
      have LX := Lib.hid MA.2
      have LY := Lib.hid MB.2
      have LZ := Lib.hid MC.2
      clear MA MB MC hw0 hsa hsb hsc HA HBB HC HPA HPB HPC HNA HNB HNC HCA HCB HCC
      go_wp2_with (with_reducible refine at_load_ (t := 38) ?_; refine Hid.out ?_)
      refine Lib.hid ?_
      refine wb_load_in rfl _ rfl HW2.out w.heap.size rfl RBZ.out ?_
      go_wp2_with fail
      refine (K1.out _ HB.out).mono ?_
      rintro e wm1 ⟨v1, rfl, ho, hb⟩
      have HB_1 := Lib.hid (HB.out.trans (hb.mono HB.out.size))
      have RBZ_1 := Lib.hid (RBZ.out.below hb)
      clear HB RBZ
      obtain ⟨A1, c1, rfl, he, hcc, hAA⟩ := own_slice ho
      have HE1 := Lib.hid he
      have HCC1 := Lib.hid hcc
      have HAA1 := Lib.hid hAA
      clear ho he hcc hAA hb
      clear c18 c19 c20
      go_wp2_with (with_reducible refine at_alloc_ (t := 38) ?_; refine Hid.out ?_)
      refine Lib.hid ?_
      refine wb_alloc rfl rfl ?_
      intro waq5 hx hb hs
      have P0 := Lib.hid hx
      have HBA := Lib.hid hb
      clear hx hb hs
      go_wp2_with (with_reducible refine at_store_ (t := 38) ?_; refine Hid.out ?_)
      refine Lib.hid ?_
      refine wb_store rfl (.tmp 5) (.tmp 60) rfl rfl LX.out rfl wm1.heap.size rfl rfl P0.out ?_
      intro wsq5 hx hk hs
      have hbs := below_nk HBA.out hk
      have HB_2 := Lib.hid (HB_1.out.trans (hbs.mono HB_1.out.size))
      have RBZ_2 := Lib.hid (RBZ_1.out.below hbs)
      have HE1_2 := Lib.hid (HE1.out.below hbs)
      clear HB_1 RBZ_1 HE1
      have Pq5 := Lib.hid hx
      clear hx hk hs hbs P0 HBA
      generalize wm1.heap.size = q5 at *
      obtain ⟨_, c19, _⟩ := rz_tail RBZ_2.out HW2.out
      go_wp2_with (with_reducible refine at_load_ (t := 38) ?_; refine Hid.out ?_)
      refine Lib.hid ?_
      refine wb_load rfl _ rfl LX.out q5 rfl Pq5.out ?_
      go_wp2_with fail
      refine (K2.out _ HB_2.out).mono ?_
      rintro e wm2 ⟨v2, rfl, ho, hb⟩
      have HB_3 := Lib.hid (HB_2.out.trans (hb.mono HB_2.out.size))
      have RBZ_3 := Lib.hid (RBZ_2.out.below hb)
      have HE1_3 := Lib.hid (HE1_2.out.below hb)
      have Pq5_3 := Lib.hid (Pq5.out.below hb)
      clear HB_2 RBZ_2 HE1_2 Pq5
      obtain ⟨A2, c2, rfl, he, hcc, hAA⟩ := own_slice ho
      have HE2 := Lib.hid he
      have HCC2 := Lib.hid hcc
      have HAA2 := Lib.hid hAA
      clear ho he hcc hAA hb
      clear c19
      go_wp2_with (with_reducible refine at_alloc_ (t := 38) ?_; refine Hid.out ?_)
      refine Lib.hid ?_
      refine wb_alloc rfl rfl ?_
      intro waq7 hx hb hs
      have P0 := Lib.hid hx
      have HBA := Lib.hid hb
      clear hx hb hs
      go_wp2_with (with_reducible refine at_store_ (t := 38) ?_; refine Hid.out ?_)
      refine Lib.hid ?_
      refine wb_store rfl (.tmp 7) (.tmp 67) rfl rfl LY.out rfl wm2.heap.size rfl rfl P0.out ?_
      intro wsq7 hx hk hs
      have hbs := below_nk HBA.out hk
      have HB_4 := Lib.hid (HB_3.out.trans (hbs.mono HB_3.out.size))
      have RBZ_4 := Lib.hid (RBZ_3.out.below hbs)
      have HE1_4 := Lib.hid (HE1_3.out.below hbs)
      have Pq5_4 := Lib.hid (Pq5_3.out.below hbs)
      have HE2_4 := Lib.hid (HE2.out.below hbs)
      clear HB_3 RBZ_3 HE1_3 Pq5_3 HE2
      have Pq7 := Lib.hid hx
      clear hx hk hs hbs P0 HBA
      generalize wm2.heap.size = q7 at *
      obtain ⟨_, _, c20⟩ := rz_tail RBZ_4.out HW2.out
      go_wp2_with (with_reducible refine at_load_ (t := 38) ?_; refine Hid.out ?_)
      refine Lib.hid ?_
      refine wb_load rfl _ rfl LY.out q7 rfl Pq7.out ?_
      go_wp2_with fail
      refine (K3.out _ HB_4.out).mono ?_
      rintro e wm3 ⟨v3, rfl, ho, hb⟩
      have HB_5 := Lib.hid (HB_4.out.trans (hb.mono HB_4.out.size))
      have RBZ_5 := Lib.hid (RBZ_4.out.below hb)
      have HE1_5 := Lib.hid (HE1_4.out.below hb)
      have Pq5_5 := Lib.hid (Pq5_4.out.below hb)
      have HE2_5 := Lib.hid (HE2_4.out.below hb)
      have Pq7_5 := Lib.hid (Pq7.out.below hb)
      clear HB_4 RBZ_4 HE1_4 Pq5_4 HE2_4 Pq7
      obtain ⟨A3, c3, rfl, he, hcc, hAA⟩ := own_slice ho
      have HE3 := Lib.hid he
      have HCC3 := Lib.hid hcc
      have HAA3 := Lib.hid hAA
      clear ho he hcc hAA hb
      clear c20
      go_wp2_with (with_reducible refine at_alloc_ (t := 38) ?_; refine Hid.out ?_)
      refine Lib.hid ?_
      refine wb_alloc rfl rfl ?_
      intro waq9 hx hb hs
      have P0 := Lib.hid hx
      have HBA := Lib.hid hb
      clear hx hb hs
      go_wp2_with (with_reducible refine at_store_ (t := 38) ?_; refine Hid.out ?_)
      refine Lib.hid ?_
      refine wb_store rfl (.tmp 9) (.tmp 74) rfl rfl LZ.out rfl wm3.heap.size rfl rfl P0.out ?_
      intro wsq9 hx hk hs
      have hbs := below_nk HBA.out hk
      have HB_6 := Lib.hid (HB_5.out.trans (hbs.mono HB_5.out.size))
      have RBZ_6 := Lib.hid (RBZ_5.out.below hbs)
      have HE1_6 := Lib.hid (HE1_5.out.below hbs)
      have Pq5_6 := Lib.hid (Pq5_5.out.below hbs)
      have HE2_6 := Lib.hid (HE2_5.out.below hbs)
      have Pq7_6 := Lib.hid (Pq7_5.out.below hbs)
      have HE3_6 := Lib.hid (HE3.out.below hbs)
      clear HB_5 RBZ_5 HE1_5 Pq5_5 HE2_5 Pq7_5 HE3
      have Pq9 := Lib.hid hx
      clear hx hk hs hbs P0 HBA
      generalize wm3.heap.size = q9 at *
      have LN1 := Lib.hid (show a.length ≤ 6 from locs_len 6 a SA.out.dst SA.out.loc)
      have LN2 := Lib.hid (show b.length ≤ 6 from locs_len 6 b SB.out.dst SB.out.loc)
      have LN3 := Lib.hid (show c.length ≤ 6 from locs_len 6 c SC.out.dst SC.out.loc)
      have OK1 := Lib.hid (SA.out.ok HVW.out (by omega))
      have OK2 := Lib.hid (SB.out.ok HVX.out (by omega))
      have OK3 := Lib.hid (SC.out.ok HVY.out (by omega))
      have E12 := Lib.hid (SA.out.mrg SB.out HVW.out (by omega))
      have E23 := Lib.hid (SB.out.mrg SC.out HVX.out (by omega))
      obtain ⟨ab, hab⟩ : ∃ ab, ab = srt Ent.loc (rGo a b) := ⟨_, rfl⟩
      obtain ⟨bc, hbc⟩ : ∃ bc, bc = srt Ent.loc (rGo b c) := ⟨_, rfl⟩
      rw [← hab] at E12
      rw [← hbc] at E23
      have HAB := Lib.hid hab
      have HBC := Lib.hid hbc
      have LN4 := Lib.hid (show ab.length ≤ 6 by rw [hab, srt_len]; exact E12.out.2)
      have LN5 := Lib.hid (show bc.length ≤ 6 by rw [hbc, srt_len]; exact E23.out.2)
      have OK4 := Lib.hid (show ∀ e ∈ ab, EntOk e by rw [hab]; exact ents_srt (ents_go SA.out.dst SB.out.dst OK1.out OK2.out))
      have OK5 := Lib.hid (show ∀ e ∈ bc, EntOk e by rw [hbc]; exact ents_srt (ents_go SB.out.dst SC.out.dst OK2.out OK3.out))
      clear hab hbc
      have K4 := Lib.hid (merge_any A1 A2 a.length c1 b.length c2 a b wsq9 HE1_6.out HE2_6.out OK1.out OK2.out (by have := LN1.out; omega) HCC1.out (by have := LN2.out; omega) HCC2.out HAA1.out HAA2.out)
      rw [E12.out.1] at K4
      dsimp only at K4
      go_wp2_with fail
      refine K4.out.mono ?_
      rintro e wm4 ⟨v4, rfl, ho, hb⟩
      have HB_7 := Lib.hid (HB_6.out.trans (hb.mono HB_6.out.size))
      have RBZ_7 := Lib.hid (RBZ_6.out.below hb)
      have HE1_7 := Lib.hid (HE1_6.out.below hb)
      have Pq5_7 := Lib.hid (Pq5_6.out.below hb)
      have HE2_7 := Lib.hid (HE2_6.out.below hb)
      have Pq7_7 := Lib.hid (Pq7_6.out.below hb)
      have HE3_7 := Lib.hid (HE3_6.out.below hb)
      have Pq9_7 := Lib.hid (Pq9.out.below hb)
      clear HB_6 RBZ_6 HE1_6 Pq5_6 HE2_6 Pq7_6 HE3_6 Pq9
      obtain ⟨A4, c4, rfl, he, hcc, hAA⟩ := own_slice ho
      have HE4 := Lib.hid he
      have HCC4 := Lib.hid hcc
      have HAA4 := Lib.hid hAA
      clear ho he hcc hAA hb K4
      have K5 := Lib.hid (merge_any A2 A3 b.length c2 c.length c3 b c wm4 HE2_7.out HE3_7.out OK2.out OK3.out (by have := LN2.out; omega) HCC2.out (by have := LN3.out; omega) HCC3.out HAA2.out HAA3.out)
      rw [E23.out.1] at K5
      dsimp only at K5
      go_wp2_with fail
      refine K5.out.mono ?_
      rintro e wm5 ⟨v5, rfl, ho, hb⟩
      have HB_8 := Lib.hid (HB_7.out.trans (hb.mono HB_7.out.size))
      have RBZ_8 := Lib.hid (RBZ_7.out.below hb)
      have HE1_8 := Lib.hid (HE1_7.out.below hb)
      have Pq5_8 := Lib.hid (Pq5_7.out.below hb)
      have HE2_8 := Lib.hid (HE2_7.out.below hb)
      have Pq7_8 := Lib.hid (Pq7_7.out.below hb)
      have HE3_8 := Lib.hid (HE3_7.out.below hb)
      have Pq9_8 := Lib.hid (Pq9_7.out.below hb)
      have HE4_8 := Lib.hid (HE4.out.below hb)
      clear HB_7 RBZ_7 HE1_7 Pq5_7 HE2_7 Pq7_7 HE3_7 Pq9_7 HE4
      obtain ⟨A5, c5, rfl, he, hcc, hAA⟩ := own_slice ho
      have HE5 := Lib.hid he
      have HCC5 := Lib.hid hcc
      have HAA5 := Lib.hid hAA
      clear ho he hcc hAA hb K5
      obtain ⟨R, hR⟩ : ∃ R, R = mrg ab c := ⟨_, rfl⟩
      have HR := Lib.hid hR
      obtain ⟨all, g⟩ := R
      have K6 := Lib.hid (merge_any A4 A3 ab.length c4 c.length c3 ab c wm5 HE4_8.out HE3_8.out OK4.out OK3.out (by have := LN4.out; omega) HCC4.out (by have := LN3.out; omega) HCC3.out HAA4.out HAA3.out)
      rw [← hR] at K6
      dsimp only at K6
      go_wp2_with fail
      refine K6.out.mono ?_
      rintro e wm6 ⟨v6, rfl, ho, hb⟩
      have HB_9 := Lib.hid (HB_8.out.trans (hb.mono HB_8.out.size))
      have RBZ_9 := Lib.hid (RBZ_8.out.below hb)
      have HE1_9 := Lib.hid (HE1_8.out.below hb)
      have Pq5_9 := Lib.hid (Pq5_8.out.below hb)
      have HE2_9 := Lib.hid (HE2_8.out.below hb)
      have Pq7_9 := Lib.hid (Pq7_8.out.below hb)
      have HE3_9 := Lib.hid (HE3_8.out.below hb)
      have Pq9_9 := Lib.hid (Pq9_8.out.below hb)
      have HE4_9 := Lib.hid (HE4_8.out.below hb)
      have HE5_9 := Lib.hid (HE5.out.below hb)
      clear HB_8 RBZ_8 HE1_8 Pq5_8 HE2_8 Pq7_8 HE3_8 Pq9_8 HE4_8 HE5
      obtain ⟨A6, c6, rfl, he, hcc, hAA⟩ := own_slice ho
      have HE6 := Lib.hid he
      have HCC6 := Lib.hid hcc
      have HAA6 := Lib.hid hAA
      clear ho he hcc hAA hb K6
      clear hR
      have HB6 := Lib.hid (Below.refl wm6.heap.size wm6)
      go_wp2
      go_loopw [16, 101] (fun qq ii wr => ∃ (i : Nat) (q : Bool), i ≤ a.length ∧ ii = .int .i64 i ∧ qq = .bool q ∧ Hid (q = twice (a.take i) b) ∧ Hid (Below wm6.heap.size wm6 wr)) (fun qq ii _ => a.length - (intOf ii).toNat)
      case atStart => exact ⟨0, false, Nat.zero_le _, rfl, rfl, Lib.hid rfl, HB6⟩
      case round =>
        clear HB6
        obtain ⟨i, q, hi, rfl, rfl, HQ, HX⟩ := hrel
        obtain ⟨wo, rfl⟩ : ∃ wo : World, wo = wr := ⟨_, rfl⟩
        by_cases hlt : i < a.length
        · obtain ⟨pe, be, oe, hpe, rfl, hbe, hSe, hce⟩ := (HE1_9.out.below HX.out).at i hlt
          obtain ⟨f0, f1, f2, f3, f4, f5⟩ := hce wo (Below.refl _ _)
          have HT := Lib.hid (twice_take (b := b) hpe)
          have HI := Lib.hid hlt
          have hi1 : (i : Int) < (a.length : Int) := by omega
          have hai : (a.length : Int) ≤ 6 := by have := LN1.out; omega
          have hac : (a.length : Int) ≤ (c1 : Int) := by have := HCC1.out; omega
          have HXP := Lib.hid (HX.out.alloc HX.out.size (entO pe))
          have HPB := Lib.hid (show EBox (wo.alloc (entO pe)) wo.heap.size pe from EBox.new)
          have HWP := Lib.hid (Below.refl (wo.alloc (entO pe)).heap.size (wo.alloc (entO pe)))
          obtain ⟨e0, e1, e2, e3, e4, e5⟩ := pe
          dsimp only at f0 f1 f2 f3 f4 f5 HT
          unfold entO at HXP HPB HWP
          dsimp only at HXP HPB HWP
          clear hlt hpe hbe hSe hce
          go_wp2
          clear f0 f1 f2 f3 f4 f5
          generalize hwp : wo.alloc (.cells #[.int .i64 e0, .int .i64 e1, .int .u32 e2, .int .u32 e3, .int .i64 e4, .bool e5] 46) = wp at *
          clear hwp
          go_loopw [16, 107] (fun qq jj w2 => ∃ (j : Nat) (q2 : Bool), j ≤ b.length ∧ jj = .int .i64 j ∧ qq = .bool q2 ∧ Hid (q2 = (q || (b.take j).any fun y => e0 == y.loc && e5 && y.wr)) ∧ Hid (Below wp.heap.size wp w2)) (fun qq jj _ => b.length - (intOf jj).toNat)
          case atStart => exact ⟨0, q, Nat.zero_le _, rfl, rfl, Lib.hid (by simp), HWP⟩
          case round =>
            clear HWP
            obtain ⟨j, q2, hj, rfl, rfl, HQ2, HY⟩ := hrel
            obtain ⟨w2, rfl⟩ : ∃ w2 : World, w2 = wr := ⟨_, rfl⟩
            have HZ := Lib.hid (HXP.out.trans (HY.out.mono HXP.out.size))
            have hpb := HPB.out.below HY.out
            obtain ⟨h0, _, _, _, _, h5⟩ := hpb.all
            dsimp only at h0 h5
            by_cases hjl : j < b.length
            · obtain ⟨y, by', oy, hy, rfl, hby, hSy, hcy⟩ := (HE2_9.out.below HZ.out).at j hjl
              obtain ⟨f0, f1, f2, f3, f4, f5⟩ := hcy w2 (Below.refl _ _)
              have HT2 := Lib.hid (any_take1 (f := fun y => e0 == y.loc && e5 && y.wr) hy)
              have HJ := Lib.hid hjl
              have hj1 : (j : Int) < (b.length : Int) := by omega
              have hbi : (b.length : Int) ≤ 6 := by have := LN2.out; omega
              have hbc : (b.length : Int) ≤ (c2 : Int) := by have := HCC2.out; omega
              have HYP := Lib.hid (HY.out.alloc HY.out.size (entO y))
              have g0 := fun o => (hpb.alloc o).all.1
              have g5 := fun o => (hpb.alloc o).all.2.2.2.2.2
              dsimp only at g0 g5
              obtain ⟨y0, y1, y2, y3, y4, y5⟩ := y
              dsimp only at f0 f1 f2 f3 f4 f5 HT2
              unfold entO at HYP
              dsimp only at HYP
              clear hjl hy hby hSy hcy hpb
              cases q2 with
              | true =>
                go_wp2
                go_roundw
                case rel => exact ⟨j + 1, true, by have := HJ.out; omega, by go_num, rfl, Lib.hid (by rw [HT2.out, ← Bool.or_assoc, ← HQ2.out]; rfl), HYP⟩
                case measure => have := HJ.out; simp [intOf]; omega
              | false =>
                cases hk0 : (e0 == y0) with
                | false =>
                  have HN := Lib.hid (show false = (q || (b.take (j + 1)).any fun y => e0 == y.loc && e5 && y.wr) by rw [HT2.out, ← Bool.or_assoc, ← HQ2.out, hk0]; rfl)
                  go_wp2
                  go_roundw
                  case rel => exact ⟨j + 1, false, by have := HJ.out; omega, by go_num, rfl, HN, HYP⟩
                  case measure => have := HJ.out; simp [intOf]; omega
                | true =>
                  cases e5 with
                  | false =>
                    have HN := Lib.hid (show false = (q || (b.take (j + 1)).any fun y => e0 == y.loc && false && y.wr) by rw [HT2.out, ← Bool.or_assoc, ← HQ2.out, hk0]; rfl)
                    go_wp2
                    go_roundw
                    case rel => exact ⟨j + 1, false, by have := HJ.out; omega, by go_num, rfl, HN, HYP⟩
                    case measure => have := HJ.out; simp [intOf]; omega
                  | true =>
                    have HN := Lib.hid (show y5 = (q || (b.take (j + 1)).any fun y => e0 == y.loc && true && y.wr) by rw [HT2.out, ← Bool.or_assoc, ← HQ2.out, hk0]; simp)
                    go_wp2
                    go_roundw
                    case rel => exact ⟨j + 1, y5, by have := HJ.out; omega, by go_num, rfl, HN, HYP⟩
                    case measure => have := HJ.out; simp [intOf]; omega
            · obtain rfl : j = b.length := by omega
              have hkn : ¬ ((b.length : Int) < (b.length : Int)) := by omega
              have HTN := Lib.hid (show q2 = twice (a.take (i + 1)) b by
                rw [HT.out, ← HQ.out, HQ2.out, List.take_length])
              clear hpb h0 h5
              go_wp2
              go_roundw
              case rel => exact ⟨i + 1, q2, by have := HI.out; omega, by go_num, rfl, HTN, HZ⟩
              case measure => have := HI.out; simp [intOf]; omega
        · obtain rfl : i = a.length := by omega
          have hkn : ¬ ((a.length : Int) < (a.length : Int)) := by omega
          rw [List.take_length] at HQ
          have HB_10 := Lib.hid (HB_9.out.trans (HX.out.mono HB_9.out.size))
          have RBZ_10 := Lib.hid (RBZ_9.out.below HX.out)
          have HE1_10 := Lib.hid (HE1_9.out.below HX.out)
          have Pq5_10 := Lib.hid (Pq5_9.out.below HX.out)
          have HE2_10 := Lib.hid (HE2_9.out.below HX.out)
          have Pq7_10 := Lib.hid (Pq7_9.out.below HX.out)
          have HE3_10 := Lib.hid (HE3_9.out.below HX.out)
          have Pq9_10 := Lib.hid (Pq9_9.out.below HX.out)
          have HE4_10 := Lib.hid (HE4_9.out.below HX.out)
          have HE5_10 := Lib.hid (HE5_9.out.below HX.out)
          have HE6_10 := Lib.hid (HE6.out.below HX.out)
          clear HB_9 RBZ_9 HE1_9 Pq5_9 HE2_9 Pq7_9 HE3_9 Pq9_9 HE4_9 HE5_9 HE6
          cases q with
          | true =>
            go_wp2_with fail
            refine (AW.out _ HB_10.out).mono ?_
            rintro e w8 ⟨rfl, hb⟩
            have HB8 := Lib.hid (HB_10.out.trans (hb.mono HB_10.out.size))
            clear hb
            go_wp2
            go_ret
            exact ⟨rfl, HB8.out⟩
          | false =>
            have SAB := Lib.hid (show Sw w0 ab y from by rw [HAB.out]; exact (SA.out.go SB.out HQ.out.symm).srt)
            have EALL := Lib.hid (SAB.out.mrg SC.out HVW.out (by omega))
            have hRa : all = srt Ent.loc (rGo ab c) ∧ g = 0 := by
              have h := HR.out.trans EALL.out.1
              injection h with h1 h2
              exact ⟨h1, h2⟩
            obtain ⟨hall, rfl⟩ := hRa
            have HALL := Lib.hid hall
            have LN6 := Lib.hid (show all.length ≤ 6 by rw [hall, srt_len]; exact EALL.out.2)
            have hoa := SAB.out.all SC.out HVW.out (by omega)
            rw [← hall] at hoa
            have HOA := Lib.hid hoa.1
            have HCK := Lib.hid hoa.2
            have OK6 := Lib.hid (show ∀ e ∈ all, EntOk e by rw [hall]; exact ents_srt (ents_go SAB.out.dst SC.out.dst OK4.out OK3.out))
            clear hoa hall
            obtain ⟨R7, hR7⟩ : ∃ R7, R7 = mrg a bc := ⟨_, rfl⟩
            have HR7 := Lib.hid (show R7.2 = 0 → R7.1 = all from fun h => by
              rw [HALL.out, HAB.out, hR7, HBC.out]
              rw [hR7, HBC.out] at h
              exact mrg_assoc SA.out.dst SB.out.dst SC.out.dst h)
            obtain ⟨oth, h7⟩ := R7
            dsimp only at HR7
            have K7 := Lib.hid (merge_any A1 A5 a.length c1 bc.length c5 a bc wo HE1_10.out HE5_10.out OK1.out OK5.out (by have := LN1.out; omega) HCC1.out (by have := LN5.out; omega) HCC5.out HAA1.out HAA5.out)
            rw [← hR7] at K7
            dsimp only at K7
            go_wp2_with fail
            refine K7.out.mono ?_
            rintro e wm7 ⟨v7, rfl, ho, hb⟩
            have HB_11 := Lib.hid (HB_10.out.trans (hb.mono HB_10.out.size))
            have RBZ_11 := Lib.hid (RBZ_10.out.below hb)
            have HE1_11 := Lib.hid (HE1_10.out.below hb)
            have Pq5_11 := Lib.hid (Pq5_10.out.below hb)
            have HE2_11 := Lib.hid (HE2_10.out.below hb)
            have Pq7_11 := Lib.hid (Pq7_10.out.below hb)
            have HE3_11 := Lib.hid (HE3_10.out.below hb)
            have Pq9_11 := Lib.hid (Pq9_10.out.below hb)
            have HE4_11 := Lib.hid (HE4_10.out.below hb)
            have HE5_11 := Lib.hid (HE5_10.out.below hb)
            have HE6_11 := Lib.hid (HE6_10.out.below hb)
            clear HB_10 RBZ_10 HE1_10 Pq5_10 HE2_10 Pq7_10 HE3_10 Pq9_10 HE4_10 HE5_10 HE6_10
            obtain ⟨A7, c7, rfl, he, hcc, hAA⟩ := own_slice ho
            have HE7 := Lib.hid he
            have HCC7 := Lib.hid hcc
            have HAA7 := Lib.hid hAA
            clear ho he hcc hAA hb K7
            clear hR7
            by_cases hal : all.length = 0
            · have hli : ¬ (0 : Int) < (all.length : Int) := by omega
              have HZL := Lib.hid hal
              clear hal
              by_cases h70 : h7 = 0
              · subst h70
                obtain rfl := HR7.out rfl
                have KA := Lib.hid (alike_any A6 A7 oth.length c6 oth.length c7 oth oth wm7 HE6_11.out HE7.out (by have := LN6.out; omega) (by have := LN6.out; omega) HCC6.out HCC7.out)
                rw [eqE_self] at KA
                go_wp2_with fail
                refine KA.out.mono ?_
                rintro e wk ⟨rfl, hb⟩
                have HB_12 := Lib.hid (HB_11.out.trans (hb.mono HB_11.out.size))
                have RBZ_12 := Lib.hid (RBZ_11.out.below hb)
                have HE1_12 := Lib.hid (HE1_11.out.below hb)
                have Pq5_12 := Lib.hid (Pq5_11.out.below hb)
                have HE2_12 := Lib.hid (HE2_11.out.below hb)
                have Pq7_12 := Lib.hid (Pq7_11.out.below hb)
                have HE3_12 := Lib.hid (HE3_11.out.below hb)
                have Pq9_12 := Lib.hid (Pq9_11.out.below hb)
                have HE4_12 := Lib.hid (HE4_11.out.below hb)
                have HE5_12 := Lib.hid (HE5_11.out.below hb)
                have HE6_12 := Lib.hid (HE6_11.out.below hb)
                have HE7_12 := Lib.hid (HE7.out.below hb)
                clear HB_11 RBZ_11 HE1_11 Pq5_11 HE2_11 Pq7_11 HE3_11 Pq9_11 HE4_11 HE5_11 HE6_11 HE7
                clear hb KA
                have HBL := Lib.hid (Below.refl wk.heap.size wk)
                go_wp2
                go_loopw [159] (fun ii wr => ∃ i : Nat, i ≤ oth.length ∧ ii = .int .i64 i ∧ Hid (Below wk.heap.size wk wr)) (fun ii _ => oth.length - (intOf ii).toNat)
                case atStart => exact ⟨0, Nat.zero_le _, rfl, HBL⟩
                case round =>
                  clear HBL
                  obtain ⟨i, hi, rfl, HX4⟩ := hrel
                  obtain ⟨w4, rfl⟩ : ∃ w4 : World, w4 = wr := ⟨_, rfl⟩
                  by_cases hlt : i < oth.length
                  · exact absurd hlt (by have := HZL.out; omega)
                  · obtain rfl : i = oth.length := by omega
                    have hkn : ¬ ((oth.length : Int) < (oth.length : Int)) := by omega
                    have HBE := Lib.hid (HB_12.out.trans (HX4.out.mono HB_12.out.size))
                    go_wp2_with fail
                    refine (AW.out _ HBE.out).mono ?_
                    rintro e w5 ⟨rfl, hb⟩
                    have HBF := Lib.hid (HBE.out.trans (hb.mono HBE.out.size))
                    clear hb
                    go_wp2
                    go_ret
                    exact ⟨rfl, HBF.out⟩
              · have h7b : (h7 == 0) = false := beq_eq_false_iff_ne.2 h70
                clear h70
                have HBL := Lib.hid (Below.refl wm7.heap.size wm7)
                go_wp2
                go_loopw [159] (fun ii wr => ∃ i : Nat, i ≤ all.length ∧ ii = .int .i64 i ∧ Hid (Below wm7.heap.size wm7 wr)) (fun ii _ => all.length - (intOf ii).toNat)
                case atStart => exact ⟨0, Nat.zero_le _, rfl, HBL⟩
                case round =>
                  clear HBL
                  obtain ⟨i, hi, rfl, HX4⟩ := hrel
                  obtain ⟨w4, rfl⟩ : ∃ w4 : World, w4 = wr := ⟨_, rfl⟩
                  by_cases hlt : i < all.length
                  · exact absurd hlt (by have := HZL.out; omega)
                  · obtain rfl : i = all.length := by omega
                    have hkn : ¬ ((all.length : Int) < (all.length : Int)) := by omega
                    have HBE := Lib.hid (HB_11.out.trans (HX4.out.mono HB_11.out.size))
                    go_wp2_with fail
                    refine (AW.out _ HBE.out).mono ?_
                    rintro e w5 ⟨rfl, hb⟩
                    have HBF := Lib.hid (HBE.out.trans (hb.mono HBE.out.size))
                    clear hb
                    go_wp2
                    go_ret
                    exact ⟨rfl, HBF.out⟩
            · have hli : (0 : Int) < (all.length : Int) := by omega
              have HCK2 := Lib.hid (show chk all = 0 by have h := HCK.out; unfold chk0 at h; rwa [if_neg hal] at h)
              clear hal
              have KC := Lib.hid (check_any A6 all.length c6 all wm7 HE6_11.out OK6.out (by have := LN6.out; omega) HCC6.out)
              rw [HCK2.out] at KC
              go_wp2_with fail
              refine KC.out.mono ?_
              rintro e wc ⟨rfl, hb⟩
              have HB_12 := Lib.hid (HB_11.out.trans (hb.mono HB_11.out.size))
              have RBZ_12 := Lib.hid (RBZ_11.out.below hb)
              have HE1_12 := Lib.hid (HE1_11.out.below hb)
              have Pq5_12 := Lib.hid (Pq5_11.out.below hb)
              have HE2_12 := Lib.hid (HE2_11.out.below hb)
              have Pq7_12 := Lib.hid (Pq7_11.out.below hb)
              have HE3_12 := Lib.hid (HE3_11.out.below hb)
              have Pq9_12 := Lib.hid (Pq9_11.out.below hb)
              have HE4_12 := Lib.hid (HE4_11.out.below hb)
              have HE5_12 := Lib.hid (HE5_11.out.below hb)
              have HE6_12 := Lib.hid (HE6_11.out.below hb)
              have HE7_12 := Lib.hid (HE7.out.below hb)
              clear HB_11 RBZ_11 HE1_11 Pq5_11 HE2_11 Pq7_11 HE3_11 Pq9_11 HE4_11 HE5_11 HE6_11 HE7
              clear hb KC
              by_cases h70 : h7 = 0
              · subst h70
                obtain rfl := HR7.out rfl
                have KA := Lib.hid (alike_any A6 A7 oth.length c6 oth.length c7 oth oth wc HE6_12.out HE7_12.out (by have := LN6.out; omega) (by have := LN6.out; omega) HCC6.out HCC7.out)
                rw [eqE_self] at KA
                go_wp2_with fail
                refine KA.out.mono ?_
                rintro e wk ⟨rfl, hb⟩
                have HB_13 := Lib.hid (HB_12.out.trans (hb.mono HB_12.out.size))
                have RBZ_13 := Lib.hid (RBZ_12.out.below hb)
                have HE1_13 := Lib.hid (HE1_12.out.below hb)
                have Pq5_13 := Lib.hid (Pq5_12.out.below hb)
                have HE2_13 := Lib.hid (HE2_12.out.below hb)
                have Pq7_13 := Lib.hid (Pq7_12.out.below hb)
                have HE3_13 := Lib.hid (HE3_12.out.below hb)
                have Pq9_13 := Lib.hid (Pq9_12.out.below hb)
                have HE4_13 := Lib.hid (HE4_12.out.below hb)
                have HE5_13 := Lib.hid (HE5_12.out.below hb)
                have HE6_13 := Lib.hid (HE6_12.out.below hb)
                have HE7_13 := Lib.hid (HE7_12.out.below hb)
                clear HB_12 RBZ_12 HE1_12 Pq5_12 HE2_12 Pq7_12 HE3_12 Pq9_12 HE4_12 HE5_12 HE6_12 HE7_12
                clear hb KA
                have HBL := Lib.hid (Below.refl wk.heap.size wk)
                go_wp2
                go_loopw [159] (fun ii wr => ∃ i : Nat, i ≤ oth.length ∧ ii = .int .i64 i ∧ Hid (Below wk.heap.size wk wr)) (fun ii _ => oth.length - (intOf ii).toNat)
                case atStart => exact ⟨0, Nat.zero_le _, rfl, HBL⟩
                case round =>
                  clear HBL
                  obtain ⟨i, hi, rfl, HX4⟩ := hrel
                  obtain ⟨w4, rfl⟩ : ∃ w4 : World, w4 = wr := ⟨_, rfl⟩
                  by_cases hlt : i < oth.length
                  · obtain ⟨pe, be, oe, hpe, rfl, hbe, hSe, hce⟩ := (HE6_13.out.below HX4.out).at i hlt
                    obtain ⟨f0, f1, f2, f3, f4, f5⟩ := hce w4 (Below.refl _ _)
                    obtain ⟨l0, l1, l2, l3, l4, l5, l6⟩ := HOA.out pe (List.mem_of_getElem? hpe)
                    have HI := Lib.hid hlt
                    have hi1 : (i : Int) < (oth.length : Int) := by omega
                    have hai : (oth.length : Int) ≤ 6 := by have := LN6.out; omega
                    have hac : (oth.length : Int) ≤ (c6 : Int) := by have := HCC6.out; omega
                    have HXP := Lib.hid (HX4.out.alloc HX4.out.size (entO pe))
                    have HPB := Lib.hid (show EBox (w4.alloc (entO pe)) w4.heap.size pe from EBox.new)
                    have HWP := Lib.hid (show Below w4.heap.size w4 (w4.alloc (entO pe)) from (Below.refl _ _).alloc (Nat.le_refl _) _)
                    have RZ4 := Lib.hid ((RBZ_13.out.below HX4.out).below HWP.out)
                    have PZ4 := Lib.hid ((Pq9_13.out.below HX4.out).below HWP.out)
                    obtain ⟨e0, e1, e2, e3, e4, e5⟩ := pe
                    dsimp only at f0 f1 f2 f3 f4 f5 l0 l1 l2 l3 l4 l5 l6
                    unfold entO at HXP HPB HWP RZ4 PZ4
                    dsimp only at HXP HPB HWP RZ4 PZ4
                    have HLS := Lib.hid (And.intro l0 (And.intro l1 (And.intro l2 (And.intro l3 (And.intro l4 (And.intro l5 l6))))))
                    clear l0 l1 l2 l3 l4 l5 l6 hlt hpe hbe hSe hce
                    go_wp2_with fail
                    clear f0 f1 f2 f3 f4 f5
                    generalize w4.alloc (.cells #[.int .i64 e0, .int .i64 e1, .int .u32 e2, .int .u32 e3, .int .i64 e4, .bool e5] 46) = wp at *
                    obtain ⟨l0, l1, l2, l3, l4, l5, l6⟩ := HLS.out
                    clear HLS
                    obtain ⟨n, rfl⟩ : ∃ n : Nat, e0 = (n : Int) := ⟨e0.toNat, by omega⟩
                    have hn6 : n < 6 := by omega
                    rw [wG_at (show n < w0.length by rw [HW2.out]; exact hn6)] at l2 l3 l6
                    rw [wG_at (show n < z.length by rw [LZ.out]; exact hn6)] at l5 l6
                    obtain ⟨x0, x1, x2⟩ := rz_word RZ4.out (show n < w0.length by rw [HW2.out]; exact hn6)
                    obtain ⟨z0, z1, z2⟩ := WB.word PZ4.out (show n < z.length by rw [LZ.out]; exact hn6)
                    rw [← l2] at x0
                    rw [← l3] at x1
                    rw [← l5] at z0
                    subst l4
                    have hn6i : (n : Int) < 6 := by omega
                    have l6' : e5 = true → e2 < (z[n]'(by rw [LZ.out]; exact hn6)).2 := fun h => by have := l6 h; rw [← l3] at this; exact this
                    obtain ⟨zn, hzn⟩ : ∃ zn, zn = (z[n]'(by rw [LZ.out]; exact hn6)).2 := ⟨_, rfl⟩
                    rw [← hzn] at z1 l6'
                    have HL6 := Lib.hid l6'
                    clear l0 l1 l2 l3 l5 l6 l6' hzn hn6
                    obtain ⟨h0, h1, h2, h3, h4, h5⟩ := HPB.out.all
                    dsimp only at h0 h1 h2 h3 h4 h5
                    have HDW := Lib.hid (fun k => below_drew_n HXP.out k)
                    cases e5 with
                    | true =>
                      have hzl := HL6.out rfl
                      go_wp2_with fail
                      go_quiet (fail)
                      go_wp2
                      go_roundw
                      case rel => exact ⟨i + 1, by have := HI.out; omega, by go_num, Lib.hid (HDW.out _)⟩
                      case measure => have := HI.out; simp [intOf]; omega
                    | false =>
                      go_wp2_with fail
                      go_quiet (fail)
                      go_wp2
                      go_roundw
                      case rel => exact ⟨i + 1, by have := HI.out; omega, by go_num, Lib.hid (HDW.out _)⟩
                      case measure => have := HI.out; simp [intOf]; omega
                  · obtain rfl : i = oth.length := by omega
                    have hkn : ¬ ((oth.length : Int) < (oth.length : Int)) := by omega
                    have HBE := Lib.hid (HB_13.out.trans (HX4.out.mono HB_13.out.size))
                    go_wp2_with fail
                    refine (AW.out _ HBE.out).mono ?_
                    rintro e w5 ⟨rfl, hb⟩
                    have HBF := Lib.hid (HBE.out.trans (hb.mono HBE.out.size))
                    clear hb
                    go_wp2
                    go_ret
                    exact ⟨rfl, HBF.out⟩
              · have h7b : (h7 == 0) = false := beq_eq_false_iff_ne.2 h70
                clear h70
                have HBL := Lib.hid (Below.refl wc.heap.size wc)
                go_wp2
                go_loopw [159] (fun ii wr => ∃ i : Nat, i ≤ all.length ∧ ii = .int .i64 i ∧ Hid (Below wc.heap.size wc wr)) (fun ii _ => all.length - (intOf ii).toNat)
                case atStart => exact ⟨0, Nat.zero_le _, rfl, HBL⟩
                case round =>
                  clear HBL
                  obtain ⟨i, hi, rfl, HX4⟩ := hrel
                  obtain ⟨w4, rfl⟩ : ∃ w4 : World, w4 = wr := ⟨_, rfl⟩
                  by_cases hlt : i < all.length
                  · obtain ⟨pe, be, oe, hpe, rfl, hbe, hSe, hce⟩ := (HE6_12.out.below HX4.out).at i hlt
                    obtain ⟨f0, f1, f2, f3, f4, f5⟩ := hce w4 (Below.refl _ _)
                    obtain ⟨l0, l1, l2, l3, l4, l5, l6⟩ := HOA.out pe (List.mem_of_getElem? hpe)
                    have HI := Lib.hid hlt
                    have hi1 : (i : Int) < (all.length : Int) := by omega
                    have hai : (all.length : Int) ≤ 6 := by have := LN6.out; omega
                    have hac : (all.length : Int) ≤ (c6 : Int) := by have := HCC6.out; omega
                    have HXP := Lib.hid (HX4.out.alloc HX4.out.size (entO pe))
                    have HPB := Lib.hid (show EBox (w4.alloc (entO pe)) w4.heap.size pe from EBox.new)
                    have HWP := Lib.hid (show Below w4.heap.size w4 (w4.alloc (entO pe)) from (Below.refl _ _).alloc (Nat.le_refl _) _)
                    have RZ4 := Lib.hid ((RBZ_12.out.below HX4.out).below HWP.out)
                    have PZ4 := Lib.hid ((Pq9_12.out.below HX4.out).below HWP.out)
                    obtain ⟨e0, e1, e2, e3, e4, e5⟩ := pe
                    dsimp only at f0 f1 f2 f3 f4 f5 l0 l1 l2 l3 l4 l5 l6
                    unfold entO at HXP HPB HWP RZ4 PZ4
                    dsimp only at HXP HPB HWP RZ4 PZ4
                    have HLS := Lib.hid (And.intro l0 (And.intro l1 (And.intro l2 (And.intro l3 (And.intro l4 (And.intro l5 l6))))))
                    clear l0 l1 l2 l3 l4 l5 l6 hlt hpe hbe hSe hce
                    go_wp2_with fail
                    clear f0 f1 f2 f3 f4 f5
                    generalize w4.alloc (.cells #[.int .i64 e0, .int .i64 e1, .int .u32 e2, .int .u32 e3, .int .i64 e4, .bool e5] 46) = wp at *
                    obtain ⟨l0, l1, l2, l3, l4, l5, l6⟩ := HLS.out
                    clear HLS
                    obtain ⟨n, rfl⟩ : ∃ n : Nat, e0 = (n : Int) := ⟨e0.toNat, by omega⟩
                    have hn6 : n < 6 := by omega
                    rw [wG_at (show n < w0.length by rw [HW2.out]; exact hn6)] at l2 l3 l6
                    rw [wG_at (show n < z.length by rw [LZ.out]; exact hn6)] at l5 l6
                    obtain ⟨x0, x1, x2⟩ := rz_word RZ4.out (show n < w0.length by rw [HW2.out]; exact hn6)
                    obtain ⟨z0, z1, z2⟩ := WB.word PZ4.out (show n < z.length by rw [LZ.out]; exact hn6)
                    rw [← l2] at x0
                    rw [← l3] at x1
                    rw [← l5] at z0
                    subst l4
                    have hn6i : (n : Int) < 6 := by omega
                    have l6' : e5 = true → e2 < (z[n]'(by rw [LZ.out]; exact hn6)).2 := fun h => by have := l6 h; rw [← l3] at this; exact this
                    obtain ⟨zn, hzn⟩ : ∃ zn, zn = (z[n]'(by rw [LZ.out]; exact hn6)).2 := ⟨_, rfl⟩
                    rw [← hzn] at z1 l6'
                    have HL6 := Lib.hid l6'
                    clear l0 l1 l2 l3 l5 l6 l6' hzn hn6
                    obtain ⟨h0, h1, h2, h3, h4, h5⟩ := HPB.out.all
                    dsimp only at h0 h1 h2 h3 h4 h5
                    have HDW := Lib.hid (fun k => below_drew_n HXP.out k)
                    cases e5 with
                    | true =>
                      have hzl := HL6.out rfl
                      go_wp2_with fail
                      go_quiet (fail)
                      go_wp2
                      go_roundw
                      case rel => exact ⟨i + 1, by have := HI.out; omega, by go_num, Lib.hid (HDW.out _)⟩
                      case measure => have := HI.out; simp [intOf]; omega
                    | false =>
                      go_wp2_with fail
                      go_quiet (fail)
                      go_wp2
                      go_roundw
                      case rel => exact ⟨i + 1, by have := HI.out; omega, by go_num, Lib.hid (HDW.out _)⟩
                      case measure => have := HI.out; simp [intOf]; omega
                  · obtain rfl : i = all.length := by omega
                    have hkn : ¬ ((all.length : Int) < (all.length : Int)) := by omega
                    have HBE := Lib.hid (HB_12.out.trans (HX4.out.mono HB_12.out.size))
                    go_wp2_with fail
                    refine (AW.out _ HBE.out).mono ?_
                    rintro e w5 ⟨rfl, hb⟩
                    have HBF := Lib.hid (HBE.out.trans (hb.mono HBE.out.size))
                    clear hb
                    go_wp2
                    go_ret
                    exact ⟨rfl, HBF.out⟩
end Go.Proofs.YtilapnejkdgomaaDoor
