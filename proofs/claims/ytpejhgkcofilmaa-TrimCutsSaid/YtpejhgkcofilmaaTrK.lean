/- The walk of awake, the example of trim's laws. No condition. -/
import Derived.Test.YtpejhgkcofilmaaTrJ
set_option linter.unusedVariables false
namespace Go.Proofs.Ytpejhgkcofilmaa
open Go.RowKit

/-- The acts of the example, laid from block B on. -/
def ex51 (B : Nat) : List TAct := [⟨0, 0, some ⟨B, 0, none⟩, 1, 1, [(0, 5)]⟩, ⟨0, 0, some ⟨B + 1, 0, none⟩, 1, 1, [(0, 6)]⟩, ⟨1, 0, none, 0, 0, []⟩, ⟨0, 0, some ⟨B + 1 + 1, 0, none⟩, 1, 1, [(0, 7)]⟩]
theorem ex51_made (B : Nat) : madeF 2 (ex51 B) = madeF 2 (ex51 0) := rfl
theorem ex_len : (madeF 2 (ex51 0)).2.length = 3 := by decide
theorem ex_good : Good (2 : Nat) (madeF 2 (ex51 0)).1 (madeF 2 (ex51 0)).2 (4 : Nat) := good_made 2 (by decide) (by decide) (ex51 0) 4 (by decide) (by decide)
theorem ex_kept : (madeF 2 (ex51 0)).1.keptN 2048 = 5 := by rw [ex_good.kept (by decide)]; decide
theorem ex_all : (madeF 2 (ex51 0)).1.all.1.keptN 2048 = 3 := by
  rw [kept_few (ex_good.allO (by decide)) 2048 (by decide)]
  show ((madeF 2 (ex51 0)).1.cells ((madeF 2 (ex51 0)).1.locs 2048)).1.keptN 2 = 3
  rw [locs_few ex_good.hO 2048 (by decide)]
  decide
theorem ex_d : (madeF 2 (ex51 0)).1.all.2 = 2 := by rw [ex_good.all_d (by decide), ex_kept, ex_all]; rfl
/-- The example's rows of memory. -/
theorem ex_acts (w : World) : TActs ((((w.alloc (.cells #[.int .i8 0, .int .i8 5] 150)).alloc (.cells #[.int .i8 0, .int .i8 6] 150)).alloc (.cells #[.int .i8 0, .int .i8 7] 150)).alloc
    (.cells #[.int .u8 0, .int .u8 0, .slice (some ⟨w.heap.size, 0, none⟩) 1 1, .int .u8 0, .int .u8 0, .slice (some ⟨w.heap.size + 1, 0, none⟩) 1 1, .int .u8 1, .int .u8 0, .slice none 0 0, .int .u8 0, .int .u8 0, .slice (some ⟨w.heap.size + 1 + 1, 0, none⟩) 1 1] 148))
    (fun _ => True) (some ⟨w.heap.size + 1 + 1 + 1, 0, none⟩) 4 (ex51 w.heap.size) := by
  have r1 := Reads.newAt (S := fun _ => True) (size := 2) (n := 1) w w.heap.size #[.int .i8 0, .int .i8 5] 150 rfl rfl trivial
  have r2 := Reads.newAt (S := fun _ => True) (size := 2) (n := 1) (w.alloc (.cells #[.int .i8 0, .int .i8 5] 150)) (w.heap.size + 1) #[.int .i8 0, .int .i8 6] 150 (by simp) rfl trivial
  have r3 := Reads.newAt (S := fun _ => True) (size := 2) (n := 1) ((w.alloc (.cells #[.int .i8 0, .int .i8 5] 150)).alloc (.cells #[.int .i8 0, .int .i8 6] 150)) (w.heap.size + 1 + 1) #[.int .i8 0, .int .i8 7] 150 (by simp) rfl trivial
  refine ⟨rfl, Reads.newAt _ _ _ _ (by simp) rfl trivial, fun a ha => ?_⟩
  simp only [ex51, List.mem_cons, List.not_mem_nil, or_false] at ha
  rcases ha with rfl | rfl | rfl | rfl
  · exact ⟨⟨⟨by simp, by simp, by simp, by simp⟩, by simp⟩, rfl, ((r1.alloc _).alloc _).alloc _⟩
  · exact ⟨⟨⟨by simp, by simp, by simp, by simp⟩, by simp⟩, rfl, (r2.alloc _).alloc _⟩
  · exact ⟨⟨⟨by simp, by simp, by simp, by simp⟩, by simp⟩, rfl, Reads.none_⟩
  · exact ⟨⟨⟨by simp, by simp, by simp, by simp⟩, by simp⟩, rfl, r3.alloc _⟩

theorem isMin_2 {v : Int} (h : IsMin v ([2] ++ [3])) : v = 2 := by
  have h1 := h.2 2 (by simp)
  have h2 := h.1
  simp at h2
  omega
set_option maxRecDepth 100000 in
set_option maxHeartbeats 12800000 in
theorem awake51_any (w : World) : Calls Try.prog 43 #[] w fun e w' => e = .returned (.bool true) ∧ Below w.heap.size w w' := by
  have CM := made51_any (S := fun _ => True) 2 (some ⟨w.heap.size + 1 + 1 + 1, 0, none⟩) 4 4 (ex51 w.heap.size) _ (by omega) (by omega) (fun _ _ => trivial) (ex_acts w) (by simp [ex51]) (by simp [ex51])
  rw [show ((2 : Nat) : Int) = 2 from rfl, ex51_made, ex_len] at CM
  have CMM := Lib.hid CM
  have hk := ex_kept
  have ha := ex_all
  have hd := ex_d
  have HO := Lib.hid (ex_good.okS (by decide))
  have HO2 := Lib.hid (show (madeF 2 (ex51 0)).1.all.1.Few from (Sn.cells_ok (ex_good.okS (by decide)) _ _ 0).1.2)
  clear CM
  generalize (madeF 2 (ex51 0)).1 = s at *
  have HK := Lib.hid hk
  have HA := Lib.hid ha
  have HD := Lib.hid hd
  clear hk ha hd
  go_enter Try.func43, Try.ntmps43
  go_wp2_with fail
  refine CMM.out.mono ?_
  rintro e w2 ⟨b1, b2, A', c', rfl, hm, _, hb⟩
  have HB := Lib.hid (((((Below.refl w.heap.size w).alloc (Nat.le_refl _) _).alloc (by simp) _ |>.alloc (by simp; omega) _).alloc (by simp; omega) _).trans (hb.mono (by simp; omega)))
  have HM := Lib.hid (hm.more (S' := fun b => b ≠ w2.heap.size) fun b hb _ => by omega)
  clear hm hb CMM
  go_wp2_with (with_reducible refine at_alloc_ (t := 57) ?_; refine alloc_at (S := fun _ => False) rfl rfl ?_)
  intro w3 hp hb hz
  have P3 := Lib.hid hp
  have HB3 := Lib.hid (HB.out.trans (hb.mono HB.out.size))
  have HM3 := Lib.hid (HM.out.below hb)
  have HZ3 := Lib.hid (show w.heap.size ≤ w2.heap.size from HB.out.size)
  generalize w2.heap.size = p at *
  clear hp hb hz HB HM
  go_wp2_with (with_reducible refine at_store_ (t := 57) ?_; refine Hid.out ?_)
  refine Lib.hid ?_
  refine put_at rfl (.tmp 1) (.tmp 19) rfl rfl p rfl rfl P3.out HM3.out (fun h => h rfl) ?_
  intro w4 hp ht
  have P4 := Lib.hid hp
  have HB4 := Lib.hid (ht.below HB3.out HZ3.out)
  clear hp ht P3 HM3 HB3
  go_wp2_with (with_reducible refine at_load_ (t := 57) ?_; refine get_at rfl _ rfl p rfl P4.out ?_)
  intro b1 b2 hm
  have HM := Lib.hid hm
  clear hm
  try simp only [Act.put, List.setIfInBounds_toArray, List.set_cons_zero, List.set_cons_succ]
  go_wp2_with fail
  refine (all_any (S := fun b => b ≠ p) w4 (fun b hb => by have := P4.out.lt; omega) HM.out HO.out).mono ?_
  rintro e w5 ⟨b5, b6, rfl, hm, hb⟩
  have P5 := Lib.hid ((P4.out.below hb).more (S' := fun b => b ≠ p ∧ b ≠ w5.heap.size) fun b hb h => ⟨h, by omega⟩)
  have HB5 := Lib.hid (HB4.out.trans (hb.mono HB4.out.size))
  have HM5 := Lib.hid (hm.more (S' := fun b => b ≠ w5.heap.size) fun b hb _ => by omega)
  clear hm hb P4 HB4 HM
  go_wp2_with (with_reducible refine at_alloc_ (t := 57) ?_; refine alloc_at (S := fun _ => False) rfl rfl ?_)
  intro w6 hp hb hz
  have P6 := Lib.hid (P5.out.below hb)
  have R6 := Lib.hid hp
  have HB6 := Lib.hid (HB5.out.trans (hb.mono HB5.out.size))
  have HM6 := Lib.hid (HM5.out.below hb)
  have HZ6 := Lib.hid (And.intro (show w.heap.size ≤ w5.heap.size from HB5.out.size) (show p < w5.heap.size from P5.out.lt))
  generalize w5.heap.size = r at *
  clear hp hb hz P5 HB5 HM5
  go_wp2_with (with_reducible refine at_store_ (t := 57) ?_; refine Hid.out ?_)
  refine Lib.hid ?_
  refine put_at rfl (.tmp 4) (.tmp 25) rfl rfl r rfl rfl R6.out HM6.out (fun h => h rfl) ?_
  intro w7 hp ht
  have P7 := Lib.hid (ht.at P6.out (by have := HZ6.out; omega) (fun h => h.2 rfl))
  have R7 := Lib.hid hp
  have HB7 := Lib.hid (ht.below HB6.out HZ6.out.1)
  clear hp ht P6 R6 HB6 HM6
  have HLS := Lib.hid fun (W : World) => least_any (S := fun _ => True) (some ⟨W.heap.size, 0, none⟩) 1 1 [2] 3 (W.alloc (.cells #[.int .i64 2] 2)) (fun _ _ => trivial) ⟨rfl, Reads.new W #[.int .i64 2] 2 rfl trivial⟩ (Nat.le_refl _) (by simp) (by simp)
  have HBD := Lib.hid fun (W : World) => bound_any 2 1 W (by omega) (by omega)
  go_wp2_with fail
  refine (HLS.out w7).mono ?_
  rintro e w8 ⟨v, rfl, hv, hb⟩
  obtain rfl := isMin_2 hv
  have hbb : Below w7.heap.size w7 w8 := ((Below.refl _ _).alloc (Nat.le_refl _) _).trans (hb.mono (by simp))
  have P8 := Lib.hid (P7.out.below hbb)
  have R8 := Lib.hid (R7.out.below hbb)
  have HB8 := Lib.hid (HB7.out.trans (hbb.mono HB7.out.size))
  clear hb hbb hv P7 R7 HB7 HLS
  go_wp2_with (with_reducible refine at_load_ (t := 57) ?_; refine Hid.out ?_)
  refine Lib.hid ?_
  refine get_at_g (by kernel_rfl) (.tmp 1) rfl p rfl P8.out ?_
  intro b1 b2 hm
  have HM := Lib.hid hm
  clear hm
  try simp only [Act.put, List.setIfInBounds_toArray, List.set_cons_zero, List.set_cons_succ]
  go_wp2_with fail
  refine (kept_any (S := fun b => b ≠ p ∧ b ≠ r) w8 (fun b hb => ⟨by have := P8.out.lt; omega, by have := R8.out.lt; omega⟩) HM.out HO.out.2).mono ?_
  rintro e w9 ⟨rfl, hb⟩
  have R9 := Lib.hid (R8.out.below hb)
  have HB9 := Lib.hid (HB8.out.trans (hb.mono HB8.out.size))
  have hk := HK.out
  have hd := HD.out
  clear hb P8 R8 HB8 HM
  go_wp2_with (with_reducible refine at_load_ (t := 57) ?_; refine Hid.out ?_)
  refine Lib.hid ?_
  refine get_at_g (by kernel_rfl) (.tmp 4) rfl r rfl R9.out ?_
  intro b1 b2 hm
  have HM := Lib.hid hm
  clear hm
  try simp only [Act.put, List.setIfInBounds_toArray, List.set_cons_zero, List.set_cons_succ]
  go_wp2_with fail
  refine (kept_any (S := fun b => b ≠ r) w9 (fun b hb => by have := R9.out.lt; omega) HM.out HO2.out).mono ?_
  rintro e w10 ⟨rfl, hb⟩
  have HB10 := Lib.hid (HB9.out.trans (hb.mono HB9.out.size))
  have ha := HA.out
  clear hb R9 HB9 HM
  go_wp2_with fail
  refine (HBD.out w10).mono ?_
  rintro e w11 ⟨rfl, rfl⟩
  go_wp2
  go_ret
  exact ⟨rfl, HB10.out⟩
end Go.Proofs.Ytpejhgkcofilmaa
