/- The walks of the chapter's example and of the laws EntryChecks, EntryTexts, EntryMerges, EntrySorts: true. Conditions: the entries' numbers are of their kinds; the table of powers of ten is laid. -/
import Derived.Test.YtilapnejkdgomaaDoorEnE
import Derived.Test.YtilapnejkdgomaaDoorEnH
set_option linter.unusedVariables false
set_option linter.unusedSimpArgs false
namespace Go.Proofs.YtilapnejkdgomaaDoor
open Go.RowKit

theorem own_slice {w : World} {base : Nat} {v : Value} {L : List Ent} (h : OwnE w base v L) : ∃ A c, v = .slice A L.length c ∧ Ents w (fun b => base ≤ b) A L.length L ∧ L.length ≤ c ∧ (A = none → L.length = 0 ∧ c = 0) := by
  obtain ⟨A, n, c, rfl, rfl, hA, hc, hg⟩ := h.slice
  exact ⟨A, c, rfl, Ents.of_own h, hc, hA⟩
theorem ents_box {w : World} (L : List Ent) (cs : Array Value) (hcs : cs.toList = flatE L) : Ents (w.alloc (.cells cs 46)) (fun _ => True) (some ⟨w.heap.size, 0, none⟩) L.length L := by
  refine ⟨rfl, ?_⟩
  have hs : cs.size = L.length * 6 := by rw [← Array.length_toList, hcs, flatE_length]
  have := Reads.new (S := fun _ => True) (size := 6) (n := L.length) w cs 46 hs trivial
  rwa [hcs] at this
theorem bs_toList (l : List UInt8) : (bs l).toList = l := (ByteArray.toList_eq _).trans rfl
def exA : List Ent := [⟨3, 5, 2, 0, 7, true⟩]
def exB : List Ent := [⟨3, 7, 3, 0, 7, false⟩, ⟨1, 0, 0, 0, -1, true⟩]
def exM : List Ent := [⟨1, 0, 0, 0, -1, true⟩, ⟨3, 5, 2, 0, 7, true⟩]
theorem ex_ab : mrg exA exB = (exM, 0) := by decide
theorem ex_ba : mrg exB exA = ([], 14) := by decide
theorem ex_txt : entsT exM = [49, 58, 48, 61, 45, 49, 32, 51, 58, 53, 46, 50, 61, 55] := by
  simp [entsT, entT, exM, Lib.join_cons, Lib.joinTail, txt, kindV, Lib.itoa, dd_small]
theorem ex_knd : knd exM = 3 := by decide
theorem ex_ok : (∀ e ∈ exA, EntOk e) ∧ (∀ e ∈ exB, EntOk e) ∧ (∀ e ∈ exM, EntWf e) := by
  refine ⟨fun e he => ?_, fun e he => ?_, fun e he => ?_⟩ <;> simp only [exA, exB, exM, List.mem_cons, List.mem_nil_iff, or_false] at he <;> (rcases he with rfl | rfl) <;> simp [EntWf, EntOk]

set_option maxRecDepth 100000 in
set_option maxHeartbeats 12800000 in
theorem awake_any (w : World) (hp : Pow w) : Calls Tryd.prog 10 #[] w fun e w' => e = .returned (.bool true) ∧ Below w.heap.size w w' := by
  have HP := Lib.hid hp
  clear hp
  have hb1 : Below w.heap.size w (w.alloc (.cells #[.int .i64 3, .int .i64 5, .int .u32 2, .int .u32 0, .int .i64 7, .bool true] 46)) := (Below.refl _ _).alloc (Nat.le_refl _) _
  have hb2 : Below w.heap.size w ((w.alloc (.cells #[.int .i64 3, .int .i64 5, .int .u32 2, .int .u32 0, .int .i64 7, .bool true] 46)).alloc (.cells #[.int .i64 3, .int .i64 7, .int .u32 3, .int .u32 0, .int .i64 7, .bool false, .int .i64 1, .int .i64 0, .int .u32 0, .int .u32 0, .int .i64 (-1), .bool true] 46)) := hb1.alloc hb1.size _
  have hk : Below (w.alloc (.cells #[.int .i64 3, .int .i64 5, .int .u32 2, .int .u32 0, .int .i64 7, .bool true] 46)).heap.size (w.alloc (.cells #[.int .i64 3, .int .i64 5, .int .u32 2, .int .u32 0, .int .i64 7, .bool true] 46)) ((w.alloc (.cells #[.int .i64 3, .int .i64 5, .int .u32 2, .int .u32 0, .int .i64 7, .bool true] 46)).alloc (.cells #[.int .i64 3, .int .i64 7, .int .u32 3, .int .u32 0, .int .i64 7, .bool false, .int .i64 1, .int .i64 0, .int .u32 0, .int .u32 0, .int .i64 (-1), .bool true] 46)) := (Below.refl _ _).alloc (Nat.le_refl _) _
  have hA : Ents ((w.alloc (.cells #[.int .i64 3, .int .i64 5, .int .u32 2, .int .u32 0, .int .i64 7, .bool true] 46)).alloc (.cells #[.int .i64 3, .int .i64 7, .int .u32 3, .int .u32 0, .int .i64 7, .bool false, .int .i64 1, .int .i64 0, .int .u32 0, .int .u32 0, .int .i64 (-1), .bool true] 46)) (fun _ => True) (some ⟨w.heap.size, 0, none⟩) 1 exA := (ents_box exA _ rfl).below hk
  have hsz : (w.alloc (.cells #[.int .i64 3, .int .i64 5, .int .u32 2, .int .u32 0, .int .i64 7, .bool true] 46)).heap.size = w.heap.size + 1 := by simp
  have hB : Ents ((w.alloc (.cells #[.int .i64 3, .int .i64 5, .int .u32 2, .int .u32 0, .int .i64 7, .bool true] 46)).alloc (.cells #[.int .i64 3, .int .i64 7, .int .u32 3, .int .u32 0, .int .i64 7, .bool false, .int .i64 1, .int .i64 0, .int .u32 0, .int .u32 0, .int .i64 (-1), .bool true] 46)) (fun _ => True) (some ⟨w.heap.size + 1, 0, none⟩) 2 exB := by
    have h := ents_box (w := w.alloc (.cells #[.int .i64 3, .int .i64 5, .int .u32 2, .int .u32 0, .int .i64 7, .bool true] 46)) exB #[.int .i64 3, .int .i64 7, .int .u32 3, .int .u32 0, .int .i64 7, .bool false, .int .i64 1, .int .i64 0, .int .u32 0, .int .u32 0, .int .i64 (-1), .bool true] rfl
    rw [hsz] at h
    exact h
  have C1 := Lib.hid (merge_any (some ⟨w.heap.size, 0, none⟩) (some ⟨w.heap.size + 1, 0, none⟩) 1 1 2 2 exA exB _ hA hB ex_ok.1 ex_ok.2.1 (by omega) (by omega) (by omega) (by omega) (fun h => by cases h) (fun h => by cases h))
  have C2 := Lib.hid (fun W (h : Below ((w.alloc (.cells #[.int .i64 3, .int .i64 5, .int .u32 2, .int .u32 0, .int .i64 7, .bool true] 46)).alloc (.cells #[.int .i64 3, .int .i64 7, .int .u32 3, .int .u32 0, .int .i64 7, .bool false, .int .i64 1, .int .i64 0, .int .u32 0, .int .u32 0, .int .i64 (-1), .bool true] 46)).heap.size ((w.alloc (.cells #[.int .i64 3, .int .i64 5, .int .u32 2, .int .u32 0, .int .i64 7, .bool true] 46)).alloc (.cells #[.int .i64 3, .int .i64 7, .int .u32 3, .int .u32 0, .int .i64 7, .bool false, .int .i64 1, .int .i64 0, .int .u32 0, .int .u32 0, .int .i64 (-1), .bool true] 46)) W) => merge_any (some ⟨w.heap.size + 1, 0, none⟩) (some ⟨w.heap.size, 0, none⟩) 2 2 1 1 exB exA W (hB.below h) (hA.below h) ex_ok.2.1 ex_ok.1 (by omega) (by omega) (by omega) (by omega) (fun h => by cases h) (fun h => by cases h))
  have HB2 := Lib.hid hb2
  rw [ex_ab] at C1
  rw [ex_ba] at C2
  have ht := ex_txt
  have hl : exM.length = 2 := rfl
  have HT := Lib.hid ht
  have HL := Lib.hid hl
  clear hA hB hb1 hb2 hk hsz ht hl
  go_enter Tryd.func10, Tryd.ntmps10
  go_wp2_with fail
  refine C1.out.mono ?_
  rintro e w3 ⟨v3, rfl, ho, hb⟩
  obtain ⟨A3, c3, rfl, he3, hc3, hA3⟩ := own_slice ho
  rw [HL.out] at he3 hc3 hA3
  have HE3 := Lib.hid he3
  have HK3 := Lib.hid hb
  have HB3 := Lib.hid (HB2.out.trans (hb.mono HB2.out.size))
  have C3 := Lib.hid (fun W (h : Below w3.heap.size w3 W) (hp : Pow W) => texts_any A3 2 c3 exM W (he3.below h) ex_ok.2.2 (by omega) hc3 hp)
  have C4 := Lib.hid (fun W (h : Below w3.heap.size w3 W) => kindE_any A3 2 c3 exM W (he3.below h) (by omega))
  rw [HT.out] at C3
  rw [ex_knd] at C4
  clear ho hb he3 hc3 hA3 C1
  rw [HL.out]
  go_wp2_with fail
  refine (C2.out w3 HK3.out).mono ?_
  rintro e w4 ⟨v4, rfl, ho, hb⟩
  have HK4 := Lib.hid hb
  have HB4 := Lib.hid (HB3.out.trans (hb.mono HB3.out.size))
  clear ho hb C2
  go_wp2_with fail
  refine (C3.out w4 HK4.out (HP.out.below HB4.out)).mono ?_
  rintro e w5 ⟨rfl, hb⟩
  have HK5 := Lib.hid (HK4.out.trans (hb.mono HK4.out.size))
  have HB5 := Lib.hid (HB4.out.trans (hb.mono HB4.out.size))
  clear hb C3
  have hbt : (bs [49, 58, 48, 61, 45, 49, 32, 51, 58, 53, 46, 50, 61, 55]).toList = [49, 58, 48, 61, 45, 49, 32, 51, 58, 53, 46, 50, 61, 55] := bs_toList _
  go_wp2_with fail
  refine (C4.out w5 HK5.out).mono ?_
  rintro e w6 ⟨rfl, hb⟩
  have HB6 := Lib.hid (HB5.out.trans (hb.mono HB5.out.size))
  clear hb C4
  go_wp2
  go_ret
  exact ⟨by first | rfl | simp, HB6.out⟩
end Go.Proofs.YtilapnejkdgomaaDoor
