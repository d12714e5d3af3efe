/- The walk of the law's awake: true. No condition. -/
import Derived.Test.YtpejhgkcofilmaaSnapI
set_option linter.unusedVariables false
namespace Go.Proofs.Ytpejhgkcofilmaa
open Go.RowKit

theorem IsMap.setRow {w : World} {S : Nat → Prop} {v : Value} {f : Int → Option Value} {q : Nat} (h : IsMap w S v f) (hq : ¬ S q) (cs : Array Value) : IsMap (w.setRow q cs) S v f :=
  h.keep (by simp) fun b _ hS => setRow_other w q b cs (by rintro rfl; exact hq hS)
theorem LMap.setRow {w : World} {S : Nat → Prop} {f : Int → Option Value} {g : Int → Option (List (Int × Int))} {q : Nat} (h : LMap w S f g) (hq : ¬ S q) (cs : Array Value) : LMap (w.setRow q cs) S f g :=
  h.keepB (by simp) fun b _ hS => setRow_other w q b cs (by rintro rfl; exact hq hS)
def Bf : Nat → Bool := fun _ => false
def T0 : Nat → Int := fun _ => 0
/-- The lists behind the two writes of the example. -/
def snL : List Ent := [⟨0, 0, 0, 0, 5, true⟩, ⟨1, 0, 0, 0, 6, true⟩]
def noG : Int → Option (List (Int × Int)) := fun _ => none
def noW : Int → Option Int := fun _ => none
def noF : Int → Option Value := fun _ => none
theorem noMap (w : World) (S : Nat → Prop) : IsMap w S (.map none) noF := .inl ⟨rfl, rfl⟩
theorem noLMap (w : World) (S : Nat → Prop) : LMap w S noF noG := fun _ => .inl ⟨rfl, rfl⟩
theorem noWMap (w : World) (S : Nat → Prop) : IsMap w S (.map none) (wmap noW) := .inl ⟨rfl, rfl⟩
theorem listOf_no (c k : Int) : (listOf c noG k).length ≤ 1 := by
  unfold listOf
  split
  · exact Nat.le_refl _
  · exact Nat.zero_le _
theorem sn_wrong : wrongE 2 noG noW snL = 0 := by decide
theorem sn_add : ∀ e ∈ snL, e.wr = true → addE (listOf 2 noG e.loc) (0 + 1) = 0 := by
  intro e he _
  unfold snL at he
  simp only [List.mem_cons, List.not_mem_nil, or_false] at he
  rcases he with rfl | rfl <;> decide
theorem sn_ok : ∀ e ∈ snL, EntOk e := by
  intro e he
  unfold snL at he
  simp only [List.mem_cons, List.not_mem_nil, or_false] at he
  rcases he with rfl | rfl <;> (unfold EntOk; dsimp only; omega)
theorem sn_some : ∃ i, accG 2 0 noG snL i ≠ none := ⟨0, by decide⟩
def snG : Int → Option (List (Int × Int)) := fun k => (accG 2 0 noG snL k).or (noG k)
theorem sn_list : listOf 2 snG 1 = [(0, 0), (1, 6)] := by decide

set_option maxRecDepth 100000 in
set_option maxHeartbeats 12800000 in
theorem awake_snap (w : World) :
    Calls Try.prog 28 #[] w fun e w' => e = .returned (.bool true) ∧ Below w.heap.size w w' := by
  have C1 := Lib.hid (snew_ok 2 w (by decide) (by decide))
  go_enter Try.func28, Try.ntmps28
  go_wp2_with fail
  refine C1.out.mono ?_
  rintro e w1 ⟨rfl, hb1⟩
  have HW1 := Lib.hid hb1
  clear hb1 C1
  go_wp2_with (first
    | (with_reducible refine at_alloc_ (t := 57) ?_; refine wpList_alloc_mine rfl 57 rfl _ rfl (stoZ 0) stoZ_zero rfl ?_)
    | (with_reducible refine at_store_ (t := 57) ?_; refine Hid.out ?_))
  refine Lib.hid ?_
  refine put_sto (c := 2) (n := 0) (b1 := none) (b2 := none) (B := Bf) (T := T0) rfl (.tmp 1) (.tmp 15) rfl rfl w1.heap.size rfl rfl (heap_alloc_new _ _) rfl ?_
  rw [setRow_alloc]
  have P := Lib.hid (heap_alloc_new w1 (.cells (stoCells 2 0 (.map none) (.map none) Bf T0) 57))
  have HW2 := Lib.hid (HW1.out.alloc HW1.out.size (.cells (stoCells 2 0 (.map none) (.map none) Bf T0) 57))
  have HQ := Lib.hid (show w.heap.size ≤ w1.heap.size from HW1.out.size)
  generalize w1.alloc (.cells (stoCells 2 0 (.map none) (.map none) Bf T0) 57) = w2 at *
  generalize w1.heap.size = q at *
  clear HW1
  go_wp2_with (with_reducible refine at_load_ (t := 57) ?_; refine get_sto rfl _ rfl q rfl P.out ?_)
  refine (open_ok 2 0 none none Bf T0 0 (by decide) (fun j h => absurd h (by omega)) rfl w2).mono ?_
  rintro e w3 ⟨rfl, hb3⟩
  have P3 := Lib.hid ((hb3.block q (lt_of_block P.out)).trans P.out)
  have HW3 := Lib.hid (HW2.out.trans (hb3.mono HW2.out.size))
  clear hb3 P HW2
  go_wp2_with (with_reducible refine at_store_ (t := 57) ?_; refine Hid.out ?_)
  refine Lib.hid ?_
  refine put_sto rfl (.tmp 1) (.tmp 20) rfl rfl q rfl rfl P3.out rfl ?_
  have P4 := Lib.hid (setRow_heap w3 q _ (stoCells 2 0 (.map none) (.map none) (updB Bf 0 true) (updT T0 0 0)) _ _ P3.out)
  have HW4 := Lib.hid (below_setRow HW3.out HQ.out (stoCells 2 0 (.map none) (.map none) (updB Bf 0 true) (updT T0 0 0)))
  generalize w3.setRow q (stoCells 2 0 (.map none) (.map none) (updB Bf 0 true) (updT T0 0 0)) = w4 at *
  clear P3 HW3
  go_wp2_with (with_reducible refine at_load_ (t := 57) ?_; refine get_sto rfl _ rfl q rfl P4.out ?_)
  have P5a := Lib.hid ((heap_alloc_old w4 (.cells (flatE snL).toArray 69) (r := q) (lt_of_block P4.out)).trans P4.out)
  have HW5a := Lib.hid (HW4.out.alloc HW4.out.size (.cells (flatE snL).toArray 69))
  have EN := Lib.hid (show Ents (w4.alloc (.cells (flatE snL).toArray 69)) (fun b => b ≠ q) (some ⟨w4.heap.size, 0, none⟩) 2 snL from ⟨rfl, Reads.new w4 (flatE snL).toArray 69 rfl (by have := lt_of_block P4.out; show w4.heap.size ≠ q; omega)⟩)
  have hw5 : w4.alloc (.cells (flatE snL).toArray 69) = w4.alloc (.cells #[.int .i64 0, .int .i64 0, .int .u32 0, .int .u32 0, .int .i64 5, .bool true, .int .i64 1, .int .i64 0, .int .u32 0, .int .u32 0, .int .i64 6, .bool true] 69) := rfl
  rw [← hw5]
  clear hw5
  generalize w4.alloc (.cells (flatE snL).toArray 69) = w5 at *
  have CC0 := (commit_ok (S := fun b => b ≠ q) 2 0 none none (updB Bf 0 true) (updT T0 0 0) noF noG noW (some ⟨w4.heap.size, 0, none⟩) 2 2 snL w5 (fun b hb => by have := lt_of_block P5a.out; omega) (noMap _ _) (noLMap _ _) (noWMap _ _)
    (fun k => Nat.le_trans (listOf_no 2 k) (by omega)) EN.out sn_ok (by omega) (Nat.le_refl _) sn_wrong (by omega) (by omega) sn_add sn_some)
  rw [show (0 : Int) + 1 = 1 from rfl] at CC0
  have CC := Lib.hid CC0
  clear CC0
  refine CC.out.mono ?_
  rintro e w6 ⟨b5, b6, f', rfl, hm, hl, hu, hb6⟩
  have P6 := Lib.hid ((hb6.block q (lt_of_block P5a.out)).trans P5a.out)
  have HW6 := Lib.hid (HW5a.out.trans (hb6.mono HW5a.out.size))
  have M6 := Lib.hid hm
  have L6 := Lib.hid (show LMap w6 (fun b => b ≠ q) f' snG from hl)
  clear CC EN P5a HW5a P4 HW4 hb6 hm hl hu
  go_wp2_with (with_reducible refine at_store_ (t := 57) ?_; refine Hid.out ?_)
  refine Lib.hid ?_
  refine put_sto rfl (.tmp 1) (.tmp 29) rfl rfl q rfl rfl P6.out rfl ?_
  have P7 := Lib.hid (setRow_heap w6 q _ (stoCells 2 1 (.map (some b5)) (.map (some b6)) (updB Bf 0 true) (updT T0 0 0)) _ _ P6.out)
  have HW7 := Lib.hid (below_setRow HW6.out HQ.out (stoCells 2 1 (.map (some b5)) (.map (some b6)) (updB Bf 0 true) (updT T0 0 0)))
  have M7 := Lib.hid (M6.out.setRow (q := q) (by simp) (stoCells 2 1 (.map (some b5)) (.map (some b6)) (updB Bf 0 true) (updT T0 0 0)))
  have L7 := Lib.hid (L6.out.setRow (q := q) (by simp) (stoCells 2 1 (.map (some b5)) (.map (some b6)) (updB Bf 0 true) (updT T0 0 0)))
  generalize w6.setRow q (stoCells 2 1 (.map (some b5)) (.map (some b6)) (updB Bf 0 true) (updT T0 0 0)) = w7 at *
  clear P6 HW6 M6 L6
  go_wp2_with (with_reducible refine at_load_ (t := 57) ?_; refine get_sto rfl _ rfl q rfl P7.out ?_)
  refine (open_ok 2 1 (some b5) (some b6) (updB Bf 0 true) (updT T0 0 0) 1 (by decide) (fun j h => by cases j with | zero => rfl | succ j => omega) rfl w7).mono ?_
  rintro e w8 ⟨rfl, hb8⟩
  have P8 := Lib.hid ((hb8.block q (lt_of_block P7.out)).trans P7.out)
  have HW8 := Lib.hid (HW7.out.trans (hb8.mono HW7.out.size))
  have M8 := Lib.hid (M7.out.below hb8)
  have L8 := Lib.hid (L7.out.below hb8)
  clear hb8 P7 HW7 M7 L7
  go_wp2_with (with_reducible refine at_store_ (t := 57) ?_; refine Hid.out ?_)
  refine Lib.hid ?_
  refine put_sto rfl (.tmp 1) (.tmp 35) rfl rfl q rfl rfl P8.out rfl ?_
  have P9 := Lib.hid (setRow_heap w8 q _ (stoCells 2 1 (.map (some b5)) (.map (some b6)) (updB (updB Bf 0 true) 1 true) (updT (updT T0 0 0) 1 1)) _ _ P8.out)
  have HW9 := Lib.hid (below_setRow HW8.out HQ.out (stoCells 2 1 (.map (some b5)) (.map (some b6)) (updB (updB Bf 0 true) 1 true) (updT (updT T0 0 0) 1 1)))
  have M9 := Lib.hid (M8.out.setRow (q := q) (by simp) (stoCells 2 1 (.map (some b5)) (.map (some b6)) (updB (updB Bf 0 true) 1 true) (updT (updT T0 0 0) 1 1)))
  have L9 := Lib.hid (L8.out.setRow (q := q) (by simp) (stoCells 2 1 (.map (some b5)) (.map (some b6)) (updB (updB Bf 0 true) 1 true) (updT (updT T0 0 0) 1 1)))
  generalize w8.setRow q (stoCells 2 1 (.map (some b5)) (.map (some b6)) (updB (updB Bf 0 true) 1 true) (updT (updT T0 0 0) 1 1)) = w9 at *
  clear P8 HW8 M8 L8
  go_wp2_with (with_reducible refine at_load_ (t := 57) ?_; refine get_sto rfl _ rfl q rfl P9.out ?_)
  have CR := Lib.hid fun (r : Int) (W : World) (hb : Below w9.heap.size w9 W) (hr : isR (updB (updB Bf 0 true) 1 true) r = true) => sread_ok (S := fun b => b ≠ q) 2 1 (some b5) (some b6) (updB (updB Bf 0 true) 1 true) (updT (updT T0 0 0) 1 1) f' snG r 1 W (fun b hb' => by have := lt_of_block P9.out; have := hb.size; omega)
    (M9.out.below hb) (L9.out.below hb) (by rw [sn_list]; simp [Asc]) (by rw [sn_list]; decide) hr (by decide)
  refine (CR.out 1 w9 (Below.refl _ _) (by decide)).mono ?_
  rw [sn_list]
  rintro e w10 ⟨rfl, hb10⟩
  have P10 := Lib.hid ((hb10.block q (lt_of_block P9.out)).trans P9.out)
  have HW10 := Lib.hid hb10
  clear hb10
  go_wp2_with (with_reducible refine at_load_ (t := 57) ?_; refine get_sto rfl _ rfl q rfl P10.out ?_)
  refine (CR.out 2 w10 HW10.out (by decide)).mono ?_
  rw [sn_list]
  rintro e w11 ⟨rfl, hb11⟩
  have HW11 := Lib.hid (HW9.out.trans ((HW10.out.trans (hb11.mono HW10.out.size)).mono HW9.out.size))
  clear hb11
  go_wp2
  go_ret
  exact ⟨rfl, HW11.out⟩
end Go.Proofs.Ytpejhgkcofilmaa
