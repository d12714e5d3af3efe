/- The stack's nodes in the words: what it is for them to hold a stack; push and pop keep it. No condition. The stack's Push, Pop and Walk over a space whose words hold a stack. Conditions: less than 128 nodes, at most 70000 writes. The walk of the stack's Walk over a space whose words hold a stack. Conditions: at most 70000 writes. The walk of speedStack. Conditions: at most 20 values. The walk of speedStack. Conditions: at most 20 values. -/
import Derived.Test.YtkloaopjlbinpaaGreatTeA
import Derived.Test.YtkloaopjlbinpaaGreatTeE
import Derived.Test.YtkloaopjlbinpaaGreatTeN
set_option linter.unusedVariables false
set_option linter.unusedSimpArgs false
namespace Go.Proofs.YtkloaopjlbinpaaGreat

def adr (n : Nat) : Int := 96 + 8 * (n : Int)
/-- The nodes from the address a on. -/
def Chain (V : Int → Int) : List Nat → Int → Prop
  | [], a => a = 0
  | n :: ns, a => a = adr n ∧ Chain V ns (V (adr n))
theorem Chain.frame {V V' : Int → Int} : ∀ {ns : List Nat} {a : Int}, Chain V ns a → (∀ n ∈ ns, V' (adr n) = V (adr n)) → Chain V' ns a
  | [], _, h, _ => h
  | n :: ns, _, h, k => ⟨h.1, by rw [k n List.mem_cons_self]; exact h.2.frame fun m hm => k m (List.mem_cons_of_mem _ hm)⟩
/-- The words hold the stack l, its top first: the nodes ns, the free nodes fs, nh handed out. -/
structure Stk (V : Int → Int) (l : List Int) (ns fs : List Nat) (nh : Nat) : Prop where
  nd : (ns ++ fs).Nodup
  lt : ∀ n ∈ ns ++ fs, n < nh
  cnt : ns.length + fs.length ≤ nh
  le : nh ≤ 128
  h2 : V 2 = nh
  top : Chain V ns (V 16)
  free : Chain V fs (V 1)
  vals : ns.map (fun n => V (adr n + 1)) = l
  held : V 23 = l.length
def StkI (V : Int → Int) (l : List Int) (nh : Nat) : Prop := ∃ ns fs, Stk V l ns fs nh
theorem stk_zero {V : Int → Int} (h : ∀ k, V k = 0) : StkI V [] 0 := ⟨[], [], by simp, by simp, by simp, by omega, h 2, h 16, h 1, rfl, h 23⟩
theorem StkI.len {V : Int → Int} {l : List Int} {nh : Nat} (h : StkI V l nh) : l.length ≤ nh ∧ nh ≤ 128 := by
  obtain ⟨ns, fs, h⟩ := h
  rw [← h.vals, List.length_map]
  exact ⟨by have := h.cnt; omega, h.le⟩
section
variable {V V' : Int → Int} {l : List Int} {ns fs : List Nat} {nh : Nat} {v : Int}
theorem Stk.push_free {f : Nat} (h : Stk V l ns (f :: fs) nh) (hoth : ∀ b, b ≠ 1 → b ≠ 3 → b ≠ adr f → b ≠ adr f + 1 → b ≠ 16 → b ≠ 17 → b ≠ 23 → V' b = V b)
    (k1 : V' 1 = V (adr f)) (ka : V' (adr f) = V 16) (kv : V' (adr f + 1) = v) (k16 : V' 16 = adr f) (k23 : V' 23 = l.length + 1) : Stk V' (v :: l) (f :: ns) fs nh := by
  have hnd := h.nd
  rw [List.nodup_append] at hnd
  obtain ⟨h1, h2, h3⟩ := hnd
  rw [List.nodup_cons] at h2
  have keep : ∀ n, n ≠ f → V' (adr n) = V (adr n) := fun n hn => hoth _ (by unfold adr; omega) (by unfold adr; omega) (by unfold adr; omega) (by unfold adr; omega) (by unfold adr; omega) (by unfold adr; omega) (by unfold adr; omega)
  have keep1 : ∀ n, n ≠ f → V' (adr n + 1) = V (adr n + 1) := fun n hn => hoth _ (by unfold adr; omega) (by unfold adr; omega) (by unfold adr; omega) (by unfold adr; omega) (by unfold adr; omega) (by unfold adr; omega) (by unfold adr; omega)
  have hf1 : ∀ n ∈ ns, n ≠ f := fun n hn e => h3 n hn f List.mem_cons_self e
  have hf2 : ∀ n ∈ fs, n ≠ f := fun n hn e => h2.1 (e ▸ hn)
  refine ⟨?_, ?_, ?_, h.le, ?_, ?_, ?_, ?_, ?_⟩
  · rw [List.cons_append, List.nodup_cons, List.nodup_append]
    refine ⟨fun hm => ?_, h1, h2.2, fun a ha b hb => h3 a ha b (List.mem_cons_of_mem _ hb)⟩
    rcases List.mem_append.1 hm with hm | hm
    · exact hf1 f hm rfl
    · exact hf2 f hm rfl
  · intro n hn
    refine h.lt n ?_
    rcases List.mem_append.1 hn with hn | hn
    · rcases List.mem_cons.1 hn with rfl | hn
      · exact List.mem_append_right _ List.mem_cons_self
      · exact List.mem_append_left _ hn
    · exact List.mem_append_right _ (List.mem_cons_of_mem _ hn)
  · have := h.cnt; simp only [List.length_cons] at *; omega
  · rw [hoth 2 (by decide) (by decide) (by unfold adr; omega) (by unfold adr; omega) (by decide) (by decide) (by decide)]; exact h.h2
  · exact ⟨k16, by rw [ka]; exact h.top.frame fun n hn => keep n (hf1 n hn)⟩
  · rw [k1]; exact h.free.2.frame fun n hn => keep n (hf2 n hn)
  · rw [List.map_cons, kv, ← h.vals]
    congr 1
    exact List.map_congr_left fun n hn => keep1 n (hf1 n hn)
  · rw [k23]; simp
theorem Stk.push_new (h : Stk V l ns [] nh) (hnh : nh < 128) (hoth : ∀ b, b ≠ 2 → b ≠ adr nh → b ≠ adr nh + 1 → b ≠ 16 → b ≠ 17 → b ≠ 23 → V' b = V b)
    (k2 : V' 2 = (nh : Int) + 1) (ka : V' (adr nh) = V 16) (kv : V' (adr nh + 1) = v) (k16 : V' 16 = adr nh) (k23 : V' 23 = l.length + 1) : Stk V' (v :: l) (nh :: ns) [] (nh + 1) := by
  have hnd := h.nd
  have hlt := h.lt
  rw [List.append_nil] at hnd hlt
  have hf : ∀ n ∈ ns, n ≠ nh := fun n hn e => by have := hlt n hn; omega
  have keep : ∀ n, n ≠ nh → V' (adr n) = V (adr n) := fun n hn => hoth _ (by unfold adr; omega) (by unfold adr; omega) (by unfold adr; omega) (by unfold adr; omega) (by unfold adr; omega) (by unfold adr; omega)
  have keep1 : ∀ n, n ≠ nh → V' (adr n + 1) = V (adr n + 1) := fun n hn => hoth _ (by unfold adr; omega) (by unfold adr; omega) (by unfold adr; omega) (by unfold adr; omega) (by unfold adr; omega) (by unfold adr; omega)
  refine ⟨?_, ?_, ?_, by omega, by rw [k2]; omega, ?_, ?_, ?_, ?_⟩
  · rw [List.append_nil, List.nodup_cons]
    exact ⟨fun hm => hf nh hm rfl, hnd⟩
  · intro n hn
    rw [List.append_nil] at hn
    rcases List.mem_cons.1 hn with rfl | hn
    · omega
    · have := hlt n hn; omega
  · have := h.cnt; simp only [List.length_cons, List.length_nil] at *; omega
  · exact ⟨k16, by rw [ka]; exact h.top.frame fun n hn => keep n (hf n hn)⟩
  · show V' 1 = 0
    rw [hoth 1 (by decide) (by unfold adr; omega) (by unfold adr; omega) (by decide) (by decide) (by decide)]
    exact h.free
  · rw [List.map_cons, kv, ← h.vals]
    congr 1
    exact List.map_congr_left fun n hn => keep1 n (hf n hn)
  · rw [k23]; simp
theorem Stk.pop {n : Nat} (h : Stk V (v :: l) (n :: ns) fs nh) (hoth : ∀ b, b ≠ 1 → b ≠ 3 → b ≠ adr n → b ≠ 16 → b ≠ 17 → b ≠ 23 → V' b = V b)
    (ka : V' (adr n) = V 1) (k1 : V' 1 = adr n) (k16 : V' 16 = V (adr n)) (k23 : V' 23 = l.length) : Stk V' l ns (n :: fs) nh := by
  have hnd := h.nd
  rw [List.cons_append, List.nodup_cons, List.nodup_append] at hnd
  obtain ⟨h0, h1, h2, h3⟩ := hnd
  have hf1 : ∀ m ∈ ns, m ≠ n := fun m hm e => h0 (List.mem_append_left _ (e ▸ hm))
  have hf2 : ∀ m ∈ fs, m ≠ n := fun m hm e => h0 (List.mem_append_right _ (e ▸ hm))
  have keep : ∀ m, m ≠ n → V' (adr m) = V (adr m) := fun m hm => hoth _ (by unfold adr; omega) (by unfold adr; omega) (by unfold adr; omega) (by unfold adr; omega) (by unfold adr; omega) (by unfold adr; omega)
  have keep1 : ∀ m : Nat, V' (adr m + 1) = V (adr m + 1) := fun m => hoth _ (by unfold adr; omega) (by unfold adr; omega) (by unfold adr; omega) (by unfold adr; omega) (by unfold adr; omega) (by unfold adr; omega)
  have hv := h.vals
  rw [List.map_cons] at hv
  injection hv with hv1 hv2
  refine ⟨?_, ?_, ?_, h.le, ?_, ?_, ?_, ?_, k23⟩
  · rw [List.nodup_append, List.nodup_cons]
    refine ⟨h1, ⟨fun hm => hf2 n hm rfl, h2⟩, fun a ha b hb => ?_⟩
    rcases List.mem_cons.1 hb with rfl | hb
    · exact hf1 a ha
    · exact h3 a ha b hb
  · intro m hm
    refine h.lt m ?_
    rcases List.mem_append.1 hm with hm | hm
    · exact List.mem_append_left _ (List.mem_cons_of_mem _ hm)
    · rcases List.mem_cons.1 hm with rfl | hm
      · exact List.mem_append_left _ List.mem_cons_self
      · exact List.mem_append_right _ hm
  · have := h.cnt; simp only [List.length_cons] at *; omega
  · rw [hoth 2 (by decide) (by decide) (by unfold adr; omega) (by decide) (by decide) (by decide)]; exact h.h2
  · rw [k16]; exact h.top.2.frame fun m hm => keep m (hf1 m hm)
  · exact ⟨k1, by rw [ka]; exact h.free.frame fun m hm => keep m (hf2 m hm)⟩
  · rw [← hv2]
    exact List.map_congr_left fun m hm => keep1 m
end
end Go.Proofs.YtkloaopjlbinpaaGreat
namespace Go.Proofs.YtkloaopjlbinpaaGreat
open Go.RowKit Go.MapKept

theorem wrap_len (l : List Int) (nh : Nat) (h : l.length ≤ nh ∧ nh ≤ 128) : IntKind.i64.wrap ((l.length : Int) + 1) = (l.length : Int) + 1 := wrap_i64 _ (by omega) (by omega)
theorem stk_push {X : Nat → Prop} {w : World} {base sb : Nat} {g : Mem} {P : List (Int × Int)} (h : SpE w X base sb g P) (hX : ∀ b, w.heap.size ≤ b → X b) (hn : P.length ≤ 70000) {l : List Int} {nh : Nat} (hs : StkI (cur g P) l nh) (hh : nh < 128) (v : Int) :
    Calls Tryz.prog 26 #[.pointer (some ⟨sb, 0, none⟩), .agg #[.int .i64 1, .int .i64 96, .int .i64 128], .int .i64 16, .int .i64 v] w fun e w' => e = .returned (.int .i64 0) ∧ KX X w w' ∧ ∃ P' nh', SpE w' X base sb g P' ∧ StkI (cur g P') (v :: l) nh' ∧ nh' ≤ nh + 1 ∧ P'.length ≤ P.length + 7 := by
  have hl := hs.len
  have wl := wrap_len l nh hl
  obtain ⟨ns, fs, hs⟩ := hs
  rcases fs with _ | ⟨f, fs⟩
  · refine (push_any h hX (by omega) v (adr nh) [(2, (nh : Int) + 1)] (by simp) ⟨by unfold inM adr; omega, by unfold inM adr; omega⟩ (cur g P 16) (cur g P 17) l.length (by rw [cur_push]; exact if_neg (by decide)) (by rw [cur_push]; exact if_neg (by decide)) (by rw [cur_push]; exact (if_neg (by decide)).trans hs.held) (by unfold adr; omega)
      (fun W Y hS hY => take_new hS hY (by omega) nh hh hs.free hs.h2)).mono fun e w' he => ⟨he.1, he.2.2, _, nh + 1, he.2.1, ⟨nh :: ns, [], ?_⟩, Nat.le_refl _, by simp⟩
    rw [wl, cur_app, cur_push]
    simp only [List.foldl_cons, List.foldl_nil]
    refine hs.push_new hh (fun b b1 b2 b3 b4 b5 b6 => ?_) ?_ ?_ ?_ ?_ ?_ <;> unfold setI
    · rw [if_neg b6, if_neg b5, if_neg b4, if_neg b3, if_neg b2, if_neg b1]
    · rw [if_neg (by decide), if_neg (by decide), if_neg (by decide), if_neg (by unfold adr; omega), if_neg (by unfold adr; omega), if_pos rfl]
    · rw [if_neg (by unfold adr; omega), if_neg (by unfold adr; omega), if_neg (by unfold adr; omega), if_neg (by unfold adr; omega), if_pos rfl]
    · rw [if_neg (by unfold adr; omega), if_neg (by unfold adr; omega), if_neg (by unfold adr; omega), if_pos rfl]
    · rw [if_neg (by decide), if_neg (by decide), if_pos rfl]
    · rw [if_pos rfl]
  · have hf : f < 128 := Nat.lt_of_lt_of_le (hs.lt f (by simp)) hs.le
    refine (push_any h hX (by omega) v (adr f) [(1, cur g P (adr f)), (3, IntKind.i64.wrap (cur g P 3 + -1))] (by simp) ⟨by unfold inM adr; omega, by unfold inM adr; omega⟩ (cur g P 16) (cur g P 17) l.length
      (by rw [cur_app]; simp only [List.foldl_cons, List.foldl_nil]; unfold setI; rw [if_neg (by decide), if_neg (by decide)])
      (by rw [cur_app]; simp only [List.foldl_cons, List.foldl_nil]; unfold setI; rw [if_neg (by decide), if_neg (by decide)])
      (by rw [cur_app]; simp only [List.foldl_cons, List.foldl_nil]; unfold setI; rw [if_neg (by decide), if_neg (by decide)]; exact hs.held) (by unfold adr; omega)
      (fun W Y hS hY => take_free hS hY (by omega) f hf (adr f) (cur g P (adr f)) (cur g P 3) rfl hs.free.1 rfl rfl)).mono fun e w' he => ⟨he.1, he.2.2, _, nh, he.2.1, ⟨f :: ns, fs, ?_⟩, Nat.le_succ _, by simp⟩
    rw [wl, cur_app, cur_app]
    simp only [List.foldl_cons, List.foldl_nil]
    refine hs.push_free (fun b b1 b2 b3 b4 b5 b6 b7 => ?_) ?_ ?_ ?_ ?_ ?_ <;> unfold setI
    · rw [if_neg b7, if_neg b6, if_neg b5, if_neg b4, if_neg b3, if_neg b2, if_neg b1]
    · rw [if_neg (by decide), if_neg (by decide), if_neg (by decide), if_neg (by unfold adr; omega), if_neg (by unfold adr; omega), if_neg (by decide), if_pos rfl]
    · rw [if_neg (by unfold adr; omega), if_neg (by unfold adr; omega), if_neg (by unfold adr; omega), if_neg (by unfold adr; omega), if_pos rfl]
    · rw [if_neg (by unfold adr; omega), if_neg (by unfold adr; omega), if_neg (by unfold adr; omega), if_pos rfl]
    · rw [if_neg (by decide), if_neg (by decide), if_pos rfl]
    · rw [if_pos rfl]
theorem stk_none {X : Nat → Prop} {w : World} {base sb : Nat} {g : Mem} (h : SpE w X base sb g []) (hX : ∀ b, w.heap.size ≤ b → X b) {nh : Nat} (hs : StkI g.val [] nh) :
    Calls Tryz.prog 31 #[.pointer (some ⟨sb, 0, none⟩), .agg #[.int .i64 1, .int .i64 96, .int .i64 128], .int .i64 16] w fun e w' => e = .returned (.tuple #[.int .i64 0, .int .i64 8]) ∧ SpE w' X base sb g [] ∧ KX X w w' := by
  refine pop_empty h hX ?_
  obtain ⟨ns, fs, hs⟩ := hs
  have hv := hs.vals
  rcases ns with _ | ⟨n, ns⟩
  · exact hs.top
  · cases hv
theorem stk_pop {X : Nat → Prop} {w : World} {base sb : Nat} {g : Mem} {P : List (Int × Int)} (h : SpE w X base sb g P) (hX : ∀ b, w.heap.size ≤ b → X b) (hn : P.length ≤ 70000) {l : List Int} {nh : Nat} {v : Int} (hs : StkI (cur g P) (v :: l) nh) :
    Calls Tryz.prog 31 #[.pointer (some ⟨sb, 0, none⟩), .agg #[.int .i64 1, .int .i64 96, .int .i64 128], .int .i64 16] w fun e w' => e = .returned (.tuple #[.int .i64 v, .int .i64 0]) ∧ KX X w w' ∧ ∃ P', SpE w' X base sb g P' ∧ StkI (cur g P') l nh ∧ P'.length ≤ P.length + 7 := by
  have hl := hs.len
  have wl : IntKind.i64.wrap (((v :: l).length : Int) + -1) = (l.length : Int) := by
    rw [List.length_cons] at hl ⊢
    rw [wrap_i64 _ (by omega) (by omega)]
    omega
  obtain ⟨ns, fs, hs⟩ := hs
  rcases ns with _ | ⟨n, ns⟩
  · have := hs.vals; cases this
  · have hf : n < 128 := Nat.lt_of_lt_of_le (hs.lt n (by simp)) hs.le
    have hv := hs.vals
    rw [List.map_cons] at hv
    injection hv with hv1 hv2
    refine (pop_any h hX (by omega) n hf (adr n) (cur g P (adr n)) v (cur g P 1) (cur g P 3) (cur g P 17) (v :: l).length rfl hs.top.1 rfl hv1 rfl rfl rfl hs.held).mono fun e w' he => ⟨he.1, he.2.2, _, he.2.1, ⟨ns, n :: fs, ?_⟩, by simp⟩
    rw [wl, cur_app]
    simp only [List.foldl_cons, List.foldl_nil]
    refine hs.pop (fun b b1 b2 b3 b4 b5 b6 => ?_) ?_ ?_ ?_ ?_ <;> unfold setI
    · rw [if_neg b6, if_neg b5, if_neg b4, if_neg b2, if_neg b1, if_neg b3]
    · rw [if_neg (by unfold adr; omega), if_neg (by unfold adr; omega), if_neg (by unfold adr; omega), if_neg (by unfold adr; omega), if_neg (by unfold adr; omega), if_pos rfl]
    · rw [if_neg (by decide), if_neg (by decide), if_neg (by decide), if_neg (by decide), if_pos rfl]
    · rw [if_neg (by decide), if_neg (by decide), if_pos rfl]
    · rw [if_pos rfl]
end Go.Proofs.YtkloaopjlbinpaaGreat
namespace Go.Proofs.YtkloaopjlbinpaaGreat
open Go.RowKit Go.MapKept

def lenOf (v : Value) : Nat := match v with | .slice _ n _ => n | _ => 0
theorem i64_info3 : (Tryz.prog.info? 2).map (fun i => (i.zero, i.size, i.bytes)) = some (some (.int .i64 0), 1, 8) := by kernel_rfl
theorem i64_info : ∃ i, Tryz.prog.info? 2 = some i ∧ i.zero = some (.int .i64 0) ∧ i.size = 1 ∧ i.bytes = 8 := by
  obtain ⟨i, h1, h2⟩ := Option.map_eq_some_iff.1 i64_info3
  injection h2 with h2 h3
  injection h3 with h3 h4
  exact ⟨i, h1, h2, h3, h4⟩
theorem own_int1 (v : Int) (t : TypeId) (w : World) : Reads (w.alloc (.cells #[.int .i64 v] t)) (fun _ => True) 1 (some ⟨w.heap.size, 0, none⟩) 1 [.int .i64 v] := Reads.new w #[.int .i64 v] t rfl trivial
end Go.Proofs.YtkloaopjlbinpaaGreat
namespace Go.Proofs.YtkloaopjlbinpaaGreat
open Go.RowKit Go.MapKept

set_option maxRecDepth 100000 in
set_option maxHeartbeats 6400000 in
theorem stack_do (w W : World) (sb vb ob : Nat) (A : Option Addr) (n c : Nat) (l : List Int) (hl : l.length = n) (hn : n ≤ 20) (hA : Reads w (fun _ => True) 1 A n (l.map (.int .i64))) (hv : HB 26 w vb #[.slice A n c]) (ho : HB 4 w ob #[.bool true])
    (hb : Below w.heap.size w W) (hs : SpE W (fun b => w.heap.size ≤ b) w.heap.size sb zeroM []) :
    Calls Tryz.prog 25 #[.pointer (some ⟨sb, 0, none⟩), .pointer (some ⟨vb, 0, none⟩), .pointer (some ⟨ob, 0, none⟩)] W fun e W' => e = .returned (.tuple #[]) ∧ ∃ P', SpE W' (fun b => w.heap.size ≤ b) w.heap.size sb zeroM P' ∧ P'.length ≤ 80000 ∧ KX (fun b => w.heap.size ≤ b) W W' ∧ ∃ nh, StkI (cur zeroM P') l.reverse nh ∧ nh ≤ n := by
  have HL := Lib.hid hl
  have HN := Lib.hid hn
  have HA := Lib.hid hA
  have HV := Lib.hid hv
  have HO := Lib.hid ho
  have HB0 := Lib.hid hb
  have S0 := Lib.hid hs
  have hn6 : (n : Int) ≤ 20 := by omega
  have c1 : W.cell? ⟨vb, 0, none⟩ = some (.slice A n c) := (hv.below hb).cell 0
  clear hl hn hA hv ho hb hs
  go_enter Tryz.func25, Tryz.ntmps25
  go_wp2_with fail
  clear c1
  go_loopw [8] (fun v8 wr => ∃ (j : Nat) (P : List (Int × Int)) (nh : Nat), v8 = .int .i64 j ∧ j ≤ n ∧ SpE wr (fun b => w.heap.size ≤ b) w.heap.size sb zeroM P ∧ StkI (cur zeroM P) (l.take j).reverse nh ∧ nh ≤ j ∧ P.length ≤ 7 * j ∧ KX (fun b => w.heap.size ≤ b) W wr) (fun v8 _ => n - (intOf v8).toNat)
  case atStart => exact ⟨0, [], 0, rfl, Nat.zero_le _, S0.out, stk_zero fun _ => rfl, Nat.le_refl _, Nat.le_refl _, KX.refl _ _⟩
  case round =>
    clear S0
    obtain ⟨j, P, nh, rfl, hj, hs, hk, hnh, hp, hkx⟩ := hrel
    have S := Lib.hid hs
    have K := Lib.hid hk
    have NH := Lib.hid (And.intro hnh hp)
    have KW := Lib.hid hkx
    have CK := Lib.hid (show ∀ b, b < w.heap.size → wr.heap[b]? = w.heap[b]? from fun b hb => (hkx.block b (Nat.lt_of_lt_of_le hb HB0.out.size) (by omega)).trans (HB0.out.block b hb))
    clear hs hk hnh hp hkx
    by_cases hlt : j < n
    · have hi2 : (j : Int) < (n : Int) := by omega
      obtain ⟨x, hx⟩ : ∃ x, l[j]? = some x := ⟨_, List.getElem?_eq_getElem (by have := HL.out; omega)⟩
      obtain ⟨b, q, rfl, hbl, -, hc⟩ := HA.out.2 (by omega)
      have d0 : wr.cell? ⟨b, q + j, none⟩ = some (.int .i64 x) := (World.cell?_of_block (a := ⟨b, q + j, none⟩) (CK.out b hbl)).trans (hc j _ (by rw [List.getElem?_map, hx]; rfl))
      have c2 : wr.cell? ⟨ob, 0, none⟩ = some (.bool true) := (World.cell?_of_block (a := ⟨ob, 0, none⟩) (CK.out ob HO.out.lt)).trans (HO.out.cell 0)
      have TK := Lib.hid (show (l.take (j + 1)).reverse = x :: (l.take j).reverse from by rw [List.take_add_one, hx]; simp)
      have HLT := Lib.hid hlt
      clear hx hbl hc hlt hj
      go_wp2_with fail
      refine (pool_any _).mono ?_
      rintro e w2 ⟨rfl, hb2⟩
      have S2 := Lib.hid (S.out.below hb2)
      have K2 := Lib.hid (KW.out.trans (KX.of_below hb2))
      clear hb2 d0 c2
      go_wp2_with fail
      refine (root_any _).mono ?_
      rintro e w3 ⟨rfl, hb3⟩
      have S3 := Lib.hid (S2.out.below hb3)
      have K3 := Lib.hid (K2.out.trans (KX.of_below hb3))
      have X3 := Lib.hid (show ∀ b, w3.heap.size ≤ b → w.heap.size ≤ b from fun b hb => Nat.le_trans (Nat.le_trans HB0.out.size K3.out.size) hb)
      clear hb3 S K2 S2 KW
      have hf1 : ∀ (x y : Value) (W : World), (Instr.field 56 (.agg #[x, y]) 1).run Tryz.prog W = .ok y W := fun _ _ _ => by kernel_rfl
      go_wp2_with fail
      refine (stk_push S3.out X3.out (by have := NH.out; have := HN.out; have := HLT.out; omega) K.out (by have := NH.out; have := HN.out; have := HLT.out; omega) x).mono ?_
      rintro e w4 ⟨rfl, hk4, P4, nh4, hs4, hst4, hnh4, hp4⟩
      have K4 := Lib.hid (K3.out.trans hk4)
      have S4 := Lib.hid hs4
      have ST4 := Lib.hid (show StkI (cur zeroM P4) (l.take (j + 1)).reverse nh4 from by rw [TK.out]; exact hst4)
      have N4 := Lib.hid (And.intro hnh4 hp4)
      have HO4 : HB 4 w4 ob #[.bool true] := ((K4.out.block ob (Nat.lt_of_lt_of_le HO.out.lt HB0.out.size) (by have := HO.out.lt; omega)).trans (HB0.out.block ob HO.out.lt)).trans HO.out
      have c4 : w4.cell? ⟨ob, 0, none⟩ = some (.bool true) := HO4.cell 0
      have f4 : w4.frozen? ⟨ob, 0, none⟩ = false := HO4.free 0
      have hsame := setCell_same HO4 0 (.bool true) rfl
      clear hk4 hs4 hst4 hnh4 hp4 HO4
      go_wp2
      go_roundw
      case rel => exact ⟨j + 1, P4, nh4, by go_num, HLT.out, S4.out, ST4.out, by have := N4.out; have := NH.out; omega, by have := N4.out; have := NH.out; omega, K4.out⟩
      case measure =>
        have := HLT.out
        show n - ((j + 1 : Nat) : Int).toNat < n - (j : Int).toNat
        omega
    · have hi2 : ¬ (j : Int) < (n : Int) := by omega
      have TK := Lib.hid (show l.take j = l from List.take_of_length_le (by have := HL.out; omega))
      have KF := Lib.hid (show StkI (cur zeroM P) l.reverse nh from by have := K.out; rw [TK.out] at this; exact this)
      have LE := Lib.hid hj
      clear hlt hj
      go_wp2
      go_end0
      exact ⟨rfl, P, S.out, by have := NH.out; have := HN.out; have := LE.out; omega, KW.out, nh, KF.out, by have := NH.out; have := LE.out; omega⟩
end Go.Proofs.YtkloaopjlbinpaaGreat
namespace Go.Proofs.YtkloaopjlbinpaaGreat
open Go.RowKit Go.MapKept

theorem zero_fits2 : zeroM.Fits 4294967294 := fun k _ => ⟨Int.le_refl _, show (0 : Int) ≤ 4294967294 by decide⟩
theorem stack_hcf (args : Array Value) (W : World) : (callFunc 25 args).run Tryz.prog W = .ok (.enter 25 args) W := by kernel_rfl
set_option maxRecDepth 100000 in
set_option maxHeartbeats 6400000 in
theorem sstack_any (w : World) (A : Option Addr) (n c : Nat) (l : List Int) (hl : l.length = n) (hn : n ≤ 20) (hA : Reads w (fun _ => True) 1 A n (l.map (.int .i64))) :
    Calls Tryz.prog 9 #[.slice A n c] w fun e w' => ∃ (nb nh : Nat) (g : Mem), e = .returned (.tuple #[.map (some nb), .bool true]) ∧ w.heap.size ≤ nb ∧ IntMap w' nb g.at ∧ StkI g.val l.reverse nh ∧ nh ≤ n ∧ g.Fits 1 ∧ Below w.heap.size w w' := by
  obtain ⟨W0, hW0⟩ : ∃ W, W = w.alloc (.cells #[.slice A n c] 26) := ⟨_, rfl⟩
  have V0 := Lib.hid (show HB 26 W0 w.heap.size #[.slice A n c] from by rw [hW0]; exact HB.new _ _ _)
  have B0 := Lib.hid (show Below w.heap.size w W0 by rw [hW0]; exact below_alloc _ _)
  have HL := Lib.hid hl
  have HN := Lib.hid hn
  have HA := Lib.hid (hA.below (show Below w.heap.size w W0 by rw [hW0]; exact below_alloc _ _))
  clear hl hn hA
  go_enter Tryz.func9, Tryz.ntmps9
  go_upto_region 1 with fail
  rw [← hW0]
  clear hW0
  go_wp2_with fail
  refine (fresh_any _).mono ?_
  rintro e w1 ⟨rfl, hm, hb⟩
  obtain ⟨W2, hW2⟩ : ∃ W, W = w1.alloc (.cells #[.bool true] 4) := ⟨_, rfl⟩
  have b2 : Below w1.heap.size w1 W2 := by rw [hW2]; exact below_alloc _ _
  have s2 : w1.heap.size < W2.heap.size := by rw [hW2, World.size_alloc]; omega
  have B02 := Lib.hid (show Below W0.heap.size W0 W2 from hb.trans (b2.mono hb.size))
  have O2 := Lib.hid (show HB 4 W2 w1.heap.size #[.bool true] from by rw [hW2]; exact HB.new w1 4 #[.bool true])
  have V2 := Lib.hid (V0.out.below B02.out)
  have M2 := Lib.hid (hm.below b2)
  have LT2 := Lib.hid (And.intro s2 (Nat.lt_of_lt_of_le V0.out.lt hb.size))
  have A2 := Lib.hid (HA.out.below B02.out)
  obtain ⟨ob, hob⟩ : ∃ x, x = w1.heap.size := ⟨_, rfl⟩
  obtain ⟨mb, hmb⟩ : ∃ x, x = W0.heap.size := ⟨_, rfl⟩
  have LEM := Lib.hid (show w.heap.size ≤ mb from by rw [hmb]; exact B0.out.size)
  have LTM := Lib.hid (show mb < W2.heap.size from by rw [hmb]; exact M2.out.lt)
  have BB := Lib.hid (show Below w.heap.size w W2 from B0.out.trans (B02.out.mono B0.out.size))
  rw [← hmb] at M2 ⊢
  rw [← hob] at O2 LT2
  clear hm hb b2 s2 V0 HA B0 B02 hmb
  go_upto_region 3 with fail
  rw [← hW2, ← hob]
  clear hW2 hob
  have KD := Lib.hid (done_any 25 #[.pointer (some ⟨w.heap.size, 0, none⟩), .pointer (some ⟨ob, 0, none⟩)] stack_hcf W2 mb zeroM M2.out zero_fits2 (fun _ => False) (fun P' _ => ∃ nh, StkI (cur zeroM P') l.reverse nh ∧ nh ≤ n) (fun h => h) (fun _ _ _ h _ => h) (fun W sb hb _ hs => (stack_do W2 W sb w.heap.size ob A n c l HL.out HN.out A2.out V2.out O2.out hb hs).mono (by
    rintro e w' ⟨rfl, P', h1, h2, h3, h4⟩
    exact ⟨rfl, P', h1, h2, h3.mono fun _ _ h => .inr h, h4⟩)))
  go_wp2_with fail
  refine KD.out.mono ?_
  rintro e w3 ⟨nb, ev, P', rfl, hnb, hm, ⟨nh, hst, hnh⟩, hk⟩
  have M3 := Lib.hid hm
  have ST := Lib.hid (And.intro hst hnh)
  have b3 : Below W2.heap.size W2 w3 := hk.below (Nat.le_refl _) (fun b hb h => by
    rcases h with h | h
    · exact h
    · omega)
  have BF := Lib.hid (show Below w.heap.size w w3 from BB.out.trans (b3.mono BB.out.size))
  have NB := Lib.hid (Nat.le_trans BB.out.size hnb)
  have c3 : w3.cell? ⟨ob, 0, none⟩ = some (.bool true) := (O2.out.below b3).cell 0
  clear hm hst hnh hk hnb KD M2 b3 O2 V2 A2 LT2 LTM LEM BB
  go_wp2_with fail
  go_region
  go_wp2
  go_ret2
  exact ⟨nb, nh, nextM zeroM P', rfl, NB.out, M3.out, ST.out.1, ST.out.2, nextM_fits zero_fits, BF.out.drew⟩
end Go.Proofs.YtkloaopjlbinpaaGreat
