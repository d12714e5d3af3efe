/- The stack's nodes in the words: what it is for them to hold a stack; push and pop keep it. No condition. -/
import Derived.Test.YtkloaopjlbinpaaTeA
set_option linter.unusedVariables false
namespace Go.Proofs.Ytkloaopjlbinpaa

def adr (n : Nat) : Int := 96 + 8 * (n : Int)
/-- The nodes from the address a on. -/
def Chain (V : Int → Int) : List Nat → Int → Prop
  | [], a => a = 0
  | n :: ns, a => a = adr n ∧ Chain V ns (V (adr n))
theorem Chain.frame {V V' : Int → Int} : ∀ {ns : List Nat} {a : Int}, Chain V ns a → (∀ n ∈ ns, V' (adr n) = V (adr n)) → Chain V' ns a
  | [], _, h, _ => h
  | n :: ns, _, h, k => ⟨h.1, by rw [k n List.mem_cons_self]; exact h.2.frame fun m hm => k m (List.mem_cons_of_mem _ hm)⟩
/-- The words hold the stack l, its top first: the nodes ns, the free nodes fs, nh handed out. -/
structure Stk (V : Int → Int) (l : List Int) (ns fs : List Nat) (nh : Nat) : Prop where
  nd : (ns ++ fs).Nodup
  lt : ∀ n ∈ ns ++ fs, n < nh
  cnt : ns.length + fs.length ≤ nh
  le : nh ≤ 128
  h2 : V 2 = nh
  top : Chain V ns (V 16)
  free : Chain V fs (V 1)
  vals : ns.map (fun n => V (adr n + 1)) = l
  held : V 23 = l.length
def StkI (V : Int → Int) (l : List Int) (nh : Nat) : Prop := ∃ ns fs, Stk V l ns fs nh
theorem stk_zero {V : Int → Int} (h : ∀ k, V k = 0) : StkI V [] 0 := ⟨[], [], by simp, by simp, by simp, by omega, h 2, h 16, h 1, rfl, h 23⟩
theorem StkI.len {V : Int → Int} {l : List Int} {nh : Nat} (h : StkI V l nh) : l.length ≤ nh ∧ nh ≤ 128 := by
  obtain ⟨ns, fs, h⟩ := h
  rw [← h.vals, List.length_map]
  exact ⟨by have := h.cnt; omega, h.le⟩
section
variable {V V' : Int → Int} {l : List Int} {ns fs : List Nat} {nh : Nat} {v : Int}
theorem Stk.push_free {f : Nat} (h : Stk V l ns (f :: fs) nh) (hoth : ∀ b, b ≠ 1 → b ≠ 3 → b ≠ adr f → b ≠ adr f + 1 → b ≠ 16 → b ≠ 17 → b ≠ 23 → V' b = V b)
    (k1 : V' 1 = V (adr f)) (ka : V' (adr f) = V 16) (kv : V' (adr f + 1) = v) (k16 : V' 16 = adr f) (k23 : V' 23 = l.length + 1) : Stk V' (v :: l) (f :: ns) fs nh := by
  have hnd := h.nd
  rw [List.nodup_append] at hnd
  obtain ⟨h1, h2, h3⟩ := hnd
  rw [List.nodup_cons] at h2
  have keep : ∀ n, n ≠ f → V' (adr n) = V (adr n) := fun n hn => hoth _ (by unfold adr; omega) (by unfold adr; omega) (by unfold adr; omega) (by unfold adr; omega) (by unfold adr; omega) (by unfold adr; omega) (by unfold adr; omega)
  have keep1 : ∀ n, n ≠ f → V' (adr n + 1) = V (adr n + 1) := fun n hn => hoth _ (by unfold adr; omega) (by unfold adr; omega) (by unfold adr; omega) (by unfold adr; omega) (by unfold adr; omega) (by unfold adr; omega) (by unfold adr; omega)
  have hf1 : ∀ n ∈ ns, n ≠ f := fun n hn e => h3 n hn f List.mem_cons_self e
  have hf2 : ∀ n ∈ fs, n ≠ f := fun n hn e => h2.1 (e ▸ hn)
  refine ⟨?_, ?_, ?_, h.le, ?_, ?_, ?_, ?_, ?_⟩
  · rw [List.cons_append, List.nodup_cons, List.nodup_append]
    refine ⟨fun hm => ?_, h1, h2.2, fun a ha b hb => h3 a ha b (List.mem_cons_of_mem _ hb)⟩
    rcases List.mem_append.1 hm with hm | hm
    · exact hf1 f hm rfl
    · exact hf2 f hm rfl
  · intro n hn
    refine h.lt n ?_
    rcases List.mem_append.1 hn with hn | hn
    · rcases List.mem_cons.1 hn with rfl | hn
      · exact List.mem_append_right _ List.mem_cons_self
      · exact List.mem_append_left _ hn
    · exact List.mem_append_right _ (List.mem_cons_of_mem _ hn)
  · have := h.cnt; simp only [List.length_cons] at *; omega
  · rw [hoth 2 (by decide) (by decide) (by unfold adr; omega) (by unfold adr; omega) (by decide) (by decide) (by decide)]; exact h.h2
  · exact ⟨k16, by rw [ka]; exact h.top.frame fun n hn => keep n (hf1 n hn)⟩
  · rw [k1]; exact h.free.2.frame fun n hn => keep n (hf2 n hn)
  · rw [List.map_cons, kv, ← h.vals]
    congr 1
    exact List.map_congr_left fun n hn => keep1 n (hf1 n hn)
  · rw [k23]; simp
theorem Stk.push_new (h : Stk V l ns [] nh) (hnh : nh < 128) (hoth : ∀ b, b ≠ 2 → b ≠ adr nh → b ≠ adr nh + 1 → b ≠ 16 → b ≠ 17 → b ≠ 23 → V' b = V b)
    (k2 : V' 2 = (nh : Int) + 1) (ka : V' (adr nh) = V 16) (kv : V' (adr nh + 1) = v) (k16 : V' 16 = adr nh) (k23 : V' 23 = l.length + 1) : Stk V' (v :: l) (nh :: ns) [] (nh + 1) := by
  have hnd := h.nd
  have hlt := h.lt
  rw [List.append_nil] at hnd hlt
  have hf : ∀ n ∈ ns, n ≠ nh := fun n hn e => by have := hlt n hn; omega
  have keep : ∀ n, n ≠ nh → V' (adr n) = V (adr n) := fun n hn => hoth _ (by unfold adr; omega) (by unfold adr; omega) (by unfold adr; omega) (by unfold adr; omega) (by unfold adr; omega) (by unfold adr; omega)
  have keep1 : ∀ n, n ≠ nh → V' (adr n + 1) = V (adr n + 1) := fun n hn => hoth _ (by unfold adr; omega) (by unfold adr; omega) (by unfold adr; omega) (by unfold adr; omega) (by unfold adr; omega) (by unfold adr; omega)
  refine ⟨?_, ?_, ?_, by omega, by rw [k2]; omega, ?_, ?_, ?_, ?_⟩
  · rw [List.append_nil, List.nodup_cons]
    exact ⟨fun hm => hf nh hm rfl, hnd⟩
  · intro n hn
    rw [List.append_nil] at hn
    rcases List.mem_cons.1 hn with rfl | hn
    · omega
    · have := hlt n hn; omega
  · have := h.cnt; simp only [List.length_cons, List.length_nil] at *; omega
  · exact ⟨k16, by rw [ka]; exact h.top.frame fun n hn => keep n (hf n hn)⟩
  · show V' 1 = 0
    rw [hoth 1 (by decide) (by unfold adr; omega) (by unfold adr; omega) (by decide) (by decide) (by decide)]
    exact h.free
  · rw [List.map_cons, kv, ← h.vals]
    congr 1
    exact List.map_congr_left fun n hn => keep1 n (hf n hn)
  · rw [k23]; simp
theorem Stk.pop {n : Nat} (h : Stk V (v :: l) (n :: ns) fs nh) (hoth : ∀ b, b ≠ 1 → b ≠ 3 → b ≠ adr n → b ≠ 16 → b ≠ 17 → b ≠ 23 → V' b = V b)
    (ka : V' (adr n) = V 1) (k1 : V' 1 = adr n) (k16 : V' 16 = V (adr n)) (k23 : V' 23 = l.length) : Stk V' l ns (n :: fs) nh := by
  have hnd := h.nd
  rw [List.cons_append, List.nodup_cons, List.nodup_append] at hnd
  obtain ⟨h0, h1, h2, h3⟩ := hnd
  have hf1 : ∀ m ∈ ns, m ≠ n := fun m hm e => h0 (List.mem_append_left _ (e ▸ hm))
  have hf2 : ∀ m ∈ fs, m ≠ n := fun m hm e => h0 (List.mem_append_right _ (e ▸ hm))
  have keep : ∀ m, m ≠ n → V' (adr m) = V (adr m) := fun m hm => hoth _ (by unfold adr; omega) (by unfold adr; omega) (by unfold adr; omega) (by unfold adr; omega) (by unfold adr; omega) (by unfold adr; omega)
  have keep1 : ∀ m : Nat, V' (adr m + 1) = V (adr m + 1) := fun m => hoth _ (by unfold adr; omega) (by unfold adr; omega) (by unfold adr; omega) (by unfold adr; omega) (by unfold adr; omega) (by unfold adr; omega)
  have hv := h.vals
  rw [List.map_cons] at hv
  injection hv with hv1 hv2
  refine ⟨?_, ?_, ?_, h.le, ?_, ?_, ?_, ?_, k23⟩
  · rw [List.nodup_append, List.nodup_cons]
    refine ⟨h1, ⟨fun hm => hf2 n hm rfl, h2⟩, fun a ha b hb => ?_⟩
    rcases List.mem_cons.1 hb with rfl | hb
    · exact hf1 a ha
    · exact h3 a ha b hb
  · intro m hm
    refine h.lt m ?_
    rcases List.mem_append.1 hm with hm | hm
    · exact List.mem_append_left _ (List.mem_cons_of_mem _ hm)
    · rcases List.mem_cons.1 hm with rfl | hm
      · exact List.mem_append_left _ List.mem_cons_self
      · exact List.mem_append_right _ hm
  · have := h.cnt; simp only [List.length_cons] at *; omega
  · rw [hoth 2 (by decide) (by decide) (by unfold adr; omega) (by decide) (by decide) (by decide)]; exact h.h2
  · rw [k16]; exact h.top.2.frame fun m hm => keep m (hf1 m hm)
  · exact ⟨k1, by rw [ka]; exact h.free.frame fun m hm => keep m (hf2 m hm)⟩
  · rw [← hv2]
    exact List.map_congr_left fun m hm => keep1 m
end
end Go.Proofs.Ytkloaopjlbinpaa
