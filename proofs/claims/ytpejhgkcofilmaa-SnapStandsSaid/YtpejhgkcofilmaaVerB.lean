/- The walks of version.Last, Len, Stamps, Cut, Add and of slices.Clip, slices.Clone: what each call returns. Conditions: stamps ascend; at most 2^40 versions. -/
import Derived.Test.YtpejhgkcofilmaaVer
import Derived.Deep.RegionHeld3
import Derived.Deep.DeepFit
set_option linter.unusedVariables false
namespace Go.Proofs.Ytpejhgkcofilmaa
open Go.RowKit

theorem Try.info128 : (Try.prog.info? 128).map (fun i => (i.zero, i.size, i.bytes)) = some (some (.agg #[.int .i64 0, .int .i64 0]), 2, 16) := by kernel_rfl
theorem Try.info2 : (Try.prog.info? 2).map (fun i => (i.zero, i.size, i.bytes)) = some (some (.int .i64 0), 1, 8) := by kernel_rfl

theorem flat_one (l : List (Int × Int)) : ∀ u ∈ flat l, u.oneCell' = true := by
  intro u hu
  simp only [flat, List.mem_flatMap] at hu
  obtain ⟨p, _, hp⟩ := hu
  simp only [List.mem_cons, List.not_mem_nil, or_false] at hp
  rcases hp with rfl | rfl <;> rfl

theorem Ones.below {w w' : World} {S : Nat → Prop} {n : Nat} {A : Option Addr} {l : List (Int × Int)} (h : Ones w S A n l) (hb : Below w.heap.size w w') : Ones w' S A n l := ⟨h.1, h.2.below hb⟩
theorem Ones.alloc {w : World} {S : Nat → Prop} {n : Nat} {A : Option Addr} {l : List (Int × Int)} (h : Ones w S A n l) (o : Obj) : Ones (w.alloc o) S A n l := ⟨h.1, h.2.alloc o⟩
theorem Ones.off {w : World} {S : Nat → Prop} {n : Nat} {A : Option Addr} {l : List (Int × Int)} (h : Ones w S A n l) (hi : Nat) : Ones w (Off S w.heap.size hi) A n l := ⟨h.1, h.2.off hi⟩
theorem Ones.on {w : World} {S : Nat → Prop} {lo hi n : Nat} {A : Option Addr} {l : List (Int × Int)} (h : Ones w (Off S lo hi) A n l) : Ones w S A n l := ⟨h.1, h.2.on⟩
theorem Ones.setCell {w : World} {S : Nat → Prop} {n : Nat} {A : Option Addr} {l : List (Int × Int)} (h : Ones w S A n l) {p : Addr} (hp : ¬ S p.block) (u : Value) : Ones (w.setCell p u) S A n l := ⟨h.1, h.2.setCell hp u⟩

theorem len_any (A : Option Addr) (n c : Nat) (w : World) :
    Calls Try.prog 25 #[.agg #[.slice A n c]] w fun e w' => e = .returned (.int .i64 n) ∧ Below w.heap.size w w' := by
  go_enter Try.func25, Try.ntmps25
  go_wp2
  go_ret
  exact ⟨rfl, (Below.refl _ _).alloc (Nat.le_refl _) _⟩

/-- What Last answers. -/
def lastP (l : List (Int × Int)) : Int × Int := l.getLast?.getD (0, 0)

set_option maxHeartbeats 400000 in
theorem last_any {S : Nat → Prop} (A : Option Addr) (n c : Nat) (l : List (Int × Int)) (w : World) (hl : Ones w S A n l) (hn : l.length ≤ 1099511627776) :
    Calls Try.prog 60 #[.agg #[.slice A n c]] w fun e w' => e = .returned (.tuple #[.int .i64 (lastP l).1, .int .i64 (lastP l).2, .bool (!l.isEmpty)]) ∧ Below w.heap.size w w' := by
  rcases Nat.eq_zero_or_pos l.length with h0 | h0
  · obtain rfl : l = [] := List.eq_nil_of_length_eq_zero h0
    obtain rfl : n = 0 := hl.1
    go_enter Try.func60, Try.ntmps60
    go_wp2
    go_ret3
    exact ⟨rfl, (Below.refl _ _).alloc (Nat.le_refl _) _⟩
  · obtain ⟨k, hk⟩ : ∃ k, l.length = k + 1 := ⟨l.length - 1, by omega⟩
    have hkl : k < l.length := by omega
    obtain ⟨b, o, rfl, hb, h1, h2⟩ := hl.cell k hkl
    have hP : lastP l = l[k] := by
      unfold lastP
      rw [List.getLast?_eq_getElem?, show l.length - 1 = k from by omega, List.getElem?_eq_getElem hkl]
      rfl
    have hE : l.isEmpty = false := by
      cases l
      · simp at h0
      · rfl
    rw [hP, hE]
    obtain rfl : n = k + 1 := by rw [hl.1]; exact hk
    have hx : ∀ o', (w.alloc o').cell? ⟨b, o + k * 2, none⟩ = some (.int .i64 l[k].1) := fun o' => by rw [World.cell?_alloc_past _ _ _ hb]; exact h1
    have hy : ∀ o', (w.alloc o').cell? ⟨b, o + k * 2 + 1, none⟩ = some (.int .i64 l[k].2) := fun o' => by rw [World.cell?_alloc_past _ _ _ hb]; exact h2
    clear hP hE h1 h2
    have hk1 : k ≤ 1099511627776 := by omega
    generalize l[k] = p at *
    obtain ⟨x, y⟩ := p
    clear hk hl hn h0 hkl
    go_enter Try.func60, Try.ntmps60
    go_wp2
    go_quiet (fail)
    go_wp2
    go_ret3
    exact ⟨rfl, below_drewN (((Below.refl _ _).alloc (Nat.le_refl _) _).alloc (by simp) _) _⟩

set_option maxHeartbeats 400000 in
theorem clip_any (A : Option Addr) (n c : Nat) (w : World) (hc : n ≤ c) (hn : n ≤ 1099511627776) :
    Calls Try.prog 61 #[.slice A n c] w fun e w' => e = .returned (.slice A n n) ∧ w = w' := by
  go_enter Try.func61, Try.ntmps61
  go_wp2
  go_ret
  exact ⟨rfl, rfl⟩

set_option maxHeartbeats 400000 in
theorem clone_any {S : Nat → Prop} (A : Option Addr) (n c : Nat) (l : List (Int × Int)) (w : World) (hS : ∀ b, w.heap.size ≤ b → S b) (hl : Ones w S A n l) (hn : l.length ≤ 1099511627776) :
    Calls Try.prog 59 #[.slice A n c] w fun e w' => ∃ A' c', e = .returned (.slice A' n c') ∧ n ≤ c' ∧ (A' = none → c' = 0) ∧ Ones w' S A' n l ∧ Below w.heap.size w w' := by
  have hq := fun (w : World) => Lib.run_eql_slice_nil (P := Try.prog) w 25 128 A n c 0 0 Try.underlying25
  obtain ⟨i0, hi0, hz0, hz1, hz2⟩ := info_parts Try.info128
  have hnl := hl.1
  cases A with
  | none =>
    have h0 : n = 0 := by
      rcases Nat.eq_zero_or_pos n with h | h
      · exact h
      · obtain ⟨b, o, e, _⟩ := hl.2.2 h
        cases e
    subst h0
    clear hnl
    go_enter Try.func59, Try.ntmps59
    go_wp2
    go_ret
    exact ⟨none, 0, rfl, Nat.le_refl _, fun _ => rfl, hl, Below.refl _ _⟩
  | some ad =>
    have hown := Lib.hid (World.ownsRow_made (e := 128) (size := 2) (base := w.heap.size) w #[] 0 (Nat.le_refl _) (by simp [maxLen]) (by simp))
    have hR := Lib.hid ((hl.2.alloc (.cells #[] 128)))
    have hn' : n ≤ 1099511627776 := by omega
    clear hnl
    go_enter Try.func59, Try.ntmps59
    go_wp2_with (at_builtin; refine wpList_append_any rfl (.tmp 5) (.tmp 6) 25 rfl w.heap.size 128 i0 _ 2 16 Try.underlying25 hi0 hz0 hz1 hz2 rfl (by omega) _ 0 [] rfl hown.out S (some ad) n c (flat l) rfl hR.out ?k1 ?k2 ?k3 ?k4 ?k5)
    case k1 => exact flat_one l
    case k2 => simp only [maxLen]; omega
    case k3 => omega
    case k4 => simp
    case k5 =>
      intro v' w' ho hg _
      have hb : Below w.heap.size w w' := ((Below.refl _ _).alloc (Nat.le_refl _) _).grown hg (by simp) (fun k hk => by simp [Value.ownBlock] at hk; omega)
      obtain ⟨A', c', rfl, h1, h2, h3⟩ := own_reads ho hS
      clear ho hg hq
      have hx := Lib.hid (show Ones w' S A' n l from ⟨hl.1, h3⟩)
      clear h3
      go_wp2
      go_ret
      exact ⟨A', c', rfl, h1, h2, hx.out, hb⟩

theorem flat_drop (l : List (Int × Int)) (k : Nat) : flat (l.drop k) = (flat l).drop (k * 2) := by
  induction k generalizing l with
  | zero => simp
  | succ k ih =>
    cases l with
    | nil => simp [flat]
    | cons a t =>
      rw [List.drop_succ_cons, ih]
      simp [flat, Nat.add_mul]
theorem cut_facts {w : World} {S : Nat → Prop} {n c k : Nat} {A : Option Addr} {l : List (Int × Int)} (h : Ones w S A n l) (hk : k ≤ n) (hc : n ≤ c) : Ones w S (if c = k then A else A.map (·.add (k * 2))) (n - k) (l.drop k) := by
  refine ⟨by rw [List.length_drop, h.1], ?_⟩
  have := h.2.cut (cap := c) hk hc
  rwa [← flat_drop] at this

set_option maxHeartbeats 800000 in
theorem cut_at {S : Nat → Prop} (A : Option Addr) (n c k : Nat) (l : List (Int × Int)) (s : Int) (x : Int) (w : World) (hS : ∀ b, w.heap.size ≤ b → S b) (hl : Ones w S A n l) (hc : n ≤ c) (hn' : n ≤ 1099511627776) (hkn : k ≤ n)
    (hx : Hid (x = k + 1 ∨ (k = 0 ∧ x = 0)))
    (hC1 : Hid (∀ W, Below w.heap.size w W → Calls Try.prog 58 #[.agg #[.slice A n c], .int .i64 s] W fun e w' => e = .returned (.int .i64 x) ∧ Below W.heap.size W w')) :
    Calls Try.prog 24 #[.agg #[.slice A n c], .int .i64 s] w fun e w' => ∃ A' c', e = .returned (.agg #[.slice A' (n - k) c']) ∧ n - k ≤ c' ∧ (A' = none → c' = 0) ∧ Ones w' S A' (n - k) (l.drop k) ∧ Below w.heap.size w w' := by
  have hk0 : (0 : Int) ≤ (k : Int) := by omega
  have hk1 : (k : Int) ≤ (n : Int) := by omega
  have hm : ∀ W : World, Sem.run Try.prog (Builtin.max_ #[3, 3] 3 #[.int .i64 (IntKind.i64.wrap (x - 1)), .int .i64 0]) W = .ok (.int .i64 k) W := by
    intro W
    have e : IntKind.i64.wrap (x - 1) = x - 1 := IntWalk.i64_in _ (by rcases hx.out with h | ⟨_, h⟩ <;> omega)
    rw [e]
    rcases hx.out with rfl | ⟨rfl, rfl⟩
    · have : (k : Int) + 1 - 1 = k := by omega
      rw [this]
      simp only [Builtin.max_, List.foldlM_cons, List.foldlM_nil, Builtin.max2, Sem.run_bind, Sem.run_pure]
      rcases Nat.eq_zero_or_pos k with rfl | h
      · rfl
      · simp; omega
    · rfl
  obtain ⟨Ac, hAc⟩ : ∃ Ac, (if c = k then A else Option.map (fun x => x.add (k * 2)) A) = Ac := ⟨_, rfl⟩
  have hC2 := Lib.hid fun W (hb : Below w.heap.size w W) (hsz : w.heap.size + 2 ≤ W.heap.size) => clone_any (S := Off S w.heap.size (w.heap.size + 2)) Ac (n - k) (c - k) (l.drop k) W (off_new hS (by omega) hsz) (by have := cut_facts ((hl.off (w.heap.size + 2)).below hb) hkn hc; rw [hAc] at this; exact this) (by have := hl.1; simp; omega)
  go_enter Try.func24, Try.ntmps24
  go_wp2_with fail
  have hb0 : ∀ o1 o2, Below w.heap.size w ((w.alloc o1).alloc o2).drew := fun o1 o2 => (((Below.refl _ _).alloc (Nat.le_refl _) o1).alloc (by simp) o2).drew
  have p0 : (((w.alloc (.cells #[.slice A n c] 27)).alloc (.cells #[.slice none 0 0] 27)).drew).cell? ⟨w.heap.size, 0, none⟩ = some (.slice A n c) := by
    rw [World.cell?_drew, World.cell?_alloc_past _ _ _ (by simp), World.cell?_alloc_at _ _ _ _ rfl]; rfl
  have p1 : (((w.alloc (.cells #[.slice A n c] 27)).alloc (.cells #[.slice none 0 0] 27)).drew).cell? ⟨w.heap.size + 1, 0, none⟩ = some (.slice none 0 0) := by
    rw [World.cell?_drew, World.cell?_alloc_at _ _ _ _ (by simp)]; rfl
  have p2 : (((w.alloc (.cells #[.slice A n c] 27)).alloc (.cells #[.slice none 0 0] 27)).drew).frozen? ⟨w.heap.size + 1, 0, none⟩ = false := by
    exact World.frozen?_alloc_at _ _ _ _ (by simp)
  go_region_held3 (fun w' => w'.cell? ⟨w.heap.size, 0, none⟩ = some (.slice A n c)) (first | go_keep | exact q0 | exact r0) (first
    | (go_at_call 58; refine (hC1.out _ (hb0 _ _)).mono ?_; rintro e w1 ⟨rfl, hb1⟩; have q0 := cell_later hb1 p0; have q1 := cell_later hb1 p1; have q2 := frozen_later hb1 p1 p2; have hb2 := (hb0 _ _).trans (hb1.mono (by simp; omega)); have hsz : w.heap.size + 2 ≤ w1.heap.size := by (have := hb1.size; simp at this; omega))
    | (go_at_call 59; refine (hC2.out _ (by assumption) (by assumption)).mono ?_; rintro e w2 ⟨A', c', rfl, g1, g2, g3, hb3⟩; have r0 := cell_later hb3 q0; have r1 := cell_later hb3 q1; have r2 := frozen_later hb3 q1 q2; have hb4 := hb2.trans (hb3.mono hb2.size)))
  go_wp2
  refine bodyPost_ret (v := .agg #[.slice A' (n - k) c']) ?_ rfl ⟨A', c', rfl, g1, g2, ?_, ?_⟩
  · have hc2 : (w2.setCell ⟨w.heap.size + 1, 0, none⟩ (.slice A' (n - k) c')).cell? ⟨w.heap.size + 1, 0, none⟩ = some (.slice A' (n - k) c') := World.cell?_setCell_same _ _ _ r1
    simp [results, Try.results24, go_sem, hc2]
  · exact (g3.setCell (off_not (by simp) (by simp)) _).on
  · exact hb4.setCell (by simp) _
end Go.Proofs.Ytpejhgkcofilmaa
