/- The walk of the law's Made: for at most 2^20 acts it returns the versions that the acts leave, twice, and true. -/
import Derived.Test.YtpejhgkcofilmaaVerH
import Derived.Deep.DeepCutAuto
import Derived.Deep.RegionWith
set_option linter.unusedVariables false
namespace Go.Proofs.Ytpejhgkcofilmaa
open Go.RowKit

theorem heap_alloc_at (w : World) (o : Obj) (B : Nat) (h : w.heap.size = B) : (w.alloc o).heap[B]? = some o := by subst h; exact heap_alloc_new w o
theorem Ones.more {w : World} {S S' : Nat → Prop} {n : Nat} {A : Option Addr} {l : List (Int × Int)} (h : Ones w S A n l) (hB : ∀ b, b < w.heap.size → S b → S' b) : Ones w S' A n l := ⟨h.1, h.2.more hB⟩

/-- What stands in memory at a round's head of Made: the list L in variable 'l' (block w.heap.size + 1), the same versions at the reference's slice. -/
structure Md (w : World) (S : Nat → Prop) (L : List (Int × Int)) (A : Option Addr) (n c : Nat) (M : Option Addr) (cm : Nat) (wr : World) : Prop where
  box : wr.heap[w.heap.size + 1]? = some (.cells #[.slice A n c] 27 (0, 0))
  res : wr.heap[w.heap.size]? = some (.cells #[.slice none 0 0] 27 (0, 0))
  list : Ones wr (Off S w.heap.size (w.heap.size + 2)) A n L
  ref : Ones wr (Off S w.heap.size (w.heap.size + 2)) M n L
  hc : n ≤ c
  hm : n ≤ cm
  hA : A = none → c = 0
  hM : M = none → cm = 0
  below : Below w.heap.size w wr
theorem Md.lt {w wr : World} {S L A n c M cm} (h : Md w S L A n c M cm wr) : w.heap.size + 2 ≤ wr.heap.size := lt_of_block h.box
theorem Md.later {w wr w' : World} {S L A n c M cm} (h : Md w S L A n c M cm wr) (hb : Below wr.heap.size wr w') : Md w S L A n c M cm w' where
  box := (hb.block _ (by have := h.lt; omega)).trans h.box
  res := (hb.block _ (by have := h.lt; omega)).trans h.res
  list := h.list.below hb
  ref := h.ref.below hb
  hc := h.hc
  hm := h.hm
  hA := h.hA
  hM := h.hM
  below := h.below.trans (hb.mono (by have := h.lt; omega))
/-- The list and the reference's versions are replaced. -/
theorem Md.set {w wr w' : World} {S L L' A n c M cm A' n' c' M' cm'} (h : Md w S L A n c M cm wr) (hb : Below wr.heap.size wr w') (h1 : Ones w' (Off S w.heap.size (w.heap.size + 2)) A' n' L') (h2 : Ones w' (Off S w.heap.size (w.heap.size + 2)) M' n' L')
    (h3 : n' ≤ c') (h4 : n' ≤ cm') (h5 : A' = none → c' = 0) (h6 : M' = none → cm' = 0) : Md w S L' A' n' c' M' cm' (w'.setCell ⟨w.heap.size + 1, 0, none⟩ (.slice A' n' c')) where
  box := one_setCell ((h.later hb).box)
  res := (Below.heap_setCell _ _ _ _ (by simp)).trans (h.later hb).res
  list := h1.setCell (off_not (by simp) (by simp)) _
  ref := h2.setCell (off_not (by simp) (by simp)) _
  hc := h3
  hm := h4
  hA := h5
  hM := h6
  below := (h.later hb).below.setCell (by simp) _

/-- The relation of the loop in Made. -/
def MdRel (w : World) (S : Nat → Prop) (acts : List (Int × Int × Bool)) (m i : Value) (wr : World) : Prop :=
  ∃ (k : Nat) (A : Option Addr) (n c : Nat) (M : Option Addr) (cm : Nat), k ≤ acts.length ∧ i = .int .i64 k ∧ m = .slice M n cm ∧ Md w S (play (acts.take k)) A n c M cm wr
/-- What Made leaves. -/
def MadeEnd (S : Nat → Prop) (L : List (Int × Int)) (w : World) (e : Ending) (w' : World) : Prop :=
  ∃ A n c M cm, e = .returned (.tuple #[.agg #[.slice A n c], .slice M n cm, .bool true]) ∧ Ones w' S A n L ∧ Ones w' S M n L ∧ n ≤ c ∧ n ≤ cm ∧ (A = none → c = 0) ∧ (M = none → cm = 0) ∧ Below w.heap.size w w'

set_option maxRecDepth 100000 in
set_option maxHeartbeats 4000000 in
theorem made_any {S : Nat → Prop} (A0 : Option Addr) (n0 c0 : Nat) (acts : List (Int × Int × Bool)) (w : World) (hS : ∀ b, w.heap.size ≤ b → S b) (hl : Acts w S A0 n0 acts) (hn : acts.length ≤ 1048576) :
    Calls Try.prog 21 #[.slice A0 n0 c0] w (MadeEnd S (play acts) w) := by
  obtain rfl := hl.1
  have HA := Lib.hid hl
  have HS := Lib.hid hS
  clear hl hS
  go_enter Try.func21, Try.ntmps21
  go_wp2
  go_loopw [6, 15] (fun m i wr => MdRel w S acts m i wr) (fun _ i _ => acts.length - (intOf i).toNat)
  case atStart =>
    refine ⟨0, none, 0, 0, none, 0, Nat.zero_le _, rfl, rfl, ⟨?_, ?_, ⟨rfl, .none_⟩, ⟨rfl, .none_⟩, Nat.le_refl _, Nat.le_refl _, fun _ => rfl, fun _ => rfl, ?_⟩⟩
    · exact heap_alloc_at _ _ _ (by simp)
    · exact (Below.heap_alloc _ _ _ (by simp)).trans (heap_alloc_at _ _ _ rfl)
    · exact ((Below.refl _ _).alloc (Nat.le_refl _) _).alloc (by simp) _
  case round =>
    obtain ⟨k, A, n, c, M, cm, hk, rfl, rfl, md⟩ := hrel
    have hAsc := play_asc acts k
    have hLen := play_len acts k hk
    by_cases hlt : k < acts.length
    · obtain ⟨b, o, rfl, hbb, hcell⟩ := HA.out.later k hlt
      have h1 := (hcell wr md.below).1
      have h2 := (hcell wr md.below).2.1
      have h3 := (hcell wr md.below).2.2
      have HP := Lib.hid (play_snoc acts k hlt)
      clear hcell
      generalize acts[k] = a at *
      obtain ⟨s, v, cut⟩ := a
      have hi : (k : Int) < (acts.length : Int) := by omega
      have q0 := fun o => (World.cell?_alloc_lt wr o _ (World.block_lt_of_cell? wr _ (cell_of_one md.box))).trans (cell_of_one md.box)
      have hwlt : w.heap.size + 1 < wr.heap.size := md.lt
      have MD := Lib.hid md
      clear md
      generalize play (acts.take k) = L at *
      have hLen2 : L.length ≤ 1099511627776 := by omega
      cases cut with
      | true =>
        have C1 := Lib.hid fun W (hb : Below wr.heap.size wr W) => cut_any (S := Off S w.heap.size (w.heap.size + 2)) A n c L s W (off_new HS.out (by omega) (by have := hb.size; have := MD.out.lt; omega)) (MD.out.list.below hb) hAsc MD.out.hc hLen2
        have C2 := Lib.hid fun W (hb : Below wr.heap.size wr W) => rcut_any M n cm L s W (MD.out.ref.below hb) hAsc hLen2
        have hb0 := fun o => (show Below wr.heap.size wr (wr.alloc o).drew from ((Below.refl _ _).alloc (Nat.le_refl _) o).drew)
        have HB0 := Lib.hid hb0
        clear hb0
        have p1 : ((wr.alloc (.cells #[.int .i64 s, .int .i64 v, .bool true] 44)).drew).cell? ⟨wr.heap.size, 0, none⟩ = some (.int .i64 s) := by
          rw [World.cell?_drew, World.cell?_alloc_at _ _ _ _ rfl]; rfl
        have q1 : ((wr.alloc (.cells #[.int .i64 s, .int .i64 v, .bool true] 44)).drew).cell? ⟨w.heap.size + 1, 0, none⟩ = some (.slice A n c) := q0 _
        go_upto_region 7 with fail
        go_cut [6] (fun v6 wx => ∃ A' n' c' M' cm', v6 = .slice M' n' cm' ∧ Md w S (L.drop (aft L s - 1)) A' n' c' M' cm' wx)
        case first =>
          go_region_with (first
            | (go_at_call 24; refine (C1.out _ (HB0.out _)).mono ?_; rintro e w1 ⟨A', n', c', rfl, g1, g2, g3, hb1⟩; have q2 := cell_later hb1 q1; have p2 := cell_later hb1 p1; have hb2 : Below wr.heap.size wr w1 := (HB0.out _).trans (hb1.mono (by simp)); clear hb1)
            | (go_at_call 55; refine (C2.out _ (by assumption)).mono ?_; rintro e w2 ⟨v', rfl, ho, hb3⟩; have q3 := cell_later hb3 q2; have p3 := cell_later hb3 p2; have hb4 : Below wr.heap.size wr w2 := hb2.trans (hb3.mono hb2.size); have q4 := free_of_one (MD.out.later hb4).box))
          all_goals
            obtain ⟨M', cm', hv', g4, g5, g6⟩ := own_reads ho (S := Off S w.heap.size (w.heap.size + 2)) (off_new HS.out (by omega) (by have := hb2.size; omega))
            have hN : n - (aft L s - 1) = n' := by have h1 := MD.out.list.1; have h2 := g3.1; rw [List.length_drop] at h2; omega
            rw [hN] at hv' g4 g6
            have HF := Lib.hid (MD.out.set hb4 (g3.below hb3) ⟨g3.1, g6⟩ g1 g4 g2 g5)
            have HV := Lib.hid hv'
            clear hv' g6 g5 g4 g3 g2 g1 ho hb3
            go_wp2_with fail
            go_meet
            exact ⟨A', n', c', M', cm', HV.out, HF.out⟩
        case rest =>
          obtain ⟨A', n', c', M', cm', rfl, md⟩ := hcut
          have C3 := Lib.hid (is_any A' M' n' n' c' cm' _ _ md.list md.ref (hAsc.drop) (by simp; omega))
          have qx := cell_of_one md.box
          have MD2 := Lib.hid md
          clear md
          go_wp2_with fail
          refine C3.out.mono ?_
          rintro e w3 ⟨rfl, hb3⟩
          have HF := Lib.hid (MD2.out.later hb3)
          clear hb3
          go_wp2
          go_roundw
          case rel => exact ⟨k + 1, A', n', c', M', cm', by omega, by go_num, rfl, by rw [HP.out]; exact HF.out⟩
          case measure => simp [intOf]; omega
      | false =>
        have C1 := Lib.hid fun W (hb : Below wr.heap.size wr W) => add_any (S := Off S w.heap.size (w.heap.size + 2)) A n c L s v W (off_new HS.out (by omega) (by have := hb.size; have := MD.out.lt; omega)) (MD.out.list.below hb) MD.out.hc MD.out.hA hLen2
        have C2 := Lib.hid fun W (hb : Below wr.heap.size wr W) => radd_any (S := Off S w.heap.size (w.heap.size + 2)) M n cm L s v W (off_new HS.out (by omega) (by have := hb.size; have := MD.out.lt; omega)) (MD.out.ref.below hb) MD.out.hm MD.out.hM hLen2
        have C3 := Lib.hid fun W (hb : Below wr.heap.size wr W) => is_any A M n n c cm L W (MD.out.list.below hb) (MD.out.ref.below hb) hAsc hLen2
        have hL3 : (addL L s v).length ≤ 1099511627776 := by have := play1_len L (s, v, false); simp only [play1] at this; simp at this; omega
        have hA3 : Asc (addL L s v) := hAsc.add s v
        have HB0 := Lib.hid fun o => (show Below wr.heap.size wr (wr.alloc o) from ((Below.refl _ _).alloc (Nat.le_refl _) o))
        have HQ0 := Lib.hid q0
        go_wp2_with fail
        refine (C1.out _ (HB0.out _)).mono ?_
        rintro e w1 ⟨A', n', c', rfl, g1, g2, g3, hb1⟩
        have hb2 : Below wr.heap.size wr w1 := (HB0.out _).trans (hb1.mono (by simp))
        have p1 : w1.cell? ⟨wr.heap.size, 0, none⟩ = some (.int .i64 s) := cell_later hb1 (by rw [World.cell?_alloc_at _ _ _ _ rfl]; rfl)
        have p2 : w1.cell? ⟨wr.heap.size, 1, none⟩ = some (.int .i64 v) := cell_later hb1 (by rw [World.cell?_alloc_at _ _ _ _ rfl]; rfl)
        have p1a := fun o => (World.cell?_alloc_lt w1 o _ (World.block_lt_of_cell? w1 _ p1)).trans p1
        have p2a := fun o => (World.cell?_alloc_lt w1 o _ (World.block_lt_of_cell? w1 _ p2)).trans p2
        clear q0 hb1 p1 p2
        generalize hE : addE L s = E at *
        clear hE
        have HB1 := Lib.hid fun o => (show Below wr.heap.size wr (w1.alloc o) from hb2.alloc hb2.size o)
        have HG3 := Lib.hid g3
        have HG := Lib.hid (And.intro g1 g2)
        clear g1 g2 g3
        go_wp2_with fail
        refine (C2.out _ (HB1.out _)).mono ?_
        rintro e w2 ⟨M', n2, cm', rfl, g4, g5, g6, hb3⟩
        have hb4 : Below wr.heap.size wr w2 := (HB1.out _).trans (hb3.mono (by have := hb2.size; simp; omega))
        have hb5 : Below w1.heap.size w1 w2 := below_new hb3
        have q1 := cell_of_one (MD.out.later hb4).box
        have r1 : w2.cell? ⟨w1.heap.size, 0, none⟩ = some (.slice A' n' c') := cell_later hb3 (by rw [World.cell?_alloc_at _ _ _ _ rfl]; rfl)
        clear p1a p2a hb3
        have te : (E != E) = false := by simp
        have HG6 := Lib.hid g6
        have HG2 := Lib.hid (And.intro g4 g5)
        clear g4 g5 g6
        go_wp2_with fail
        refine (C3.out w2 hb4).mono ?_
        rintro e w3 ⟨rfl, hb6⟩
        have hb7 : Below wr.heap.size wr w3 := hb4.trans (hb6.mono hb4.size)
        have q2 := cell_of_one (MD.out.later hb7).box
        have q3 := free_of_one (MD.out.later hb7).box
        have r2 := cell_later hb6 r1
        have hn2 : n' = n2 := by rw [HG3.out.1, HG6.out.1]
        have hOA := Lib.hid (HG3.out.below (hb5.trans (hb6.mono hb5.size)))
        have hOM := Lib.hid (HG6.out.below hb6)
        clear q1 r1
        subst hn2
        have md3 := MD.out.set hb7 hOA.out hOM.out HG.out.1 HG2.out.1 HG.out.2 HG2.out.2
        have C4 := Lib.hid (is_any A' M' n' n' c' cm' _ _ md3.list md3.ref hA3 hL3)
        have r3 := cell_of_one md3.box
        have MD3 := Lib.hid md3
        clear md3
        go_wp2_with fail
        refine C4.out.mono ?_
        rintro e w4 ⟨rfl, hb8⟩
        have HF := Lib.hid (MD3.out.later hb8)
        clear hb8 r3
        go_wp2
        go_roundw
        case rel => exact ⟨k + 1, A', n', c', M', cm', by omega, by go_num, rfl, by rw [HP.out]; exact HF.out⟩
        case measure => simp [intOf]; omega
    · obtain rfl : k = acts.length := by omega
      have q1 := cell_of_one md.box
      have q2 := cell_of_one md.res
      have q3 := free_of_one md.res
      have MD := Lib.hid md
      clear md
      go_wp2
      refine bodyPost_ret (v := .tuple #[.agg #[.slice A n c], .slice M n cm, .bool true]) ?_ rfl ⟨A, n, c, M, cm, rfl, ?_, ?_, MD.out.hc, MD.out.hm, MD.out.hA, MD.out.hM, ?_⟩
      · have hc2 : (wr.setCell ⟨w.heap.size, 0, none⟩ (.slice A n c)).cell? ⟨w.heap.size, 0, none⟩ = some (.slice A n c) := World.cell?_setCell_same _ _ _ q2
        simp [results, Try.results21, go_sem, hc2]
      · have := (MD.out.list.setCell (p := ⟨w.heap.size, 0, none⟩) (off_not (by simp) (by simp)) (.slice A n c)).on
        rwa [List.take_length] at this
      · have := (MD.out.ref.setCell (p := ⟨w.heap.size, 0, none⟩) (off_not (by simp) (by simp)) (.slice A n c)).on
        rwa [List.take_length] at this
      · exact MD.out.below.setCell (by simp) _
end Go.Proofs.Ytpejhgkcofilmaa
