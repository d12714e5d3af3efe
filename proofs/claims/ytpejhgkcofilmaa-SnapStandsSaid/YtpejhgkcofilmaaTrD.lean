/- The walk of trim's All over a store. Conditions: the maps and lists lie in blocks that meet S; the lists ascend and have at most 10^6 versions. -/
import Derived.Test.YtpejhgkcofilmaaTrC
set_option linter.unusedVariables false
namespace Go.Proofs.Ytpejhgkcofilmaa
open Go.RowKit

/-- The cells below k that have versions. -/
def Sn.locs (s : Sn) : Nat → List Int
  | 0 => []
  | k + 1 => s.locs k ++ if 0 < (s.L k).length then [(k : Int)] else []
theorem Sn.locs_len (s : Sn) (k : Nat) : (s.locs k).length ≤ k := by
  induction k with
  | zero => simp [Sn.locs]
  | succ k ih => unfold Sn.locs; split <;> simp <;> omega
def Sn.all (s : Sn) : Sn × Int := s.cells (s.locs 2048)

theorem own_keep {w w' : World} {base : Nat} {e : TypeId} {size : Nat} {v : Value} {n : Nat} {xs : List Value} (h : w.ownsRow base e size v n xs) (hk : ∀ b, v.ownBlock = some b → w'.heap[b]? = w.heap[b]?) : w'.ownsRow base e size v n xs := by
  refine ⟨h.1, h.2.imp (fun h => h) ?_⟩
  rintro ⟨g, cap, cur, rfl, h1, h2, h3⟩
  exact ⟨g, cap, cur, rfl, h1, (hk g rfl).trans h2, h3⟩
theorem own_below {w w' : World} {base : Nat} {e : TypeId} {size : Nat} {v : Value} {n : Nat} {xs : List Value} (h : w.ownsRow base e size v n xs) (hb : Below w.heap.size w w') : w'.ownsRow base e size v n xs :=
  own_keep h fun b hb' => hb.block b (h.lt b hb').2
/-- A store boxed: the block's cells. -/
theorem box_row {ops : Array Oper} {rest : List Oper} {a : Act} {w : World} {Q : Exit → Act → World → Prop} {o : Oper} {s : Sn} {b1 b2 : Option Nat} (hg : o.guard = none) (x : Operand) (ho : o.op = .box 57 x) (hx : a.eval x = s.val b1 b2)
    (k : ∀ w', w'.heap[w.heap.size]? = some (.cells (stoCells s.c s.n (.map b1) (.map b2) s.B s.T) 57 (0, 0)) → Below w.heap.size w w' → w'.heap.size = w.heap.size + 1 → wpList Try.prog ops Q rest (a.put o.dst (.pointer (some ⟨w.heap.size, 0, none⟩))) w') : wpList Try.prog ops Q (o :: rest) a w := by
  refine box_sto hg x ho _ rfl hx ?_
  exact k _ (heap_alloc_new _ _) ((Below.refl _ _).alloc (Nat.le_refl _) _) (by simp)

set_option maxRecDepth 100000 in
set_option maxHeartbeats 12800000 in
theorem all_any {S : Nat → Prop} {s : Sn} {b1 b2 : Option Nat} (w : World) (hS : ∀ b, w.heap.size ≤ b → S b) (hm : s.Maps w S b1 b2) (hok : s.Ok) :
    Calls Try.prog 46 #[s.val b1 b2] w fun e w' => ∃ b5 b6, e = .returned (.tuple #[s.all.1.val b5 b6, .int .i64 s.all.2]) ∧ s.all.1.Maps w' S b5 b6 ∧ Below w.heap.size w w' := by
  obtain ⟨i0, hi0, hz0, hz1, hz2⟩ := info_parts (P := Try.prog) (e := 67) (z := .int .i64 0) (size := 1) (bytes := 8) (by kernel_rfl)
  have HM := Lib.hid (hm.more (S' := SX S w.heap.size (w.heap.size + 1)) fun b hb h => ⟨h, by omega, by omega⟩)
  have HF := Lib.hid hok
  have HS := Lib.hid hS
  clear hm hok hS
  go_enter Try.func46, Try.ntmps46
  go_wp2_with (with_reducible refine at_box_ (t := 57) ?_; refine box_row (s := s) (b1 := b1) (b2 := b2) rfl _ rfl rfl ?_)
  intro w0 hp hb1 hz1
  have P := Lib.hid hp
  have HB := Lib.hid hb1
  have HZ := Lib.hid hz1
  clear hp hb1 hz1
  go_wp2_with (with_reducible refine at_alloc_ (t := 57) ?_; refine alloc_at (S := fun _ => False) rfl rfl ?_)
  intro w1 hp hb1 hz1
  have P1 := Lib.hid ((hb1.block w.heap.size (lt_of_block P.out)).trans P.out)
  rw [HZ.out] at hp hz1 ⊢
  have R1 := Lib.hid hp
  have HB1 := Lib.hid (HB.out.trans (hb1.mono HB.out.size))
  have HZ1 := Lib.hid (show w.heap.size + 2 ≤ w1.heap.size by omega)
  clear hp hb1 hz1 P HB HZ
  go_wp2
  go_loopw [4, 6] (fun v i wr => ∃ k : Nat, k ≤ 2048 ∧ i = .int .i64 k ∧ Hid (wr.ownsRow (w.heap.size + 2) 67 1 v (s.locs k).length ((s.locs k).map (.int .i64 ·))) ∧ Hid (wr.heap[w.heap.size]? = some (.cells (stoCells s.c s.n (.map b1) (.map b2) s.B s.T) 57 (0, 0))) ∧ Hid ((Sn.zero 0).At wr (fun _ => False) (w.heap.size + 1)) ∧ Hid (Below w.heap.size w wr) ∧ Hid (w.heap.size + 2 ≤ wr.heap.size)) (fun _ i _ => 2048 - (intOf i).toNat)
  case atStart => exact ⟨0, by omega, rfl, Lib.hid (World.ownsRow_nil _ _ _ _), P1, R1, HB1, HZ1⟩
  case round =>
    clear P1 R1 HB1 HZ1
    obtain ⟨k, hk, rfl, HO, P, R, HB, HZ⟩ := hrel
    by_cases hlt : k < 2048
    · have h8 : (k : Int) < 2048 := by omega
      have HK := Lib.hid hlt
      have HLE := Lib.hid (s.locs_len k)
      clear hlt hk
      go_wp2_with (with_reducible refine at_load_ (t := 57) ?_; refine get_sto rfl _ rfl w.heap.size rfl P.out ?_)
      refine (st_list (S := SX S w.heap.size (w.heap.size + 1)) (k : Int) (fun b hb => ⟨HS.out b (by have := HZ.out; omega), by have := HZ.out; omega, by have := HZ.out; omega⟩) (HM.out.below HB.out)).mono ?_
      rintro e w2 ⟨u, rfl, ⟨A, n, c, rfl, hc1, hc2, hv⟩, hb2⟩
      have HN := Lib.hid hv.1
      have P2 := Lib.hid ((hb2.block w.heap.size (lt_of_block P.out)).trans P.out)
      have R2 := Lib.hid (R.out.below hb2)
      have HO2 := Lib.hid (own_below HO.out hb2)
      have HB2 := Lib.hid (HB.out.trans (hb2.mono HB.out.size))
      have HZ2 := Lib.hid (Nat.le_trans HZ.out hb2.size)
      clear hv hb2 hc1 hc2 P R HO HB HZ
      go_wp2_with fail
      refine (len_any A n c w2).mono ?_
      rintro e w3 ⟨rfl, hb3⟩
      have P3 := Lib.hid ((hb3.block w.heap.size (lt_of_block P2.out)).trans P2.out)
      have R3 := Lib.hid (R2.out.below hb3)
      have HO3 := Lib.hid (own_below HO2.out hb3)
      have HB3 := Lib.hid (HB2.out.trans (hb3.mono HB2.out.size))
      have HZ3 := Lib.hid (Nat.le_trans HZ2.out hb3.size)
      clear hb3 P2 R2 HO2 HB2 HZ2
      by_cases hn0 : n = 0
      · subst hn0
        have HE := Lib.hid (show s.locs (k + 1) = s.locs k by have := HN.out; show _ ++ _ = _; rw [if_neg (by omega), List.append_nil])
        go_wp2
        go_roundw
        case rel => exact ⟨k + 1, by have := HK.out; omega, by go_num, by rw [HE.out]; exact HO3, P3, R3, HB3, HZ3⟩
        case measure => exact meas_up _ _ HK.out
      · have hn1 : (0 : Int) < (n : Int) := by omega
        have HE := Lib.hid (show s.locs (k + 1) = s.locs k ++ [(k : Int)] by have := HN.out; show _ ++ _ = _; rw [if_pos (by omega)])
        have HNW := Lib.hid (Reads.newAt (S := fun _ => True) (size := 1) (n := 1) w3 w3.heap.size #[.int .i64 (k : Int)] 67 rfl rfl trivial)
        clear hn0
        go_wp2_with (at_builtin; (refine wpList_append_any rfl (.tmp 14) (.tmp 16) 117 rfl (w.heap.size + 2) 67 i0 _ 1 8 Try.underlying117 hi0 hz0 hz1 hz2 rfl (by omega) _ _ _ rfl (HO3.out.alloc _) _ _ 1 1 _ rfl HNW.out ?k1 ?k2 ?k3 ?k4 ?k5))
        case k1 => first | rfl | (intro u hu; simp at hu; subst hu; rfl)
        case k2 => have := HLE.out; have := HK.out; simp only [maxLen]; omega
        case k3 => have := HLE.out; have := HK.out; omega
        case k4 => have := HZ3.out; first | omega | (simp; omega)
        case k5 =>
          intro v' w' ho hg _
          have HO' := Lib.hid (show w'.ownsRow (w.heap.size + 2) 67 1 v' (s.locs (k + 1)).length ((s.locs (k + 1)).map (.int .i64 ·)) by rw [HE.out, List.length_append, List.map_append]; exact ho)
          have hS0 : w3.heap.size < (w3.alloc (.cells #[.int .i64 (k : Int)] 67)).heap.size := by simp
          have hne : ∀ b, b < w.heap.size + 2 → b < (w3.alloc (.cells #[.int .i64 (k : Int)] 67)).heap.size ∧ Value.ownBlock _ ≠ some b := fun b hb => ⟨by have := HZ3.out; omega, fun e => by have := (HO3.out.lt b e).1; omega⟩
          have hbA := (HB3.out.alloc HB3.out.size (.cells #[.int .i64 (k : Int)] 67)).grown hg (by have := HZ3.out; simp; omega) (fun g hg' => by have := (HO3.out.lt g hg').1; omega)
          have P' := Lib.hid ((hg.block w.heap.size (hne _ (by omega)).1 (fun e => (hne w.heap.size (by omega)).2 e.symm)).trans ((heap_alloc_old w3 _ (lt_of_block P3.out)).trans P3.out))
          have R' : Hid ((Sn.zero 0).At w' (fun _ => False) (w.heap.size + 1)) := by
            obtain ⟨d1, d2, hblk, hm⟩ := R3.out
            refine ⟨none, none, ?_, Sn.zero_maps 0 _ _⟩
            have hm1 : d1 = none := by
              obtain ⟨f, g, W0, h1, _⟩ := hm
              rcases h1 with ⟨h, _⟩ | ⟨b, _, h, _⟩
              · injection h
              · exact absurd h (fun h => h)
            have hm2 : d2 = none := by
              obtain ⟨f, g, W0, _, _, h1, _⟩ := hm
              rcases h1 with ⟨h, _⟩ | ⟨b, _, h, _⟩
              · injection h
              · exact absurd h (fun h => h)
            subst hm1 hm2
            exact (hg.block (w.heap.size + 1) (hne _ (by omega)).1 (fun e => (hne (w.heap.size + 1) (by omega)).2 e.symm)).trans ((heap_alloc_old w3 _ (lt_of_block hblk)).trans hblk)
          have HB' := Lib.hid hbA
          have HZ' := Lib.hid (show w.heap.size + 2 ≤ w'.heap.size by have := hg.size; have := HZ3.out; omega)
          clear ho hg hbA hne hS0 P3 R3 HO3 HB3 HZ3
          go_wp2
          go_roundw
          case rel => exact ⟨k + 1, by have := HK.out; omega, by go_num, HO', P', R', HB', HZ'⟩
          case measure => exact meas_up _ _ HK.out
    · obtain rfl : k = 2048 := by omega
      clear hlt hk
      obtain ⟨A, c, rfl, g1, g2, g3⟩ := own_reads (S := fun _ => True) HO.out (fun _ _ => trivial)
      have HI := Lib.hid (show Ints wr (fun _ => True) A (s.locs 2048).length (s.locs 2048) from ⟨rfl, g3⟩)
      have HLE := Lib.hid (s.locs_len 2048)
      clear g3
      go_wp2_with (with_reducible refine at_load_ (t := 57) ?_; refine get_sto rfl _ rfl w.heap.size rfl P.out ?_)
      refine (cells_any (S := SX S w.heap.size (w.heap.size + 1)) A _ c (s.locs 2048) wr (fun b hb => ⟨HS.out b (by have := HZ.out; omega), by have := HZ.out; omega, by have := HZ.out; omega⟩) (HM.out.below HB.out) HF.out HI.out (by have := HLE.out; omega)).mono ?_
      rintro e w2 ⟨b5, b6, rfl, hm2, hb2⟩
      have R2 := Lib.hid (R.out.below hb2)
      have HB2 := Lib.hid (HB.out.trans (hb2.mono HB.out.size))
      have HM2 := Lib.hid hm2
      have HA := Lib.hid (show s.all = s.cells (s.locs 2048) from rfl)
      clear hm2 hb2
      rw [← HA.out] at HM2 ⊢
      go_wp2_with (with_reducible refine at_store_ (t := 57) ?_; refine Hid.out ?_)
      refine Lib.hid ?_
      refine put_at rfl (.tmp 2) (.tmp 22) rfl rfl (w.heap.size + 1) rfl rfl R2.out HM2.out (fun h => h.2.2 rfl) ?_
      intro w5 hp5 ht5
      have HP := Lib.hid hp5
      have HB5 := Lib.hid (ht5.below HB2.out (Nat.le_succ _))
      clear hp5 ht5
      go_wp2_with fail
      obtain ⟨b5, b6, hblk, hmm⟩ := HP.out
      have hl := load_sto _ _ _ _ _ hblk rfl
      refine bodyPost_ret (v := .tuple #[s.all.1.val b5 b6, .int .i64 s.all.2]) ?_ rfl ⟨b5, b6, rfl, hmm.more fun b _ h => h.1, HB5.out⟩
      simp [results, Try.results46, asAddr, hl, sto, Sn.val, Result.andThen]
end Go.Proofs.Ytpejhgkcofilmaa
