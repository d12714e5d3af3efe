/- The walk of the law's room. Conditions: strings as long as the machine has them; the room lies between -2^61 and 400. -/
import Derived.Test.YthfjkdgaiaokdaaDoorSyL
import Derived.Deep.RegionHeld3
set_option linter.unusedVariables false
set_option linter.unusedSimpArgs false
namespace Go.Proofs.YthfjkdgaiaokdaaDoor
open Go.RowKit

def RoomS (l : List St) : Prop := ∀ (w : World) (S : Nat → Prop) (A : Option Addr) (n c : Nat) (l1 : Int), SL w S A n c l → -2305843009213693952 ≤ l1 → l1 ≤ 400 → Calls Tryd.prog 16 #[.slice A n c, .int .i64 l1] w fun e' w' => e' = .returned (.int .i64 (roomS l l1)) ∧ Below w.heap.size w w'
theorem wrap_i64 {x : Int} (h1 : -9223372036854775808 ≤ x) (h2 : x ≤ 9223372036854775807) : IntKind.i64.wrap x = x := by
  simp [IntKind.wrap, IntKind.bits, IntKind.signed]
  first | omega | (split <;> omega)
theorem stC_at3 {w : World} {b o : Nat} {k ek n en : Int} {s es em : Str} {A O B L : Option Addr} {na ca no co nb cb nl cl : Nat} (h : w.rangeAt b o (stC k s n (exC ek en es em A na ca O no co) B nb cb L nl cl)) :
    w.cell? ⟨b, o + 1, none⟩ = some (.string (bs s)) ∧ w.cell? ⟨b, o + 3, none⟩ = some (.int .i64 ek) ∧ w.cell? ⟨b, o + 3 + 1, none⟩ = some (.int .i64 en) ∧ w.cell? ⟨b, o + 3 + 2, none⟩ = some (.string (bs es)) ∧ w.cell? ⟨b, o + 3 + 3, none⟩ = some (.string (bs em)) ∧ w.cell? ⟨b, o + 3 + 4, none⟩ = some (.slice A na ca) ∧ w.cell? ⟨b, o + 3 + 5, none⟩ = some (.slice O no co) ∧ w.cell? ⟨b, o + 9, none⟩ = some (.slice B nb cb) ∧ w.cell? ⟨b, o + 10, none⟩ = some (.slice L nl cl) :=
  ⟨h 1 _ rfl, h 3 _ rfl, h 4 _ rfl, h 5 _ rfl, h 6 _ rfl, h 7 _ rfl, h 8 _ rfl, h 9 _ rfl, h 10 _ rfl⟩
set_option maxRecDepth 100000 in
set_option maxHeartbeats 12800000 in
theorem roomS_of (l : List St) (hws : St.Wss l) (ih : ∀ x ∈ l, RoomS x.body ∧ RoomS x.els) : RoomS l := by
  intro w S A n c l1 hl hl3 hl4
  have HN := Lib.hid hl.1.1
  have HL := Lib.hid hl
  have HWS := Lib.hid hws
  have HI := Lib.hid ih
  obtain ⟨E, hE⟩ : ∃ E, E = roomS l l1 := ⟨_, rfl⟩
  rw [← hE]
  have HE := Lib.hid hE
  have z0 : Bz w w := ⟨Below.refl _ _⟩
  clear hl hws ih hE
  go_enter Tryd.func16, Tryd.ntmps16
  go_wp2_with fail
  go_loopw [1, 5] (fun left i wr => ∃ (q : Nat) (L : Int), q ≤ l.length ∧ left = .int .i64 L ∧ i = .int .i64 q ∧ Hid (L = roomS (l.take q) l1) ∧ -2500000000000000000 ≤ L ∧ L + q ≤ 400 ∧ Bz w wr) (fun _ i _ => l.length - (intOf i).toNat)
  case atStart => exact ⟨0, l1, Nat.zero_le _, rfl, rfl, Lib.hid (by rw [List.take_zero, roomS]), by omega, by omega, z0⟩
  case round =>
    clear z0
    obtain ⟨q, L, hq, rfl, rfl, n1, hL1, hL2, zr⟩ := hrel
    obtain ⟨wv, hwv⟩ : ∃ wv, wv = wr := ⟨_, rfl⟩
    subst hwv
    by_cases hc : q < l.length ∧ 0 ≤ L
    · have hi2 : (q : Int) < (n : Int) := by have := HN.out; omega
      have hi3 : (0 : Int) ≤ L := hc.2
      obtain ⟨x, b, off, cs, hx, rfl, hb, hS, hxv, hrow⟩ := HL.out.at q (by have := HN.out; omega)
      have HQL := Lib.hid hc.1
      have hmem := List.mem_of_getElem? hx
      have hxw := St.Wss_at HWS.out x hmem
      have hu := roomS_up hx (by rw [← n1.out]; exact hi3)
      rw [← n1.out] at hu
      have hbl := HI.out x hmem
      have hT1 := roomT_le x L
      have hT2 := roomT_ge x L hi3 hxw
      obtain ⟨xk, xs, xn, xe, xb, xl⟩ := x
      obtain ⟨ex, B, nb, cb, L', nl, cl, rfl, hex, hB, hLl⟩ := hxv.open_
      have HBS := Lib.hid hB
      have HLS := Lib.hid hLl
      rw [St.Ws] at hxw
      have hz1 : (bs xs).size ≤ 9223372036854775807 := hxw.1
      have q1 := roomE_le xe (L - 1 - ((bs xs).size : Int) / 100)
      have q2 := roomE_ge xe (L - 1 - ((bs xs).size : Int) / 100) hxw.2.1
      have HRE := Lib.hid (roomE_any _ xe (Nat.le_refl _) hxw.2.1)
      obtain ⟨V1, hV1⟩ : ∃ V, V = roomE xe (L - 1 - ((bs xs).size : Int) / 100) := ⟨_, rfl⟩
      have q3 := roomS_le xb V1
      have q4 := roomS_ge xb V1 hxw.2.2.1
      obtain ⟨V2, hV2⟩ : ∃ V, V = roomS xb V1 := ⟨_, rfl⟩
      obtain ⟨V3, hV3⟩ : ∃ V, V = roomS xl V2 := ⟨_, rfl⟩
      have hV : roomT (.mk xk xs xn xe xb xl) L = V3 := by rw [roomT, hV3, hV2, hV1, bs_size]
      rw [hV] at hu hT1 hT2
      have HU := Lib.hid hu.symm
      rw [← hV1] at q1 q2
      rw [← hV2] at q3 q4
      obtain ⟨ek, en, es, em, ea, eo⟩ := xe
      obtain ⟨EA, ena, eca, EO, eno, eco, rfl, -, -⟩ := hex.open_
      have HC := Lib.hid (show ∀ W, Bz w W → (W.cell? ⟨b, off + q * 11 + 1, none⟩ = some (.string (bs xs)) ∧ W.cell? ⟨b, off + q * 11 + 3, none⟩ = some (.int .i64 ek) ∧ W.cell? ⟨b, off + q * 11 + 3 + 1, none⟩ = some (.int .i64 en) ∧ W.cell? ⟨b, off + q * 11 + 3 + 2, none⟩ = some (.string (bs es)) ∧ W.cell? ⟨b, off + q * 11 + 3 + 3, none⟩ = some (.string (bs em)) ∧ W.cell? ⟨b, off + q * 11 + 3 + 4, none⟩ = some (.slice EA ena eca) ∧ W.cell? ⟨b, off + q * 11 + 3 + 5, none⟩ = some (.slice EO eno eco) ∧ W.cell? ⟨b, off + q * 11 + 9, none⟩ = some (.slice B nb cb) ∧ W.cell? ⟨b, off + q * 11 + 10, none⟩ = some (.slice L' nl cl)) from fun W h => stC_at3 (rangeAt_keep hrow (h.b.block b hb)))
      have K1 := Lib.hid (show ∀ W, Bz w W → Calls Tryd.prog 34 #[.agg (exC ek en es em EA ena eca EO eno eco).toArray, .int .i64 (L - 1 - ((bs xs).size : Int) / 100)] W fun e' w' => e' = .returned (.int .i64 V1) ∧ Below W.heap.size W w' from fun W h => by
        rw [hV1]
        exact HRE.out W S _ _ (hex.below h.b) (by omega) (by omega))
      have K2 := Lib.hid (show ∀ W, Bz w W → Calls Tryd.prog 16 #[.slice B nb cb, .int .i64 V1] W fun e' w' => e' = .returned (.int .i64 V2) ∧ Below W.heap.size W w' from fun W h => by
        rw [hV2]
        exact hbl.1 W S _ _ _ _ (HBS.out.below h.b) (by omega) (by omega))
      have K3 := Lib.hid (show ∀ W, Bz w W → Calls Tryd.prog 16 #[.slice L' nl cl, .int .i64 V2] W fun e' w' => e' = .returned (.int .i64 V3) ∧ Below W.heap.size W w' from fun W h => by
        rw [hV3]
        exact hbl.2 W S _ _ _ _ (HLS.out.below h.b) (by omega) (by omega))
      have hr1 : -2500000000000000000 ≤ V3 := by omega
      have hr2 : V3 + ((q + 1 : Nat) : Int) ≤ 400 := by omega
      have zd := zr.drew
      clear hx hb hS hxv hrow hc hmem hxw q1 q2 q3 q4 hV1 hV2 hV3 hV hu hT1 hT2 hex hB hLl hbl HBS HLS HRE n1
      unfold exC at K1
      go_upto_region 4 with fail
      refine wp_region_held_drew (S := fun W => (W.cell? ⟨b, off + q * 11 + 1, none⟩ = some (.string (bs xs)) ∧ W.cell? ⟨b, off + q * 11 + 3, none⟩ = some (.int .i64 ek) ∧ W.cell? ⟨b, off + q * 11 + 3 + 1, none⟩ = some (.int .i64 en) ∧ W.cell? ⟨b, off + q * 11 + 3 + 2, none⟩ = some (.string (bs es)) ∧ W.cell? ⟨b, off + q * 11 + 3 + 3, none⟩ = some (.string (bs em)) ∧ W.cell? ⟨b, off + q * 11 + 3 + 4, none⟩ = some (.slice EA ena eca) ∧ W.cell? ⟨b, off + q * 11 + 3 + 5, none⟩ = some (.slice EO eno eco) ∧ W.cell? ⟨b, off + q * 11 + 9, none⟩ = some (.slice B nb cb) ∧ W.cell? ⟨b, off + q * 11 + 10, none⟩ = some (.slice L' nl cl))) (by kernel_rfl) (HC.out _ zd) (fun hHeld => ?_)
      refine wpAnyH_take (i := 0) (oi := ⟨some 16, _, _, _, _, _⟩) (v := .slice (some ⟨b, off, none⟩) n c) rfl (by kernel_rfl) (by kernel_rfl) (by kernel_rfl) (fun _ _ _ h => h) (Or.inl ⟨by rfl, ?_⟩) hHeld ?_
      · intro W hW
        obtain ⟨h0, h1, h2, h3, h4, h5, h6, h7, h8⟩ := hW
        go_simp
      try simp only [Act.put, List.setIfInBounds_toArray, List.set_cons_zero, List.set_cons_succ]
      refine wpAnyH_take (i := 1) (oi := ⟨some 17, _, _, _, _, _⟩) (v := .int .i64 (q : Int)) rfl (by kernel_rfl) (by kernel_rfl) (by kernel_rfl) (fun _ _ _ h => h) (Or.inl ⟨by rfl, ?_⟩) hHeld ?_
      · intro W hW
        obtain ⟨h0, h1, h2, h3, h4, h5, h6, h7, h8⟩ := hW
        go_simp
      try simp only [Act.put, List.setIfInBounds_toArray, List.set_cons_zero, List.set_cons_succ]
      refine wpAnyH_take (i := 2) (oi := ⟨some 18, _, _, _, _, _⟩) (v := .pointer (some ⟨b, off + q * 11, none⟩)) rfl (by kernel_rfl) (by kernel_rfl) (by kernel_rfl) (fun _ _ _ h => h) (Or.inl ⟨by rfl, ?_⟩) hHeld ?_
      · intro W hW
        obtain ⟨h0, h1, h2, h3, h4, h5, h6, h7, h8⟩ := hW
        go_simp
      try simp only [Act.put, List.setIfInBounds_toArray, List.set_cons_zero, List.set_cons_succ]
      refine wpAnyH_take (i := 3) (oi := ⟨some 19, _, _, _, _, _⟩) (v := .pointer (some ⟨b, off + q * 11 + 3, none⟩)) rfl (by kernel_rfl) (by kernel_rfl) (by kernel_rfl) (fun _ _ _ h => h) (Or.inl ⟨by rfl, ?_⟩) hHeld ?_
      · intro W hW
        obtain ⟨h0, h1, h2, h3, h4, h5, h6, h7, h8⟩ := hW
        go_simp
      try simp only [Act.put, List.setIfInBounds_toArray, List.set_cons_zero, List.set_cons_succ]
      refine wpAnyH_take (i := 4) (oi := ⟨some 20, _, _, _, _, _⟩) (v := .agg #[.int .i64 ek, .int .i64 en, .string (bs es), .string (bs em), .slice EA ena eca, .slice EO eno eco]) rfl (by kernel_rfl) (by kernel_rfl) (by kernel_rfl) (fun _ _ _ h => h) (Or.inl ⟨by rfl, ?_⟩) hHeld ?_
      · intro W hW
        obtain ⟨h0, h1, h2, h3, h4, h5, h6, h7, h8⟩ := hW
        go_simp
      try simp only [Act.put, List.setIfInBounds_toArray, List.set_cons_zero, List.set_cons_succ]
      refine wpAnyH_take (i := 5) (oi := ⟨some 21, _, _, _, _, _⟩) (v := .int .i64 L) rfl (by kernel_rfl) (by kernel_rfl) (by kernel_rfl) (fun _ _ _ h => h) (Or.inl ⟨by rfl, ?_⟩) hHeld ?_
      · intro W hW
        obtain ⟨h0, h1, h2, h3, h4, h5, h6, h7, h8⟩ := hW
        go_simp
      try simp only [Act.put, List.setIfInBounds_toArray, List.set_cons_zero, List.set_cons_succ]
      refine wpAnyH_take (i := 6) (oi := ⟨some 22, _, _, _, _, _⟩) (v := .int .i64 (L - 1)) rfl (by kernel_rfl) (by kernel_rfl) (by kernel_rfl) (fun _ _ _ h => h) (Or.inl ⟨by rfl, ?_⟩) hHeld ?_
      · intro W hW
        obtain ⟨h0, h1, h2, h3, h4, h5, h6, h7, h8⟩ := hW
        go_simp
        exact wrap_i64 (by omega) (by omega)
      try simp only [Act.put, List.setIfInBounds_toArray, List.set_cons_zero, List.set_cons_succ]
      refine wpAnyH_take (i := 7) (oi := ⟨some 23, _, _, _, _, _⟩) (v := .slice (some ⟨b, off, none⟩) n c) rfl (by kernel_rfl) (by kernel_rfl) (by kernel_rfl) (fun _ _ _ h => h) (Or.inl ⟨by rfl, ?_⟩) hHeld ?_
      · intro W hW
        obtain ⟨h0, h1, h2, h3, h4, h5, h6, h7, h8⟩ := hW
        go_simp
      try simp only [Act.put, List.setIfInBounds_toArray, List.set_cons_zero, List.set_cons_succ]
      refine wpAnyH_take (i := 8) (oi := ⟨some 24, _, _, _, _, _⟩) (v := .int .i64 (q : Int)) rfl (by kernel_rfl) (by kernel_rfl) (by kernel_rfl) (fun _ _ _ h => h) (Or.inl ⟨by rfl, ?_⟩) hHeld ?_
      · intro W hW
        obtain ⟨h0, h1, h2, h3, h4, h5, h6, h7, h8⟩ := hW
        go_simp
      try simp only [Act.put, List.setIfInBounds_toArray, List.set_cons_zero, List.set_cons_succ]
      refine wpAnyH_take (i := 9) (oi := ⟨some 25, _, _, _, _, _⟩) (v := .pointer (some ⟨b, off + q * 11, none⟩)) rfl (by kernel_rfl) (by kernel_rfl) (by kernel_rfl) (fun _ _ _ h => h) (Or.inl ⟨by rfl, ?_⟩) hHeld ?_
      · intro W hW
        obtain ⟨h0, h1, h2, h3, h4, h5, h6, h7, h8⟩ := hW
        go_simp
      try simp only [Act.put, List.setIfInBounds_toArray, List.set_cons_zero, List.set_cons_succ]
      refine wpAnyH_take (i := 10) (oi := ⟨some 26, _, _, _, _, _⟩) (v := .pointer (some ⟨b, off + q * 11 + 1, none⟩)) rfl (by kernel_rfl) (by kernel_rfl) (by kernel_rfl) (fun _ _ _ h => h) (Or.inl ⟨by rfl, ?_⟩) hHeld ?_
      · intro W hW
        obtain ⟨h0, h1, h2, h3, h4, h5, h6, h7, h8⟩ := hW
        go_simp
      try simp only [Act.put, List.setIfInBounds_toArray, List.set_cons_zero, List.set_cons_succ]
      refine wpAnyH_take (i := 11) (oi := ⟨some 27, _, _, _, _, _⟩) (v := .string (bs xs)) rfl (by kernel_rfl) (by kernel_rfl) (by kernel_rfl) (fun _ _ _ h => h) (Or.inl ⟨by rfl, ?_⟩) hHeld ?_
      · intro W hW
        obtain ⟨h0, h1, h2, h3, h4, h5, h6, h7, h8⟩ := hW
        go_simp
      try simp only [Act.put, List.setIfInBounds_toArray, List.set_cons_zero, List.set_cons_succ]
      refine wpAnyH_take (i := 12) (oi := ⟨some 28, _, _, _, _, _⟩) (v := .int .i64 ((bs xs).size : Int)) rfl (by kernel_rfl) (by kernel_rfl) (by kernel_rfl) (fun _ _ _ h => h) (Or.inl ⟨by rfl, ?_⟩) hHeld ?_
      · intro W hW
        obtain ⟨h0, h1, h2, h3, h4, h5, h6, h7, h8⟩ := hW
        go_simp
      try simp only [Act.put, List.setIfInBounds_toArray, List.set_cons_zero, List.set_cons_succ]
      refine wpAnyH_take (i := 13) (oi := ⟨some 29, _, _, _, _, _⟩) (v := .int .i64 (((bs xs).size : Int) / 100)) rfl (by kernel_rfl) (by kernel_rfl) (by kernel_rfl) (fun _ _ _ h => h) (Or.inl ⟨by rfl, ?_⟩) hHeld ?_
      · intro W hW
        obtain ⟨h0, h1, h2, h3, h4, h5, h6, h7, h8⟩ := hW
        go_simp
        exact wrap_i64 (by omega) (by omega)
      try simp only [Act.put, List.setIfInBounds_toArray, List.set_cons_zero, List.set_cons_succ]
      refine wpAnyH_take (i := 14) (oi := ⟨some 30, _, _, _, _, _⟩) (v := .int .i64 (L - 1 - ((bs xs).size : Int) / 100)) rfl (by kernel_rfl) (by kernel_rfl) (by kernel_rfl) (fun _ _ _ h => h) (Or.inl ⟨by rfl, ?_⟩) hHeld ?_
      · intro W hW
        obtain ⟨h0, h1, h2, h3, h4, h5, h6, h7, h8⟩ := hW
        go_simp
        exact wrap_i64 (by omega) (by omega)
      try simp only [Act.put, List.setIfInBounds_toArray, List.set_cons_zero, List.set_cons_succ]
      refine wpAnyH_ready (rs := [15]) (by kernel_rfl) (by simp) ?_
      refine AllReadyH.cons (o := ⟨some 31, _, _, _, _, _⟩) rfl (fun K hK => ?_) AllReadyH.nil
      refine Eq.mpr (if_pos (by kernel_rfl)) ?_
      go_simp
      refine (K1.out _ zd).mono ?_
      rintro e wt ⟨rfl, hb⟩
      have zt := zd.next hb
      refine hK.out _ _ (HC.out _ zt) (fun hHeld2 => ?_)
      clear hK
      try simp only [Act.put, List.setIfInBounds_toArray, List.set_cons_zero, List.set_cons_succ]
      refine wpAnyH_take (i := 16) (oi := ⟨some 1, _, _, _, _, _⟩) (v := .int .i64 V1) rfl (by kernel_rfl) (by kernel_rfl) (by kernel_rfl) (fun _ _ _ h => h) (Or.inl ⟨by rfl, ?_⟩) hHeld2 ?_
      · intro W hW
        obtain ⟨h0, h1, h2, h3, h4, h5, h6, h7, h8⟩ := hW
        go_simp
      try simp only [Act.put, List.setIfInBounds_toArray, List.set_cons_zero, List.set_cons_succ]
      refine wpAnyH_done (by kernel_rfl) ?_ _
      clear hHeld hHeld2
      have zu := zt.drew
      go_upto_region 5 with fail
      refine wp_region_held_drew (S := fun W => (W.cell? ⟨b, off + q * 11 + 1, none⟩ = some (.string (bs xs)) ∧ W.cell? ⟨b, off + q * 11 + 3, none⟩ = some (.int .i64 ek) ∧ W.cell? ⟨b, off + q * 11 + 3 + 1, none⟩ = some (.int .i64 en) ∧ W.cell? ⟨b, off + q * 11 + 3 + 2, none⟩ = some (.string (bs es)) ∧ W.cell? ⟨b, off + q * 11 + 3 + 3, none⟩ = some (.string (bs em)) ∧ W.cell? ⟨b, off + q * 11 + 3 + 4, none⟩ = some (.slice EA ena eca) ∧ W.cell? ⟨b, off + q * 11 + 3 + 5, none⟩ = some (.slice EO eno eco) ∧ W.cell? ⟨b, off + q * 11 + 9, none⟩ = some (.slice B nb cb) ∧ W.cell? ⟨b, off + q * 11 + 10, none⟩ = some (.slice L' nl cl))) (by kernel_rfl) (HC.out _ zu) (fun hHeld => ?_)
      refine wpAnyH_take (i := 0) (oi := ⟨some 32, _, _, _, _, _⟩) (v := .slice (some ⟨b, off, none⟩) n c) rfl (by kernel_rfl) (by kernel_rfl) (by kernel_rfl) (fun _ _ _ h => h) (Or.inl ⟨by rfl, ?_⟩) hHeld ?_
      · intro W hW
        obtain ⟨h0, h1, h2, h3, h4, h5, h6, h7, h8⟩ := hW
        go_simp
      try simp only [Act.put, List.setIfInBounds_toArray, List.set_cons_zero, List.set_cons_succ]
      refine wpAnyH_take (i := 1) (oi := ⟨some 33, _, _, _, _, _⟩) (v := .int .i64 (q : Int)) rfl (by kernel_rfl) (by kernel_rfl) (by kernel_rfl) (fun _ _ _ h => h) (Or.inl ⟨by rfl, ?_⟩) hHeld ?_
      · intro W hW
        obtain ⟨h0, h1, h2, h3, h4, h5, h6, h7, h8⟩ := hW
        go_simp
      try simp only [Act.put, List.setIfInBounds_toArray, List.set_cons_zero, List.set_cons_succ]
      refine wpAnyH_take (i := 2) (oi := ⟨some 34, _, _, _, _, _⟩) (v := .pointer (some ⟨b, off + q * 11, none⟩)) rfl (by kernel_rfl) (by kernel_rfl) (by kernel_rfl) (fun _ _ _ h => h) (Or.inl ⟨by rfl, ?_⟩) hHeld ?_
      · intro W hW
        obtain ⟨h0, h1, h2, h3, h4, h5, h6, h7, h8⟩ := hW
        go_simp
      try simp only [Act.put, List.setIfInBounds_toArray, List.set_cons_zero, List.set_cons_succ]
      refine wpAnyH_take (i := 3) (oi := ⟨some 35, _, _, _, _, _⟩) (v := .pointer (some ⟨b, off + q * 11 + 10, none⟩)) rfl (by kernel_rfl) (by kernel_rfl) (by kernel_rfl) (fun _ _ _ h => h) (Or.inl ⟨by rfl, ?_⟩) hHeld ?_
      · intro W hW
        obtain ⟨h0, h1, h2, h3, h4, h5, h6, h7, h8⟩ := hW
        go_simp
      try simp only [Act.put, List.setIfInBounds_toArray, List.set_cons_zero, List.set_cons_succ]
      refine wpAnyH_take (i := 4) (oi := ⟨some 36, _, _, _, _, _⟩) (v := .slice L' nl cl) rfl (by kernel_rfl) (by kernel_rfl) (by kernel_rfl) (fun _ _ _ h => h) (Or.inl ⟨by rfl, ?_⟩) hHeld ?_
      · intro W hW
        obtain ⟨h0, h1, h2, h3, h4, h5, h6, h7, h8⟩ := hW
        go_simp
      try simp only [Act.put, List.setIfInBounds_toArray, List.set_cons_zero, List.set_cons_succ]
      refine wpAnyH_take (i := 5) (oi := ⟨some 37, _, _, _, _, _⟩) (v := .slice (some ⟨b, off, none⟩) n c) rfl (by kernel_rfl) (by kernel_rfl) (by kernel_rfl) (fun _ _ _ h => h) (Or.inl ⟨by rfl, ?_⟩) hHeld ?_
      · intro W hW
        obtain ⟨h0, h1, h2, h3, h4, h5, h6, h7, h8⟩ := hW
        go_simp
      try simp only [Act.put, List.setIfInBounds_toArray, List.set_cons_zero, List.set_cons_succ]
      refine wpAnyH_take (i := 6) (oi := ⟨some 38, _, _, _, _, _⟩) (v := .int .i64 (q : Int)) rfl (by kernel_rfl) (by kernel_rfl) (by kernel_rfl) (fun _ _ _ h => h) (Or.inl ⟨by rfl, ?_⟩) hHeld ?_
      · intro W hW
        obtain ⟨h0, h1, h2, h3, h4, h5, h6, h7, h8⟩ := hW
        go_simp
      try simp only [Act.put, List.setIfInBounds_toArray, List.set_cons_zero, List.set_cons_succ]
      refine wpAnyH_take (i := 7) (oi := ⟨some 39, _, _, _, _, _⟩) (v := .pointer (some ⟨b, off + q * 11, none⟩)) rfl (by kernel_rfl) (by kernel_rfl) (by kernel_rfl) (fun _ _ _ h => h) (Or.inl ⟨by rfl, ?_⟩) hHeld ?_
      · intro W hW
        obtain ⟨h0, h1, h2, h3, h4, h5, h6, h7, h8⟩ := hW
        go_simp
      try simp only [Act.put, List.setIfInBounds_toArray, List.set_cons_zero, List.set_cons_succ]
      refine wpAnyH_take (i := 8) (oi := ⟨some 40, _, _, _, _, _⟩) (v := .pointer (some ⟨b, off + q * 11 + 9, none⟩)) rfl (by kernel_rfl) (by kernel_rfl) (by kernel_rfl) (fun _ _ _ h => h) (Or.inl ⟨by rfl, ?_⟩) hHeld ?_
      · intro W hW
        obtain ⟨h0, h1, h2, h3, h4, h5, h6, h7, h8⟩ := hW
        go_simp
      try simp only [Act.put, List.setIfInBounds_toArray, List.set_cons_zero, List.set_cons_succ]
      refine wpAnyH_take (i := 9) (oi := ⟨some 41, _, _, _, _, _⟩) (v := .slice B nb cb) rfl (by kernel_rfl) (by kernel_rfl) (by kernel_rfl) (fun _ _ _ h => h) (Or.inl ⟨by rfl, ?_⟩) hHeld ?_
      · intro W hW
        obtain ⟨h0, h1, h2, h3, h4, h5, h6, h7, h8⟩ := hW
        go_simp
      try simp only [Act.put, List.setIfInBounds_toArray, List.set_cons_zero, List.set_cons_succ]
      refine wpAnyH_take (i := 10) (oi := ⟨some 42, _, _, _, _, _⟩) (v := .int .i64 V1) rfl (by kernel_rfl) (by kernel_rfl) (by kernel_rfl) (fun _ _ _ h => h) (Or.inl ⟨by rfl, ?_⟩) hHeld ?_
      · intro W hW
        obtain ⟨h0, h1, h2, h3, h4, h5, h6, h7, h8⟩ := hW
        go_simp
      try simp only [Act.put, List.setIfInBounds_toArray, List.set_cons_zero, List.set_cons_succ]
      refine wpAnyH_ready (rs := [11]) (by kernel_rfl) (by simp) ?_
      refine AllReadyH.cons (o := ⟨some 43, _, _, _, _, _⟩) rfl (fun K hK => ?_) AllReadyH.nil
      refine Eq.mpr (if_pos (by kernel_rfl)) ?_
      go_simp
      refine (K2.out _ zu).mono ?_
      rintro e wx ⟨rfl, hb⟩
      have zx := zu.next hb
      refine hK.out _ _ (HC.out _ zx) (fun hHeld2 => ?_)
      clear hK
      try simp only [Act.put, List.setIfInBounds_toArray, List.set_cons_zero, List.set_cons_succ]
      refine wpAnyH_ready (rs := [12]) (by kernel_rfl) (by simp) ?_
      refine AllReadyH.cons (o := ⟨some 44, _, _, _, _, _⟩) rfl (fun K hK => ?_) AllReadyH.nil
      refine Eq.mpr (if_pos (by kernel_rfl)) ?_
      go_simp
      refine (K3.out _ zx).mono ?_
      rintro e wy ⟨rfl, hb⟩
      have zy := zx.next hb
      refine hK.out _ _ (HC.out _ zy) (fun hHeld3 => ?_)
      clear hK
      try simp only [Act.put, List.setIfInBounds_toArray, List.set_cons_zero, List.set_cons_succ]
      refine wpAnyH_take (i := 13) (oi := ⟨some 1, _, _, _, _, _⟩) (v := .int .i64 V3) rfl (by kernel_rfl) (by kernel_rfl) (by kernel_rfl) (fun _ _ _ h => h) (Or.inl ⟨by rfl, ?_⟩) hHeld3 ?_
      · intro W hW
        obtain ⟨h0, h1, h2, h3, h4, h5, h6, h7, h8⟩ := hW
        go_simp
      try simp only [Act.put, List.setIfInBounds_toArray, List.set_cons_zero, List.set_cons_succ]
      refine wpAnyH_done (by kernel_rfl) ?_ _
      clear hHeld hHeld2 hHeld3 HC K1 K2 K3
      have HU2 := Lib.hid (show V3 = roomS (l.take (q + 1)) l1 from HU.out)
      go_wp2
      go_roundw
      case rel => exact ⟨q + 1, V3, HQL.out, rfl, by go_num, HU2, hr1, hr2, zy⟩
      case measure => exact meas_up _ _ HQL.out
    · have HR := Lib.hid (show E = L by rw [HE.out, n1.out]; exact roomS_end (by have := n1.out; rw [← this]; omega))
      rcases (show ¬ (q : Int) < (n : Int) ∨ ((q : Int) < (n : Int) ∧ ¬ (0 : Int) ≤ L) by have := HN.out; omega) with hi2 | ⟨hi2, hi3⟩
      · clear hc n1
        go_wp2
        go_ret
        exact ⟨congrArg (fun v => Ending.returned (.int .i64 v)) HR.out.symm, zr.b⟩
      · clear hc n1
        go_wp2
        go_ret
        exact ⟨congrArg (fun v => Ending.returned (.int .i64 v)) HR.out.symm, zr.b⟩
theorem roomS_any : ∀ (n : Nat) (l : List St), St.sizes l ≤ n → St.Wss l → RoomS l
  | 0, [], _, hw => roomS_of [] hw (fun x hx => by cases hx)
  | 0, .mk k s n e b t :: r, h, hw => by rw [St.sizes, St.size] at h; omega
  | n + 1, l, h, hw => roomS_of l hw (fun x hx => by
    have h1 := St.sizes_mem hx
    have h2 := St.Wss_at hw x hx
    obtain ⟨k, s, u, e, b, t⟩ := x
    rw [St.size] at h1
    rw [St.Ws] at h2
    exact ⟨roomS_any n b (by omega) h2.2.2.1, roomS_any n t (by omega) h2.2.2.2⟩)
end Go.Proofs.YthfjkdgaiaokdaaDoor
