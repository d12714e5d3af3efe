/- law28's do in one contract; the walks of its Few and of played. Conditions: at most 60 acts of at most eight writes or entries; one to six cells. -/
import Derived.Test.YtpejhgkcofilmaaRj
set_option linter.unusedVariables false
namespace Go.Proofs.Ytpejhgkcofilmaa
open Go.RowKit

theorem do_any {S : Nat → Prop} (n : Nat) (s : Sn) (d : Rd) (m : Int) (a : SA) (b1 b2 : Option Nat) (sa sv : Value) (w : World) (hS : ∀ b, w.heap.size ≤ b → S b) (hr : Rel n s d m) (hm9 : m ≤ 900) (hn1 : 1 ≤ n) (hn6 : n ≤ 6)
    (hm : s.Maps w S b1 b2) (hd : d.Mem w S sa sv) (ha : a.ok w S) (h8 : a.ws.length ≤ 8) (h8r : a.raw.length ≤ 8) :
    Calls Try.prog 39 #[s.val b1 b2, d.val sa sv, a.val] w fun e w' => ∃ c5 c6 sa' sv', e = .returned (.tuple #[(doS n s d a).val c5 c6, (doD n s d a).val sa' sv', .bool true]) ∧ (doS n s d a).Maps w' S c5 c6 ∧ (doD n s d a).Mem w' S sa' sv' ∧ Below w.heap.size w w' := by
  by_cases h3 : a.kind % 6 = 3
  · exact do_open n s d m a b1 b2 sa sv w hS hr hm9 hn1 hn6 hm hd ha h8 h8r h3
  · by_cases h4 : a.kind % 6 = 4
    · exact do_close n s d m a b1 b2 sa sv w hS hr hm9 hn1 hn6 hm hd ha h8 h8r h4
    · by_cases h5 : a.kind % 6 = 5
      · exact do_raw n s d m a b1 b2 sa sv w hS hr hm9 hn1 hn6 hm hd ha h8 h8r h5
      · exact do_writes n s d m a b1 b2 sa sv w hS hr hm9 hn1 hn6 hm hd ha h8 h8r ⟨h3, h4, h5⟩
def saL (a : SA) : List Value := [.int .u8 a.kind, .slice a.AW a.mw a.cw, .int .i64 a.num, .slice a.AR a.mr a.cr]
def SAs (w : World) (S : Nat → Prop) (A : Option Addr) (n : Nat) (l : List SA) : Prop := n = l.length ∧ Reads w S 4 A n (l.flatMap saL) ∧ ∀ a ∈ l, a.ok w S
theorem SAs.below {w w' : World} {S : Nat → Prop} {A : Option Addr} {n : Nat} {l : List SA} (h : SAs w S A n l) (hb : Below w.heap.size w w') : SAs w' S A n l := ⟨h.1, h.2.1.below hb, fun a ha => (h.2.2 a ha).below hb⟩
theorem SAs.cell {w : World} {S : Nat → Prop} {A : Option Addr} {n : Nat} {l : List SA} (h : SAs w S A n l) (k : Nat) (hk : k < l.length) :
    ∃ b o, A = some ⟨b, o, none⟩ ∧ b < w.heap.size ∧ ∀ w', Below w.heap.size w w' → w'.cell? ⟨b, o + k * 4, none⟩ = some (.int .u8 l[k].kind) ∧ w'.cell? ⟨b, o + k * 4 + 1, none⟩ = some (.slice l[k].AW l[k].mw l[k].cw) ∧ w'.cell? ⟨b, o + k * 4 + 2, none⟩ = some (.int .i64 l[k].num) ∧ w'.cell? ⟨b, o + k * 4 + 3, none⟩ = some (.slice l[k].AR l[k].mr l[k].cr) := by
  obtain ⟨rfl, h1, _⟩ := h
  obtain ⟨b, o, e, hb, hS, hc⟩ := h1.2 (by omega)
  refine ⟨b, o, e, hb, fun w' hb' => ?_⟩
  have g := fun (j : Nat) (u : Value) (hj : j < 4) (hu : (saL l[k])[j]? = some u) => (hb'.cell (p := ⟨b, o + (k * 4 + j), none⟩) hb).trans (hc (k * 4 + j) u ((flat_get2 (s := 4) (fun _ => rfl) l k hk j hj).trans hu))
  refine ⟨?_, ?_, ?_, ?_⟩
  · have := g 0 _ (by omega) rfl; rwa [← Nat.add_assoc] at this
  · have := g 1 _ (by omega) rfl; rwa [← Nat.add_assoc] at this
  · have := g 2 _ (by omega) rfl; rwa [← Nat.add_assoc] at this
  · have := g 3 _ (by omega) rfl; rwa [← Nat.add_assoc] at this
/-- Is the input small enough? -/
def SA.big (a : SA) : Bool := decide (8 < a.mw) || decide (8 < a.mr)
def fewB (l : List SA) : Bool := !l.any SA.big && decide (l.length ≤ 60)
theorem few_yes {w : World} {S : Nat → Prop} {A : Option Addr} {n : Nat} {l : List SA} (hl : SAs w S A n l) (h : fewB l = true) : l.length ≤ 60 ∧ ∀ a ∈ l, a.ws.length ≤ 8 ∧ a.raw.length ≤ 8 := by
  unfold fewB at h
  simp at h
  refine ⟨h.2, fun a ha => ?_⟩
  have h1 := h.1 a ha
  have h2 := (hl.2.2 a ha).2.1.1.1
  have h3 := (hl.2.2 a ha).2.2.1.1
  unfold SA.big at h1
  simp at h1
  omega

set_option maxRecDepth 100000 in
set_option maxHeartbeats 6400000 in
theorem few28_any {S : Nat → Prop} (A : Option Addr) (n c : Nat) (l : List SA) (w : World) (hl : SAs w S A n l) (hlen : l.length ≤ 9223372036854775807) :
    Calls Try.prog 35 #[.slice A n c] w fun e w' => e = .returned (.bool (fewB l)) ∧ Below w.heap.size w w' := by
  have HL := Lib.hid hl
  have HN := Lib.hid hl.1
  have hnn : (n : Int) ≤ 9223372036854775807 := by have := hl.1; omega
  clear hl hlen
  go_enter Try.func35, Try.ntmps35
  go_wp2
  go_loopw [7] (fun i wr => ∃ k : Nat, k ≤ l.length ∧ i = .int .i64 k ∧ Hid ((l.take k).any SA.big = false) ∧ Hid (Below w.heap.size w wr)) (fun i _ => l.length - (intOf i).toNat)
  case atStart => exact ⟨0, by omega, rfl, Lib.hid rfl, Lib.hid (Below.refl _ _)⟩
  case round =>
    obtain ⟨k, hk, rfl, HA, HB⟩ := hrel
    by_cases hlt : k < l.length
    · skip
      have hi : (k : Int) < (n : Int) := by have := HN.out; omega
      obtain ⟨b, o, rfl, hbb, hc⟩ := HL.out.cell k hlt
      obtain ⟨c0, c1, c2, c3⟩ := hc wr HB.out
      have HK := Lib.hid hlt
      have HT := Lib.hid (any_take SA.big l k hlt HA.out)
      have HH := Lib.hid (any_hit SA.big l k hlt)
      have HBA := Lib.hid fun (o : Obj) => HB.out.alloc HB.out.size o
      clear hk HA HB hc hbb
      generalize l[k] = y at *
      clear hlt
      obtain ⟨kd, nm, AW, mw, cw, ws, AR, mr, cr, rw⟩ := y
      dsimp only at c0 c1 c2 c3
      by_cases h1 : 8 < mw
      · have h1i : (8 : Int) < (mw : Int) := by omega
        have HF := Lib.hid (show fewB l = false by unfold fewB; rw [HH.out (by unfold SA.big; dsimp only; rw [decide_eq_true h1]; rfl)]; rfl)
        clear HT HH h1
        go_wp2
        go_ret
        exact ⟨by rw [HF.out]; rfl, HBA.out _⟩
      · have h1i : (mw : Int) ≤ 8 := by omega
        by_cases h2 : 8 < mr
        · have h2i : (8 : Int) < (mr : Int) := by omega
          have HF := Lib.hid (show fewB l = false by unfold fewB; rw [HH.out (by unfold SA.big; dsimp only; rw [decide_eq_true h2, Bool.or_true])]; rfl)
          clear HT HH h1 h2
          go_wp2
          go_ret
          exact ⟨by rw [HF.out]; rfl, HBA.out _⟩
        · have h2i : (mr : Int) ≤ 8 := by omega
          have HF := Lib.hid (HT.out.trans (show SA.big ⟨kd, nm, AW, mw, cw, ws, AR, mr, cr, rw⟩ = false by unfold SA.big; dsimp only; rw [decide_eq_false h1, decide_eq_false h2]; rfl))
          clear HT HH h1 h2
          go_wp2
          go_roundw
          case rel => exact ⟨k + 1, HK.out, by go_num, HF, Lib.hid (HBA.out _)⟩
          case measure => exact meas_up _ _ HK.out
    · obtain rfl : k = l.length := by omega
      have hi : (n : Int) ≤ (l.length : Int) := by have := HN.out; omega
      rw [List.take_length] at HA
      have HF := Lib.hid (show fewB l = decide ((n : Int) ≤ 60) by unfold fewB; rw [HA.out, Bool.not_false, Bool.true_and]; exact decide_eq_decide.2 (by have := HN.out; omega))
      clear hk hlt HA
      go_wp2
      go_ret
      exact ⟨by rw [HF.out]; rfl, HB.out⟩

/-- What played builds. -/
def playF (n : Nat) (l : List SA) : Sn × Rd := l.foldl (fun p a => (doS n p.1 p.2 a, doD n p.1 p.2 a)) (Sn.zero n, Rd.new n)
theorem playF_step (n : Nat) (l : List SA) (k : Nat) (hk : k < l.length) : playF n (l.take (k + 1)) = (doS n (playF n (l.take k)).1 (playF n (l.take k)).2 l[k], doD n (playF n (l.take k)).1 (playF n (l.take k)).2 l[k]) := by
  unfold playF
  rw [List.take_succ_eq_append_getElem hk, List.foldl_append]
  rfl
theorem play_rel (n : Nat) (l : List SA) (h60 : l.length ≤ 900) (k : Nat) (hk : k ≤ l.length) : Rel n (playF n (l.take k)).1 (playF n (l.take k)).2 k := by
  induction k with
  | zero => exact rel_zero n
  | succ k ih =>
    rw [playF_step n l k (by omega)]
    have := (ih (by omega)).doF (by omega) l[k]
    exact this
/-- The blocks that are not played's own. -/
def SP (S : Nat → Prop) (p q7 q9 : Nat) (b : Nat) : Prop := S b ∧ b ≠ p ∧ b ≠ p + 1 ∧ b ≠ q7 ∧ b ≠ q9
structure PlI (w0 : World) (S : Nat → Prop) (q7 q9 : Nat) (s : Sn) (d : Rd) (w : World) : Prop where
  p4 : (Sn.zero 0).At w (fun _ => False) w0.heap.size
  p5 : Rd.zero.At w (fun _ => False) (w0.heap.size + 1)
  p7 : s.At w (SP S w0.heap.size q7 q9) q7
  p9 : d.At w (SP S w0.heap.size q7 q9) q9
  hB : Below w0.heap.size w0 w
  lt : w0.heap.size + 2 ≤ q7 ∧ q7 < q9
section
variable {w0 w w' : World} {S : Nat → Prop} {q7 q9 : Nat} {s : Sn} {d : Rd}
theorem PlI.below (h : PlI w0 S q7 q9 s d w) (hb : Below w.heap.size w w') : PlI w0 S q7 q9 s d w' where
  p4 := h.p4.below hb
  p5 := h.p5.below hb
  p7 := h.p7.below hb
  p9 := h.p9.below hb
  hB := h.hB.trans (hb.mono h.hB.size)
  lt := h.lt
theorem PlI.new (h : PlI w0 S q7 q9 s d w) (hS : ∀ b, w0.heap.size ≤ b → S b) : ∀ b, w.heap.size ≤ b → SP S w0.heap.size q7 q9 b := fun b hb => by
  have h1 := h.p4.lt
  have h2 := h.p5.lt
  have h3 := h.p7.lt
  have h4 := h.p9.lt
  exact ⟨hS b (by omega), by omega, by omega, by omega, by omega⟩
end
theorem PlI.more {w0 w : World} {S S' : Nat → Prop} {q7 q9 : Nat} {s : Sn} {d : Rd} (h : PlI w0 S q7 q9 s d w) (hS : ∀ b, b < w.heap.size → S b → S' b) : PlI w0 S' q7 q9 s d w where
  p4 := h.p4
  p5 := h.p5
  p7 := h.p7.more fun b hb g => ⟨hS b hb g.1, g.2⟩
  p9 := h.p9.more fun b hb g => ⟨hS b hb g.1, g.2⟩
  hB := h.hB
  lt := h.lt
theorem PlI.touch {w0 w w' : World} {S : Nat → Prop} {q7 q9 g : Nat} {s : Sn} {d : Rd} (h : PlI w0 S q7 q9 s d w) (t : Touch g w w') (hg : q9 < g) (hS : ¬ S g) : PlI w0 S q7 q9 s d w' where
  p4 := t.at h.p4 (by have := h.lt; omega) (fun h => h)
  p5 := t.rat h.p5 (by have := h.lt; omega) (fun h => h)
  p7 := t.at h.p7 (by have := h.lt; omega) (fun g => hS g.1)
  p9 := t.rat h.p9 (by omega) (fun g => hS g.1)
  hB := t.below h.hB (by have := h.lt; omega)
  lt := h.lt
theorem PlI.put {w0 w wa wb : World} {S : Nat → Prop} {q7 q9 : Nat} {s s' : Sn} {d d' : Rd} (h : PlI w0 S q7 q9 s d w) (t1 : Touch q7 w wa) (t2 : Touch q9 wa wb) (h7 : s'.At wa (SP S w0.heap.size q7 q9) q7) (h9 : d'.At wb (SP S w0.heap.size q7 q9) q9) : PlI w0 S q7 q9 s' d' wb where
  p4 := t2.at (t1.at h.p4 (by have := h.lt; omega) (fun h => h)) (by have := h.lt; omega) (fun h => h)
  p5 := t2.rat (t1.rat h.p5 (by have := h.lt; omega) (fun h => h)) (by have := h.lt; omega) (fun h => h)
  p7 := t2.at h7 (by have := h.lt; omega) (fun h => h.2.2.2.2 rfl)
  p9 := h9
  hB := t2.below (t1.below h.hB (by have := h.lt; omega)) (by have := h.lt; omega)
  lt := h.lt

set_option maxRecDepth 100000 in
set_option maxHeartbeats 12800000 in
theorem played_any {S : Nat → Prop} (n : Nat) (A : Option Addr) (m c : Nat) (l : List SA) (w : World) (hS : ∀ b, w.heap.size ≤ b → S b) (hn1 : 1 ≤ n) (hn6 : n ≤ 6) (hl : SAs w S A m l) (h60 : l.length ≤ 60) (h8 : ∀ a ∈ l, a.ws.length ≤ 8 ∧ a.raw.length ≤ 8) :
    Calls Try.prog 36 #[.int .i64 n, .slice A m c] w fun e w' => ∃ b1 b2 sa sv, e = .returned (.tuple #[(playF n l).1.val b1 b2, (playF n l).2.val sa sv, .bool true]) ∧ (playF n l).1.Maps w' S b1 b2 ∧ (playF n l).2.Mem w' S sa sv ∧ Below w.heap.size w w' := by
  have HS := Lib.hid hS
  have HN := Lib.hid (And.intro hn1 hn6)
  have HL := Lib.hid hl
  have HLN := Lib.hid hl.1
  have H60 := Lib.hid h60
  have H8 := Lib.hid h8
  have hm60 : (m : Int) ≤ 60 := by have := hl.1; omega
  clear hS hn1 hn6 hl h60 h8
  go_enter Try.func36, Try.ntmps36
  go_wp2_with (with_reducible refine at_alloc_ (t := 57) ?_; refine alloc_at (S := fun _ => False) rfl rfl ?_)
  intro w1 hp hb hz
  have P4a := Lib.hid hp
  have B1 := Lib.hid hb
  have Z1 := Lib.hid hz
  clear hp hb hz
  go_wp2_with (with_reducible refine at_alloc_ (t := 80) ?_; refine alloc_rd (S := fun _ => False) rfl rfl ?_)
  intro w2 hp hb hz
  rw [Z1.out] at hp hz
  rw [Z1.out]
  have P5b := Lib.hid hp
  have P4b := Lib.hid (P4a.out.below hb)
  have B2 := Lib.hid (B1.out.trans (hb.mono B1.out.size))
  have Z2 := Lib.hid hz
  clear hp hb hz P4a B1 Z1
  go_wp2_with fail
  refine (st_new_ok (n : Int) w2 (by have := HN.out; omega) (by have := HN.out; omega)).mono ?_
  rintro e w3 ⟨rfl, hb⟩
  have P5c := Lib.hid (P5b.out.below hb)
  have P4c := Lib.hid (P4b.out.below hb)
  have B3 := Lib.hid (B2.out.trans (hb.mono B2.out.size))
  have HM0 := Lib.hid (Sn.zero_maps (n : Int) w3 (fun b => S b ∧ b ≠ w.heap.size ∧ b ≠ w.heap.size + 1))
  have HQ7 := Lib.hid (show w.heap.size + 2 ≤ w3.heap.size by have := hb.size; have := Z2.out; omega)
  clear hb P5b P4b B2 Z2
  have HMn := Lib.hid (HM0.out.more (S' := fun b => (S b ∧ b ≠ w.heap.size ∧ b ≠ w.heap.size + 1) ∧ b ≠ w3.heap.size) fun b hb h => ⟨h, by omega⟩)
  clear HM0
  go_wp2_with (with_reducible refine at_alloc_ (t := 57) ?_; refine alloc_at (S := fun _ => False) rfl rfl ?_)
  intro w4 hp hb hz
  have RN := Lib.hid hp
  have HMm := Lib.hid (HMn.out.below hb)
  have HBB := Lib.hid hb
  clear hp hb hz HMn
  go_wp2_with (with_reducible refine at_store_ (t := 57) ?_; refine Hid.out ?_)
  refine Lib.hid ?_
  refine put_at rfl (.tmp 7) (.tmp 18) rfl rfl w3.heap.size rfl rfl RN.out HMm.out (fun h => h.2 rfl) ?_
  intro w5 hp ht
  have hbb := ht.below HBB.out (Nat.le_refl _)
  have P4d := Lib.hid (P4c.out.below hbb)
  have P5d := Lib.hid (P5c.out.below hbb)
  have B5 := Lib.hid (B3.out.trans (hbb.mono B3.out.size))
  clear P4c P5c B3
  have X7 := Lib.hid hp
  clear hp ht hbb RN HMm HBB
  generalize w3.heap.size = q7 at *
  have HZ7 := Lib.hid X7.out.lt
  go_wp2_with fail
  refine (rnew_any (S := fun b => (S b ∧ b ≠ w.heap.size ∧ b ≠ w.heap.size + 1) ∧ b ≠ q7) n HN.out.1 HN.out.2 w5 ?hSn).mono ?_
  case hSn => intro b hb; exact ⟨⟨HS.out b (by have := HZ7.out; have := HQ7.out; omega), by have := HZ7.out; have := HQ7.out; omega, by have := HZ7.out; have := HQ7.out; omega⟩, by have := HZ7.out; omega⟩
  rintro e w6 ⟨sa0, sv0, rfl, hmd, hb⟩
  have HD0 := Lib.hid hmd
  have P5e := Lib.hid (P5d.out.below hb)
  have P4e := Lib.hid (P4d.out.below hb)
  have B6 := Lib.hid (B5.out.trans (hb.mono B5.out.size))
  have X7e := Lib.hid (X7.out.below hb)
  have HQ9 := Lib.hid (show q7 < w6.heap.size by have := HZ7.out; have := hb.size; omega)
  clear hb hmd P5d P4d B5 X7 HZ7
  have X7e' := Lib.hid (X7e.out.more (S' := fun b => ((S b ∧ b ≠ w.heap.size ∧ b ≠ w.heap.size + 1) ∧ b ≠ q7) ∧ b ≠ w6.heap.size) fun b hb h => ⟨h, by omega⟩)
  clear X7e
  have HMn := Lib.hid (HD0.out.more (S' := fun b => (fun b => (S b ∧ b ≠ w.heap.size ∧ b ≠ w.heap.size + 1) ∧ b ≠ q7) b ∧ b ≠ w6.heap.size) fun b hb h => ⟨h, by omega⟩)
  clear HD0
  go_wp2_with (with_reducible refine at_alloc_ (t := 80) ?_; refine alloc_rd (S := fun _ => False) rfl rfl ?_)
  intro w7 hp hb hz
  have RN := Lib.hid hp
  have HMm := Lib.hid (HMn.out.below hb)
  have HBB := Lib.hid hb
  clear hp hb hz HMn
  go_wp2_with (with_reducible refine at_store_ (t := 80) ?_; refine Hid.out ?_)
  refine Lib.hid ?_
  refine put_rd rfl (.tmp 9) (.tmp 21) rfl rfl w6.heap.size rfl rfl RN.out HMm.out (fun h => h.2 rfl) ?_
  intro w8 hp ht
  have hbb := ht.below HBB.out (Nat.le_refl _)
  have P4f := Lib.hid (P4e.out.below hbb)
  have P5f := Lib.hid (P5e.out.below hbb)
  have B8 := Lib.hid (B6.out.trans (hbb.mono B6.out.size))
  have X7f := Lib.hid (X7e'.out.below hbb)
  clear P4e P5e B6 X7e'
  have X9 := Lib.hid hp
  clear hp ht hbb RN HMm HBB
  generalize w6.heap.size = q9 at *
  have HI := Lib.hid (show PlI w S q7 q9 (Sn.zero n) (Rd.new n) w8 from ⟨P4f.out, P5f.out, X7f.out.more fun b _ h => ⟨h.1.1.1, h.1.1.2.1, h.1.1.2.2, h.1.2, h.2⟩, X9.out.more fun b _ h => ⟨h.1.1.1, h.1.1.2.1, h.1.1.2.2, h.1.2, h.2⟩, B8.out, HQ7.out, HQ9.out⟩)
  clear P4f P5f X7f X9 B8
  go_wp2
  go_loopw [28] (fun i wr => ∃ k : Nat, k ≤ l.length ∧ i = .int .i64 k ∧ Hid (PlI w S q7 q9 (playF n (l.take k)).1 (playF n (l.take k)).2 wr)) (fun i _ => l.length - (intOf i).toNat)
  case atStart => exact ⟨0, by omega, rfl, HI⟩
  case round =>
    clear HI
    obtain ⟨k, hk, rfl, HI⟩ := hrel
    by_cases hlt : k < l.length
    · skip
      have hi : (k : Int) < (m : Int) := by have := HLN.out; omega
      obtain ⟨bw, ow, rfl, hbw, hc⟩ := HL.out.cell k hlt
      obtain ⟨c0, c1, c2, c3⟩ := hc wr HI.out.hB
      have HK := Lib.hid hlt
      have HREL := Lib.hid (play_rel n l (by have := H60.out; omega) k (by omega))
      have HST := Lib.hid (playF_step n l k hlt)
      have HK9 := Lib.hid (show (k : Int) ≤ 900 by have := H60.out; omega)
      have HY8 := Lib.hid (H8.out l[k] (List.getElem_mem hlt))
      have HY := Lib.hid (((HL.out.2.2 l[k] (List.getElem_mem hlt)).more (S' := SP S w.heap.size q7 q9) fun b hb h => ⟨h, by omega, by omega, by have := HQ7.out; omega, by have := HQ7.out; have := HQ9.out; omega⟩).below HI.out.hB)
      clear hc hk hbw
      generalize l[k] = y at *
      clear hlt
      generalize playF n (l.take k) = z at *
      obtain ⟨s, d⟩ := z
      dsimp only at HI HREL HST
      have hba : Below wr.heap.size wr (wr.alloc (.cells (saC y) 93)) := (Below.refl _ _).alloc (Nat.le_refl _) _
      have HIa := Lib.hid (HI.out.below hba)
      have HYa := Lib.hid (HY.out.below hba)
      have HE := Lib.hid (act_cells (heap_alloc_new wr (.cells (saC y) 93)))
      clear hba HI HY
      unfold saC at HIa HYa HE
      go_wp2_with (with_reducible refine at_load_ (t := 57) ?_; refine Hid.out ?_)
      refine Lib.hid ?_
      obtain ⟨e0, e1, e2, e3⟩ := HE.out
      clear HE c0 c1 c2 c3
      generalize wr.alloc (.cells #[.int .u8 y.kind, .slice y.AW y.mw y.cw, .int .i64 y.num, .slice y.AR y.mr y.cr] 93) = wa at *
      refine get_at rfl (.tmp 7) rfl q7 rfl HIa.out.p7 ?_
      intro b1 b2 hm1
      have HM1 := Lib.hid hm1
      clear hm1
      try simp only [Act.put, List.setIfInBounds_toArray, List.set_cons_zero, List.set_cons_succ]
      go_wp2_with (with_reducible refine at_load_ (t := 80) ?_; refine get_rat rfl _ rfl q9 rfl HIa.out.p9 ?_)
      intro sa sv hd1
      have HD1 := Lib.hid hd1
      clear hd1
      try simp only [Act.put, List.setIfInBounds_toArray, List.set_cons_zero, List.set_cons_succ]
      go_wp2_with fail
      refine (do_any (S := SP S w.heap.size q7 q9) n s d k y b1 b2 sa sv wa (HIa.out.new HS.out) HREL.out HK9.out HN.out.1 HN.out.2 HM1.out HD1.out HYa.out HY8.out.1 HY8.out.2).mono ?_
      rintro e wb ⟨c5, c6, sa', sv', rfl, hm2, hd2, hb⟩
      have HQ := Lib.hid (show q9 < wb.heap.size from (HIa.out.below hb).p9.lt)
      have HIb := Lib.hid ((HIa.out.below hb).more (S' := fun b => S b ∧ b ≠ wb.heap.size ∧ b ≠ wb.heap.size + 1) fun b hb h => ⟨h, by omega, by omega⟩)
      have HMo := Lib.hid (hm2.more (S' := fun b => SP S w.heap.size q7 q9 b ∧ b ≠ wb.heap.size ∧ b ≠ wb.heap.size + 1) fun b hb h => ⟨h, by omega, by omega⟩)
      have HDo := Lib.hid (hd2.more (S' := fun b => SP S w.heap.size q7 q9 b ∧ b ≠ wb.heap.size ∧ b ≠ wb.heap.size + 1) fun b hb h => ⟨h, by omega, by omega⟩)
      clear hm2 hd2 hb HIa HYa HM1 HD1 e0 e1 e2 e3 HREL HY8 HK9
      generalize doS n s d y = s2 at *
      generalize doD n s d y = d2 at *
      go_wp2_with (with_reducible refine at_alloc_ (t := 57) ?_; refine alloc_at (S := fun _ => False) rfl rfl ?_)
      intro wc hp hb hz
      have X12 := Lib.hid hp
      have HIc := Lib.hid (HIb.out.below hb)
      have HMp := Lib.hid (HMo.out.below hb)
      have HDp := Lib.hid (HDo.out.below hb)
      have HZ := Lib.hid hz
      clear hp hb hz HIb HMo HDo
      go_wp2_with (with_reducible refine at_alloc_ (t := 80) ?_; refine alloc_rd (S := fun _ => False) rfl rfl ?_)
      intro we hp hb hz
      rw [HZ.out] at hp
      rw [HZ.out]
      have X13 := Lib.hid hp
      have X12e := Lib.hid (X12.out.below hb)
      have HIe := Lib.hid (HIc.out.below hb)
      have HMq := Lib.hid (HMp.out.below hb)
      have HDq := Lib.hid (HDp.out.below hb)
      clear hp hb hz HIc HMp HDp X12 HZ
      generalize wb.heap.size = q at *
      go_wp2_with (with_reducible refine at_store_ (t := 57) ?_; refine Hid.out ?_)
      refine Lib.hid ?_
      refine put_at rfl (.tmp 12) (.tmp 37) rfl rfl q rfl rfl X12e.out HMq.out (fun h => h.2.1 rfl) ?_
      intro wf hp ht
      have Y12 := Lib.hid hp
      have Y13 := Lib.hid (ht.rat X13.out (by omega) (fun h => h))
      have HDr := Lib.hid (ht.mem HDq.out (fun h => h.2.1 rfl))
      have HIf := Lib.hid (HIe.out.touch ht HQ.out (fun h => h.2.1 rfl))
      clear hp ht X12e X13 HMq HDq HIe
      go_wp2_with (with_reducible refine at_store_ (t := 80) ?_; refine Hid.out ?_)
      refine Lib.hid ?_
      refine put_rd rfl (.tmp 13) (.tmp 38) rfl rfl (q + 1) rfl rfl Y13.out HDr.out (fun h => h.2.2 rfl) ?_
      intro wg hp ht
      have Z13 := Lib.hid hp
      have Z12 := Lib.hid (ht.at Y12.out (by omega) (fun h => h.2.2 rfl))
      have HIg := Lib.hid ((HIf.out.touch ht (by have := HQ.out; omega) (fun h => h.2.2 rfl)).more (S' := S) fun b _ h => h.1)
      clear hp ht Y12 Y13 HDr HIf
      go_wp2_with fail
      obtain ⟨k1, k2, r1, hm1⟩ := Z12.out
      obtain ⟨l1, l2, r2, hm2⟩ := Z13.out
      refine wp_region_held_drew (S := fun W => W.heap[q]? = some (.cells (stoCells s2.c s2.n (.map k1) (.map k2) s2.B s2.T) 57 (0, 0)) ∧ W.heap[q + 1]? = some (.cells (rCells l1 l2 d2.R) 80 (0, 0))) (by kernel_rfl) ⟨r1, r2⟩ (fun hHeld => ?_)
      have HHD := Lib.hid hHeld
      have hbd : Below wg.heap.size wg wg.drew := (Below.refl _ _).drew
      have HMa := Lib.hid (hm1.below hbd)
      have HDa := Lib.hid (hm2.below hbd)
      have HIh := Lib.hid (HIg.out.below hbd)
      clear hHeld hbd r1 r2 hm1 hm2 Z12 Z13 HIg
      generalize wg.drew = wh at *
      refine wpAnyH_take (i := 0) (oi := ⟨some 44, _, _, _, _, _⟩) (v := s2.val k1 k2) rfl (by kernel_rfl) (by kernel_rfl) (by kernel_rfl) (fun _ _ _ h => h) (yields_sto (by rfl) _ rfl q rfl 57 (0, 0) (fun _ h => h.1)) HHD.out ?_
      try simp only [Act.put, List.setIfInBounds_toArray, List.set_cons_zero, List.set_cons_succ]
      refine wpAnyH_take (i := 1) (oi := ⟨some 45, _, _, _, _, _⟩) (v := d2.val l1 l2) rfl (by kernel_rfl) (by kernel_rfl) (by kernel_rfl) (fun _ _ _ h => h) (yields_rd (by rfl) _ rfl (q + 1) rfl 80 (0, 0) (fun _ h => h.2)) HHD.out ?_
      try simp only [Act.put, List.setIfInBounds_toArray, List.set_cons_zero, List.set_cons_succ]
      refine wpAnyH_ready (rs := [2]) (by kernel_rfl) (by simp) ?_
      refine AllReadyH.cons (o := ⟨none, _, _, _, _, _⟩) rfl (fun K hK => ?_) (AllReadyH.nil)
      refine Eq.mpr (if_pos (by kernel_rfl)) ?_
      refine wp_put_st (.tmp 7) (.tmp 44) rfl q7 rfl rfl HIh.out.p7 HMa.out (fun h => h.1.2.2.2.1 rfl) ?_
      intro wi hp ht
      have P7 := Lib.hid hp
      have HHI := Lib.hid (And.intro ((ht.block (by have := HIh.out.lt; have := HQ.out; omega)).trans HHD.out.1) ((ht.block (by have := HIh.out.lt; have := HQ.out; omega)).trans HHD.out.2))
      have HDb := Lib.hid (ht.mem HDa.out (fun h => h.1.2.2.2.1 rfl))
      have HT1 := Lib.hid ht
      clear hp ht HHD HMa HDa
      refine hK.out _ _ HHI.out (fun hHeldq => ?_)
      clear hK hHeldq
      try simp only [Act.put]
      refine wpAnyH_ready (rs := [3]) (by kernel_rfl) (by simp) ?_
      refine AllReadyH.cons (o := ⟨none, _, _, _, _, _⟩) rfl (fun K hK => ?_) (AllReadyH.nil)
      refine Eq.mpr (if_pos (by kernel_rfl)) ?_
      refine wp_put_rr (.tmp 9) (.tmp 45) rfl q9 rfl rfl (HT1.out.rat HIh.out.p9 (by have := HIh.out.lt; omega) (fun h => h.2.2.2.1 rfl)) HDb.out (fun h => h.1.2.2.2.2 rfl) ?_
      intro wj hp ht
      have HIj := Lib.hid (HIh.out.put HT1.out ht (P7.out.more fun b _ h => h.1) (hp.more fun b _ h => h.1))
      have HHJ := Lib.hid (And.intro ((ht.block (by have := HQ.out; omega)).trans HHI.out.1) ((ht.block (by have := HQ.out; omega)).trans HHI.out.2))
      clear hp ht HT1 P7 HHI HDb HIh
      refine hK.out _ _ HHJ.out (fun hHeldq => ?_)
      clear hK hHeldq
      try simp only [Act.put]
      refine wpAnyH_done (by kernel_rfl) ?_ _
      clear HHJ
      go_wp2
      go_roundw
      case rel => exact ⟨k + 1, HK.out, by go_num, by rw [HST.out]; exact HIj⟩
      case measure => exact meas_up _ _ HK.out
    · skip
      obtain rfl : k = l.length := by omega
      have hi : (m : Int) ≤ (l.length : Int) := by have := HLN.out; omega
      rw [List.take_length] at HI
      clear hk hlt
      go_wp2_with fail
      obtain ⟨k1, k2, r1, hm1⟩ := HI.out.p7
      obtain ⟨l1, l2, r2, hm2⟩ := HI.out.p9
      refine wp_region_held_drew (S := fun W => W.heap[q7]? = some (.cells (stoCells (playF n l).1.c (playF n l).1.n (.map k1) (.map k2) (playF n l).1.B (playF n l).1.T) 57 (0, 0)) ∧ W.heap[q9]? = some (.cells (rCells l1 l2 (playF n l).2.R) 80 (0, 0))) (by kernel_rfl) ⟨r1, r2⟩ (fun hHeld => ?_)
      have HHD := Lib.hid hHeld
      have hbd : Below wr.heap.size wr wr.drew := (Below.refl _ _).drew
      have HMa := Lib.hid (hm1.below hbd)
      have HDa := Lib.hid (hm2.below hbd)
      have HIh := Lib.hid (HI.out.below hbd)
      clear hHeld hbd r1 r2 hm1 hm2 HI
      generalize wr.drew = wh at *
      refine wpAnyH_take (i := 0) (oi := ⟨some 47, _, _, _, _, _⟩) (v := (playF n l).1.val k1 k2) rfl (by kernel_rfl) (by kernel_rfl) (by kernel_rfl) (fun _ _ _ h => h) (yields_sto (by rfl) _ rfl q7 rfl 57 (0, 0) (fun _ h => h.1)) HHD.out ?_
      try simp only [Act.put, List.setIfInBounds_toArray, List.set_cons_zero, List.set_cons_succ]
      refine wpAnyH_take (i := 1) (oi := ⟨some 48, _, _, _, _, _⟩) (v := (playF n l).2.val l1 l2) rfl (by kernel_rfl) (by kernel_rfl) (by kernel_rfl) (fun _ _ _ h => h) (yields_rd (by rfl) _ rfl q9 rfl 80 (0, 0) (fun _ h => h.2)) HHD.out ?_
      try simp only [Act.put, List.setIfInBounds_toArray, List.set_cons_zero, List.set_cons_succ]
      refine wpAnyH_ready (rs := [2]) (by kernel_rfl) (by simp) ?_
      refine AllReadyH.cons (o := ⟨none, _, _, _, _, _⟩) rfl (fun K hK => ?_) (AllReadyH.nil)
      refine Eq.mpr (if_pos (by kernel_rfl)) ?_
      refine wp_put_st (.tmp 4) (.tmp 47) rfl w.heap.size rfl rfl HIh.out.p4 HMa.out (fun h => h.2.1 rfl) ?_
      intro wi hp ht
      have P4 := Lib.hid hp
      have HHI := Lib.hid (And.intro ((ht.block (by have := HIh.out.lt; omega)).trans HHD.out.1) ((ht.block (by have := HIh.out.lt; omega)).trans HHD.out.2))
      have HDb := Lib.hid (ht.mem HDa.out (fun h => h.2.1 rfl))
      have P5 := Lib.hid (ht.rat HIh.out.p5 (by omega) (fun h => h))
      have HBi := Lib.hid (ht.below HIh.out.hB (Nat.le_refl _))
      have HLT := Lib.hid HIh.out.lt
      clear hp ht HHD HMa HDa HIh
      refine hK.out _ _ HHI.out (fun hHeldq => ?_)
      clear hK hHeldq
      try simp only [Act.put]
      refine wpAnyH_ready (rs := [3]) (by kernel_rfl) (by simp) ?_
      refine AllReadyH.cons (o := ⟨none, _, _, _, _, _⟩) rfl (fun K hK => ?_) (AllReadyH.nil)
      refine Eq.mpr (if_pos (by kernel_rfl)) ?_
      refine wp_put_rr (.tmp 5) (.tmp 48) rfl (w.heap.size + 1) rfl rfl P5.out HDb.out (fun h => h.2.2.1 rfl) ?_
      intro wj hp ht
      have P5' := Lib.hid hp
      have P4' := Lib.hid (ht.at P4.out (by omega) (fun h => h.2.2.1 rfl))
      have HBF := Lib.hid (ht.below HBi.out (by omega))
      have HHJ := Lib.hid (And.intro ((ht.block (by have := HLT.out; omega)).trans HHI.out.1) ((ht.block (by have := HLT.out; omega)).trans HHI.out.2))
      clear hp ht P4 P5 HHI HDb HBi
      refine hK.out _ _ HHJ.out (fun hHeldq => ?_)
      clear hK hHeldq
      try simp only [Act.put]
      refine wpAnyH_take (i := 4) (oi := ⟨some 6, _, _, _, _, _⟩) (v := .bool true) rfl (by kernel_rfl) (by kernel_rfl) (by kernel_rfl) (fun _ _ _ h => h) (Or.inl ⟨by kernel_rfl, ?_⟩) HHJ.out ?_
      · intro W' hW
        go_simp
      try simp only [Act.put, List.setIfInBounds_toArray, List.set_cons_zero, List.set_cons_succ]
      refine wpAnyH_done (by kernel_rfl) ?_ _
      clear HHJ
      go_wp2_with fail
      obtain ⟨c5, c6, hblk, hmaps⟩ := P4'.out
      obtain ⟨sa5, sv5, hblk2, hmem⟩ := P5'.out
      have hl := load_sto _ _ _ _ _ hblk rfl
      have hl2 := load_rd _ _ _ _ _ hblk2 rfl
      refine bodyPost_ret (v := .tuple #[(playF n l).1.val c5 c6, (playF n l).2.val sa5 sv5, .bool true]) ?_ rfl ⟨c5, c6, sa5, sv5, rfl, hmaps.more fun b _ h => h.1, hmem.more fun b _ h => h.1, HBF.out⟩
      simp [results, Try.results36, asAddr, hl, hl2, Sn.val, sto, Rd.val, Result.andThen]
end Go.Proofs.Ytpejhgkcofilmaa
